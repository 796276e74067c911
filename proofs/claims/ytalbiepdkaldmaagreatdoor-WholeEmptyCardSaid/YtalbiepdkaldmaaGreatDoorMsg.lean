/- message: what is asked of a type's value beyond its form (rows, ask); Read over any such asking. -/
import Derived.Test.YtalbiepdkaldmaaGreatDoorProg
import Derived.Test.YtalbiepdkaldmaaGreatDoorShapeO
import Derived.Test.YtalbiepdkaldmaaGreatDoorRead6
import Derived.Deep.QuietTactic
import Derived.BigQuiet
import Derived.Deep.LoopGhost
import Derived.Laws.EntriesVeiled
set_option linter.unusedVariables false
set_option linter.unusedSimpArgs false
namespace Go.Proofs.YtalbiepdkaldmaaGreatDoor
open Go.RowKit
section
variable {P : Program} {ops : Array Oper} {rest : List Oper} {o : Oper} {a : Act} {w : World} {Q : Exit → Act → World → Prop}
theorem wpList_insert_int {T kt et : TypeId} {k : Int} {m x : Operand} {b : Nat} {u : Value} {f : Int → Option Value} (hg : o.guard = none) (hop : o.op = .insert T m (.const (.int .i64 k)) x) (hd : o.dst = none)
    (hT : P.underlying T = some (.map kt et)) (hk : P.underlying kt = some (.int .i64)) (hm : a.eval m = .map (some b)) (hx : a.eval x = u) (hM : IntMap w b f)
    (h : ∀ w', IntMap w' b (fun k' => if k' = k then some u else f k') → Fr (One b) w w' → wpList P ops Q rest a w') : wpList P ops Q (o :: rest) a w := by
  obtain ⟨w', hr, hm', hf⟩ := int_update hT hk hM k u
  refine wpList_plain hg fun K hK => ?_
  have := hK a w' (h w' hm' hf)
  unfold Oper.wp execOp
  have hc : a.eval (.const (.int .i64 k)) = .int .i64 k := rfl
  simp only [hop, hm, hx, hc]
  simpa [hr, go_sem, Act.put, hd] using this
end
/-- The rows that types are asked by. -/
def RowsMap (w : World) (b : Nat) : Prop := ∃ f, IntMap w b f ∧ (∀ k : Int, k ∉ ([1, 2, 4, 8, 11, 13, 24] : List Int) → f k = none) ∧ f 2 = some (.agg #[.func (.func 95) #[] #[]]) ∧ f 11 = some (.agg #[.func (.func 97) #[] #[]]) ∧ f 24 = some (.agg #[.func (.func 98) #[] #[]]) ∧
  ∀ k : Int, k ∈ ([1, 4, 8, 13] : List Int) → ∃ x, f k = some (.agg #[.func (.func 93) #[] #[.pointer (some ⟨x, 0, none⟩)]]) ∧ w.cell? ⟨x, 0, none⟩ = some (.int .i64 k) ∧ x < w.heap.size
set_option maxHeartbeats 1000000 in
theorem rows_last (p : Int) (w : World) : Calls Tryz.prog 92 #[.int .i64 p] w fun e w' => ∃ x, e = .returned (.agg #[.func (.func 93) #[] #[.pointer (some ⟨x, 0, none⟩)]]) ∧ w.heap.size ≤ x ∧ w'.cell? ⟨x, 0, none⟩ = some (.int .i64 p) ∧ x < w'.heap.size ∧ Ext w w' := by
  go_enter Tryz.func92, Tryz.ntmps92
  go_wp2
  refine bodyPost_ret (v := .agg #[.func (.func 93) #[] #[.pointer (some ⟨w.heap.size, 0, none⟩)]]) (by simp only [results, Tryz.results92]; go_simp) rfl ?_
  refine ⟨_, rfl, Nat.le_refl _, by simp [go_sem], by simp [go_sem], (by repeat (first | with_reducible assumption | with_reducible exact Fr.refl _ _ | (with_reducible refine Fr.alloc ?_ _) | (with_reducible refine Fr.drew ?_) | (with_reducible refine Fr.drewN ?_ _) | (with_reducible refine Fr.setNew ?_ _ _ _ (by first | with_reducible exact Nat.le_refl _ | omega | (simp; omega)))))⟩
set_option maxRecDepth 8000 in
set_option maxHeartbeats 4000000 in
theorem message_rows (w : World) : Calls Tryz.prog 54 #[] w fun e w' => ∃ b, e = .returned (.map (some b)) ∧ RowsMap w' b ∧ Ext w w' := by
  have hmm : ∀ w, (Instr.makeMap 110 none).run Tryz.prog w = .ok (.map (some w.heap.size)) (w.alloc (.map #[] 0)) := fun w => by simp [Instr.makeMap, go_sem]
  go_enter Tryz.func54, Tryz.ntmps54
  go_wp2_with (first | ((go_at_call 92; refine (rows_last 1 _).mono ?_; rintro e wa1 ⟨x1, rfl, hxl1, hxc1, hxs1, hxa1⟩; have hca1 := Ext.cells hxa1; have hfa1 := Ext.frozens hxa1; have hza1 := Fr.size hxa1; try simp [go_sem] at hza1; try (have hzl := Nat.lt_of_succ_le hza1; try (have hzm := Nat.lt_of_succ_lt hzl)))) | (refine wpList_insert_int (k := 1) rfl rfl rfl Tryz.underlying110 Tryz.underlying3 rfl rfl ((IntMap.new w).ext hxa1) ?_; intro w1 hM1 hF1; have hc1 := Fr.cells hF1; have hz1 := Fr.size hF1; simp only [One] at hc1; try simp [go_sem] at hz1) | ((go_at_call 92; refine (rows_last 4 _).mono ?_; rintro e wa4 ⟨x4, rfl, hxl4, hxc4, hxs4, hxa4⟩; have hca4 := Ext.cells hxa4; have hfa4 := Ext.frozens hxa4; have hza4 := Fr.size hxa4; try simp [go_sem] at hza4; try (have hzl := Nat.lt_of_succ_le hza4; try (have hzm := Nat.lt_of_succ_lt hzl)))) | (refine wpList_insert_int (k := 4) rfl rfl rfl Tryz.underlying110 Tryz.underlying3 rfl rfl (hM1.ext hxa4) ?_; intro w4 hM4 hF4; have hc4 := Fr.cells hF4; have hz4 := Fr.size hF4; simp only [One] at hc4; try simp [go_sem] at hz4) | ((go_at_call 92; refine (rows_last 8 _).mono ?_; rintro e wa8 ⟨x8, rfl, hxl8, hxc8, hxs8, hxa8⟩; have hca8 := Ext.cells hxa8; have hfa8 := Ext.frozens hxa8; have hza8 := Fr.size hxa8; try simp [go_sem] at hza8; try (have hzl := Nat.lt_of_succ_le hza8; try (have hzm := Nat.lt_of_succ_lt hzl)))) | (refine wpList_insert_int (k := 8) rfl rfl rfl Tryz.underlying110 Tryz.underlying3 rfl rfl (hM4.ext hxa8) ?_; intro w8 hM8 hF8; have hc8 := Fr.cells hF8; have hz8 := Fr.size hF8; simp only [One] at hc8; try simp [go_sem] at hz8) | ((go_at_call 92; refine (rows_last 13 _).mono ?_; rintro e wa13 ⟨x13, rfl, hxl13, hxc13, hxs13, hxa13⟩; have hca13 := Ext.cells hxa13; have hfa13 := Ext.frozens hxa13; have hza13 := Fr.size hxa13; try simp [go_sem] at hza13; try (have hzl := Nat.lt_of_succ_le hza13; try (have hzm := Nat.lt_of_succ_lt hzl)))) | (refine wpList_insert_int (k := 13) rfl rfl rfl Tryz.underlying110 Tryz.underlying3 rfl rfl (hM8.ext hxa13) ?_; intro w13 hM13 hF13; have hc13 := Fr.cells hF13; have hz13 := Fr.size hF13; simp only [One] at hc13; try simp [go_sem] at hz13) | (refine wpList_insert_int (k := 2) rfl rfl rfl Tryz.underlying110 Tryz.underlying3 rfl rfl (hM13) ?_; intro w2 hM2 hF2; have hc2 := Fr.cells hF2; have hz2 := Fr.size hF2; simp only [One] at hc2; try simp [go_sem] at hz2) | (refine wpList_insert_int (k := 11) rfl rfl rfl Tryz.underlying110 Tryz.underlying3 rfl rfl (hM2) ?_; intro w11 hM11 hF11; have hc11 := Fr.cells hF11; have hz11 := Fr.size hF11; simp only [One] at hc11; try simp [go_sem] at hz11) | (refine wpList_insert_int (k := 24) rfl rfl rfl Tryz.underlying110 Tryz.underlying3 rfl rfl (hM11) ?_; intro w24 hM24 hF24; have hc24 := Fr.cells hF24; have hz24 := Fr.size hF24; simp only [One] at hc24; try simp [go_sem] at hz24))
  have G2 : Fr (One w.heap.size) w13 w24 := hF2.trans (hF11.trans hF24)
  have G13 : Fr (One w.heap.size) wa13 w24 := hF13.trans G2
  have G8 : Fr (One w.heap.size) wa8 w24 := hF8.trans (hxa13.any.trans G13)
  have G4 : Fr (One w.heap.size) wa4 w24 := hF4.trans (hxa8.any.trans G8)
  have G1 : Fr (One w.heap.size) wa1 w24 := hF1.trans (hxa4.any.trans G4)
  have G0 : Ext w w24 := Fr.trans' (Fr.trans ((Fr.refl _ _).alloc _) hxa1) G1 (fun b hb e => by have e : b = w.heap.size := e; omega)
  simp [go_sem] at hxl1
  have s1 := hF1.size
  have s4 := hF4.size
  have s8 := hF8.size
  have s13 := hF13.size
  have HM := Lib.hid hM24
  clear hM1 hM2 hM4 hM8 hM11 hM13 hM24
  refine bodyPost_ret (v := .map (some w.heap.size)) (by simp only [results, Tryz.results54]; go_simp) rfl ?_
  refine ⟨_, rfl, ⟨_, HM.out, ?_, by simp [Act.eval], by simp [Act.eval], by simp [Act.eval], ?_⟩, G0⟩
  · intro k hk
    simp only [List.mem_cons, List.not_mem_nil, or_false, not_or] at hk
    obtain ⟨k1, k2, k3, k4, k5, k6, k7⟩ := hk
    simp [k1, k2, k3, k4, k5, k6, k7]
  · intro k hk
    simp only [List.mem_cons, List.not_mem_nil, or_false] at hk
    rcases hk with rfl | rfl | rfl | rfl
    · exact ⟨x1, by simp [Act.eval], (Fr.cells G1 x1 0 hxs1 (fun e => by have e : x1 = w.heap.size := e; omega)).trans hxc1, Nat.lt_of_lt_of_le hxs1 G1.size⟩
    · exact ⟨x4, by simp [Act.eval], (Fr.cells G4 x4 0 hxs4 (fun e => by have e : x4 = w.heap.size := e; omega)).trans hxc4, Nat.lt_of_lt_of_le hxs4 G4.size⟩
    · exact ⟨x8, by simp [Act.eval], (Fr.cells G8 x8 0 hxs8 (fun e => by have e : x8 = w.heap.size := e; omega)).trans hxc8, Nat.lt_of_lt_of_le hxs8 G8.size⟩
    · exact ⟨x13, by simp [Act.eval], (Fr.cells G13 x13 0 hxs13 (fun e => by have e : x13 = w.heap.size := e; omega)).trans hxc13, Nat.lt_of_lt_of_le hxs13 G13.size⟩
end Go.Proofs.YtalbiepdkaldmaaGreatDoor
