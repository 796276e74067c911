/- codes: of, Name, at the handshakes' kind. -/
import Derived.Test.YtalbiepdkaldmaaGreatDoorProg
import Derived.Test.YtalbiepdkaldmaaGreatDoorMsg
import Derived.Test.YtalbiepdkaldmaaGreatDoorKeys
import Derived.Maps.Ext
import Derived.StringKeys
import Derived.Maps.StringElems
import Derived.Maps.RangeWalk
import Derived.Deep.QuietTactic
import Derived.BigQuiet
import Derived.Deep.LoopGhost
import Derived.LoopTactic
import Derived.Laws.EntriesVeiled
set_option linter.unusedVariables false
set_option linter.unusedSimpArgs false
namespace Go.Proofs.YtalbiepdkaldmaaGreatDoor
open Go.RowKit Go.Maps
section
variable {P : Program} {ops : Array Oper} {rest : List Oper} {o : Oper} {a : Act} {w : World} {Q : Exit → Act → World → Prop}
theorem wpList_insert_both {T kt et : TypeId} {k : Int} {m : Operand} {b n : Nat} {s : ByteArray} {f : Int → Option Value} {D : DataW Unit} (hg : o.guard = none) (hop : o.op = .insert T m (.const (.int .i64 k)) (.const (.string s))) (hd : o.dst = none)
    (hT : P.underlying T = some (.map kt et)) (hk : P.underlying kt = some (.int .i64)) (he : P.underlying et = some .string) (hm : a.eval m = .map (some b)) (hx : a.eval (.const (.string s)) = .string s) (hn : n < maxLen) (hs : s.size ≤ maxLen) (hkw : (Lit.int .i64 k).wf = true)
    (hM : IntMap w b f) (hO : w.ownsMap P kt (plainElem P et) b n D)
    (h : ∀ w', IntMap w' b (fun k' => if k' = k then some (.string s) else f k') → w'.ownsMap P kt (plainElem P et) b (n + 1) (D.put (.int .i64 k) (.lit (.string s.data.toList))) → Fr (One b) w w' → wpList P ops Q rest a w') : wpList P ops Q (o :: rest) a w := by
  obtain ⟨w', hr, hm', hf⟩ := int_update hT hk hM k (.string s)
  obtain ⟨w2, hr2, ho, _⟩ := hO.update (int_keyed hk) hT hn (keyOf_int_mk hk hkw) (plainElem_string he hs)
  rw [hr] at hr2
  injection hr2 with _ hw
  subst hw
  refine wpList_plain hg fun K hK => ?_
  have := hK a w' (h w' hm' ho hf)
  unfold Oper.wp execOp
  have hc : a.eval (.const (.int .i64 k)) = .int .i64 k := rfl
  simp only [hop, hm, hx, hc]
  simpa [hr, go_sem, Act.put, hd] using this
end
theorem int_new {w : World} {b : Nat} (h : b = w.heap.size) : IntMap (w.alloc (.map #[] 0)) b (fun _ => none) := by subst h; exact IntMap.new w
theorem own_new {H : Type} {P : Program} {kt : TypeId} {R : Value → Option (DataW H × List MemPlace)} {w : World} {b : Nat} (h : b = w.heap.size) : (w.alloc (.map #[] 0)).ownsMap P kt R b 0 (.map []) := by subst h; exact World.ownsMap_made w P kt R
theorem Fr.grow {w w' : World} {g : Nat} (h : Fr (One g) w w') : w.grownBy w' (some g) := ⟨h.os, h.tape, h.output, h.size, fun i hi hne => h.block i hi (fun e => hne (by have e : i = g := e; rw [e]))⟩
theorem Fr.of_grow {F : Nat → Prop} {w w' : World} {row : Option Nat} (h : w.grownBy w' row) (hF : ∀ k, row = some k → F k) : Fr F w w' := (Fr.refl F w).grown h (fun k hk => .inr (hF k hk))
theorem own_fr {H : Type} {P : Program} {kt : TypeId} {R : Value → Option (DataW H × List MemPlace)} {w w' : World} {b n : Nat} {D : DataW H} {F : Nat → Prop} (h : w.ownsMap P kt R b n D) (hf : Fr F w w') (hn : ¬ F b) : w'.ownsMap P kt R b n D := by
  obtain ⟨es, clock, hb, r⟩ := h
  exact ⟨es, clock, hf.blk hb hn, r⟩
theorem sorted_ext {H : Type} (b nn : Nat) (D0 : DataW H) (R : Value → Option (DataW H × List MemPlace)) (w : World) (hown : w.ownsMap Tryz.prog 3 R b nn D0) (hn : nn ≤ 1000000) :
    Calls Tryz.prog 216 #[.func (.func 228) #[] #[.pointer (some ⟨w.heap.size, 0, none⟩)]] (w.alloc (.cells #[.map (some b)] 268)) fun e w' => ∃ A n c, e = .returned (.slice A n c) ∧ Ext w w' := by
  have hs := hown.size_le
  have hm : (1000000 : Nat) ≤ maxLen := by decide
  refine (Tryz.sorted_call b nn D0 R w hown (by omega) (by omega)).mono ?_
  rintro e w' ⟨v, A, n, c, rfl, rfl, hb⟩
  exact ⟨A, n, c, rfl, Ext.of hb⟩
/-- The handshakes' names. -/
def handshakes : List (Nat × String) := [(1, "client_hello"), (2, "server_hello"), (4, "new_session_ticket"), (5, "end_of_early_data"), (8, "encrypted_extensions"), (11, "certificate"), (13, "certificate_request"), (15, "certificate_verify"), (20, "finished"), (24, "key_update")]
set_option maxRecDepth 8000 in
set_option maxHeartbeats 8000000 in
theorem codes_of1 (w : World) : Calls Tryz.prog 194 #[.int .i64 1] w fun e w' => ∃ b b2 A n c f, e = .returned (.agg #[.map (some b), .map (some b2), .slice A n c]) ∧ IntMap w' b f ∧ (∀ k : Nat, (f k).isSome = (handshakes.lookup k).isSome) ∧ Ext w w' := by
  have hmm : ∀ t w, (Instr.makeMap t none).run Tryz.prog w = .ok (.map (some w.heap.size)) (w.alloc (.map #[] 0)) := fun t w => by simp [Instr.makeMap, go_sem]
  go_enter Tryz.func194, Tryz.ntmps194
  go_wp2_with (first | (refine wpList_insert_both (k := 1) (n := 0) rfl rfl rfl Tryz.underlying268 Tryz.underlying3 Tryz.underlying9 rfl rfl (by decide) (by decide) (by decide) (int_new (by simp)) (own_new (by simp)) ?_; intro w1 hM1 hO1 hF1) | (refine wpList_insert_both (k := 2) (n := 1) rfl rfl rfl Tryz.underlying268 Tryz.underlying3 Tryz.underlying9 rfl rfl (by decide) (by decide) (by decide) (hM1) hO1 ?_; intro w2 hM2 hO2 hF2) | (refine wpList_insert_both (k := 4) (n := 2) rfl rfl rfl Tryz.underlying268 Tryz.underlying3 Tryz.underlying9 rfl rfl (by decide) (by decide) (by decide) (hM2) hO2 ?_; intro w4 hM4 hO4 hF4) | (refine wpList_insert_both (k := 5) (n := 3) rfl rfl rfl Tryz.underlying268 Tryz.underlying3 Tryz.underlying9 rfl rfl (by decide) (by decide) (by decide) (hM4) hO4 ?_; intro w5 hM5 hO5 hF5) | (refine wpList_insert_both (k := 8) (n := 4) rfl rfl rfl Tryz.underlying268 Tryz.underlying3 Tryz.underlying9 rfl rfl (by decide) (by decide) (by decide) (hM5) hO5 ?_; intro w8 hM8 hO8 hF8) | (refine wpList_insert_both (k := 11) (n := 5) rfl rfl rfl Tryz.underlying268 Tryz.underlying3 Tryz.underlying9 rfl rfl (by decide) (by decide) (by decide) (hM8) hO8 ?_; intro w11 hM11 hO11 hF11) | (refine wpList_insert_both (k := 13) (n := 6) rfl rfl rfl Tryz.underlying268 Tryz.underlying3 Tryz.underlying9 rfl rfl (by decide) (by decide) (by decide) (hM11) hO11 ?_; intro w13 hM13 hO13 hF13) | (refine wpList_insert_both (k := 15) (n := 7) rfl rfl rfl Tryz.underlying268 Tryz.underlying3 Tryz.underlying9 rfl rfl (by decide) (by decide) (by decide) (hM13) hO13 ?_; intro w15 hM15 hO15 hF15) | (refine wpList_insert_both (k := 20) (n := 8) rfl rfl rfl Tryz.underlying268 Tryz.underlying3 Tryz.underlying9 rfl rfl (by decide) (by decide) (by decide) (hM15) hO15 ?_; intro w20 hM20 hO20 hF20) | (refine wpList_insert_both (k := 24) (n := 9) rfl rfl rfl Tryz.underlying268 Tryz.underlying3 Tryz.underlying9 rfl rfl (by decide) (by decide) (by decide) (hM20) hO20 ?_; intro w24 hM24 hO24 hF24; have HG := Lib.hid (hF1.trans (hF2.trans (hF4.trans (hF5.trans (hF8.trans (hF11.trans (hF13.trans (hF15.trans (hF20.trans (hF24)))))))))); have HM := Lib.hid hM24; obtain ⟨D, HO⟩ : ∃ D : DataW Unit, Hid (w24.ownsMap Tryz.prog 3 (plainElem Tryz.prog 9) (w.heap.size + 1 + 1 + 1) 10 D) := ⟨_, Lib.hid hO24⟩; clear hM1 hO1 hM2 hO2 hM4 hO4 hM5 hO5 hM8 hO8 hM11 hO11 hM13 hO13 hM15 hO15 hM20 hO20 hM24 hO24; clear hF1 hF2 hF4 hF5 hF8 hF11 hF13 hF15 hF20 hF24; have hz24 : w.heap.size + 1 + 1 + 1 < w24.heap.size := (by have := HG.out.size; simp at this; omega); have y0 : w24.cell? ⟨w.heap.size + 1 + 1, 0, none⟩ = some (.map none) := (by rw [Fr.cells HG.out _ _ (by simp) (by simp [One])]; simp [go_sem]); have y1 : w24.cell? ⟨w.heap.size + 1 + 1, 1, none⟩ = some (.map (some (w.heap.size + 1))) := (by rw [Fr.cells HG.out _ _ (by simp) (by simp [One])]; simp [go_sem]); have y2 : w24.cell? ⟨w.heap.size + 1 + 1, 2, none⟩ = some (.slice none 0 0) := (by rw [Fr.cells HG.out _ _ (by simp) (by simp [One])]; simp [go_sem]); have yf : ∀ i, w24.frozen? ⟨w.heap.size + 1 + 1, i, none⟩ = false := (by intro i; rw [Fr.frozens HG.out _ _ (by simp) (by simp [One])]; simp [go_sem])) | (at_range; refine wpList_range_own _ rfl _ 268 rfl 3 9 (int_keyed Tryz.underlying3) Tryz.underlying268 _ (w.heap.size + 1 + 1 + 1) 10 D rfl (World.ownsMap.setCell HO.out (by simp) _) ?_; intro w0 hrg0 hg0 hs0))
  go_frame
  have HRG := Lib.hid hrg0
  have HX0 : Hid (Fr (fun _ => False) (w24.setCell ⟨w.heap.size + 1 + 1, 0, none⟩ (.map (some (w.heap.size + 1 + 1 + 1)))) w0) := Lib.hid (Fr.of_grow hg0 (fun k hk => by cases hk))
  have hs0' : w0.heap.size = w24.heap.size + 1 := by simpa using hs0
  have er : (w24.setCell ⟨w.heap.size + 1 + 1, 0, none⟩ (.map (some (w.heap.size + 1 + 1 + 1)))).heap.size = w24.heap.size := by simp
  have HC0 : Hid (w0.ownsMap Tryz.prog 9 (plainElem (H := Unit) Tryz.prog 3) (w.heap.size + 1) 0 (.map [])) := Lib.hid ((((((own_new (by simp)).alloc _).alloc _).kept (Fr.grow HG.out) (by simp)).setCell (by simp) _).kept hg0 (by simp))
  clear hrg0 hg0 hs0
  rw [er]
  rw [er] at HRG
  go_loopg [] (Maps.size D) (fun m wr => ∃ (left : Lit → Bool) (Dout : DataW Unit), wr.ranges Tryz.prog 3 (plainElem Tryz.prog 9) (w.heap.size + 1 + 1 + 1) w24.heap.size 10 D left m ∧ m ≤ Maps.size D ∧
      wr.ownsMap Tryz.prog 9 (plainElem Tryz.prog 3) (w.heap.size + 1) (Maps.size D - m) Dout ∧ Fr (fun b => b = w.heap.size + 1 ∨ b = w24.heap.size) w0 wr)
  case atStart => exact ⟨_, _, HRG.out, Nat.le_refl _, by rw [Nat.sub_self]; exact HC0.out, Fr.refl _ _⟩
  case round =>
    obtain ⟨left, Dout, hrg, hcs, hout, hfr⟩ := hrel
    have hzr : w24.heap.size < wr.heap.size := by have := hfr.size; omega
    have hcr := Fr.cells hfr
    have hfz := Fr.frozens hfr
    have hcx := Fr.cells HX0.out
    have hfx := Fr.frozens HX0.out
    have z : ∀ i, wr.cell? ⟨w.heap.size + 1 + 1, i, none⟩ = (w24.setCell ⟨w.heap.size + 1 + 1, 0, none⟩ (.map (some (w.heap.size + 1 + 1 + 1)))).cell? ⟨w.heap.size + 1 + 1, i, none⟩ := fun i => by
      rw [hcr _ _ (by omega) (by rintro (e | e) <;> omega), hcx _ _ (by simp; omega) (fun e => e)]
    have z0 : wr.cell? ⟨w.heap.size + 1 + 1, 0, none⟩ = some (.map (some (w.heap.size + 1 + 1 + 1))) := by rw [z]; simp [go_sem, y0]
    have z1 : wr.cell? ⟨w.heap.size + 1 + 1, 1, none⟩ = some (.map (some (w.heap.size + 1))) := by rw [z]; simp [go_sem, y1]
    have z2 : wr.cell? ⟨w.heap.size + 1 + 1, 2, none⟩ = some (.slice none 0 0) := by rw [z]; simp [go_sem, y2]
    have zf : ∀ i, wr.frozen? ⟨w.heap.size + 1 + 1, i, none⟩ = false := fun i => by
      rw [hfz _ _ (by omega) (by rintro (e | e) <;> omega), hfx _ _ (by simp; omega) (fun e => e)]
      have e : (w24.setCell ⟨w.heap.size + 1 + 1, 0, none⟩ (.map (some (w.heap.size + 1 + 1 + 1)))).frozen? ⟨w.heap.size + 1 + 1, i, none⟩ = w24.frozen? ⟨w.heap.size + 1 + 1, i, none⟩ := by simp [go_sem]
      rw [e, yf]
    have HFR := Lib.hid hfr
    have HRR := Lib.hid hrg
    have HOUT := Lib.hid hout
    clear z hcr hfz hcx hfx y0 y1 y2 yf hfr hrg hout
    go_wp2_with (first
      | (at_next; refine wpList_next_ranges_is _ rfl _ rfl 3 9 .i64 (int_keyed Tryz.underlying3) Tryz.underlying3 Tryz.underlying9 (w.heap.size + 1 + 1 + 1) w24.heap.size 10 _ _ _ rfl HRR.out ?_ ?_))
    · intro hc0 hl0
      have HX1 : Hid (Ext w w24) := Lib.hid (Fr.trans' (((by repeat (first | with_reducible assumption | with_reducible exact Fr.refl _ _ | (with_reducible refine Fr.alloc ?_ _) | (with_reducible refine Fr.drew ?_) | (with_reducible refine Fr.drewN ?_ _) | (with_reducible refine Fr.setNew ?_ _ _ _ (by first | with_reducible exact Nat.le_refl _ | omega | (simp; omega))))) : Ext w _)) HG.out (fun b hb e => by have e : b = w.heap.size + 1 + 1 + 1 := e; omega))
      have HX2 : Hid (Ext w wr) := Lib.hid (Fr.trans' (Fr.trans' (Fr.trans' HX1.out (((by repeat (first | with_reducible exact Fr.refl _ _ | (with_reducible refine Fr.set ?_ _ _ _ (One.self _)) | (with_reducible refine Fr.alloc ?_ _) | (with_reducible refine Fr.drew ?_))) : Fr (One (w.heap.size + 1 + 1)) w24 (w24.setCell ⟨w.heap.size + 1 + 1, 0, none⟩ (.map (some (w.heap.size + 1 + 1 + 1)))))) (fun b hb e => by have e : b = w.heap.size + 1 + 1 := e; omega)) HX0.out (fun b hb e => e)) HFR.out (fun b hb e => by rcases e with e | e <;> omega))
      have HON : Hid (wr.ownsMap Tryz.prog 3 (plainElem Tryz.prog 9) (w.heap.size + 1 + 1 + 1) 10 D) := Lib.hid (own_fr (own_fr (HO.out.setCell (by simp) _) HX0.out (fun e => e)) HFR.out (by rintro (e | e) <;> omega))
      have HMN := Lib.hid (HM.out.blk (w' := wr) (by
        rw [HFR.out.block _ (by omega) (by rintro (e | e) <;> omega), HX0.out.block _ (by simp; omega) (fun e => e)]
        exact Below.heap_setCell _ _ _ _ (by simp)))
      have q1 : w.heap.size < wr.heap.size := by omega
      have q2 : w.heap.size + 1 + 1 < wr.heap.size := by omega
      have t2 : ∀ i, i < 3 → (wr.cell? ⟨w.heap.size, i, none⟩).isSome = true := fun i hi => by
        rw [Fr.cells HFR.out _ _ (by omega) (by rintro (e | e) <;> omega), Fr.cells HX0.out _ _ (by simp; omega) (fun e => e)]
        have e : (w24.setCell ⟨w.heap.size + 1 + 1, 0, none⟩ (.map (some (w.heap.size + 1 + 1 + 1)))).cell? ⟨w.heap.size, i, none⟩ = w24.cell? ⟨w.heap.size, i, none⟩ := by simp [go_sem]
        rw [e, Fr.cells HG.out _ _ (by simp; omega) (by simp [One]; omega)]
        have : i = 0 ∨ i = 1 ∨ i = 2 := by omega
        rcases this with rfl | rfl | rfl <;> simp [go_sem]
      obtain ⟨m0, hm0⟩ := Option.isSome_iff_exists.1 (t2 0 (by omega))
      obtain ⟨m1, hm1⟩ := Option.isSome_iff_exists.1 (t2 1 (by omega))
      obtain ⟨m2, hm2⟩ := Option.isSome_iff_exists.1 (t2 2 (by omega))
      have tf : ∀ i, wr.frozen? ⟨w.heap.size, i, none⟩ = false := fun i => by
        rw [Fr.frozens HFR.out _ _ (by omega) (by rintro (e | e) <;> omega), Fr.frozens HX0.out _ _ (by simp; omega) (fun e => e)]
        have e : (w24.setCell ⟨w.heap.size + 1 + 1, 0, none⟩ (.map (some (w.heap.size + 1 + 1 + 1)))).frozen? ⟨w.heap.size, i, none⟩ = w24.frozen? ⟨w.heap.size, i, none⟩ := by simp [go_sem]
        rw [e, Fr.frozens HG.out _ _ (by simp; omega) (by simp [One]; omega)]
        simp [go_sem]
      clear t2
      go_wp2_with (first | ((go_at_call 217; refine (Tryz.keys_call _ _).mono ?_; rintro e w' ⟨rfl, rfl⟩)) | ((go_at_call 216; refine (sorted_ext (w.heap.size + 1 + 1 + 1) 10 D _ wr HON.out (by decide)).mono ?_; rintro e w5 ⟨A5, n5, c5, rfl, hx5⟩; have hc5 := Ext.cells hx5; have hf5 := Ext.frozens hx5; have hz5 := Fr.size hx5; try simp [go_sem] at hz5; try (have hzl := Nat.lt_of_succ_le hz5; try (have hzm := Nat.lt_of_succ_lt hzl))); have q3 : w.heap.size < w5.heap.size := (by omega); have q4 : w.heap.size + 1 + 1 < w5.heap.size := (by omega)))
      refine bodyPost_ret (v := .agg #[.map (some (w.heap.size + 1 + 1 + 1)), .map (some (w.heap.size + 1)), .slice A5 n5 c5]) (by simp only [results, Tryz.results194]; go_simp) rfl ?_
      have hx9 : Ext w w5 := Fr.trans HX2.out hx5
      refine ⟨_, _, _, _, _, _, rfl, (HMN.out.ext hx5).blk ?_, ?_, (by repeat (first | with_reducible assumption | with_reducible exact Fr.refl _ _ | (with_reducible refine Fr.alloc ?_ _) | (with_reducible refine Fr.drew ?_) | (with_reducible refine Fr.drewN ?_ _) | (with_reducible refine Fr.setNew ?_ _ _ _ (by first | with_reducible exact Nat.le_refl _ | omega | (simp; omega)))))⟩
      · repeat rw [Below.heap_setCell _ _ _ _ (by simp <;> omega)]
      · intro k
        by_cases h1 : k = 1 ∨ k = 2 ∨ k = 4 ∨ k = 5 ∨ k = 8 ∨ k = 11 ∨ k = 13 ∨ k = 15 ∨ k = 20 ∨ k = 24
        · rcases h1 with rfl | rfl | rfl | rfl | rfl | rfl | rfl | rfl | rfl | rfl <;> rfl
        · simp only [not_or] at h1
          obtain ⟨k1, k2, k3, k4, k5, k6, k7, k8, k9, k10⟩ := h1
          have e : handshakes.lookup k = none := by simp only [handshakes, List.lookup, beq_eq_false_iff_ne.2 k1, beq_eq_false_iff_ne.2 k2, beq_eq_false_iff_ne.2 k3, beq_eq_false_iff_ne.2 k4, beq_eq_false_iff_ne.2 k5, beq_eq_false_iff_ne.2 k6, beq_eq_false_iff_ne.2 k7, beq_eq_false_iff_ne.2 k8, beq_eq_false_iff_ne.2 k9, beq_eq_false_iff_ne.2 k10]
          rw [e]
          simp only [show ¬ (k : Int) = 24 from by omega, show ¬ (k : Int) = 20 from by omega, show ¬ (k : Int) = 15 from by omega, show ¬ (k : Int) = 13 from by omega, show ¬ (k : Int) = 11 from by omega, show ¬ (k : Int) = 8 from by omega, show ¬ (k : Int) = 5 from by omega, show ¬ (k : Int) = 4 from by omega, show ¬ (k : Int) = 2 from by omega, show ¬ (k : Int) = 1 from by omega, if_false]
          rfl
    · intro x c w1' cnt1 hwx hwc hlx hat hrg1 hlt hg1 hs1 hen
      have hout1 := HOUT.out.kept hg1 (by simp; omega)
      have zz0 := hg1.cell z0 (by simp; omega)
      have zz1 := hg1.cell z1 (by simp; omega)
      have hbig : size D ≤ 10 := HO.out.size_le
      have hmax : (11 : Nat) < maxLen := by decide
      go_wp2_with (first
        | (at_mapUpdate; (refine wpList_mapUpdate_own _ rfl _ _ _ 269 rfl 9 3 (string_keyed Tryz.underlying9) Tryz.underlying269 _ (w.heap.size + 1) _ _ rfl hout1 (by omega) _ _ _ rfl rfl (Go.WideMaps.keyOf_string_mk Tryz.underlying9 hwc) _ [] (plainElem_int Tryz.underlying3 hwx) ?_); intro w2' hout2 hg2; go_frame))
      have hrg2 := hrg1.kept hg2 (fun e => by have := Option.some.inj e; omega) (fun e => by have := Option.some.inj e; omega)
      go_roundg cnt1
      case measure => omega
      case rel =>
        refine ⟨_, _, hrg2, by omega, hout2.mono (by omega), ?_⟩
        exact (HFR.out.trans (Fr.of_grow hg1 (fun k hk => by have := Option.some.inj hk; exact .inr this.symm))).trans (Fr.of_grow hg2 (fun k hk => by have := Option.some.inj hk; exact .inl this.symm))
theorem zero_string (w : World) : (zeroValue 9).run Tryz.prog w = .ok (.string ⟨#[]⟩) w := by kernel_rfl
theorem of1_look (k : Nat) (w : World) : Calls Tryz.prog 194 #[.int .i64 1] w fun e w' => ∃ b b2 A n c v, e = .returned (.agg #[.map (some b), .map (some b2), .slice A n c]) ∧
    (Instr.lookup 268 (.map (some b)) (.int .i64 k) true).run Tryz.prog w' = .ok (.tuple #[v, .bool (handshakes.lookup k).isSome]) w' ∧ Ext w w' := by
  refine (codes_of1 w).mono ?_
  rintro e w' ⟨b, b2, A, n, c, f, rfl, hM, hf, hx⟩
  have := int_lookup Tryz.underlying268 Tryz.underlying3 hM (k : Int) (zero_string w')
  rw [hf] at this
  exact ⟨b, b2, A, n, c, _, rfl, this, hx⟩
set_option maxRecDepth 4000 in
set_option maxHeartbeats 2000000 in
theorem codes_Name1 (k : Nat) (w : World) : Calls Tryz.prog 176 #[.int .i64 1, .int .i64 k] w fun e w' => ∃ v, e = .returned (.tuple #[v, .bool (handshakes.lookup k).isSome]) ∧ Ext w w' := by
  generalize hb : (handshakes.lookup k).isSome = q
  have ho := of1_look k
  rw [hb] at ho
  have HO := Lib.hid ho
  clear hb ho
  go_enter Tryz.func176, Tryz.ntmps176
  go_wp2_with ((go_at_call 194; refine (HO.out _).mono ?_; rintro e w1 ⟨b, b2, A, n, c, v, rfl, hL, hx1⟩; have hc1 := Ext.cells hx1; have hf1 := Ext.frozens hx1; have hz1 := Fr.size hx1; try simp [go_sem] at hz1; try (have hzl := Nat.lt_of_succ_le hz1; try (have hzm := Nat.lt_of_succ_lt hzl))); have hfl : ∀ W, (Instr.field 271 (.agg #[.map (some b), .map (some b2), .slice A n c]) 0).run Tryz.prog W = .ok (.map (some b)) W := (fun W => by kernel_rfl))
  refine bodyPost_ret (v := .tuple #[v, .bool q]) (by simp only [results, Tryz.results176]; go_simp) rfl ?_
  exact ⟨v, rfl, hx1⟩
end Go.Proofs.YtalbiepdkaldmaaGreatDoor
