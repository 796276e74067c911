/- hand: messages that come in pieces: what its small functions do. -/
import Derived.Test.YtalbiepdkaldmaaGreatDoorProg
import Derived.Test.YtalbiepdkaldmaaGreatDoorCodes
import Derived.Test.YtalbiepdkaldmaaGreatDoorTally
import Derived.Test.YtalbiepdkaldmaaGreatDoorMix
import Derived.Deep.QuietTactic
import Derived.BigQuiet
import Derived.Deep.LoopGhost
import Derived.Laws.EntriesVeiled
set_option linter.unusedVariables false
set_option linter.unusedSimpArgs false
namespace Go.Proofs.YtalbiepdkaldmaaGreatDoor
open Go.RowKit
def Rd.seg : Rd (Nat × Nat) where
  sz := 2
  K := fun _ _ x cs => cs = [.int .i64 x.1, .int .i64 x.2]
  len := fun h => by rw [h]; rfl
  one := fun h u hu => by
    rw [h] at hu
    simp at hu
    rcases hu with rfl | rfl <;> rfl
  mono := fun _ h => h
  move := fun _ h => h
theorem app_seg : AppT Tryz.prog 141 230 2 16 := AppT.of (z := .agg #[.int .i64 0, .int .i64 0]) Tryz.underlying141 (by kernel_rfl) rfl (by decide) (by decide)
/-- What a hand holds. -/
structure Hd where
  most : Nat
  data : Bytes
  segs : List (Nat × Nat)
  need : Nat
  next : Nat
  at_ : Nat
  err : Nat
def handCells (σ : Hd) (vd vs : Value) : Array Value := #[.int .i64 σ.most, vd, vs, .int .i64 σ.need, .int .i64 σ.next, .int .i64 σ.at_, .int .i64 σ.err]
def NoB : Nat → Prop := fun _ => False
/-- A hand at block h; its rows lie in blocks of the colours 8 and 9. -/
def IsHand (w : World) (col : Nat → Nat) (h : Nat) (σ : Hd) : Prop := col h = 2 ∧ ∃ vd vs, w.heap[h]? = some (.cells (handCells σ vd vs) 145 (0, 0)) ∧
  OwnR Rd.u8 5 w 0 NoB vd σ.data.length σ.data ∧ (∀ k, vd.ownBlock = some k → col k = 8) ∧ OwnR Rd.seg 230 w 0 NoB vs σ.segs.length σ.segs ∧ (∀ k, vs.ownBlock = some k → col k = 9)
theorem IsHand.fr {F : Nat → Prop} {w w' : World} {col : Nat → Nat} {h : Nat} {σ : Hd} (H : IsHand w col h σ) (hf : Fr F w w') (hF : ∀ b, b < w.heap.size → F b → col b ≠ 2 ∧ col b ≠ 8 ∧ col b ≠ 9) : IsHand w' col h σ := by
  obtain ⟨hc, vd, vs, hb, hd, hd8, hs, hs9⟩ := H
  refine ⟨hc, vd, vs, hf.blk hb (fun e => (hF _ (blk_lt hb) e).1 hc), hd.fr hf (fun k hk e => (hF _ (hd.block k hk).2 e).2.1 (hd8 k hk)) (fun _ e => e.elim), hd8, hs.fr hf (fun k hk e => (hF _ (hs.block k hk).2 e).2.2 (hs9 k hk)) (fun _ e => e.elim), hs9⟩
set_option maxHeartbeats 1000000 in
theorem hand_New (n : Nat) (w : World) (h1 : 4 ≤ n) (h2 : n ≤ 16777219) : Calls Tryz.prog 38 #[.int .i64 n] w fun e w' => e = .returned (.tuple #[.pointer (some ⟨w.heap.size, 0, none⟩), .int .i64 0]) ∧ w'.heap[w.heap.size]? = some (.cells (handCells ⟨n, [], [], 0, 0, 0, 0⟩ (.slice none 0 0) (.slice none 0 0)) 145 (0, 0)) ∧ Ext w w' := by
  have d1 : decide ((n : Int) < 4) = false := by simp; omega
  have d2 : decide (16777219 < (n : Int)) = false := by simp; omega
  go_enter Tryz.func38, Tryz.ntmps38
  go_wp2
  refine bodyPost_ret (v := .tuple #[.pointer (some ⟨w.heap.size, 0, none⟩), .int .i64 0]) (by simp only [results, Tryz.results38]; go_simp) rfl ?_
  exact ⟨rfl, (blk_new _ _).trans rfl, (by repeat (first | with_reducible assumption | with_reducible exact Fr.refl _ _ | (with_reducible refine Fr.alloc ?_ _) | (with_reducible refine Fr.drew ?_) | (with_reducible refine Fr.drewN ?_ _) | (with_reducible refine Fr.setNew ?_ _ _ _ (by first | with_reducible exact Nat.le_refl _ | omega | (simp; omega)))))⟩
set_option maxHeartbeats 1000000 in
theorem hand_New_out (n : Int) (w : World) (h : n < 4 ∨ 16777219 < n) : Calls Tryz.prog 38 #[.int .i64 n] w fun e w' => e = .returned (.tuple #[.pointer none, .int .i64 3]) ∧ w' = w := by
  by_cases h1 : n < 4
  · have d1 : decide (n < 4) = true := by simpa using h1
    clear h
    go_enter Tryz.func38, Tryz.ntmps38
    go_wp2
    refine bodyPost_ret (v := .tuple #[.pointer none, .int .i64 3]) (by simp only [results, Tryz.results38]; go_simp) rfl ?_
    exact ⟨rfl, rfl⟩
  · have d1 : decide (n < 4) = false := by simp; omega
    have d2 : decide (16777219 < n) = true := by simp; omega
    clear h
    go_enter Tryz.func38, Tryz.ntmps38
    go_wp2
    refine bodyPost_ret (v := .tuple #[.pointer none, .int .i64 3]) (by simp only [results, Tryz.results38]; go_simp) rfl ?_
    exact ⟨rfl, rfl⟩
set_option maxHeartbeats 1000000 in
theorem hand_Held {col : Nat → Nat} {h : Nat} {σ : Hd} (w : World) (H : IsHand w col h σ) : Calls Tryz.prog 45 #[.pointer (some ⟨h, 0, none⟩)] w fun e w' => e = .returned (.int .i64 σ.data.length) ∧ w' = w := by
  obtain ⟨hc, vd, vs, hb, hd, hd8, hs, hs9⟩ := H
  obtain ⟨A, c, rfl, hsl⟩ := hd.sl
  have c1 : w.cell? ⟨h, 1, none⟩ = some (.slice A σ.data.length c) := (blk_cell hb 1).trans rfl
  clear hb hd hs hsl
  go_enter Tryz.func45, Tryz.ntmps45
  go_wp2
  refine bodyPost_ret (v := .int .i64 σ.data.length) (by simp only [results, Tryz.results45]; go_simp) rfl ?_
  exact ⟨rfl, rfl⟩
set_option maxHeartbeats 1000000 in
theorem hand_Partial {col : Nat → Nat} {h : Nat} {σ : Hd} (w : World) (H : IsHand w col h σ) : Calls Tryz.prog 42 #[.pointer (some ⟨h, 0, none⟩)] w fun e w' => e = .returned (.bool (decide (0 < σ.data.length))) ∧ w' = w := by
  have HH := Lib.hid (hand_Held w H)
  clear H
  go_enter Tryz.func42, Tryz.ntmps42
  go_wp2_with ((go_at_call 45; refine (HH.out).mono ?_; rintro e w' ⟨rfl, rfl⟩))
  have e : decide ((0 : Int) < (σ.data.length : Int)) = decide (0 < σ.data.length) := by simp
  refine bodyPost_ret (v := .bool (decide ((0 : Int) < (σ.data.length : Int)))) (by simp only [results, Tryz.results42]; go_simp) rfl ?_
  rw [e]
  exact ⟨rfl, rfl⟩
/-- How many bytes more the part that is begun has. -/
def Hd.want (σ : Hd) : Int := if σ.data.length < 4 then 4 - σ.data.length else σ.need - σ.data.length
set_option maxHeartbeats 1000000 in
theorem hand_want {col : Nat → Nat} {h : Nat} {σ : Hd} (w : World) (H : IsHand w col h σ) (hl : σ.data.length ≤ 16777219) (hn : ¬ σ.data.length < 4 → σ.need ≤ 16777219) : Calls Tryz.prog 148 #[.pointer (some ⟨h, 0, none⟩)] w fun e w' => e = .returned (.int .i64 σ.want) ∧ Ext w w' := by
  obtain ⟨hc, vd, vs, hb, hd, hd8, hs, hs9⟩ := H
  obtain ⟨A, c, rfl, hsl⟩ := hd.sl
  have c1 : w.cell? ⟨h, 1, none⟩ = some (.slice A σ.data.length c) := (blk_cell hb 1).trans rfl
  have c3 : w.cell? ⟨h, 3, none⟩ = some (.int .i64 σ.need) := (blk_cell hb 3).trans rfl
  have hlt : h < w.heap.size := blk_lt hb
  clear hb hd hs hsl
  unfold Hd.want
  by_cases h4 : σ.data.length < 4
  · rw [if_pos h4]
    have d1 : decide ((σ.data.length : Int) < 4) = true := by simp; omega
    have w1 : IntKind.i64.wrap (4 - (σ.data.length : Int)) = 4 - (σ.data.length : Int) := IntWalk.i64_in _ (by omega)
    go_enter Tryz.func148, Tryz.ntmps148
    go_wp2
    refine bodyPost_ret (v := .int .i64 (4 - (σ.data.length : Int))) (by simp only [results, Tryz.results148]; go_simp) rfl ?_
    exact ⟨rfl, (by repeat (first | with_reducible assumption | with_reducible exact Fr.refl _ _ | (with_reducible refine Fr.alloc ?_ _) | (with_reducible refine Fr.drew ?_) | (with_reducible refine Fr.drewN ?_ _) | (with_reducible refine Fr.setNew ?_ _ _ _ (by first | with_reducible exact Nat.le_refl _ | omega | (simp; omega)))))⟩
  · rw [if_neg h4]
    have d1 : decide ((σ.data.length : Int) < 4) = false := by simp; omega
    have hn := hn h4
    have w1 : IntKind.i64.wrap ((σ.need : Int) - (σ.data.length : Int)) = (σ.need : Int) - (σ.data.length : Int) := IntWalk.i64_in _ (by omega)
    go_enter Tryz.func148, Tryz.ntmps148
    go_wp2
    refine wp_region_quietX (by kernel_rfl) (by kernel_rfl) ?_
    (repeat (first | (apply wpQuiet_op (hg := rfl); (focus (intro w' hw'; have hcx := Ext.cells hw'; have hzx := Fr.size hw'; go_simp; first | done | rfl | exact ⟨rfl, rfl⟩)); (intro K hK; go_simp; refine hK _ ?_; clear hK K)) | (refine wpQuiet_opW ?_ ?_ ?_ ?_; rotate_left; (focus (first | rfl | (go_simp; done))); (focus (intro w' hw'; have hcx := Ext.cells hw'; have hzx := Fr.size hw'; go_simp; first | done | rfl | exact ⟨rfl, rfl⟩)); (intro K hK; go_simp; refine hK _ ?_; clear hK K)) | (refine wpQuiet_no ?_ (fun K hK => ?_); (focus (first | rfl | (go_simp; done))); go_simp; refine hK _ ?_; clear hK K)))
    (refine wpQuiet_nil ?_; intro w' hw'; have hcx := Ext.cells hw'; have hfx := Ext.frozens hw'; have hzx := Fr.size hw'; try simp [go_sem] at hzx; try (have hzl := Nat.lt_of_succ_le hzx; try (have hzm := Nat.lt_of_succ_lt hzl)))
    go_wp2
    refine bodyPost_ret (v := .int .i64 ((σ.need : Int) - (σ.data.length : Int))) (by simp only [results, Tryz.results148]; go_simp) rfl ?_
    exact ⟨rfl, Fr.trans ((by repeat (first | with_reducible assumption | with_reducible exact Fr.refl _ _ | (with_reducible refine Fr.alloc ?_ _) | (with_reducible refine Fr.drew ?_) | (with_reducible refine Fr.drewN ?_ _) | (with_reducible refine Fr.setNew ?_ _ _ _ (by first | with_reducible exact Nat.le_refl _ | omega | (simp; omega)))))) hw'⟩
/-- How many bytes a message has, by its head. -/
def needOf (b : Bytes) : Nat := 4 + (b.getD 1 0).toNat * 65536 + (b.getD 2 0).toNat * 256 + (b.getD 3 0).toNat
set_option maxHeartbeats 4000000 in
theorem hand_head {col : Nat → Nat} {h : Nat} {σ : Hd} (w : World) (H : IsHand w col h σ) (b0 b1 b2 b3 : UInt8) (hd4 : σ.data = [b0, b1, b2, b3]) :
    Calls Tryz.prog 149 #[.pointer (some ⟨h, 0, none⟩)] w fun e w' => e = .returned (.int .i64 (if (handshakes.lookup b0.toNat).isSome = true then (if σ.most < needOf [b0, b1, b2, b3] then 12 else 0) else 18)) ∧ IsHand w' col h { σ with need := needOf [b0, b1, b2, b3] } ∧ Fr (One h) w w' := by
  obtain ⟨hc, vd, vs, hb, hd, hd8, hs, hs9⟩ := H
  obtain ⟨A, c, rfl, hsl⟩ := hd.sl
  have c0 : w.cell? ⟨h, 0, none⟩ = some (.int .i64 σ.most) := (blk_cell hb 0).trans rfl
  have c1 : w.cell? ⟨h, 1, none⟩ = some (.slice A 4 c) := by rw [hd4] at hb; exact (blk_cell hb 1).trans rfl
  have c3 : w.cell? ⟨h, 3, none⟩ = some (.int .i64 σ.need) := (blk_cell hb 3).trans rfl
  have f3 := blk_unfrozen hb 3
  have hlt : h < w.heap.size := blk_lt hb
  rw [hd4] at hsl
  obtain ⟨g, o, rfl, _, e0⟩ := scalar_cell hsl (j := 0) rfl
  obtain ⟨g1, o1, hA1, _, e1⟩ := scalar_cell hsl (j := 1) rfl
  obtain ⟨g2, o2, hA2, _, e2⟩ := scalar_cell hsl (j := 2) rfl
  obtain ⟨g3, o3, hA3, _, e3⟩ := scalar_cell hsl (j := 3) rfl
  injection hA1 with hA1; injection hA1 with q1 q2; subst q1; subst q2
  injection hA2 with hA2; injection hA2 with q1 q2; subst q1; subst q2
  injection hA3 with hA3; injection hA3 with q1 q2; subst q1; subst q2
  rw [Nat.add_zero] at e0
  have hgs := hd.block g rfl
  have hg8 := hd8 g rfl
  have hgl : g < w.heap.size := hgs.2
  have hgh : ¬ g = h := fun e => by rw [e, hc] at hg8; omega
  have hmx := hsl.max
  have hle := hsl.le
  have HN := Lib.hid (codes_Name1 b0.toNat)
  have HU : Hid (∀ (nd : Nat) W, Ext (w.setCell ⟨h, 3, none⟩ (.int .i64 nd)) W → IsHand W col h { σ with need := nd } ∧ Fr (One h) w W) := Lib.hid fun nd W hW => by
    have hf : Fr (One h) w W := Fr.trans ((by repeat (first | with_reducible exact Fr.refl _ _ | (with_reducible refine Fr.set ?_ _ _ _ (One.self _)) | (with_reducible refine Fr.alloc ?_ _) | (with_reducible refine Fr.drew ?_)))) (Ext.any hW)
    have hb3 := Ext.blk hW ((blk_set hb 3 (.int .i64 nd)))
    have hk8 : ∀ k, col k = 8 → ¬ One h k := fun k hk e => by have e : k = h := e; rw [e, hc] at hk; omega
    have hk9 : ∀ k, col k = 9 → ¬ One h k := fun k hk e => by have e : k = h := e; rw [e, hc] at hk; omega
    exact ⟨⟨hc, _, vs, hb3.trans rfl, hd.fr hf (fun k hk => hk8 k (hd8 k hk)) (fun _ e => e.elim), hd8, hs.fr hf (fun k hk => hk9 k (hs9 k hk)) (fun _ e => e.elim), hs9⟩, hf⟩
  have t0 := b0.toNat_lt
  have t1 := b1.toNat_lt
  have t2 := b2.toNat_lt
  have t3 := b3.toNat_lt
  clear hb hd hs hsl hd4
  generalize (handshakes.lookup b0.toNat).isSome = q at HN ⊢
  have v0 : IntKind.i64.wrap (b0.toNat : Int) = (b0.toNat : Int) := IntWalk.i64_in _ (by omega)
  have v1 : IntKind.i64.wrap (b1.toNat : Int) = (b1.toNat : Int) := IntWalk.i64_in _ (by omega)
  have v2 : IntKind.i64.wrap (b2.toNat : Int) = (b2.toNat : Int) := IntWalk.i64_in _ (by omega)
  have v3 : IntKind.i64.wrap (b3.toNat : Int) = (b3.toNat : Int) := IntWalk.i64_in _ (by omega)
  have v4 : IntKind.i64.wrap ((b1.toNat : Int) * 65536) = (b1.toNat : Int) * 65536 := IntWalk.i64_in _ (by omega)
  have v5 : IntKind.i64.wrap ((b2.toNat : Int) * 256) = (b2.toNat : Int) * 256 := IntWalk.i64_in _ (by omega)
  have v6 : IntKind.i64.wrap (4 + (b1.toNat : Int) * 65536) = 4 + (b1.toNat : Int) * 65536 := IntWalk.i64_in _ (by omega)
  have v7 : IntKind.i64.wrap (4 + (b1.toNat : Int) * 65536 + (b2.toNat : Int) * 256) = 4 + (b1.toNat : Int) * 65536 + (b2.toNat : Int) * 256 := IntWalk.i64_in _ (by omega)
  have hnd : needOf [b0, b1, b2, b3] = 4 + b1.toNat * 65536 + b2.toNat * 256 + b3.toNat := rfl
  generalize needOf [b0, b1, b2, b3] = nd at hnd ⊢
  have v8 : IntKind.i64.wrap (4 + (b1.toNat : Int) * 65536 + (b2.toNat : Int) * 256 + (b3.toNat : Int)) = (nd : Int) := by rw [IntWalk.i64_in _ (by omega)]; omega
  clear hnd
  cases q with
  | false =>
    simp only [Bool.false_eq_true, if_false]
    go_enter Tryz.func149, Tryz.ntmps149
    go_wp2
    (refine wp_region_mixE _ 18 18 (by kernel_rfl) (by kernel_rfl) ?_; simp only [List.take_succ_cons, List.take_zero])
    (repeat (first | (apply wpStl_op; (focus (first | rfl | (go_simp; done))); (focus (intro w' hw'; have hcy := Ext.cells hw'; go_simp; first | done | rfl | exact ⟨rfl, rfl⟩)); (intro K hK; go_simp; refine hK _ ?_; clear hK K)) | (refine wpStl_no ?_ (fun K hK => ?_); (focus (first | rfl | (go_simp; done))); go_simp; refine hK _ ?_; clear hK K)))
    (show wpMid _ _ _ _ _ _ _; simp only [List.drop_succ_cons, List.drop_zero, List.take_succ_cons, List.take_zero, Nat.reduceSub])
    (show wpList _ _ _ _ _ _; try simp only [List.drop_succ_cons, List.drop_zero])
    go_wp2_with ((go_at_call 176; refine (HN.out _).mono ?_; rintro e w1 ⟨v, rfl, hx1⟩; have hc1 := Ext.cells hx1; have hf1 := Ext.frozens hx1; have hz1 := Fr.size hx1; try simp [go_sem] at hz1; try (have hzl := Nat.lt_of_succ_le hz1; try (have hzm := Nat.lt_of_succ_lt hzl))))
    refine bodyPost_ret (v := .int .i64 18) (by simp only [results, Tryz.results149]; go_simp) rfl ?_
    exact ⟨rfl, HU.out nd _ (Fr.trans (Fr.refl _ _).drew hx1)⟩
  | true =>
    simp only [if_true]
    by_cases hm : σ.most < nd
    · rw [if_pos hm]
      have dm : decide ((σ.most : Int) < (nd : Int)) = true := by simp; omega
      go_enter Tryz.func149, Tryz.ntmps149
      go_wp2
      (refine wp_region_mixE _ 18 18 (by kernel_rfl) (by kernel_rfl) ?_; simp only [List.take_succ_cons, List.take_zero])
      (repeat (first | (apply wpStl_op; (focus (first | rfl | (go_simp; done))); (focus (intro w' hw'; have hcy := Ext.cells hw'; go_simp; first | done | rfl | exact ⟨rfl, rfl⟩)); (intro K hK; go_simp; refine hK _ ?_; clear hK K)) | (refine wpStl_no ?_ (fun K hK => ?_); (focus (first | rfl | (go_simp; done))); go_simp; refine hK _ ?_; clear hK K)))
      (show wpMid _ _ _ _ _ _ _; simp only [List.drop_succ_cons, List.drop_zero, List.take_succ_cons, List.take_zero, Nat.reduceSub])
      (show wpList _ _ _ _ _ _; try simp only [List.drop_succ_cons, List.drop_zero])
      go_wp2_with ((go_at_call 176; refine (HN.out _).mono ?_; rintro e w1 ⟨v, rfl, hx1⟩; have hc1 := Ext.cells hx1; have hf1 := Ext.frozens hx1; have hz1 := Fr.size hx1; try simp [go_sem] at hz1; try (have hzl := Nat.lt_of_succ_le hz1; try (have hzm := Nat.lt_of_succ_lt hzl))); have hqa : h < w1.heap.size := (by omega))
      refine wp_region_quietX (by kernel_rfl) (by kernel_rfl) ?_
      (repeat (first | (apply wpQuiet_op (hg := rfl); (focus (intro w' hw'; have hcx := Ext.cells hw'; have hzx := Fr.size hw'; go_simp; first | done | rfl | exact ⟨rfl, rfl⟩)); (intro K hK; go_simp; refine hK _ ?_; clear hK K)) | (refine wpQuiet_opW ?_ ?_ ?_ ?_; rotate_left; (focus (first | rfl | (go_simp; done))); (focus (intro w' hw'; have hcx := Ext.cells hw'; have hzx := Fr.size hw'; go_simp; first | done | rfl | exact ⟨rfl, rfl⟩)); (intro K hK; go_simp; refine hK _ ?_; clear hK K)) | (refine wpQuiet_no ?_ (fun K hK => ?_); (focus (first | rfl | (go_simp; done))); go_simp; refine hK _ ?_; clear hK K)))
      (refine wpQuiet_nil ?_; intro w' hw'; have hcx := Ext.cells hw'; have hfx := Ext.frozens hw'; have hzx := Fr.size hw'; try simp [go_sem] at hzx; try (have hzl := Nat.lt_of_succ_le hzx; try (have hzm := Nat.lt_of_succ_lt hzl)))
      go_wp2
      refine bodyPost_ret (v := .int .i64 12) (by simp only [results, Tryz.results149]; go_simp) rfl ?_
      exact ⟨rfl, HU.out nd _ (Fr.trans (Fr.refl _ _).drew (Fr.trans hx1 hw'))⟩
    · rw [if_neg hm]
      have dm : decide ((σ.most : Int) < (nd : Int)) = false := by simp; omega
      go_enter Tryz.func149, Tryz.ntmps149
      go_wp2
      (refine wp_region_mixE _ 18 18 (by kernel_rfl) (by kernel_rfl) ?_; simp only [List.take_succ_cons, List.take_zero])
      (repeat (first | (apply wpStl_op; (focus (first | rfl | (go_simp; done))); (focus (intro w' hw'; have hcy := Ext.cells hw'; go_simp; first | done | rfl | exact ⟨rfl, rfl⟩)); (intro K hK; go_simp; refine hK _ ?_; clear hK K)) | (refine wpStl_no ?_ (fun K hK => ?_); (focus (first | rfl | (go_simp; done))); go_simp; refine hK _ ?_; clear hK K)))
      (show wpMid _ _ _ _ _ _ _; simp only [List.drop_succ_cons, List.drop_zero, List.take_succ_cons, List.take_zero, Nat.reduceSub])
      (show wpList _ _ _ _ _ _; try simp only [List.drop_succ_cons, List.drop_zero])
      go_wp2_with ((go_at_call 176; refine (HN.out _).mono ?_; rintro e w1 ⟨v, rfl, hx1⟩; have hc1 := Ext.cells hx1; have hf1 := Ext.frozens hx1; have hz1 := Fr.size hx1; try simp [go_sem] at hz1; try (have hzl := Nat.lt_of_succ_le hz1; try (have hzm := Nat.lt_of_succ_lt hzl))); have hqa : h < w1.heap.size := (by omega))
      refine wp_region_quietX (by kernel_rfl) (by kernel_rfl) ?_
      (repeat (first | (apply wpQuiet_op (hg := rfl); (focus (intro w' hw'; have hcx := Ext.cells hw'; have hzx := Fr.size hw'; go_simp; first | done | rfl | exact ⟨rfl, rfl⟩)); (intro K hK; go_simp; refine hK _ ?_; clear hK K)) | (refine wpQuiet_opW ?_ ?_ ?_ ?_; rotate_left; (focus (first | rfl | (go_simp; done))); (focus (intro w' hw'; have hcx := Ext.cells hw'; have hzx := Fr.size hw'; go_simp; first | done | rfl | exact ⟨rfl, rfl⟩)); (intro K hK; go_simp; refine hK _ ?_; clear hK K)) | (refine wpQuiet_no ?_ (fun K hK => ?_); (focus (first | rfl | (go_simp; done))); go_simp; refine hK _ ?_; clear hK K)))
      (refine wpQuiet_nil ?_; intro w' hw'; have hcx := Ext.cells hw'; have hfx := Ext.frozens hw'; have hzx := Fr.size hw'; try simp [go_sem] at hzx; try (have hzl := Nat.lt_of_succ_le hzx; try (have hzm := Nat.lt_of_succ_lt hzl)))
      go_wp2
      refine bodyPost_ret (v := .int .i64 0) (by simp only [results, Tryz.results149]; go_simp) rfl ?_
      exact ⟨rfl, HU.out nd _ (Fr.trans (Fr.refl _ _).drew (Fr.trans hx1 hw'))⟩
end Go.Proofs.YtalbiepdkaldmaaGreatDoor
