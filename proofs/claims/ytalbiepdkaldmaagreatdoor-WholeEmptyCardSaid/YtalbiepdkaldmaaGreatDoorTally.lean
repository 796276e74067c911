/- tally: a count that never meets its bound; record: heads. -/
import Derived.Test.YtalbiepdkaldmaaGreatDoorProg
import Derived.Test.YtalbiepdkaldmaaGreatDoorRead6
import Derived.Laws.LoneSync
import Derived.Deep.QuietTactic
import Derived.BigQuiet
import Derived.Deep.LoopGhost
import Derived.Laws.EntriesVeiled
set_option linter.unusedVariables false
set_option linter.unusedSimpArgs false
namespace Go.Proofs.YtalbiepdkaldmaaGreatDoor
open Go.RowKit
/-- A tally at block t that counted c. -/
def IsTally (w : World) (t c : Nat) : Prop := w.heap[t]? = some (.cells #[.int .i64 9223372036854775807, .int .i64 c] 152 (0, 0))
theorem IsTally.fr {F : Nat → Prop} {w w' : World} {t c : Nat} (h : IsTally w t c) (hf : Fr F w w') (hn : ¬ F t) : IsTally w' t c := hf.blk h hn
set_option maxHeartbeats 1000000 in
theorem tally_New (w : World) : Calls Tryz.prog 39 #[.int .i64 9223372036854775807] w fun e w' => e = .returned (.tuple #[.pointer (some ⟨w.heap.size, 0, none⟩), .int .i64 0]) ∧ IsTally w' w.heap.size 0 ∧ Ext w w' := by
  go_enter Tryz.func39, Tryz.ntmps39
  go_wp2
  refine bodyPost_ret (v := .tuple #[.pointer (some ⟨w.heap.size, 0, none⟩), .int .i64 0]) (by simp only [results, Tryz.results39]; go_simp) rfl ?_
  exact ⟨rfl, blk_new _ _, (by repeat (first | with_reducible assumption | with_reducible exact Fr.refl _ _ | (with_reducible refine Fr.alloc ?_ _) | (with_reducible refine Fr.drew ?_) | (with_reducible refine Fr.drewN ?_ _) | (with_reducible refine Fr.setNew ?_ _ _ _ (by first | with_reducible exact Nat.le_refl _ | omega | (simp; omega)))))⟩
set_option maxRecDepth 4000 in
set_option maxHeartbeats 1000000 in
theorem tally_Spend (t c n : Nat) (w : World) (h : IsTally w t c) (hb : c + n ≤ 4611686018427387904) : Calls Tryz.prog 41 #[.pointer (some ⟨t, 0, none⟩), .int .i64 n] w fun e w' => e = .returned (.int .i64 0) ∧ IsTally w' t (c + n) ∧ Fr (One t) w w' := by
  have c0 : w.cell? ⟨t, 0, none⟩ = some (.int .i64 9223372036854775807) := blk_cell h 0
  have c1 : w.cell? ⟨t, 1, none⟩ = some (.int .i64 c) := blk_cell h 1
  have f1 := blk_unfrozen h 1
  have hld := run_call_load (P := Tryz.prog) Tryz.func121 (by kernel_rfl) (by kernel_rfl) (by kernel_rfl) .i64 (by kernel_rfl) c1
  have hcas := run_call_cas_hit (P := Tryz.prog) Tryz.func122 (by kernel_rfl) (by kernel_rfl) (by kernel_rfl) .i64 (by kernel_rfl) (y := (c : Int) + n) c1 f1
  have HB := Lib.hid h
  have d1 : decide ((n : Int) < 0) = false := by simp
  have w1 : IntKind.i64.wrap (9223372036854775807 - (c : Int)) = 9223372036854775807 - (c : Int) := IntWalk.i64_in _ (by omega)
  have w2 : IntKind.i64.wrap ((c : Int) + n) = (c : Int) + n := IntWalk.i64_in _ (by omega)
  have d2 : decide (9223372036854775807 - (c : Int) < (n : Int)) = false := by simp; omega
  clear h
  go_enter Tryz.func41, Tryz.ntmps41
  go_wp2
  go_loopg [] 0 (fun m wr => wr = w)
  case atStart => rfl
  case round =>
    subst hrel
    go_wp2
    refine bodyPost_ret (v := .int .i64 0) (by simp only [results, Tryz.results41]; go_simp) rfl ?_
    exact ⟨rfl, (blk_set HB.out 1 _).trans rfl, (by repeat (first | with_reducible exact Fr.refl _ _ | (with_reducible refine Fr.set ?_ _ _ _ (One.self _)) | (with_reducible refine Fr.alloc ?_ _) | (with_reducible refine Fr.drew ?_)))⟩
set_option maxHeartbeats 1000000 in
theorem tally_Count (t c : Nat) (w : World) (h : IsTally w t c) : Calls Tryz.prog 43 #[.pointer (some ⟨t, 0, none⟩)] w fun e w' => e = .returned (.int .i64 c) ∧ w' = w := by
  have c1 : w.cell? ⟨t, 1, none⟩ = some (.int .i64 c) := blk_cell h 1
  have hld := run_call_load (P := Tryz.prog) Tryz.func121 (by kernel_rfl) (by kernel_rfl) (by kernel_rfl) .i64 (by kernel_rfl) c1
  clear h
  go_enter Tryz.func43, Tryz.ntmps43
  go_wp2
  refine bodyPost_ret (v := .int .i64 c) (by simp only [results, Tryz.results43]; go_simp) rfl ?_
  exact ⟨rfl, rfl⟩

/-! ### record -/
/-- How many bytes records may have, by types. -/
def limits (k : Nat) : Option (Nat × Nat) := if k = 20 then some (1, 1) else if k = 21 then some (2, 2) else if k = 22 then some (1, 16384) else if k = 23 then some (0, 16640) else none
/-- The table of the limits, as it is laid. -/
def LaidLim (w : World) : Prop := 11 ≤ w.heap.size ∧ LaidAt w 1 (i64s [1, 1, 2, 2, 1, 16384, 0, 16640])
theorem LaidLim.fr {F : Nat → Prop} {w w' : World} (h : LaidLim w) (hf : Fr F w w') (hF : ∀ b, b < 11 → ¬ F b) : LaidLim w' := by
  obtain ⟨hs, h⟩ := h
  refine ⟨Nat.le_trans hs hf.size, fun i x hx => ?_⟩
  rw [Fr.cells hf _ _ (by omega) (hF _ (by decide))]
  exact h i x hx
theorem LaidLim.ext {w w' : World} (h : LaidLim w) (hf : Ext w w') : LaidLim w' := h.fr hf (fun _ _ f => f)
def LimPost (k : Nat) (w : World) (e : Ending) (w' : World) : Prop := (match limits k with
  | some (lo, hi) => e = .returned (.tuple #[.int .i64 lo, .int .i64 hi, .bool true])
  | none => e = .returned (.tuple #[.int .i64 0, .int .i64 0, .bool false])) ∧ Ext w w'
set_option maxHeartbeats 2000000 in
theorem record_Limits (k : Nat) (w : World) (h : LaidLim w) : Calls Tryz.prog 114 #[.int .i64 k] w (LimPost k w) := by
  unfold LimPost
  obtain ⟨hs, hl⟩ := h
  have hg : 1 < w.heap.size := by omega
  have l0 := hl 0 _ rfl
  have l1 := hl 1 _ rfl
  have l2 := hl 2 _ rfl
  have l3 := hl 3 _ rfl
  have l4 := hl 4 _ rfl
  have l5 := hl 5 _ rfl
  have l6 := hl 6 _ rfl
  have l7 := hl 7 _ rfl
  clear hl hs
  rcases Nat.lt_or_ge k 20 with h1 | h1
  · have e : limits k = none := by unfold limits; repeat rw [if_neg (by omega)]
    rw [e]
    have d1 : decide ((k : Int) < 20) = true := by simp; omega
    go_enter Tryz.func114, Tryz.ntmps114
    go_wp2
    refine bodyPost_ret (v := .tuple #[.int .i64 0, .int .i64 0, .bool false]) (by simp only [results, Tryz.results114]; go_simp) rfl ?_
    exact ⟨rfl, (by repeat (first | with_reducible assumption | with_reducible exact Fr.refl _ _ | (with_reducible refine Fr.alloc ?_ _) | (with_reducible refine Fr.drew ?_) | (with_reducible refine Fr.drewN ?_ _) | (with_reducible refine Fr.setNew ?_ _ _ _ (by first | with_reducible exact Nat.le_refl _ | omega | (simp; omega)))))⟩
  · rcases Nat.lt_or_ge 23 k with h2 | h2
    · have e : limits k = none := by unfold limits; repeat rw [if_neg (by omega)]
      rw [e]
      have d1 : decide ((k : Int) < 20) = false := by simp; omega
      have d2 : decide (23 < (k : Int)) = true := by simp; omega
      go_enter Tryz.func114, Tryz.ntmps114
      go_wp2
      refine bodyPost_ret (v := .tuple #[.int .i64 0, .int .i64 0, .bool false]) (by simp only [results, Tryz.results114]; go_simp) rfl ?_
      exact ⟨rfl, (by repeat (first | with_reducible assumption | with_reducible exact Fr.refl _ _ | (with_reducible refine Fr.alloc ?_ _) | (with_reducible refine Fr.drew ?_) | (with_reducible refine Fr.drewN ?_ _) | (with_reducible refine Fr.setNew ?_ _ _ _ (by first | with_reducible exact Nat.le_refl _ | omega | (simp; omega)))))⟩
    · have : k = 20 ∨ k = 21 ∨ k = 22 ∨ k = 23 := by omega
      rcases this with rfl | rfl | rfl | rfl
      · have e : limits 20 = some (1, 1) := rfl
        rw [e]
        go_enter Tryz.func114, Tryz.ntmps114
        go_wp2
        refine wp_region_quietX (by kernel_rfl) (by kernel_rfl) ?_
        (repeat (first | (apply wpQuiet_op (hg := rfl); (focus (intro w' hw'; have hcx := Ext.cells hw'; have hzx := Fr.size hw'; go_simp; first | done | rfl | exact ⟨rfl, rfl⟩)); (intro K hK; go_simp; refine hK _ ?_; clear hK K)) | (refine wpQuiet_opW ?_ ?_ ?_ ?_; rotate_left; (focus (first | rfl | (go_simp; done))); (focus (intro w' hw'; have hcx := Ext.cells hw'; have hzx := Fr.size hw'; go_simp; first | done | rfl | exact ⟨rfl, rfl⟩)); (intro K hK; go_simp; refine hK _ ?_; clear hK K)) | (refine wpQuiet_no ?_ (fun K hK => ?_); (focus (first | rfl | (go_simp; done))); go_simp; refine hK _ ?_; clear hK K)))
        (refine wpQuiet_nil ?_; intro w' hw'; have hcx := Ext.cells hw'; have hfx := Ext.frozens hw'; have hzx := Fr.size hw'; try simp [go_sem] at hzx; try (have hzl := Nat.lt_of_succ_le hzx; try (have hzm := Nat.lt_of_succ_lt hzl)))
        go_wp2
        refine bodyPost_ret (v := .tuple #[.int .i64 1, .int .i64 1, .bool true]) (by simp only [results, Tryz.results114]; go_simp) rfl ?_
        exact ⟨rfl, Fr.trans ((by repeat (first | with_reducible assumption | with_reducible exact Fr.refl _ _ | (with_reducible refine Fr.alloc ?_ _) | (with_reducible refine Fr.drew ?_) | (with_reducible refine Fr.drewN ?_ _) | (with_reducible refine Fr.setNew ?_ _ _ _ (by first | with_reducible exact Nat.le_refl _ | omega | (simp; omega)))))) hw'⟩
      · have e : limits 21 = some (2, 2) := rfl
        rw [e]
        go_enter Tryz.func114, Tryz.ntmps114
        go_wp2
        refine wp_region_quietX (by kernel_rfl) (by kernel_rfl) ?_
        (repeat (first | (apply wpQuiet_op (hg := rfl); (focus (intro w' hw'; have hcx := Ext.cells hw'; have hzx := Fr.size hw'; go_simp; first | done | rfl | exact ⟨rfl, rfl⟩)); (intro K hK; go_simp; refine hK _ ?_; clear hK K)) | (refine wpQuiet_opW ?_ ?_ ?_ ?_; rotate_left; (focus (first | rfl | (go_simp; done))); (focus (intro w' hw'; have hcx := Ext.cells hw'; have hzx := Fr.size hw'; go_simp; first | done | rfl | exact ⟨rfl, rfl⟩)); (intro K hK; go_simp; refine hK _ ?_; clear hK K)) | (refine wpQuiet_no ?_ (fun K hK => ?_); (focus (first | rfl | (go_simp; done))); go_simp; refine hK _ ?_; clear hK K)))
        (refine wpQuiet_nil ?_; intro w' hw'; have hcx := Ext.cells hw'; have hfx := Ext.frozens hw'; have hzx := Fr.size hw'; try simp [go_sem] at hzx; try (have hzl := Nat.lt_of_succ_le hzx; try (have hzm := Nat.lt_of_succ_lt hzl)))
        go_wp2
        refine bodyPost_ret (v := .tuple #[.int .i64 2, .int .i64 2, .bool true]) (by simp only [results, Tryz.results114]; go_simp) rfl ?_
        exact ⟨rfl, Fr.trans ((by repeat (first | with_reducible assumption | with_reducible exact Fr.refl _ _ | (with_reducible refine Fr.alloc ?_ _) | (with_reducible refine Fr.drew ?_) | (with_reducible refine Fr.drewN ?_ _) | (with_reducible refine Fr.setNew ?_ _ _ _ (by first | with_reducible exact Nat.le_refl _ | omega | (simp; omega)))))) hw'⟩
      · have e : limits 22 = some (1, 16384) := rfl
        rw [e]
        go_enter Tryz.func114, Tryz.ntmps114
        go_wp2
        refine wp_region_quietX (by kernel_rfl) (by kernel_rfl) ?_
        (repeat (first | (apply wpQuiet_op (hg := rfl); (focus (intro w' hw'; have hcx := Ext.cells hw'; have hzx := Fr.size hw'; go_simp; first | done | rfl | exact ⟨rfl, rfl⟩)); (intro K hK; go_simp; refine hK _ ?_; clear hK K)) | (refine wpQuiet_opW ?_ ?_ ?_ ?_; rotate_left; (focus (first | rfl | (go_simp; done))); (focus (intro w' hw'; have hcx := Ext.cells hw'; have hzx := Fr.size hw'; go_simp; first | done | rfl | exact ⟨rfl, rfl⟩)); (intro K hK; go_simp; refine hK _ ?_; clear hK K)) | (refine wpQuiet_no ?_ (fun K hK => ?_); (focus (first | rfl | (go_simp; done))); go_simp; refine hK _ ?_; clear hK K)))
        (refine wpQuiet_nil ?_; intro w' hw'; have hcx := Ext.cells hw'; have hfx := Ext.frozens hw'; have hzx := Fr.size hw'; try simp [go_sem] at hzx; try (have hzl := Nat.lt_of_succ_le hzx; try (have hzm := Nat.lt_of_succ_lt hzl)))
        go_wp2
        refine bodyPost_ret (v := .tuple #[.int .i64 1, .int .i64 16384, .bool true]) (by simp only [results, Tryz.results114]; go_simp) rfl ?_
        exact ⟨rfl, Fr.trans ((by repeat (first | with_reducible assumption | with_reducible exact Fr.refl _ _ | (with_reducible refine Fr.alloc ?_ _) | (with_reducible refine Fr.drew ?_) | (with_reducible refine Fr.drewN ?_ _) | (with_reducible refine Fr.setNew ?_ _ _ _ (by first | with_reducible exact Nat.le_refl _ | omega | (simp; omega)))))) hw'⟩
      · have e : limits 23 = some (0, 16640) := rfl
        rw [e]
        go_enter Tryz.func114, Tryz.ntmps114
        go_wp2
        refine wp_region_quietX (by kernel_rfl) (by kernel_rfl) ?_
        (repeat (first | (apply wpQuiet_op (hg := rfl); (focus (intro w' hw'; have hcx := Ext.cells hw'; have hzx := Fr.size hw'; go_simp; first | done | rfl | exact ⟨rfl, rfl⟩)); (intro K hK; go_simp; refine hK _ ?_; clear hK K)) | (refine wpQuiet_opW ?_ ?_ ?_ ?_; rotate_left; (focus (first | rfl | (go_simp; done))); (focus (intro w' hw'; have hcx := Ext.cells hw'; have hzx := Fr.size hw'; go_simp; first | done | rfl | exact ⟨rfl, rfl⟩)); (intro K hK; go_simp; refine hK _ ?_; clear hK K)) | (refine wpQuiet_no ?_ (fun K hK => ?_); (focus (first | rfl | (go_simp; done))); go_simp; refine hK _ ?_; clear hK K)))
        (refine wpQuiet_nil ?_; intro w' hw'; have hcx := Ext.cells hw'; have hfx := Ext.frozens hw'; have hzx := Fr.size hw'; try simp [go_sem] at hzx; try (have hzl := Nat.lt_of_succ_le hzx; try (have hzm := Nat.lt_of_succ_lt hzl)))
        go_wp2
        refine bodyPost_ret (v := .tuple #[.int .i64 0, .int .i64 16640, .bool true]) (by simp only [results, Tryz.results114]; go_simp) rfl ?_
        exact ⟨rfl, Fr.trans ((by repeat (first | with_reducible assumption | with_reducible exact Fr.refl _ _ | (with_reducible refine Fr.alloc ?_ _) | (with_reducible refine Fr.drew ?_) | (with_reducible refine Fr.drewN ?_ _) | (with_reducible refine Fr.setNew ?_ _ _ _ (by first | with_reducible exact Nat.le_refl _ | omega | (simp; omega)))))) hw'⟩
/-- What is wrong with a record's length. -/
def checkLen (lo hi n : Nat) : Nat := if hi < n then 11 else if lo ≤ n then 0 else if n = 0 then 9 else 5
set_option maxHeartbeats 2000000 in
theorem record_check (k v n lo hi : Nat) (w : World) (h : LaidLim w) (hk : limits k = some (lo, hi)) : Calls Tryz.prog 115 #[.agg #[.int .i64 k, .int .i64 v, .int .i64 n]] w fun e w' => e = .returned (.int .i64 (checkLen lo hi n)) ∧ Ext w w' := by
  have HL : Hid (∀ W, Ext w W → Calls Tryz.prog 114 #[.int .i64 k] W fun e w' => e = .returned (.tuple #[.int .i64 lo, .int .i64 hi, .bool true]) ∧ Ext W w') := Lib.hid fun W hW => by
    have := record_Limits k W (h.ext hW)
    unfold LimPost at this
    rw [hk] at this
    exact this
  clear h hk
  unfold checkLen
  by_cases h1 : hi < n
  · rw [if_pos h1]
    have d1 : decide ((hi : Int) < (n : Int)) = true := by simp; omega
    go_enter Tryz.func115, Tryz.ntmps115
    go_wp2_with ((go_at_call 114; refine (HL.out _ ((by repeat (first | with_reducible assumption | with_reducible exact Fr.refl _ _ | (with_reducible refine Fr.alloc ?_ _) | (with_reducible refine Fr.drew ?_) | (with_reducible refine Fr.drewN ?_ _) | (with_reducible refine Fr.setNew ?_ _ _ _ (by first | with_reducible exact Nat.le_refl _ | omega | (simp; omega))))))).mono ?_; rintro e w1 ⟨rfl, hx1⟩; have hc1 := Ext.cells hx1; have hf1 := Ext.frozens hx1; have hz1 := Fr.size hx1; try simp [go_sem] at hz1; try (have hzl := Nat.lt_of_succ_le hz1; try (have hzm := Nat.lt_of_succ_lt hzl))))
    refine bodyPost_ret (v := .int .i64 11) (by simp only [results, Tryz.results115]; go_simp) rfl ?_
    exact ⟨rfl, Fr.trans ((by repeat (first | with_reducible assumption | with_reducible exact Fr.refl _ _ | (with_reducible refine Fr.alloc ?_ _) | (with_reducible refine Fr.drew ?_) | (with_reducible refine Fr.drewN ?_ _) | (with_reducible refine Fr.setNew ?_ _ _ _ (by first | with_reducible exact Nat.le_refl _ | omega | (simp; omega)))))) hx1⟩
  · rw [if_neg h1]
    have d1 : decide ((hi : Int) < (n : Int)) = false := by simp; omega
    by_cases h2 : lo ≤ n
    · rw [if_pos h2]
      have d2 : decide ((lo : Int) ≤ (n : Int)) = true := by simp; omega
      go_enter Tryz.func115, Tryz.ntmps115
      go_wp2_with ((go_at_call 114; refine (HL.out _ ((by repeat (first | with_reducible assumption | with_reducible exact Fr.refl _ _ | (with_reducible refine Fr.alloc ?_ _) | (with_reducible refine Fr.drew ?_) | (with_reducible refine Fr.drewN ?_ _) | (with_reducible refine Fr.setNew ?_ _ _ _ (by first | with_reducible exact Nat.le_refl _ | omega | (simp; omega))))))).mono ?_; rintro e w1 ⟨rfl, hx1⟩; have hc1 := Ext.cells hx1; have hf1 := Ext.frozens hx1; have hz1 := Fr.size hx1; try simp [go_sem] at hz1; try (have hzl := Nat.lt_of_succ_le hz1; try (have hzm := Nat.lt_of_succ_lt hzl))))
      refine bodyPost_ret (v := .int .i64 0) (by simp only [results, Tryz.results115]; go_simp) rfl ?_
      exact ⟨rfl, Fr.trans ((by repeat (first | with_reducible assumption | with_reducible exact Fr.refl _ _ | (with_reducible refine Fr.alloc ?_ _) | (with_reducible refine Fr.drew ?_) | (with_reducible refine Fr.drewN ?_ _) | (with_reducible refine Fr.setNew ?_ _ _ _ (by first | with_reducible exact Nat.le_refl _ | omega | (simp; omega)))))) hx1⟩
    · rw [if_neg h2]
      have d2 : decide ((lo : Int) ≤ (n : Int)) = false := by simp; omega
      by_cases h3 : n = 0
      · rw [if_pos h3]
        subst h3
        go_enter Tryz.func115, Tryz.ntmps115
        go_wp2_with ((go_at_call 114; refine (HL.out _ ((by repeat (first | with_reducible assumption | with_reducible exact Fr.refl _ _ | (with_reducible refine Fr.alloc ?_ _) | (with_reducible refine Fr.drew ?_) | (with_reducible refine Fr.drewN ?_ _) | (with_reducible refine Fr.setNew ?_ _ _ _ (by first | with_reducible exact Nat.le_refl _ | omega | (simp; omega))))))).mono ?_; rintro e w1 ⟨rfl, hx1⟩; have hc1 := Ext.cells hx1; have hf1 := Ext.frozens hx1; have hz1 := Fr.size hx1; try simp [go_sem] at hz1; try (have hzl := Nat.lt_of_succ_le hz1; try (have hzm := Nat.lt_of_succ_lt hzl))))
        refine bodyPost_ret (v := .int .i64 9) (by simp only [results, Tryz.results115]; go_simp) rfl ?_
        exact ⟨rfl, Fr.trans ((by repeat (first | with_reducible assumption | with_reducible exact Fr.refl _ _ | (with_reducible refine Fr.alloc ?_ _) | (with_reducible refine Fr.drew ?_) | (with_reducible refine Fr.drewN ?_ _) | (with_reducible refine Fr.setNew ?_ _ _ _ (by first | with_reducible exact Nat.le_refl _ | omega | (simp; omega)))))) hx1⟩
      · rw [if_neg h3]
        have d3 : ((n : Int) == 0) = false := by simp; omega
        go_enter Tryz.func115, Tryz.ntmps115
        go_wp2_with ((go_at_call 114; refine (HL.out _ ((by repeat (first | with_reducible assumption | with_reducible exact Fr.refl _ _ | (with_reducible refine Fr.alloc ?_ _) | (with_reducible refine Fr.drew ?_) | (with_reducible refine Fr.drewN ?_ _) | (with_reducible refine Fr.setNew ?_ _ _ _ (by first | with_reducible exact Nat.le_refl _ | omega | (simp; omega))))))).mono ?_; rintro e w1 ⟨rfl, hx1⟩; have hc1 := Ext.cells hx1; have hf1 := Ext.frozens hx1; have hz1 := Fr.size hx1; try simp [go_sem] at hz1; try (have hzl := Nat.lt_of_succ_le hz1; try (have hzm := Nat.lt_of_succ_lt hzl))))
        refine bodyPost_ret (v := .int .i64 5) (by simp only [results, Tryz.results115]; go_simp) rfl ?_
        exact ⟨rfl, Fr.trans ((by repeat (first | with_reducible assumption | with_reducible exact Fr.refl _ _ | (with_reducible refine Fr.alloc ?_ _) | (with_reducible refine Fr.drew ?_) | (with_reducible refine Fr.drewN ?_ _) | (with_reducible refine Fr.setNew ?_ _ _ _ (by first | with_reducible exact Nat.le_refl _ | omega | (simp; omega)))))) hx1⟩
/-- The record that five bytes tell, or where they are wrong, and why. -/
def headOf (k v n : Nat) : Except (Nat × Nat) (Nat × Nat × Nat) := match limits k with
  | none => .error (0, 18)
  | some (lo, hi) => if checkLen lo hi n = 0 then .ok (k, v, n) else .error (3, checkLen lo hi n)
def HeadPost (R : Except (Nat × Nat) (Nat × Nat × Nat)) (w : World) (e : Ending) (w' : World) : Prop := (match R with
  | .error (a, c) => e = .returned (.tuple #[.agg #[.int .i64 0, .int .i64 0, .int .i64 0], .int .i64 a, .int .i64 c])
  | .ok (k, v, n) => e = .returned (.tuple #[.agg #[.int .i64 k, .int .i64 v, .int .i64 n], .int .i64 5, .int .i64 0])) ∧ Ext w w'
theorem num_take2 (l : Bytes) : num (l.take 2) < 65536 := num_take_lt l 2 2 (Nat.le_refl _)
structure RHead (l : Bytes) (k v n : Nat) (l1 l3 l5 : Bytes) (ok : Nat → Prop) : Prop where
  hk : num (l.take 1) = k
  hv : num ((l.drop 1).take 2) = v
  hn : num ((l.drop 3).take 2) = n
  kl : k < 256
  vl : v < 65536
  nl : n < 65536
  N1 : ∀ g w, IsCur w ok g l 0 → Calls Tryz.prog 26 #[.pointer (some ⟨g, 0, none⟩), .int .i64 1] w fun e w' => e = .returned (.tuple #[.int .u64 k, .int .i64 0]) ∧ IsCur w' ok g l1 1 ∧ Fr (One g) w w'
  N2 : ∀ g w, IsCur w ok g l1 1 → Calls Tryz.prog 26 #[.pointer (some ⟨g, 0, none⟩), .int .i64 2] w fun e w' => e = .returned (.tuple #[.int .u64 v, .int .i64 0]) ∧ IsCur w' ok g l3 3 ∧ Fr (One g) w w'
  N3 : ∀ g w, IsCur w ok g l3 3 → Calls Tryz.prog 26 #[.pointer (some ⟨g, 0, none⟩), .int .i64 2] w fun e w' => e = .returned (.tuple #[.int .u64 n, .int .i64 0]) ∧ IsCur w' ok g l5 5 ∧ Fr (One g) w w'
theorem rhead_of (l : Bytes) (ok : Nat → Prop) (hl : l.length = 5) : ∃ k v n l1 l3 l5, RHead l k v n l1 l3 l5 ok := by
  have e3 : (l.drop 1).drop 2 = l.drop 3 := by rw [List.drop_drop]
  have e5 : (l.drop 3).drop 2 = l.drop 5 := by rw [List.drop_drop]
  refine ⟨_, _, _, l.drop 1, l.drop 3, l.drop 5, rfl, rfl, rfl, num_take_lt l 1 1 (Nat.le_refl _), num_take2 _, num_take2 _, fun g w h => ?_, fun g w h => ?_, fun g w h => ?_⟩
  · exact cursor_Number g l 0 ok 1 w h (by omega) (by omega) (by omega)
  · have := cursor_Number g (l.drop 1) 1 ok 2 w h (by rw [List.length_drop]; omega) (by omega) (by omega)
    unfold NumPost at this
    rw [e3] at this
    exact this
  · have := cursor_Number g (l.drop 3) 3 ok 2 w h (by rw [List.length_drop]; omega) (by omega) (by omega)
    unfold NumPost at this
    rw [e5] at this
    exact this
end Go.Proofs.YtalbiepdkaldmaaGreatDoor
