/- message: ask at types that have no row, and at a key update; Read. -/
import Derived.Test.YtalbiepdkaldmaaGreatDoorProg
import Derived.Test.YtalbiepdkaldmaaGreatDoorMsg
import Derived.Deep.QuietTactic
import Derived.BigQuiet
import Derived.Deep.LoopGhost
import Derived.Laws.EntriesVeiled
set_option linter.unusedVariables false
set_option linter.unusedSimpArgs false
namespace Go.Proofs.YtalbiepdkaldmaaGreatDoor
open Go.RowKit
/-- What asking tells: where it is wrong, and why; or nothing. -/
def AskPost (R : Option (Nat × Nat)) (w : World) (e : Ending) (w' : World) : Prop := (match R with
  | some (a, c) => e = .returned (.tuple #[.int .i64 a, .int .i64 c]) ∧ 0 < c
  | none => ∃ a : Int, e = .returned (.tuple #[.int .i64 a, .int .i64 0])) ∧ Ext w w'
theorem zero_row (w : World) : (zeroValue 108).run Tryz.prog w = .ok (.agg #[.nilFunc]) w := by kernel_rfl
theorem rows_none (k : Nat) (h : (k : Int) ∉ ([1, 2, 4, 8, 11, 13, 24] : List Int)) (w : World) : Calls Tryz.prog 54 #[] w fun e w' => ∃ b, e = .returned (.map (some b)) ∧
    (Instr.lookup 110 (.map (some b)) (.int .i64 k) true).run Tryz.prog w' = .ok (.tuple #[.agg #[.nilFunc], .bool false]) w' ∧ Ext w w' := by
  refine (message_rows w).mono ?_
  rintro e w' ⟨b, rfl, ⟨g, hg, hn, _⟩, hx⟩
  have hL := int_lookup Tryz.underlying110 Tryz.underlying3 hg (k : Int) (zero_row w')
  rw [hn _ h] at hL
  exact ⟨b, rfl, hL, hx⟩
theorem rows_24 (w : World) : Calls Tryz.prog 54 #[] w fun e w' => ∃ b, e = .returned (.map (some b)) ∧
    (Instr.lookup 110 (.map (some b)) (.int .i64 24) true).run Tryz.prog w' = .ok (.tuple #[.agg #[.func (.func 98) #[] #[]], .bool true]) w' ∧ Ext w w' := by
  refine (message_rows w).mono ?_
  rintro e w' ⟨b, rfl, ⟨g, hg, hn, _, _, h24, _⟩, hx⟩
  have hL := int_lookup Tryz.underlying110 Tryz.underlying3 hg 24 (zero_row w')
  rw [h24] at hL
  exact ⟨b, rfl, hL, hx⟩
set_option maxHeartbeats 1000000 in
theorem ask_none (k : Nat) (h : (k : Int) ∉ ([1, 2, 4, 8, 11, 13, 24] : List Int)) (x : Nat) (A : Option Addr) (n c : Nat) (A' : Option Addr) (n' c' : Nat) (p : Nat) (B : Option Addr) (m cb : Nat) (w : World) :
    Calls Tryz.prog 32 #[.int .i64 k, .agg #[.int .u64 x, .slice A n c, .slice A' n' c'], .int .i64 p, .slice B m cb] w (AskPost none w) := by
  have HK := Lib.hid (fun w => rows_none k h w)
  clear h
  go_enter Tryz.func32, Tryz.ntmps32
  go_wp2_with (first | ((go_at_call 54; refine (HK.out _).mono ?_; rintro e w1 ⟨b, rfl, hL, hx1⟩; have hc1 := Ext.cells hx1; have hf1 := Ext.frozens hx1; have hz1 := Fr.size hx1; try simp [go_sem] at hz1; try (have hzl := Nat.lt_of_succ_le hz1; try (have hzm := Nat.lt_of_succ_lt hzl)))))
  refine bodyPost_ret (v := .tuple #[.int .i64 0, .int .i64 0]) (by simp only [results, Tryz.results32]; go_simp) rfl ?_
  exact ⟨⟨0, rfl⟩, Fr.trans (Fr.trans ((by repeat (first | with_reducible assumption | with_reducible exact Fr.refl _ _ | (with_reducible refine Fr.alloc ?_ _) | (with_reducible refine Fr.drew ?_) | (with_reducible refine Fr.drewN ?_ _) | (with_reducible refine Fr.setNew ?_ _ _ _ (by first | with_reducible exact Nat.le_refl _ | omega | (simp; omega)))))) hx1) ((by repeat (first | with_reducible assumption | with_reducible exact Fr.refl _ _ | (with_reducible refine Fr.alloc ?_ _) | (with_reducible refine Fr.drew ?_) | (with_reducible refine Fr.drewN ?_ _) | (with_reducible refine Fr.setNew ?_ _ _ _ (by first | with_reducible exact Nat.le_refl _ | omega | (simp; omega))))))⟩
set_option maxHeartbeats 1000000 in
theorem ask_24 (x : Nat) (A : Option Addr) (n c : Nat) (A' : Option Addr) (n' c' : Nat) (p : Nat) (B : Option Addr) (m cb : Nat) (w : World) :
    Calls Tryz.prog 32 #[.int .i64 24, .agg #[.int .u64 x, .slice A n c, .slice A' n' c'], .int .i64 p, .slice B m cb] w (AskPost (if 1 < x then some (p, 3) else none) w) := by
  by_cases hx : 1 < x
  · have hd : decide (1 < (x : Int)) = true := by simp; omega
    simp only [hx, if_true]
    go_enter Tryz.func32, Tryz.ntmps32
    go_wp2_with (first | ((go_at_call 54; refine (rows_24 _).mono ?_; rintro e w1 ⟨b, rfl, hL, hx1⟩; have hc1 := Ext.cells hx1; have hf1 := Ext.frozens hx1; have hz1 := Fr.size hx1; try simp [go_sem] at hz1; try (have hzl := Nat.lt_of_succ_le hz1; try (have hzm := Nat.lt_of_succ_lt hzl)))))
    have hqa : w.heap.size < w1.heap.size := by omega
    go_wp2
    refine bodyPost_ret (v := .tuple #[.int .i64 p, .int .i64 3]) (by simp only [results, Tryz.results32]; go_simp) rfl ?_
    exact ⟨⟨rfl, by omega⟩, Fr.trans (Fr.trans ((by repeat (first | with_reducible assumption | with_reducible exact Fr.refl _ _ | (with_reducible refine Fr.alloc ?_ _) | (with_reducible refine Fr.drew ?_) | (with_reducible refine Fr.drewN ?_ _) | (with_reducible refine Fr.setNew ?_ _ _ _ (by first | with_reducible exact Nat.le_refl _ | omega | (simp; omega)))))) hx1) ((by repeat (first | with_reducible assumption | with_reducible exact Fr.refl _ _ | (with_reducible refine Fr.alloc ?_ _) | (with_reducible refine Fr.drew ?_) | (with_reducible refine Fr.drewN ?_ _) | (with_reducible refine Fr.setNew ?_ _ _ _ (by first | with_reducible exact Nat.le_refl _ | omega | (simp; omega))))))⟩
  · have hd : decide (1 < (x : Int)) = false := by simp; omega
    simp only [hx, if_false]
    go_enter Tryz.func32, Tryz.ntmps32
    go_wp2_with (first | ((go_at_call 54; refine (rows_24 _).mono ?_; rintro e w1 ⟨b, rfl, hL, hx1⟩; have hc1 := Ext.cells hx1; have hf1 := Ext.frozens hx1; have hz1 := Fr.size hx1; try simp [go_sem] at hz1; try (have hzl := Nat.lt_of_succ_le hz1; try (have hzm := Nat.lt_of_succ_lt hzl)))))
    have hqa : w.heap.size < w1.heap.size := by omega
    go_wp2
    refine bodyPost_ret (v := .tuple #[.int .i64 0, .int .i64 0]) (by simp only [results, Tryz.results32]; go_simp) rfl ?_
    exact ⟨⟨0, rfl⟩, Fr.trans (Fr.trans ((by repeat (first | with_reducible assumption | with_reducible exact Fr.refl _ _ | (with_reducible refine Fr.alloc ?_ _) | (with_reducible refine Fr.drew ?_) | (with_reducible refine Fr.drewN ?_ _) | (with_reducible refine Fr.setNew ?_ _ _ _ (by first | with_reducible exact Nat.le_refl _ | omega | (simp; omega)))))) hx1) ((by repeat (first | with_reducible assumption | with_reducible exact Fr.refl _ _ | (with_reducible refine Fr.alloc ?_ _) | (with_reducible refine Fr.drew ?_) | (with_reducible refine Fr.drewN ?_ _) | (with_reducible refine Fr.setNew ?_ _ _ _ (by first | with_reducible exact Nat.le_refl _ | omega | (simp; omega))))))⟩
end Go.Proofs.YtalbiepdkaldmaaGreatDoor
