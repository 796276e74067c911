/- record.Body of a record of a kind that is, and of its length. -/
import Derived.Test.YtalbiepdkaldmaaGreatDoorProg
import Derived.Test.YtalbiepdkaldmaaGreatDoorRec
import Derived.Deep.QuietTactic
import Derived.BigQuiet
set_option linter.unusedVariables false
set_option linter.unusedSimpArgs false
namespace Go.Proofs.YtalbiepdkaldmaaGreatDoor
open Go.RowKit
def bodyErr (k : Nat) (b : Bytes) : Nat := if k = 20 ∧ b ≠ [1] then 3 else 0
set_option maxHeartbeats 4000000 in
theorem record_Body {k v lo hi : Nat} {b : Bytes} {A : Option Addr} {c : Nat} {ok : Nat → Prop} (w : World) (hb : SlC Rd.u8 w ok A b.length c b) (hla : LaidLim w) (hk : limits k = some (lo, hi)) :
    Calls Tryz.prog 119 #[.agg #[.int .i64 k, .int .i64 v, .int .i64 b.length], .slice A b.length c] w fun e w' => e = .returned (.tuple #[.int .i64 0, .int .i64 (bodyErr k b)]) ∧ Ext w w' := by
  have HL : Hid (∀ W, Ext w W → Calls Tryz.prog 114 #[.int .i64 k] W fun e w' => e = .returned (.tuple #[.int .i64 lo, .int .i64 hi, .bool true]) ∧ Ext W w') := Lib.hid fun W hW => by
    have := record_Limits k W (hla.ext hW)
    unfold LimPost at this
    rw [hk] at this
    exact this
  clear hk hla
  have HB := Lib.hid hb
  have hmx := hb.max
  have hle := hb.le
  have hbq : ∀ n : Nat, ((n : Int) != (n : Int)) = false := fun n => by simp
  have hn := hbq b.length
  clear hbq
  by_cases h20 : k = 20
  · have hk : ((k : Int) == 20) = true := by rw [beq_iff_eq]; omega
    by_cases hl : b.length = 1
    · obtain ⟨x, rfl⟩ : ∃ x, b = [x] := by
        cases b with
        | nil => simp at hl
        | cons x r => cases r with | nil => exact ⟨x, rfl⟩ | cons y r => simp at hl
      obtain ⟨g, o, rfl, hg0, e0⟩ := scalar_cell hb (j := 0) rfl
      simp only [List.length_cons, List.length_nil, Nat.zero_add, Nat.add_zero] at *
      have hgl : g < w.heap.size := by
        obtain ⟨cs, ⟨b1, o1, arr, T, fr, hA, _, hb1, _⟩, _⟩ := HB.out.get (j := 0) rfl
        injection hA with hA
        injection hA with hA
        subst hA
        exact blk_lt hb1
      clear hb hl
      by_cases hx : x = 1
      · have ev : bodyErr k [x] = 0 := by simp [bodyErr, hx]
        rw [ev]
        have hxq : ((x.toNat : Int) != 1) = false := by rw [hx]; rfl
        clear h20 ev hx
        go_enter Tryz.func119, Tryz.ntmps119
        go_wp2_with ((go_at_call 114; refine (HL.out _ ((by repeat (first | with_reducible assumption | with_reducible exact Fr.refl _ _ | (with_reducible refine Fr.alloc ?_ _) | (with_reducible refine Fr.drew ?_) | (with_reducible refine Fr.drewN ?_ _) | (with_reducible refine Fr.setNew ?_ _ _ _ (by first | with_reducible exact Nat.le_refl _ | omega | (simp; omega))))))).mono ?_; rintro e w1 ⟨rfl, hx1⟩; have hc1 := Ext.cells hx1; have hf1 := Ext.frozens hx1; have hz1 := Fr.size hx1; try simp [go_sem] at hz1; try (have hzl := Nat.lt_of_succ_le hz1; try (have hzm := Nat.lt_of_succ_lt hzl))); have hz0 : w.heap.size < w1.heap.size := (by omega); have hgz : g < w1.heap.size := (by omega); have hgy : g < w.heap.size + 1 := (by omega))
        refine bodyPost_ret (v := .tuple #[.int .i64 0, .int .i64 0]) (by simp only [results, Tryz.results119]; go_simp) rfl ?_
        exact ⟨rfl, Fr.trans ((by repeat (first | with_reducible assumption | with_reducible exact Fr.refl _ _ | (with_reducible refine Fr.alloc ?_ _) | (with_reducible refine Fr.drew ?_) | (with_reducible refine Fr.drewN ?_ _) | (with_reducible refine Fr.setNew ?_ _ _ _ (by first | with_reducible exact Nat.le_refl _ | omega | (simp; omega)))))) hx1⟩
      · have ev : bodyErr k [x] = 3 := by simp [bodyErr, h20, hx]
        rw [ev]
        have hxq : ((x.toNat : Int) != 1) = true := by
          rw [bne_iff_ne]
          intro e
          apply hx
          apply UInt8.toNat.inj
          show x.toNat = 1
          omega
        clear h20 ev hx
        go_enter Tryz.func119, Tryz.ntmps119
        go_wp2_with ((go_at_call 114; refine (HL.out _ ((by repeat (first | with_reducible assumption | with_reducible exact Fr.refl _ _ | (with_reducible refine Fr.alloc ?_ _) | (with_reducible refine Fr.drew ?_) | (with_reducible refine Fr.drewN ?_ _) | (with_reducible refine Fr.setNew ?_ _ _ _ (by first | with_reducible exact Nat.le_refl _ | omega | (simp; omega))))))).mono ?_; rintro e w1 ⟨rfl, hx1⟩; have hc1 := Ext.cells hx1; have hf1 := Ext.frozens hx1; have hz1 := Fr.size hx1; try simp [go_sem] at hz1; try (have hzl := Nat.lt_of_succ_le hz1; try (have hzm := Nat.lt_of_succ_lt hzl))); have hz0 : w.heap.size < w1.heap.size := (by omega); have hgz : g < w1.heap.size := (by omega); have hgy : g < w.heap.size + 1 := (by omega))
        refine bodyPost_ret (v := .tuple #[.int .i64 0, .int .i64 3]) (by simp only [results, Tryz.results119]; go_simp) rfl ?_
        exact ⟨rfl, Fr.trans ((by repeat (first | with_reducible assumption | with_reducible exact Fr.refl _ _ | (with_reducible refine Fr.alloc ?_ _) | (with_reducible refine Fr.drew ?_) | (with_reducible refine Fr.drewN ?_ _) | (with_reducible refine Fr.setNew ?_ _ _ _ (by first | with_reducible exact Nat.le_refl _ | omega | (simp; omega)))))) hx1⟩
    · have ev : bodyErr k b = 3 := by
        unfold bodyErr
        rw [if_pos ⟨h20, fun e => hl (by rw [e]; rfl)⟩]
      rw [ev]
      have hlq : ((b.length : Int) != 1) = true := by rw [bne_iff_ne]; omega
      clear h20 ev hl hb
      go_enter Tryz.func119, Tryz.ntmps119
      go_wp2_with ((go_at_call 114; refine (HL.out _ ((by repeat (first | with_reducible assumption | with_reducible exact Fr.refl _ _ | (with_reducible refine Fr.alloc ?_ _) | (with_reducible refine Fr.drew ?_) | (with_reducible refine Fr.drewN ?_ _) | (with_reducible refine Fr.setNew ?_ _ _ _ (by first | with_reducible exact Nat.le_refl _ | omega | (simp; omega))))))).mono ?_; rintro e w1 ⟨rfl, hx1⟩; have hc1 := Ext.cells hx1; have hf1 := Ext.frozens hx1; have hz1 := Fr.size hx1; try simp [go_sem] at hz1; try (have hzl := Nat.lt_of_succ_le hz1; try (have hzm := Nat.lt_of_succ_lt hzl))); have hz0 : w.heap.size < w1.heap.size := (by omega))
      refine bodyPost_ret (v := .tuple #[.int .i64 0, .int .i64 3]) (by simp only [results, Tryz.results119]; go_simp) rfl ?_
      exact ⟨rfl, Fr.trans ((by repeat (first | with_reducible assumption | with_reducible exact Fr.refl _ _ | (with_reducible refine Fr.alloc ?_ _) | (with_reducible refine Fr.drew ?_) | (with_reducible refine Fr.drewN ?_ _) | (with_reducible refine Fr.setNew ?_ _ _ _ (by first | with_reducible exact Nat.le_refl _ | omega | (simp; omega)))))) hx1⟩
  · have ev : bodyErr k b = 0 := by
      unfold bodyErr
      rw [if_neg (fun e => h20 e.1)]
    rw [ev]
    have hk : ((k : Int) == 20) = false := by rw [beq_eq_false_iff_ne]; omega
    clear h20 ev hb
    go_enter Tryz.func119, Tryz.ntmps119
    go_wp2_with ((go_at_call 114; refine (HL.out _ ((by repeat (first | with_reducible assumption | with_reducible exact Fr.refl _ _ | (with_reducible refine Fr.alloc ?_ _) | (with_reducible refine Fr.drew ?_) | (with_reducible refine Fr.drewN ?_ _) | (with_reducible refine Fr.setNew ?_ _ _ _ (by first | with_reducible exact Nat.le_refl _ | omega | (simp; omega))))))).mono ?_; rintro e w1 ⟨rfl, hx1⟩; have hc1 := Ext.cells hx1; have hf1 := Ext.frozens hx1; have hz1 := Fr.size hx1; try simp [go_sem] at hz1; try (have hzl := Nat.lt_of_succ_le hz1; try (have hzm := Nat.lt_of_succ_lt hzl))); have hz0 : w.heap.size < w1.heap.size := (by omega))
    refine bodyPost_ret (v := .tuple #[.int .i64 0, .int .i64 0]) (by simp only [results, Tryz.results119]; go_simp) rfl ?_
    exact ⟨rfl, Fr.trans ((by repeat (first | with_reducible assumption | with_reducible exact Fr.refl _ _ | (with_reducible refine Fr.alloc ?_ _) | (with_reducible refine Fr.drew ?_) | (with_reducible refine Fr.drewN ?_ _) | (with_reducible refine Fr.setNew ?_ _ _ _ (by first | with_reducible exact Nat.le_refl _ | omega | (simp; omega)))))) hx1⟩
end Go.Proofs.YtalbiepdkaldmaaGreatDoor
