/- read: lengths, rows of bytes. -/
import Derived.Test.YtalbiepdkaldmaaGreatDoorProg
import Derived.Test.YtalbiepdkaldmaaGreatDoorRead
import Derived.Deep.QuietTactic
import Derived.BigQuiet
import Derived.Deep.LoopGhost
set_option linter.unusedVariables false
set_option linter.unusedSimpArgs false
namespace Go.Proofs.YtalbiepdkaldmaaGreatDoor
open Go.RowKit

theorem ReadPost.ofSub {ok : Nat → Prop} {g g' r b0 : Nat} {l l2 : Bytes} {p p2 : Nat} {v : Val} {k k2 : Nat} {w W w1 : World} {e : Ending} (h : ReadPost ok g' r l2 p2 (.ok (v, k2)) W e w1) (hW : Fr (One g) w W) (hg' : w.heap.size ≤ g') (hc : IsCur W ok g (l.drop k) (p + k))
    (hok : ∀ b, ok b → b < w.heap.size) (hk : k ≤ l.length) (hg : g < w.heap.size) (hb : w.heap.size ≤ b0) (hb' : b0 < W.heap.size) (u1 u2 u3 : Value) : ReadPost ok g r l p (.ok (v, k)) w e (((w1.setCell ⟨b0, 0, none⟩ u1).setCell ⟨b0, 1, none⟩ u2).setCell ⟨b0, 2, none⟩ u3) := by
  obtain ⟨x, A, n, c, A', n', c', v0, he, h1, h2, h3, rfl, h5, h6, h7⟩ := h
  have hsz := hW.size
  have hos : Fr (One b0) w1 (((w1.setCell ⟨b0, 0, none⟩ u1).setCell ⟨b0, 1, none⟩ u2).setCell ⟨b0, 2, none⟩ u3) := (by repeat (first | with_reducible exact Fr.refl _ _ | (with_reducible refine Fr.set ?_ _ _ _ (One.self _)) | (with_reducible refine Fr.alloc ?_ _) | (with_reducible refine Fr.drew ?_)))
  refine ⟨x, A, n, c, A', n', c', v0, he, (h1.fr hos (fun b h e => ?_)).mono (fun b _ h => by omega), (h2.fr hos (fun b h e => ?_)).mono (fun b _ h => by omega), h3, rfl, hk, (hc.fr h7 (fun e => ?_) (fun b hb e => ?_)).fr hos (fun e => ?_) (fun b hb e => ?_), (hW.trans' h7 (fun i hi e => ?_)).trans' hos (fun i hi e => ?_)⟩
  · have e : b = b0 := e; omega
  · have e : b = b0 := e; omega
  · have e : g = g' := e; omega
  · have e : b = g' := e; have := hok b hb; omega
  · have e : g = b0 := e; omega
  · have e : b = b0 := e; have := hok b hb; omega
  · have e : i = g' := e; omega
  · have e : i = b0 := e; omega
def LenPost (ok : Nat → Prop) (g r : Nat) (l : Bytes) (p s : Nat) (R : Except RdErr Nat) (w : World) (e : Ending) (w' : World) : Prop :=
  match R with
  | .ok n => ∃ g', e = .returned (.pointer (some ⟨g', 0, none⟩)) ∧ w.heap.size ≤ g' ∧ s + n ≤ l.length ∧ IsCur w' ok g' ((l.drop s).take n) (p + s : Nat) ∧ IsCur w' ok g (l.drop (s + n)) (p + (s + n) : Nat) ∧ Fr (One g) w w'
  | .error (a, c) => e = .returned (.pointer none) ∧ IsRd w' r a c ∧ 0 < c ∧ Fr (Two g r) w w'
set_option maxHeartbeats 1000000 in
theorem read_sub (A : Option Addr) (n c : Nat) (f : Form) (g r : Nat) (l : Bytes) (p : Nat) (ok : Nat → Prop) (w : World) (hk : f.kind = 1 ∨ f.kind = 2) (hw : f.wf = true) (hc : IsCur w ok g l p) (hr : IsRd w r 0 0) (hok : ∀ b, ok b → b < w.heap.size) (hne : g ≠ r) :
    Calls Tryz.prog 157 #[.pointer (some ⟨r, 0, none⟩), .pointer (some ⟨g, 0, none⟩), formV A n c f] w (LenPost ok g r l p f.size (lenOf f.size f.lo f.hi f.step l p) w) := by
  have ho := Form.wf_own hw
  obtain ⟨k, s, lo, hi, st, ps⟩ := f
  simp only [Form.kind] at hk
  have hb : 1 ≤ s ∧ s ≤ 3 ∧ 1 ≤ st ∧ st ≤ 65536 := by
    rcases hk with rfl | rfl
    · simp [Form.own] at ho; omega
    · simp [Form.own] at ho; omega
  obtain ⟨h1, h4, h5, h6⟩ := hb
  clear ho hw hk
  simp only [formV, Form.kind, Form.size, Form.lo, Form.hi, Form.step]
  have HC := Lib.hid hc
  have HR := Lib.hid hr
  have hgl : g < w.heap.size := hc.lt
  have hrl : r < w.heap.size := blk_lt hr
  have hrn : ¬ w.heap.size = r := by omega
  have hgn : ¬ w.heap.size = g := by omega
  have hge := hc.ge
  have HO := Lib.hid hok
  have hgr : ¬ r = g := fun e => hne e.symm
  have hnum : num (l.take s) < 16777216 := Nat.lt_of_lt_of_le (num_lt _) (Nat.le_trans (Nat.pow_le_pow_right (by omega) (by rw [List.length_take]; omega)) (by decide : 256 ^ 3 ≤ 16777216))
  clear hc hr hok
  by_cases h : l.length < s
  · have HL : Hid (lenOf s lo hi st l p = .error (p + l.length, 4)) := Lib.hid (by simp [lenOf, h])
    go_enter Tryz.func157, Tryz.ntmps157
    go_wp2_with (first | ((go_at_call 30; refine (cursor_At g l p ok _ (HC.out.ext ((by repeat (first | with_reducible assumption | with_reducible exact Fr.refl _ _ | (with_reducible refine Fr.alloc ?_ _) | (with_reducible refine Fr.drew ?_) | (with_reducible refine Fr.drewN ?_ _) | (with_reducible refine Fr.setNew ?_ _ _ _ (by first | with_reducible exact Nat.le_refl _ | omega | (simp; omega)))))))).mono ?_; rintro e w1 ⟨rfl, rfl⟩)) | ((go_at_call 26; refine (cursor_Number_short g l p ok s _ (HC.out.ext ((by repeat (first | with_reducible assumption | with_reducible exact Fr.refl _ _ | (with_reducible refine Fr.alloc ?_ _) | (with_reducible refine Fr.drew ?_) | (with_reducible refine Fr.drewN ?_ _) | (with_reducible refine Fr.setNew ?_ _ _ _ (by first | with_reducible exact Nat.le_refl _ | omega | (simp; omega))))))) h h1 (by omega)).mono ?_; rintro e w1 ⟨rfl, rfl⟩)) | ((go_at_call 28; refine (cursor_End g l p ok _ (HC.out.ext ((by repeat (first | with_reducible assumption | with_reducible exact Fr.refl _ _ | (with_reducible refine Fr.alloc ?_ _) | (with_reducible refine Fr.drew ?_) | (with_reducible refine Fr.drewN ?_ _) | (with_reducible refine Fr.setNew ?_ _ _ _ (by first | with_reducible exact Nat.le_refl _ | omega | (simp; omega)))))))).mono ?_; rintro e w1 ⟨rfl, rfl⟩)) | ((go_at_call 127; refine (read_fail r 0 0 _ _ _ (HR.out.ext ((by repeat (first | with_reducible assumption | with_reducible exact Fr.refl _ _ | (with_reducible refine Fr.alloc ?_ _) | (with_reducible refine Fr.drew ?_) | (with_reducible refine Fr.drewN ?_ _) | (with_reducible refine Fr.setNew ?_ _ _ _ (by first | with_reducible exact Nat.le_refl _ | omega | (simp; omega)))))))).mono ?_; rintro e w2 ⟨rfl, hr2, hx2⟩; have hc2 := Fr.cells hx2; have hf2 := Fr.frozens hx2; have hz2 := Fr.size hx2; simp only [One, Two, not_or, and_imp] at hc2 hf2; try simp [go_sem] at hz2; try (have hzl := Nat.lt_of_succ_le hz2; try (have hzm := Nat.lt_of_succ_lt hzl)))))
    refine bodyPost_ret (v := .pointer none) (by simp only [results, Tryz.results157]; go_simp) rfl ?_
    rw [HL.out]
    have hx9 : Fr (Two g r) w w2 := Fr.trans' ((by repeat (first | with_reducible assumption | with_reducible exact Fr.refl _ _ | (with_reducible refine Fr.alloc ?_ _) | (with_reducible refine Fr.drew ?_) | (with_reducible refine Fr.drewN ?_ _) | (with_reducible refine Fr.setNew ?_ _ _ _ (by first | with_reducible exact Nat.le_refl _ | omega | (simp; omega)))))) hx2 (fun i _ h => Or.inr h)
    exact ⟨rfl, hr2, by decide, hx9⟩
  · have HL : Hid (lenOf s lo hi st l p = if num (l.take s) < lo ∨ hi < num (l.take s) ∨ num (l.take s) % st ≠ 0 then .error (p, 5) else if l.length - s < num (l.take s) then .error (p + l.length, 4) else .ok (num (l.take s))) := Lib.hid (by simp [lenOf, h])
    have hN := fun w h => cursor_Number g l p ok s w h (by omega) h1 (by omega)
    unfold NumPost at hN
    generalize num (l.take s) = N at hN hnum HL
    have HN := Lib.hid hN
    clear hN
    by_cases hbad : N < lo ∨ hi < N ∨ N % st ≠ 0
    · have HL2 : Hid (lenOf s lo hi st l p = .error (p, 5)) := Lib.hid (by rw [HL.out, if_pos hbad])
      have key : Calls Tryz.prog 157 #[.pointer (some ⟨r, 0, none⟩), .pointer (some ⟨g, 0, none⟩), .agg #[.int .i64 k, .int .i64 s, .int .i64 lo, .int .i64 hi, .int .i64 st, .slice A n c]] w (fun e w' => e = .returned (.pointer none) ∧ IsRd w' r p 5 ∧ Fr (Two g r) w w') := by
        by_cases b1 : N < lo
        · clear hbad
          go_enter Tryz.func157, Tryz.ntmps157
          go_wp2_with (first | ((go_at_call 30; refine (cursor_At g l p ok _ (HC.out.ext ((by repeat (first | with_reducible assumption | with_reducible exact Fr.refl _ _ | (with_reducible refine Fr.alloc ?_ _) | (with_reducible refine Fr.drew ?_) | (with_reducible refine Fr.drewN ?_ _) | (with_reducible refine Fr.setNew ?_ _ _ _ (by first | with_reducible exact Nat.le_refl _ | omega | (simp; omega)))))))).mono ?_; rintro e w1 ⟨rfl, rfl⟩)) | ((go_at_call 26; refine (HN.out _ (HC.out.ext ((by repeat (first | with_reducible assumption | with_reducible exact Fr.refl _ _ | (with_reducible refine Fr.alloc ?_ _) | (with_reducible refine Fr.drew ?_) | (with_reducible refine Fr.drewN ?_ _) | (with_reducible refine Fr.setNew ?_ _ _ _ (by first | with_reducible exact Nat.le_refl _ | omega | (simp; omega)))))))).mono ?_; rintro e w1 ⟨rfl, hr1, hx1⟩; have hc1 := Fr.cells hx1; have hf1 := Fr.frozens hx1; have hz1 := Fr.size hx1; simp only [One, Two, not_or, and_imp] at hc1 hf1; try simp [go_sem] at hz1; try (have hzl := Nat.lt_of_succ_le hz1; try (have hzm := Nat.lt_of_succ_lt hzl)))) | ((go_at_call 127; refine (read_fail r 0 0 _ _ _ (IsRd.fr (HR.out.ext ((by repeat (first | with_reducible assumption | with_reducible exact Fr.refl _ _ | (with_reducible refine Fr.alloc ?_ _) | (with_reducible refine Fr.drew ?_) | (with_reducible refine Fr.drewN ?_ _) | (with_reducible refine Fr.setNew ?_ _ _ _ (by first | with_reducible exact Nat.le_refl _ | omega | (simp; omega))))))) hx1 hgr)).mono ?_; rintro e w2 ⟨rfl, hr2, hx2⟩; have hc2 := Fr.cells hx2; have hf2 := Fr.frozens hx2; have hz2 := Fr.size hx2; simp only [One, Two, not_or, and_imp] at hc2 hf2; try simp [go_sem] at hz2; try (have hzl := Nat.lt_of_succ_le hz2; try (have hzm := Nat.lt_of_succ_lt hzl)))))
          refine bodyPost_ret (v := .pointer none) (by simp only [results, Tryz.results157]; go_simp) rfl ?_
          have hx8 : Fr (Two g r) w w1 := Fr.trans' ((by repeat (first | with_reducible assumption | with_reducible exact Fr.refl _ _ | (with_reducible refine Fr.alloc ?_ _) | (with_reducible refine Fr.drew ?_) | (with_reducible refine Fr.drewN ?_ _) | (with_reducible refine Fr.setNew ?_ _ _ _ (by first | with_reducible exact Nat.le_refl _ | omega | (simp; omega)))))) hx1 (fun i _ h => Or.inl h)
          exact ⟨rfl, hr2, hx8.trans' hx2 (fun i _ h => Or.inr h)⟩
        · by_cases b2 : hi < N
          · clear hbad
            go_enter Tryz.func157, Tryz.ntmps157
            go_wp2_with (first | ((go_at_call 30; refine (cursor_At g l p ok _ (HC.out.ext ((by repeat (first | with_reducible assumption | with_reducible exact Fr.refl _ _ | (with_reducible refine Fr.alloc ?_ _) | (with_reducible refine Fr.drew ?_) | (with_reducible refine Fr.drewN ?_ _) | (with_reducible refine Fr.setNew ?_ _ _ _ (by first | with_reducible exact Nat.le_refl _ | omega | (simp; omega)))))))).mono ?_; rintro e w1 ⟨rfl, rfl⟩)) | ((go_at_call 26; refine (HN.out _ (HC.out.ext ((by repeat (first | with_reducible assumption | with_reducible exact Fr.refl _ _ | (with_reducible refine Fr.alloc ?_ _) | (with_reducible refine Fr.drew ?_) | (with_reducible refine Fr.drewN ?_ _) | (with_reducible refine Fr.setNew ?_ _ _ _ (by first | with_reducible exact Nat.le_refl _ | omega | (simp; omega)))))))).mono ?_; rintro e w1 ⟨rfl, hr1, hx1⟩; have hc1 := Fr.cells hx1; have hf1 := Fr.frozens hx1; have hz1 := Fr.size hx1; simp only [One, Two, not_or, and_imp] at hc1 hf1; try simp [go_sem] at hz1; try (have hzl := Nat.lt_of_succ_le hz1; try (have hzm := Nat.lt_of_succ_lt hzl)))) | ((go_at_call 127; refine (read_fail r 0 0 _ _ _ (IsRd.fr (HR.out.ext ((by repeat (first | with_reducible assumption | with_reducible exact Fr.refl _ _ | (with_reducible refine Fr.alloc ?_ _) | (with_reducible refine Fr.drew ?_) | (with_reducible refine Fr.drewN ?_ _) | (with_reducible refine Fr.setNew ?_ _ _ _ (by first | with_reducible exact Nat.le_refl _ | omega | (simp; omega))))))) hx1 hgr)).mono ?_; rintro e w2 ⟨rfl, hr2, hx2⟩; have hc2 := Fr.cells hx2; have hf2 := Fr.frozens hx2; have hz2 := Fr.size hx2; simp only [One, Two, not_or, and_imp] at hc2 hf2; try simp [go_sem] at hz2; try (have hzl := Nat.lt_of_succ_le hz2; try (have hzm := Nat.lt_of_succ_lt hzl)))))
            refine bodyPost_ret (v := .pointer none) (by simp only [results, Tryz.results157]; go_simp) rfl ?_
            have hx8 : Fr (Two g r) w w1 := Fr.trans' ((by repeat (first | with_reducible assumption | with_reducible exact Fr.refl _ _ | (with_reducible refine Fr.alloc ?_ _) | (with_reducible refine Fr.drew ?_) | (with_reducible refine Fr.drewN ?_ _) | (with_reducible refine Fr.setNew ?_ _ _ _ (by first | with_reducible exact Nat.le_refl _ | omega | (simp; omega)))))) hx1 (fun i _ h => Or.inl h)
            exact ⟨rfl, hr2, hx8.trans' hx2 (fun i _ h => Or.inr h)⟩
          · have b3 : ((N : Int) % (st : Int) != 0) = true := by
              have hb3 : N % st ≠ 0 := by omega
              simp
              intro e
              apply hb3
              omega
            clear hbad
            go_enter Tryz.func157, Tryz.ntmps157
            go_wp2_with (first | ((go_at_call 30; refine (cursor_At g l p ok _ (HC.out.ext ((by repeat (first | with_reducible assumption | with_reducible exact Fr.refl _ _ | (with_reducible refine Fr.alloc ?_ _) | (with_reducible refine Fr.drew ?_) | (with_reducible refine Fr.drewN ?_ _) | (with_reducible refine Fr.setNew ?_ _ _ _ (by first | with_reducible exact Nat.le_refl _ | omega | (simp; omega)))))))).mono ?_; rintro e w1 ⟨rfl, rfl⟩)) | ((go_at_call 26; refine (HN.out _ (HC.out.ext ((by repeat (first | with_reducible assumption | with_reducible exact Fr.refl _ _ | (with_reducible refine Fr.alloc ?_ _) | (with_reducible refine Fr.drew ?_) | (with_reducible refine Fr.drewN ?_ _) | (with_reducible refine Fr.setNew ?_ _ _ _ (by first | with_reducible exact Nat.le_refl _ | omega | (simp; omega)))))))).mono ?_; rintro e w1 ⟨rfl, hr1, hx1⟩; have hc1 := Fr.cells hx1; have hf1 := Fr.frozens hx1; have hz1 := Fr.size hx1; simp only [One, Two, not_or, and_imp] at hc1 hf1; try simp [go_sem] at hz1; try (have hzl := Nat.lt_of_succ_le hz1; try (have hzm := Nat.lt_of_succ_lt hzl)))) | ((go_at_call 127; refine (read_fail r 0 0 _ _ _ (IsRd.fr (HR.out.ext ((by repeat (first | with_reducible assumption | with_reducible exact Fr.refl _ _ | (with_reducible refine Fr.alloc ?_ _) | (with_reducible refine Fr.drew ?_) | (with_reducible refine Fr.drewN ?_ _) | (with_reducible refine Fr.setNew ?_ _ _ _ (by first | with_reducible exact Nat.le_refl _ | omega | (simp; omega))))))) hx1 hgr)).mono ?_; rintro e w2 ⟨rfl, hr2, hx2⟩; have hc2 := Fr.cells hx2; have hf2 := Fr.frozens hx2; have hz2 := Fr.size hx2; simp only [One, Two, not_or, and_imp] at hc2 hf2; try simp [go_sem] at hz2; try (have hzl := Nat.lt_of_succ_le hz2; try (have hzm := Nat.lt_of_succ_lt hzl)))))
            refine bodyPost_ret (v := .pointer none) (by simp only [results, Tryz.results157]; go_simp) rfl ?_
            have hx8 : Fr (Two g r) w w1 := Fr.trans' ((by repeat (first | with_reducible assumption | with_reducible exact Fr.refl _ _ | (with_reducible refine Fr.alloc ?_ _) | (with_reducible refine Fr.drew ?_) | (with_reducible refine Fr.drewN ?_ _) | (with_reducible refine Fr.setNew ?_ _ _ _ (by first | with_reducible exact Nat.le_refl _ | omega | (simp; omega)))))) hx1 (fun i _ h => Or.inl h)
            exact ⟨rfl, hr2, hx8.trans' hx2 (fun i _ h => Or.inr h)⟩
      refine key.mono fun e w' h => ?_
      rw [HL2.out]
      exact ⟨h.1, h.2.1, by decide, h.2.2⟩
    · have b1 : lo ≤ N := by omega
      have b2 : N ≤ hi := by omega
      have b3 : ((N : Int) % (st : Int) != 0) = false := by
        have hb3 : N % st = 0 := by omega
        simp
        omega
      by_cases hs : l.length - s < N
      · have HL2 : Hid (lenOf s lo hi st l p = .error (p + l.length, 4)) := Lib.hid (by rw [HL.out, if_neg hbad, if_pos hs])
        have hs' : (l.drop s).length < N := by rw [List.length_drop]; exact hs
        have hlen : (p : Int) + s + (l.drop s).length = (p + l.length : Nat) := by rw [List.length_drop]; omega
        have HS := Lib.hid hs'
        have HE := Lib.hid hlen
        clear hbad hs' hlen
        go_enter Tryz.func157, Tryz.ntmps157
        go_wp2_with (first | ((go_at_call 30; refine (cursor_At g l p ok _ (HC.out.ext ((by repeat (first | with_reducible assumption | with_reducible exact Fr.refl _ _ | (with_reducible refine Fr.alloc ?_ _) | (with_reducible refine Fr.drew ?_) | (with_reducible refine Fr.drewN ?_ _) | (with_reducible refine Fr.setNew ?_ _ _ _ (by first | with_reducible exact Nat.le_refl _ | omega | (simp; omega)))))))).mono ?_; rintro e w1 ⟨rfl, rfl⟩)) | ((go_at_call 26; refine (HN.out _ (HC.out.ext ((by repeat (first | with_reducible assumption | with_reducible exact Fr.refl _ _ | (with_reducible refine Fr.alloc ?_ _) | (with_reducible refine Fr.drew ?_) | (with_reducible refine Fr.drewN ?_ _) | (with_reducible refine Fr.setNew ?_ _ _ _ (by first | with_reducible exact Nat.le_refl _ | omega | (simp; omega)))))))).mono ?_; rintro e w1 ⟨rfl, hr1, hx1⟩; have hc1 := Fr.cells hx1; have hf1 := Fr.frozens hx1; have hz1 := Fr.size hx1; simp only [One, Two, not_or, and_imp] at hc1 hf1; try simp [go_sem] at hz1; try (have hzl := Nat.lt_of_succ_le hz1; try (have hzm := Nat.lt_of_succ_lt hzl)))) | ((go_at_call 181; refine (cursor_Sub_short g _ _ ok N _ hr1 (Int.ofNat_lt.2 HS.out)).mono ?_; rintro e w1 ⟨rfl, rfl⟩)) | ((go_at_call 28; refine (cursor_End g _ _ ok _ hr1).mono ?_; rintro e w1 ⟨rfl, rfl⟩)) | ((go_at_call 127; refine (read_fail r 0 0 _ _ _ (IsRd.fr (HR.out.ext ((by repeat (first | with_reducible assumption | with_reducible exact Fr.refl _ _ | (with_reducible refine Fr.alloc ?_ _) | (with_reducible refine Fr.drew ?_) | (with_reducible refine Fr.drewN ?_ _) | (with_reducible refine Fr.setNew ?_ _ _ _ (by first | with_reducible exact Nat.le_refl _ | omega | (simp; omega))))))) hx1 hgr)).mono ?_; rintro e w2 ⟨rfl, hr2, hx2⟩; have hc2 := Fr.cells hx2; have hf2 := Fr.frozens hx2; have hz2 := Fr.size hx2; simp only [One, Two, not_or, and_imp] at hc2 hf2; try simp [go_sem] at hz2; try (have hzl := Nat.lt_of_succ_le hz2; try (have hzm := Nat.lt_of_succ_lt hzl)))))
        refine bodyPost_ret (v := .pointer none) (by simp only [results, Tryz.results157]; go_simp) rfl ?_
        rw [HL2.out]
        have e9 : (p : Int) + s + ((l.length - s : Nat) : Int) = (p + l.length : Nat) := by omega
        rw [e9] at hr2
        have hx8 : Fr (Two g r) w w1 := Fr.trans' ((by repeat (first | with_reducible assumption | with_reducible exact Fr.refl _ _ | (with_reducible refine Fr.alloc ?_ _) | (with_reducible refine Fr.drew ?_) | (with_reducible refine Fr.drewN ?_ _) | (with_reducible refine Fr.setNew ?_ _ _ _ (by first | with_reducible exact Nat.le_refl _ | omega | (simp; omega)))))) hx1 (fun i _ h => Or.inl h)
        exact ⟨rfl, hr2, by decide, hx8.trans' hx2 (fun i _ h => Or.inr h)⟩
      · have HL2 : Hid (lenOf s lo hi st l p = .ok N) := Lib.hid (by rw [HL.out, if_neg hbad, if_neg hs])
        have hs' : N ≤ (l.drop s).length := by rw [List.length_drop]; omega
        have HS := Lib.hid hs'
        clear hbad hs'
        go_enter Tryz.func157, Tryz.ntmps157
        go_wp2_with (first | ((go_at_call 30; refine (cursor_At g l p ok _ (HC.out.ext ((by repeat (first | with_reducible assumption | with_reducible exact Fr.refl _ _ | (with_reducible refine Fr.alloc ?_ _) | (with_reducible refine Fr.drew ?_) | (with_reducible refine Fr.drewN ?_ _) | (with_reducible refine Fr.setNew ?_ _ _ _ (by first | with_reducible exact Nat.le_refl _ | omega | (simp; omega)))))))).mono ?_; rintro e w1 ⟨rfl, rfl⟩)) | ((go_at_call 26; refine (HN.out _ (HC.out.ext ((by repeat (first | with_reducible assumption | with_reducible exact Fr.refl _ _ | (with_reducible refine Fr.alloc ?_ _) | (with_reducible refine Fr.drew ?_) | (with_reducible refine Fr.drewN ?_ _) | (with_reducible refine Fr.setNew ?_ _ _ _ (by first | with_reducible exact Nat.le_refl _ | omega | (simp; omega)))))))).mono ?_; rintro e w1 ⟨rfl, hr1, hx1⟩; have hc1 := Fr.cells hx1; have hf1 := Fr.frozens hx1; have hz1 := Fr.size hx1; simp only [One, Two, not_or, and_imp] at hc1 hf1; try simp [go_sem] at hz1; try (have hzl := Nat.lt_of_succ_le hz1; try (have hzm := Nat.lt_of_succ_lt hzl)))) | ((go_at_call 181; refine (cursor_Sub g _ _ ok N _ hr1 (fun b hb => by have := HO.out b hb; omega) HS.out).mono ?_; rintro e w2 ⟨g', rfl, hg2, hs2, hr2, hx2⟩; have hc2 := Fr.cells hx2; have hf2 := Fr.frozens hx2; have hz2 := Fr.size hx2; simp only [One, Two, not_or, and_imp] at hc2 hf2; try simp [go_sem] at hz2; try (have hzl := Nat.lt_of_succ_le hz2; try (have hzm := Nat.lt_of_succ_lt hzl)))))
        refine bodyPost_ret (v := .pointer (some ⟨g', 0, none⟩)) (by simp only [results, Tryz.results157]; go_simp) rfl ?_
        rw [HL2.out]
        rw [List.drop_drop] at hr2
        have hx8 : Fr (One g) w w1 := Fr.trans' ((by repeat (first | with_reducible assumption | with_reducible exact Fr.refl _ _ | (with_reducible refine Fr.alloc ?_ _) | (with_reducible refine Fr.drew ?_) | (with_reducible refine Fr.drewN ?_ _) | (with_reducible refine Fr.setNew ?_ _ _ _ (by first | with_reducible exact Nat.le_refl _ | omega | (simp; omega)))))) hx1 (fun i _ h => h)
        exact ⟨g', rfl, by omega, by omega, by simpa using hs2, by simpa [Int.add_assoc] using hr2, hx8.trans hx2⟩

set_option maxHeartbeats 1000000 in
theorem read_opaque (A : Option Addr) (n c : Nat) (f : Form) (g r : Nat) (l : Bytes) (p : Nat) (ok : Nat → Prop) (w : World) (hk : f.kind = 1) (hw : f.wf = true) (hc : IsCur w ok g l p) (hr : IsRd w r 0 0) (hok : ∀ b, ok b → b < w.heap.size) (hm : l.length ≤ 1099511627776) (hne : g ≠ r) :
    Calls Tryz.prog 305 #[.pointer (some ⟨r, 0, none⟩), .pointer (some ⟨g, 0, none⟩), formV A n c f] w (ReadPost ok g r l p (f.read l p) w) := by
  have hsub := fun w hc hr hok => read_sub A n c f g r l p ok w (.inl hk) hw hc hr hok hne
  obtain ⟨k, s, lo, hi, st, ps⟩ := f
  simp only [Form.kind] at hk
  subst hk
  simp only [formV, Form.kind, Form.size, Form.lo, Form.hi, Form.step] at hsub ⊢
  have hR : Form.read (.mk 1 s lo hi st ps) l p = match lenOf s lo hi st l p with | .error e => .error e | .ok n => .ok (.mk 0 ((l.drop s).take n) [], s + n) := by simp only [Form.read]; cases lenOf s lo hi st l p <;> rfl
  rw [hR]
  clear hR hw
  generalize lenOf s lo hi st l p = R at hsub ⊢
  have HB := Lib.hid hsub
  clear hsub
  have HC := Lib.hid hc
  have HR := Lib.hid hr
  have hgl : g < w.heap.size := hc.lt
  have hrl : r < w.heap.size := blk_lt hr
  have hrn : ¬ w.heap.size = r := by omega
  have hgn : ¬ w.heap.size = g := by omega
  have hrn1 : ¬ w.heap.size + 1 = r := by omega
  have hgn1 : ¬ w.heap.size + 1 = g := by omega
  have HO := Lib.hid hok
  clear hc hr hok
  cases R with
  | error ac =>
    obtain ⟨a, c0⟩ := ac
    go_enter Tryz.func305, Tryz.ntmps305
    go_wp2_with (first | ((go_at_call 157; refine (HB.out _ (HC.out.ext ((by repeat (first | with_reducible assumption | with_reducible exact Fr.refl _ _ | (with_reducible refine Fr.alloc ?_ _) | (with_reducible refine Fr.drew ?_) | (with_reducible refine Fr.drewN ?_ _) | (with_reducible refine Fr.setNew ?_ _ _ _ (by first | with_reducible exact Nat.le_refl _ | omega | (simp; omega))))))) (HR.out.ext ((by repeat (first | with_reducible assumption | with_reducible exact Fr.refl _ _ | (with_reducible refine Fr.alloc ?_ _) | (with_reducible refine Fr.drew ?_) | (with_reducible refine Fr.drewN ?_ _) | (with_reducible refine Fr.setNew ?_ _ _ _ (by first | with_reducible exact Nat.le_refl _ | omega | (simp; omega))))))) (fun b hb => by have := HO.out b hb; simp; omega)).mono ?_; rintro e w2 ⟨rfl, hr2, hpos, hx2⟩; have hc2 := Fr.cells hx2; have hf2 := Fr.frozens hx2; have hz2 := Fr.size hx2; simp only [One, Two, not_or, and_imp] at hc2 hf2; try simp [go_sem] at hz2; try (have hzl := Nat.lt_of_succ_le hz2; try (have hzm := Nat.lt_of_succ_lt hzl)))))
    refine bodyPost_ret (v := .agg #[.int .u64 0, .slice none 0 0, .slice none 0 0]) (by simp only [results, Tryz.results305]; go_simp) rfl ?_
    have hx9 : Fr (Two g r) w w2 := Fr.trans' ((by repeat (first | with_reducible assumption | with_reducible exact Fr.refl _ _ | (with_reducible refine Fr.alloc ?_ _) | (with_reducible refine Fr.drew ?_) | (with_reducible refine Fr.drewN ?_ _) | (with_reducible refine Fr.setNew ?_ _ _ _ (by first | with_reducible exact Nat.le_refl _ | omega | (simp; omega)))))) hx2 (fun i _ h => h)
    exact ⟨0, none, 0, 0, none, 0, 0, .mk 0 [] [], rfl, SlC.nil _ _ _ _ _ (Nat.zero_le _) (fun _ => rfl), SlC.nil _ _ _ _ _ (Nat.zero_le _) (fun _ => rfl), ⟨rfl, by decide⟩, hr2.fr (F := One (w.heap.size + 1)) ((by repeat (first | with_reducible exact Fr.refl _ _ | (with_reducible refine Fr.set ?_ _ _ _ (One.self _)) | (with_reducible refine Fr.alloc ?_ _) | (with_reducible refine Fr.drew ?_)))) (fun h => hrn1 h.symm), hpos, (by repeat (first | with_reducible assumption | with_reducible exact Fr.refl _ _ | (with_reducible refine Fr.alloc ?_ _) | (with_reducible refine Fr.drew ?_) | (with_reducible refine Fr.drewN ?_ _) | (with_reducible refine Fr.setNew ?_ _ _ _ (by first | with_reducible exact Nat.le_refl _ | omega | (simp; omega)))))⟩
  | ok N =>
    have hbytes := fun g' w => read_bytes g' r ((l.drop s).take N) (p + s) ((l.drop s).take N).length ok w
    simp only [Nat.lt_irrefl, if_false, List.take_length] at hbytes
    have HY := Lib.hid hbytes
    have hml : ((l.drop s).take N).length ≤ 1099511627776 := by rw [List.length_take, List.length_drop]; omega
    generalize hl2 : (l.drop s).take N = l2 at HY hml
    have HL2 := Lib.hid hl2
    clear hbytes hl2
    go_enter Tryz.func305, Tryz.ntmps305
    go_wp2_with (first | ((go_at_call 157; refine (HB.out _ (HC.out.ext ((by repeat (first | with_reducible assumption | with_reducible exact Fr.refl _ _ | (with_reducible refine Fr.alloc ?_ _) | (with_reducible refine Fr.drew ?_) | (with_reducible refine Fr.drewN ?_ _) | (with_reducible refine Fr.setNew ?_ _ _ _ (by first | with_reducible exact Nat.le_refl _ | omega | (simp; omega))))))) (HR.out.ext ((by repeat (first | with_reducible assumption | with_reducible exact Fr.refl _ _ | (with_reducible refine Fr.alloc ?_ _) | (with_reducible refine Fr.drew ?_) | (with_reducible refine Fr.drewN ?_ _) | (with_reducible refine Fr.setNew ?_ _ _ _ (by first | with_reducible exact Nat.le_refl _ | omega | (simp; omega))))))) (fun b hb => by have := HO.out b hb; simp; omega)).mono ?_; rintro e w2 ⟨g', rfl, hg2, hl2, hs2, hr2, hx2⟩; have hc2 := Fr.cells hx2; have hf2 := Fr.frozens hx2; have hz2 := Fr.size hx2; simp only [One, Two, not_or, and_imp] at hc2 hf2; try simp [go_sem] at hz2; try (have hzl := Nat.lt_of_succ_le hz2; try (have hzm := Nat.lt_of_succ_lt hzl))); rw [HL2.out] at hs2; have hgn2 : ¬ w.heap.size + 1 = g' := (by simp at hg2; omega); have hz9 : w.heap.size + 1 < w2.heap.size := by omega) | ((go_at_call 29; refine (cursor_Left g' _ _ ok _ hs2).mono ?_; rintro e w1 ⟨rfl, rfl⟩)) | (go_at_call 308; refine (HY.out g' _ hs2 (IsRd.fr (HR.out.ext ((by repeat (first | with_reducible assumption | with_reducible exact Fr.refl _ _ | (with_reducible refine Fr.alloc ?_ _) | (with_reducible refine Fr.drew ?_) | (with_reducible refine Fr.drewN ?_ _) | (with_reducible refine Fr.setNew ?_ _ _ _ (by first | with_reducible exact Nat.le_refl _ | omega | (simp; omega))))))) hx2 (fun e => hne e.symm)) (fun b hb => by have := HO.out b hb; omega) hml (by simp at hg2; omega)).mono ?_; intro e w3 hp3; obtain ⟨x3, A3, n3, c3, B3, m3, d3, v3, rfl, hr3⟩ := id hp3; clear hr3; have hx3 := hp3.fr; have hc3 := Fr.cells hx3; have hf3 := Fr.frozens hx3; have hz3 := Fr.size hx3; simp only [One, Two, not_or, and_imp] at hc3 hf3; try simp [go_sem] at hz3; try (have hzl := Nat.lt_of_succ_le hz3; try (have hzm := Nat.lt_of_succ_lt hzl))))
    refine bodyPost_ret (v := .agg #[.int .u64 x3, .slice A3 n3 c3, .slice B3 m3 d3]) (by simp only [results, Tryz.results305]; go_simp) rfl ?_
    rw [HL2.out]
    exact ReadPost.ofSub hp3 (Fr.trans' ((by repeat (first | with_reducible assumption | with_reducible exact Fr.refl _ _ | (with_reducible refine Fr.alloc ?_ _) | (with_reducible refine Fr.drew ?_) | (with_reducible refine Fr.drewN ?_ _) | (with_reducible refine Fr.setNew ?_ _ _ _ (by first | with_reducible exact Nat.le_refl _ | omega | (simp; omega)))))) hx2 (fun i _ h => h)) (by simp at hg2; omega) (by simpa using hr2) HO.out hl2 hgl (by omega) (by omega) _ _ _

set_option maxHeartbeats 1000000 in
theorem read_rest (A : Option Addr) (n c : Nat) (f : Form) (g r : Nat) (l : Bytes) (p : Nat) (ok : Nat → Prop) (w : World) (hk : f.kind = 4) (hw : f.wf = true) (hc : IsCur w ok g l p) (hr : IsRd w r 0 0) (hok : ∀ b, ok b → b < w.heap.size) (hm : l.length ≤ 1099511627776) (hne : g ≠ r) :
    Calls Tryz.prog 306 #[.pointer (some ⟨r, 0, none⟩), .pointer (some ⟨g, 0, none⟩), formV A n c f] w (ReadPost ok g r l p (f.read l p) w) := by
  have ho := Form.wf_own hw
  obtain ⟨k, s, lo, hi, st, ps⟩ := f
  simp only [Form.kind] at hk
  subst hk
  simp [Form.own] at ho
  obtain ⟨⟨h1, h2⟩, rfl⟩ := ho
  simp only [formV, Form.kind, Form.size, Form.lo, Form.hi, Form.step]
  have HC := Lib.hid hc
  have HR := Lib.hid hr
  have hgl : g < w.heap.size := hc.lt
  have hrl : r < w.heap.size := blk_lt hr
  have hrn : ¬ w.heap.size = r := by omega
  have hgn : ¬ w.heap.size = g := by omega
  have hrn1 : ¬ w.heap.size + 1 = r := by omega
  have hgn1 : ¬ w.heap.size + 1 = g := by omega
  have hge := hc.ge
  have HO := Lib.hid hok
  clear hc hr hok hw
  have hleft : ∀ W w' : World, Ext w W → Ext W w' → Calls Tryz.prog 29 #[.pointer (some ⟨g, 0, none⟩)] w' fun e w'' => e = .returned (.int .i64 l.length) ∧ Ext W w'' := fun W w' h h' => (cursor_Left g l p ok w' (HC.out.ext (h.trans h'))).mono fun e w'' hh => ⟨hh.1, hh.2 ▸ h'⟩
  have HL := Lib.hid hleft
  clear hleft
  by_cases a1 : l.length < lo
  · have hR : Hid (Form.read (.mk 4 s lo hi st []) l p = .error (p + l.length, 4)) := Lib.hid (by simp [Form.read, a1])
    go_enter Tryz.func306, Tryz.ntmps306
    go_wp2
    refine wp_region_quietX (by kernel_rfl) (by kernel_rfl) ?_
    (repeat (first | (apply wpQuiet_op (hg := rfl); (focus (intro w' hw'; have hcx := Ext.cells hw'; have hzx := Fr.size hw'; go_simp; first | done | rfl | exact ⟨rfl, rfl⟩)); (intro K hK; go_simp; refine hK _ ?_; clear hK K)) | (refine wpQuiet_opW ?_ ?_ ?_ ?_; rotate_left; (focus (first | rfl | (go_simp; done))); (focus (intro w' hw'; have hcx := Ext.cells hw'; have hzx := Fr.size hw'; go_simp; first | done | rfl | exact ⟨rfl, rfl⟩)); (intro K hK; go_simp; refine hK _ ?_; clear hK K)) | (refine wpQuiet_no ?_ (fun K hK => ?_); (focus (first | rfl | (go_simp; done))); go_simp; refine hK _ ?_; clear hK K)))
    ((first | refine wpQuiet_op (.int .i64 l.length) rfl (fun w' hw' => ?_) (fun K hK => ?_) | (refine wpQuiet_opW (.int .i64 l.length) ?_ (fun w' hw' => ?_) (fun K hK => ?_); (focus (first | rfl | (go_simp; done))))); rotate_left; (go_simp; refine hK _ ?_; clear hK K); rotate_left; (have hcx := Ext.cells hw'; have hzx := Fr.size hw'; go_simp))
    · exact HL.out _ _ ((by repeat (first | with_reducible assumption | with_reducible exact Fr.refl _ _ | (with_reducible refine Fr.alloc ?_ _) | (with_reducible refine Fr.drew ?_) | (with_reducible refine Fr.drewN ?_ _) | (with_reducible refine Fr.setNew ?_ _ _ _ (by first | with_reducible exact Nat.le_refl _ | omega | (simp; omega)))))) hw'
    (repeat (first | (apply wpQuiet_op (hg := rfl); (focus (intro w' hw'; have hcx := Ext.cells hw'; have hzx := Fr.size hw'; go_simp; first | done | rfl | exact ⟨rfl, rfl⟩)); (intro K hK; go_simp; refine hK _ ?_; clear hK K)) | (refine wpQuiet_opW ?_ ?_ ?_ ?_; rotate_left; (focus (first | rfl | (go_simp; done))); (focus (intro w' hw'; have hcx := Ext.cells hw'; have hzx := Fr.size hw'; go_simp; first | done | rfl | exact ⟨rfl, rfl⟩)); (intro K hK; go_simp; refine hK _ ?_; clear hK K)) | (refine wpQuiet_no ?_ (fun K hK => ?_); (focus (first | rfl | (go_simp; done))); go_simp; refine hK _ ?_; clear hK K)))
    (refine wpQuiet_nil ?_; intro w' hw'; have hcx := Ext.cells hw'; have hfx := Ext.frozens hw'; have hzx := Fr.size hw'; try simp [go_sem] at hzx; try (have hzl := Nat.lt_of_succ_le hzx; try (have hzm := Nat.lt_of_succ_lt hzl)))
    go_wp2_with (first | ((go_at_call 28; refine (cursor_End g l p ok _ (HC.out.ext (Fr.trans ((by repeat (first | with_reducible assumption | with_reducible exact Fr.refl _ _ | (with_reducible refine Fr.alloc ?_ _) | (with_reducible refine Fr.drew ?_) | (with_reducible refine Fr.drewN ?_ _) | (with_reducible refine Fr.setNew ?_ _ _ _ (by first | with_reducible exact Nat.le_refl _ | omega | (simp; omega)))))) hw'))).mono ?_; rintro e w1 ⟨rfl, rfl⟩)) | ((go_at_call 127; refine (read_fail r 0 0 _ _ _ (HR.out.ext (Fr.trans ((by repeat (first | with_reducible assumption | with_reducible exact Fr.refl _ _ | (with_reducible refine Fr.alloc ?_ _) | (with_reducible refine Fr.drew ?_) | (with_reducible refine Fr.drewN ?_ _) | (with_reducible refine Fr.setNew ?_ _ _ _ (by first | with_reducible exact Nat.le_refl _ | omega | (simp; omega)))))) hw'))).mono ?_; rintro e w2 ⟨rfl, hr2, hx2⟩; have hc2 := Fr.cells hx2; have hf2 := Fr.frozens hx2; have hz2 := Fr.size hx2; simp only [One, Two, not_or, and_imp] at hc2 hf2; try simp [go_sem] at hz2; try (have hzl := Nat.lt_of_succ_le hz2; try (have hzm := Nat.lt_of_succ_lt hzl))); obtain ⟨q0, q1, q2, q3, q4⟩ := hr2.cells))
    refine bodyPost_ret (v := .agg #[.int .u64 0, .slice none 0 0, .slice none 0 0]) (by simp only [results, Tryz.results306]; go_simp) rfl ?_
    rw [hR.out]
    have hx9 : Fr (Two g r) w w2 := Fr.trans' (Fr.trans ((by repeat (first | with_reducible assumption | with_reducible exact Fr.refl _ _ | (with_reducible refine Fr.alloc ?_ _) | (with_reducible refine Fr.drew ?_) | (with_reducible refine Fr.drewN ?_ _) | (with_reducible refine Fr.setNew ?_ _ _ _ (by first | with_reducible exact Nat.le_refl _ | omega | (simp; omega)))))) (Ext.any hw')) hx2 (fun i _ h => Or.inr h)
    exact ⟨0, none, 0, 0, none, 0, 0, .mk 0 [] [], rfl, SlC.nil _ _ _ _ _ (Nat.zero_le _) (fun _ => rfl), SlC.nil _ _ _ _ _ (Nat.zero_le _) (fun _ => rfl), ⟨rfl, by decide⟩, hr2.fr (F := One (w.heap.size + 1)) ((by repeat (first | with_reducible exact Fr.refl _ _ | (with_reducible refine Fr.set ?_ _ _ _ (One.self _)) | (with_reducible refine Fr.alloc ?_ _) | (with_reducible refine Fr.drew ?_)))) (fun h => hrn1 h.symm), by decide, (by repeat (first | with_reducible assumption | with_reducible exact Fr.refl _ _ | (with_reducible refine Fr.alloc ?_ _) | (with_reducible refine Fr.drew ?_) | (with_reducible refine Fr.drewN ?_ _) | (with_reducible refine Fr.setNew ?_ _ _ _ (by first | with_reducible exact Nat.le_refl _ | omega | (simp; omega)))))⟩
  · by_cases a2 : hi < l.length
    · have hR : Hid (Form.read (.mk 4 s lo hi st []) l p = .error (p + hi, 6)) := Lib.hid (by simp [Form.read, a1, a2])
      have hat : ∀ W w' : World, Ext w W → Ext W w' → Calls Tryz.prog 30 #[.pointer (some ⟨g, 0, none⟩)] w' fun e w'' => e = .returned (.int .i64 p) ∧ Ext W w'' := fun W w' h h' => (cursor_At g l p ok w' (HC.out.ext (h.trans h'))).mono fun e w'' hh => ⟨hh.1, hh.2 ▸ h'⟩
      have HA := Lib.hid hat
      clear hat
      have a1' : lo ≤ l.length := by omega
      go_enter Tryz.func306, Tryz.ntmps306
      go_wp2
      refine wp_region_quietX (by kernel_rfl) (by kernel_rfl) ?_
      (repeat (first | (apply wpQuiet_op (hg := rfl); (focus (intro w' hw'; have hcx := Ext.cells hw'; have hzx := Fr.size hw'; go_simp; first | done | rfl | exact ⟨rfl, rfl⟩)); (intro K hK; go_simp; refine hK _ ?_; clear hK K)) | (refine wpQuiet_opW ?_ ?_ ?_ ?_; rotate_left; (focus (first | rfl | (go_simp; done))); (focus (intro w' hw'; have hcx := Ext.cells hw'; have hzx := Fr.size hw'; go_simp; first | done | rfl | exact ⟨rfl, rfl⟩)); (intro K hK; go_simp; refine hK _ ?_; clear hK K)) | (refine wpQuiet_no ?_ (fun K hK => ?_); (focus (first | rfl | (go_simp; done))); go_simp; refine hK _ ?_; clear hK K)))
      ((first | refine wpQuiet_op (.int .i64 l.length) rfl (fun w' hw' => ?_) (fun K hK => ?_) | (refine wpQuiet_opW (.int .i64 l.length) ?_ (fun w' hw' => ?_) (fun K hK => ?_); (focus (first | rfl | (go_simp; done))))); rotate_left; (go_simp; refine hK _ ?_; clear hK K); rotate_left; (have hcx := Ext.cells hw'; have hzx := Fr.size hw'; go_simp))
      · exact HL.out _ _ ((by repeat (first | with_reducible assumption | with_reducible exact Fr.refl _ _ | (with_reducible refine Fr.alloc ?_ _) | (with_reducible refine Fr.drew ?_) | (with_reducible refine Fr.drewN ?_ _) | (with_reducible refine Fr.setNew ?_ _ _ _ (by first | with_reducible exact Nat.le_refl _ | omega | (simp; omega)))))) hw'
      (repeat (first | (apply wpQuiet_op (hg := rfl); (focus (intro w' hw'; have hcx := Ext.cells hw'; have hzx := Fr.size hw'; go_simp; first | done | rfl | exact ⟨rfl, rfl⟩)); (intro K hK; go_simp; refine hK _ ?_; clear hK K)) | (refine wpQuiet_opW ?_ ?_ ?_ ?_; rotate_left; (focus (first | rfl | (go_simp; done))); (focus (intro w' hw'; have hcx := Ext.cells hw'; have hzx := Fr.size hw'; go_simp; first | done | rfl | exact ⟨rfl, rfl⟩)); (intro K hK; go_simp; refine hK _ ?_; clear hK K)) | (refine wpQuiet_no ?_ (fun K hK => ?_); (focus (first | rfl | (go_simp; done))); go_simp; refine hK _ ?_; clear hK K)))
      (refine wpQuiet_nil ?_; intro w' hw'; have hcx := Ext.cells hw'; have hfx := Ext.frozens hw'; have hzx := Fr.size hw'; try simp [go_sem] at hzx; try (have hzl := Nat.lt_of_succ_le hzx; try (have hzm := Nat.lt_of_succ_lt hzl)))
      go_wp2
      have hx5 := hw'
      rename_i w5
      clear hw' hcx
      have hc5 := Ext.cells hx5
      refine wp_region_quietX (by kernel_rfl) (by kernel_rfl) ?_
      (repeat (first | (apply wpQuiet_op (hg := rfl); (focus (intro w' hw'; have hcx := Ext.cells hw'; have hzx := Fr.size hw'; go_simp; first | done | rfl | exact ⟨rfl, rfl⟩)); (intro K hK; go_simp; refine hK _ ?_; clear hK K)) | (refine wpQuiet_opW ?_ ?_ ?_ ?_; rotate_left; (focus (first | rfl | (go_simp; done))); (focus (intro w' hw'; have hcx := Ext.cells hw'; have hzx := Fr.size hw'; go_simp; first | done | rfl | exact ⟨rfl, rfl⟩)); (intro K hK; go_simp; refine hK _ ?_; clear hK K)) | (refine wpQuiet_no ?_ (fun K hK => ?_); (focus (first | rfl | (go_simp; done))); go_simp; refine hK _ ?_; clear hK K)))
      ((first | refine wpQuiet_op (.int .i64 l.length) rfl (fun w' hw' => ?_) (fun K hK => ?_) | (refine wpQuiet_opW (.int .i64 l.length) ?_ (fun w' hw' => ?_) (fun K hK => ?_); (focus (first | rfl | (go_simp; done))))); rotate_left; (go_simp; refine hK _ ?_; clear hK K); rotate_left; (have hcx := Ext.cells hw'; have hzx := Fr.size hw'; go_simp))
      · exact HL.out _ _ (Fr.trans ((by repeat (first | with_reducible assumption | with_reducible exact Fr.refl _ _ | (with_reducible refine Fr.alloc ?_ _) | (with_reducible refine Fr.drew ?_) | (with_reducible refine Fr.drewN ?_ _) | (with_reducible refine Fr.setNew ?_ _ _ _ (by first | with_reducible exact Nat.le_refl _ | omega | (simp; omega)))))) hx5) hw'
      (repeat (first | (apply wpQuiet_op (hg := rfl); (focus (intro w' hw'; have hcx := Ext.cells hw'; have hzx := Fr.size hw'; go_simp; first | done | rfl | exact ⟨rfl, rfl⟩)); (intro K hK; go_simp; refine hK _ ?_; clear hK K)) | (refine wpQuiet_opW ?_ ?_ ?_ ?_; rotate_left; (focus (first | rfl | (go_simp; done))); (focus (intro w' hw'; have hcx := Ext.cells hw'; have hzx := Fr.size hw'; go_simp; first | done | rfl | exact ⟨rfl, rfl⟩)); (intro K hK; go_simp; refine hK _ ?_; clear hK K)) | (refine wpQuiet_no ?_ (fun K hK => ?_); (focus (first | rfl | (go_simp; done))); go_simp; refine hK _ ?_; clear hK K)))
      (refine wpQuiet_nil ?_; intro w' hw'; have hcx := Ext.cells hw'; have hfx := Ext.frozens hw'; have hzx := Fr.size hw'; try simp [go_sem] at hzx; try (have hzl := Nat.lt_of_succ_le hzx; try (have hzm := Nat.lt_of_succ_lt hzl)))
      go_wp2
      have hx6 := hx5.trans hw'
      have hz8 : w.heap.size < w'.heap.size := by omega
      have hz9 : w.heap.size + 1 < w'.heap.size := by omega
      refine wp_region_mix _ 6 6 (by kernel_rfl) (by kernel_rfl) (fun w'' => Ext w' w'') ?_ ?_
      · exact (Fr.refl _ _).drew
      simp only [List.take_succ_cons, List.take_zero]
      (repeat (first | (apply wpStl_op; (focus (first | rfl | (go_simp; done))); (focus (intro w' hw'; have hcy := Ext.cells hw'; go_simp; first | done | rfl | exact ⟨rfl, rfl⟩)); (intro K hK; go_simp; refine hK _ ?_; clear hK K)) | (refine wpStl_no ?_ (fun K hK => ?_); (focus (first | rfl | (go_simp; done))); go_simp; refine hK _ ?_; clear hK K)))
      (refine wpStl_op (.int .i64 p) ?_ (fun w' hw' => ?_) (fun K hK => ?_); (focus (first | rfl | (go_simp; done))); rotate_left; (go_simp; refine hK _ ?_; clear hK K); rotate_left; (have hcy := Ext.cells hw'; go_simp))
      · exact (cursor_At g l p ok w' (HC.out.ext (Fr.trans ((by repeat (first | with_reducible assumption | with_reducible exact Fr.refl _ _ | (with_reducible refine Fr.alloc ?_ _) | (with_reducible refine Fr.drew ?_) | (with_reducible refine Fr.drewN ?_ _) | (with_reducible refine Fr.setNew ?_ _ _ _ (by first | with_reducible exact Nat.le_refl _ | omega | (simp; omega)))))) (hx6.trans hw')))).mono fun e w'' hh => ⟨hh.1, hh.2.symm⟩
      (repeat (first | (apply wpStl_op; (focus (first | rfl | (go_simp; done))); (focus (intro w' hw'; have hcy := Ext.cells hw'; go_simp; first | done | rfl | exact ⟨rfl, rfl⟩)); (intro K hK; go_simp; refine hK _ ?_; clear hK K)) | (refine wpStl_no ?_ (fun K hK => ?_); (focus (first | rfl | (go_simp; done))); go_simp; refine hK _ ?_; clear hK K)))
      (show wpMid _ _ _ _ _ _ _; simp only [List.drop_succ_cons, List.drop_zero, List.take_succ_cons, List.take_zero, Nat.reduceSub])
      (show wpList _ _ _ _ _ _; try simp only [List.drop_succ_cons, List.drop_zero])
      have hx7 : Ext w w' := Fr.trans ((by repeat (first | with_reducible assumption | with_reducible exact Fr.refl _ _ | (with_reducible refine Fr.alloc ?_ _) | (with_reducible refine Fr.drew ?_) | (with_reducible refine Fr.drewN ?_ _) | (with_reducible refine Fr.setNew ?_ _ _ _ (by first | with_reducible exact Nat.le_refl _ | omega | (simp; omega)))))) hx6
      go_wp2_with (first | ((go_at_call 127; refine (read_fail r 0 0 _ _ _ ((HR.out.ext hx7).ext (Fr.refl _ _).drew)).mono ?_; rintro e w2 ⟨rfl, hr2, hx2⟩; have hc2 := Fr.cells hx2; have hf2 := Fr.frozens hx2; have hz2 := Fr.size hx2; simp only [One, Two, not_or, and_imp] at hc2 hf2; try simp [go_sem] at hz2; try (have hzl := Nat.lt_of_succ_le hz2; try (have hzm := Nat.lt_of_succ_lt hzl))); replace hc2 : ∀ b o, b < w'.heap.size → ¬ b = r → w2.cell? ⟨b, o, none⟩ = w'.cell? ⟨b, o, none⟩ := hc2; replace hf2 : ∀ b o, b < w'.heap.size → ¬ b = r → w2.frozen? ⟨b, o, none⟩ = w'.frozen? ⟨b, o, none⟩ := hf2; obtain ⟨q0, q1, q2, q3, q4⟩ := hr2.cells))
      refine bodyPost_ret (v := .agg #[.int .u64 0, .slice none 0 0, .slice none 0 0]) (by simp only [results, Tryz.results306]; go_simp) rfl ?_
      rw [hR.out]
      have hx9 : Fr (Two g r) w w2 := Fr.trans' (Fr.drew (Ext.any hx7)) hx2 (fun i _ h => Or.inr h)
      have hr2 : IsRd w2 r ((p + hi : Nat) : Int) 6 := by simpa using hr2
      exact ⟨0, none, 0, 0, none, 0, 0, .mk 0 [] [], rfl, SlC.nil _ _ _ _ _ (Nat.zero_le _) (fun _ => rfl), SlC.nil _ _ _ _ _ (Nat.zero_le _) (fun _ => rfl), ⟨rfl, by decide⟩, hr2.fr (F := One (w.heap.size + 1)) ((by repeat (first | with_reducible exact Fr.refl _ _ | (with_reducible refine Fr.set ?_ _ _ _ (One.self _)) | (with_reducible refine Fr.alloc ?_ _) | (with_reducible refine Fr.drew ?_)))) (fun h => hrn1 h.symm), by decide, (by repeat (first | with_reducible assumption | with_reducible exact Fr.refl _ _ | (with_reducible refine Fr.alloc ?_ _) | (with_reducible refine Fr.drew ?_) | (with_reducible refine Fr.drewN ?_ _) | (with_reducible refine Fr.setNew ?_ _ _ _ (by first | with_reducible exact Nat.le_refl _ | omega | (simp; omega)))))⟩
    · have hR : Hid (Form.read (.mk 4 s lo hi st []) l p = .ok (.mk 0 l [], l.length)) := Lib.hid (by simp [Form.read, a1, a2])
      have hbytes := fun w => read_bytes g r l p l.length ok w
      simp only [Nat.lt_irrefl, if_false, List.take_length] at hbytes
      have HY := Lib.hid hbytes
      clear hbytes
      have a1' : lo ≤ l.length := by omega
      have a2' : l.length ≤ hi := by omega
      obtain ⟨q0, q1, q2, q3, q4⟩ := HR.out.cells
      go_enter Tryz.func306, Tryz.ntmps306
      go_wp2
      refine wp_region_quietX (by kernel_rfl) (by kernel_rfl) ?_
      (repeat (first | (apply wpQuiet_op (hg := rfl); (focus (intro w' hw'; have hcx := Ext.cells hw'; have hzx := Fr.size hw'; go_simp; first | done | rfl | exact ⟨rfl, rfl⟩)); (intro K hK; go_simp; refine hK _ ?_; clear hK K)) | (refine wpQuiet_opW ?_ ?_ ?_ ?_; rotate_left; (focus (first | rfl | (go_simp; done))); (focus (intro w' hw'; have hcx := Ext.cells hw'; have hzx := Fr.size hw'; go_simp; first | done | rfl | exact ⟨rfl, rfl⟩)); (intro K hK; go_simp; refine hK _ ?_; clear hK K)) | (refine wpQuiet_no ?_ (fun K hK => ?_); (focus (first | rfl | (go_simp; done))); go_simp; refine hK _ ?_; clear hK K)))
      ((first | refine wpQuiet_op (.int .i64 l.length) rfl (fun w' hw' => ?_) (fun K hK => ?_) | (refine wpQuiet_opW (.int .i64 l.length) ?_ (fun w' hw' => ?_) (fun K hK => ?_); (focus (first | rfl | (go_simp; done))))); rotate_left; (go_simp; refine hK _ ?_; clear hK K); rotate_left; (have hcx := Ext.cells hw'; have hzx := Fr.size hw'; go_simp))
      · exact HL.out _ _ ((by repeat (first | with_reducible assumption | with_reducible exact Fr.refl _ _ | (with_reducible refine Fr.alloc ?_ _) | (with_reducible refine Fr.drew ?_) | (with_reducible refine Fr.drewN ?_ _) | (with_reducible refine Fr.setNew ?_ _ _ _ (by first | with_reducible exact Nat.le_refl _ | omega | (simp; omega)))))) hw'
      (repeat (first | (apply wpQuiet_op (hg := rfl); (focus (intro w' hw'; have hcx := Ext.cells hw'; have hzx := Fr.size hw'; go_simp; first | done | rfl | exact ⟨rfl, rfl⟩)); (intro K hK; go_simp; refine hK _ ?_; clear hK K)) | (refine wpQuiet_opW ?_ ?_ ?_ ?_; rotate_left; (focus (first | rfl | (go_simp; done))); (focus (intro w' hw'; have hcx := Ext.cells hw'; have hzx := Fr.size hw'; go_simp; first | done | rfl | exact ⟨rfl, rfl⟩)); (intro K hK; go_simp; refine hK _ ?_; clear hK K)) | (refine wpQuiet_no ?_ (fun K hK => ?_); (focus (first | rfl | (go_simp; done))); go_simp; refine hK _ ?_; clear hK K)))
      (refine wpQuiet_nil ?_; intro w' hw'; have hcx := Ext.cells hw'; have hfx := Ext.frozens hw'; have hzx := Fr.size hw'; try simp [go_sem] at hzx; try (have hzl := Nat.lt_of_succ_le hzx; try (have hzm := Nat.lt_of_succ_lt hzl)))
      go_wp2
      have hx5 := hw'
      clear hw' hcx
      have hc5 := Ext.cells hx5
      refine wp_region_quietX (by kernel_rfl) (by kernel_rfl) ?_
      (repeat (first | (apply wpQuiet_op (hg := rfl); (focus (intro w' hw'; have hcx := Ext.cells hw'; have hzx := Fr.size hw'; go_simp; first | done | rfl | exact ⟨rfl, rfl⟩)); (intro K hK; go_simp; refine hK _ ?_; clear hK K)) | (refine wpQuiet_opW ?_ ?_ ?_ ?_; rotate_left; (focus (first | rfl | (go_simp; done))); (focus (intro w' hw'; have hcx := Ext.cells hw'; have hzx := Fr.size hw'; go_simp; first | done | rfl | exact ⟨rfl, rfl⟩)); (intro K hK; go_simp; refine hK _ ?_; clear hK K)) | (refine wpQuiet_no ?_ (fun K hK => ?_); (focus (first | rfl | (go_simp; done))); go_simp; refine hK _ ?_; clear hK K)))
      ((first | refine wpQuiet_op (.int .i64 l.length) rfl (fun w' hw' => ?_) (fun K hK => ?_) | (refine wpQuiet_opW (.int .i64 l.length) ?_ (fun w' hw' => ?_) (fun K hK => ?_); (focus (first | rfl | (go_simp; done))))); rotate_left; (go_simp; refine hK _ ?_; clear hK K); rotate_left; (have hcx := Ext.cells hw'; have hzx := Fr.size hw'; go_simp))
      · exact HL.out _ _ (Fr.trans ((by repeat (first | with_reducible assumption | with_reducible exact Fr.refl _ _ | (with_reducible refine Fr.alloc ?_ _) | (with_reducible refine Fr.drew ?_) | (with_reducible refine Fr.drewN ?_ _) | (with_reducible refine Fr.setNew ?_ _ _ _ (by first | with_reducible exact Nat.le_refl _ | omega | (simp; omega)))))) hx5) hw'
      (repeat (first | (apply wpQuiet_op (hg := rfl); (focus (intro w' hw'; have hcx := Ext.cells hw'; have hzx := Fr.size hw'; go_simp; first | done | rfl | exact ⟨rfl, rfl⟩)); (intro K hK; go_simp; refine hK _ ?_; clear hK K)) | (refine wpQuiet_opW ?_ ?_ ?_ ?_; rotate_left; (focus (first | rfl | (go_simp; done))); (focus (intro w' hw'; have hcx := Ext.cells hw'; have hzx := Fr.size hw'; go_simp; first | done | rfl | exact ⟨rfl, rfl⟩)); (intro K hK; go_simp; refine hK _ ?_; clear hK K)) | (refine wpQuiet_no ?_ (fun K hK => ?_); (focus (first | rfl | (go_simp; done))); go_simp; refine hK _ ?_; clear hK K)))
      (refine wpQuiet_nil ?_; intro w' hw'; have hcx := Ext.cells hw'; have hfx := Ext.frozens hw'; have hzx := Fr.size hw'; try simp [go_sem] at hzx; try (have hzl := Nat.lt_of_succ_le hzx; try (have hzm := Nat.lt_of_succ_lt hzl)))
      have hx7 : Ext w w' := Fr.trans ((by repeat (first | with_reducible assumption | with_reducible exact Fr.refl _ _ | (with_reducible refine Fr.alloc ?_ _) | (with_reducible refine Fr.drew ?_) | (with_reducible refine Fr.drewN ?_ _) | (with_reducible refine Fr.setNew ?_ _ _ _ (by first | with_reducible exact Nat.le_refl _ | omega | (simp; omega)))))) (hx5.trans hw')
      have hz8 : w.heap.size < w'.heap.size := by omega
      have hz9 : w.heap.size + 1 < w'.heap.size := by omega
      have hc7 := Ext.cells hx7
      go_wp2_with (first | ((go_at_call 29; refine (cursor_Left g l p ok _ (HC.out.ext hx7)).mono ?_; rintro e w1 ⟨rfl, rfl⟩)) | (go_at_call 308; refine (HY.out _ (HC.out.ext hx7) (HR.out.ext hx7) (fun b hb => by have := HO.out b hb; omega) hm hne).mono ?_; intro e w3 hp3; obtain ⟨x3, A3, n3, c3, B3, m3, d3, v3, rfl, hr3⟩ := id hp3; clear hr3; have hx3 := hp3.fr; have hc3 := Fr.cells hx3; have hf3 := Fr.frozens hx3; have hz3 := Fr.size hx3; simp only [One, Two, not_or, and_imp] at hc3 hf3; try simp [go_sem] at hz3; try (have hzl := Nat.lt_of_succ_le hz3; try (have hzm := Nat.lt_of_succ_lt hzl))))
      refine bodyPost_ret (v := .agg #[.int .u64 x3, .slice A3 n3 c3, .slice B3 m3 d3]) (by simp only [results, Tryz.results306]; go_simp) rfl ?_
      rw [hR.out]
      exact ReadPost.put hp3 hx7 (Nat.le_succ _) hz9 hgl hrl HO.out _ _ _
end Go.Proofs.YtalbiepdkaldmaaGreatDoor
