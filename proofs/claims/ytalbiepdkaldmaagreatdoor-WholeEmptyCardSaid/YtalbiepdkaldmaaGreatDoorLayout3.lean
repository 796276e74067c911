/- layout: Check, of forms that are right. -/
import Derived.Test.YtalbiepdkaldmaaGreatDoorProg
import Derived.Test.YtalbiepdkaldmaaGreatDoorLayout2
import Derived.Deep.QuietTactic
import Derived.BigQuiet
import Derived.Deep.LoopGhost
set_option linter.unusedVariables false
set_option linter.unusedSimpArgs false
namespace Go.Proofs.YtalbiepdkaldmaaGreatDoor
open Go.RowKit

set_option maxHeartbeats 1000000 in
theorem index_deep (q : Addr) (A : Option Addr) (n c : Nat) (xs : List Form) (w : World) (h : SlC Rd.form w Any A n c xs)
    (hc : ∀ f A' n' c' w', f ∈ xs → Ext w w' → SlC Rd.form w' Any A' n' c' f.parts → Calls Tryz.prog 153 #[formV A' n' c' f, .pointer (some q)] w' fun e w'' => e = .returned (.bool false) ∧ Ext w' w'') :
    Calls Tryz.prog 177 #[.slice A n c, .func (.func 153) #[] #[.pointer (some q)]] w fun e w' => e = .returned (.int .i64 (-1)) ∧ Ext w w' := by
  have HC := Lib.hid hc
  clear hc
  have hlen := h.len
  have hsz : n ≤ 9223372036854775807 := Nat.le_trans h.le h.max
  go_enter Tryz.func177, Tryz.ntmps177
  go_wp2
  go_loopg [8] n (fun m i wr => m ≤ n ∧ i = .int .i64 ((n - m : Nat) : Int) ∧ Ext w wr)
  case atStart => exact ⟨Nat.le_refl _, by simp, (by repeat (first | with_reducible assumption | with_reducible exact Fr.refl _ _ | (with_reducible refine Fr.alloc ?_ _) | (with_reducible refine Fr.drew ?_) | (with_reducible refine Fr.drewN ?_ _) | (with_reducible refine Fr.setNew ?_ _ _ _ (by first | with_reducible exact Nat.le_refl _ | omega | (simp; omega)))))⟩
  case round =>
    obtain ⟨hm, rfl, hx⟩ := hrel
    generalize hj : n - gk = j
    have hj' : j + gk = n := by omega
    clear hj
    have hs := h.ext hx
    by_cases hlt : j < n
    · go_wp2_with (refine wpList_idx_form hs rfl _ _ _ rfl _ _ Tryz.underlying68 (size_form _) rfl rfl ?_ ?_ ?_)
      · omega
      · omega
      · intro b off g A2 n2 c2 hok hg hs2 d0 d1 d2 d3 d4 d5
        have H2 : Hid (g ∈ xs) := Lib.hid (by subst hg; exact List.getElem_mem _)
        clear hg
        go_wp2_with ((go_at_call 153; refine (HC.out g A2 n2 c2 _ H2.out hx hs2).mono ?_; rintro e w1 ⟨rfl, hx1⟩))
        go_roundg (gk - 1)
        case measure => omega
        case rel =>
          have e1 : n - (gk - 1) = j + 1 := by omega
          rw [e1]
          exact ⟨by omega, by simp, hx.trans hx1⟩
    · go_wp2
      go_ret
      exact ⟨rfl, hx⟩
theorem contains_deep (q : Addr) (A : Option Addr) (n c : Nat) (w : World)
    (hc : Calls Tryz.prog 177 #[.slice A n c, .func (.func 153) #[] #[.pointer (some q)]] w fun e w' => e = .returned (.int .i64 (-1)) ∧ Ext w w') :
    Calls Tryz.prog 151 #[.slice A n c, .func (.func 153) #[] #[.pointer (some q)]] w fun e w' => e = .returned (.bool false) ∧ Ext w w' := by
  have HC := Lib.hid hc
  clear hc
  go_enter Tryz.func151, Tryz.ntmps151
  go_wp2_with ((go_at_call 177; refine (HC.out).mono ?_; rintro e w1 ⟨rfl, hx1⟩))
  go_ret
  exact ⟨rfl, hx1⟩
set_option maxHeartbeats 1000000 in
theorem layout_deep (d : Nat) : ∀ (A : Option Addr) (n c : Nat) (f : Form) (w : World), f.depth ≤ d → d ≤ 8 → SlC Rd.form w Any A n c f.parts →
    Calls Tryz.prog 125 #[formV A n c f, .int .i64 d] w fun e w' => e = .returned (.bool false) ∧ Ext w w' := by
  induction d with
  | zero => intro A n c f w hd; have := depth_parts f; omega
  | succ d ih =>
    intro A n c f w hd h8 h
    have HI := Lib.hid ih
    clear ih
    have HP := Lib.hid (fun w h => layout_parts A n c f w h)
    have HD := Lib.hid hd
    clear hd
    simp only [formV]
    have e0 : (((d + 1 : Nat) : Int) == 0) = false := by simp; omega
    have key : Hid (∀ A' n' c' w1, SlC Rd.form w1 Any A' n' c' (if f.kind = 2 ∨ f.kind = 3 then f.parts else []) → Ext ((w.alloc (Obj.cells #[Value.int IntKind.i64 ↑f.kind, Value.int IntKind.i64 ↑f.size, Value.int IntKind.i64 ↑f.lo, Value.int IntKind.i64 ↑f.hi, Value.int IntKind.i64 ↑f.step, Value.slice A n c] 70)).alloc (Obj.cells #[Value.int IntKind.i64 ((d : Int) + 1)] 3)) w1 →
        Calls Tryz.prog 177 #[.slice A' n' c', .func (.func 153) #[] #[.pointer (some ⟨w.heap.size + 1, 0, none⟩)]] w1 fun e w' => e = .returned (.int .i64 (-1)) ∧ Ext w1 w') := by
      refine Lib.hid fun A' n' c' w1 hs hx => index_deep _ A' n' c' _ w1 hs fun g A2 n2 c2 w2 hg hx2 hs2 => ?_
      have hgp : g ∈ f.parts := by split at hg; exact hg; simp at hg
      have hgd : g.depth ≤ d := by have h1 := depth_mem hgp; have h2 := depth_parts f; have h3 := HD.out; omega
      have hz2 : w.heap.size + 2 ≤ w2.heap.size := by have h1 := hx.size; have h2 := hx2.size; simp [go_sem] at h1; omega
      have hz3 : w.heap.size + 1 < w2.heap.size := by omega
      have hz4 : ¬ (w.heap.size + 1 = w2.heap.size) := by omega
      have hcell : w2.cell? ⟨w.heap.size + 1, 0, none⟩ = some (.int .i64 ((d : Int) + 1)) := by
        have hx3 := hx.trans hx2
        rw [Ext.cells hx3 _ _ (by simp)]
        simp [go_sem]
      have c1 := Lib.hid (fun w h => HI.out A2 n2 c2 g w hgd (by omega) h)
      clear hx hs hgd hg hgp HI HP HD h hx2
      simp only [formV]
      go_enter Tryz.func153, Tryz.ntmps153
      go_wp2_with ((go_at_call 125; refine (c1.out _ (hs2.ext ((by repeat (first | with_reducible assumption | with_reducible exact Fr.refl _ _ | (with_reducible refine Fr.alloc ?_ _) | (with_reducible refine Fr.drew ?_) | (with_reducible refine Fr.drewN ?_ _) | (with_reducible refine Fr.setNew ?_ _ _ _ (by first | with_reducible exact Nat.le_refl _ | omega | (simp; omega)))))))).mono ?_; rintro e w1 ⟨rfl, hx1⟩))
      go_ret
      exact ⟨rfl, Fr.trans ((by repeat (first | with_reducible assumption | with_reducible exact Fr.refl _ _ | (with_reducible refine Fr.alloc ?_ _) | (with_reducible refine Fr.drew ?_) | (with_reducible refine Fr.drewN ?_ _) | (with_reducible refine Fr.setNew ?_ _ _ _ (by first | with_reducible exact Nat.le_refl _ | omega | (simp; omega)))))) hx1⟩
    go_enter Tryz.func125, Tryz.ntmps125
    go_wp2_with (first | ((go_at_call 152; refine (HP.out _ (h.ext ((by repeat (first | with_reducible assumption | with_reducible exact Fr.refl _ _ | (with_reducible refine Fr.alloc ?_ _) | (with_reducible refine Fr.drew ?_) | (with_reducible refine Fr.drewN ?_ _) | (with_reducible refine Fr.setNew ?_ _ _ _ (by first | with_reducible exact Nat.le_refl _ | omega | (simp; omega)))))))).mono ?_; rintro e w1 ⟨A', n', c', rfl, hs, hx1⟩)) | ((go_at_call 151; refine (contains_deep _ _ _ _ _ (key.out _ _ _ _ hs hx1)).mono ?_; rintro e w2 ⟨rfl, hx2⟩)))
    go_ret
    exact ⟨rfl, Fr.trans ((by repeat (first | with_reducible assumption | with_reducible exact Fr.refl _ _ | (with_reducible refine Fr.alloc ?_ _) | (with_reducible refine Fr.drew ?_) | (with_reducible refine Fr.drewN ?_ _) | (with_reducible refine Fr.setNew ?_ _ _ _ (by first | with_reducible exact Nat.le_refl _ | omega | (simp; omega)))))) (hx1.trans hx2)⟩

/-! ### own -/
set_option maxHeartbeats 4000000 in
set_option maxRecDepth 4000 in
theorem layout_own (A : Option Addr) (n c : Nat) (f : Form) (w : World) (hn : n = f.parts.length) (ho : f.own = true) :
    Calls Tryz.prog 154 #[formV A n c f] w fun e w' => e = .returned (.int .i64 0) ∧ Ext w w' := by
  obtain ⟨k, s, lo, hi, st, ps⟩ := f
  simp only [formV, Form.kind, Form.size, Form.lo, Form.hi, Form.step, Form.parts] at hn ⊢
  have hk : k ≤ 5 := by
    match k, ho with
    | 0, _ | 1, _ | 2, _ | 3, _ | 4, _ | 5, _ => omega
    | k + 6, ho => simp [Form.own] at ho
  match k, hk with
  | 0, _ =>
    simp [Form.own] at ho
    obtain ⟨⟨h1, h2⟩, rfl⟩ := ho
    clear hk
    go_enter Tryz.func154, Tryz.ntmps154
    go_wp2
    go_ret
    exact ⟨rfl, (by repeat (first | with_reducible assumption | with_reducible exact Fr.refl _ _ | (with_reducible refine Fr.alloc ?_ _) | (with_reducible refine Fr.drew ?_) | (with_reducible refine Fr.drewN ?_ _) | (with_reducible refine Fr.setNew ?_ _ _ _ (by first | with_reducible exact Nat.le_refl _ | omega | (simp; omega)))))⟩
  | 1, _ =>
    simp [Form.own] at ho
    obtain ⟨⟨h1, h2, h3, h4, h5, h6⟩, hp⟩ := ho
    clear hk
    have HB := Lib.hid (fun w m h => layout_bounds lo hi m w h3 h)
    subst hp
    have H4 := Lib.hid h4
    clear h3 h4
    have e5 : decide ((st : Int) < 1) = false := by simp; omega
    have e6 : decide (65536 < (st : Int)) = false := by simp; omega
    have hs : s = 1 ∨ s = 2 ∨ s = 3 := by omega
    clear h1 h2
    rcases hs with rfl | rfl | rfl
    all_goals
      go_enter Tryz.func154, Tryz.ntmps154
      go_wp2
      refine wp_region_quietX (by kernel_rfl) (by kernel_rfl) ?_
      (repeat (first | (apply wpQuiet_op (hg := rfl); (focus (intro w' hw'; have hcx := Ext.cells hw'; have hzx := Fr.size hw'; go_simp; first | done | rfl | exact ⟨rfl, rfl⟩)); (intro K hK; go_simp; refine hK _ ?_; clear hK K)) | (refine wpQuiet_opW ?_ ?_ ?_ ?_; rotate_left; (focus (first | rfl | (go_simp; done))); (focus (intro w' hw'; have hcx := Ext.cells hw'; have hzx := Fr.size hw'; go_simp; first | done | rfl | exact ⟨rfl, rfl⟩)); (intro K hK; go_simp; refine hK _ ?_; clear hK K)) | (refine wpQuiet_no ?_ (fun K hK => ?_); (focus (first | rfl | (go_simp; done))); go_simp; refine hK _ ?_; clear hK K)))
      ((first | refine wpQuiet_op (.int .i64 0) rfl (fun w' hw' => ?_) (fun K hK => ?_) | (refine wpQuiet_opW (.int .i64 0) ?_ (fun w' hw' => ?_) (fun K hK => ?_); (focus (first | rfl | (go_simp; done))))); rotate_left; (go_simp; refine hK _ ?_; clear hK K); rotate_left; (have hcx := Ext.cells hw'; have hzx := Fr.size hw'; go_simp))
      · refine (HB.out _ _ (Nat.le_trans H4.out (by decide))).mono ?_
        rintro e w1 ⟨rfl, rfl⟩
        exact ⟨rfl, hw'⟩
      (repeat (first | (apply wpQuiet_op (hg := rfl); (focus (intro w' hw'; have hcx := Ext.cells hw'; have hzx := Fr.size hw'; go_simp; first | done | rfl | exact ⟨rfl, rfl⟩)); (intro K hK; go_simp; refine hK _ ?_; clear hK K)) | (refine wpQuiet_opW ?_ ?_ ?_ ?_; rotate_left; (focus (first | rfl | (go_simp; done))); (focus (intro w' hw'; have hcx := Ext.cells hw'; have hzx := Fr.size hw'; go_simp; first | done | rfl | exact ⟨rfl, rfl⟩)); (intro K hK; go_simp; refine hK _ ?_; clear hK K)) | (refine wpQuiet_no ?_ (fun K hK => ?_); (focus (first | rfl | (go_simp; done))); go_simp; refine hK _ ?_; clear hK K)))
      (refine wpQuiet_nil ?_; intro w' hw'; have hcx := Ext.cells hw'; have hfx := Ext.frozens hw'; have hzx := Fr.size hw'; try simp [go_sem] at hzx; try (have hzl := Nat.lt_of_succ_le hzx; try (have hzm := Nat.lt_of_succ_lt hzl)))
      go_wp2
      go_ret
      exact ⟨rfl, Fr.trans ((by repeat (first | with_reducible assumption | with_reducible exact Fr.refl _ _ | (with_reducible refine Fr.alloc ?_ _) | (with_reducible refine Fr.drew ?_) | (with_reducible refine Fr.drewN ?_ _) | (with_reducible refine Fr.setNew ?_ _ _ _ (by first | with_reducible exact Nat.le_refl _ | omega | (simp; omega)))))) hw'⟩
  | 2, _ =>
    simp [Form.own] at ho
    obtain ⟨⟨h1, h2, h3, h4, h5, h6⟩, hp⟩ := ho
    clear hk
    have HB := Lib.hid (fun w m h => layout_bounds lo hi m w h3 h)
    have hn1 : n = 1 := by omega
    clear hn hp; subst hn1
    have H4 := Lib.hid h4
    clear h3 h4
    have e5 : decide ((st : Int) < 1) = false := by simp; omega
    have e6 : decide (65536 < (st : Int)) = false := by simp; omega
    have hs : s = 1 ∨ s = 2 ∨ s = 3 := by omega
    clear h1 h2
    rcases hs with rfl | rfl | rfl
    all_goals
      go_enter Tryz.func154, Tryz.ntmps154
      go_wp2
      refine wp_region_quietX (by kernel_rfl) (by kernel_rfl) ?_
      (repeat (first | (apply wpQuiet_op (hg := rfl); (focus (intro w' hw'; have hcx := Ext.cells hw'; have hzx := Fr.size hw'; go_simp; first | done | rfl | exact ⟨rfl, rfl⟩)); (intro K hK; go_simp; refine hK _ ?_; clear hK K)) | (refine wpQuiet_opW ?_ ?_ ?_ ?_; rotate_left; (focus (first | rfl | (go_simp; done))); (focus (intro w' hw'; have hcx := Ext.cells hw'; have hzx := Fr.size hw'; go_simp; first | done | rfl | exact ⟨rfl, rfl⟩)); (intro K hK; go_simp; refine hK _ ?_; clear hK K)) | (refine wpQuiet_no ?_ (fun K hK => ?_); (focus (first | rfl | (go_simp; done))); go_simp; refine hK _ ?_; clear hK K)))
      ((first | refine wpQuiet_op (.int .i64 0) rfl (fun w' hw' => ?_) (fun K hK => ?_) | (refine wpQuiet_opW (.int .i64 0) ?_ (fun w' hw' => ?_) (fun K hK => ?_); (focus (first | rfl | (go_simp; done))))); rotate_left; (go_simp; refine hK _ ?_; clear hK K); rotate_left; (have hcx := Ext.cells hw'; have hzx := Fr.size hw'; go_simp))
      · refine (HB.out _ _ (Nat.le_trans H4.out (by decide))).mono ?_
        rintro e w1 ⟨rfl, rfl⟩
        exact ⟨rfl, hw'⟩
      (repeat (first | (apply wpQuiet_op (hg := rfl); (focus (intro w' hw'; have hcx := Ext.cells hw'; have hzx := Fr.size hw'; go_simp; first | done | rfl | exact ⟨rfl, rfl⟩)); (intro K hK; go_simp; refine hK _ ?_; clear hK K)) | (refine wpQuiet_opW ?_ ?_ ?_ ?_; rotate_left; (focus (first | rfl | (go_simp; done))); (focus (intro w' hw'; have hcx := Ext.cells hw'; have hzx := Fr.size hw'; go_simp; first | done | rfl | exact ⟨rfl, rfl⟩)); (intro K hK; go_simp; refine hK _ ?_; clear hK K)) | (refine wpQuiet_no ?_ (fun K hK => ?_); (focus (first | rfl | (go_simp; done))); go_simp; refine hK _ ?_; clear hK K)))
      (refine wpQuiet_nil ?_; intro w' hw'; have hcx := Ext.cells hw'; have hfx := Ext.frozens hw'; have hzx := Fr.size hw'; try simp [go_sem] at hzx; try (have hzl := Nat.lt_of_succ_le hzx; try (have hzm := Nat.lt_of_succ_lt hzl)))
      go_wp2
      go_ret
      exact ⟨rfl, Fr.trans ((by repeat (first | with_reducible assumption | with_reducible exact Fr.refl _ _ | (with_reducible refine Fr.alloc ?_ _) | (with_reducible refine Fr.drew ?_) | (with_reducible refine Fr.drewN ?_ _) | (with_reducible refine Fr.setNew ?_ _ _ _ (by first | with_reducible exact Nat.le_refl _ | omega | (simp; omega)))))) hw'⟩
  | 3, _ =>
    simp [Form.own] at ho
    clear hk
    go_enter Tryz.func154, Tryz.ntmps154
    go_wp2
    go_ret
    exact ⟨rfl, (by repeat (first | with_reducible assumption | with_reducible exact Fr.refl _ _ | (with_reducible refine Fr.alloc ?_ _) | (with_reducible refine Fr.drew ?_) | (with_reducible refine Fr.drewN ?_ _) | (with_reducible refine Fr.setNew ?_ _ _ _ (by first | with_reducible exact Nat.le_refl _ | omega | (simp; omega)))))⟩
  | 4, _ =>
    simp [Form.own] at ho
    obtain ⟨⟨h1, h2⟩, rfl⟩ := ho
    clear hk
    have HB := Lib.hid (fun w => layout_bounds lo hi 16777215 w h1 h2)
    go_enter Tryz.func154, Tryz.ntmps154
    go_wp2_with ((go_at_call 178; refine (HB.out _).mono ?_; rintro e w1 ⟨rfl, rfl⟩))
    go_ret
    exact ⟨rfl, (by repeat (first | with_reducible assumption | with_reducible exact Fr.refl _ _ | (with_reducible refine Fr.alloc ?_ _) | (with_reducible refine Fr.drew ?_) | (with_reducible refine Fr.drewN ?_ _) | (with_reducible refine Fr.setNew ?_ _ _ _ (by first | with_reducible exact Nat.le_refl _ | omega | (simp; omega)))))⟩
  | 5, _ =>
    simp [Form.own] at ho
    obtain ⟨h1, rfl⟩ := ho
    clear hk
    have HB := Lib.hid (fun w => layout_bounds lo lo 16777215 w (Nat.le_refl _) h1)
    go_enter Tryz.func154, Tryz.ntmps154
    go_wp2_with ((go_at_call 178; refine (HB.out _).mono ?_; rintro e w1 ⟨rfl, rfl⟩))
    go_ret
    exact ⟨rfl, (by repeat (first | with_reducible assumption | with_reducible exact Fr.refl _ _ | (with_reducible refine Fr.alloc ?_ _) | (with_reducible refine Fr.drew ?_) | (with_reducible refine Fr.drewN ?_ _) | (with_reducible refine Fr.setNew ?_ _ _ _ (by first | with_reducible exact Nat.le_refl _ | omega | (simp; omega)))))⟩
end Go.Proofs.YtalbiepdkaldmaaGreatDoor
