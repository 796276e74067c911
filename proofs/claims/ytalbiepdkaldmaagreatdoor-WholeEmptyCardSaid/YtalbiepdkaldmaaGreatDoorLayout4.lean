/- layout: check, Check, of forms that are right. -/
import Derived.Test.YtalbiepdkaldmaaGreatDoorProg
import Derived.Test.YtalbiepdkaldmaaGreatDoorLayout3
import Derived.Deep.QuietTactic
import Derived.BigQuiet
import Derived.Deep.LoopGhost
set_option linter.unusedVariables false
set_option linter.unusedSimpArgs false
namespace Go.Proofs.YtalbiepdkaldmaaGreatDoor
open Go.RowKit

theorem Form.wf_own {f : Form} (h : f.wf = true) : f.own = true := by
  obtain ⟨k, s, lo, hi, st, ps⟩ := f
  simp only [Form.wf, Bool.and_eq_true] at h
  exact h.1.1.1
theorem Form.wf_parts {f g : Form} (h : f.wf = true) (hg : g ∈ f.parts) : g.wf = true := by
  obtain ⟨k, s, lo, hi, st, ps⟩ := f
  simp only [Form.wf, Bool.and_eq_true] at h
  exact Form.wfs_mem h.1.1.2 hg
theorem Form.wf_item {f g : Form} (h : f.wf = true) (hk : f.kind = 2) (hg : g ∈ f.parts) : g.isOpen = false ∧ g.least ≠ 0 ∧ g.least ≤ 4294967296 := by
  obtain ⟨k, s, lo, hi, st, ps⟩ := f
  simp only [Form.kind, Form.parts] at hk hg
  subst hk
  simp only [Form.wf, Bool.and_eq_true, bne_self_eq_false, Bool.false_or, List.all_eq_true] at h
  have := h.1.2 g hg
  simpa [and_assoc] using this
theorem Form.wf_closed {f g : Form} (h : f.wf = true) {j : Nat} (hj : f.parts[j]? = some g) (hl : j + 1 < f.parts.length) : g.isOpen = false := by
  obtain ⟨k, s, lo, hi, st, ps⟩ := f
  simp only [Form.parts] at hj hl
  simp only [Form.wf, Bool.and_eq_true, List.all_eq_true] at h
  have hm : g ∈ ps.dropLast := by
    rw [List.mem_iff_getElem?]
    exact ⟨j, by rw [List.getElem?_dropLast, if_pos (by omega)]; exact hj⟩
  simpa using h.2 g hm
theorem Form.wf_one {f : Form} (h : f.wf = true) (hk : f.kind = 2) : f.parts.length = 1 := by
  have := Form.wf_own h
  obtain ⟨k, s, lo, hi, st, ps⟩ := f
  simp only [Form.kind] at hk
  subst hk
  simp [Form.own] at this
  exact this.2

set_option maxHeartbeats 4000000 in
set_option maxRecDepth 4000 in
theorem layout_check (d : Nat) : ∀ (A : Option Addr) (n c : Nat) (f : Form) (w : World), f.depth ≤ d → f.wf = true → SlC Rd.form w Any A n c f.parts →
    Calls Tryz.prog 126 #[formV A n c f] w fun e w' => e = .returned (.int .i64 0) ∧ Ext w w' := by
  induction d with
  | zero => intro A n c f w hd; have := depth_parts f; omega
  | succ d ih =>
    intro A n c f w hd hw h
    have HI := Lib.hid ih
    clear ih
    have HP := Lib.hid (fun w h => layout_parts A n c f w h)
    have HO := Lib.hid (fun w => layout_own A n c f w h.len.symm (Form.wf_own hw))
    have HD := Lib.hid hd
    have HW := Lib.hid hw
    clear hd hw
    simp only [formV]
    go_enter Tryz.func126, Tryz.ntmps126
    go_wp2_with (first | ((go_at_call 154; refine (HO.out _).mono ?_; rintro e w0 ⟨rfl, hx0⟩; have hc0 := Ext.cells hx0; have hf0 := Ext.frozens hx0; have hz0 := Fr.size hx0; try simp [go_sem] at hz0; try (have hzl := Nat.lt_of_succ_le hz0; try (have hzm := Nat.lt_of_succ_lt hzl)))) | ((go_at_call 152; refine (HP.out _ (h.ext (Fr.trans ((by repeat (first | with_reducible assumption | with_reducible exact Fr.refl _ _ | (with_reducible refine Fr.alloc ?_ _) | (with_reducible refine Fr.drew ?_) | (with_reducible refine Fr.drewN ?_ _) | (with_reducible refine Fr.setNew ?_ _ _ _ (by first | with_reducible exact Nat.le_refl _ | omega | (simp; omega)))))) hx0))).mono ?_; rintro e w1 ⟨A', n', c', rfl, hs, hx1⟩; have hc1 := Ext.cells hx1; have hf1 := Ext.frozens hx1; have hz1 := Fr.size hx1; try simp [go_sem] at hz1; try (have hzl := Nat.lt_of_succ_le hz1; try (have hzm := Nat.lt_of_succ_lt hzl)))))
    generalize hxs : (if f.kind = 2 ∨ f.kind = 3 then f.parts else []) = xs at hs
    have hmem : ∀ g, g ∈ xs → g ∈ f.parts := fun g hg => by subst hxs; split at hg; exact hg; simp at hg
    have HM := Lib.hid hmem
    have HX := Lib.hid hxs
    clear hxs hmem
    have hlen := hs.len
    have hsz : n' ≤ 9223372036854775807 := Nat.le_trans hs.le hs.max
    have hx2 := hx0.trans hx1
    go_loopg [19] n' (fun m i wr => m ≤ n' ∧ i = .int .i64 ((n' - m : Nat) : Int) ∧ Ext w1 wr)
    case atStart => exact ⟨Nat.le_refl _, by simp, (by repeat (first | with_reducible assumption | with_reducible exact Fr.refl _ _ | (with_reducible refine Fr.alloc ?_ _) | (with_reducible refine Fr.drew ?_) | (with_reducible refine Fr.drewN ?_ _) | (with_reducible refine Fr.setNew ?_ _ _ _ (by first | with_reducible exact Nat.le_refl _ | omega | (simp; omega)))))⟩
    case round =>
      obtain ⟨hm, rfl, hx⟩ := hrel
      generalize hj : n' - gk = j
      have hj' : j + gk = n' := by omega
      clear hj
      have hs1 := hs.ext hx
      by_cases hlt : j < n'
      · go_wp2_with (refine wpList_idx_form hs1 rfl _ _ _ rfl _ _ Tryz.underlying68 (size_form _) rfl rfl ?_ ?_ ?_)
        · omega
        · omega
        · intro b off g A2 n2 c2 hok hg hs2 d0 d1 d2 d3 d4 d5
          have hgp : g ∈ f.parts := HM.out g (by subst hg; exact List.getElem_mem _)
          have H2 := Lib.hid hgp
          have hgd : g.depth ≤ d := by have h1 := depth_mem hgp; have h2 := depth_parts f; have h3 := HD.out; omega
          clear hg hgp
          go_wp2_with ((go_at_call 126; refine (HI.out A2 n2 c2 g _ hgd (Form.wf_parts HW.out H2.out) (hs2.ext ((by repeat (first | with_reducible assumption | with_reducible exact Fr.refl _ _ | (with_reducible refine Fr.alloc ?_ _) | (with_reducible refine Fr.drew ?_) | (with_reducible refine Fr.drewN ?_ _) | (with_reducible refine Fr.setNew ?_ _ _ _ (by first | with_reducible exact Nat.le_refl _ | omega | (simp; omega))))))).any).mono ?_; rintro e w3 ⟨rfl, hx3⟩; have hc3 := Ext.cells hx3; have hf3 := Ext.frozens hx3; have hz3 := Fr.size hx3; try simp [go_sem] at hz3; try (have hzl := Nat.lt_of_succ_le hz3; try (have hzm := Nat.lt_of_succ_lt hzl))))
          go_roundg (gk - 1)
          case measure => omega
          case rel =>
            have e1 : n' - (gk - 1) = j + 1 := by omega
            rw [e1]
            exact ⟨by omega, by simp, hx.trans (Fr.trans ((by repeat (first | with_reducible assumption | with_reducible exact Fr.refl _ _ | (with_reducible refine Fr.alloc ?_ _) | (with_reducible refine Fr.drew ?_) | (with_reducible refine Fr.drewN ?_ _) | (with_reducible refine Fr.setNew ?_ _ _ _ (by first | with_reducible exact Nat.le_refl _ | omega | (simp; omega)))))) hx3)⟩
      · go_wp2
        have hx9 := hx2.trans hx
        clear hm hj' hlt hs1
        go_loopg [31] n' (fun m i wr2 => m ≤ n' ∧ i = .int .i64 ((n' - m : Nat) : Int) ∧ Ext wr wr2)
        case atStart => exact ⟨Nat.le_refl _, by simp, (by repeat (first | with_reducible assumption | with_reducible exact Fr.refl _ _ | (with_reducible refine Fr.alloc ?_ _) | (with_reducible refine Fr.drew ?_) | (with_reducible refine Fr.drewN ?_ _) | (with_reducible refine Fr.setNew ?_ _ _ _ (by first | with_reducible exact Nat.le_refl _ | omega | (simp; omega)))))⟩
        case round =>
          obtain ⟨hm, rfl, hx8⟩ := hrel
          generalize hj : n' - gk = j
          have hj' : j + gk = n' := by omega
          clear hj
          have hs1 := hs.ext (hx.trans hx8)
          have hxA := hx0.trans ((hx1.trans hx).trans hx8)
          have hcA := Ext.cells hxA; have hfA := Ext.frozens hxA; have hzA := Fr.size hxA; try simp [go_sem] at hzA
          have hzB : w.heap.size < wr.heap.size := by omega
          clear hx9 hx
          by_cases hlt : j < n'
          · go_wp2_with (refine wpList_idx_form hs1 rfl _ _ _ rfl _ _ Tryz.underlying68 (size_form _) rfl rfl ?_ ?_ ?_)
            · omega
            · omega
            · intro b off g A2 n2 c2 hok hg hs2 d0 d1 d2 d3 d4 d5
              have hgp : g ∈ f.parts := HM.out g (by subst hg; exact List.getElem_mem _)
              have H2 := Lib.hid hgp
              have hop := Lib.hid (fun w h => layout_Open A2 n2 c2 g w h)
              have HE : Hid (xs[j]? = some g) := Lib.hid (by rw [← hg]; exact List.getElem?_eq_getElem _)
              clear hg hgp
              by_cases hk : f.kind = 2
              · obtain ⟨i1, i2, i3⟩ := Form.wf_item HW.out hk H2.out
                have HL := Lib.hid (fun w h => layout_Least A2 n2 c2 g w h i3)
                have i4 : ((g.least : Int) == 0) = false := by simp; omega
                clear i2 i3
                have e2 : ((f.kind : Int) == 2) = true := by simp; omega
                clear hk
                go_wp2_with (first | ((go_at_call 155; refine (hop.out _ (hs2.ext ((by repeat (first | with_reducible assumption | with_reducible exact Fr.refl _ _ | (with_reducible refine Fr.alloc ?_ _) | (with_reducible refine Fr.drew ?_) | (with_reducible refine Fr.drewN ?_ _) | (with_reducible refine Fr.setNew ?_ _ _ _ (by first | with_reducible exact Nat.le_refl _ | omega | (simp; omega))))))).any).mono ?_; rintro e w3 ⟨rfl, hx3⟩; have hc3 := Ext.cells hx3; have hf3 := Ext.frozens hx3; have hz3 := Fr.size hx3; try simp [go_sem] at hz3; try (have hzl := Nat.lt_of_succ_le hz3; try (have hzm := Nat.lt_of_succ_lt hzl)))) | ((go_at_call 156; refine (HL.out _ (hs2.ext (Fr.trans ((by repeat (first | with_reducible assumption | with_reducible exact Fr.refl _ _ | (with_reducible refine Fr.alloc ?_ _) | (with_reducible refine Fr.drew ?_) | (with_reducible refine Fr.drewN ?_ _) | (with_reducible refine Fr.setNew ?_ _ _ _ (by first | with_reducible exact Nat.le_refl _ | omega | (simp; omega)))))) hx3)).any).mono ?_; rintro e w4 ⟨rfl, hx4⟩; have hc4 := Ext.cells hx4; have hf4 := Ext.frozens hx4; have hz4 := Fr.size hx4; try simp [go_sem] at hz4; try (have hzl := Nat.lt_of_succ_le hz4; try (have hzm := Nat.lt_of_succ_lt hzl)))))
                go_roundg (gk - 1)
                case measure => omega
                case rel =>
                  have e1 : n' - (gk - 1) = j + 1 := by omega
                  rw [e1]
                  exact ⟨by omega, by simp, hx8.trans (Fr.trans ((by repeat (first | with_reducible assumption | with_reducible exact Fr.refl _ _ | (with_reducible refine Fr.alloc ?_ _) | (with_reducible refine Fr.drew ?_) | (with_reducible refine Fr.drewN ?_ _) | (with_reducible refine Fr.setNew ?_ _ _ _ (by first | with_reducible exact Nat.le_refl _ | omega | (simp; omega)))))) (hx3.trans hx4))⟩
              · have e2 : ((f.kind : Int) == 2) = false := by simp; omega
                by_cases hl : j + 1 < n'
                · have i1 : g.isOpen = false := by
                    have hX := HX.out
                    have h3 : f.parts = xs := by
                      rcases Classical.em (f.kind = 2 ∨ f.kind = 3) with hc | hc
                      · rw [if_pos hc] at hX; exact hX
                      · rw [if_neg hc] at hX; subst hX; simp at hlen; omega
                    have hE := HE.out
                    rw [← h3] at hE
                    exact Form.wf_closed HW.out hE (by rw [h3, hlen]; exact hl)
                  go_wp2_with (first | ((go_at_call 155; refine (hop.out _ (hs2.ext ((by repeat (first | with_reducible assumption | with_reducible exact Fr.refl _ _ | (with_reducible refine Fr.alloc ?_ _) | (with_reducible refine Fr.drew ?_) | (with_reducible refine Fr.drewN ?_ _) | (with_reducible refine Fr.setNew ?_ _ _ _ (by first | with_reducible exact Nat.le_refl _ | omega | (simp; omega))))))).any).mono ?_; rintro e w3 ⟨rfl, hx3⟩; have hc3 := Ext.cells hx3; have hf3 := Ext.frozens hx3; have hz3 := Fr.size hx3; try simp [go_sem] at hz3; try (have hzl := Nat.lt_of_succ_le hz3; try (have hzm := Nat.lt_of_succ_lt hzl)))))
                  go_roundg (gk - 1)
                  case measure => omega
                  case rel =>
                    have e1 : n' - (gk - 1) = j + 1 := by omega
                    rw [e1]
                    exact ⟨by omega, by simp, hx8.trans (Fr.trans ((by repeat (first | with_reducible assumption | with_reducible exact Fr.refl _ _ | (with_reducible refine Fr.alloc ?_ _) | (with_reducible refine Fr.drew ?_) | (with_reducible refine Fr.drewN ?_ _) | (with_reducible refine Fr.setNew ?_ _ _ _ (by first | with_reducible exact Nat.le_refl _ | omega | (simp; omega)))))) hx3)⟩
                · have i5 : decide ((j : Int) < (n' : Int) - 1) = false := by simp; omega
                  cases hop2 : g.isOpen
                  all_goals
                    go_wp2_with (first | ((go_at_call 155; refine (hop.out _ (hs2.ext ((by repeat (first | with_reducible assumption | with_reducible exact Fr.refl _ _ | (with_reducible refine Fr.alloc ?_ _) | (with_reducible refine Fr.drew ?_) | (with_reducible refine Fr.drewN ?_ _) | (with_reducible refine Fr.setNew ?_ _ _ _ (by first | with_reducible exact Nat.le_refl _ | omega | (simp; omega))))))).any).mono ?_; rintro e w3 ⟨rfl, hx3⟩; have hc3 := Ext.cells hx3; have hf3 := Ext.frozens hx3; have hz3 := Fr.size hx3; try simp [go_sem] at hz3; try (have hzl := Nat.lt_of_succ_le hz3; try (have hzm := Nat.lt_of_succ_lt hzl)))))
                    go_roundg (gk - 1)
                    case measure => omega
                    case rel =>
                      have e1 : n' - (gk - 1) = j + 1 := by omega
                      rw [e1]
                      exact ⟨by omega, by simp, hx8.trans (Fr.trans ((by repeat (first | with_reducible assumption | with_reducible exact Fr.refl _ _ | (with_reducible refine Fr.alloc ?_ _) | (with_reducible refine Fr.drew ?_) | (with_reducible refine Fr.drewN ?_ _) | (with_reducible refine Fr.setNew ?_ _ _ _ (by first | with_reducible exact Nat.le_refl _ | omega | (simp; omega)))))) hx3)⟩
          · go_wp2
            go_ret
            exact ⟨rfl, Fr.trans ((by repeat (first | with_reducible assumption | with_reducible exact Fr.refl _ _ | (with_reducible refine Fr.alloc ?_ _) | (with_reducible refine Fr.drew ?_) | (with_reducible refine Fr.drewN ?_ _) | (with_reducible refine Fr.setNew ?_ _ _ _ (by first | with_reducible exact Nat.le_refl _ | omega | (simp; omega)))))) hxA⟩

theorem layout_Check (A : Option Addr) (n c : Nat) (f : Form) (w : World) (h : SlC Rd.form w Any A n c f.parts) (hw : f.wf = true) (hd : f.depth ≤ 8) :
    Calls Tryz.prog 90 #[formV A n c f] w fun e w' => e = .returned (.int .i64 0) ∧ Ext w w' := by
  have HC := Lib.hid (fun w h => layout_check f.depth A n c f w (Nat.le_refl _) hw h)
  have HE := Lib.hid (fun w h => layout_deep 8 A n c f w hd (Nat.le_refl _) h)
  clear hw hd
  simp only [formV]
  go_enter Tryz.func90, Tryz.ntmps90
  go_wp2_with (first | ((go_at_call 125; refine (HE.out _ (h.ext ((by repeat (first | with_reducible assumption | with_reducible exact Fr.refl _ _ | (with_reducible refine Fr.alloc ?_ _) | (with_reducible refine Fr.drew ?_) | (with_reducible refine Fr.drewN ?_ _) | (with_reducible refine Fr.setNew ?_ _ _ _ (by first | with_reducible exact Nat.le_refl _ | omega | (simp; omega)))))))).mono ?_; rintro e w1 ⟨rfl, hx1⟩; have hc1 := Ext.cells hx1; have hf1 := Ext.frozens hx1; have hz1 := Fr.size hx1; try simp [go_sem] at hz1; try (have hzl := Nat.lt_of_succ_le hz1; try (have hzm := Nat.lt_of_succ_lt hzl)))) | ((go_at_call 126; refine (HC.out _ (h.ext (Fr.trans ((by repeat (first | with_reducible assumption | with_reducible exact Fr.refl _ _ | (with_reducible refine Fr.alloc ?_ _) | (with_reducible refine Fr.drew ?_) | (with_reducible refine Fr.drewN ?_ _) | (with_reducible refine Fr.setNew ?_ _ _ _ (by first | with_reducible exact Nat.le_refl _ | omega | (simp; omega)))))) hx1))).mono ?_; rintro e w2 ⟨rfl, hx2⟩; have hc2 := Ext.cells hx2; have hf2 := Ext.frozens hx2; have hz2 := Fr.size hx2; try simp [go_sem] at hz2; try (have hzl := Nat.lt_of_succ_le hz2; try (have hzm := Nat.lt_of_succ_lt hzl)))))
  go_ret
  exact ⟨rfl, Fr.trans ((by repeat (first | with_reducible assumption | with_reducible exact Fr.refl _ _ | (with_reducible refine Fr.alloc ?_ _) | (with_reducible refine Fr.drew ?_) | (with_reducible refine Fr.drewN ?_ _) | (with_reducible refine Fr.setNew ?_ _ _ _ (by first | with_reducible exact Nat.le_refl _ | omega | (simp; omega)))))) (hx1.trans hx2)⟩
end Go.Proofs.YtalbiepdkaldmaaGreatDoor
