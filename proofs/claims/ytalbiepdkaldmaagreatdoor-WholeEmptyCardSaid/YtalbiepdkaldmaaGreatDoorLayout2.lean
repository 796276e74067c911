/- layout: forms that are asked: the least length, the depth, whether a form is right. -/
import Derived.Test.YtalbiepdkaldmaaGreatDoorProg
import Derived.Test.YtalbiepdkaldmaaGreatDoorLayout
import Derived.Test.YtalbiepdkaldmaaGreatDoorRegion
import Derived.Deep.QuietTactic
import Derived.BigQuiet
import Derived.Deep.LoopGhost
set_option linter.unusedVariables false
set_option linter.unusedSimpArgs false
namespace Go.Proofs.YtalbiepdkaldmaaGreatDoor
open Go.RowKit

theorem least_row {f : Form} (h : ¬ f.kind = 0) (h1 : ¬ f.kind = 1) (h2 : ¬ f.kind = 2) (h4 : ¬ f.kind = 4) (h5 : ¬ f.kind = 5) : f.least = Form.leasts f.parts := by
  obtain ⟨k, s, lo, hi, st, ps⟩ := f
  simp only [Form.kind, Form.parts] at *
  simp [Form.least, h, h1, h2, h4, h5]
theorem leasts_take (l : List Form) (k : Nat) (f : Form) (h : l[k]? = some f) : Form.leasts (l.take (k + 1)) = Form.leasts (l.take k) + f.least := by
  induction l generalizing k with
  | nil => simp at h
  | cons g l ih =>
    cases k with
    | zero => simp at h; subst h; simp [Form.leasts]
    | succ k =>
      simp only [List.take_succ_cons, Form.leasts]
      rw [ih k (by simpa using h)]
      omega
theorem leasts_le (l : List Form) (k : Nat) : Form.leasts (l.take k) ≤ Form.leasts l := by
  induction l generalizing k with
  | nil => simp
  | cons g l ih =>
    cases k with
    | zero => simp [Form.leasts]
    | succ k => simp only [List.take_succ_cons, Form.leasts]; have := ih k; omega
theorem leasts_mem {l : List Form} {f : Form} (h : f ∈ l) : f.least ≤ Form.leasts l := by
  induction l with
  | nil => simp at h
  | cons g l ih =>
    simp only [Form.leasts]
    rcases List.mem_cons.1 h with rfl | h
    · omega
    · have := ih h; omega
set_option maxHeartbeats 400000 in
theorem layout_Least1 (A : Option Addr) (n c : Nat) (f : Form) (w : World) : Calls Tryz.prog 180 #[formV A n c f] w fun e w' => e = .returned (.int .i64 f.lo) ∧ Ext w w' := by
  go_enter Tryz.func180, Tryz.ntmps180
  go_wp2
  go_ret
  exact ⟨rfl, (by repeat (first | with_reducible assumption | with_reducible exact Fr.refl _ _ | (with_reducible refine Fr.alloc ?_ _) | (with_reducible refine Fr.drew ?_) | (with_reducible refine Fr.drewN ?_ _) | (with_reducible refine Fr.setNew ?_ _ _ _ (by first | with_reducible exact Nat.le_refl _ | omega | (simp; omega)))))⟩
abbrev leastFn : Value := .func (.func 180) #[] #[]
set_option maxHeartbeats 1000000 in
theorem layout_span (d : Nat) : ∀ (A : Option Addr) (n c : Nat) (f : Form) (w : World), f.depth ≤ d → SlC Rd.form w Any A n c f.parts → f.least ≤ 4294967296 →
    Calls Tryz.prog 179 #[formV A n c f, leastFn] w fun e w' => e = .returned (.int .i64 f.least) ∧ Ext w w' := by
  induction d with
  | zero => intro A n c f w hd; have := depth_parts f; omega
  | succ d ih =>
    intro A n c f w hd h hle
    have HI := Lib.hid ih
    clear ih
    obtain ⟨k, s, lo, hi, st, ps⟩ := f
    simp only [formV, Form.kind, Form.size, Form.lo, Form.hi, Form.step, Form.parts] at h hd hle ⊢
    by_cases h0 : k = 0
    · subst h0
      go_enter Tryz.func179, Tryz.ntmps179
      go_wp2
      go_ret
      exact ⟨rfl, (by repeat (first | with_reducible assumption | with_reducible exact Fr.refl _ _ | (with_reducible refine Fr.alloc ?_ _) | (with_reducible refine Fr.drew ?_) | (with_reducible refine Fr.drewN ?_ _) | (with_reducible refine Fr.setNew ?_ _ _ _ (by first | with_reducible exact Nat.le_refl _ | omega | (simp; omega)))))⟩
    have e0 : ((k : Int) == 0) = false := by simp; omega
    by_cases h12 : k = 1 ∨ k = 2
    · have hl : s + lo ≤ 4294967296 := by simpa [Form.least, h0, h12] using hle
      have hr : Form.least (.mk k s lo hi st ps) = s + lo := by simp [Form.least, h0, h12]
      have HR := Lib.hid hr
      clear hr
      have c1 := layout_Least1 A n c (.mk k s lo hi st ps)
      simp only [formV, Form.kind, Form.size, Form.lo, Form.hi, Form.step] at c1
      rcases h12 with rfl | rfl
      all_goals
        go_enter Tryz.func179, Tryz.ntmps179
        go_wp2
        refine wp_region_quietX (by kernel_rfl) (by kernel_rfl) ?_
        (repeat (first | (apply wpQuiet_op (hg := rfl); (focus (intro w' hw'; have hcx := Ext.cells hw'; have hzx := Fr.size hw'; go_simp; first | done | rfl | exact ⟨rfl, rfl⟩)); (intro K hK; go_simp; refine hK _ ?_; clear hK K)) | (refine wpQuiet_opW ?_ ?_ ?_ ?_; rotate_left; (focus (first | rfl | (go_simp; done))); (focus (intro w' hw'; have hcx := Ext.cells hw'; have hzx := Fr.size hw'; go_simp; first | done | rfl | exact ⟨rfl, rfl⟩)); (intro K hK; go_simp; refine hK _ ?_; clear hK K)) | (refine wpQuiet_no ?_ (fun K hK => ?_); (focus (first | rfl | (go_simp; done))); go_simp; refine hK _ ?_; clear hK K)))
        ((first | refine wpQuiet_op (.int .i64 lo) rfl (fun w' hw' => ?_) (fun K hK => ?_) | (refine wpQuiet_opW (.int .i64 lo) ?_ (fun w' hw' => ?_) (fun K hK => ?_); (focus (first | rfl | (go_simp; done))))); rotate_left; (go_simp; refine hK _ ?_; clear hK K); rotate_left; (have hcx := Ext.cells hw'; have hzx := Fr.size hw'; go_simp))
        · exact (c1 _).mono (fun e w'' h => ⟨h.1, hw'.trans h.2⟩)
        (repeat (first | (apply wpQuiet_op (hg := rfl); (focus (intro w' hw'; have hcx := Ext.cells hw'; have hzx := Fr.size hw'; go_simp; first | done | rfl | exact ⟨rfl, rfl⟩)); (intro K hK; go_simp; refine hK _ ?_; clear hK K)) | (refine wpQuiet_opW ?_ ?_ ?_ ?_; rotate_left; (focus (first | rfl | (go_simp; done))); (focus (intro w' hw'; have hcx := Ext.cells hw'; have hzx := Fr.size hw'; go_simp; first | done | rfl | exact ⟨rfl, rfl⟩)); (intro K hK; go_simp; refine hK _ ?_; clear hK K)) | (refine wpQuiet_no ?_ (fun K hK => ?_); (focus (first | rfl | (go_simp; done))); go_simp; refine hK _ ?_; clear hK K)))
        (refine wpQuiet_nil ?_; intro w' hw'; have hcx := Ext.cells hw'; have hfx := Ext.frozens hw'; have hzx := Fr.size hw'; try simp [go_sem] at hzx; try (have hzl := Nat.lt_of_succ_le hzx; try (have hzm := Nat.lt_of_succ_lt hzl)))
        go_wp2
        go_ret
        exact ⟨by rw [HR.out]; simp [IntWalk.i64_in ((s : Int) + lo) (by omega)], ((Fr.refl _ _).alloc _).trans hw'⟩
    have e1 : ((k : Int) == 1) = false := by simp; omega
    have e2 : ((k : Int) == 2) = false := by simp; omega
    by_cases h4 : k = 4
    · subst h4
      have c1 := layout_Least1 A n c (.mk 4 s lo hi st ps)
      simp only [formV, Form.kind, Form.size, Form.lo, Form.hi, Form.step] at c1
      go_enter Tryz.func179, Tryz.ntmps179
      go_wp2
      go_ret
      exact ⟨by simp [Form.least], (by repeat (first | with_reducible assumption | with_reducible exact Fr.refl _ _ | (with_reducible refine Fr.alloc ?_ _) | (with_reducible refine Fr.drew ?_) | (with_reducible refine Fr.drewN ?_ _) | (with_reducible refine Fr.setNew ?_ _ _ _ (by first | with_reducible exact Nat.le_refl _ | omega | (simp; omega)))))⟩
    have e4 : ((k : Int) == 4) = false := by simp; omega
    by_cases h5 : k = 5
    · subst h5
      go_enter Tryz.func179, Tryz.ntmps179
      go_wp2
      go_ret
      exact ⟨rfl, (by repeat (first | with_reducible assumption | with_reducible exact Fr.refl _ _ | (with_reducible refine Fr.alloc ?_ _) | (with_reducible refine Fr.drew ?_) | (with_reducible refine Fr.drewN ?_ _) | (with_reducible refine Fr.setNew ?_ _ _ _ (by first | with_reducible exact Nat.le_refl _ | omega | (simp; omega)))))⟩
    have e5 : ((k : Int) == 5) = false := by simp; omega
    have HR : Hid (Form.least (.mk k s lo hi st ps) = Form.leasts ps) := Lib.hid (by simp [Form.least, h0, h12, h4, h5])
    have hlen := h.len
    have HD := Lib.hid hd
    have HL := Lib.hid hle
    clear hd hle
    go_enter Tryz.func179, Tryz.ntmps179
    go_wp2
    have hsz : n ≤ 9223372036854775807 := Nat.le_trans h.le h.max
    go_loopg [5, 35] n (fun m s i wr => m ≤ n ∧ i = .int .i64 ((n - m : Nat) : Int) ∧ s = .int .i64 (Form.leasts (ps.take (n - m)) : Nat) ∧ Ext w wr)
    case atStart => exact ⟨Nat.le_refl _, by simp, by simp [Form.leasts], (by repeat (first | with_reducible assumption | with_reducible exact Fr.refl _ _ | (with_reducible refine Fr.alloc ?_ _) | (with_reducible refine Fr.drew ?_) | (with_reducible refine Fr.drewN ?_ _) | (with_reducible refine Fr.setNew ?_ _ _ _ (by first | with_reducible exact Nat.le_refl _ | omega | (simp; omega)))))⟩
    case round =>
      obtain ⟨hm, rfl, rfl, hx⟩ := hrel
      generalize hj : n - gk = j
      have hj' : j + gk = n := by omega
      clear hj
      have hz := hx.size
      have hs := h.lt.ext hx
      by_cases hlt : j < n
      · go_wp2_with (refine wpList_idx_form hs rfl _ _ _ rfl _ _ Tryz.underlying68 (size_form _) rfl rfl ?_ ?_ ?_)
        · omega
        · omega
        · intro b off g A2 n2 c2 hok hg hs2 d0 d1 d2 d3 d4 d5
          have H2 := Lib.hid hg
          clear hg
          have hgp : g ∈ ps := by have := H2.out; subst this; exact List.getElem_mem _
          have hle2 := leasts_mem hgp
          have hgd : g.depth ≤ d := by have h1 := depth_mem hgp; have h2 := depth_parts (.mk k s lo hi st ps); have h3 := HD.out; simp only [Form.parts] at h2; omega
          have hgl : g.least ≤ 4294967296 := by have h1 := HR.out; have h2 := HL.out; omega
          have hst : Form.leasts (ps.take (j + 1)) = Form.leasts (ps.take j) + g.least := leasts_take ps j g (by rw [← H2.out]; exact List.getElem?_eq_getElem _)
          have hsl : Form.leasts (ps.take (j + 1)) ≤ 4294967296 := by have h1 := HR.out; have h2 := HL.out; have := leasts_le ps (j + 1); omega
          have HS := Lib.hid hst
          rw [hst] at hsl
          clear hst hgp hle2
          go_wp2_with ((go_at_call 179; refine (HI.out A2 n2 c2 g _ hgd (hs2.ext ((by repeat (first | with_reducible assumption | with_reducible exact Fr.refl _ _ | (with_reducible refine Fr.alloc ?_ _) | (with_reducible refine Fr.drew ?_) | (with_reducible refine Fr.drewN ?_ _) | (with_reducible refine Fr.setNew ?_ _ _ _ (by first | with_reducible exact Nat.le_refl _ | omega | (simp; omega))))))).any hgl).mono ?_; rintro e w1 ⟨rfl, hx1⟩))
          go_roundg (gk - 1)
          case measure => omega
          case rel =>
            have e1 : n - (gk - 1) = j + 1 := by omega
            rw [e1, HS.out]
            exact ⟨by omega, by simp, by simp, hx.trans (Fr.trans ((by repeat (first | with_reducible assumption | with_reducible exact Fr.refl _ _ | (with_reducible refine Fr.alloc ?_ _) | (with_reducible refine Fr.drew ?_) | (with_reducible refine Fr.drewN ?_ _) | (with_reducible refine Fr.setNew ?_ _ _ _ (by first | with_reducible exact Nat.le_refl _ | omega | (simp; omega)))))) hx1)⟩
      · go_wp2
        go_ret
        have hn : j = n := by omega
        subst hn
        exact ⟨by rw [HR.out, ← hlen, List.take_length]; rfl, hx⟩
theorem layout_Least (A : Option Addr) (n c : Nat) (f : Form) (w : World) (h : SlC Rd.form w Any A n c f.parts) (hl : f.least ≤ 4294967296) :
    Calls Tryz.prog 156 #[formV A n c f] w fun e w' => e = .returned (.int .i64 f.least) ∧ Ext w w' := by
  have c1 := Lib.hid (fun w h => layout_span f.depth A n c f w (Nat.le_refl _) h hl)
  simp only [formV]
  go_enter Tryz.func156, Tryz.ntmps156
  go_wp2_with ((go_at_call 179; refine (c1.out _ (h.ext ((by repeat (first | with_reducible assumption | with_reducible exact Fr.refl _ _ | (with_reducible refine Fr.alloc ?_ _) | (with_reducible refine Fr.drew ?_) | (with_reducible refine Fr.drewN ?_ _) | (with_reducible refine Fr.setNew ?_ _ _ _ (by first | with_reducible exact Nat.le_refl _ | omega | (simp; omega)))))))).mono ?_; rintro e w1 ⟨rfl, hx1⟩))
  go_ret
  exact ⟨rfl, Fr.trans ((by repeat (first | with_reducible assumption | with_reducible exact Fr.refl _ _ | (with_reducible refine Fr.alloc ?_ _) | (with_reducible refine Fr.drew ?_) | (with_reducible refine Fr.drewN ?_ _) | (with_reducible refine Fr.setNew ?_ _ _ _ (by first | with_reducible exact Nat.le_refl _ | omega | (simp; omega)))))) hx1⟩
end Go.Proofs.YtalbiepdkaldmaaGreatDoor
