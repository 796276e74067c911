/- shape: the forms of messages, as the program makes them. -/
import Derived.Test.YtalbiepdkaldmaaGreatDoorProg
import Derived.Test.YtalbiepdkaldmaaGreatDoorMapReg
import Derived.Test.YtalbiepdkaldmaaGreatDoorLayout4
import Derived.Deep.QuietTactic
import Derived.BigQuiet
import Derived.Deep.LoopGhost
set_option linter.unusedVariables false
set_option linter.unusedSimpArgs false
namespace Go.Proofs.YtalbiepdkaldmaaGreatDoor
open Go.RowKit
namespace Form
abbrev num (k : Nat) : Form := .mk 0 k 0 0 0 []
abbrev opq (k lo hi : Nat) : Form := .mk 1 k lo hi 1 []
abbrev rst (lo hi : Nat) : Form := .mk 4 0 lo hi 0 []
abbrev fix (k : Nat) : Form := .mk 5 0 k 0 0 []
abbrev lst (k lo hi st : Nat) (f : Form) : Form := .mk 2 k lo hi st [f]
abbrev row (l : List Form) : Form := .mk 3 0 0 0 0 l
def item : Form := row [num 2, opq 2 0 65535]
def exts (lo hi : Nat) : Form := lst 2 lo hi 1 item
def codes2 : Form := lst 2 2 65534 2 (num 2)
def long : Form := opq 2 1 65535
/-- The forms of messages. -/
def messages : List (Nat × Form) := [
  (1, row [num 2, fix 32, opq 1 0 32, codes2, opq 1 1 255, exts 8 65535]),
  (2, row [num 2, fix 32, opq 1 0 32, num 2, num 1, exts 6 65535]),
  (4, row [num 4, num 4, opq 1 0 255, long, exts 0 65534]),
  (5, row []),
  (8, row [exts 0 65535]),
  (11, row [opq 1 0 255, lst 3 0 16777215 1 (row [opq 3 1 16777215, exts 0 65535])]),
  (13, row [opq 1 0 255, exts 2 65535]),
  (15, row [num 2, opq 2 0 65535]),
  (20, rst 1 255),
  (24, num 1)]
def message (k : Nat) : Option Form := messages.lookup k
theorem messages_wf : messages.all (fun p => p.2.wf && decide (p.2.depth ≤ 8)) = true := by decide
end Form

/-! ### Forms whose blocks are told -/
theorem sl_newO {α : Type} {d : Rd α} {w w' : World} {xs : List α} {cells : List Value} {g e n : Nat} {ok ok' : Nat → Prop} (hb : w'.heap[g]? = some (.cells cells.toArray e (0, 0))) (hk : Elems d w ok xs cells) (hf : Ext w w') (hn : xs.length = n) (hm : n ≤ maxLen)
    (hg : ok' g) (ho : ∀ b, b < w.heap.size → ok b → ok' b) : SlC d w' ok' (some ⟨g, 0, none⟩) n n xs := by
  refine ⟨hn, Nat.le_refl _, hm, fun h => by simp at h, fun j x hx => ⟨_, ⟨g, 0, _, e, (0, 0), rfl, hg, hb, fun i u hu => ?_⟩, d.ext (d.mono ho (hk.2 j x hx)) hf⟩⟩
  rw [List.getElem?_take] at hu
  split at hu
  · rw [List.getElem?_drop] at hu
    simpa using hu
  · simp at hu
/-- A form that is made: what it leads to is as the arguments', or new. -/
def FormRetO (ok : Nat → Prop) (f : Form) (w : World) (e : Ending) (w' : World) : Prop := ∃ A n c, e = .returned (formV A n c f) ∧ SlC Rd.form w' (fun b => ok b ∨ w.heap.size ≤ b) A n c f.parts ∧ Ext w w'
theorem sl_empty {α : Type} {d : Rd α} {w w' : World} {ok ok' : Nat → Prop} {A : Option Addr} {n c : Nat} (h : SlC d w ok A n c []) : SlC d w' ok' A n c [] := ⟨h.1, h.2.1, h.2.2.1, h.2.2.2.1, fun j x hx => by simp at hx⟩
theorem layout_ListO (k lo hi st : Nat) (A : Option Addr) (n c : Nat) (f : Form) (ok : Nat → Prop) (w : World) (h : SlC Rd.form w ok A n c f.parts) :
    Calls Tryz.prog 85 #[.int .i64 k, .int .i64 lo, .int .i64 hi, .int .i64 st, formV A n c f] w (FormRetO ok (Form.lst k lo hi st f) w) := by
  go_enter Tryz.func85, Tryz.ntmps85
  go_wp2
  refine bodyPost_ret (v := formV (some ⟨w.heap.size + 1 + 1, 0, none⟩) 1 1 (.mk 2 k lo hi st [f])) (by simp [results, Tryz.results85, go_sem, Form.kind, Form.size, Form.lo, Form.hi, Form.step]) rfl ⟨_, 1, 1, rfl, sl_newO (d := Rd.form) (w := w) (xs := [f]) (ok := ok) (blk_new' _ _ _ (by simp)) (Elems.one (Rd.form_iff.2 ⟨A, n, c, rfl, h⟩)) ((((Fr.refl _ _).alloc _).alloc _).alloc _) rfl (by decide) (.inr (by omega)) (fun _ _ h => .inl h), (((Fr.refl _ _).alloc _).alloc _).alloc _⟩
theorem layout_RowO (A : Option Addr) (n c : Nat) (xs : List Form) (ok : Nat → Prop) (w : World) (h : SlC Rd.form w ok A n c xs) (hn : n ≤ 1000000) :
    Calls Tryz.prog 82 #[.slice A n c] w (FormRetO ok (Form.row xs) w) := by
  go_enter Tryz.func82, Tryz.ntmps82
  go_wp2_with (go_at_call 89; refine (clone_form A n c xs (fun b => b < w.heap.size ∧ ok b) _ (h.ltok.ext ((Fr.refl _ _).alloc _)) hn).mono ?_; rintro e w1 ⟨A', c', rfl, ho, hx⟩; have hcx := hx.cells; have hfx := hx.frozens; have hzx := hx.size)
  obtain ⟨A2, c2, he, hs⟩ := ho.sl
  injection he with e1 _ e2
  subst e1 e2
  have hx0 : Ext w w1 := Fr.trans ((Fr.refl _ _).alloc _) hx
  have hf : ∀ u0 u1 u2 u3 u4 u5, Fr (One w.heap.size) w1 ((((((w1.setCell ⟨w.heap.size, 0, none⟩ u0).setCell ⟨w.heap.size, 1, none⟩ u1).setCell ⟨w.heap.size, 2, none⟩ u2).setCell ⟨w.heap.size, 3, none⟩ u3).setCell ⟨w.heap.size, 4, none⟩ u4).setCell ⟨w.heap.size, 5, none⟩ u5) := fun _ _ _ _ _ _ =>
    ((((((Fr.refl _ _).set _ _ _ (One.self _)).set _ _ _ (One.self _)).set _ _ _ (One.self _)).set _ _ _ (One.self _)).set _ _ _ (One.self _)).set _ _ _ (One.self _)
  refine bodyPost_ret (v := formV A' n c' (.mk 3 0 0 0 0 xs)) (by simp [results, Tryz.results82, go_sem, hcx, hzx, Form.kind, Form.size, Form.lo, Form.hi, Form.step]) rfl ?_
  refine ⟨A', n, c', rfl, (hs.fr (hf _ _ _ _ _ _) ?_).mono ?_, (by repeat (first | with_reducible assumption | with_reducible exact Fr.refl _ _ | (with_reducible refine Fr.alloc ?_ _) | (with_reducible refine Fr.drew ?_) | (with_reducible refine Fr.drewN ?_ _) | (with_reducible refine Fr.setNew ?_ _ _ _ (by first | with_reducible exact Nat.le_refl _ | omega | (simp; omega)))))⟩
  · intro b hb e
    simp at hb
    have e : b = w.heap.size := e
    omega
  · intro b _ hb
    simp at hb
    rcases hb with hb | hb
    · exact .inr (by omega)
    · exact .inl hb.2.2

/-! ### Values that are forms, and slices of forms -/
def FV (ok : Nat → Prop) (f : Form) : World → Value → Prop := fun w v => ∃ A n c, v = formV A n c f ∧ SlC Rd.form w ok A n c f.parts
def FS (ok : Nat → Prop) (l : List Form) : World → Value → Prop := fun w v => ∃ A c, v = .slice A l.length c ∧ SlC Rd.form w ok A l.length c l
theorem FV.stab (ok : Nat → Prop) (f : Form) : Stab (FV ok f) := by
  rintro w w' v hk ⟨A, n, c, rfl, h⟩
  exact ⟨A, n, c, rfl, h.keep Rd.real_form hk⟩
theorem FS.stab (ok : Nat → Prop) (l : List Form) : Stab (FS ok l) := by
  rintro w w' v hk ⟨A, c, rfl, h⟩
  exact ⟨A, c, rfl, h.keep Rd.real_form hk⟩
/-- Values that are forms, one by one. -/
def FVs (ok : Nat → Prop) (w : World) : List Form → List Value → Prop
  | [], [] => True
  | f :: fs, v :: vs => FV ok f w v ∧ FVs ok w fs vs
  | _, _ => False
theorem FVs.elems {ok : Nat → Prop} {w : World} : ∀ {fs : List Form} {vs : List Value}, FVs ok w fs vs → Elems Rd.form w ok fs (vs.flatMap fun v => v.cells.toList)
  | [], [], _ => Elems.nil _ _ _
  | f :: fs, v :: vs, h => by
    obtain ⟨⟨A, n, c, rfl, hs⟩, h⟩ := h
    have h1 : Elems Rd.form w ok [f] (formV A n c f).cells.toList := Elems.one (Rd.form_iff.2 ⟨A, n, c, rfl, hs⟩)
    exact h1.append h.elems
  | [], v :: vs, h => h.elim
  | f :: fs, [], h => h.elim
theorem FVs.slice {ok ok' : Nat → Prop} {w : World} {e : Nat} {fs : List Form} {vs : List Value} (h : FVs ok w fs vs) {cells : Array Value} (hc : cells = (vs.flatMap fun v => v.cells.toList).toArray) {n : Nat} (hn : fs.length = n) (hm : n ≤ maxLen)
    (hg : ok' w.heap.size) (ho : ∀ b, b < w.heap.size → ok b → ok' b) : SlC Rd.form (w.alloc (.cells cells e)) ok' (some ⟨w.heap.size, 0, none⟩) n n fs := by
  subst hc
  exact sl_newO (blk_new _ _) h.elems ((Fr.refl _ _).alloc _) hn hm hg ho

/-- A form that is made, all of it new. -/
def FormNew (f : Form) (w : World) (e : Ending) (w' : World) : Prop := ∃ A n c, e = .returned (formV A n c f) ∧ SlC Rd.form w' (fun b => w.heap.size ≤ b) A n c f.parts ∧ Ext w w'
set_option maxHeartbeats 1000000 in
theorem shape_item (w : World) : Calls Tryz.prog 86 #[] w (FormNew Form.item w) := by
  rw [show Form.item = Form.row [Form.num 2, Form.opq 2 0 65535] from rfl]
  go_enter Tryz.func86, Tryz.ntmps86
  go_wp2_with (first | ((go_at_call 81; refine (layout_Number 2 _).mono ?_; rintro e w1 ⟨A1, n1, c1, rfl, h1, hx1⟩; have hc1 := Ext.cells hx1; have hf1 := Ext.frozens hx1; have hz1 := Fr.size hx1; try simp [go_sem] at hz1; try (have hzl := Nat.lt_of_succ_le hz1; try (have hzm := Nat.lt_of_succ_lt hzl)))) | ((go_at_call 83; refine (layout_Opaque 2 0 65535 _).mono ?_; rintro e w2 ⟨A2, n2, c2, rfl, h2, hx2⟩; have hc2 := Ext.cells hx2; have hf2 := Ext.frozens hx2; have hz2 := Fr.size hx2; try simp [go_sem] at hz2; try (have hzl := Nat.lt_of_succ_le hz2; try (have hzm := Nat.lt_of_succ_lt hzl)))))
  have hs := FVs.slice (ok := fun _ => False) (ok' := fun b => w.heap.size < b) (e := 70) (w := w2) (fs := [Form.num 2, Form.opq 2 0 65535]) (vs := [formV A1 n1 c1 (Form.num 2), formV A2 n2 c2 (Form.opq 2 0 65535)]) ⟨⟨A1, n1, c1, rfl, sl_empty h1⟩, ⟨A2, n2, c2, rfl, sl_empty h2⟩, trivial⟩ rfl (n := 2) rfl (by decide) (by omega) (fun _ _ h => h.elim)
  (go_at_call 82; refine (layout_RowO (some ⟨w2.heap.size, 0, none⟩) 2 2 [Form.num 2, Form.opq 2 0 65535] (fun b => w.heap.size < b) _ hs (by decide)).mono ?_; rintro e w3 ⟨A3, n3, c3, rfl, h3, hx3⟩; have hc3 := Ext.cells hx3; have hf3 := Ext.frozens hx3; have hz3 := Fr.size hx3; try simp [go_sem] at hz3; try (have hzl := Nat.lt_of_succ_le hz3; try (have hzm := Nat.lt_of_succ_lt hzl)))
  have hza : w.heap.size < w2.heap.size := by omega
  have hzb : w.heap.size < w2.heap.size + 1 := by omega
  go_wp2
  refine bodyPost_ret (v := formV A3 n3 c3 (Form.row [Form.num 2, Form.opq 2 0 65535])) (by simp only [results, Tryz.results86]; go_simp) rfl ?_
  have hx9 : Ext w w3 := Fr.trans (Fr.trans (Fr.trans (Fr.trans ((by repeat (first | with_reducible assumption | with_reducible exact Fr.refl _ _ | (with_reducible refine Fr.alloc ?_ _) | (with_reducible refine Fr.drew ?_) | (with_reducible refine Fr.drewN ?_ _) | (with_reducible refine Fr.setNew ?_ _ _ _ (by first | with_reducible exact Nat.le_refl _ | omega | (simp; omega)))))) hx1) hx2) ((Fr.refl _ _).alloc _)) hx3
  have key : ∀ W, Fr (One w.heap.size) w3 W → SlC Rd.form W (fun b => w.heap.size ≤ b) A3 n3 c3 (Form.row [Form.num 2, Form.opq 2 0 65535]).parts := fun W hW => (h3.fr hW fun b hb e => by
    have e : b = w.heap.size := e
    simp at hb
    omega).mono fun b _ hb => by
    simp at hb
    omega
  exact ⟨A3, n3, c3, rfl, key _ ((by repeat (first | with_reducible exact Fr.refl _ _ | (with_reducible refine Fr.set ?_ _ _ _ (One.self _)) | (with_reducible refine Fr.alloc ?_ _) | (with_reducible refine Fr.drew ?_)))), (by repeat (first | with_reducible assumption | with_reducible exact Fr.refl _ _ | (with_reducible refine Fr.alloc ?_ _) | (with_reducible refine Fr.drew ?_) | (with_reducible refine Fr.drewN ?_ _) | (with_reducible refine Fr.setNew ?_ _ _ _ (by first | with_reducible exact Nat.le_refl _ | omega | (simp; omega)))))⟩
set_option maxHeartbeats 1000000 in
theorem shape_exts (lo hi : Nat) (w : World) : Calls Tryz.prog 84 #[.int .i64 lo, .int .i64 hi] w (FormNew (Form.exts lo hi) w) := by
  rw [show Form.exts lo hi = Form.lst 2 lo hi 1 Form.item from rfl]
  go_enter Tryz.func84, Tryz.ntmps84
  go_wp2_with (first | ((go_at_call 86; refine (shape_item _).mono ?_; rintro e w1 ⟨A1, n1, c1, rfl, h1, hx1⟩; have hc1 := Ext.cells hx1; have hf1 := Ext.frozens hx1; have hz1 := Fr.size hx1; try simp [go_sem] at hz1; try (have hzl := Nat.lt_of_succ_le hz1; try (have hzm := Nat.lt_of_succ_lt hzl)))))
  (go_at_call 85; refine (layout_ListO 2 lo hi 1 A1 n1 c1 Form.item _ _ h1).mono ?_; rintro e w3 ⟨A3, n3, c3, rfl, h3, hx3⟩; have hc3 := Ext.cells hx3; have hf3 := Ext.frozens hx3; have hz3 := Fr.size hx3; try simp [go_sem] at hz3; try (have hzl := Nat.lt_of_succ_le hz3; try (have hzm := Nat.lt_of_succ_lt hzl)))
  go_wp2
  refine bodyPost_ret (v := formV A3 n3 c3 (Form.lst 2 lo hi 1 Form.item)) (by simp only [results, Tryz.results84]; go_simp) rfl ?_
  have hx9 : Ext w w3 := Fr.trans (Fr.trans ((by repeat (first | with_reducible assumption | with_reducible exact Fr.refl _ _ | (with_reducible refine Fr.alloc ?_ _) | (with_reducible refine Fr.drew ?_) | (with_reducible refine Fr.drewN ?_ _) | (with_reducible refine Fr.setNew ?_ _ _ _ (by first | with_reducible exact Nat.le_refl _ | omega | (simp; omega)))))) hx1) hx3
  have key : ∀ W, Fr (One w.heap.size) w3 W → SlC Rd.form W (fun b => w.heap.size ≤ b) A3 n3 c3 (Form.lst 2 lo hi 1 Form.item).parts := fun W hW => (h3.fr hW fun b hb e => by
    have e : b = w.heap.size := e
    simp at hb
    omega).mono fun b _ hb => by
    simp at hb
    omega
  exact ⟨A3, n3, c3, rfl, key _ ((by repeat (first | with_reducible exact Fr.refl _ _ | (with_reducible refine Fr.set ?_ _ _ _ (One.self _)) | (with_reducible refine Fr.alloc ?_ _) | (with_reducible refine Fr.drew ?_)))), (by repeat (first | with_reducible assumption | with_reducible exact Fr.refl _ _ | (with_reducible refine Fr.alloc ?_ _) | (with_reducible refine Fr.drew ?_) | (with_reducible refine Fr.drewN ?_ _) | (with_reducible refine Fr.setNew ?_ _ _ _ (by first | with_reducible exact Nat.le_refl _ | omega | (simp; omega)))))⟩
end Go.Proofs.YtalbiepdkaldmaaGreatDoor
