/- shape.messages: the region that fills the map of forms, whatever its order (its steps by program: genmap.py). -/
import Derived.Test.YtalbiepdkaldmaaGreatDoorProg
import Derived.Test.YtalbiepdkaldmaaGreatDoorShape
import Derived.Deep.QuietTactic
import Derived.BigQuiet
import Derived.Deep.LoopGhost
set_option linter.unusedVariables false
set_option linter.unusedSimpArgs false
namespace Go.Proofs.YtalbiepdkaldmaaGreatDoor
open Go.RowKit

def IsExts : World → Value → Prop := fun _ v => v = .func (.func 84) #[] #[]
theorem IsExts.stab : Stab IsExts := fun _ _ _ _ h => h
/-- A local variable that holds a form. -/
def LocAt (w0 : World) (b : Nat) (f : Form) : Prop := ∃ A n c, b < w0.heap.size ∧ w0.cell? ⟨b, 0, none⟩ = some (.int .i64 f.kind) ∧ w0.cell? ⟨b, 1, none⟩ = some (.int .i64 f.size) ∧ w0.cell? ⟨b, 2, none⟩ = some (.int .i64 f.lo) ∧
  w0.cell? ⟨b, 3, none⟩ = some (.int .i64 f.hi) ∧ w0.cell? ⟨b, 4, none⟩ = some (.int .i64 f.step) ∧ w0.cell? ⟨b, 5, none⟩ = some (.slice A n c) ∧ SlC Rd.form w0 Any A n c f.parts
section
variable {w0 w : World} {o : Oper} {a : Act} {K : Act → World → Prop} {Q : Exit → Act → World → Prop} {t : Nat} {ats : Array TypeId}
theorem step_load {b : Nat} {f : Form} (hp : LocAt w0 b f) (hx : Ext w0 w) (he : a.tmps.getD t undef = .pointer (some ⟨b, 0, none⟩)) (hK : ∀ v w', Ext w w' → FV Any f w' v → K (a.put o.dst v) w') (hop : o.op = .load 70 (.tmp t)) : o.wp Tryz.prog a w K Q := by
  obtain ⟨A, n, c, hb, h0, h1, h2, h3, h4, h5, hs⟩ := hp
  have hc := Ext.cells hx
  obtain ⟨dst, op, ty, pos, after, guard⟩ := o
  simp only at hop
  subst hop
  have he' : a.eval (.tmp t) = .pointer (some ⟨b, 0, none⟩) := he
  have hK' := hK _ _ (Fr.refl _ _) ⟨A, n, c, rfl, hs.ext hx⟩
  clear hK
  unfold Oper.wp execOp
  go_simp
  exact hK'
theorem step_move (he : a.tmps.getD t undef = .func (.func 84) #[] #[]) (hK : ∀ v w', Ext w w' → IsExts w' v → K (a.put o.dst v) w') (hop : o.op = .move (.tmp t)) : o.wp Tryz.prog a w K Q := by
  obtain ⟨dst, op, ty, pos, after, guard⟩ := o
  simp only at hop
  subst hop
  have he' : a.eval (.tmp t) = .func (.func 84) #[] #[] := he
  have hK' := hK _ _ (Fr.refl _ _) rfl
  clear hK
  unfold Oper.wp execOp
  go_simp
  exact hK'
theorem step_opq (k lo hi : Nat) (hK : ∀ v w', Ext w w' → FV Any (Form.opq k lo hi) w' v → K (a.put o.dst v) w')
    (hop : o.op = .call { callee := .value (.func 83), args := #[.const (.int .i64 k), .const (.int .i64 lo), .const (.int .i64 hi)], argTypes := ats }) : o.wp Tryz.prog a w K Q := by
  obtain ⟨dst, op, ty, pos, after, guard⟩ := o
  simp only at hop
  subst hop
  unfold Oper.wp execOp
  go_simp
  refine (layout_Opaque k lo hi w).mono ?_
  rintro e w' ⟨A, n, c, rfl, h, hx⟩
  exact hK _ _ hx ⟨A, n, c, rfl, h⟩
theorem step_fix (k : Nat) (hK : ∀ v w', Ext w w' → FV Any (Form.fix k) w' v → K (a.put o.dst v) w')
    (hop : o.op = .call { callee := .value (.func 87), args := #[.const (.int .i64 k)], argTypes := ats }) : o.wp Tryz.prog a w K Q := by
  obtain ⟨dst, op, ty, pos, after, guard⟩ := o
  simp only at hop
  subst hop
  unfold Oper.wp execOp
  go_simp
  refine (layout_Fixed k w).mono ?_
  rintro e w' ⟨A, n, c, rfl, h, hx⟩
  exact hK _ _ hx ⟨A, n, c, rfl, h⟩
theorem step_rst (lo hi : Nat) (hK : ∀ v w', Ext w w' → FV Any (Form.rst lo hi) w' v → K (a.put o.dst v) w')
    (hop : o.op = .call { callee := .value (.func 88), args := #[.const (.int .i64 lo), .const (.int .i64 hi)], argTypes := ats }) : o.wp Tryz.prog a w K Q := by
  obtain ⟨dst, op, ty, pos, after, guard⟩ := o
  simp only at hop
  subst hop
  unfold Oper.wp execOp
  go_simp
  refine (layout_Rest lo hi w).mono ?_
  rintro e w' ⟨A, n, c, rfl, h, hx⟩
  exact hK _ _ hx ⟨A, n, c, rfl, h⟩
theorem step_row {fs : List Form} {A : Option Addr} {c : Nat} (hn : fs.length ≤ 1000000) (he : a.tmps.getD t undef = .slice A fs.length c) (h : SlC Rd.form w Any A fs.length c fs) (hK : ∀ v w', Ext w w' → FV Any (Form.row fs) w' v → K (a.put o.dst v) w')
    (hop : o.op = .call { callee := .value (.func 82), args := #[.tmp t], argTypes := ats }) : o.wp Tryz.prog a w K Q := by
  obtain ⟨dst, op, ty, pos, after, guard⟩ := o
  simp only at hop
  subst hop
  have he' : a.eval (.tmp t) = .slice A fs.length c := he
  unfold Oper.wp execOp
  go_simp
  refine (layout_Row A _ c fs w h hn).mono ?_
  rintro e w' ⟨A, n, c, rfl, h, hx⟩
  exact hK _ _ hx ⟨A, n, c, rfl, h⟩
theorem step_list (k lo hi st : Nat) {f : Form} {A : Option Addr} {n c : Nat} (he : a.tmps.getD t undef = formV A n c f) (h : SlC Rd.form w Any A n c f.parts) (hK : ∀ v w', Ext w w' → FV Any (Form.lst k lo hi st f) w' v → K (a.put o.dst v) w')
    (hop : o.op = .call { callee := .value (.func 85), args := #[.const (.int .i64 k), .const (.int .i64 lo), .const (.int .i64 hi), .const (.int .i64 st), .tmp t], argTypes := ats }) : o.wp Tryz.prog a w K Q := by
  obtain ⟨dst, op, ty, pos, after, guard⟩ := o
  simp only at hop
  subst hop
  have he' : a.eval (.tmp t) = formV A n c f := he
  unfold Oper.wp execOp
  go_simp
  refine (layout_List k lo hi st A n c f w h).mono ?_
  rintro e w' ⟨A, n, c, rfl, h, hx⟩
  exact hK _ _ hx ⟨A, n, c, rfl, h⟩
theorem step_exts (lo hi : Nat) (he : a.tmps.getD t undef = .func (.func 84) #[] #[]) (hK : ∀ v w', Ext w w' → FV Any (Form.exts lo hi) w' v → K (a.put o.dst v) w')
    (hop : o.op = .call { callee := .value (.tmp t), args := #[.const (.int .i64 lo), .const (.int .i64 hi)], argTypes := ats }) : o.wp Tryz.prog a w K Q := by
  obtain ⟨dst, op, ty, pos, after, guard⟩ := o
  simp only at hop
  subst hop
  have he' : a.eval (.tmp t) = .func (.func 84) #[] #[] := he
  unfold Oper.wp execOp
  go_simp
  refine (shape_exts lo hi w).mono ?_
  rintro e w' ⟨A, n, c, rfl, h, hx⟩
  exact hK _ _ hx ⟨A, n, c, rfl, h.any⟩
end
end Go.Proofs.YtalbiepdkaldmaaGreatDoor
