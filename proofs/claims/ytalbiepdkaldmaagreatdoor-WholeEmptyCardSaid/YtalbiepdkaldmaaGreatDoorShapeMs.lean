/- shape.messages: the map of the messages' forms. -/
import Derived.Test.YtalbiepdkaldmaaGreatDoorProg
import Derived.Test.YtalbiepdkaldmaaGreatDoorShapeM
import Derived.Deep.QuietTactic
import Derived.BigQuiet
import Derived.Deep.LoopGhost
set_option linter.unusedVariables false
set_option linter.unusedSimpArgs false
namespace Go.Proofs.YtalbiepdkaldmaaGreatDoor
open Go.RowKit
def msgSps : List Sp := [
  .map,
  .val (FV Any (Form.num 2)),
  .val (FV Any (Form.fix 32)),
  .val (FV Any (Form.opq 1 0 32)),
  .val (FV Any (Form.codes2)),
  .val (FV Any (Form.opq 1 1 255)),
  .val IsExts,
  .val (FV Any (Form.exts 8 65535)),
  .val (FS Any [Form.num 2, Form.fix 32, Form.opq 1 0 32, Form.codes2, Form.opq 1 1 255, Form.exts 8 65535]),
  .val (FV Any (Form.row [Form.num 2, Form.fix 32, Form.opq 1 0 32, Form.codes2, Form.opq 1 1 255, Form.exts 8 65535])),
  .ins 1 (FV Any (Form.row [Form.num 2, Form.fix 32, Form.opq 1 0 32, Form.codes2, Form.opq 1 1 255, Form.exts 8 65535])),
  .val (FV Any (Form.num 2)),
  .val (FV Any (Form.fix 32)),
  .val (FV Any (Form.opq 1 0 32)),
  .val (FV Any (Form.num 2)),
  .val (FV Any (Form.num 1)),
  .val IsExts,
  .val (FV Any (Form.exts 6 65535)),
  .val (FS Any [Form.num 2, Form.fix 32, Form.opq 1 0 32, Form.num 2, Form.num 1, Form.exts 6 65535]),
  .val (FV Any (Form.row [Form.num 2, Form.fix 32, Form.opq 1 0 32, Form.num 2, Form.num 1, Form.exts 6 65535])),
  .ins 2 (FV Any (Form.row [Form.num 2, Form.fix 32, Form.opq 1 0 32, Form.num 2, Form.num 1, Form.exts 6 65535])),
  .val (FV Any (Form.num 4)),
  .val (FV Any (Form.num 4)),
  .val (FV Any (Form.opq 1 0 255)),
  .val (FV Any (Form.long)),
  .val IsExts,
  .val (FV Any (Form.exts 0 65534)),
  .val (FS Any [Form.num 4, Form.num 4, Form.opq 1 0 255, Form.long, Form.exts 0 65534]),
  .val (FV Any (Form.row [Form.num 4, Form.num 4, Form.opq 1 0 255, Form.long, Form.exts 0 65534])),
  .ins 4 (FV Any (Form.row [Form.num 4, Form.num 4, Form.opq 1 0 255, Form.long, Form.exts 0 65534])),
  .val (FV Any (Form.row [])),
  .ins 5 (FV Any (Form.row [])),
  .val IsExts,
  .val (FV Any (Form.exts 0 65535)),
  .val (FS Any [Form.exts 0 65535]),
  .val (FV Any (Form.row [Form.exts 0 65535])),
  .ins 8 (FV Any (Form.row [Form.exts 0 65535])),
  .val (FV Any (Form.opq 1 0 255)),
  .val (FV Any (Form.opq 3 1 16777215)),
  .val IsExts,
  .val (FV Any (Form.exts 0 65535)),
  .val (FS Any [Form.opq 3 1 16777215, Form.exts 0 65535]),
  .val (FV Any (Form.row [Form.opq 3 1 16777215, Form.exts 0 65535])),
  .val (FV Any (Form.lst 3 0 16777215 1 (Form.row [Form.opq 3 1 16777215, Form.exts 0 65535]))),
  .val (FS Any [Form.opq 1 0 255, Form.lst 3 0 16777215 1 (Form.row [Form.opq 3 1 16777215, Form.exts 0 65535])]),
  .val (FV Any (Form.row [Form.opq 1 0 255, Form.lst 3 0 16777215 1 (Form.row [Form.opq 3 1 16777215, Form.exts 0 65535])])),
  .ins 11 (FV Any (Form.row [Form.opq 1 0 255, Form.lst 3 0 16777215 1 (Form.row [Form.opq 3 1 16777215, Form.exts 0 65535])])),
  .val (FV Any (Form.opq 1 0 255)),
  .val IsExts,
  .val (FV Any (Form.exts 2 65535)),
  .val (FS Any [Form.opq 1 0 255, Form.exts 2 65535]),
  .val (FV Any (Form.row [Form.opq 1 0 255, Form.exts 2 65535])),
  .ins 13 (FV Any (Form.row [Form.opq 1 0 255, Form.exts 2 65535])),
  .val (FV Any (Form.num 2)),
  .val (FV Any (Form.opq 2 0 65535)),
  .val (FS Any [Form.num 2, Form.opq 2 0 65535]),
  .val (FV Any (Form.row [Form.num 2, Form.opq 2 0 65535])),
  .ins 15 (FV Any (Form.row [Form.num 2, Form.opq 2 0 65535])),
  .val (FV Any (Form.rst 1 255)),
  .ins 20 (FV Any (Form.rst 1 255)),
  .val (FV Any (Form.num 1)),
  .ins 24 (FV Any (Form.num 1))
]
def msgSp (i : Nat) : Sp := msgSps.getD i (.val fun _ _ => True)
theorem msg_one (j : Nat) (h : msgSp j = .map) : j = 0 := by
  have key : ((List.range msgSps.length).all fun j => !(msgSp j).isMap || j == 0) = true := by rfl
  rcases Nat.lt_or_ge j msgSps.length with hj | hj
  · have := List.all_eq_true.1 key j (List.mem_range.2 hj)
    rw [h] at this
    simpa [Sp.isMap] using this
  · unfold msgSp at h
    rw [List.getD_eq_getElem?_getD, List.getElem?_eq_none hj] at h
    cases h
theorem msg_stab (j : Nat) : (msgSp j).stab := by
  have key : ∀ s ∈ msgSps, s.stab := by
    unfold msgSps
    simp only [List.forall_mem_cons]
    repeat' apply And.intro
    all_goals first | exact FV.stab _ _ | exact FS.stab _ _ | exact IsExts.stab | trivial | (intro x hx; cases hx)
  rcases Nat.lt_or_ge j msgSps.length with hj | hj
  · have : msgSp j ∈ msgSps := by
      unfold msgSp
      rw [List.getD_eq_getElem?_getD, List.getElem?_eq_getElem hj]
      exact List.getElem_mem hj
    exact key _ this
  · unfold msgSp
    rw [List.getD_eq_getElem?_getD, List.getElem?_eq_none hj]
    exact fun _ _ _ _ h => h
theorem sl_none0 {w : World} : SlC Rd.form w Any none 0 0 [] := SlC.nil _ _ _ _ _ (Nat.zero_le _) (fun _ => rfl)
/-- The map of the messages' forms. -/
def MsgMap (w : World) (b : Nat) : Prop := ∃ f, IntMap w b f ∧ ∀ k : Int, match f k with
  | some v => ∃ q : Nat × Form, q ∈ Form.messages ∧ k = q.1 ∧ FV Any q.2 w v
  | none => ∀ q ∈ Form.messages, k ≠ ((q : Nat × Form).1 : Int)
set_option maxHeartbeats 4000000 in
set_option maxRecDepth 4000 in
theorem shape_messages (w : World) : Calls Tryz.prog 51 #[] w fun e w' => ∃ b, e = .returned (.map (some b)) ∧ MsgMap w' b ∧ Ext w w' := by
  go_enter Tryz.func51, Tryz.ntmps51
  go_wp2_with (first | ((go_at_call 81; refine (layout_Number 1 _).mono ?_; rintro e w1 ⟨A1, n1, c1, rfl, h1, hx1⟩; have hc1 := Ext.cells hx1; have hf1 := Ext.frozens hx1; have hz1 := Fr.size hx1; try simp [go_sem] at hz1; try (have hzl := Nat.lt_of_succ_le hz1; try (have hzm := Nat.lt_of_succ_lt hzl)))) | ((go_at_call 81; refine (layout_Number 2 _).mono ?_; rintro e w2 ⟨A2, n2, c2, rfl, h2, hx2⟩; have hc2 := Ext.cells hx2; have hf2 := Ext.frozens hx2; have hz2 := Fr.size hx2; try simp [go_sem] at hz2; try (have hzl := Nat.lt_of_succ_le hz2; try (have hzm := Nat.lt_of_succ_lt hzl)))) | ((go_at_call 81; refine (layout_Number 4 _).mono ?_; rintro e w3 ⟨A3, n3, c3, rfl, h3, hx3⟩; have hc3 := Ext.cells hx3; have hf3 := Ext.frozens hx3; have hz3 := Fr.size hx3; try simp [go_sem] at hz3; try (have hzl := Nat.lt_of_succ_le hz3; try (have hzm := Nat.lt_of_succ_lt hzl)))) | ((go_at_call 82; refine (layout_Row none 0 0 [] _ sl_none0 (by decide)).mono ?_; rintro e w4 ⟨A4, n4, c4, rfl, h4, hx4⟩; have hc4 := Ext.cells hx4; have hf4 := Ext.frozens hx4; have hz4 := Fr.size hx4; try simp [go_sem] at hz4; try (have hzl := Nat.lt_of_succ_le hz4; try (have hzm := Nat.lt_of_succ_lt hzl)))))
  (go_at_call 83; refine (layout_Opaque 2 1 65535 _).mono ?_; rintro e w5 ⟨A5, n5, c5, rfl, h5, hx5⟩; have hc5 := Ext.cells hx5; have hf5 := Ext.frozens hx5; have hz5 := Fr.size hx5; try simp [go_sem] at hz5; try (have hzl := Nat.lt_of_succ_le hz5; try (have hzm := Nat.lt_of_succ_lt hzl)))
  have q1 : w4.heap.size < w5.heap.size := by omega
  have q2 : w4.heap.size + 1 < w5.heap.size := by omega
  have q3 : w4.heap.size + 1 + 1 < w5.heap.size := by omega
  have q4 : w4.heap.size + 1 + 1 + 1 < w5.heap.size := by omega
  go_wp2_with (first | ((go_at_call 85; refine (layout_List 2 2 65534 2 A2 n2 c2 (Form.num 2) _ ((h2.ext (Fr.trans hx3 hx4)).ext (Fr.trans (Fr.trans ((by repeat (first | with_reducible assumption | with_reducible exact Fr.refl _ _ | (with_reducible refine Fr.alloc ?_ _) | (with_reducible refine Fr.drew ?_) | (with_reducible refine Fr.drewN ?_ _) | (with_reducible refine Fr.setNew ?_ _ _ _ (by first | with_reducible exact Nat.le_refl _ | omega | (simp; omega)))))) hx5) ((by repeat (first | with_reducible assumption | with_reducible exact Fr.refl _ _ | (with_reducible refine Fr.alloc ?_ _) | (with_reducible refine Fr.drew ?_) | (with_reducible refine Fr.drewN ?_ _) | (with_reducible refine Fr.setNew ?_ _ _ _ (by first | with_reducible exact Nat.le_refl _ | omega | (simp; omega))))))))).mono ?_; rintro e w6 ⟨A6, n6, c6, rfl, h6, hx6⟩; have hc6 := Ext.cells hx6; have hf6 := Ext.frozens hx6; have hz6 := Fr.size hx6; try simp [go_sem] at hz6; try (have hzl := Nat.lt_of_succ_le hz6; try (have hzm := Nat.lt_of_succ_lt hzl)))))
  have q5 : w4.heap.size < w6.heap.size := by omega
  have q6 : w4.heap.size + 1 < w6.heap.size := by omega
  have q7 : w4.heap.size + 1 + 1 < w6.heap.size := by omega
  have q8 : w4.heap.size + 1 + 1 + 1 < w6.heap.size := by omega
  have q9 : w4.heap.size < w5.heap.size + 1 := by omega
  have q10 : w4.heap.size + 1 < w5.heap.size + 1 := by omega
  have q11 : w4.heap.size + 1 + 1 < w5.heap.size + 1 := by omega
  have q12 : w4.heap.size + 1 + 1 + 1 < w5.heap.size + 1 := by omega
  have x4 : Ext w w4 := Fr.trans (Fr.trans (Fr.trans hx1 hx2) hx3) hx4
  have x6 : Ext w4 w6 := Fr.trans (Fr.trans (Fr.trans ((by repeat (first | with_reducible assumption | with_reducible exact Fr.refl _ _ | (with_reducible refine Fr.alloc ?_ _) | (with_reducible refine Fr.drew ?_) | (with_reducible refine Fr.drewN ?_ _) | (with_reducible refine Fr.setNew ?_ _ _ _ (by first | with_reducible exact Nat.le_refl _ | omega | (simp; omega)))))) hx5) ((by repeat (first | with_reducible assumption | with_reducible exact Fr.refl _ _ | (with_reducible refine Fr.alloc ?_ _) | (with_reducible refine Fr.drew ?_) | (with_reducible refine Fr.drewN ?_ _) | (with_reducible refine Fr.setNew ?_ _ _ _ (by first | with_reducible exact Nat.le_refl _ | omega | (simp; omega))))))) hx6
  have x56 : Ext w5 w6 := Fr.trans ((by repeat (first | with_reducible assumption | with_reducible exact Fr.refl _ _ | (with_reducible refine Fr.alloc ?_ _) | (with_reducible refine Fr.drew ?_) | (with_reducible refine Fr.drewN ?_ _) | (with_reducible refine Fr.setNew ?_ _ _ _ (by first | with_reducible exact Nat.le_refl _ | omega | (simp; omega)))))) hx6
  generalize hW : World.alloc w6 _ = W
  have HW := Lib.hid hW
  clear hW
  have hx7 : Ext w6 W := by rw [← HW.out]; exact (Fr.refl _ _).alloc _
  have p1 : LocAt W w4.heap.size (Form.num 1) := ⟨A1, n1, c1, by rw [← HW.out]; simp; omega, by rw [← HW.out]; go_simp, by rw [← HW.out]; go_simp, by rw [← HW.out]; go_simp, by rw [← HW.out]; go_simp, by rw [← HW.out]; go_simp, by rw [← HW.out]; go_simp, sl_empty h1⟩
  have p2 : LocAt W (w4.heap.size + 1) (Form.num 2) := ⟨A2, n2, c2, by rw [← HW.out]; simp; omega, by rw [← HW.out]; go_simp, by rw [← HW.out]; go_simp, by rw [← HW.out]; go_simp, by rw [← HW.out]; go_simp, by rw [← HW.out]; go_simp, by rw [← HW.out]; go_simp, sl_empty h2⟩
  have p3 : LocAt W (w4.heap.size + 1 + 1) (Form.num 4) := ⟨A3, n3, c3, by rw [← HW.out]; simp; omega, by rw [← HW.out]; go_simp, by rw [← HW.out]; go_simp, by rw [← HW.out]; go_simp, by rw [← HW.out]; go_simp, by rw [← HW.out]; go_simp, by rw [← HW.out]; go_simp, sl_empty h3⟩
  have p4 : LocAt W (w4.heap.size + 1 + 1 + 1) (Form.row []) := ⟨A4, n4, c4, by rw [← HW.out]; simp; omega, by rw [← HW.out]; go_simp, by rw [← HW.out]; go_simp, by rw [← HW.out]; go_simp, by rw [← HW.out]; go_simp, by rw [← HW.out]; go_simp, by rw [← HW.out]; go_simp, sl_empty h4⟩
  have p5 : LocAt W w5.heap.size Form.long := ⟨A5, n5, c5, by rw [← HW.out]; simp; omega, by rw [← HW.out]; go_simp; rfl, by rw [← HW.out]; go_simp; rfl, by rw [← HW.out]; go_simp; rfl, by rw [← HW.out]; go_simp; rfl, by rw [← HW.out]; go_simp; rfl, by rw [← HW.out]; go_simp, sl_empty h5⟩
  have p7 : LocAt W w6.heap.size Form.codes2 := ⟨A6, n6, c6, by rw [← HW.out]; simp, by rw [← HW.out]; go_simp; rfl, by rw [← HW.out]; go_simp; rfl, by rw [← HW.out]; go_simp; rfl, by rw [← HW.out]; go_simp; rfl, by rw [← HW.out]; go_simp; rfl, by rw [← HW.out]; go_simp, h6.ext hx7⟩
  refine wp_region_map _ 62 msgSp [1, 2, 4, 5, 8, 11, 13, 15, 20, 24] (by kernel_rfl) (by kernel_rfl) (fun j _ => msg_stab j) ⟨?_, ?_, ?_, ?_, ?_, ?_, ?_, ?_, ?_, ?_, ?_, ?_, ?_, ?_, ?_, ?_, ?_, ?_, ?_, ?_, ?_, ?_, ?_, ?_, ?_, ?_, ?_, ?_, ?_, ?_, ?_, ?_, ?_, ?_, ?_, ?_, ?_, ?_, ?_, ?_, ?_, ?_, ?_, ?_, ?_, ?_, ?_, ?_, ?_, ?_, ?_, ?_, ?_, ?_, ?_, ?_, ?_, ?_, ?_, ?_, ?_, ?_, trivial⟩ ?_
  · -- 0
    intro L a g w hl hC hO hS ho
    have hx := hC.1
    exact step_map rfl hl ho rfl rfl rfl (by intro j hj; exact msg_one j hj) hC
  · -- 1
    intro L a g w hl hC hO hS ho
    have hx := hC.1
    have e2 := hO 2 (by kernel_rfl)
    exact step_val rfl ho rfl rfl hC fun K hK => step_load p2 hx e2 hK rfl
  · -- 2
    intro L a g w hl hC hO hS ho
    have hx := hC.1
    refine step_val rfl ho rfl rfl hC fun K hK => step_fix 32 hK rfl
  · -- 3
    intro L a g w hl hC hO hS ho
    have hx := hC.1
    refine step_val rfl ho rfl rfl hC fun K hK => step_opq 1 0 32 hK rfl
  · -- 4
    intro L a g w hl hC hO hS ho
    have hx := hC.1
    have e7 := hO 7 (by kernel_rfl)
    exact step_val rfl ho rfl rfl hC fun K hK => step_load p7 hx e7 hK rfl
  · -- 5
    intro L a g w hl hC hO hS ho
    have hx := hC.1
    refine step_val rfl ho rfl rfl hC fun K hK => step_opq 1 1 255 hK rfl
  · -- 6
    intro L a g w hl hC hO hS ho
    have hx := hC.1
    have e6 := hO 6 (by kernel_rfl)
    exact step_val rfl ho rfl rfl hC fun K hK => step_move e6 hK rfl
  · -- 7
    intro L a g w hl hC hO hS ho
    have hx := hC.1
    have e21 := hS 6 21 (by kernel_rfl)
    refine step_val rfl ho rfl rfl hC fun K hK => step_exts 8 65535 ?_ hK rfl
    exact e21
  · -- 8
    intro L a g w hl hC hO hS ho
    have hx := hC.1
    obtain ⟨A16, n16, c16, e16, h16⟩ := hS 1 16 (by kernel_rfl)
    have e16' : a.tmps[16]?.getD undef = formV A16 n16 c16 (Form.num 2) := by rw [← Array.getD_eq_getD_getElem?]; exact e16
    clear e16
    obtain ⟨A17, n17, c17, e17, h17⟩ := hS 2 17 (by kernel_rfl)
    have e17' : a.tmps[17]?.getD undef = formV A17 n17 c17 (Form.fix 32) := by rw [← Array.getD_eq_getD_getElem?]; exact e17
    clear e17
    obtain ⟨A18, n18, c18, e18, h18⟩ := hS 3 18 (by kernel_rfl)
    have e18' : a.tmps[18]?.getD undef = formV A18 n18 c18 (Form.opq 1 0 32) := by rw [← Array.getD_eq_getD_getElem?]; exact e18
    clear e18
    obtain ⟨A19, n19, c19, e19, h19⟩ := hS 4 19 (by kernel_rfl)
    have e19' : a.tmps[19]?.getD undef = formV A19 n19 c19 (Form.codes2) := by rw [← Array.getD_eq_getD_getElem?]; exact e19
    clear e19
    obtain ⟨A20, n20, c20, e20, h20⟩ := hS 5 20 (by kernel_rfl)
    have e20' : a.tmps[20]?.getD undef = formV A20 n20 c20 (Form.opq 1 1 255) := by rw [← Array.getD_eq_getD_getElem?]; exact e20
    clear e20
    obtain ⟨A22, n22, c22, e22, h22⟩ := hS 7 22 (by kernel_rfl)
    have e22' : a.tmps[22]?.getD undef = formV A22 n22 c22 (Form.exts 8 65535) := by rw [← Array.getD_eq_getD_getElem?]; exact e22
    clear e22
    refine step_val rfl ho rfl rfl hC fun K hK => ?_
    go_simp
    exact hK _ _ ((Fr.refl _ _).alloc _) ⟨_, _, rfl, FVs.slice (ok := Any) (w := w) (fs := [Form.num 2, Form.fix 32, Form.opq 1 0 32, Form.codes2, Form.opq 1 1 255, Form.exts 8 65535]) (vs := [formV A16 n16 c16 (Form.num 2), formV A17 n17 c17 (Form.fix 32), formV A18 n18 c18 (Form.opq 1 0 32), formV A19 n19 c19 (Form.codes2), formV A20 n20 c20 (Form.opq 1 1 255), formV A22 n22 c22 (Form.exts 8 65535)]) ⟨⟨A16, n16, c16, rfl, h16⟩, ⟨A17, n17, c17, rfl, h17⟩, ⟨A18, n18, c18, rfl, h18⟩, ⟨A19, n19, c19, rfl, h19⟩, ⟨A20, n20, c20, rfl, h20⟩, ⟨A22, n22, c22, rfl, h22⟩, trivial⟩ rfl rfl (by decide) trivial (fun _ _ _ => trivial)⟩
  · -- 9
    intro L a g w hl hC hO hS ho
    have hx := hC.1
    obtain ⟨A23, c23, e23, h23⟩ := hS 8 23 (by kernel_rfl)
    refine step_val rfl ho rfl rfl hC fun K hK => step_row (by decide) e23 h23 hK rfl
  · -- 10
    intro L a g w hl hC hO hS ho
    have hx := hC.1
    obtain ⟨b15, e15, g15⟩ := hS 0 15 (by kernel_rfl)
    obtain ⟨A24, n24, c24, e24, h24⟩ := hS 9 24 (by kernel_rfl)
    exact step_ins (T := 102) (kt := 3) (et := 70) rfl ho rfl rfl rfl Tryz.underlying102 Tryz.underlying3 (by decide) (by intro j hj e; have := msg_one j hj; omega) e15 g15 e24 ⟨_, _, _, rfl, h24⟩ (FV.stab _ _) hC
  · -- 11
    intro L a g w hl hC hO hS ho
    have hx := hC.1
    have e2 := hO 2 (by kernel_rfl)
    exact step_val rfl ho rfl rfl hC fun K hK => step_load p2 hx e2 hK rfl
  · -- 12
    intro L a g w hl hC hO hS ho
    have hx := hC.1
    refine step_val rfl ho rfl rfl hC fun K hK => step_fix 32 hK rfl
  · -- 13
    intro L a g w hl hC hO hS ho
    have hx := hC.1
    refine step_val rfl ho rfl rfl hC fun K hK => step_opq 1 0 32 hK rfl
  · -- 14
    intro L a g w hl hC hO hS ho
    have hx := hC.1
    have e2 := hO 2 (by kernel_rfl)
    exact step_val rfl ho rfl rfl hC fun K hK => step_load p2 hx e2 hK rfl
  · -- 15
    intro L a g w hl hC hO hS ho
    have hx := hC.1
    have e1 := hO 1 (by kernel_rfl)
    exact step_val rfl ho rfl rfl hC fun K hK => step_load p1 hx e1 hK rfl
  · -- 16
    intro L a g w hl hC hO hS ho
    have hx := hC.1
    have e6 := hO 6 (by kernel_rfl)
    exact step_val rfl ho rfl rfl hC fun K hK => step_move e6 hK rfl
  · -- 17
    intro L a g w hl hC hO hS ho
    have hx := hC.1
    have e30 := hS 16 30 (by kernel_rfl)
    refine step_val rfl ho rfl rfl hC fun K hK => step_exts 6 65535 ?_ hK rfl
    exact e30
  · -- 18
    intro L a g w hl hC hO hS ho
    have hx := hC.1
    obtain ⟨A25, n25, c25, e25, h25⟩ := hS 11 25 (by kernel_rfl)
    have e25' : a.tmps[25]?.getD undef = formV A25 n25 c25 (Form.num 2) := by rw [← Array.getD_eq_getD_getElem?]; exact e25
    clear e25
    obtain ⟨A26, n26, c26, e26, h26⟩ := hS 12 26 (by kernel_rfl)
    have e26' : a.tmps[26]?.getD undef = formV A26 n26 c26 (Form.fix 32) := by rw [← Array.getD_eq_getD_getElem?]; exact e26
    clear e26
    obtain ⟨A27, n27, c27, e27, h27⟩ := hS 13 27 (by kernel_rfl)
    have e27' : a.tmps[27]?.getD undef = formV A27 n27 c27 (Form.opq 1 0 32) := by rw [← Array.getD_eq_getD_getElem?]; exact e27
    clear e27
    obtain ⟨A28, n28, c28, e28, h28⟩ := hS 14 28 (by kernel_rfl)
    have e28' : a.tmps[28]?.getD undef = formV A28 n28 c28 (Form.num 2) := by rw [← Array.getD_eq_getD_getElem?]; exact e28
    clear e28
    obtain ⟨A29, n29, c29, e29, h29⟩ := hS 15 29 (by kernel_rfl)
    have e29' : a.tmps[29]?.getD undef = formV A29 n29 c29 (Form.num 1) := by rw [← Array.getD_eq_getD_getElem?]; exact e29
    clear e29
    obtain ⟨A31, n31, c31, e31, h31⟩ := hS 17 31 (by kernel_rfl)
    have e31' : a.tmps[31]?.getD undef = formV A31 n31 c31 (Form.exts 6 65535) := by rw [← Array.getD_eq_getD_getElem?]; exact e31
    clear e31
    refine step_val rfl ho rfl rfl hC fun K hK => ?_
    go_simp
    exact hK _ _ ((Fr.refl _ _).alloc _) ⟨_, _, rfl, FVs.slice (ok := Any) (w := w) (fs := [Form.num 2, Form.fix 32, Form.opq 1 0 32, Form.num 2, Form.num 1, Form.exts 6 65535]) (vs := [formV A25 n25 c25 (Form.num 2), formV A26 n26 c26 (Form.fix 32), formV A27 n27 c27 (Form.opq 1 0 32), formV A28 n28 c28 (Form.num 2), formV A29 n29 c29 (Form.num 1), formV A31 n31 c31 (Form.exts 6 65535)]) ⟨⟨A25, n25, c25, rfl, h25⟩, ⟨A26, n26, c26, rfl, h26⟩, ⟨A27, n27, c27, rfl, h27⟩, ⟨A28, n28, c28, rfl, h28⟩, ⟨A29, n29, c29, rfl, h29⟩, ⟨A31, n31, c31, rfl, h31⟩, trivial⟩ rfl rfl (by decide) trivial (fun _ _ _ => trivial)⟩
  · -- 19
    intro L a g w hl hC hO hS ho
    have hx := hC.1
    obtain ⟨A32, c32, e32, h32⟩ := hS 18 32 (by kernel_rfl)
    refine step_val rfl ho rfl rfl hC fun K hK => step_row (by decide) e32 h32 hK rfl
  · -- 20
    intro L a g w hl hC hO hS ho
    have hx := hC.1
    obtain ⟨b15, e15, g15⟩ := hS 0 15 (by kernel_rfl)
    obtain ⟨A33, n33, c33, e33, h33⟩ := hS 19 33 (by kernel_rfl)
    exact step_ins (T := 102) (kt := 3) (et := 70) rfl ho rfl rfl rfl Tryz.underlying102 Tryz.underlying3 (by decide) (by intro j hj e; have := msg_one j hj; omega) e15 g15 e33 ⟨_, _, _, rfl, h33⟩ (FV.stab _ _) hC
  · -- 21
    intro L a g w hl hC hO hS ho
    have hx := hC.1
    have e3 := hO 3 (by kernel_rfl)
    exact step_val rfl ho rfl rfl hC fun K hK => step_load p3 hx e3 hK rfl
  · -- 22
    intro L a g w hl hC hO hS ho
    have hx := hC.1
    have e3 := hO 3 (by kernel_rfl)
    exact step_val rfl ho rfl rfl hC fun K hK => step_load p3 hx e3 hK rfl
  · -- 23
    intro L a g w hl hC hO hS ho
    have hx := hC.1
    refine step_val rfl ho rfl rfl hC fun K hK => step_opq 1 0 255 hK rfl
  · -- 24
    intro L a g w hl hC hO hS ho
    have hx := hC.1
    have e5 := hO 5 (by kernel_rfl)
    exact step_val rfl ho rfl rfl hC fun K hK => step_load p5 hx e5 hK rfl
  · -- 25
    intro L a g w hl hC hO hS ho
    have hx := hC.1
    have e6 := hO 6 (by kernel_rfl)
    exact step_val rfl ho rfl rfl hC fun K hK => step_move e6 hK rfl
  · -- 26
    intro L a g w hl hC hO hS ho
    have hx := hC.1
    have e38 := hS 25 38 (by kernel_rfl)
    refine step_val rfl ho rfl rfl hC fun K hK => step_exts 0 65534 ?_ hK rfl
    exact e38
  · -- 27
    intro L a g w hl hC hO hS ho
    have hx := hC.1
    obtain ⟨A34, n34, c34, e34, h34⟩ := hS 21 34 (by kernel_rfl)
    have e34' : a.tmps[34]?.getD undef = formV A34 n34 c34 (Form.num 4) := by rw [← Array.getD_eq_getD_getElem?]; exact e34
    clear e34
    obtain ⟨A35, n35, c35, e35, h35⟩ := hS 22 35 (by kernel_rfl)
    have e35' : a.tmps[35]?.getD undef = formV A35 n35 c35 (Form.num 4) := by rw [← Array.getD_eq_getD_getElem?]; exact e35
    clear e35
    obtain ⟨A36, n36, c36, e36, h36⟩ := hS 23 36 (by kernel_rfl)
    have e36' : a.tmps[36]?.getD undef = formV A36 n36 c36 (Form.opq 1 0 255) := by rw [← Array.getD_eq_getD_getElem?]; exact e36
    clear e36
    obtain ⟨A37, n37, c37, e37, h37⟩ := hS 24 37 (by kernel_rfl)
    have e37' : a.tmps[37]?.getD undef = formV A37 n37 c37 (Form.long) := by rw [← Array.getD_eq_getD_getElem?]; exact e37
    clear e37
    obtain ⟨A39, n39, c39, e39, h39⟩ := hS 26 39 (by kernel_rfl)
    have e39' : a.tmps[39]?.getD undef = formV A39 n39 c39 (Form.exts 0 65534) := by rw [← Array.getD_eq_getD_getElem?]; exact e39
    clear e39
    refine step_val rfl ho rfl rfl hC fun K hK => ?_
    go_simp
    exact hK _ _ ((Fr.refl _ _).alloc _) ⟨_, _, rfl, FVs.slice (ok := Any) (w := w) (fs := [Form.num 4, Form.num 4, Form.opq 1 0 255, Form.long, Form.exts 0 65534]) (vs := [formV A34 n34 c34 (Form.num 4), formV A35 n35 c35 (Form.num 4), formV A36 n36 c36 (Form.opq 1 0 255), formV A37 n37 c37 (Form.long), formV A39 n39 c39 (Form.exts 0 65534)]) ⟨⟨A34, n34, c34, rfl, h34⟩, ⟨A35, n35, c35, rfl, h35⟩, ⟨A36, n36, c36, rfl, h36⟩, ⟨A37, n37, c37, rfl, h37⟩, ⟨A39, n39, c39, rfl, h39⟩, trivial⟩ rfl rfl (by decide) trivial (fun _ _ _ => trivial)⟩
  · -- 28
    intro L a g w hl hC hO hS ho
    have hx := hC.1
    obtain ⟨A40, c40, e40, h40⟩ := hS 27 40 (by kernel_rfl)
    refine step_val rfl ho rfl rfl hC fun K hK => step_row (by decide) e40 h40 hK rfl
  · -- 29
    intro L a g w hl hC hO hS ho
    have hx := hC.1
    obtain ⟨b15, e15, g15⟩ := hS 0 15 (by kernel_rfl)
    obtain ⟨A41, n41, c41, e41, h41⟩ := hS 28 41 (by kernel_rfl)
    exact step_ins (T := 102) (kt := 3) (et := 70) rfl ho rfl rfl rfl Tryz.underlying102 Tryz.underlying3 (by decide) (by intro j hj e; have := msg_one j hj; omega) e15 g15 e41 ⟨_, _, _, rfl, h41⟩ (FV.stab _ _) hC
  · -- 30
    intro L a g w hl hC hO hS ho
    have hx := hC.1
    have e4 := hO 4 (by kernel_rfl)
    exact step_val rfl ho rfl rfl hC fun K hK => step_load p4 hx e4 hK rfl
  · -- 31
    intro L a g w hl hC hO hS ho
    have hx := hC.1
    obtain ⟨b15, e15, g15⟩ := hS 0 15 (by kernel_rfl)
    obtain ⟨A42, n42, c42, e42, h42⟩ := hS 30 42 (by kernel_rfl)
    exact step_ins (T := 102) (kt := 3) (et := 70) rfl ho rfl rfl rfl Tryz.underlying102 Tryz.underlying3 (by decide) (by intro j hj e; have := msg_one j hj; omega) e15 g15 e42 ⟨_, _, _, rfl, h42⟩ (FV.stab _ _) hC
  · -- 32
    intro L a g w hl hC hO hS ho
    have hx := hC.1
    have e6 := hO 6 (by kernel_rfl)
    exact step_val rfl ho rfl rfl hC fun K hK => step_move e6 hK rfl
  · -- 33
    intro L a g w hl hC hO hS ho
    have hx := hC.1
    have e43 := hS 32 43 (by kernel_rfl)
    refine step_val rfl ho rfl rfl hC fun K hK => step_exts 0 65535 ?_ hK rfl
    exact e43
  · -- 34
    intro L a g w hl hC hO hS ho
    have hx := hC.1
    obtain ⟨A44, n44, c44, e44, h44⟩ := hS 33 44 (by kernel_rfl)
    have e44' : a.tmps[44]?.getD undef = formV A44 n44 c44 (Form.exts 0 65535) := by rw [← Array.getD_eq_getD_getElem?]; exact e44
    clear e44
    refine step_val rfl ho rfl rfl hC fun K hK => ?_
    go_simp
    exact hK _ _ ((Fr.refl _ _).alloc _) ⟨_, _, rfl, FVs.slice (ok := Any) (w := w) (fs := [Form.exts 0 65535]) (vs := [formV A44 n44 c44 (Form.exts 0 65535)]) ⟨⟨A44, n44, c44, rfl, h44⟩, trivial⟩ rfl rfl (by decide) trivial (fun _ _ _ => trivial)⟩
  · -- 35
    intro L a g w hl hC hO hS ho
    have hx := hC.1
    obtain ⟨A45, c45, e45, h45⟩ := hS 34 45 (by kernel_rfl)
    refine step_val rfl ho rfl rfl hC fun K hK => step_row (by decide) e45 h45 hK rfl
  · -- 36
    intro L a g w hl hC hO hS ho
    have hx := hC.1
    obtain ⟨b15, e15, g15⟩ := hS 0 15 (by kernel_rfl)
    obtain ⟨A46, n46, c46, e46, h46⟩ := hS 35 46 (by kernel_rfl)
    exact step_ins (T := 102) (kt := 3) (et := 70) rfl ho rfl rfl rfl Tryz.underlying102 Tryz.underlying3 (by decide) (by intro j hj e; have := msg_one j hj; omega) e15 g15 e46 ⟨_, _, _, rfl, h46⟩ (FV.stab _ _) hC
  · -- 37
    intro L a g w hl hC hO hS ho
    have hx := hC.1
    refine step_val rfl ho rfl rfl hC fun K hK => step_opq 1 0 255 hK rfl
  · -- 38
    intro L a g w hl hC hO hS ho
    have hx := hC.1
    refine step_val rfl ho rfl rfl hC fun K hK => step_opq 3 1 16777215 hK rfl
  · -- 39
    intro L a g w hl hC hO hS ho
    have hx := hC.1
    have e6 := hO 6 (by kernel_rfl)
    exact step_val rfl ho rfl rfl hC fun K hK => step_move e6 hK rfl
  · -- 40
    intro L a g w hl hC hO hS ho
    have hx := hC.1
    have e49 := hS 39 49 (by kernel_rfl)
    refine step_val rfl ho rfl rfl hC fun K hK => step_exts 0 65535 ?_ hK rfl
    exact e49
  · -- 41
    intro L a g w hl hC hO hS ho
    have hx := hC.1
    obtain ⟨A48, n48, c48, e48, h48⟩ := hS 38 48 (by kernel_rfl)
    have e48' : a.tmps[48]?.getD undef = formV A48 n48 c48 (Form.opq 3 1 16777215) := by rw [← Array.getD_eq_getD_getElem?]; exact e48
    clear e48
    obtain ⟨A50, n50, c50, e50, h50⟩ := hS 40 50 (by kernel_rfl)
    have e50' : a.tmps[50]?.getD undef = formV A50 n50 c50 (Form.exts 0 65535) := by rw [← Array.getD_eq_getD_getElem?]; exact e50
    clear e50
    refine step_val rfl ho rfl rfl hC fun K hK => ?_
    go_simp
    exact hK _ _ ((Fr.refl _ _).alloc _) ⟨_, _, rfl, FVs.slice (ok := Any) (w := w) (fs := [Form.opq 3 1 16777215, Form.exts 0 65535]) (vs := [formV A48 n48 c48 (Form.opq 3 1 16777215), formV A50 n50 c50 (Form.exts 0 65535)]) ⟨⟨A48, n48, c48, rfl, h48⟩, ⟨A50, n50, c50, rfl, h50⟩, trivial⟩ rfl rfl (by decide) trivial (fun _ _ _ => trivial)⟩
  · -- 42
    intro L a g w hl hC hO hS ho
    have hx := hC.1
    obtain ⟨A51, c51, e51, h51⟩ := hS 41 51 (by kernel_rfl)
    refine step_val rfl ho rfl rfl hC fun K hK => step_row (by decide) e51 h51 hK rfl
  · -- 43
    intro L a g w hl hC hO hS ho
    have hx := hC.1
    obtain ⟨A52, n52, c52, e52, h52⟩ := hS 42 52 (by kernel_rfl)
    refine step_val rfl ho rfl rfl hC fun K hK => step_list 3 0 16777215 1 e52 h52 hK rfl
  · -- 44
    intro L a g w hl hC hO hS ho
    have hx := hC.1
    obtain ⟨A47, n47, c47, e47, h47⟩ := hS 37 47 (by kernel_rfl)
    have e47' : a.tmps[47]?.getD undef = formV A47 n47 c47 (Form.opq 1 0 255) := by rw [← Array.getD_eq_getD_getElem?]; exact e47
    clear e47
    obtain ⟨A53, n53, c53, e53, h53⟩ := hS 43 53 (by kernel_rfl)
    have e53' : a.tmps[53]?.getD undef = formV A53 n53 c53 (Form.lst 3 0 16777215 1 (Form.row [Form.opq 3 1 16777215, Form.exts 0 65535])) := by rw [← Array.getD_eq_getD_getElem?]; exact e53
    clear e53
    refine step_val rfl ho rfl rfl hC fun K hK => ?_
    go_simp
    exact hK _ _ ((Fr.refl _ _).alloc _) ⟨_, _, rfl, FVs.slice (ok := Any) (w := w) (fs := [Form.opq 1 0 255, Form.lst 3 0 16777215 1 (Form.row [Form.opq 3 1 16777215, Form.exts 0 65535])]) (vs := [formV A47 n47 c47 (Form.opq 1 0 255), formV A53 n53 c53 (Form.lst 3 0 16777215 1 (Form.row [Form.opq 3 1 16777215, Form.exts 0 65535]))]) ⟨⟨A47, n47, c47, rfl, h47⟩, ⟨A53, n53, c53, rfl, h53⟩, trivial⟩ rfl rfl (by decide) trivial (fun _ _ _ => trivial)⟩
  · -- 45
    intro L a g w hl hC hO hS ho
    have hx := hC.1
    obtain ⟨A54, c54, e54, h54⟩ := hS 44 54 (by kernel_rfl)
    refine step_val rfl ho rfl rfl hC fun K hK => step_row (by decide) e54 h54 hK rfl
  · -- 46
    intro L a g w hl hC hO hS ho
    have hx := hC.1
    obtain ⟨b15, e15, g15⟩ := hS 0 15 (by kernel_rfl)
    obtain ⟨A55, n55, c55, e55, h55⟩ := hS 45 55 (by kernel_rfl)
    exact step_ins (T := 102) (kt := 3) (et := 70) rfl ho rfl rfl rfl Tryz.underlying102 Tryz.underlying3 (by decide) (by intro j hj e; have := msg_one j hj; omega) e15 g15 e55 ⟨_, _, _, rfl, h55⟩ (FV.stab _ _) hC
  · -- 47
    intro L a g w hl hC hO hS ho
    have hx := hC.1
    refine step_val rfl ho rfl rfl hC fun K hK => step_opq 1 0 255 hK rfl
  · -- 48
    intro L a g w hl hC hO hS ho
    have hx := hC.1
    have e6 := hO 6 (by kernel_rfl)
    exact step_val rfl ho rfl rfl hC fun K hK => step_move e6 hK rfl
  · -- 49
    intro L a g w hl hC hO hS ho
    have hx := hC.1
    have e57 := hS 48 57 (by kernel_rfl)
    refine step_val rfl ho rfl rfl hC fun K hK => step_exts 2 65535 ?_ hK rfl
    exact e57
  · -- 50
    intro L a g w hl hC hO hS ho
    have hx := hC.1
    obtain ⟨A56, n56, c56, e56, h56⟩ := hS 47 56 (by kernel_rfl)
    have e56' : a.tmps[56]?.getD undef = formV A56 n56 c56 (Form.opq 1 0 255) := by rw [← Array.getD_eq_getD_getElem?]; exact e56
    clear e56
    obtain ⟨A58, n58, c58, e58, h58⟩ := hS 49 58 (by kernel_rfl)
    have e58' : a.tmps[58]?.getD undef = formV A58 n58 c58 (Form.exts 2 65535) := by rw [← Array.getD_eq_getD_getElem?]; exact e58
    clear e58
    refine step_val rfl ho rfl rfl hC fun K hK => ?_
    go_simp
    exact hK _ _ ((Fr.refl _ _).alloc _) ⟨_, _, rfl, FVs.slice (ok := Any) (w := w) (fs := [Form.opq 1 0 255, Form.exts 2 65535]) (vs := [formV A56 n56 c56 (Form.opq 1 0 255), formV A58 n58 c58 (Form.exts 2 65535)]) ⟨⟨A56, n56, c56, rfl, h56⟩, ⟨A58, n58, c58, rfl, h58⟩, trivial⟩ rfl rfl (by decide) trivial (fun _ _ _ => trivial)⟩
  · -- 51
    intro L a g w hl hC hO hS ho
    have hx := hC.1
    obtain ⟨A59, c59, e59, h59⟩ := hS 50 59 (by kernel_rfl)
    refine step_val rfl ho rfl rfl hC fun K hK => step_row (by decide) e59 h59 hK rfl
  · -- 52
    intro L a g w hl hC hO hS ho
    have hx := hC.1
    obtain ⟨b15, e15, g15⟩ := hS 0 15 (by kernel_rfl)
    obtain ⟨A60, n60, c60, e60, h60⟩ := hS 51 60 (by kernel_rfl)
    exact step_ins (T := 102) (kt := 3) (et := 70) rfl ho rfl rfl rfl Tryz.underlying102 Tryz.underlying3 (by decide) (by intro j hj e; have := msg_one j hj; omega) e15 g15 e60 ⟨_, _, _, rfl, h60⟩ (FV.stab _ _) hC
  · -- 53
    intro L a g w hl hC hO hS ho
    have hx := hC.1
    have e2 := hO 2 (by kernel_rfl)
    exact step_val rfl ho rfl rfl hC fun K hK => step_load p2 hx e2 hK rfl
  · -- 54
    intro L a g w hl hC hO hS ho
    have hx := hC.1
    refine step_val rfl ho rfl rfl hC fun K hK => step_opq 2 0 65535 hK rfl
  · -- 55
    intro L a g w hl hC hO hS ho
    have hx := hC.1
    obtain ⟨A61, n61, c61, e61, h61⟩ := hS 53 61 (by kernel_rfl)
    have e61' : a.tmps[61]?.getD undef = formV A61 n61 c61 (Form.num 2) := by rw [← Array.getD_eq_getD_getElem?]; exact e61
    clear e61
    obtain ⟨A62, n62, c62, e62, h62⟩ := hS 54 62 (by kernel_rfl)
    have e62' : a.tmps[62]?.getD undef = formV A62 n62 c62 (Form.opq 2 0 65535) := by rw [← Array.getD_eq_getD_getElem?]; exact e62
    clear e62
    refine step_val rfl ho rfl rfl hC fun K hK => ?_
    go_simp
    exact hK _ _ ((Fr.refl _ _).alloc _) ⟨_, _, rfl, FVs.slice (ok := Any) (w := w) (fs := [Form.num 2, Form.opq 2 0 65535]) (vs := [formV A61 n61 c61 (Form.num 2), formV A62 n62 c62 (Form.opq 2 0 65535)]) ⟨⟨A61, n61, c61, rfl, h61⟩, ⟨A62, n62, c62, rfl, h62⟩, trivial⟩ rfl rfl (by decide) trivial (fun _ _ _ => trivial)⟩
  · -- 56
    intro L a g w hl hC hO hS ho
    have hx := hC.1
    obtain ⟨A63, c63, e63, h63⟩ := hS 55 63 (by kernel_rfl)
    refine step_val rfl ho rfl rfl hC fun K hK => step_row (by decide) e63 h63 hK rfl
  · -- 57
    intro L a g w hl hC hO hS ho
    have hx := hC.1
    obtain ⟨b15, e15, g15⟩ := hS 0 15 (by kernel_rfl)
    obtain ⟨A64, n64, c64, e64, h64⟩ := hS 56 64 (by kernel_rfl)
    exact step_ins (T := 102) (kt := 3) (et := 70) rfl ho rfl rfl rfl Tryz.underlying102 Tryz.underlying3 (by decide) (by intro j hj e; have := msg_one j hj; omega) e15 g15 e64 ⟨_, _, _, rfl, h64⟩ (FV.stab _ _) hC
  · -- 58
    intro L a g w hl hC hO hS ho
    have hx := hC.1
    refine step_val rfl ho rfl rfl hC fun K hK => step_rst 1 255 hK rfl
  · -- 59
    intro L a g w hl hC hO hS ho
    have hx := hC.1
    obtain ⟨b15, e15, g15⟩ := hS 0 15 (by kernel_rfl)
    obtain ⟨A65, n65, c65, e65, h65⟩ := hS 58 65 (by kernel_rfl)
    exact step_ins (T := 102) (kt := 3) (et := 70) rfl ho rfl rfl rfl Tryz.underlying102 Tryz.underlying3 (by decide) (by intro j hj e; have := msg_one j hj; omega) e15 g15 e65 ⟨_, _, _, rfl, h65⟩ (FV.stab _ _) hC
  · -- 60
    intro L a g w hl hC hO hS ho
    have hx := hC.1
    have e1 := hO 1 (by kernel_rfl)
    exact step_val rfl ho rfl rfl hC fun K hK => step_load p1 hx e1 hK rfl
  · -- 61
    intro L a g w hl hC hO hS ho
    have hx := hC.1
    obtain ⟨b15, e15, g15⟩ := hS 0 15 (by kernel_rfl)
    obtain ⟨A66, n66, c66, e66, h66⟩ := hS 60 66 (by kernel_rfl)
    exact step_ins (T := 102) (kt := 3) (et := 70) rfl ho rfl rfl rfl Tryz.underlying102 Tryz.underlying3 (by decide) (by intro j hj e; have := msg_one j hj; omega) e15 g15 e66 ⟨_, _, _, rfl, h66⟩ (FV.stab _ _) hC
  · intro vs L g w' a' hC hS hT hsz hdf
    have e15 : a'.tmps.getD 15 undef = vs 0 := hT 0 15 (by kernel_rfl)
    obtain ⟨b, hv, hg⟩ := hS 0 (by decide)
    rw [hv] at e15
    have e15' : a'.eval (.tmp 15) = .map (some b) := e15
    obtain ⟨hx, _, hC3⟩ := hC
    obtain ⟨hb, f, hf, hn⟩ := hC3 b hg
    have hM : MsgMap w' b := by
      have key : ∀ (i : Nat) (k : Int) F, msgSp i = .ins k (FV Any F) → i < 62 → ∃ u, f k = some u ∧ FV Any F w' u := by
        intro i k F hi hlt
        have := hS i hlt
        unfold SpH at this
        simp only [hi] at this
        obtain ⟨b', f', u, hb', hf', hu, hV⟩ := this
        have hg' : g = some b := hg
        rw [hg'] at hb'
        injection hb' with hb'
        subst hb'
        obtain rfl := hf.uniq hf'
        exact ⟨u, hu, hV⟩
      refine ⟨f, hf, fun k => ?_⟩
      by_cases hk : k ∈ ([1, 2, 4, 5, 8, 11, 13, 15, 20, 24] : List Int)
      · simp only [List.mem_cons, List.not_mem_nil, or_false] at hk
        rcases hk with rfl | rfl | rfl | rfl | rfl | rfl | rfl | rfl | rfl | rfl
        · obtain ⟨u, hu, hV⟩ := key 10 _ _ rfl (by decide); rw [hu]; exact ⟨_, List.mem_of_getElem? (i := 0) rfl, rfl, hV⟩
        · obtain ⟨u, hu, hV⟩ := key 20 _ _ rfl (by decide); rw [hu]; exact ⟨_, List.mem_of_getElem? (i := 1) rfl, rfl, hV⟩
        · obtain ⟨u, hu, hV⟩ := key 29 _ _ rfl (by decide); rw [hu]; exact ⟨_, List.mem_of_getElem? (i := 2) rfl, rfl, hV⟩
        · obtain ⟨u, hu, hV⟩ := key 31 _ _ rfl (by decide); rw [hu]; exact ⟨_, List.mem_of_getElem? (i := 3) rfl, rfl, hV⟩
        · obtain ⟨u, hu, hV⟩ := key 36 _ _ rfl (by decide); rw [hu]; exact ⟨_, List.mem_of_getElem? (i := 4) rfl, rfl, hV⟩
        · obtain ⟨u, hu, hV⟩ := key 46 _ _ rfl (by decide); rw [hu]; exact ⟨_, List.mem_of_getElem? (i := 5) rfl, rfl, hV⟩
        · obtain ⟨u, hu, hV⟩ := key 52 _ _ rfl (by decide); rw [hu]; exact ⟨_, List.mem_of_getElem? (i := 6) rfl, rfl, hV⟩
        · obtain ⟨u, hu, hV⟩ := key 57 _ _ rfl (by decide); rw [hu]; exact ⟨_, List.mem_of_getElem? (i := 7) rfl, rfl, hV⟩
        · obtain ⟨u, hu, hV⟩ := key 59 _ _ rfl (by decide); rw [hu]; exact ⟨_, List.mem_of_getElem? (i := 8) rfl, rfl, hV⟩
        · obtain ⟨u, hu, hV⟩ := key 61 _ _ rfl (by decide); rw [hu]; exact ⟨_, List.mem_of_getElem? (i := 9) rfl, rfl, hV⟩
      · rw [hn k hk]
        intro q hq e
        apply hk
        rw [e]
        have : ((Form.messages.map fun q => (q.1 : Int)).all fun x => ([1, 2, 4, 5, 8, 11, 13, 15, 20, 24] : List Int).contains x) = true := by decide
        have := List.all_eq_true.1 this _ (List.mem_map.2 ⟨q, hq, rfl⟩)
        simpa using this
    have hX : Ext w w' := Fr.trans (Fr.trans (Fr.trans x4 x6) hx7) hx
    have HM := Lib.hid hM
    have hq : ∀ h : 15 < a'.tmps.size, a'.tmps[15]'h = .map (some b) := fun h => by
      have := e15
      rw [Array.getD_eq_getD_getElem?, Array.getElem?_eq_getElem h] at this
      exact this
    clear hM hS hT hC3 e15
    have hsz' : a'.tmps.size = 68 := hsz
    have hdf' : a'.defers = [] := hdf
    simp only [List.drop_succ_cons, List.drop_zero]
    go_wp2
    try simp only [hq]
    refine bodyPost_ret (v := .map (some b)) (by simp [results, Tryz.results51, go_sem, hsz', Array.getD_eq_getD_getElem?]) rfl ?_
    exact ⟨b, rfl, HM.out, hX⟩
end Go.Proofs.YtalbiepdkaldmaaGreatDoor
