/- hand.Put of a message's last byte. -/
import Derived.Test.YtalbiepdkaldmaaGreatDoorProg
import Derived.Test.YtalbiepdkaldmaaGreatDoorHand4
import Derived.Test.YtalbiepdkaldmaaGreatDoorClones
import Derived.Test.YtalbiepdkaldmaaGreatDoorMixL
import Derived.Deep.QuietTactic
import Derived.BigQuiet
import Derived.Deep.LoopGhost
import Derived.Laws.EntriesVeiled
set_option linter.unusedVariables false
set_option linter.unusedSimpArgs false
namespace Go.Proofs.YtalbiepdkaldmaaGreatDoor
open Go.RowKit
theorem hand_wantE {col : Nat → Nat} {q : Nat} {σ : Hd} {w : World} (H : IsHand w col q σ) (hl : 4 ≤ σ.data.length) (he : σ.need = σ.data.length) (hn : σ.need ≤ 16777219) : Calls Tryz.prog 148 #[.pointer (some ⟨q, 0, none⟩)] w fun e w' => e = .returned (.int .i64 0) ∧ Ext w w' := by
  have := hand_want w H (by omega) (fun _ => hn)
  unfold Hd.want at this
  rw [if_neg (by omega), he, Int.sub_self] at this
  exact this
theorem hand_wantB {col : Nat → Nat} {q : Nat} {σ : Hd} {w : World} (H : IsHand w col q σ) (hl : 4 ≤ σ.data.length) (he : σ.need = σ.data.length + 1) (hn : σ.need ≤ 16777219) : Calls Tryz.prog 148 #[.pointer (some ⟨q, 0, none⟩)] w fun e w' => e = .returned (.int .i64 1) ∧ Ext w w' := by
  have := hand_want w H (by omega) (fun _ => hn)
  unfold Hd.want at this
  rw [if_neg (by omega), he, show (((σ.data.length + 1 : Nat) : Int) - (σ.data.length : Int)) = 1 by omega] at this
  exact this
/-- What is handed back of a message that is whole. -/
def PutEnd (col : Nat → Nat) (q : Nat) (σ : Hd) (x : UInt8) (w : World) (e : Ending) (w' : World) : Prop := ∃ col' A c, Goes w col col' ∧ (∀ b, w.heap.size ≤ b → col' b = 0) ∧ e = .returned (.tuple #[.slice A 1 c, .int .i64 0, .int .i64 0]) ∧ SlC Rd.found w' (fun b => w.heap.size ≤ b) A 1 c [(σ.data ++ [x], σ.segs)] ∧ IsHand w' col' q { σ with data := [], segs := [], next := σ.next + 1 } ∧ Fr (Hues col) w w'
def PutEndL (col : Nat → Nat) (q : Nat) (σ : Hd) (x : UInt8) (w : World) (l : Value) (w' : World) : Prop := ∃ col' A c, Goes w col col' ∧ (∀ b, w.heap.size ≤ b → col' b = 0) ∧ l = .slice A 1 c ∧ SlC Rd.found w' (fun b => w.heap.size ≤ b) A 1 c [(σ.data ++ [x], σ.segs)] ∧ IsHand w' col' q { σ with data := [], segs := [], next := σ.next + 1 } ∧ Fr (Hues col) w w'
set_option maxRecDepth 8000 in
set_option maxHeartbeats 8000000 in
theorem put_end {col : Nat → Nat} {q : Nat} {σ : Hd} (w : World) (H : IsHand w col q σ) (A : Option Addr) (cb : Nat) (x : UInt8) (ok : Nat → Prop) (hx : SlC Rd.u8 w ok A 1 cb [x]) (hok : ∀ b, ok b → ¬ Hues col b) (he : σ.err = 0) (h4 : 4 ≤ σ.data.length) (hn : σ.need = σ.data.length + 1) (hmx : σ.need ≤ 16777219) (hat : σ.next + 1 ≤ 4611686018427387904) (hsn : σ.segs.length ≤ 1000000) :
    Calls Tryz.prog 116 #[.pointer (some ⟨q, 0, none⟩), .int .i64 σ.next, .slice A 1 cb] w (PutEnd col q σ x w) := by
  have HW : Hid (∀ W, Ext w W → Calls Tryz.prog 148 #[.pointer (some ⟨q, 0, none⟩)] W fun e w' => e = .returned (.int .i64 1) ∧ Ext W w') := Lib.hid fun W hW => hand_wantB (H.ext hW) h4 hn hmx
  obtain ⟨Ad, cd, As, cs, HX0⟩ := H.x
  have hl := Lib.hid (rfl : σ.data.length = σ.data.length)
  have c1 : w.cell? ⟨q, 1, none⟩ = some (.slice Ad σ.data.length cd) := HX0.c1
  have c4 := HX0.c4
  have c6 := HX0.c6 he
  have hlt : q < w.heap.size := blk_lt HX0.2.1
  have hcb : 1 ≤ cb := hx.le
  have hcb' : (1 : Int) ≤ (cb : Int) := by omega
  have hcm : cb ≤ 9223372036854775807 := hx.max
  have HX := Lib.hid hx
  have HI := Lib.hid HX0
  have HN := Lib.hid hn
  have HM := Lib.hid hmx
  clear hx HX0 hn hmx hl
  have m1 : min (1 : Int) 1 = 1 := by omega
  have d0 : ((σ.data.length : Int) == 0) = false := by rw [beq_eq_false_iff_ne]; omega
  have d4 : decide ((σ.data.length : Int) < 4) = false := by simp; omega
  have d5 : decide (4 ≤ (σ.data.length : Int) + 1) = true := by simp; omega
  have wn : IntKind.i64.wrap ((σ.next : Int) + 1) = (σ.next : Int) + 1 := IntWalk.i64_in _ (by omega)
  go_enter Tryz.func116, Tryz.ntmps116
  go_wp2
  go_loopg [1, 2, 9] 1 (fun m a b l wr => ((m = 1 ∧ a = .int .i64 σ.next ∧ b = .slice A 1 cb ∧ l = .slice none 0 0 ∧ wr = w) ∨ (m = 0 ∧ (∃ A' c', b = .slice A' 0 c') ∧ PutEndL col q σ x w l wr)))
  case atStart => exact .inl ⟨rfl, rfl, rfl, rfl, rfl⟩
  case round =>
    obtain ⟨rfl, rfl, rfl, rfl, rfl⟩ | ⟨rfl, ⟨A', c', rfl⟩, hdone⟩ := hrel
    · go_wp2_with ((go_at_call 148; refine (HW.out _ (Fr.refl _ _)).mono ?_; rintro e w1 ⟨rfl, hx1⟩; have hc1 := Ext.cells hx1; have hf1 := Ext.frozens hx1; have hz1 := Fr.size hx1; try simp [go_sem] at hz1; try (have hzl := Nat.lt_of_succ_le hz1; try (have hzm := Nat.lt_of_succ_lt hzl))))
      have HX1 := Lib.hid hx1
      have HI1 := Lib.hid (HI.out.ext hx1)
      have hqh : q < w1.heap.size := by omega
      have k1 : w1.cell? ⟨q, 1, none⟩ = some (.slice Ad σ.data.length cd) := (hc1 _ _ hlt).trans c1
      refine wp_region_mix _ 9 10 (by kernel_rfl) (by kernel_rfl) (fun w'' => w''.cell? ⟨q, 1, none⟩ = some (.slice Ad σ.data.length cd)) ?_ ?_
      · exact k1
      simp only [List.take_succ_cons, List.take_zero]
      (repeat (first | (apply wpStl_op; (focus (first | rfl | (go_simp; done))); (focus (intro w' hw'; skip; go_simp; first | done | rfl | exact ⟨rfl, rfl⟩)); (intro K hK; go_simp; refine hK _ ?_; clear hK K)) | (refine wpStl_no ?_ (fun K hK => ?_); (focus (first | rfl | (go_simp; done))); go_simp; refine hK _ ?_; clear hK K)))
      (show wpMid _ _ _ _ _ _ _; simp only [List.drop_succ_cons, List.drop_zero, List.take_succ_cons, List.take_zero, Nat.reduceSub])
      refine wpMid_op ?_ (fun K hK => ?_)
      · rfl
      have hd1 : OwnR Rd.u8 5 w1.drew 0 (fun b => col b ≠ 8) (.slice Ad σ.data.length cd) σ.data.length σ.data := own_u8 (HI1.out.2.2.1.ext (Fr.refl _ _).drew)
      have hd8 : ∀ k, (Value.slice Ad σ.data.length cd).ownBlock = some k → col k = 8 := HI1.out.2.2.2.1
      have hd9 : ∀ k, (Value.slice As σ.segs.length cs).ownBlock = some k → col k = 9 := HI1.out.2.2.2.2.2
      refine wp_append_rows (d := Rd.u8) (ok := fun b => col b ≠ 8) (v := .slice Ad σ.data.length cd) (xs := σ.data) (ys := [x]) (n := σ.data.length) (m := 1) (base := 0) rfl app_u8 rfl hd1 (fun k hk e => e (hd8 k hk)) ((HX.out.ext (Fr.trans HX1.out (Fr.refl _ _).drew)).mono fun b _ hb e => hok b hb (.inr (.inl e))) rfl (by have := HM.out; have := HN.out; omega) (Nat.zero_le _) ?_
      intro v' w6 hown6 hgr6 hblk6
      have hgr6' : w1.grownBy w6 (Value.slice Ad σ.data.length cd).ownBlock := ⟨hgr6.os, hgr6.tape, hgr6.output, hgr6.size, hgr6.block⟩
      have hG := data_grown (x := x) (nx := σ.next + 1) HI1.out (own_u8 hown6) hgr6' (fun k hk => hblk6 k hk)
      have hF6 : Fr (fun b => col b = 8) w1 w6 := Fr.of_grow hgr6' hd8
      have hb6 : w6.heap[q]? = _ := hF6.blk HI1.out.2.1 (by rw [HI1.out.1]; omega)
      refine hK _ _ ((blk_cell hb6 1).trans rfl) ?_
      clear hK K
      obtain ⟨A7, c7, rfl, hsl7⟩ := hown6.sl
      clear hsl7
      have hl6 : q < w6.heap.size := blk_lt hb6
      have r1 : w6.cell? ⟨q, 1, none⟩ = some (.slice Ad σ.data.length cd) := (blk_cell hb6 1).trans rfl
      have r2 : w6.cell? ⟨q, 2, none⟩ = some (.slice As σ.segs.length cs) := (blk_cell hb6 2).trans rfl
      have r4 : w6.cell? ⟨q, 4, none⟩ = some (.int .i64 σ.next) := (blk_cell hb6 4).trans rfl
      have rf : ∀ i, w6.frozen? ⟨q, i, none⟩ = false := fun i => blk_unfrozen hb6 i
      have HG := Lib.hid hG
      have HH : Hid (Calls Tryz.prog 148 #[.pointer (some ⟨q, 0, none⟩)] ((w6.setCell ⟨q, 1, none⟩ (.slice A7 (σ.data.length + 1) c7)).setCell ⟨q, 4, none⟩ (.int .i64 ((σ.next + 1 : Nat) : Int))) fun e w' => e = .returned (.int .i64 0) ∧ Ext ((w6.setCell ⟨q, 1, none⟩ (.slice A7 (σ.data.length + 1) c7)).setCell ⟨q, 4, none⟩ (.int .i64 ((σ.next + 1 : Nat) : Int))) w') := Lib.hid (hand_wantE hG.1.hand (by simp; omega) (by simp [HN.out]) HM.out)
      simp only [Int.natCast_add, Int.natCast_one] at HH
      have hG2 := hG.2.2
      clear hG hb6 hF6 hown6 hblk6 hgr6 hgr6' hd1 hd8
      (show wpList _ _ _ _ _ _; try simp only [List.drop_succ_cons, List.drop_zero])
      go_wp2_with (first | ((go_at_call 148; refine (HH.out).mono ?_; rintro e w7 ⟨rfl, hx7⟩)))
      all_goals
        have HJ := Lib.hid (HG.out.1.ext hx7)
        have HX7 := Lib.hid hx7
        have e1 := HJ.out.c1
        have e2 := HJ.out.c2
        have ef : ∀ i, w7.frozen? ⟨q, i, none⟩ = false := fun i => blk_unfrozen HJ.out.2.1 i
        have hl7 : q < w7.heap.size := blk_lt HJ.out.2.1
        have hww : wr.heap.size ≤ w7.heap.size := Nat.le_trans HX1.out.size (Nat.le_trans HG.out.2.1.size hx7.size)
        have hs7 : SlC Rd.u8 w7 Any A7 (σ.data.length + 1) c7 (σ.data ++ [x]) := by
          obtain ⟨A0, c0, e, hs⟩ := HJ.out.2.2.1.sl
          simp at e
          obtain ⟨rfl, rfl⟩ := e
          simpa using hs.any
        have hs8 : SlC Rd.seg w7 Any As σ.segs.length cs σ.segs := by
          obtain ⟨A0, c0, e, hs⟩ := HJ.out.2.2.2.2.1.sl
          simp at e
          obtain ⟨rfl, rfl⟩ := e
          exact hs.any
        have HS7 := Lib.hid hs7
        have HS8 := Lib.hid hs8
        clear hs7 hs8 hx7
        (refine wp_region_mixL _ [0,1,2,3,4,5,7,8,9,10,11] [6,12,13,14,15] 16 (by kernel_rfl) (by kernel_rfl) (fun w'' => w''.cell? ⟨q, 1, none⟩ = some (.slice A7 (σ.data.length + 1) c7) ∧ w''.cell? ⟨q, 2, none⟩ = some (.slice As σ.segs.length cs)) ?_ ?_; rotate_left; simp only [opsAt, List.filterMap_cons, List.filterMap_nil, List.getElem?_cons_succ, List.getElem?_cons_zero]; rotate_left)
        · exact ⟨e1, e2⟩
        (repeat (first | (apply wpStl_op; (focus (first | rfl | (go_simp; done))); (focus (intro w' hw'; skip; go_simp; first | done | rfl | exact ⟨rfl, rfl⟩)); (intro K hK; go_simp; refine hK _ ?_; clear hK K)) | (refine wpStl_no ?_ (fun K hK => ?_); (focus (first | rfl | (go_simp; done))); go_simp; refine hK _ ?_; clear hK K)))
        show wpMid _ _ _ _ _ _ _
        (refine wpMid_op ?_ (fun K hK => ?_); (focus (first | rfl | (go_simp; done))); go_simp)
        refine (clone_u8 A7 (σ.data.length + 1) c7 (σ.data ++ [x]) Any _ (HS7.out.ext (Fr.refl _ _).drew) (by have := HM.out; have := HN.out; omega)).mono ?_
        rintro e w8 ⟨A8, c8, rfl, ho8, hx8⟩
        have hx78 : Ext w7 w8 := Fr.trans (Fr.refl _ _).drew hx8
        refine hK _ _ ⟨(Ext.cells hx78 _ _ hl7).trans e1, (Ext.cells hx78 _ _ hl7).trans e2⟩ ?_
        clear hK K
        (refine wpMid_op ?_ (fun K hK => ?_); (focus (first | rfl | (go_simp; done))); go_simp)
        refine (clone_seg As σ.segs.length cs σ.segs Any _ (HS8.out.ext hx78) (by omega)).mono ?_
        rintro e w9 ⟨A9, c9, rfl, ho9, hx9⟩
        have hx79 : Ext w7 w9 := Fr.trans hx78 hx9
        refine hK _ _ ⟨(Ext.cells hx79 _ _ hl7).trans e1, (Ext.cells hx79 _ _ hl7).trans e2⟩ ?_
        clear hK K
        (refine wpMid_op ?_ (fun K hK => ?_); (focus (first | rfl | (go_simp; done))); go_simp)
        refine hK _ _ ⟨(Ext.cells hx79 _ _ hl7).trans e1, (Ext.cells hx79 _ _ hl7).trans e2⟩ ?_
        clear hK K
        (refine wpMid_op ?_ (fun K hK => ?_); (focus (first | rfl | (go_simp; done))); go_simp)
        have hx7a : Ext w7 (w9.alloc (.cells #[.slice A8 (σ.data.length + 1) c8, .slice A9 σ.segs.length c9] 143)) := Fr.trans hx79 ((Fr.refl _ _).alloc _)
        refine hK _ _ ⟨(Ext.cells hx7a _ _ hl7).trans e1, (Ext.cells hx7a _ _ hl7).trans e2⟩ ?_
        clear hK K
        refine wpMid_op ?_ (fun K hK => ?_)
        · rfl
        have hk8 : SlC Rd.u8 w8 (fun b => wr.heap.size ≤ b) A8 (σ.data.length + 1) c8 (σ.data ++ [x]) := by
          obtain ⟨A0, c0, e, hs⟩ := (own_u8 (ok' := NoB) ho8).sl
          simp at e
          obtain ⟨rfl, rfl⟩ := e
          exact hs.mono fun b _ hb => by
            rcases hb with hb | hb
            · have hb : w7.heap.size ≤ b := hb
              omega
            · exact hb.elim
        have hk9 : SlC Rd.seg w9 (fun b => wr.heap.size ≤ b) A9 σ.segs.length c9 σ.segs := by
          have ho9' : OwnR Rd.seg 230 w9 w8.heap.size NoB (.slice A9 σ.segs.length c9) σ.segs.length σ.segs := ho9
          obtain ⟨A0, c0, e, hs⟩ := ho9'.sl
          simp at e
          obtain ⟨rfl, rfl⟩ := e
          have := hx78.size
          exact hs.mono fun b _ hb => by
            rcases hb with hb | hb
            · omega
            · exact hb.elim
        have hsrc : SlC Rd.found (w9.alloc (.cells #[.slice A8 (σ.data.length + 1) c8, .slice A9 σ.segs.length c9] 143)) (fun b => wr.heap.size ≤ b) (some ⟨w9.heap.size, 0, none⟩) 1 1 [(σ.data ++ [x], σ.segs)] :=
          sl_newO (d := Rd.found) (w := w9) (ok := fun b => wr.heap.size ≤ b) (cells := [.slice A8 (σ.data.length + 1) c8, .slice A9 σ.segs.length c9]) (blk_new _ _) (Elems.one (d := Rd.found) (x := (σ.data ++ [x], σ.segs)) ⟨_, _, _, _, _, _, rfl, hk8.ext hx9, hk9⟩) ((Fr.refl _ _).alloc _) rfl (by decide) (by have := hx79.size; omega) (fun _ _ e => e)
        refine wp_append_rows (d := Rd.found) (ok := fun b => wr.heap.size ≤ b) (v := .slice none 0 0) (xs := []) (ys := [(σ.data ++ [x], σ.segs)]) (n := 0) (m := 1) (base := w7.heap.size) rfl app_found rfl (OwnR.nil _ _ _ _ _) (fun k hk e => by simp [Value.ownBlock] at hk) hsrc rfl (by omega) (by have := hx79.size; simp; omega) ?_
        intro v' wa howna hgra hblka
        have hxa : Ext w7 wa := Fr.trans hx7a (Fr.of_grow hgra (fun k hk => by simp [Value.ownBlock] at hk))
        obtain ⟨Aa, ca, rfl, hsa⟩ := howna.sl
        refine hK _ _ ⟨(Ext.cells hxa _ _ hl7).trans e1, (Ext.cells hxa _ _ hl7).trans e2⟩ ?_
        clear hK K
        have hsa' : SlC Rd.found wa (fun b => wr.heap.size ≤ b) Aa 1 ca [(σ.data ++ [x], σ.segs)] := by
          have := hsa.mono (ok' := fun b => wr.heap.size ≤ b) fun b _ hb => by
            rcases hb with hb | hb
            · omega
            · exact hb
          simpa using this
        have e1a := (Ext.cells hxa q 1 hl7).trans e1
        have e2a := (Ext.cells hxa q 2 hl7).trans e2
        have efa : ∀ i, wa.frozen? ⟨q, i, none⟩ = false := fun i => (Ext.frozens hxa q i hl7).trans (ef i)
        have HSA := Lib.hid hsa'
        have HXA := Lib.hid hxa
        have hla : q < wa.heap.size := Nat.lt_of_lt_of_le hl7 hxa.size
        clear hsa hsa' hsrc howna hgra hblka hk8 hk9 ho8 ho9 hx8 hx9 hx78 hx79 hx7a hxa
        (show wpList _ _ _ _ _ _; try simp only [List.drop_succ_cons, List.drop_zero])
        go_wp2
        go_roundg 0
        case measure => omega
        case rel =>
          have hf4 : Fr (One q) wa ((wa.setCell ⟨q, 1, none⟩ (.slice none 0 0)).setCell ⟨q, 2, none⟩ (.slice none 0 0)) := (by repeat (first | with_reducible exact Fr.refl _ _ | (with_reducible refine Fr.set ?_ _ _ _ (One.self _)) | (with_reducible refine Fr.alloc ?_ _) | (with_reducible refine Fr.drew ?_)))
          refine .inr ⟨rfl, ⟨_, _, rfl⟩, fun b => if b < wr.heap.size then col b else 0, Aa, ca, fun b hb => if_pos hb, fun b hb => if_neg (by omega), rfl, HSA.out.fr hf4 (fun b hb e => by unfold One at e; omega), ?_, ?_⟩
          · refine ⟨(if_pos hlt).trans HI.out.1, .slice none 0 0, .slice none 0 0, (blk_set (blk_set (Ext.blk HXA.out HJ.out.2.1) 1 _) 2 _).trans (by simp [handCells]), OwnR.nil _ _ _ _ _, fun k hk => by simp [Value.ownBlock] at hk, OwnR.nil _ _ _ _ _, fun k hk => by simp [Value.ownBlock] at hk⟩
          · exact Fr.trans (Fr.trans (Fr.trans (Ext.any HX1.out) HG.out.2.1) (Ext.any (Fr.trans HX7.out HXA.out))) (hf4.mono fun b _ e => by unfold One at e; rw [e]; exact .inl HI.out.1)
    · obtain ⟨col', A1, c1', hg1, hg2, rfl, hsl, hI, hf⟩ := hdone
      go_wp2
      refine bodyPost_ret (v := .tuple #[.slice A1 1 c1', .int .i64 0, .int .i64 0]) (by simp only [results, Tryz.results116]; go_simp) rfl ?_
      exact ⟨col', A1, c1', hg1, hg2, rfl, hsl, hI, hf⟩
end Go.Proofs.YtalbiepdkaldmaaGreatDoor
