/- hand.Put of a message's first byte. -/
import Derived.Test.YtalbiepdkaldmaaGreatDoorProg
import Derived.Test.YtalbiepdkaldmaaGreatDoorHand2
import Derived.Deep.QuietTactic
import Derived.BigQuiet
import Derived.Deep.LoopGhost
import Derived.Laws.EntriesVeiled
set_option linter.unusedVariables false
set_option linter.unusedSimpArgs false
namespace Go.Proofs.YtalbiepdkaldmaaGreatDoor
open Go.RowKit
def IsHandX (w : World) (col : Nat → Nat) (h : Nat) (σ : Hd) (vd vs : Value) : Prop := col h = 2 ∧ w.heap[h]? = some (.cells (handCells σ vd vs) 145 (0, 0)) ∧
  OwnR Rd.u8 5 w 0 NoB vd σ.data.length σ.data ∧ (∀ k, vd.ownBlock = some k → col k = 8) ∧ OwnR Rd.seg 230 w 0 NoB vs σ.segs.length σ.segs ∧ (∀ k, vs.ownBlock = some k → col k = 9)
theorem IsHandX.hand {w : World} {col : Nat → Nat} {h : Nat} {σ : Hd} {vd vs : Value} (H : IsHandX w col h σ vd vs) : IsHand w col h σ := ⟨H.1, vd, vs, H.2⟩
theorem IsHandX.ext {w w' : World} {col : Nat → Nat} {h : Nat} {σ : Hd} {vd vs : Value} (H : IsHandX w col h σ vd vs) (hx : Ext w w') : IsHandX w' col h σ vd vs := by
  obtain ⟨hc, hb, hd, hd8, hs, hs9⟩ := H
  exact ⟨hc, Ext.blk hx hb, hd.ext hx, hd8, hs.ext hx, hs9⟩
theorem hues_hue {w1 : World} {col : Nat → Nat} {v : Value} {c : Nat} {F : Nat → Prop} (hg : Goes w1 col (hue col c v)) : ∀ b, b < w1.heap.size → Hues (hue col c v) b → Hues col b := fun b hb h => by
  unfold Hues at *
  rw [hg b hb] at h
  exact h
/-- A byte more: the row of the data has grown, and the place behind it is noted. -/
theorem data_grown {w1 w2 : World} {col : Nat → Nat} {h : Nat} {σ : Hd} {vd vs v' : Value} {x : UInt8} {nx : Nat} (H : IsHandX w1 col h σ vd vs) (hown : OwnR Rd.u8 5 w2 0 NoB v' (σ.data.length + 1) (σ.data ++ [x])) (hgr : w1.grownBy w2 vd.ownBlock) (hblk : ∀ k, v'.ownBlock = some k → vd.ownBlock = some k ∨ w1.heap.size ≤ k) :
    IsHandX ((w2.setCell ⟨h, 1, none⟩ v').setCell ⟨h, 4, none⟩ (.int .i64 (nx : Int))) (hue col 8 v') h { σ with data := σ.data ++ [x], next := nx } v' vs ∧ Fr (Hues col) w1 ((w2.setCell ⟨h, 1, none⟩ v').setCell ⟨h, 4, none⟩ (.int .i64 (nx : Int))) ∧ Goes w1 col (hue col 8 v') := by
  obtain ⟨hc, hb, hd, hd8, hs, hs9⟩ := H
  have hF2 : Fr (fun b => col b = 8) w1 w2 := Fr.of_grow hgr hd8
  have hb2 := hF2.blk hb (by rw [hc]; omega)
  have hlt : h < w1.heap.size := blk_lt hb
  have hgo : Goes w1 col (hue col 8 v') := hue_goes hd8 hblk
  have hf4 : Fr (One h) w2 ((w2.setCell ⟨h, 1, none⟩ v').setCell ⟨h, 4, none⟩ (.int .i64 (nx : Int))) := (by repeat (first | with_reducible exact Fr.refl _ _ | (with_reducible refine Fr.set ?_ _ _ _ (One.self _)) | (with_reducible refine Fr.alloc ?_ _) | (with_reducible refine Fr.drew ?_)))
  refine ⟨⟨(hgo h hlt).trans hc, (blk_set (blk_set hb2 1 _) 4 _).trans (by simp [handCells]), ?_, fun k hk => by unfold hue; rw [if_pos hk], ?_, fun k hk => ?_⟩, ?_, hgo⟩
  · have := hown.fr hf4 (fun k hk e => by have e : k = h := e; rcases hblk k hk with h1 | h1; (have := hd8 k h1; rw [e, hc] at this; omega); omega) (fun _ e => e.elim)
    simpa using this
  · exact (hs.fr hF2 (fun k hk => by rw [hs9 k hk]; omega) (fun _ e => e.elim)).fr hf4 (fun k hk e => by have e : k = h := e; have := hs9 k hk; rw [e, hc] at this; omega) (fun _ e => e.elim)
  · have hk1 := (hs.block k hk).2
    rw [hgo k hk1]
    exact hs9 k hk
  · exact Fr.trans (hF2.mono fun b _ h8 => .inr (.inl h8)) (hf4.mono fun b _ e => by have e : b = h := e; rw [e]; exact .inl hc)
set_option maxRecDepth 8000 in
set_option maxHeartbeats 8000000 in
theorem put_first {col : Nat → Nat} {h : Nat} {σ : Hd} (w : World) (H : IsHand w col h σ) (A : Option Addr) (cb : Nat) (x : UInt8) (at_ : Nat) (ok : Nat → Prop) (hx : SlC Rd.u8 w ok A 1 cb [x]) (hok : ∀ b, ok b → ¬ Hues col b) (he : σ.err = 0) (h0 : σ.data = []) (hat : at_ + 1 ≤ 4611686018427387904) (hsn : σ.segs.length ≤ 1000000) :
    Calls Tryz.prog 116 #[.pointer (some ⟨h, 0, none⟩), .int .i64 at_, .slice A 1 cb] w fun e w' => ∃ col', Goes w col col' ∧ e = .returned (.tuple #[.slice none 0 0, .int .i64 0, .int .i64 0]) ∧ IsHand w' col' h { σ with data := [x], segs := σ.segs ++ [(0, at_)], next := at_ + 1 } ∧ Fr (Hues col) w w' := by
  have HI := Lib.hid H
  obtain ⟨hc, vd, vs, hb, hd, hd8, hs, hs9⟩ := H
  obtain ⟨Ad, cd, rfl, hsl⟩ := hd.sl
  obtain ⟨As, cs, rfl, hss⟩ := hs.sl
  have hl0 : σ.data.length = 0 := by rw [h0]; rfl
  rw [hl0] at hd hd8 hb
  have c1 : w.cell? ⟨h, 1, none⟩ = some (.slice Ad 0 cd) := (blk_cell hb 1).trans rfl
  have c2 : w.cell? ⟨h, 2, none⟩ = some (.slice As σ.segs.length cs) := (blk_cell hb 2).trans rfl
  have c4 : w.cell? ⟨h, 4, none⟩ = some (.int .i64 σ.next) := (blk_cell hb 4).trans rfl
  have c6 : w.cell? ⟨h, 6, none⟩ = some (.int .i64 0) := (blk_cell hb 6).trans (by simp [handCells, he])
  have cf : ∀ i, w.frozen? ⟨h, i, none⟩ = false := fun i => blk_unfrozen hb i
  have hlt : h < w.heap.size := blk_lt hb
  have hcb : 1 ≤ cb := hx.le
  have hcb' : (1 : Int) ≤ (cb : Int) := by omega
  have hcm : cb ≤ 9223372036854775807 := hx.max
  have HX := Lib.hid hx
  have HD := Lib.hid hd
  have HSG := Lib.hid hs
  have HB := Lib.hid hb
  have H0 := Lib.hid h0
  clear hb hd hs hsl hx hss h0 hl0
  have m1 : min (1 : Int) 4 = 1 := by omega
  have wn : IntKind.i64.wrap ((at_ : Int) + 1) = (at_ : Int) + 1 := IntWalk.i64_in _ (by omega)
  go_enter Tryz.func116, Tryz.ntmps116
  go_wp2
  go_loopg [1, 2, 9] 1 (fun m a b l wr => l = .slice none 0 0 ∧ ((m = 1 ∧ a = .int .i64 at_ ∧ b = .slice A 1 cb ∧ wr = w) ∨ (m = 0 ∧ (∃ A' c', b = .slice A' 0 c') ∧ ∃ col', Goes w col col' ∧ IsHand wr col' h { σ with data := [x], segs := σ.segs ++ [(0, at_)], next := at_ + 1 } ∧ Fr (Hues col) w wr)))
  case atStart => exact ⟨rfl, .inl ⟨rfl, rfl, rfl, rfl⟩⟩
  case round =>
    obtain ⟨rfl, ⟨rfl, rfl, rfl, rfl⟩ | ⟨rfl, ⟨A', c', rfl⟩, hdone⟩⟩ := hrel
    · go_wp2
      refine wp_region_mix _ 14 16 (by kernel_rfl) (by kernel_rfl) (fun w'' => w''.cell? ⟨h, 1, none⟩ = some (.slice Ad 0 cd) ∧ w''.cell? ⟨h, 2, none⟩ = some (.slice As σ.segs.length cs)) ?_ ?_
      · exact ⟨c1, c2⟩
      simp only [List.take_succ_cons, List.take_zero]
      (repeat (first | (apply wpStl_op; (focus (first | rfl | (go_simp; done))); (focus (intro w' hw'; skip; go_simp; first | done | rfl | exact ⟨rfl, rfl⟩)); (intro K hK; go_simp; refine hK _ ?_; clear hK K)) | (refine wpStl_no ?_ (fun K hK => ?_); (focus (first | rfl | (go_simp; done))); go_simp; refine hK _ ?_; clear hK K)))
      (show wpMid _ _ _ _ _ _ _; simp only [List.drop_succ_cons, List.drop_zero, List.take_succ_cons, List.take_zero, Nat.reduceSub])
      (refine wpMid_op ?_ (fun K hK => ?_); (focus (first | rfl | (go_simp; done))); go_simp)
      refine hK _ _ ?_ ?_
      · have hxa : Ext wr ((wr.alloc (.cells #[.int .i64 0, .int .i64 at_] 230)).drew) := Fr.drew ((Fr.refl _ _).alloc _)
        exact ⟨(Ext.cells hxa _ _ hlt).trans c1, (Ext.cells hxa _ _ hlt).trans c2⟩
      clear hK K
      refine wpMid_op ?_ (fun K hK => ?_)
      · rfl
      have hxa : Ext wr ((wr.alloc (.cells #[.int .i64 0, .int .i64 at_] 230)).drew) := Fr.drew ((Fr.refl _ _).alloc _)
      have hsy : SlC Rd.seg ((wr.alloc (.cells #[.int .i64 0, .int .i64 at_] 230)).drew) (fun b => (Value.slice As σ.segs.length cs).ownBlock ≠ some b) (some ⟨wr.heap.size, 0, none⟩) 1 1 [(0, at_)] := by
        refine sl_newO (d := Rd.seg) (w := wr) (ok := NoB) (cells := [.int .i64 0, .int .i64 at_]) (blk_new _ _) (Elems.one (d := Rd.seg) (x := (0, at_)) rfl) hxa rfl (by decide) (fun e => ?_) (fun _ _ e => e.elim)
        have := (HSG.out.block _ e).2
        omega
      have howns : OwnR Rd.seg 230 ((wr.alloc (.cells #[.int .i64 0, .int .i64 at_] 230)).drew) 0 (fun b => (Value.slice As σ.segs.length cs).ownBlock ≠ some b) (.slice As σ.segs.length cs) σ.segs.length σ.segs := (HSG.out.ext hxa).okmono (fun _ _ e => e.elim)
      refine wp_append_rows (d := Rd.seg) (ok := fun b => (Value.slice As σ.segs.length cs).ownBlock ≠ some b) (v := .slice As σ.segs.length cs) (xs := σ.segs) (ys := [(0, at_)]) (n := σ.segs.length) (m := 1) (base := 0) rfl app_seg rfl howns (fun k hk e => e hk) hsy rfl (by omega) (Nat.zero_le _) ?_
      intro v' w2 hown hgr hblk
      have hF2 : Fr (fun b => col b = 9) wr w2 := Fr.trans (Ext.any hxa) (Fr.of_grow hgr hs9)
      have hb2 : w2.heap[h]? = _ := hF2.blk HB.out (by rw [hc]; omega)
      refine hK _ _ ⟨(blk_cell hb2 1).trans rfl, (blk_cell hb2 2).trans rfl⟩ ?_
      clear hK K
      obtain ⟨A2, c2', rfl, hsl2⟩ := hown.sl
      clear hsl2
      have k1 : w2.cell? ⟨h, 1, none⟩ = some (.slice Ad 0 cd) := (blk_cell hb2 1).trans rfl
      have k2 : w2.cell? ⟨h, 2, none⟩ = some (.slice As σ.segs.length cs) := (blk_cell hb2 2).trans rfl
      have k4 : w2.cell? ⟨h, 4, none⟩ = some (.int .i64 σ.next) := (blk_cell hb2 4).trans rfl
      have kf : ∀ i, w2.frozen? ⟨h, i, none⟩ = false := fun i => blk_unfrozen hb2 i
      have hl2 : h < w2.heap.size := blk_lt hb2
      have HB2 := Lib.hid hb2
      have HF2 := Lib.hid hF2
      have HOW := Lib.hid hown
      have hbk : ∀ k, (Value.slice A2 (σ.segs.length + 1) c2').ownBlock = some k → (Value.slice As σ.segs.length cs).ownBlock = some k ∨ wr.heap.size < k := fun k hk => by
        rcases hblk k hk with h1 | h1
        · exact .inl h1
        · refine .inr ?_
          simp [World.drew] at h1
          omega
      have HBK := Lib.hid hbk
      have HU : Hid (∀ v4 : Value, v4 = v4 → IsHandX (w2.setCell ⟨h, 2, none⟩ (.slice A2 (σ.segs.length + 1) c2')) (hue col 9 (.slice A2 (σ.segs.length + 1) c2')) h { σ with segs := σ.segs ++ [(0, at_)] } (.slice Ad 0 cd) (.slice A2 (σ.segs.length + 1) c2') ∧
          Fr (Hues col) wr (w2.setCell ⟨h, 2, none⟩ (.slice A2 (σ.segs.length + 1) c2')) ∧ Goes wr col (hue col 9 (.slice A2 (σ.segs.length + 1) c2'))) := Lib.hid (fun _ _ => by
        have hgo : Goes wr col (hue col 9 (.slice A2 (σ.segs.length + 1) c2')) := hue_goes hs9 (fun k hk => by rcases hbk k hk with h1 | h1; exact .inl h1; exact .inr (by omega))
        have hf4 : Fr (One h) w2 (w2.setCell ⟨h, 2, none⟩ (.slice A2 (σ.segs.length + 1) c2')) := (by repeat (first | with_reducible exact Fr.refl _ _ | (with_reducible refine Fr.set ?_ _ _ _ (One.self _)) | (with_reducible refine Fr.alloc ?_ _) | (with_reducible refine Fr.drew ?_)))
        have hl0 : σ.data.length = 0 := by rw [H0.out]; rfl
        refine ⟨⟨(hgo h hlt).trans hc, (blk_set hb2 2 _).trans (by simp [handCells]), ?_, fun k hk => ?_, ?_, fun k hk => by unfold hue; rw [if_pos hk]⟩, ?_, hgo⟩
        · simp only [hl0]
          exact (HD.out.fr hF2 (fun k hk => by rw [hd8 k hk]; omega) (fun _ e => e.elim)).fr hf4 (fun k hk e => by have e : k = h := e; have := hd8 k hk; rw [e, hc] at this; omega) (fun _ e => e.elim)
        · have hk1 := (HD.out.block k hk).2
          rw [hgo k hk1]
          exact hd8 k hk
        · have hown' : OwnR Rd.seg 230 w2 0 NoB (.slice A2 (σ.segs.length + 1) c2') (σ.segs.length + 1) (σ.segs ++ [(0, at_)]) := hown
          have := hown'.fr hf4 (fun k hk e => by have e : k = h := e; rcases hbk k hk with h1 | h1; (have := hs9 k h1; rw [e, hc] at this; omega); omega) (fun _ e => e.elim)
          simpa using this
        · exact Fr.trans (hF2.mono fun b _ h8 => .inr (.inr h8)) (hf4.mono fun b _ e => by have e : b = h := e; rw [e]; exact .inl hc))
      clear hb2 hF2 hown hblk hgr howns hsy hbk
      obtain ⟨hI3, hF3, hG3⟩ := HU.out (.int .i64 0) rfl
      have HI3 := Lib.hid hI3
      have HF3 := Lib.hid hF3
      have HG3 := Lib.hid hG3
      have HW : Hid (∀ W, Ext (w2.setCell ⟨h, 2, none⟩ (.slice A2 (σ.segs.length + 1) c2')) W → Calls Tryz.prog 148 #[.pointer (some ⟨h, 0, none⟩)] W fun e w' => e = .returned (.int .i64 4) ∧ Ext W w') := Lib.hid fun W hW => by
        have hl0 : σ.data.length = 0 := by rw [H0.out]; rfl
        have := hand_want W (hI3.ext hW).hand (by simp [hl0]) (fun e => absurd (by simp [hl0]) e)
        unfold Hd.want at this
        simpa [hl0] using this
      clear hI3 hF3 hG3 HU
      (show wpList _ _ _ _ _ _; try simp only [List.drop_succ_cons, List.drop_zero])
      go_wp2_with ((go_at_call 148; refine (HW.out _ (Fr.refl _ _)).mono ?_; rintro e w5 ⟨rfl, hx5⟩; have hc5 := Ext.cells hx5; have hf5 := Ext.frozens hx5; have hz5 := Fr.size hx5; try simp [go_sem] at hz5; try (have hzl := Nat.lt_of_succ_le hz5; try (have hzm := Nat.lt_of_succ_lt hzl))))
      have HI5 := Lib.hid (HI3.out.ext hx5)
      have HX5 := Lib.hid hx5
      have hb5 := HI5.out.2.1
      have hl0 : σ.data.length = 0 := by rw [H0.out]; rfl
      have s1 : w5.cell? ⟨h, 1, none⟩ = some (.slice Ad 0 cd) := (blk_cell hb5 1).trans rfl
      have hl5 : h < w5.heap.size := blk_lt hb5
      clear hb5
      refine wp_region_mix _ 9 10 (by kernel_rfl) (by kernel_rfl) (fun w'' => w''.cell? ⟨h, 1, none⟩ = some (.slice Ad 0 cd)) ?_ ?_
      · exact s1
      simp only [List.take_succ_cons, List.take_zero]
      (repeat (first | (apply wpStl_op; (focus (first | rfl | (go_simp; done))); (focus (intro w' hw'; skip; go_simp; first | done | rfl | exact ⟨rfl, rfl⟩)); (intro K hK; go_simp; refine hK _ ?_; clear hK K)) | (refine wpStl_no ?_ (fun K hK => ?_); (focus (first | rfl | (go_simp; done))); go_simp; refine hK _ ?_; clear hK K)))
      (show wpMid _ _ _ _ _ _ _; simp only [List.drop_succ_cons, List.drop_zero, List.take_succ_cons, List.take_zero, Nat.reduceSub])
      refine wpMid_op ?_ (fun K hK => ?_)
      · rfl
      have hd5 : OwnR Rd.u8 5 w5.drew 0 (fun b => hue col 9 (.slice A2 (σ.segs.length + 1) c2') b ≠ 8) (.slice Ad 0 cd) 0 [] := by
        have := HI5.out.2.2.1
        simp only [hl0, H0.out] at this
        exact own_u8 (this.ext (Fr.refl _ _).drew)
      refine wp_append_rows (d := Rd.u8) (ok := fun b => hue col 9 (.slice A2 (σ.segs.length + 1) c2') b ≠ 8) (v := .slice Ad 0 cd) (xs := []) (ys := [x]) (n := 0) (m := 1) (base := 0) rfl app_u8 rfl hd5 (fun k hk e => e (HI5.out.2.2.2.1 k hk)) (((HX.out.ltok.fr HF3.out (fun b hb => hok b hb.2)).ext (Fr.trans HX5.out (Fr.refl _ _).drew)).mono fun b _ hb e => hok b hb.2 (.inr (.inl ((HG3.out b hb.1).symm.trans e)))) rfl (by omega) (Nat.zero_le _) ?_
      intro v' w6 hown6 hgr6 hblk6
      have hgr6' : w5.grownBy w6 (Value.slice Ad 0 cd).ownBlock := ⟨hgr6.os, hgr6.tape, hgr6.output, hgr6.size, hgr6.block⟩
      have hG := data_grown (x := x) (nx := at_ + 1) HI5.out (by simp only [hl0, H0.out]; exact own_u8 hown6) hgr6' (fun k hk => hblk6 k hk)
      have hF6 : Fr (fun b => hue col 9 (.slice A2 (σ.segs.length + 1) c2') b = 8) w5 w6 := Fr.of_grow hgr6' HI5.out.2.2.2.1
      have hb6 : w6.heap[h]? = _ := hF6.blk HI5.out.2.1 (by rw [HI5.out.1]; omega)
      refine hK _ _ ((blk_cell hb6 1).trans rfl) ?_
      clear hK K
      obtain ⟨A7, c7, rfl, hsl7⟩ := hown6.sl
      clear hsl7
      have r1 : w6.cell? ⟨h, 1, none⟩ = some (.slice Ad 0 cd) := (blk_cell hb6 1).trans rfl
      have r4 : w6.cell? ⟨h, 4, none⟩ = some (.int .i64 σ.next) := (blk_cell hb6 4).trans rfl
      have rf : ∀ i, w6.frozen? ⟨h, i, none⟩ = false := fun i => blk_unfrozen hb6 i
      have HG := Lib.hid hG
      clear hG hb6 hF6 hown6 hblk6 hgr6 hgr6' hd5
      (show wpList _ _ _ _ _ _; try simp only [List.drop_succ_cons, List.drop_zero])
      go_wp2
      all_goals
        go_roundg 0
        case measure => omega
        case rel =>
          refine ⟨rfl, .inr ⟨rfl, ⟨_, _, rfl⟩, _, ?_, (by have := HG.out.1.hand; simp only [H0.out, List.nil_append] at this; exact this), ?_⟩⟩
          · exact fun b hb => (HG.out.2.2 b (Nat.lt_of_lt_of_le hb (Nat.le_trans HF3.out.size HX5.out.size))).trans (HG3.out b hb)
          · exact Fr.trans' (Fr.trans HF3.out (Ext.any HX5.out)) HG.out.2.1 (fun i hi hu => by unfold Hues at *; rw [HG3.out i hi] at hu; exact hu)
    · obtain ⟨col', hg, hI, hf⟩ := hdone
      go_wp2
      refine bodyPost_ret (v := .tuple #[.slice none 0 0, .int .i64 0, .int .i64 0]) (by simp only [results, Tryz.results116]; go_simp) rfl ?_
      exact ⟨col', hg, rfl, hI, hf⟩
end Go.Proofs.YtalbiepdkaldmaaGreatDoor
