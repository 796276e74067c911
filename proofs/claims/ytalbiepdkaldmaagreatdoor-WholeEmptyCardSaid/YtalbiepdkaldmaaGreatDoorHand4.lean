/- hand.Put of the byte that makes the head whole. -/
import Derived.Test.YtalbiepdkaldmaaGreatDoorProg
import Derived.Test.YtalbiepdkaldmaaGreatDoorHand3
import Derived.Deep.QuietTactic
import Derived.BigQuiet
import Derived.Deep.LoopGhost
import Derived.Laws.EntriesVeiled
set_option linter.unusedVariables false
set_option linter.unusedSimpArgs false
namespace Go.Proofs.YtalbiepdkaldmaaGreatDoor
open Go.RowKit
theorem IsHand.x {w : World} {col : Nat → Nat} {h : Nat} {σ : Hd} (H : IsHand w col h σ) : ∃ Ad cd As cs, IsHandX w col h σ (.slice Ad σ.data.length cd) (.slice As σ.segs.length cs) := by
  obtain ⟨hc, vd, vs, hb, hd, hd8, hs, hs9⟩ := H
  obtain ⟨Ad, cd, rfl, _⟩ := hd.sl
  obtain ⟨As, cs, rfl, _⟩ := hs.sl
  exact ⟨Ad, cd, As, cs, hc, hb, hd, hd8, hs, hs9⟩
theorem IsHand.ext {w w' : World} {col : Nat → Nat} {h : Nat} {σ : Hd} (H : IsHand w col h σ) (hx : Ext w w') : IsHand w' col h σ := H.fr hx (fun _ _ e => e.elim)
theorem IsHandX.c1 {w : World} {col : Nat → Nat} {h : Nat} {σ : Hd} {vd vs : Value} (H : IsHandX w col h σ vd vs) : w.cell? ⟨h, 1, none⟩ = some vd := (blk_cell H.2.1 1).trans rfl
theorem IsHandX.c2 {w : World} {col : Nat → Nat} {h : Nat} {σ : Hd} {vd vs : Value} (H : IsHandX w col h σ vd vs) : w.cell? ⟨h, 2, none⟩ = some vs := (blk_cell H.2.1 2).trans rfl
theorem IsHandX.c3 {w : World} {col : Nat → Nat} {h : Nat} {σ : Hd} {vd vs : Value} (H : IsHandX w col h σ vd vs) : w.cell? ⟨h, 3, none⟩ = some (.int .i64 σ.need) := (blk_cell H.2.1 3).trans rfl
theorem IsHandX.c4 {w : World} {col : Nat → Nat} {h : Nat} {σ : Hd} {vd vs : Value} (H : IsHandX w col h σ vd vs) : w.cell? ⟨h, 4, none⟩ = some (.int .i64 σ.next) := (blk_cell H.2.1 4).trans rfl
theorem IsHandX.c6 {w : World} {col : Nat → Nat} {h : Nat} {σ : Hd} {vd vs : Value} (H : IsHandX w col h σ vd vs) (he : σ.err = 0) : w.cell? ⟨h, 6, none⟩ = some (.int .i64 0) := (blk_cell H.2.1 6).trans (by simp [handCells, he])
theorem hand_want4 {col : Nat → Nat} {h : Nat} {σ : Hd} {w : World} (H : IsHand w col h σ) (hl : σ.data.length = 4) (hn : σ.need ≤ 16777219) : Calls Tryz.prog 148 #[.pointer (some ⟨h, 0, none⟩)] w fun e w' => e = .returned (.int .i64 ((σ.need : Int) - 4)) ∧ Ext w w' := by
  have := hand_want w H (by omega) (fun _ => hn)
  unfold Hd.want at this
  rw [if_neg (by omega), hl] at this
  exact this
set_option maxRecDepth 8000 in
set_option maxHeartbeats 8000000 in
theorem put_head {col : Nat → Nat} {h : Nat} {σ : Hd} (w : World) (H : IsHand w col h σ) (A : Option Addr) (cb : Nat) (x b0 b1 b2 : UInt8) (ok : Nat → Prop) (hx : SlC Rd.u8 w ok A 1 cb [x]) (hok : ∀ b, ok b → ¬ Hues col b) (he : σ.err = 0) (h0 : σ.data = [b0, b1, b2]) (hkn : (handshakes.lookup b0.toNat).isSome = true) (hm : needOf [b0, b1, b2, x] ≤ σ.most) (hn : 4 < needOf [b0, b1, b2, x]) (hmx : σ.most ≤ 16777219) (hat : σ.next + 1 ≤ 4611686018427387904) :
    Calls Tryz.prog 116 #[.pointer (some ⟨h, 0, none⟩), .int .i64 σ.next, .slice A 1 cb] w fun e w' => ∃ col', Goes w col col' ∧ e = .returned (.tuple #[.slice none 0 0, .int .i64 0, .int .i64 0]) ∧ IsHand w' col' h { σ with data := [b0, b1, b2, x], next := σ.next + 1, need := needOf [b0, b1, b2, x] } ∧ Fr (Hues col) w w' := by
  have HW : Hid (∀ W, Ext w W → Calls Tryz.prog 148 #[.pointer (some ⟨h, 0, none⟩)] W fun e w' => e = .returned (.int .i64 1) ∧ Ext W w') := Lib.hid fun W hW => by
    have := hand_want (σ := σ) W (H.fr hW (fun _ _ e => e.elim)) (by simp [h0]) (fun e => absurd (by simp [h0]) e)
    unfold Hd.want at this
    simpa [h0] using this
  obtain ⟨nd, hnd⟩ : ∃ nd, needOf [b0, b1, b2, x] = nd := ⟨_, rfl⟩
  rw [hnd] at hm hn ⊢
  have HND := Lib.hid hnd
  clear hnd
  have wq : ((nd : Int) - 4 == 0) = false := by rw [beq_eq_false_iff_ne]; omega
  obtain ⟨Ad, cd, As, cs, HX0⟩ := H.x
  have hl3 : σ.data.length = 3 := by rw [h0]; rfl
  have c1 : w.cell? ⟨h, 1, none⟩ = some (.slice Ad 3 cd) := HX0.c1.trans (by rw [hl3])
  have c4 := HX0.c4
  have c6 := HX0.c6 he
  have hlt : h < w.heap.size := blk_lt HX0.2.1
  have hcb : 1 ≤ cb := hx.le
  have hcb' : (1 : Int) ≤ (cb : Int) := by omega
  have hcm : cb ≤ 9223372036854775807 := hx.max
  have HX := Lib.hid hx
  have HI := Lib.hid HX0
  have H0 := Lib.hid h0
  have H3 := Lib.hid hl3
  have HN := Lib.hid hn
  have HM := Lib.hid hm
  clear hx HX0 h0 hl3 hn hm
  have m1 : min (1 : Int) 1 = 1 := by omega
  have wn : IntKind.i64.wrap ((σ.next : Int) + 1) = (σ.next : Int) + 1 := IntWalk.i64_in _ (by omega)
  go_enter Tryz.func116, Tryz.ntmps116
  go_wp2
  go_loopg [1, 2, 9] 1 (fun m a b l wr => l = .slice none 0 0 ∧ ((m = 1 ∧ a = .int .i64 σ.next ∧ b = .slice A 1 cb ∧ wr = w) ∨ (m = 0 ∧ (∃ A' c', b = .slice A' 0 c') ∧ ∃ col', Goes w col col' ∧ IsHand wr col' h { σ with data := [b0, b1, b2, x], next := σ.next + 1, need := nd } ∧ Fr (Hues col) w wr)))
  case atStart => exact ⟨rfl, .inl ⟨rfl, rfl, rfl, rfl⟩⟩
  case round =>
    obtain ⟨rfl, ⟨rfl, rfl, rfl, rfl⟩ | ⟨rfl, ⟨A', c', rfl⟩, hdone⟩⟩ := hrel
    · go_wp2_with ((go_at_call 148; refine (HW.out _ (Fr.refl _ _)).mono ?_; rintro e w1 ⟨rfl, hx1⟩; have hc1 := Ext.cells hx1; have hf1 := Ext.frozens hx1; have hz1 := Fr.size hx1; try simp [go_sem] at hz1; try (have hzl := Nat.lt_of_succ_le hz1; try (have hzm := Nat.lt_of_succ_lt hzl))))
      have HX1 := Lib.hid hx1
      have HI1 := Lib.hid (HI.out.ext hx1)
      have hqh : h < w1.heap.size := by omega
      have k1 : w1.cell? ⟨h, 1, none⟩ = some (.slice Ad 3 cd) := (hc1 _ _ hlt).trans c1
      refine wp_region_mix _ 9 10 (by kernel_rfl) (by kernel_rfl) (fun w'' => w''.cell? ⟨h, 1, none⟩ = some (.slice Ad 3 cd)) ?_ ?_
      · exact k1
      simp only [List.take_succ_cons, List.take_zero]
      (repeat (first | (apply wpStl_op; (focus (first | rfl | (go_simp; done))); (focus (intro w' hw'; skip; go_simp; first | done | rfl | exact ⟨rfl, rfl⟩)); (intro K hK; go_simp; refine hK _ ?_; clear hK K)) | (refine wpStl_no ?_ (fun K hK => ?_); (focus (first | rfl | (go_simp; done))); go_simp; refine hK _ ?_; clear hK K)))
      (show wpMid _ _ _ _ _ _ _; simp only [List.drop_succ_cons, List.drop_zero, List.take_succ_cons, List.take_zero, Nat.reduceSub])
      refine wpMid_op ?_ (fun K hK => ?_)
      · rfl
      have hd1 : OwnR Rd.u8 5 w1.drew 0 (fun b => col b ≠ 8) (.slice Ad 3 cd) 3 σ.data := by
        have := HI1.out.2.2.1
        simp only [H3.out] at this
        exact own_u8 (this.ext (Fr.refl _ _).drew)
      have hd8 : ∀ k, (Value.slice Ad 3 cd).ownBlock = some k → col k = 8 := by
        have := HI1.out.2.2.2.1
        simpa only [H3.out] using this
      refine wp_append_rows (d := Rd.u8) (ok := fun b => col b ≠ 8) (v := .slice Ad 3 cd) (xs := σ.data) (ys := [x]) (n := 3) (m := 1) (base := 0) rfl app_u8 rfl hd1 (fun k hk e => e (hd8 k hk)) ((HX.out.ext (Fr.trans HX1.out (Fr.refl _ _).drew)).mono fun b _ hb e => hok b hb (.inr (.inl e))) rfl (by omega) (Nat.zero_le _) ?_
      intro v' w6 hown6 hgr6 hblk6
      have hgr6' : w1.grownBy w6 (Value.slice Ad 3 cd).ownBlock := ⟨hgr6.os, hgr6.tape, hgr6.output, hgr6.size, hgr6.block⟩
      have hX1 : IsHandX w1 col h σ (.slice Ad 3 cd) (.slice As σ.segs.length cs) := by have := HI1.out; simpa only [H3.out] using this
      have hG := data_grown (x := x) (nx := σ.next + 1) hX1 (by simp only [H3.out]; exact own_u8 hown6) hgr6' (fun k hk => hblk6 k hk)
      have hF6 : Fr (fun b => col b = 8) w1 w6 := Fr.of_grow hgr6' hd8
      have hb6 : w6.heap[h]? = _ := hF6.blk hX1.2.1 (by rw [hX1.1]; omega)
      refine hK _ _ ((blk_cell hb6 1).trans rfl) ?_
      clear hK K
      obtain ⟨A7, c7, rfl, hsl7⟩ := hown6.sl
      clear hsl7
      have r1 : w6.cell? ⟨h, 1, none⟩ = some (.slice Ad 3 cd) := (blk_cell hb6 1).trans rfl
      have r4 : w6.cell? ⟨h, 4, none⟩ = some (.int .i64 σ.next) := (blk_cell hb6 4).trans rfl
      have rf : ∀ i, w6.frozen? ⟨h, i, none⟩ = false := fun i => blk_unfrozen hb6 i
      have HG := Lib.hid hG
      have HH : Hid (Calls Tryz.prog 149 #[.pointer (some ⟨h, 0, none⟩)] ((w6.setCell ⟨h, 1, none⟩ (.slice A7 (3 + 1) c7)).setCell ⟨h, 4, none⟩ (.int .i64 ((σ.next + 1 : Nat) : Int))) fun e w' => e = .returned (.int .i64 0) ∧ IsHand w' (hue col 8 (.slice A7 (3 + 1) c7)) h { σ with data := [b0, b1, b2, x], next := σ.next + 1, need := nd } ∧ Fr (One h) ((w6.setCell ⟨h, 1, none⟩ (.slice A7 (3 + 1) c7)).setCell ⟨h, 4, none⟩ (.int .i64 ((σ.next + 1 : Nat) : Int))) w') := Lib.hid (by
        have hh := hG.1.hand
        simp only [H0.out, List.cons_append, List.nil_append] at hh
        have := hand_head _ hh b0 b1 b2 x rfl
        rw [HND.out] at this
        simp only [hkn, if_true, if_neg (Nat.not_lt.2 HM.out)] at this
        exact this)
      simp only [Int.natCast_add, Int.natCast_one] at HH
      have hG2 := hG.2.2
      clear hG hb6 hF6 hown6 hblk6 hgr6 hgr6' hd1 hX1 hd8
      (show wpList _ _ _ _ _ _; try simp only [List.drop_succ_cons, List.drop_zero])
      go_wp2_with (first | ((go_at_call 149; refine (HH.out).mono ?_; rintro e w7 ⟨rfl, hI7, hx7⟩); obtain ⟨A8, c8, As8, cs8, hX7⟩ := hI7.x; have k71 : w7.cell? ⟨h, 1, none⟩ = some (.slice A8 4 c8) := hX7.c1; have HX7 := Lib.hid hX7; have HF7 := Lib.hid hx7; have hz7 := hx7.size; clear hX7 hI7 hx7) | ((go_at_call 148; refine (hand_want4 HX7.out.hand rfl (Nat.le_trans HM.out hmx)).mono ?_; rintro e w9 ⟨rfl, hx9⟩; have hc9 := Ext.cells hx9; have hf9 := Ext.frozens hx9; have hz9 := Fr.size hx9; try simp [go_sem] at hz9; try (have hzl := Nat.lt_of_succ_le hz9; try (have hzm := Nat.lt_of_succ_lt hzl)))))
      all_goals
        go_roundg 0
        case measure => omega
        case rel =>
          refine ⟨rfl, .inr ⟨rfl, ⟨_, _, rfl⟩, _, ?_, HX7.out.hand.ext hx9, ?_⟩⟩
          · exact fun b hb => hG2 b (Nat.lt_of_lt_of_le hb HX1.out.size)
          · exact Fr.trans (Fr.trans (Fr.trans (Ext.any HX1.out) HG.out.2.1) (HF7.out.mono fun b _ e => by unfold One at e; rw [e]; exact .inl HI.out.1)) (Ext.any hx9)
    · obtain ⟨col', hg, hI, hf⟩ := hdone
      go_wp2
      refine bodyPost_ret (v := .tuple #[.slice none 0 0, .int .i64 0, .int .i64 0]) (by simp only [results, Tryz.results116]; go_simp) rfl ?_
      exact ⟨col', hg, rfl, hI, hf⟩
end Go.Proofs.YtalbiepdkaldmaaGreatDoor
