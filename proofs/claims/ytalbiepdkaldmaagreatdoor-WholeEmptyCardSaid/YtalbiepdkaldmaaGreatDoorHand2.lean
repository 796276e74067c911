/- hand.Put of one byte. -/
import Derived.Test.YtalbiepdkaldmaaGreatDoorProg
import Derived.Test.YtalbiepdkaldmaaGreatDoorHand
import Derived.Deep.QuietTactic
import Derived.BigQuiet
import Derived.Deep.LoopGhost
import Derived.Laws.EntriesVeiled
set_option linter.unusedVariables false
set_option linter.unusedSimpArgs false
namespace Go.Proofs.YtalbiepdkaldmaaGreatDoor
open Go.RowKit
/-- A colouring that goes on. -/
def Goes (w : World) (col col' : Nat → Nat) : Prop := ∀ b, b < w.heap.size → col' b = col b
def Hues (col : Nat → Nat) (b : Nat) : Prop := col b = 2 ∨ col b = 8 ∨ col b = 9
theorem own_u8 {e base n : Nat} {w : World} {ok ok' : Nat → Prop} {v : Value} {xs : Bytes} (h : OwnR Rd.u8 e w base ok v n xs) : OwnR Rd.u8 e w base ok' v n xs := h
/-- The colouring behind a row that has grown. -/
def hue (col : Nat → Nat) (c : Nat) (v : Value) : Nat → Nat := fun b => if v.ownBlock = some b then c else col b
theorem hue_goes {col : Nat → Nat} {c : Nat} {v v' : Value} {w : World} (h : ∀ k, v.ownBlock = some k → col k = c) (hv : ∀ k, v'.ownBlock = some k → v.ownBlock = some k ∨ w.heap.size ≤ k) : Goes w col (hue col c v') := by
  intro b hb
  unfold hue
  split
  · rename_i e
    rcases hv b e with h1 | h1
    · exact (h b h1).symm
    · omega
  · rfl
set_option maxRecDepth 8000 in
set_option maxHeartbeats 4000000 in
theorem put_more {col : Nat → Nat} {h : Nat} {σ : Hd} (w : World) (H : IsHand w col h σ) (A : Option Addr) (cb : Nat) (x : UInt8) (ok : Nat → Prop) (hx : SlC Rd.u8 w ok A 1 cb [x]) (hok : ∀ b, ok b → ¬ Hues col b) (he : σ.err = 0) (h0 : 0 < σ.data.length) (h1 : σ.data.length + 1 < 4) (hat : σ.next + 1 ≤ 4611686018427387904) :
    Calls Tryz.prog 116 #[.pointer (some ⟨h, 0, none⟩), .int .i64 σ.next, .slice A 1 cb] w fun e w' => ∃ col', Goes w col col' ∧ e = .returned (.tuple #[.slice none 0 0, .int .i64 0, .int .i64 0]) ∧ IsHand w' col' h { σ with data := σ.data ++ [x], next := σ.next + 1 } ∧ Fr (Hues col) w w' := by
  have HW : Hid (∀ W, Ext w W → Calls Tryz.prog 148 #[.pointer (some ⟨h, 0, none⟩)] W fun e w' => e = .returned (.int .i64 (4 - (σ.data.length : Int))) ∧ Ext W w') := Lib.hid fun W hW => by
    have := hand_want (σ := σ) W (H.fr hW (fun _ _ e => e.elim)) (by omega) (fun e => absurd (show σ.data.length < 4 by omega) e)
    unfold Hd.want at this
    rw [if_pos (by omega)] at this
    exact this
  have HI := Lib.hid H
  obtain ⟨hc, vd, vs, hb, hd, hd8, hs, hs9⟩ := H
  obtain ⟨Ad, cd, rfl, hsl⟩ := hd.sl
  have c1 : w.cell? ⟨h, 1, none⟩ = some (.slice Ad σ.data.length cd) := (blk_cell hb 1).trans rfl
  have c4 : w.cell? ⟨h, 4, none⟩ = some (.int .i64 σ.next) := (blk_cell hb 4).trans rfl
  have c6 : w.cell? ⟨h, 6, none⟩ = some (.int .i64 0) := (blk_cell hb 6).trans (by rw [show handCells σ (.slice Ad σ.data.length cd) vs = _ from rfl]; simp [handCells, he])
  have hlt : h < w.heap.size := blk_lt hb
  have d0 : ((σ.data.length : Int) == 0) = false := by rw [beq_eq_false_iff_ne]; omega
  have hcb : 1 ≤ cb := hx.le
  have hcb' : (1 : Int) ≤ (cb : Int) := by omega
  have hcm : cb ≤ 9223372036854775807 := hx.max
  have HX := Lib.hid hx
  have HD := Lib.hid hd
  have HSG := Lib.hid hs
  have HB := Lib.hid hb
  clear hb hd hs hsl hx
  have m3 : ((σ.data.length : Int) + 1 == 4) = false := by rw [beq_eq_false_iff_ne]; omega
  have m4 : decide (4 ≤ (σ.data.length : Int) + 1) = false := by simp; omega
  have wn : IntKind.i64.wrap ((σ.next : Int) + 1) = (σ.next : Int) + 1 := IntWalk.i64_in _ (by omega)
  go_enter Tryz.func116, Tryz.ntmps116
  go_wp2
  go_loopg [1, 2, 9] 1 (fun m a b l wr => l = .slice none 0 0 ∧ ((m = 1 ∧ a = .int .i64 σ.next ∧ b = .slice A 1 cb ∧ wr = w) ∨ (m = 0 ∧ (∃ A' c', b = .slice A' 0 c') ∧ ∃ col', Goes w col col' ∧ IsHand wr col' h { σ with data := σ.data ++ [x], next := σ.next + 1 } ∧ Fr (Hues col) w wr)))
  case atStart => exact ⟨rfl, .inl ⟨rfl, rfl, rfl, rfl⟩⟩
  case round =>
    obtain ⟨rfl, ⟨rfl, rfl, rfl, rfl⟩ | ⟨rfl, ⟨A', c', rfl⟩, hdone⟩⟩ := hrel
    · have m1 : min (1 : Int) (4 - (σ.data.length : Int)) = 1 := by omega
      have m2 : decide ((σ.data.length : Int) < 4) = true := by simp; omega
      go_wp2_with ((go_at_call 148; refine (HW.out _ (Fr.refl _ _)).mono ?_; rintro e w1 ⟨rfl, hx1⟩; have hc1 := Ext.cells hx1; have hf1 := Ext.frozens hx1; have hz1 := Fr.size hx1; try simp [go_sem] at hz1; try (have hzl := Nat.lt_of_succ_le hz1; try (have hzm := Nat.lt_of_succ_lt hzl))))
      have HX1 := Lib.hid hx1
      have hqh : h < w1.heap.size := by omega
      have k1 : w1.cell? ⟨h, 1, none⟩ = some (.slice Ad σ.data.length cd) := (hc1 _ _ hlt).trans c1
      have HB1 := Lib.hid (Ext.blk hx1 HB.out)
      refine wp_region_mix _ 9 10 (by kernel_rfl) (by kernel_rfl) (fun w'' => w''.cell? ⟨h, 1, none⟩ = some (.slice Ad σ.data.length cd)) ?_ ?_
      · exact k1
      simp only [List.take_succ_cons, List.take_zero]
      (repeat (first | (apply wpStl_op; (focus (first | rfl | (go_simp; done))); (focus (intro w' hw'; skip; go_simp; first | done | rfl | exact ⟨rfl, rfl⟩)); (intro K hK; go_simp; refine hK _ ?_; clear hK K)) | (refine wpStl_no ?_ (fun K hK => ?_); (focus (first | rfl | (go_simp; done))); go_simp; refine hK _ ?_; clear hK K)))
      (show wpMid _ _ _ _ _ _ _; simp only [List.drop_succ_cons, List.drop_zero, List.take_succ_cons, List.take_zero, Nat.reduceSub])
      refine wpMid_op ?_ (fun K hK => ?_)
      · rfl
      refine wp_append_rows (d := Rd.u8) (ok := fun b => col b ≠ 8) (v := .slice Ad σ.data.length cd) (xs := σ.data) (ys := [x]) (n := σ.data.length) (m := 1) (base := 0) rfl app_u8 rfl (own_u8 (HD.out.ext (Fr.trans HX1.out (Fr.refl _ _).drew))) (fun k hk e => e (hd8 k hk)) ((HX.out.ext (Fr.trans HX1.out (Fr.refl _ _).drew)).mono fun b _ hb e => hok b hb (.inr (.inl e))) rfl (by omega) (Nat.zero_le _) ?_
      intro v' w2 hown hgr hblk
      have hF2 : Fr (fun b => col b = 8) w1 w2 := Fr.trans (Fr.refl _ _).drew (Fr.of_grow hgr hd8)
      have hb2 : w2.heap[h]? = _ := hF2.blk HB1.out (by rw [hc]; omega)
      refine hK _ _ ((blk_cell hb2 1).trans rfl) ?_
      clear hK K
      obtain ⟨A2, c2, rfl, hsl2⟩ := hown.sl
      clear hsl2
      have k2 : w2.cell? ⟨h, 1, none⟩ = some (.slice Ad σ.data.length cd) := (blk_cell hb2 1).trans rfl
      have k4 : w2.cell? ⟨h, 4, none⟩ = some (.int .i64 σ.next) := (blk_cell hb2 4).trans rfl
      have kf : ∀ i, w2.frozen? ⟨h, i, none⟩ = false := fun i => blk_unfrozen hb2 i
      have HB2 := Lib.hid hb2
      have HF2 := Lib.hid hF2
      have HOW := Lib.hid hown
      have HBK := Lib.hid hblk
      have hbk : ∀ k, (Value.slice A2 (σ.data.length + 1) c2).ownBlock = some k → col k = 8 ∨ w1.heap.size ≤ k := fun k hk => by
        rcases hblk k hk with h1 | h1
        · exact .inl (hd8 k h1)
        · exact .inr (by simpa using h1)
      have HU : Hid (IsHand ((w2.setCell ⟨h, 1, none⟩ (.slice A2 (σ.data.length + 1) c2)).setCell ⟨h, 4, none⟩ (.int .i64 ((σ.next : Int) + 1))) (hue col 8 (.slice A2 (σ.data.length + 1) c2)) h { σ with data := σ.data ++ [x], next := σ.next + 1 } ∧
          Fr (Hues col) wr ((w2.setCell ⟨h, 1, none⟩ (.slice A2 (σ.data.length + 1) c2)).setCell ⟨h, 4, none⟩ (.int .i64 ((σ.next : Int) + 1)))) := Lib.hid (by
        have hgo : ∀ b, b < w1.heap.size → hue col 8 (.slice A2 (σ.data.length + 1) c2) b = col b := fun b hb => hue_goes (w := w1) hd8 (fun k hk => by rcases hblk k hk with h1 | h1; exact .inl h1; exact .inr (by simpa using h1)) b hb
        have hf4 : Fr (One h) w2 ((w2.setCell ⟨h, 1, none⟩ (.slice A2 (σ.data.length + 1) c2)).setCell ⟨h, 4, none⟩ (.int .i64 ((σ.next : Int) + 1))) := (by repeat (first | with_reducible exact Fr.refl _ _ | (with_reducible refine Fr.set ?_ _ _ _ (One.self _)) | (with_reducible refine Fr.alloc ?_ _) | (with_reducible refine Fr.drew ?_)))
        refine ⟨⟨(hgo h hqh).trans hc, .slice A2 (σ.data.length + 1) c2, vs, (blk_set (blk_set hb2 1 _) 4 _).trans (by simp [handCells]), ?_, fun k hk => by unfold hue; rw [if_pos hk], ?_, fun k hk => ?_⟩, ?_⟩
        · have := (own_u8 (ok' := NoB) hown).fr hf4 (fun k hk e => by have e : k = h := e; rcases hbk k hk with h1 | h1; (rw [e, hc] at h1; omega); omega) (fun _ e => e.elim)
          simpa using this
        · exact ((HSG.out.ext HX1.out).fr hF2 (fun k hk => by rw [hs9 k hk]; omega) (fun _ e => e.elim)).fr hf4 (fun k hk e => by have e : k = h := e; have := hs9 k hk; rw [e, hc] at this; omega) (fun _ e => e.elim)
        · have hk1 := (HSG.out.block k hk).2
          rw [hgo k (by omega)]
          exact hs9 k hk
        · exact Fr.trans (Fr.trans (Ext.any HX1.out) (hF2.mono fun b _ h8 => .inr (.inl h8))) (hf4.mono fun b _ e => by have e : b = h := e; rw [e]; exact .inl hc))
      clear hb2 hF2 hown hblk hgr hbk
      (show wpList _ _ _ _ _ _; try simp only [List.drop_succ_cons, List.drop_zero])
      go_wp2
      all_goals
        go_roundg 0
        case measure => omega
        case rel =>
          refine ⟨rfl, .inr ⟨rfl, ⟨_, _, rfl⟩, hue col 8 (.slice A2 (σ.data.length + 1) c2), fun b hb => hue_goes (w := w1) hd8 (by have := HBK.out; simpa using this) b (by omega), ?_, ?_⟩⟩
          · exact HU.out.1
          · exact HU.out.2
    · obtain ⟨col', hg, hI, hf⟩ := hdone
      go_wp2
      refine bodyPost_ret (v := .tuple #[.slice none 0 0, .int .i64 0, .int .i64 0]) (by simp only [results, Tryz.results116]; go_simp) rfl ?_
      exact ⟨col', hg, rfl, hI, hf⟩
end Go.Proofs.YtalbiepdkaldmaaGreatDoor
