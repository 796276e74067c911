/- stream.Feed: a run over bytes. stream: of no stream; At, Steps, Close, Records, and Feed behind a failure. -/
import Derived.Test.YtalbiepdkaldmaaGreatDoorProg
import Derived.Test.YtalbiepdkaldmaaGreatDoorStm8
import Derived.Deep.QuietTactic
import Derived.BigQuiet
import Derived.Deep.LoopGhost
import Derived.Laws.EntriesVeiled
import Derived.Test.YtalbiepdkaldmaaGreatDoorStm
set_option linter.unusedVariables false
set_option linter.unusedSimpArgs false
namespace Go.Proofs.YtalbiepdkaldmaaGreatDoor
open Go.RowKit
theorem OwnR.slB {α : Type} {d : Rd α} {e base n : Nat} {w : World} {ok : Nat → Prop} {v : Value} {xs : List α} (h : OwnR d e w base ok v n xs) : ∃ A c, v = .slice A n c ∧ SlC d w (fun b => v.ownBlock = some b ∨ ok b) A n c xs := by
  obtain ⟨hl, cells, ho, hk⟩ := h
  rcases ho.2 with ⟨rfl, rfl⟩ | ⟨g, cap, cur, rfl, hb, hh, hn, hm, hcur, htake⟩
  · have : xs = [] := List.eq_nil_of_length_eq_zero hl
    subst this
    exact ⟨none, 0, rfl, SlC.nil _ _ _ _ _ (Nat.zero_le _) (fun _ => rfl)⟩
  · refine ⟨some ⟨g, 0, none⟩, cap, rfl, hl, hn, hm, fun h => by simp at h, fun j x hx => ⟨_, ⟨g, 0, cur, e, (0, 0), rfl, .inl (by simp [Value.ownBlock]), hh, fun i u hu => ?_⟩, d.mono (fun _ _ h => .inr h) (hk.2 j x hx)⟩⟩
    rw [List.getElem?_take] at hu
    split at hu
    · rw [List.getElem?_drop, ← htake, List.getElem?_take] at hu
      split at hu
      · simpa using hu
      · simp at hu
    · simp at hu
theorem step_bound {st st' : St} {c : UInt8} (h : st.step c = some st') : st.came ≤ 4611686018427387000 ∧ st.steps ≤ 4611686018427387000 ∧ st.records.length ≤ 1099511627776 ∧ st.events.length ≤ 1099511627776 := by
  unfold St.step at h
  split at h
  · cases h
  · omega
section
variable {w : World} {col : Nat → Nat} {s h t : Nat} {st st' : St} {c : UInt8}
theorem step_head (hn : st.next = .head) (H : IsSt w col s h t st.ticked) (hs : st.step c = some st') : Calls Tryz.prog 40 #[.pointer (some ⟨s, 0, none⟩), .int .u8 c.toNat] w (StPost col s h t st' w) := by
  obtain ⟨b1, b2, b3, b4⟩ := step_bound hs
  unfold St.step at hs
  split at hs
  · cases hs
  · rw [hn] at hs
    simp only at hs
    split at hs
    · rename_i hc
      injection hs with hs
      subst hs
      exact stream_inHead c H (by show st.came + 1 ≤ _; omega) hc.1 (Nat.succ_le_succ hc.2.1) hc.2.2 b3 b4
    · cases hs
theorem step_body (hn : st.next = .body) (H : IsSt w col s h t st.ticked) (hs : st.step c = some st') : Calls Tryz.prog 73 #[.pointer (some ⟨s, 0, none⟩), .int .u8 c.toNat] w (StPost col s h t st' w) := by
  obtain ⟨b1, b2, b3, b4⟩ := step_bound hs
  unfold St.step at hs
  split at hs
  · cases hs
  · rw [hn] at hs
    simp only at hs
    split at hs
    · rename_i hc
      obtain ⟨c1, c2, c3, c4, c5⟩ := hc
      injection hs with hs
      subst hs
      refine stream_inBody c H ⟨?_, c2, c3, c4⟩ (Nat.succ_le_succ c5) (by show st.came + 1 ≤ _; omega) b3 b4
      obtain ⟨⟨lo, hi⟩, hl⟩ := Option.isSome_iff_exists.1 c1
      exact ⟨lo, hi, hl⟩
    · cases hs
theorem step_message (hn : st.next = .message) (H : IsSt w col s h t st.ticked) (hs : st.step c = some st') : Calls Tryz.prog 74 #[.pointer (some ⟨s, 0, none⟩), .int .u8 c.toNat] w (StPost col s h t st' w) := by
  obtain ⟨b1, b2, b3, b4⟩ := step_bound hs
  unfold St.step at hs
  split at hs
  · cases hs
  · rw [hn] at hs
    exact stream_inMessage c H hs (by show st.came + 1 ≤ _; omega) b3 b4 (by show st.steps + 1 ≤ _; omega)
end
def FeedPost (col : Nat → Nat) (s h t : Nat) (st' : St) (w : World) (e : Ending) (w' : World) : Prop := ∃ col' A c, Goes w col col' ∧ (∀ b, b < w'.heap.size → col' b ≠ 7) ∧ e = .returned (.tuple #[.slice A st'.events.length c, .int .i64 st'.at_, .int .i64 st'.err]) ∧
  SlC Rd.event w' (fun b => col' b = 0) A st'.events.length c st'.events ∧ IsSt w' col' s h t { st' with events := [] } ∧ Fr (Hot col) w w'
/-- The events' blocks have no colour any more. -/
theorem IsStX.free {w : World} {col col2 : Nat → Nat} {s h t : Nat} {st : St} {vh vb vr ve : Value} (H : IsStX w col s h t st vh vb vr ve) (hc : ∀ b, col2 b = col b ∨ (col b = 7 ∧ col2 b = 0)) : IsStX (w.setCell ⟨s, 11, none⟩ (.slice none 0 0)) col2 s h t { st with events := [] } vh vb vr (.slice none 0 0) := by
  have H' := H.noevents
  have h0 : ∀ b, col b = 0 → col2 b = 0 := fun b e => by rcases hc b with h1 | h1 <;> omega
  have hne : ∀ b, col b ≠ 7 → col2 b = col b := fun b e => by rcases hc b with h1 | h1; exact h1; omega
  have row : ∀ {α : Type} {d : Rd α} {e c : Nat} {v : Value} {xs : List α}, c ≠ 7 → RowC d e c (w.setCell ⟨s, 11, none⟩ (.slice none 0 0)) col v xs → RowC d e c (w.setCell ⟨s, 11, none⟩ (.slice none 0 0)) col2 v xs := fun {_ _ _ _ _ _} hc7 h => ⟨h.1.okmono fun b _ hb => h0 b hb, fun k hk => by rw [hne k (by rw [h.2 k hk]; exact hc7)]; exact h.2 k hk⟩
  refine ⟨(hne s (by rw [H.cs]; omega)).trans H.cs, H'.blk, row (by omega) H'.head, row (by omega) H'.body, row (by omega) H'.recs, RowC.nil, ?_, (hne t (by rw [H.ct]; omega)).trans H.ct, H'.tally, ⟨H'.env.lim, H'.env.laid, fun b hb => h0 b (H'.env.col0 b hb)⟩⟩
  obtain ⟨hc2, vd, vs, hb, hd, hd8, hs, hs9⟩ := H'.hand
  exact ⟨(hne h (by omega)).trans hc2, vd, vs, hb, hd, fun k hk => (hne k (by rw [hd8 k hk]; omega)).trans (hd8 k hk), hs, fun k hk => (hne k (by rw [hs9 k hk]; omega)).trans (hs9 k hk)⟩
def freed (n : Nat) (col colk : Nat → Nat) : Nat → Nat := fun b => if b < n then col b else if colk b = 7 then 0 else colk b
theorem feed_end {w wr : World} {col colk : Nat → Nat} {s h t : Nat} {st' : St} {vh vb vr : Value} {Ae : Option Addr} {ce : Nat} (H : IsStX wr colk s h t st' vh vb vr (.slice Ae st'.events.length ce)) (h7 : ∀ b, b < w.heap.size → col b ≠ 7) (hg : Goes w col colk) (hF : Fr (Hot col) w wr) {w' : World} (hx : Ext (wr.setCell ⟨s, 11, none⟩ (.slice none 0 0)) w') :
    FeedPost col s h t st' w (.returned (.tuple #[.slice Ae st'.events.length ce, .int .i64 st'.at_, .int .i64 st'.err])) w' := by
  have hc : ∀ b, freed w.heap.size col colk b = colk b ∨ (colk b = 7 ∧ freed w.heap.size col colk b = 0) := fun b => by
    unfold freed
    by_cases hb : b < w.heap.size
    · rw [if_pos hb, hg b hb]; exact .inl rfl
    · rw [if_neg hb]
      by_cases h7 : colk b = 7
      · rw [if_pos h7]; exact .inr ⟨h7, rfl⟩
      · rw [if_neg h7]; exact .inl rfl
  have hf4 : Fr (One s) wr (wr.setCell ⟨s, 11, none⟩ (.slice none 0 0)) := (by repeat (first | with_reducible exact Fr.refl _ _ | (with_reducible refine Fr.set ?_ _ _ _ (One.self _)) | (with_reducible refine Fr.alloc ?_ _) | (with_reducible refine Fr.drew ?_)))
  refine ⟨freed w.heap.size col colk, Ae, ce, fun b hb => if_pos hb, fun b _ e => ?_, rfl, ?_, ⟨_, _, _, _, (H.free hc).ext hx⟩, Fr.trans' hF (Fr.trans hf4 (Ext.any hx)) (fun b hb e => by unfold One at e; unfold Hot; rw [e, ← hg s (by rw [← e]; exact hb), H.cs]; omega)⟩
  · unfold freed at e
    split at e
    · rename_i hb
      exact h7 b hb e
    · split at e
      · cases e
      · exact absurd e (by assumption)
  · obtain ⟨A', c', e1, hs⟩ := H.evs.1.slB
    injection e1 with e1 _ e2
    subst e1 e2
    refine ((hs.mono fun b hb hh => ?_).fr hf4 (fun b hh e => ?_)).ext hx
    · exact (show freed w.heap.size col colk b = 0 from by
        rcases hh with hh | hh
        · have h7k := H.evs.2 b hh
          unfold freed
          by_cases hb : b < w.heap.size
          · have := hg b hb
            have := h7 b hb
            omega
          · rw [if_neg hb, if_pos h7k]
        · rcases hc b with h1 | h1 <;> omega)
    · have : freed w.heap.size col colk s = 0 := by unfold One at e; rw [← e]; exact hh
      have := H.cs
      rcases hc s with h1 | h1 <;> omega
section
variable {w : World} {col : Nat → Nat} {s h t : Nat} {st st' : St}
set_option maxRecDepth 8000 in
set_option maxHeartbeats 16000000 in
theorem stream_Feed {A : Option Addr} {c : Nat} {b : Bytes} {ok : Nat → Prop} (H : IsSt w col s h t st) (he : st.err = 0) (hcl : st.closed = false) (h7 : ∀ b, b < w.heap.size → col b ≠ 7) (hr : st.run b = some st') (hb : SlC Rd.u8 w ok A b.length c b) (hok : ∀ x, ok x → x < w.heap.size ∧ col x = 0) :
    Calls Tryz.prog 14 #[.pointer (some ⟨s, 0, none⟩), .slice A b.length c] w (FeedPost col s h t st' w) := by
  obtain ⟨vh, vb, vr, ve, H0⟩ := id H
  have e13 : w.cell? ⟨s, 13, none⟩ = some (.int .i64 0) := by rw [H0.c13, he]; rfl
  have e14 : w.cell? ⟨s, 14, none⟩ = some (.bool false) := by rw [H0.c14, hcl]
  have hlt := H0.lt
  have hcmx : c ≤ 9223372036854775807 := hb.max
  have HB := Lib.hid hb
  have HO := Lib.hid hok
  have HR := Lib.hid hr
  have HI := Lib.hid H
  have H7 := Lib.hid h7
  clear H H0 hb hok hr h7
  go_enter Tryz.func14, Tryz.ntmps14
  go_wp2
  go_loopg [7] b.length (fun m i wr => ∃ k stk colk, i = .int .i64 (k : Nat) ∧ k ≤ b.length ∧ m = b.length - k ∧ Goes w col colk ∧ IsSt wr colk s h t stk ∧ Fr (Hot col) w wr ∧ stk.run (b.drop k) = some st')
  case atStart => exact ⟨0, st, col, rfl, Nat.zero_le _, rfl, fun _ _ => rfl, HI.out, Fr.refl _ _, HR.out⟩
  case round =>
    obtain ⟨k, stk, colk, rfl, hk, hm, hgk, ⟨vh, vb, vr, ve, HX⟩, hF, hrun⟩ := hrel
    obtain ⟨Ae, ce, rfl⟩ := HX.evs.isSl
    have hsw : s < wr.heap.size := HX.lt
    by_cases hlt : k < b.length
    · have hx : b[k]? = some b[k] := List.getElem?_eq_getElem hlt
      rw [List.drop_eq_getElem_cons hlt] at hrun
      generalize b[k] = x at *
      simp only [St.run] at hrun
      have d1 : decide ((k : Int) < (b.length : Int)) = true := by simp; omega
      have hkw : IntKind.i64.wrap ((k : Int) + 1) = (k : Int) + 1 := IntWalk.i64_in _ (by have := HB.out.le; omega)
      have HLT := Lib.hid hlt
      by_cases hek : stk.err = 0
      · rw [if_neg (by omega)] at hrun
        cases hs : stk.step x with
        | none => rw [hs] at hrun; cases hrun
        | some st2 =>
          rw [hs] at hrun
          simp only at hrun
          obtain ⟨b1, b2, b3, b4⟩ := step_bound hs
          have f13 : wr.cell? ⟨s, 13, none⟩ = some (.int .i64 0) := by rw [HX.c13, hek]; rfl
          have f2 := HX.c2
          have f1 := HX.c1
          have ff := HX.cf
          have wc : IntKind.i64.wrap ((stk.came : Int) + 1) = ((stk.came + 1 : Nat) : Int) := by rw [IntWalk.i64_in _ (by omega)]; omega
          have hfc : Fr (One s) wr (wr.setCell ⟨s, 2, none⟩ (.int .i64 ((stk.came + 1 : Nat) : Int))) := (by repeat (first | with_reducible exact Fr.refl _ _ | (with_reducible refine Fr.set ?_ _ _ _ (One.self _)) | (with_reducible refine Fr.alloc ?_ _) | (with_reducible refine Fr.drew ?_)))
          have HX1 := Lib.hid (HX.own (st' := { stk with came := stk.came + 1 }) hfc ((blk_set HX.blk 2 _).trans (by simp [stCells])) rfl rfl rfl rfl rfl rfl)
          have HT := Lib.hid (tally_Spend t stk.steps 1 _ HX1.out.tally (by omega))
          obtain ⟨g, o, hA, hg, hcell⟩ := scalar_cell HB.out hx
          subst hA
          have hgc := HO.out g hg
          have HK := Lib.hid hk
          have HM := Lib.hid hm
          have HG := Lib.hid hgk
          have HF := Lib.hid hF
          have HRU := Lib.hid hrun
          have HS := Lib.hid hs
          have hzz := hF.size
          clear hk hm hgk hF hrun hs hx HX
          go_wp2_with ((go_at_call 41; refine (HT.out).mono ?_; rintro e w1 ⟨rfl, hT1, hf1⟩))
          have hz1 := hf1.size
          have H2 : Hid (IsStX w1 colk s h t stk.ticked vh vb vr (.slice Ae stk.events.length ce)) := Lib.hid (HX1.out.tallied hf1 hT1)
          have hfs : Fr (Hot col) w w1 := Fr.trans' (Fr.trans' HF.out hfc (fun b hb e => by unfold One at e; unfold Hot; rw [e, ← HG.out s (by rw [← e]; exact hb), HX1.out.cs]; omega)) hf1 (fun b hb e => by unfold One at e; unfold Hot; rw [e, ← HG.out t (by rw [← e]; exact hb), HX1.out.ct]; omega)
          have HFS := Lib.hid hfs
          have r62 : w1.cell? ⟨g, o + k, none⟩ = some (.int .u8 x.toNat) := (Fr.cells hfs g (o + k) hgc.1 (fun e => e hgc.2)).trans hcell
          have hgw : g < w1.heap.size := Nat.lt_of_lt_of_le hgc.1 hfs.size
          have hs1 : s < w1.heap.size := H2.out.lt
          have r3 := H2.out.c3
          have r0 := H2.out.cf
          clear hf1 hT1 hfc hfs f13 f2 f1 ff hcell hz1 hzz
          have HG2 : Hid (Goes w1 colk (clip w1 colk)) := Lib.hid (clip_goes w1 colk)
          cases hnx : stk.next with
          | head =>
            have r3' : w1.cell? ⟨s, 3, none⟩ = some (.func (.func 40) #[.pointer (some ⟨s, 0, none⟩)] #[]) := by rw [r3]; show some (stk.next.v s) = _; rw [hnx]; rfl
            have HC := Lib.hid (step_head hnx ⟨_, _, _, _, (H2.out.ext (Fr.refl _ w1).drew)⟩ HS.out)
            clear r3
            refine wp_region_mix _ 8 8 (by kernel_rfl) (by kernel_rfl) (fun w'' => w''.cell? ⟨s, 3, none⟩ = some (.func (.func 40) #[.pointer (some ⟨s, 0, none⟩)] #[]) ∧ w''.cell? ⟨g, o + k, none⟩ = some (.int .u8 x.toNat)) ?_ ?_
            · exact ⟨r3', r62⟩
            simp only [List.take_succ_cons, List.take_zero]
            (repeat (first | (apply wpStl_op; (focus (first | rfl | (go_simp; done))); (focus (intro w' hw'; skip; go_simp; first | done | rfl | exact ⟨rfl, rfl⟩)); (intro K hK; go_simp; refine hK _ ?_; clear hK K)) | (refine wpStl_no ?_ (fun K hK => ?_); (focus (first | rfl | (go_simp; done))); go_simp; refine hK _ ?_; clear hK K)))
            (show wpMid _ _ _ _ _ _ _; simp only [List.drop_succ_cons, List.drop_zero, List.take_succ_cons, List.take_zero, Nat.reduceSub])
            (show wpList _ _ _ _ _ _; try simp only [List.drop_succ_cons, List.drop_zero])
            go_wp2_with ((go_at_call 40; refine (HC.out).mono ?_; rintro e w8 ⟨col8, hg8, rfl, hI8, hf8⟩))
            all_goals
              go_roundg (b.length - (k + 1))
              case measure => (have := HM.out; have := HLT.out; omega)
              case rel =>
                refine ⟨k + 1, st2, col8, by simp, (have := HLT.out; by omega), rfl, fun b hb => (hg8 b (Nat.lt_of_lt_of_le hb HFS.out.size)).trans (HG.out b hb), hI8, Fr.trans' HFS.out (Fr.trans (Ext.any (Fr.refl _ w1).drew) hf8) (fun b hb e => by unfold Hot at *; rw [← HG.out b hb]; exact e), HRU.out⟩
          | body =>
            have r3' : w1.cell? ⟨s, 3, none⟩ = some (.func (.func 73) #[.pointer (some ⟨s, 0, none⟩)] #[]) := by rw [r3]; show some (stk.next.v s) = _; rw [hnx]; rfl
            have HC := Lib.hid (step_body hnx ⟨_, _, _, _, (H2.out.ext (Fr.refl _ w1).drew)⟩ HS.out)
            clear r3
            refine wp_region_mix _ 8 8 (by kernel_rfl) (by kernel_rfl) (fun w'' => w''.cell? ⟨s, 3, none⟩ = some (.func (.func 73) #[.pointer (some ⟨s, 0, none⟩)] #[]) ∧ w''.cell? ⟨g, o + k, none⟩ = some (.int .u8 x.toNat)) ?_ ?_
            · exact ⟨r3', r62⟩
            simp only [List.take_succ_cons, List.take_zero]
            (repeat (first | (apply wpStl_op; (focus (first | rfl | (go_simp; done))); (focus (intro w' hw'; skip; go_simp; first | done | rfl | exact ⟨rfl, rfl⟩)); (intro K hK; go_simp; refine hK _ ?_; clear hK K)) | (refine wpStl_no ?_ (fun K hK => ?_); (focus (first | rfl | (go_simp; done))); go_simp; refine hK _ ?_; clear hK K)))
            (show wpMid _ _ _ _ _ _ _; simp only [List.drop_succ_cons, List.drop_zero, List.take_succ_cons, List.take_zero, Nat.reduceSub])
            (show wpList _ _ _ _ _ _; try simp only [List.drop_succ_cons, List.drop_zero])
            go_wp2_with ((go_at_call 73; refine (HC.out).mono ?_; rintro e w8 ⟨col8, hg8, rfl, hI8, hf8⟩))
            all_goals
              go_roundg (b.length - (k + 1))
              case measure => (have := HM.out; have := HLT.out; omega)
              case rel =>
                refine ⟨k + 1, st2, col8, by simp, (have := HLT.out; by omega), rfl, fun b hb => (hg8 b (Nat.lt_of_lt_of_le hb HFS.out.size)).trans (HG.out b hb), hI8, Fr.trans' HFS.out (Fr.trans (Ext.any (Fr.refl _ w1).drew) hf8) (fun b hb e => by unfold Hot at *; rw [← HG.out b hb]; exact e), HRU.out⟩
          | message =>
            have r3' : w1.cell? ⟨s, 3, none⟩ = some (.func (.func 74) #[.pointer (some ⟨s, 0, none⟩)] #[]) := by rw [r3]; show some (stk.next.v s) = _; rw [hnx]; rfl
            have HC := Lib.hid (step_message hnx ⟨_, _, _, _, (H2.out.ext (Fr.refl _ w1).drew)⟩ HS.out)
            clear r3
            refine wp_region_mix _ 8 8 (by kernel_rfl) (by kernel_rfl) (fun w'' => w''.cell? ⟨s, 3, none⟩ = some (.func (.func 74) #[.pointer (some ⟨s, 0, none⟩)] #[]) ∧ w''.cell? ⟨g, o + k, none⟩ = some (.int .u8 x.toNat)) ?_ ?_
            · exact ⟨r3', r62⟩
            simp only [List.take_succ_cons, List.take_zero]
            (repeat (first | (apply wpStl_op; (focus (first | rfl | (go_simp; done))); (focus (intro w' hw'; skip; go_simp; first | done | rfl | exact ⟨rfl, rfl⟩)); (intro K hK; go_simp; refine hK _ ?_; clear hK K)) | (refine wpStl_no ?_ (fun K hK => ?_); (focus (first | rfl | (go_simp; done))); go_simp; refine hK _ ?_; clear hK K)))
            (show wpMid _ _ _ _ _ _ _; simp only [List.drop_succ_cons, List.drop_zero, List.take_succ_cons, List.take_zero, Nat.reduceSub])
            (show wpList _ _ _ _ _ _; try simp only [List.drop_succ_cons, List.drop_zero])
            go_wp2_with ((go_at_call 74; refine (HC.out).mono ?_; rintro e w8 ⟨col8, hg8, rfl, hI8, hf8⟩))
            all_goals
              go_roundg (b.length - (k + 1))
              case measure => (have := HM.out; have := HLT.out; omega)
              case rel =>
                refine ⟨k + 1, st2, col8, by simp, (have := HLT.out; by omega), rfl, fun b hb => (hg8 b (Nat.lt_of_lt_of_le hb HFS.out.size)).trans (HG.out b hb), hI8, Fr.trans' HFS.out (Fr.trans (Ext.any (Fr.refl _ w1).drew) hf8) (fun b hb e => by unfold Hot at *; rw [← HG.out b hb]; exact e), HRU.out⟩
      · rw [if_pos hek] at hrun
        injection hrun with hrun
        subst hrun
        have f13 : wr.cell? ⟨s, 13, none⟩ = some (.int .i64 stk.err) := HX.c13
        have f11 := HX.c11
        have f12 := HX.c12
        have ff := HX.cf
        have d2 : ((stk.err : Int) == 0) = false := by rw [beq_eq_false_iff_ne]; omega
        have HXX := Lib.hid HX
        have HG := Lib.hid hgk
        have HF := Lib.hid hF
        have hxl := Lib.hid hx
        clear HX hgk hF hx
        go_wp2
        refine wp_region_quietX (by kernel_rfl) (by kernel_rfl) ?_
        (repeat (first | (apply wpQuiet_op (hg := rfl); (focus (intro w' hw'; have hcx := Ext.cells hw'; have hzx := Fr.size hw'; go_simp; first | done | rfl | exact ⟨rfl, rfl⟩)); (intro K hK; go_simp; refine hK _ ?_; clear hK K)) | (refine wpQuiet_opW ?_ ?_ ?_ ?_; rotate_left; (focus (first | rfl | (go_simp; done))); (focus (intro w' hw'; have hcx := Ext.cells hw'; have hzx := Fr.size hw'; go_simp; first | done | rfl | exact ⟨rfl, rfl⟩)); (intro K hK; go_simp; refine hK _ ?_; clear hK K)) | (refine wpQuiet_no ?_ (fun K hK => ?_); (focus (first | rfl | (go_simp; done))); go_simp; refine hK _ ?_; clear hK K)))
        (refine wpQuiet_nil ?_; intro w' hw'; have hcx := Ext.cells hw'; have hfx := Ext.frozens hw'; have hzx := Fr.size hw'; try simp [go_sem] at hzx; try (have hzl := Nat.lt_of_succ_le hzx; try (have hzm := Nat.lt_of_succ_lt hzl)))
        go_wp2
        refine bodyPost_ret (v := .tuple #[.slice Ae stk.events.length ce, .int .i64 stk.at_, .int .i64 stk.err]) (by simp only [results, Tryz.results14]; go_simp) rfl ?_
        exact feed_end HXX.out H7.out HG.out HF.out (Fr.trans hw' (Fr.refl _ _))
    · have hkl : k = b.length := by omega
      rw [hkl, List.drop_length] at hrun
      simp only [St.run] at hrun
      injection hrun with hrun
      subst hrun
      have d1 : decide ((k : Int) < (b.length : Int)) = false := by simp; omega
      have f13 : wr.cell? ⟨s, 13, none⟩ = some (.int .i64 stk.err) := HX.c13
      have f11 := HX.c11
      have f12 := HX.c12
      have ff := HX.cf
      have HXX := Lib.hid HX
      have HG := Lib.hid hgk
      have HF := Lib.hid hF
      clear HX hgk hF
      go_wp2
      refine wp_region_quietX (by kernel_rfl) (by kernel_rfl) ?_
      (repeat (first | (apply wpQuiet_op (hg := rfl); (focus (intro w' hw'; have hcx := Ext.cells hw'; have hzx := Fr.size hw'; go_simp; first | done | rfl | exact ⟨rfl, rfl⟩)); (intro K hK; go_simp; refine hK _ ?_; clear hK K)) | (refine wpQuiet_opW ?_ ?_ ?_ ?_; rotate_left; (focus (first | rfl | (go_simp; done))); (focus (intro w' hw'; have hcx := Ext.cells hw'; have hzx := Fr.size hw'; go_simp; first | done | rfl | exact ⟨rfl, rfl⟩)); (intro K hK; go_simp; refine hK _ ?_; clear hK K)) | (refine wpQuiet_no ?_ (fun K hK => ?_); (focus (first | rfl | (go_simp; done))); go_simp; refine hK _ ?_; clear hK K)))
      (refine wpQuiet_nil ?_; intro w' hw'; have hcx := Ext.cells hw'; have hfx := Ext.frozens hw'; have hzx := Fr.size hw'; try simp [go_sem] at hzx; try (have hzl := Nat.lt_of_succ_le hzx; try (have hzm := Nat.lt_of_succ_lt hzl)))
      go_wp2
      refine bodyPost_ret (v := .tuple #[.slice Ae stk.events.length ce, .int .i64 stk.at_, .int .i64 stk.err]) (by simp only [results, Tryz.results14]; go_simp) rfl ?_
      exact feed_end HXX.out H7.out HG.out HF.out (Fr.trans hw' (Fr.refl _ _))
end
end Go.Proofs.YtalbiepdkaldmaaGreatDoor
namespace Go.Proofs.YtalbiepdkaldmaaGreatDoor
open Go.RowKit
set_option maxHeartbeats 2000000 in
theorem none_Feed (A : Option Addr) (n c : Nat) (w : World) : Calls Tryz.prog 14 #[.pointer none, .slice A n c] w fun e w' => e = .returned (.tuple #[.slice none 0 0, .int .i64 0, .int .i64 1]) ∧ w' = w := by
  go_enter Tryz.func14, Tryz.ntmps14
  go_wp2
  refine bodyPost_ret (v := .tuple #[.slice none 0 0, .int .i64 0, .int .i64 1]) (by simp only [results, Tryz.results14]; go_simp) rfl ?_
  exact ⟨rfl, rfl⟩
theorem none_Close (w : World) : Calls Tryz.prog 16 #[.pointer none] w fun e w' => e = .returned (.tuple #[.int .i64 0, .int .i64 1]) ∧ w' = w := by
  go_enter Tryz.func16, Tryz.ntmps16
  go_wp2
  refine bodyPost_ret (v := .tuple #[.int .i64 0, .int .i64 1]) (by simp only [results, Tryz.results16]; go_simp) rfl ?_
  exact ⟨rfl, rfl⟩
theorem none_Records (w : World) : Calls Tryz.prog 18 #[.pointer none] w fun e w' => e = .returned (.slice none 0 0) ∧ w' = w := by
  go_enter Tryz.func18, Tryz.ntmps18
  go_wp2
  refine bodyPost_ret (v := .slice none 0 0) (by simp only [results, Tryz.results18]; go_simp) rfl ?_
  exact ⟨rfl, rfl⟩
theorem none_At (w : World) : Calls Tryz.prog 15 #[.pointer none] w fun e w' => e = .returned (.int .i64 0) ∧ w' = w := by
  go_enter Tryz.func15, Tryz.ntmps15
  go_wp2
  refine bodyPost_ret (v := .int .i64 0) (by simp only [results, Tryz.results15]; go_simp) rfl ?_
  exact ⟨rfl, rfl⟩
theorem none_Held (w : World) : Calls Tryz.prog 19 #[.pointer none] w fun e w' => e = .returned (.int .i64 0) ∧ w' = w := by
  go_enter Tryz.func19, Tryz.ntmps19
  go_wp2
  refine bodyPost_ret (v := .int .i64 0) (by simp only [results, Tryz.results19]; go_simp) rfl ?_
  exact ⟨rfl, rfl⟩
theorem none_Steps (w : World) : Calls Tryz.prog 17 #[.pointer none] w fun e w' => e = .returned (.int .i64 0) ∧ w' = w := by
  go_enter Tryz.func17, Tryz.ntmps17
  go_wp2
  refine bodyPost_ret (v := .int .i64 0) (by simp only [results, Tryz.results17]; go_simp) rfl ?_
  exact ⟨rfl, rfl⟩
theorem stream_New_out (n : Int) (w : World) (h : n < 4 ∨ 16777219 < n) : Calls Tryz.prog 13 #[.int .i64 n] w fun e w' => e = .returned (.tuple #[.pointer none, .int .i64 3]) ∧ w' = w := by
  have HN := Lib.hid (fun w => hand_New_out n w h)
  clear h
  go_enter Tryz.func13, Tryz.ntmps13
  go_wp2_with (first | ((go_at_call 38; refine (HN.out _).mono ?_; rintro e w1 ⟨rfl, hx1⟩)))
  subst hx1
  refine bodyPost_ret (v := .tuple #[.pointer none, .int .i64 3]) (by simp only [results, Tryz.results13]; go_simp) rfl ?_
  exact ⟨rfl, rfl⟩
section
variable {w : World} {col : Nat → Nat} {s h t : Nat} {st : St}
theorem stream_At (H : IsSt w col s h t st) : Calls Tryz.prog 15 #[.pointer (some ⟨s, 0, none⟩)] w fun e w' => e = .returned (.int .i64 st.came) ∧ w' = w := by
  obtain ⟨vh, vb, vr, ve, H⟩ := H
  have c2 := H.c2
  clear H
  go_enter Tryz.func15, Tryz.ntmps15
  go_wp2
  refine bodyPost_ret (v := .int .i64 st.came) (by simp only [results, Tryz.results15]; go_simp) rfl ?_
  exact ⟨rfl, rfl⟩
theorem stream_Steps (H : IsSt w col s h t st) : Calls Tryz.prog 17 #[.pointer (some ⟨s, 0, none⟩)] w fun e w' => e = .returned (.int .i64 st.steps) ∧ w' = w := by
  obtain ⟨vh, vb, vr, ve, H⟩ := H
  have c1 := H.c1
  have HT := Lib.hid (tally_Count t st.steps w H.tally)
  clear H
  go_enter Tryz.func17, Tryz.ntmps17
  go_wp2_with (first | ((go_at_call 43; refine (HT.out).mono ?_; rintro e w1 ⟨rfl, hx1⟩)))
  subst hx1
  refine bodyPost_ret (v := .int .i64 st.steps) (by simp only [results, Tryz.results17]; go_simp) rfl ?_
  exact ⟨rfl, rfl⟩
set_option maxHeartbeats 2000000 in
theorem stream_Feed_err {A : Option Addr} {n c : Nat} (H : IsSt w col s h t st) (he : st.err ≠ 0) : Calls Tryz.prog 14 #[.pointer (some ⟨s, 0, none⟩), .slice A n c] w fun e w' => e = .returned (.tuple #[.slice none 0 0, .int .i64 st.at_, .int .i64 st.err]) ∧ Ext w w' := by
  obtain ⟨vh, vb, vr, ve, H⟩ := H
  have c12 := H.c12
  have c13 := H.c13
  have hlt := H.lt
  clear H
  have d : ((st.err : Int) != 0) = true := by rw [bne_iff_ne]; omega
  clear he
  go_enter Tryz.func14, Tryz.ntmps14
  go_wp2
  refine wp_region_quietX (by kernel_rfl) (by kernel_rfl) ?_
  (repeat (first | (apply wpQuiet_op (hg := rfl); (focus (intro w' hw'; have hcx := Ext.cells hw'; have hzx := Fr.size hw'; go_simp; first | done | rfl | exact ⟨rfl, rfl⟩)); (intro K hK; go_simp; refine hK _ ?_; clear hK K)) | (refine wpQuiet_opW ?_ ?_ ?_ ?_; rotate_left; (focus (first | rfl | (go_simp; done))); (focus (intro w' hw'; have hcx := Ext.cells hw'; have hzx := Fr.size hw'; go_simp; first | done | rfl | exact ⟨rfl, rfl⟩)); (intro K hK; go_simp; refine hK _ ?_; clear hK K)) | (refine wpQuiet_no ?_ (fun K hK => ?_); (focus (first | rfl | (go_simp; done))); go_simp; refine hK _ ?_; clear hK K)))
  (refine wpQuiet_nil ?_; intro w' hw'; have hcx := Ext.cells hw'; have hfx := Ext.frozens hw'; have hzx := Fr.size hw'; try simp [go_sem] at hzx; try (have hzl := Nat.lt_of_succ_le hzx; try (have hzm := Nat.lt_of_succ_lt hzl)))
  go_wp2
  refine bodyPost_ret (v := .tuple #[.slice none 0 0, .int .i64 st.at_, .int .i64 st.err]) (by simp only [results, Tryz.results14]; go_simp) rfl ?_
  exact ⟨rfl, Fr.trans hw' (Fr.refl _ _)⟩
set_option maxHeartbeats 2000000 in
theorem stream_Close_ok (H : IsSt w col s h t st) (he : st.err = 0) (hcl : st.closed = false) (hl : st.left = 0) (hh : st.head = []) (hd : st.hd.data = []) : Calls Tryz.prog 16 #[.pointer (some ⟨s, 0, none⟩)] w fun e w' => e = .returned (.tuple #[.int .i64 st.came, .int .i64 0]) ∧ IsSt w' col s h t { st with closed := true } ∧ Fr (Hot col) w w' := by
  obtain ⟨vh, vb, vr, ve, H⟩ := H
  obtain ⟨Ah, ch, rfl⟩ := H.head.isSl
  have c0 := H.c0
  have c2 := H.c2
  have c4 : w.cell? ⟨s, 4, none⟩ = some (.slice Ah 0 ch) := by have := H.c4; rw [hh] at this; exact this
  have c9 : w.cell? ⟨s, 9, none⟩ = some (.int .i64 0) := by rw [H.c9, hl]; rfl
  have c13 : w.cell? ⟨s, 13, none⟩ = some (.int .i64 0) := by rw [H.c13, he]; rfl
  have c14 : w.cell? ⟨s, 14, none⟩ = some (.bool false) := by rw [H.c14, hcl]
  have hlt := H.lt
  have ff := H.cf
  have hf : Fr (One s) w (w.setCell ⟨s, 14, none⟩ (.bool true)) := (by repeat (first | with_reducible exact Fr.refl _ _ | (with_reducible refine Fr.set ?_ _ _ _ (One.self _)) | (with_reducible refine Fr.alloc ?_ _) | (with_reducible refine Fr.drew ?_)))
  have H1 := Lib.hid (H.own (st' := { st with closed := true }) hf ((blk_set H.blk 14 _).trans (by simp [stCells])) rfl rfl rfl rfl rfl rfl)
  have HP : Hid (Calls Tryz.prog 42 #[.pointer (some ⟨h, 0, none⟩)] (w.setCell ⟨s, 14, none⟩ (.bool true)) fun e w' => e = .returned (.bool false) ∧ w' = w.setCell ⟨s, 14, none⟩ (.bool true)) := Lib.hid (by
    have := hand_Partial _ H1.out.hand
    rw [show decide (0 < ({ st with closed := true } : St).hd.data.length) = false by simp [hd]] at this
    exact this)
  have HF := Lib.hid (hf.hot H.cs)
  clear H hf
  go_enter Tryz.func16, Tryz.ntmps16
  go_wp2_with (first | ((go_at_call 42; refine (HP.out).mono ?_; rintro e w1 ⟨rfl, hx1⟩)))
  subst hx1
  go_wp2
  refine bodyPost_ret (v := .tuple #[.int .i64 st.came, .int .i64 0]) (by simp only [results, Tryz.results16]; go_simp) rfl ?_
  exact ⟨rfl, ⟨_, _, _, _, H1.out⟩, HF.out⟩
end
end Go.Proofs.YtalbiepdkaldmaaGreatDoor
