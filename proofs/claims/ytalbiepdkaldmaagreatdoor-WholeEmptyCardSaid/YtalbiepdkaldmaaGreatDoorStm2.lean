/- stream: its rows grown; end. -/
import Derived.Test.YtalbiepdkaldmaaGreatDoorProg
import Derived.Test.YtalbiepdkaldmaaGreatDoorStm
import Derived.Deep.QuietTactic
import Derived.BigQuiet
import Derived.Deep.LoopGhost
import Derived.Laws.EntriesVeiled
set_option linter.unusedVariables false
set_option linter.unusedSimpArgs false
namespace Go.Proofs.YtalbiepdkaldmaaGreatDoor
open Go.RowKit
section
variable {w w1 w2 : World} {col : Nat → Nat} {s h t : Nat} {st : St} {vh vb vr ve v' : Value}
/-- The row of the head has grown, and is stored. -/
theorem IsStX.head_set {n : Nat} {xs : List UInt8} (H : IsStX w col s h t st vh vb vr ve) (hx : Ext w w1) (hown : OwnR Rd.u8 5 w2 0 (GrowOk w.heap.size w1.heap.size col vh) v' n xs) (hn : n = xs.length) (hgr : w1.grownBy w2 vh.ownBlock) (hblk : ∀ k, v'.ownBlock = some k → vh.ownBlock = some k ∨ w1.heap.size ≤ k) :
    IsStX (w2.setCell ⟨s, 4, none⟩ v') (hue0 w.heap.size col 4 v') s h t { st with head := xs } v' vb vr ve ∧ Goes w col (hue0 w.heap.size col 4 v') ∧ Fr (Hot col) w (w2.setCell ⟨s, 4, none⟩ v') := by
  have hF2 : Fr (fun b => col b = 4) w w2 := Fr.trans (Ext.any hx) (Fr.of_grow hgr H.head.2)
  have hb2 : w2.heap[s]? = _ := hF2.blk H.blk (by rw [H.cs]; omega)
  have hlt := H.lt
  have hg : Goes w col (hue0 w.heap.size col 4 v') := goes_hue0 H.head.2 (fun k hk => by
    rcases hblk k hk with h1 | h1
    · exact .inl h1
    · exact .inr (Nat.le_trans hx.size h1))
  have hf4 : Fr (One s) w2 (w2.setCell ⟨s, 4, none⟩ v') := (by repeat (first | with_reducible exact Fr.refl _ _ | (with_reducible refine Fr.set ?_ _ _ _ (One.self _)) | (with_reducible refine Fr.alloc ?_ _) | (with_reducible refine Fr.drew ?_)))
  have hF : Fr (fun b => col b = 4 ∨ col b = 1) w (w2.setCell ⟨s, 4, none⟩ v') := Fr.trans (hF2.mono fun b _ e => .inl e) (hf4.mono fun b _ e => .inr (by unfold One at e; rw [e]; exact H.cs))
  have H' := H.goes hg
  have hrow := (RowC.grown (c := 4) (d := Rd.u8) hown hn hblk).fr hf4 (fun b _ e => by unfold One at e; rw [e, H'.cs]; omega)
  have hk : ∀ b, b < w.heap.size → (col b = 4 ∨ col b = 1) → (hue0 w.heap.size col 4 v') b = 4 ∨ (hue0 w.heap.size col 4 v') b = 1 := fun b hb e => by rw [hg b hb]; exact e
  refine ⟨⟨H'.cs, (blk_set hb2 4 _).trans (by simp [stCells]), ?_, ?_, ?_, ?_, H'.hand.fr hF (fun b hb e => by have := hk b hb e; omega), H'.ct, H'.tally.fr hF (fun e => by have := hk t (blk_lt H.tally) e; have := H'.ct; omega), H'.env.fr hF (fun b hb e => by have := hk b hb e; omega)⟩, hg, hF.mono fun b _ e => by unfold Hot; omega⟩
  · exact hrow
  · exact H'.body.fr hF (fun b hb e => by have := hk b hb e; omega)
  · exact H'.recs.fr hF (fun b hb e => by have := hk b hb e; omega)
  · exact H'.evs.fr hF (fun b hb e => by have := hk b hb e; omega)
/-- The row of the body has grown, and is stored. -/
theorem IsStX.body_set {n : Nat} {xs : List UInt8} (H : IsStX w col s h t st vh vb vr ve) (hx : Ext w w1) (hown : OwnR Rd.u8 5 w2 0 (GrowOk w.heap.size w1.heap.size col vb) v' n xs) (hn : n = xs.length) (hgr : w1.grownBy w2 vb.ownBlock) (hblk : ∀ k, v'.ownBlock = some k → vb.ownBlock = some k ∨ w1.heap.size ≤ k) :
    IsStX (w2.setCell ⟨s, 8, none⟩ v') (hue0 w.heap.size col 5 v') s h t { st with body := xs } vh v' vr ve ∧ Goes w col (hue0 w.heap.size col 5 v') ∧ Fr (Hot col) w (w2.setCell ⟨s, 8, none⟩ v') := by
  have hF2 : Fr (fun b => col b = 5) w w2 := Fr.trans (Ext.any hx) (Fr.of_grow hgr H.body.2)
  have hb2 : w2.heap[s]? = _ := hF2.blk H.blk (by rw [H.cs]; omega)
  have hlt := H.lt
  have hg : Goes w col (hue0 w.heap.size col 5 v') := goes_hue0 H.body.2 (fun k hk => by
    rcases hblk k hk with h1 | h1
    · exact .inl h1
    · exact .inr (Nat.le_trans hx.size h1))
  have hf4 : Fr (One s) w2 (w2.setCell ⟨s, 8, none⟩ v') := (by repeat (first | with_reducible exact Fr.refl _ _ | (with_reducible refine Fr.set ?_ _ _ _ (One.self _)) | (with_reducible refine Fr.alloc ?_ _) | (with_reducible refine Fr.drew ?_)))
  have hF : Fr (fun b => col b = 5 ∨ col b = 1) w (w2.setCell ⟨s, 8, none⟩ v') := Fr.trans (hF2.mono fun b _ e => .inl e) (hf4.mono fun b _ e => .inr (by unfold One at e; rw [e]; exact H.cs))
  have H' := H.goes hg
  have hrow := (RowC.grown (c := 5) (d := Rd.u8) hown hn hblk).fr hf4 (fun b _ e => by unfold One at e; rw [e, H'.cs]; omega)
  have hk : ∀ b, b < w.heap.size → (col b = 5 ∨ col b = 1) → (hue0 w.heap.size col 5 v') b = 5 ∨ (hue0 w.heap.size col 5 v') b = 1 := fun b hb e => by rw [hg b hb]; exact e
  refine ⟨⟨H'.cs, (blk_set hb2 8 _).trans (by simp [stCells]), ?_, ?_, ?_, ?_, H'.hand.fr hF (fun b hb e => by have := hk b hb e; omega), H'.ct, H'.tally.fr hF (fun e => by have := hk t (blk_lt H.tally) e; have := H'.ct; omega), H'.env.fr hF (fun b hb e => by have := hk b hb e; omega)⟩, hg, hF.mono fun b _ e => by unfold Hot; omega⟩
  · exact H'.head.fr hF (fun b hb e => by have := hk b hb e; omega)
  · exact hrow
  · exact H'.recs.fr hF (fun b hb e => by have := hk b hb e; omega)
  · exact H'.evs.fr hF (fun b hb e => by have := hk b hb e; omega)
/-- The row of the recs has grown, and is stored. -/
theorem IsStX.recs_set {n : Nat} {xs : List Rec} (H : IsStX w col s h t st vh vb vr ve) (hx : Ext w w1) (hown : OwnR Rd.rcd 90 w2 0 (GrowOk w.heap.size w1.heap.size col vr) v' n xs) (hn : n = xs.length) (hgr : w1.grownBy w2 vr.ownBlock) (hblk : ∀ k, v'.ownBlock = some k → vr.ownBlock = some k ∨ w1.heap.size ≤ k) :
    IsStX (w2.setCell ⟨s, 10, none⟩ v') (hue0 w.heap.size col 6 v') s h t { st with records := xs } vh vb v' ve ∧ Goes w col (hue0 w.heap.size col 6 v') ∧ Fr (Hot col) w (w2.setCell ⟨s, 10, none⟩ v') := by
  have hF2 : Fr (fun b => col b = 6) w w2 := Fr.trans (Ext.any hx) (Fr.of_grow hgr H.recs.2)
  have hb2 : w2.heap[s]? = _ := hF2.blk H.blk (by rw [H.cs]; omega)
  have hlt := H.lt
  have hg : Goes w col (hue0 w.heap.size col 6 v') := goes_hue0 H.recs.2 (fun k hk => by
    rcases hblk k hk with h1 | h1
    · exact .inl h1
    · exact .inr (Nat.le_trans hx.size h1))
  have hf4 : Fr (One s) w2 (w2.setCell ⟨s, 10, none⟩ v') := (by repeat (first | with_reducible exact Fr.refl _ _ | (with_reducible refine Fr.set ?_ _ _ _ (One.self _)) | (with_reducible refine Fr.alloc ?_ _) | (with_reducible refine Fr.drew ?_)))
  have hF : Fr (fun b => col b = 6 ∨ col b = 1) w (w2.setCell ⟨s, 10, none⟩ v') := Fr.trans (hF2.mono fun b _ e => .inl e) (hf4.mono fun b _ e => .inr (by unfold One at e; rw [e]; exact H.cs))
  have H' := H.goes hg
  have hrow := (RowC.grown (c := 6) (d := Rd.rcd) hown hn hblk).fr hf4 (fun b _ e => by unfold One at e; rw [e, H'.cs]; omega)
  have hk : ∀ b, b < w.heap.size → (col b = 6 ∨ col b = 1) → (hue0 w.heap.size col 6 v') b = 6 ∨ (hue0 w.heap.size col 6 v') b = 1 := fun b hb e => by rw [hg b hb]; exact e
  refine ⟨⟨H'.cs, (blk_set hb2 10 _).trans (by simp [stCells]), ?_, ?_, ?_, ?_, H'.hand.fr hF (fun b hb e => by have := hk b hb e; omega), H'.ct, H'.tally.fr hF (fun e => by have := hk t (blk_lt H.tally) e; have := H'.ct; omega), H'.env.fr hF (fun b hb e => by have := hk b hb e; omega)⟩, hg, hF.mono fun b _ e => by unfold Hot; omega⟩
  · exact H'.head.fr hF (fun b hb e => by have := hk b hb e; omega)
  · exact H'.body.fr hF (fun b hb e => by have := hk b hb e; omega)
  · exact hrow
  · exact H'.evs.fr hF (fun b hb e => by have := hk b hb e; omega)
/-- The row of the evs has grown, and is stored. -/
theorem IsStX.evs_set {n : Nat} {xs : List (Nat × Bytes)} (H : IsStX w col s h t st vh vb vr ve) (hx : Ext w w1) (hown : OwnR Rd.event 49 w2 0 (GrowOk w.heap.size w1.heap.size col ve) v' n xs) (hn : n = xs.length) (hgr : w1.grownBy w2 ve.ownBlock) (hblk : ∀ k, v'.ownBlock = some k → ve.ownBlock = some k ∨ w1.heap.size ≤ k) :
    IsStX (w2.setCell ⟨s, 11, none⟩ v') (hue0 w.heap.size col 7 v') s h t { st with events := xs } vh vb vr v' ∧ Goes w col (hue0 w.heap.size col 7 v') ∧ Fr (Hot col) w (w2.setCell ⟨s, 11, none⟩ v') := by
  have hF2 : Fr (fun b => col b = 7) w w2 := Fr.trans (Ext.any hx) (Fr.of_grow hgr H.evs.2)
  have hb2 : w2.heap[s]? = _ := hF2.blk H.blk (by rw [H.cs]; omega)
  have hlt := H.lt
  have hg : Goes w col (hue0 w.heap.size col 7 v') := goes_hue0 H.evs.2 (fun k hk => by
    rcases hblk k hk with h1 | h1
    · exact .inl h1
    · exact .inr (Nat.le_trans hx.size h1))
  have hf4 : Fr (One s) w2 (w2.setCell ⟨s, 11, none⟩ v') := (by repeat (first | with_reducible exact Fr.refl _ _ | (with_reducible refine Fr.set ?_ _ _ _ (One.self _)) | (with_reducible refine Fr.alloc ?_ _) | (with_reducible refine Fr.drew ?_)))
  have hF : Fr (fun b => col b = 7 ∨ col b = 1) w (w2.setCell ⟨s, 11, none⟩ v') := Fr.trans (hF2.mono fun b _ e => .inl e) (hf4.mono fun b _ e => .inr (by unfold One at e; rw [e]; exact H.cs))
  have H' := H.goes hg
  have hrow := (RowC.grown (c := 7) (d := Rd.event) hown hn hblk).fr hf4 (fun b _ e => by unfold One at e; rw [e, H'.cs]; omega)
  have hk : ∀ b, b < w.heap.size → (col b = 7 ∨ col b = 1) → (hue0 w.heap.size col 7 v') b = 7 ∨ (hue0 w.heap.size col 7 v') b = 1 := fun b hb e => by rw [hg b hb]; exact e
  refine ⟨⟨H'.cs, (blk_set hb2 11 _).trans (by simp [stCells]), ?_, ?_, ?_, ?_, H'.hand.fr hF (fun b hb e => by have := hk b hb e; omega), H'.ct, H'.tally.fr hF (fun e => by have := hk t (blk_lt H.tally) e; have := H'.ct; omega), H'.env.fr hF (fun b hb e => by have := hk b hb e; omega)⟩, hg, hF.mono fun b _ e => by unfold Hot; omega⟩
  · exact H'.head.fr hF (fun b hb e => by have := hk b hb e; omega)
  · exact H'.body.fr hF (fun b hb e => by have := hk b hb e; omega)
  · exact H'.recs.fr hF (fun b hb e => by have := hk b hb e; omega)
  · exact hrow
end
def St.ended (st : St) : St := { st with records := st.records ++ [st.now], next := .head }
set_option maxRecDepth 8000 in
set_option maxHeartbeats 4000000 in
theorem stream_end {w : World} {col : Nat → Nat} {s h t : Nat} {st : St} (H : IsSt w col s h t st) (hn : st.records.length ≤ 1099511627776) : Calls Tryz.prog 118 #[.pointer (some ⟨s, 0, none⟩)] w (StPost col s h t st.ended w) := by
  obtain ⟨vh, vb, vr, ve, H⟩ := H
  obtain ⟨Ar, cr, rfl⟩ := H.recs.isSl
  have e3 := H.c3
  have e5 := H.c5
  have e6 := H.c6
  have e7 := H.c7
  have e10 := H.c10
  have hlt := H.lt
  have HX := Lib.hid H
  clear H
  go_enter Tryz.func118, Tryz.ntmps118
  go_wp2
  refine wp_region_mix _ 9 11 (by kernel_rfl) (by kernel_rfl) (fun w'' => w''.cell? ⟨s, 10, none⟩ = some (.slice Ar st.records.length cr) ∧ w''.cell? ⟨s, 5, none⟩ = some (.int .i64 st.now.kind) ∧ w''.cell? ⟨s, 6, none⟩ = some (.int .i64 st.now.version) ∧ w''.cell? ⟨s, 7, none⟩ = some (.int .i64 st.now.length)) ?_ ?_
  · exact ⟨e10, e5, e6, e7⟩
  simp only [List.take_succ_cons, List.take_zero]
  (repeat (first | (apply wpStl_op; (focus (first | rfl | (go_simp; done))); (focus (intro w' hw'; skip; go_simp; first | done | rfl | exact ⟨rfl, rfl⟩)); (intro K hK; go_simp; refine hK _ ?_; clear hK K)) | (refine wpStl_no ?_ (fun K hK => ?_); (focus (first | rfl | (go_simp; done))); go_simp; refine hK _ ?_; clear hK K)))
  (show wpMid _ _ _ _ _ _ _; simp only [List.drop_succ_cons, List.drop_zero, List.take_succ_cons, List.take_zero, Nat.reduceSub])
  (refine wpMid_op ?_ (fun K hK => ?_); (focus (first | rfl | (go_simp; done))); go_simp)
  have hxa : Ext w ((w.alloc (.cells st.now.vals.toArray 90)).drew) := Fr.drew ((Fr.refl _ _).alloc _)
  have hxc := Ext.cells hxa
  refine hK _ _ ⟨(hxc _ _ hlt).trans e10, (hxc _ _ hlt).trans e5, (hxc _ _ hlt).trans e6, (hxc _ _ hlt).trans e7⟩ ?_
  clear hK K
  refine wpMid_op ?_ (fun K hK => ?_)
  · rfl
  have hsy : SlC Rd.rcd ((w.alloc (.cells st.now.vals.toArray 90)).drew) (GrowOk w.heap.size (w.heap.size + 1) col (.slice Ar st.records.length cr)) (some ⟨w.heap.size, 0, none⟩) 1 1 [st.now] := by
    refine sl_newO (d := Rd.rcd) (w := w) (ok := NoB) (cells := st.now.vals) (blk_new _ _) (Elems.one (d := Rd.rcd) (x := st.now) rfl) hxa rfl (by decide) ⟨by omega, fun e => ?_, .inr (Nat.le_refl _)⟩ (fun _ _ e => e.elim)
    have := (HX.out.recs.1.block _ e).2
    omega
  have hto := HX.out.recs.togrow hxa (by omega)
  rw [show ((w.alloc (.cells st.now.vals.toArray 90)).drew).heap.size = w.heap.size + 1 from by simp [World.drew]] at hto
  refine wp_append_rows (d := Rd.rcd) (v := .slice Ar st.records.length cr) (xs := st.records) (ys := [st.now]) (n := st.records.length) (m := 1) (base := 0) rfl app_rcd rfl hto growok_not hsy rfl (by omega) (Nat.zero_le _) ?_
  intro v' w2 hown hgr hblk
  rw [show w.heap.size + 1 = ((w.alloc (.cells st.now.vals.toArray 90)).drew).heap.size from by simp [World.drew]] at hown
  have HS := Lib.hid (HX.out.recs_set hxa hown (by simp) hgr hblk)
  have hb2 : w2.heap[s]? = _ := (Fr.trans (Ext.any hxa) (Fr.of_grow hgr HX.out.recs.2)).blk HX.out.blk (by rw [HX.out.cs]; omega)
  refine hK _ _ ⟨(blk_cell hb2 10).trans rfl, (blk_cell hb2 5).trans rfl, (blk_cell hb2 6).trans rfl, (blk_cell hb2 7).trans rfl⟩ ?_
  clear hK K
  obtain ⟨A2, c2, rfl, _⟩ := hown.sl
  have r3 : w2.cell? ⟨s, 3, none⟩ = some (st.next.v s) := (blk_cell hb2 3).trans rfl
  have r10 : w2.cell? ⟨s, 10, none⟩ = some (.slice Ar st.records.length cr) := (blk_cell hb2 10).trans rfl
  have rf : ∀ i, w2.frozen? ⟨s, i, none⟩ = false := fun i => blk_unfrozen hb2 i
  clear hb2 hown hgr hblk hto hsy hxa hxc
  (show wpList _ _ _ _ _ _; try simp only [List.drop_succ_cons, List.drop_zero])
  go_wp2
  ((try simp only [Exit.inBlock, Exit.then]); refine bodyPost_end (results_none rfl _ _ _) rfl ?_)
  obtain ⟨h1, h2, h3⟩ := HS.out
  have hf4 : Fr (One s) (w2.setCell ⟨s, 10, none⟩ (.slice A2 (st.records.length + 1) c2)) ((w2.setCell ⟨s, 10, none⟩ (.slice A2 (st.records.length + 1) c2)).setCell ⟨s, 3, none⟩ (Nx.head.v s)) := (by repeat (first | with_reducible exact Fr.refl _ _ | (with_reducible refine Fr.set ?_ _ _ _ (One.self _)) | (with_reducible refine Fr.alloc ?_ _) | (with_reducible refine Fr.drew ?_)))
  refine ⟨_, h2, rfl, ⟨_, _, _, _, h1.own (st' := st.ended) hf4 ((blk_set h1.blk 3 _).trans (by simp [stCells, St.ended, Nx.v])) rfl rfl rfl rfl rfl rfl⟩, Fr.trans h3 (hf4.mono fun b _ e => by unfold One at e; unfold Hot; rw [e, HX.out.cs]; omega)⟩
end Go.Proofs.YtalbiepdkaldmaaGreatDoor
