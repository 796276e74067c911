/- stream.whole: a record that isn't of messages is whole. -/
import Derived.Test.YtalbiepdkaldmaaGreatDoorProg
import Derived.Test.YtalbiepdkaldmaaGreatDoorStm2
import Derived.Deep.QuietTactic
import Derived.BigQuiet
import Derived.Deep.LoopGhost
import Derived.Laws.EntriesVeiled
set_option linter.unusedVariables false
set_option linter.unusedSimpArgs false
namespace Go.Proofs.YtalbiepdkaldmaaGreatDoor
open Go.RowKit
section
variable {w : World} {col : Nat → Nat} {s h t : Nat} {st : St} {vh vb vr ve : Value}
theorem IsStX.nobody (H : IsStX w col s h t st vh vb vr ve) : IsStX (w.setCell ⟨s, 8, none⟩ (.slice none 0 0)) col s h t { st with body := [] } vh (.slice none 0 0) vr ve := by
  have hf : Fr (One s) w (w.setCell ⟨s, 8, none⟩ (.slice none 0 0)) := (by repeat (first | with_reducible exact Fr.refl _ _ | (with_reducible refine Fr.set ?_ _ _ _ (One.self _)) | (with_reducible refine Fr.alloc ?_ _) | (with_reducible refine Fr.drew ?_)))
  have hs : ∀ b, b < w.heap.size → One s b → col b = 1 := fun b _ e => by unfold One at e; rw [e]; exact H.cs
  exact ⟨H.cs, (blk_set H.blk 8 _).trans (by simp [stCells]), H.head.fr hf fun b hb e => by (rw [hs b hb e]; omega), RowC.nil, H.recs.fr hf fun b hb e => by (rw [hs b hb e]; omega), H.evs.fr hf fun b hb e => by (rw [hs b hb e]; omega), H.hand.fr hf fun b hb e => by (rw [hs b hb e]; omega), H.ct, H.tally.fr hf fun e => by (have := hs t (blk_lt H.tally) e; rw [H.ct] at this; omega), H.env.fr hf (fun b hb e => by rw [hs b hb e]; omega)⟩
theorem IsStX.nohead (H : IsStX w col s h t st vh vb vr ve) : IsStX (w.setCell ⟨s, 4, none⟩ (.slice none 0 0)) col s h t { st with head := [] } (.slice none 0 0) vb vr ve := by
  have hf : Fr (One s) w (w.setCell ⟨s, 4, none⟩ (.slice none 0 0)) := (by repeat (first | with_reducible exact Fr.refl _ _ | (with_reducible refine Fr.set ?_ _ _ _ (One.self _)) | (with_reducible refine Fr.alloc ?_ _) | (with_reducible refine Fr.drew ?_)))
  have hs : ∀ b, b < w.heap.size → One s b → col b = 1 := fun b _ e => by unfold One at e; rw [e]; exact H.cs
  exact ⟨H.cs, (blk_set H.blk 4 _).trans (by simp [stCells]), RowC.nil, H.body.fr hf fun b hb e => by (rw [hs b hb e]; omega), H.recs.fr hf fun b hb e => by (rw [hs b hb e]; omega), H.evs.fr hf fun b hb e => by (rw [hs b hb e]; omega), H.hand.fr hf fun b hb e => by (rw [hs b hb e]; omega), H.ct, H.tally.fr hf fun e => by (have := hs t (blk_lt H.tally) e; rw [H.ct] at this; omega), H.env.fr hf (fun b hb e => by rw [hs b hb e]; omega)⟩
theorem IsStX.noevents (H : IsStX w col s h t st vh vb vr ve) : IsStX (w.setCell ⟨s, 11, none⟩ (.slice none 0 0)) col s h t { st with events := [] } vh vb vr (.slice none 0 0) := by
  have hf : Fr (One s) w (w.setCell ⟨s, 11, none⟩ (.slice none 0 0)) := (by repeat (first | with_reducible exact Fr.refl _ _ | (with_reducible refine Fr.set ?_ _ _ _ (One.self _)) | (with_reducible refine Fr.alloc ?_ _) | (with_reducible refine Fr.drew ?_)))
  have hs : ∀ b, b < w.heap.size → One s b → col b = 1 := fun b _ e => by unfold One at e; rw [e]; exact H.cs
  exact ⟨H.cs, (blk_set H.blk 11 _).trans (by simp [stCells]), H.head.fr hf fun b hb e => by (rw [hs b hb e]; omega), H.body.fr hf fun b hb e => by (rw [hs b hb e]; omega), H.recs.fr hf fun b hb e => by (rw [hs b hb e]; omega), RowC.nil, H.hand.fr hf fun b hb e => by (rw [hs b hb e]; omega), H.ct, H.tally.fr hf fun e => by (have := hs t (blk_lt H.tally) e; rw [H.ct] at this; omega), H.env.fr hf (fun b hb e => by rw [hs b hb e]; omega)⟩
theorem IsStX.tallied {n : Nat} {w' : World} (H : IsStX w col s h t st vh vb vr ve) (hf : Fr (One t) w w') (ht : IsTally w' t n) : IsStX w' col s h t { st with steps := n } vh vb vr ve := by
  have hs : ∀ b, b < w.heap.size → One t b → col b = 3 := fun b _ e => by unfold One at e; rw [e]; exact H.ct
  exact ⟨H.cs, (hf.blk H.blk (fun e => by have := hs s H.lt e; rw [H.cs] at this; omega)).trans (by simp [stCells]), H.head.fr hf fun b hb e => by (rw [hs b hb e]; omega), H.body.fr hf fun b hb e => by (rw [hs b hb e]; omega), H.recs.fr hf fun b hb e => by (rw [hs b hb e]; omega), H.evs.fr hf fun b hb e => by (rw [hs b hb e]; omega), H.hand.fr hf fun b hb e => by (rw [hs b hb e]; omega), H.ct, ht, H.env.fr hf (fun b hb e => by rw [hs b hb e]; omega)⟩
end
theorem StPost.after {w w1 : World} {col col1 : Nat → Nat} {s h t : Nat} {st' : St} {e : Ending} {w' : World} (hg : Goes w col col1) (hf : Fr (Hot col) w w1) (hp : StPost col1 s h t st' w1 e w') : StPost col s h t st' w e w' := by
  obtain ⟨col', h1, h2, h3, h4⟩ := hp
  refine ⟨col', fun b hb => (h1 b (Nat.lt_of_lt_of_le hb hf.size)).trans (hg b hb), h2, h3, Fr.trans' hf h4 fun b hb e => ?_⟩
  unfold Hot at *
  rw [hg b hb] at e
  exact e
def St.evented (st : St) : St := { st with events := st.events ++ [(st.now.kind, st.body)], body := [] }
def St.whole (st : St) : St := if bodyErr st.now.kind st.body = 0 then st.evented.ended else st.fail (st.came - st.body.length) (bodyErr st.now.kind st.body)
set_option maxRecDepth 8000 in
set_option maxHeartbeats 8000000 in
theorem stream_whole {w : World} {col : Nat → Nat} {s h t lo hi : Nat} {st : St} (H : IsSt w col s h t st) (hk : limits st.now.kind = some (lo, hi)) (hl : st.now.length = st.body.length) (hc : st.body.length ≤ st.came) (hcm : st.came ≤ 4611686018427387904) (hb : st.body.length ≤ 1000000000) (hn : st.records.length ≤ 1099511627776) (hne : st.events.length ≤ 1099511627776) : Calls Tryz.prog 75 #[.pointer (some ⟨s, 0, none⟩)] w (StPost col s h t st.whole w) := by
  obtain ⟨vh, vb, vr, ve, H⟩ := H
  obtain ⟨Ae, ce, rfl⟩ := H.evs.isSl
  obtain ⟨Ab, cb, rfl⟩ := H.body.isSl
  have e2 := H.c2
  have e5 := H.c5
  have e6 := H.c6
  have e7 := H.c7
  rw [hl] at e7
  have e8 := H.c8
  have e11 := H.c11
  have ef := H.cf
  have hlt := H.lt
  have HB : Hid (∀ W, Ext w W → Calls Tryz.prog 119 #[.agg #[.int .i64 st.now.kind, .int .i64 st.now.version, .int .i64 st.body.length], .slice Ab st.body.length cb] W fun e w' => e = .returned (.tuple #[.int .i64 0, .int .i64 (bodyErr st.now.kind st.body)]) ∧ Ext w w') := Lib.hid fun W hW => (record_Body (v := st.now.version) W (H.body.src.ext hW) (H.env.lim.ext hW) hk).mono fun e w' hh => ⟨hh.1, hW.trans hh.2⟩
  have HX := Lib.hid H
  have HK := Lib.hid hl
  clear H hk hl
  unfold St.whole
  by_cases hz : bodyErr st.now.kind st.body = 0
  · rw [if_pos hz]
    rw [hz] at HB
    clear hz
    go_enter Tryz.func75, Tryz.ntmps75
    go_wp2
    refine wp_region_quietX (by kernel_rfl) (by kernel_rfl) ?_
    (repeat (first | (apply wpQuiet_op (hg := rfl); (focus (intro w' hw'; have hcx := Ext.cells hw'; have hzx := Fr.size hw'; go_simp; first | done | rfl | exact ⟨rfl, rfl⟩)); (intro K hK; go_simp; refine hK _ ?_; clear hK K)) | (refine wpQuiet_opW ?_ ?_ ?_ ?_; rotate_left; (focus (first | rfl | (go_simp; done))); (focus (intro w' hw'; have hcx := Ext.cells hw'; have hzx := Fr.size hw'; go_simp; first | done | rfl | exact ⟨rfl, rfl⟩)); (intro K hK; go_simp; refine hK _ ?_; clear hK K)) | (refine wpQuiet_no ?_ (fun K hK => ?_); (focus (first | rfl | (go_simp; done))); go_simp; refine hK _ ?_; clear hK K)))
    ((first | refine wpQuiet_op (.tuple #[.int .i64 0, .int .i64 0]) rfl (fun w' hw' => ?_) (fun K hK => ?_) | (refine wpQuiet_opW (.tuple #[.int .i64 0, .int .i64 0]) ?_ (fun w' hw' => ?_) (fun K hK => ?_); (focus (first | rfl | (go_simp; done))))); rotate_left; (go_simp; refine hK _ ?_; clear hK K); rotate_left; (have hcx := Ext.cells hw'; have hzx := Fr.size hw'; go_simp))
    · exact HB.out _ hw'
    (repeat (first | (apply wpQuiet_op (hg := rfl); (focus (intro w' hw'; have hcx := Ext.cells hw'; have hzx := Fr.size hw'; go_simp; first | done | rfl | exact ⟨rfl, rfl⟩)); (intro K hK; go_simp; refine hK _ ?_; clear hK K)) | (refine wpQuiet_opW ?_ ?_ ?_ ?_; rotate_left; (focus (first | rfl | (go_simp; done))); (focus (intro w' hw'; have hcx := Ext.cells hw'; have hzx := Fr.size hw'; go_simp; first | done | rfl | exact ⟨rfl, rfl⟩)); (intro K hK; go_simp; refine hK _ ?_; clear hK K)) | (refine wpQuiet_no ?_ (fun K hK => ?_); (focus (first | rfl | (go_simp; done))); go_simp; refine hK _ ?_; clear hK K)))
    (refine wpQuiet_nil ?_; intro w' hw'; have hcx := Ext.cells hw'; have hfx := Ext.frozens hw'; have hzx := Fr.size hw'; try simp [go_sem] at hzx; try (have hzl := Nat.lt_of_succ_le hzx; try (have hzm := Nat.lt_of_succ_lt hzl)))
    go_wp2
    have H1 := Lib.hid (HX.out.ext hw')
    have HW := Lib.hid hw'
    clear e2 e5 e6 e7 e8 e11 ef hlt hw' hcx hfx hzx
    generalize w' = w1 at *
    have e5 := H1.out.c5
    have e8 := H1.out.c8
    have e11 := H1.out.c11
    have hlt := H1.out.lt
    refine wp_region_mix _ 14 18 (by kernel_rfl) (by kernel_rfl) (fun w'' => w''.cell? ⟨s, 11, none⟩ = some (.slice Ae st.events.length ce) ∧ w''.cell? ⟨s, 5, none⟩ = some (.int .i64 st.now.kind) ∧ w''.cell? ⟨s, 8, none⟩ = some (.slice Ab st.body.length cb)) ?_ ?_
    · exact ⟨e11, e5, e8⟩
    simp only [List.take_succ_cons, List.take_zero]
    (repeat (first | (apply wpStl_op; (focus (first | rfl | (go_simp; done))); (focus (intro w' hw'; skip; go_simp; first | done | rfl | exact ⟨rfl, rfl⟩)); (intro K hK; go_simp; refine hK _ ?_; clear hK K)) | (refine wpStl_no ?_ (fun K hK => ?_); (focus (first | rfl | (go_simp; done))); go_simp; refine hK _ ?_; clear hK K)))
    (show wpMid _ _ _ _ _ _ _; simp only [List.drop_succ_cons, List.drop_zero, List.take_succ_cons, List.take_zero, Nat.reduceSub])
    (refine wpMid_op ?_ (fun K hK => ?_); (focus (first | rfl | (go_simp; done))); go_simp)
    refine (clone_u8 Ab st.body.length cb st.body Any _ (H1.out.body.src.ext (Fr.refl _ _).drew) hb).mono ?_
    rintro e w8 ⟨A8, c8, rfl, ho8, hx8⟩
    have hx18 : Ext w1 w8 := Fr.trans (Fr.refl _ _).drew hx8
    have hc8 := Ext.cells hx18
    refine hK _ _ ⟨(hc8 _ _ hlt).trans e11, (hc8 _ _ hlt).trans e5, (hc8 _ _ hlt).trans e8⟩ ?_
    clear hK K
    (refine wpMid_op ?_ (fun K hK => ?_); (focus (first | rfl | (go_simp; done))); go_simp)
    refine hK _ _ ⟨(hc8 _ _ hlt).trans e11, (hc8 _ _ hlt).trans e5, (hc8 _ _ hlt).trans e8⟩ ?_
    clear hK K
    (refine wpMid_op ?_ (fun K hK => ?_); (focus (first | rfl | (go_simp; done))); go_simp)
    have hx19 : Ext w1 (w8.alloc (.cells #[.int .i64 st.now.kind, .slice A8 st.body.length c8] 49)) := Fr.trans hx18 ((Fr.refl _ _).alloc _)
    have hc9 := Ext.cells hx19
    refine hK _ _ ⟨(hc9 _ _ hlt).trans e11, (hc9 _ _ hlt).trans e5, (hc9 _ _ hlt).trans e8⟩ ?_
    clear hK K
    refine wpMid_op ?_ (fun K hK => ?_)
    · rfl
    have hk8 : SlC Rd.u8 w8 (fun b => w1.heap.size ≤ b) A8 st.body.length c8 st.body := by
      obtain ⟨A0, c0, e, hs⟩ := (own_u8 (ok' := NoB) ho8).sl
      simp at e
      obtain ⟨rfl, rfl⟩ := e
      exact hs.mono fun b _ hb => by
        rcases hb with hb | hb
        · exact hb
        · exact hb.elim
    have hvb : ∀ b, (Value.slice Ae st.events.length ce).ownBlock = some b → b < w1.heap.size := fun b e => (H1.out.evs.1.block b e).2
    have hsy : SlC Rd.event (w8.alloc (.cells #[.int .i64 st.now.kind, .slice A8 st.body.length c8] 49)) (GrowOk w1.heap.size (w8.heap.size + 1) col (.slice Ae st.events.length ce)) (some ⟨w8.heap.size, 0, none⟩) 1 1 [(st.now.kind, st.body)] := by
      have := hx18.size
      refine sl_newO (d := Rd.event) (w := w8) (ok := fun b => w1.heap.size ≤ b) (cells := [.int .i64 st.now.kind, .slice A8 st.body.length c8]) (blk_new _ _) (Elems.one (d := Rd.event) (x := (st.now.kind, st.body)) ⟨_, _, _, rfl, hk8⟩) ((Fr.refl _ _).alloc _) rfl (by decide) ⟨by omega, fun e => ?_, .inr this⟩ (fun b hb e => ⟨by omega, fun e' => ?_, .inr e⟩)
      · have := hvb _ e
        omega
      · have := hvb _ e'
        omega
    have hto := H1.out.evs.togrow hx19 (by omega)
    rw [show (w8.alloc (.cells #[.int .i64 st.now.kind, .slice A8 st.body.length c8] 49)).heap.size = w8.heap.size + 1 from by simp] at hto
    refine wp_append_rows (d := Rd.event) (v := .slice Ae st.events.length ce) (xs := st.events) (ys := [(st.now.kind, st.body)]) (n := st.events.length) (m := 1) (base := 0) rfl app_event rfl hto growok_not hsy rfl (by omega) (Nat.zero_le _) ?_
    intro v' w2 hown hgr hblk
    rw [show w8.heap.size + 1 = (w8.alloc (.cells #[.int .i64 st.now.kind, .slice A8 st.body.length c8] 49)).heap.size from by simp] at hown
    have HS := Lib.hid (H1.out.evs_set hx19 hown (by simp) hgr hblk)
    have hb2 : w2.heap[s]? = _ := (Fr.trans (Ext.any hx19) (Fr.of_grow hgr H1.out.evs.2)).blk H1.out.blk (by rw [H1.out.cs]; omega)
    refine hK _ _ ⟨(blk_cell hb2 11).trans rfl, (blk_cell hb2 5).trans rfl, (blk_cell hb2 8).trans rfl⟩ ?_
    clear hK K
    obtain ⟨A2, c2, rfl, _⟩ := hown.sl
    have r8 : w2.cell? ⟨s, 8, none⟩ = some (.slice Ab st.body.length cb) := (blk_cell hb2 8).trans rfl
    have r11 : w2.cell? ⟨s, 11, none⟩ = some (.slice Ae st.events.length ce) := (blk_cell hb2 11).trans rfl
    have rf : ∀ i, w2.frozen? ⟨s, i, none⟩ = false := fun i => blk_unfrozen hb2 i
    clear hb2 hown hgr hblk hto hsy hx19 hc9 hc8 hx18 hx8 ho8 hk8 hvb e5 e8 e11
    have HE : Hid (Calls Tryz.prog 118 #[.pointer (some ⟨s, 0, none⟩)] ((w2.setCell ⟨s, 11, none⟩ (.slice A2 (st.events.length + 1) c2)).setCell ⟨s, 8, none⟩ (.slice none 0 0)) (StPost col s h t st.evented.ended w1)) := Lib.hid (by
      obtain ⟨h1, h2, h3⟩ := HS.out
      have hf4 : Fr (One s) (w2.setCell ⟨s, 11, none⟩ (.slice A2 (st.events.length + 1) c2)) ((w2.setCell ⟨s, 11, none⟩ (.slice A2 (st.events.length + 1) c2)).setCell ⟨s, 8, none⟩ (.slice none 0 0)) := (by repeat (first | with_reducible exact Fr.refl _ _ | (with_reducible refine Fr.set ?_ _ _ _ (One.self _)) | (with_reducible refine Fr.alloc ?_ _) | (with_reducible refine Fr.drew ?_)))
      exact (stream_end (st := st.evented) ⟨_, _, _, _, h1.nobody⟩ hn).mono fun e w' hp => hp.after h2 (Fr.trans h3 (hf4.mono fun b _ e => by unfold One at e; unfold Hot; rw [e, H1.out.cs]; omega)))
    (show wpList _ _ _ _ _ _; try simp only [List.drop_succ_cons, List.drop_zero])
    go_wp2_with ((go_at_call 118; refine (HE.out).mono ?_; rintro e w9 ⟨col9, hg9, rfl, hI9, hf9⟩))
    ((try simp only [Exit.inBlock, Exit.then]); refine bodyPost_end (results_none rfl _ _ _) rfl ?_)
    exact StPost.after (fun _ _ => rfl) (Ext.any HW.out) ⟨col9, hg9, rfl, hI9, hf9⟩
  · rw [if_neg hz]
    have hzq : (((bodyErr st.now.kind st.body : Nat) : Int) != 0) = true := by rw [bne_iff_ne]; omega
    have wn : IntKind.i64.wrap ((st.came : Int) - (st.body.length : Int)) = ((st.came - st.body.length : Nat) : Int) := by rw [IntWalk.i64_in _ (by omega)]; omega
    clear hz
    generalize bodyErr st.now.kind st.body = er at *
    have HFl : Hid (∀ W, Ext w W → Calls Tryz.prog 72 #[.pointer (some ⟨s, 0, none⟩), .int .i64 ((st.came - st.body.length : Nat) : Int), .int .i64 er] W fun en w' => en = .returned (.tuple #[]) ∧ IsSt w' col s h t (st.fail (st.came - st.body.length) er) ∧ Fr (Hot col) w w') := Lib.hid fun W hW => (stream_fail (HX.out.ext hW) _ _).mono fun e w' hh => ⟨hh.1, ⟨_, _, _, _, hh.2.1⟩, Fr.trans (Ext.any hW) (hh.2.2.hot HX.out.cs)⟩
    generalize st.came - st.body.length = pl at *
    go_enter Tryz.func75, Tryz.ntmps75
    go_wp2
    refine wp_region_quietX (by kernel_rfl) (by kernel_rfl) ?_
    (repeat (first | (apply wpQuiet_op (hg := rfl); (focus (intro w' hw'; have hcx := Ext.cells hw'; have hzx := Fr.size hw'; go_simp; first | done | rfl | exact ⟨rfl, rfl⟩)); (intro K hK; go_simp; refine hK _ ?_; clear hK K)) | (refine wpQuiet_opW ?_ ?_ ?_ ?_; rotate_left; (focus (first | rfl | (go_simp; done))); (focus (intro w' hw'; have hcx := Ext.cells hw'; have hzx := Fr.size hw'; go_simp; first | done | rfl | exact ⟨rfl, rfl⟩)); (intro K hK; go_simp; refine hK _ ?_; clear hK K)) | (refine wpQuiet_no ?_ (fun K hK => ?_); (focus (first | rfl | (go_simp; done))); go_simp; refine hK _ ?_; clear hK K)))
    ((first | refine wpQuiet_op (.tuple #[.int .i64 0, .int .i64 er]) rfl (fun w' hw' => ?_) (fun K hK => ?_) | (refine wpQuiet_opW (.tuple #[.int .i64 0, .int .i64 er]) ?_ (fun w' hw' => ?_) (fun K hK => ?_); (focus (first | rfl | (go_simp; done))))); rotate_left; (go_simp; refine hK _ ?_; clear hK K); rotate_left; (have hcx := Ext.cells hw'; have hzx := Fr.size hw'; go_simp))
    · exact HB.out _ hw'
    (repeat (first | (apply wpQuiet_op (hg := rfl); (focus (intro w' hw'; have hcx := Ext.cells hw'; have hzx := Fr.size hw'; go_simp; first | done | rfl | exact ⟨rfl, rfl⟩)); (intro K hK; go_simp; refine hK _ ?_; clear hK K)) | (refine wpQuiet_opW ?_ ?_ ?_ ?_; rotate_left; (focus (first | rfl | (go_simp; done))); (focus (intro w' hw'; have hcx := Ext.cells hw'; have hzx := Fr.size hw'; go_simp; first | done | rfl | exact ⟨rfl, rfl⟩)); (intro K hK; go_simp; refine hK _ ?_; clear hK K)) | (refine wpQuiet_no ?_ (fun K hK => ?_); (focus (first | rfl | (go_simp; done))); go_simp; refine hK _ ?_; clear hK K)))
    (refine wpQuiet_nil ?_; intro w' hw'; have hcx := Ext.cells hw'; have hfx := Ext.frozens hw'; have hzx := Fr.size hw'; try simp [go_sem] at hzx; try (have hzl := Nat.lt_of_succ_le hzx; try (have hzm := Nat.lt_of_succ_lt hzl)))
    go_wp2
    have HW := Lib.hid hw'
    refine wp_region_mix _ 12 12 (by kernel_rfl) (by kernel_rfl) (fun w'' => Ext w w'') ?_ ?_
    · exact Fr.trans hw' (Fr.refl _ _).drew
    simp only [List.take_succ_cons, List.take_zero]
    (repeat (first | (apply wpStl_op; (focus (first | rfl | (go_simp; done))); (focus (intro w' hw'; have hcy := Ext.cells hw'; go_simp; first | done | rfl | exact ⟨rfl, rfl⟩)); (intro K hK; go_simp; refine hK _ ?_; clear hK K)) | (refine wpStl_no ?_ (fun K hK => ?_); (focus (first | rfl | (go_simp; done))); go_simp; refine hK _ ?_; clear hK K)))
    (show wpMid _ _ _ _ _ _ _; simp only [List.drop_succ_cons, List.drop_zero, List.take_succ_cons, List.take_zero, Nat.reduceSub])
    (show wpList _ _ _ _ _ _; try simp only [List.drop_succ_cons, List.drop_zero])
    go_wp2_with ((go_at_call 72; refine (HFl.out _ (Fr.trans HW.out (Fr.refl _ _).drew)).mono ?_; rintro e w9 ⟨rfl, hI9, hf9⟩))
    ((try simp only [Exit.inBlock, Exit.then]); refine bodyPost_ret (results_none rfl _ _ _) rfl ?_)
    exact ⟨col, fun _ _ => rfl, rfl, hI9, hf9⟩
end Go.Proofs.YtalbiepdkaldmaaGreatDoor
