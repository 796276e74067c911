/- stream.inHead: a byte of a record's head. -/
import Derived.Test.YtalbiepdkaldmaaGreatDoorProg
import Derived.Test.YtalbiepdkaldmaaGreatDoorStm5
import Derived.Deep.QuietTactic
import Derived.BigQuiet
import Derived.Deep.LoopGhost
import Derived.Laws.EntriesVeiled
set_option linter.unusedVariables false
set_option linter.unusedSimpArgs false
namespace Go.Proofs.YtalbiepdkaldmaaGreatDoor
open Go.RowKit
section
variable {w : World} {col : Nat → Nat} {s h t : Nat} {st : St} (c : UInt8)
set_option maxRecDepth 8000 in
set_option maxHeartbeats 8000000 in
theorem head_okA1 (H : IsSt w col s h t st) (hcm : st.came ≤ 4611686018427387904) (hl : st.head.length = 4) (h5c : 5 ≤ st.came) (hp : decide (0 < (st.headed c).hd.data.length) = false) {k v n : Nat} (hk : k = 22) (hn : n ≠ 0) (hres : hdOf (st.head ++ [c]) = .ok (k, v, n)) : Calls Tryz.prog 40 #[.pointer (some ⟨s, 0, none⟩), .int .u8 c.toNat] w (StPost col s h t ((st.headed c).begun k v n) w) := by
  obtain ⟨vh, vb, vr, ve, H⟩ := H
  obtain ⟨Ah, ch, rfl⟩ := H.head.isSl
  have e4 := H.c4
  have e2 := H.c2
  have ef := H.cf
  have hlt := H.lt
  have HX := Lib.hid H
  have hsy := src_u8 (w := w) (col := col) (v := .slice Ah st.head.length ch) c (fun b e => (H.head.1.block b e).2)
  have hto := H.head.togrow ((Fr.refl _ w).alloc (.cells #[.int .u8 c.toNat] 5)) (by omega)
  have HSY := Lib.hid hsy
  have HTO := Lib.hid hto
  clear H hsy hto
  have dl : decide ((st.head.length : Int) + 1 < 5) = false := by simp; omega
  have wf : IntKind.i64.wrap ((st.came : Int) - 5) = ((st.came - 5 : Nat) : Int) := by rw [IntWalk.i64_in _ (by omega)]; omega
  have kk : ((k : Int) == 22) = true := by rw [beq_iff_eq]; omega
  have nn : ((n : Int) == 0) = false := by rw [beq_eq_false_iff_ne]; omega
  have HKK := Lib.hid hk
  clear hk hn
  have HLN := Lib.hid hl
  clear hl
  go_enter Tryz.func40, Tryz.ntmps40
  go_wp2_with (at_builtin; refine wpList_append_rows (d := Rd.u8) (v := .slice Ah st.head.length ch) (xs := st.head) (ys := [c]) (n := st.head.length) (m := 1) (base := 0) rfl rfl app_u8 rfl HTO.out growok_not HSY.out rfl ?_ ?_ ?_)
  · first | omega | (have := HLN.out; omega)
  · exact Nat.zero_le _
  intro v' w2 hown hgr hblk
  have HS := Lib.hid (HX.out.head_set ((Fr.refl _ w).alloc (.cells #[.int .u8 c.toNat] 5)) hown (by simp) hgr (by simpa using hblk))
  have hb2 : w2.heap[s]? = _ := (Fr.trans (Ext.any ((Fr.refl _ w).alloc (.cells #[.int .u8 c.toNat] 5))) (Fr.of_grow hgr HX.out.head.2)).blk HX.out.blk (by rw [HX.out.cs]; omega)
  obtain ⟨A2, c2, rfl, _⟩ := hown.sl
  have r2 : w2.cell? ⟨s, 2, none⟩ = some (.int .i64 st.came) := (blk_cell hb2 2).trans rfl
  have r4 : w2.cell? ⟨s, 4, none⟩ = some (.slice Ah st.head.length ch) := (blk_cell hb2 4).trans rfl
  have rf : ∀ i, w2.frozen? ⟨s, i, none⟩ = false := fun i => blk_unfrozen hb2 i
  clear hb2 hown hgr hblk e4 e2 ef
  have HS2 : Hid (∃ col', Goes w col col' ∧ (∃ vb vr ve, IsStX (w2.setCell ⟨s, 4, none⟩ (.slice A2 (st.head.length + 1) c2)) col' s h t (st.headed c) (.slice A2 (st.head.length + 1) c2) vb vr ve) ∧ Fr (Hot col) w (w2.setCell ⟨s, 4, none⟩ (.slice A2 (st.head.length + 1) c2))) := Lib.hid (by
    obtain ⟨h1, h2, h3⟩ := HS.out
    exact ⟨_, h2, ⟨_, _, _, h1⟩, h3⟩)
  go_wp2_with (first | ((go_at_call 71; refine (HS2).mono ?_; rintro e)))
  obtain ⟨col3, hg3, ⟨vb', vr', ve', h3⟩, hf3⟩ := HS2.out
  have HG3 := Lib.hid hg3
  have H3 := Lib.hid h3
  have HF3 := Lib.hid hf3
  have h5 : st.head.length + 1 = 5 := by have := HLN.out; omega
  rw [h5] at H3 HF3
  rw [h5]
  have hsb : SlC Rd.u8 (w2.setCell ⟨s, 4, none⟩ (.slice A2 5 c2)) Any A2 5 c2 (st.head ++ [c]) := by
    obtain ⟨A0, c0, e, hs⟩ := H3.out.head.1.sl
    have e' : (st.headed c).head.length = 5 := by have := HLN.out; simp [St.headed]; omega
    rw [e'] at e hs
    injection e with e1 _ e2
    subst e1
    subst e2
    exact hs.any
  have HSB := Lib.hid hsb
  have HRH := Lib.hid (record_HeadOf (by have := HLN.out; simp; omega) hsb H3.out.env.lim)
  rw [hres] at HRH
  clear hg3 h3 hf3 HS2 HS HSY HTO hsb r2 r4 rf
  generalize hW : w2.setCell ⟨s, 4, none⟩ (.slice A2 5 c2) = W at *
  generalize st.came - 5 = fr at *
  have HPa : Hid (∀ W', Ext W W' → Calls Tryz.prog 42 #[.pointer (some ⟨h, 0, none⟩)] W' fun e w' => e = .returned (.bool false) ∧ w' = W') := Lib.hid fun W' hW => by
    have := hand_Partial W' (H3.out.hand.ext hW)
    rw [show decide (0 < (st.headed c).hd.data.length) = false from hp] at this
    exact this
  have q0 := H3.out.c0
  have q2 : W.cell? ⟨s, 2, none⟩ = some (.int .i64 st.came) := H3.out.c2
  have q4 := H3.out.c4
  have qf := H3.out.cf
  have qlt := H3.out.lt
  (go_at_call 71; refine (HRH.out).mono ?_; rintro e w1 ⟨rfl, hx1⟩; have hc1 := Ext.cells hx1; have hf1 := Ext.frozens hx1; have hz1 := Fr.size hx1; try simp [go_sem] at hz1; try (have hzl := Nat.lt_of_succ_le hz1; try (have hzm := Nat.lt_of_succ_lt hzl)))
  have hq1 : s < w1.heap.size := by omega
  go_wp2_with (first | ((go_at_call 42; refine (HPa.out _ ((by repeat (first | with_reducible assumption | with_reducible exact Fr.refl _ _ | (with_reducible refine Fr.alloc ?_ _) | (with_reducible refine Fr.drew ?_) | (with_reducible refine Fr.drewN ?_ _) | (with_reducible refine Fr.setNew ?_ _ _ _ (by first | with_reducible exact Nat.le_refl _ | omega | (simp; omega))))))).mono ?_; rintro e w8 ⟨rfl, rfl⟩)))
  have H4 := Lib.hid (((H3.out.ext hx1).nohead).ext ((Fr.refl _ (w1.setCell ⟨s, 4, none⟩ (.slice none 0 0))).alloc (.cells #[.int .i64 k, .int .i64 v, .int .i64 n] 90)))
  have HF4 : Hid (Fr (Hot col3) W ((w1.setCell ⟨s, 4, none⟩ (.slice none 0 0)).alloc (.cells #[.int .i64 k, .int .i64 v, .int .i64 n] 90))) := Lib.hid (Fr.trans (Ext.any hx1) (Fr.alloc (Fr.set (Fr.refl _ _) _ _ _ (by unfold Hot; rw [H3.out.cs]; omega)) _))
  have hb5 : ((w1.setCell ⟨s, 4, none⟩ (.slice none 0 0)).alloc (.cells #[.int .i64 k, .int .i64 v, .int .i64 n] 90)).heap[w1.heap.size]? = some (.cells #[.int .i64 k, .int .i64 v, .int .i64 n] 90 (0, 0)) := blk_new' _ _ _ (by simp [World.setCell])
  generalize hWd : (w1.setCell ⟨s, 4, none⟩ (.slice none 0 0)).alloc (.cells #[.int .i64 k, .int .i64 v, .int .i64 n] 90) = Wd at *
  have d0 : Wd.cell? ⟨w1.heap.size, 0, none⟩ = some (.int .i64 k) := (blk_cell hb5 0).trans rfl
  have d1 : Wd.cell? ⟨w1.heap.size, 1, none⟩ = some (.int .i64 v) := (blk_cell hb5 1).trans rfl
  have d2 : Wd.cell? ⟨w1.heap.size, 2, none⟩ = some (.int .i64 n) := (blk_cell hb5 2).trans rfl
  have hg5 : w1.heap.size < Wd.heap.size := blk_lt hb5
  generalize w1.heap.size = g5 at *
  have hsg : ¬ s = g5 := by omega
  have hgs : ¬ g5 = s := by omega
  have p3 := H4.out.c3
  have p5 := H4.out.c5
  have p6 := H4.out.c6
  have p7 := H4.out.c7
  have p9 := H4.out.c9
  have pf := H4.out.cf
  have plt := H4.out.lt
  clear q2 q4 qf qlt hx1 hc1 hf1 hz1 hq1 hW hWd hb5
  refine wp_region_mix _ 7 8 (by kernel_rfl) (by kernel_rfl) (fun w'' => w''.cell? ⟨g5, 0, none⟩ = some (.int .i64 k) ∧ w''.cell? ⟨g5, 1, none⟩ = some (.int .i64 v) ∧ w''.cell? ⟨g5, 2, none⟩ = some (.int .i64 n)) ?_ ?_
  · exact ⟨d0, d1, d2⟩
  simp only [List.take_succ_cons, List.take_zero]
  (repeat (first | (apply wpStl_op; (focus (first | rfl | (go_simp; done))); (focus (intro w' hw'; skip; go_simp; first | done | rfl | exact ⟨rfl, rfl⟩)); (intro K hK; go_simp; refine hK _ ?_; clear hK K)) | (refine wpStl_no ?_ (fun K hK => ?_); (focus (first | rfl | (go_simp; done))); go_simp; refine hK _ ?_; clear hK K)))
  (show wpMid _ _ _ _ _ _ _; simp only [List.drop_succ_cons, List.drop_zero, List.take_succ_cons, List.take_zero, Nat.reduceSub])
  (refine wpMid_op ?_ (fun K hK => ?_); (focus (first | rfl | (go_simp; done))); go_simp)
  have hfx : Fr (One s) Wd.drew (((Wd.drew.setCell ⟨s, 5, none⟩ (.int .i64 k)).setCell ⟨s, 6, none⟩ (.int .i64 v)).setCell ⟨s, 7, none⟩ (.int .i64 n)) := (by repeat (first | with_reducible exact Fr.refl _ _ | (with_reducible refine Fr.set ?_ _ _ _ (One.self _)) | (with_reducible refine Fr.alloc ?_ _) | (with_reducible refine Fr.drew ?_)))
  refine hK _ _ ⟨(Fr.cells hfx g5 0 hg5 hgs).trans d0, (Fr.cells hfx g5 1 hg5 hgs).trans d1, (Fr.cells hfx g5 2 hg5 hgs).trans d2⟩ ?_
  clear hK K hfx
  (show wpList _ _ _ _ _ _; try simp only [List.drop_succ_cons, List.drop_zero])
  go_wp2
  ((try simp only [Exit.inBlock, Exit.then]); refine bodyPost_end (results_none rfl _ _ _) rfl ?_)
  have H5 := H4.out
  have hfz : Fr (One s) Wd ((((((Wd.setCell ⟨s, 5, none⟩ (.int .i64 k)).setCell ⟨s, 6, none⟩ (.int .i64 v)).setCell ⟨s, 7, none⟩ (.int .i64 n)).setCell ⟨s, 9, none⟩ (.int .i64 n)).setCell ⟨s, 3, none⟩ (Nx.body.v s)).setCell ⟨s, 3, none⟩ (Nx.message.v s)) := (by repeat (first | with_reducible exact Fr.refl _ _ | (with_reducible refine Fr.set ?_ _ _ _ (One.self _)) | (with_reducible refine Fr.alloc ?_ _) | (with_reducible refine Fr.drew ?_)))
  have H6 := H5.own (st' := (st.headed c).begun k v n) hfz ((blk_set (blk_set (blk_set (blk_set (blk_set (blk_set H5.blk 5 _) 6 _) 7 _) 9 _) 3 _) 3 _).trans (by simp [stCells, St.begun, St.headed, Nx.v, HKK.out])) rfl rfl rfl rfl rfl rfl
  exact StPost.after HG3.out HF3.out ⟨col3, fun _ _ => rfl, rfl, ⟨_, _, _, _, H6.ext (Fr.refl _ _).drew⟩, (Fr.trans HF4.out (hfz.mono fun b _ e => by unfold One at e; unfold Hot; rw [e, H3.out.cs]; omega)).drew⟩
set_option maxRecDepth 8000 in
set_option maxHeartbeats 8000000 in
theorem head_okB1 (H : IsSt w col s h t st) (hcm : st.came ≤ 4611686018427387904) (hl : st.head.length = 4) (h5c : 5 ≤ st.came) (hp : decide (0 < (st.headed c).hd.data.length) = true) {b0 : UInt8} (hb0 : st.head.head? = some b0) (bb : ((b0.toNat : Int) != 22) = false) {k v n : Nat} (hk : k = 22) (hn : n ≠ 0) (hres : hdOf (st.head ++ [c]) = .ok (k, v, n)) : Calls Tryz.prog 40 #[.pointer (some ⟨s, 0, none⟩), .int .u8 c.toNat] w (StPost col s h t ((st.headed c).begun k v n) w) := by
  obtain ⟨vh, vb, vr, ve, H⟩ := H
  obtain ⟨Ah, ch, rfl⟩ := H.head.isSl
  have e4 := H.c4
  have e2 := H.c2
  have ef := H.cf
  have hlt := H.lt
  have HX := Lib.hid H
  have hsy := src_u8 (w := w) (col := col) (v := .slice Ah st.head.length ch) c (fun b e => (H.head.1.block b e).2)
  have hto := H.head.togrow ((Fr.refl _ w).alloc (.cells #[.int .u8 c.toNat] 5)) (by omega)
  have HSY := Lib.hid hsy
  have HTO := Lib.hid hto
  clear H hsy hto
  have dl : decide ((st.head.length : Int) + 1 < 5) = false := by simp; omega
  have wf : IntKind.i64.wrap ((st.came : Int) - 5) = ((st.came - 5 : Nat) : Int) := by rw [IntWalk.i64_in _ (by omega)]; omega
  have kk : ((k : Int) == 22) = true := by rw [beq_iff_eq]; omega
  have nn : ((n : Int) == 0) = false := by rw [beq_eq_false_iff_ne]; omega
  have HKK := Lib.hid hk
  clear hk hn
  have HLN := Lib.hid hl
  clear hl
  go_enter Tryz.func40, Tryz.ntmps40
  go_wp2_with (at_builtin; refine wpList_append_rows (d := Rd.u8) (v := .slice Ah st.head.length ch) (xs := st.head) (ys := [c]) (n := st.head.length) (m := 1) (base := 0) rfl rfl app_u8 rfl HTO.out growok_not HSY.out rfl ?_ ?_ ?_)
  · first | omega | (have := HLN.out; omega)
  · exact Nat.zero_le _
  intro v' w2 hown hgr hblk
  have HS := Lib.hid (HX.out.head_set ((Fr.refl _ w).alloc (.cells #[.int .u8 c.toNat] 5)) hown (by simp) hgr (by simpa using hblk))
  have hb2 : w2.heap[s]? = _ := (Fr.trans (Ext.any ((Fr.refl _ w).alloc (.cells #[.int .u8 c.toNat] 5))) (Fr.of_grow hgr HX.out.head.2)).blk HX.out.blk (by rw [HX.out.cs]; omega)
  obtain ⟨A2, c2, rfl, _⟩ := hown.sl
  have r2 : w2.cell? ⟨s, 2, none⟩ = some (.int .i64 st.came) := (blk_cell hb2 2).trans rfl
  have r4 : w2.cell? ⟨s, 4, none⟩ = some (.slice Ah st.head.length ch) := (blk_cell hb2 4).trans rfl
  have rf : ∀ i, w2.frozen? ⟨s, i, none⟩ = false := fun i => blk_unfrozen hb2 i
  clear hb2 hown hgr hblk e4 e2 ef
  have HS2 : Hid (∃ col', Goes w col col' ∧ (∃ vb vr ve, IsStX (w2.setCell ⟨s, 4, none⟩ (.slice A2 (st.head.length + 1) c2)) col' s h t (st.headed c) (.slice A2 (st.head.length + 1) c2) vb vr ve) ∧ Fr (Hot col) w (w2.setCell ⟨s, 4, none⟩ (.slice A2 (st.head.length + 1) c2))) := Lib.hid (by
    obtain ⟨h1, h2, h3⟩ := HS.out
    exact ⟨_, h2, ⟨_, _, _, h1⟩, h3⟩)
  go_wp2_with (first | ((go_at_call 71; refine (HS2).mono ?_; rintro e)))
  obtain ⟨col3, hg3, ⟨vb', vr', ve', h3⟩, hf3⟩ := HS2.out
  have HG3 := Lib.hid hg3
  have H3 := Lib.hid h3
  have HF3 := Lib.hid hf3
  have h5 : st.head.length + 1 = 5 := by have := HLN.out; omega
  rw [h5] at H3 HF3
  rw [h5]
  have hsb : SlC Rd.u8 (w2.setCell ⟨s, 4, none⟩ (.slice A2 5 c2)) Any A2 5 c2 (st.head ++ [c]) := by
    obtain ⟨A0, c0, e, hs⟩ := H3.out.head.1.sl
    have e' : (st.headed c).head.length = 5 := by have := HLN.out; simp [St.headed]; omega
    rw [e'] at e hs
    injection e with e1 _ e2
    subst e1
    subst e2
    exact hs.any
  have HSB := Lib.hid hsb
  have HRH := Lib.hid (record_HeadOf (by have := HLN.out; simp; omega) hsb H3.out.env.lim)
  rw [hres] at HRH
  clear hg3 h3 hf3 HS2 HS HSY HTO hsb r2 r4 rf
  generalize hW : w2.setCell ⟨s, 4, none⟩ (.slice A2 5 c2) = W at *
  generalize st.came - 5 = fr at *
  have HPa : Hid (∀ W', Ext W W' → Calls Tryz.prog 42 #[.pointer (some ⟨h, 0, none⟩)] W' fun e w' => e = .returned (.bool true) ∧ w' = W') := Lib.hid fun W' hW => by
    have := hand_Partial W' (H3.out.hand.ext hW)
    rw [show decide (0 < (st.headed c).hd.data.length) = true from hp] at this
    exact this
  have q0 := H3.out.c0
  obtain ⟨g, o, rfl, _, e0⟩ := scalar_cell HSB.out (j := 0) (show (st.head ++ [c])[0]? = some b0 by
    cases hs : st.head with
    | nil => rw [hs] at hb0; simp at hb0
    | cons x r => rw [hs] at hb0; simpa using hb0)
  have hgl : g < W.heap.size := by
    obtain ⟨cs, ⟨b1, o1, arr, T, fr, hA, _, hb1, _⟩, _⟩ := HSB.out.get (j := 0) (x := b0) (show (st.head ++ [c])[0]? = some b0 by
      cases hs : st.head with
      | nil => rw [hs] at hb0; simp at hb0
      | cons x r => rw [hs] at hb0; simpa using hb0)
    injection hA with hA
    injection hA with hA
    subst hA
    exact blk_lt hb1
  rw [Nat.add_zero] at e0
  have HB0 := Lib.hid hb0
  clear hb0
  have q2 : W.cell? ⟨s, 2, none⟩ = some (.int .i64 st.came) := H3.out.c2
  have q4 := H3.out.c4
  have qf := H3.out.cf
  have qlt := H3.out.lt
  (go_at_call 71; refine (HRH.out).mono ?_; rintro e w1 ⟨rfl, hx1⟩; have hc1 := Ext.cells hx1; have hf1 := Ext.frozens hx1; have hz1 := Fr.size hx1; try simp [go_sem] at hz1; try (have hzl := Nat.lt_of_succ_le hz1; try (have hzm := Nat.lt_of_succ_lt hzl)))
  have hq1 : s < w1.heap.size := by omega
  have hg1 : g < w1.heap.size := by omega
  go_wp2_with (first | ((go_at_call 42; refine (HPa.out _ ((by repeat (first | with_reducible assumption | with_reducible exact Fr.refl _ _ | (with_reducible refine Fr.alloc ?_ _) | (with_reducible refine Fr.drew ?_) | (with_reducible refine Fr.drewN ?_ _) | (with_reducible refine Fr.setNew ?_ _ _ _ (by first | with_reducible exact Nat.le_refl _ | omega | (simp; omega))))))).mono ?_; rintro e w8 ⟨rfl, rfl⟩)))
  have H4 := Lib.hid (((H3.out.ext hx1).nohead).ext ((Fr.refl _ (w1.setCell ⟨s, 4, none⟩ (.slice none 0 0))).alloc (.cells #[.int .i64 k, .int .i64 v, .int .i64 n] 90)))
  have HF4 : Hid (Fr (Hot col3) W ((w1.setCell ⟨s, 4, none⟩ (.slice none 0 0)).alloc (.cells #[.int .i64 k, .int .i64 v, .int .i64 n] 90))) := Lib.hid (Fr.trans (Ext.any hx1) (Fr.alloc (Fr.set (Fr.refl _ _) _ _ _ (by unfold Hot; rw [H3.out.cs]; omega)) _))
  have hb5 : ((w1.setCell ⟨s, 4, none⟩ (.slice none 0 0)).alloc (.cells #[.int .i64 k, .int .i64 v, .int .i64 n] 90)).heap[w1.heap.size]? = some (.cells #[.int .i64 k, .int .i64 v, .int .i64 n] 90 (0, 0)) := blk_new' _ _ _ (by simp [World.setCell])
  generalize hWd : (w1.setCell ⟨s, 4, none⟩ (.slice none 0 0)).alloc (.cells #[.int .i64 k, .int .i64 v, .int .i64 n] 90) = Wd at *
  have d0 : Wd.cell? ⟨w1.heap.size, 0, none⟩ = some (.int .i64 k) := (blk_cell hb5 0).trans rfl
  have d1 : Wd.cell? ⟨w1.heap.size, 1, none⟩ = some (.int .i64 v) := (blk_cell hb5 1).trans rfl
  have d2 : Wd.cell? ⟨w1.heap.size, 2, none⟩ = some (.int .i64 n) := (blk_cell hb5 2).trans rfl
  have hg5 : w1.heap.size < Wd.heap.size := blk_lt hb5
  generalize w1.heap.size = g5 at *
  have hsg : ¬ s = g5 := by omega
  have hgs : ¬ g5 = s := by omega
  have p3 := H4.out.c3
  have p5 := H4.out.c5
  have p6 := H4.out.c6
  have p7 := H4.out.c7
  have p9 := H4.out.c9
  have pf := H4.out.cf
  have plt := H4.out.lt
  clear q2 q4 qf qlt hx1 hc1 hf1 hz1 hq1 hW hWd hb5
  refine wp_region_mix _ 7 8 (by kernel_rfl) (by kernel_rfl) (fun w'' => w''.cell? ⟨g5, 0, none⟩ = some (.int .i64 k) ∧ w''.cell? ⟨g5, 1, none⟩ = some (.int .i64 v) ∧ w''.cell? ⟨g5, 2, none⟩ = some (.int .i64 n)) ?_ ?_
  · exact ⟨d0, d1, d2⟩
  simp only [List.take_succ_cons, List.take_zero]
  (repeat (first | (apply wpStl_op; (focus (first | rfl | (go_simp; done))); (focus (intro w' hw'; skip; go_simp; first | done | rfl | exact ⟨rfl, rfl⟩)); (intro K hK; go_simp; refine hK _ ?_; clear hK K)) | (refine wpStl_no ?_ (fun K hK => ?_); (focus (first | rfl | (go_simp; done))); go_simp; refine hK _ ?_; clear hK K)))
  (show wpMid _ _ _ _ _ _ _; simp only [List.drop_succ_cons, List.drop_zero, List.take_succ_cons, List.take_zero, Nat.reduceSub])
  (refine wpMid_op ?_ (fun K hK => ?_); (focus (first | rfl | (go_simp; done))); go_simp)
  have hfx : Fr (One s) Wd.drew (((Wd.drew.setCell ⟨s, 5, none⟩ (.int .i64 k)).setCell ⟨s, 6, none⟩ (.int .i64 v)).setCell ⟨s, 7, none⟩ (.int .i64 n)) := (by repeat (first | with_reducible exact Fr.refl _ _ | (with_reducible refine Fr.set ?_ _ _ _ (One.self _)) | (with_reducible refine Fr.alloc ?_ _) | (with_reducible refine Fr.drew ?_)))
  refine hK _ _ ⟨(Fr.cells hfx g5 0 hg5 hgs).trans d0, (Fr.cells hfx g5 1 hg5 hgs).trans d1, (Fr.cells hfx g5 2 hg5 hgs).trans d2⟩ ?_
  clear hK K hfx
  (show wpList _ _ _ _ _ _; try simp only [List.drop_succ_cons, List.drop_zero])
  go_wp2
  ((try simp only [Exit.inBlock, Exit.then]); refine bodyPost_end (results_none rfl _ _ _) rfl ?_)
  have H5 := H4.out
  have hfz : Fr (One s) Wd ((((((Wd.setCell ⟨s, 5, none⟩ (.int .i64 k)).setCell ⟨s, 6, none⟩ (.int .i64 v)).setCell ⟨s, 7, none⟩ (.int .i64 n)).setCell ⟨s, 9, none⟩ (.int .i64 n)).setCell ⟨s, 3, none⟩ (Nx.body.v s)).setCell ⟨s, 3, none⟩ (Nx.message.v s)) := (by repeat (first | with_reducible exact Fr.refl _ _ | (with_reducible refine Fr.set ?_ _ _ _ (One.self _)) | (with_reducible refine Fr.alloc ?_ _) | (with_reducible refine Fr.drew ?_)))
  have H6 := H5.own (st' := (st.headed c).begun k v n) hfz ((blk_set (blk_set (blk_set (blk_set (blk_set (blk_set H5.blk 5 _) 6 _) 7 _) 9 _) 3 _) 3 _).trans (by simp [stCells, St.begun, St.headed, Nx.v, HKK.out])) rfl rfl rfl rfl rfl rfl
  exact StPost.after HG3.out HF3.out ⟨col3, fun _ _ => rfl, rfl, ⟨_, _, _, _, H6.ext (Fr.refl _ _).drew⟩, (Fr.trans HF4.out (hfz.mono fun b _ e => by unfold One at e; unfold Hot; rw [e, H3.out.cs]; omega)).drew⟩
set_option maxRecDepth 8000 in
set_option maxHeartbeats 8000000 in
theorem head_okA2 (H : IsSt w col s h t st) (hcm : st.came ≤ 4611686018427387904) (hl : st.head.length = 4) (h5c : 5 ≤ st.came) (hp : decide (0 < (st.headed c).hd.data.length) = false) {k v n : Nat} (hk : k ≠ 22) (hn : n ≠ 0) (hres : hdOf (st.head ++ [c]) = .ok (k, v, n)) : Calls Tryz.prog 40 #[.pointer (some ⟨s, 0, none⟩), .int .u8 c.toNat] w (StPost col s h t ((st.headed c).begun k v n) w) := by
  obtain ⟨vh, vb, vr, ve, H⟩ := H
  obtain ⟨Ah, ch, rfl⟩ := H.head.isSl
  have e4 := H.c4
  have e2 := H.c2
  have ef := H.cf
  have hlt := H.lt
  have HX := Lib.hid H
  have hsy := src_u8 (w := w) (col := col) (v := .slice Ah st.head.length ch) c (fun b e => (H.head.1.block b e).2)
  have hto := H.head.togrow ((Fr.refl _ w).alloc (.cells #[.int .u8 c.toNat] 5)) (by omega)
  have HSY := Lib.hid hsy
  have HTO := Lib.hid hto
  clear H hsy hto
  have dl : decide ((st.head.length : Int) + 1 < 5) = false := by simp; omega
  have wf : IntKind.i64.wrap ((st.came : Int) - 5) = ((st.came - 5 : Nat) : Int) := by rw [IntWalk.i64_in _ (by omega)]; omega
  have kk : ((k : Int) == 22) = false := by rw [beq_eq_false_iff_ne]; omega
  have nn : ((n : Int) == 0) = false := by rw [beq_eq_false_iff_ne]; omega
  have HKK := Lib.hid hk
  clear hk hn
  have HLN := Lib.hid hl
  clear hl
  go_enter Tryz.func40, Tryz.ntmps40
  go_wp2_with (at_builtin; refine wpList_append_rows (d := Rd.u8) (v := .slice Ah st.head.length ch) (xs := st.head) (ys := [c]) (n := st.head.length) (m := 1) (base := 0) rfl rfl app_u8 rfl HTO.out growok_not HSY.out rfl ?_ ?_ ?_)
  · first | omega | (have := HLN.out; omega)
  · exact Nat.zero_le _
  intro v' w2 hown hgr hblk
  have HS := Lib.hid (HX.out.head_set ((Fr.refl _ w).alloc (.cells #[.int .u8 c.toNat] 5)) hown (by simp) hgr (by simpa using hblk))
  have hb2 : w2.heap[s]? = _ := (Fr.trans (Ext.any ((Fr.refl _ w).alloc (.cells #[.int .u8 c.toNat] 5))) (Fr.of_grow hgr HX.out.head.2)).blk HX.out.blk (by rw [HX.out.cs]; omega)
  obtain ⟨A2, c2, rfl, _⟩ := hown.sl
  have r2 : w2.cell? ⟨s, 2, none⟩ = some (.int .i64 st.came) := (blk_cell hb2 2).trans rfl
  have r4 : w2.cell? ⟨s, 4, none⟩ = some (.slice Ah st.head.length ch) := (blk_cell hb2 4).trans rfl
  have rf : ∀ i, w2.frozen? ⟨s, i, none⟩ = false := fun i => blk_unfrozen hb2 i
  clear hb2 hown hgr hblk e4 e2 ef
  have HS2 : Hid (∃ col', Goes w col col' ∧ (∃ vb vr ve, IsStX (w2.setCell ⟨s, 4, none⟩ (.slice A2 (st.head.length + 1) c2)) col' s h t (st.headed c) (.slice A2 (st.head.length + 1) c2) vb vr ve) ∧ Fr (Hot col) w (w2.setCell ⟨s, 4, none⟩ (.slice A2 (st.head.length + 1) c2))) := Lib.hid (by
    obtain ⟨h1, h2, h3⟩ := HS.out
    exact ⟨_, h2, ⟨_, _, _, h1⟩, h3⟩)
  go_wp2_with (first | ((go_at_call 71; refine (HS2).mono ?_; rintro e)))
  obtain ⟨col3, hg3, ⟨vb', vr', ve', h3⟩, hf3⟩ := HS2.out
  have HG3 := Lib.hid hg3
  have H3 := Lib.hid h3
  have HF3 := Lib.hid hf3
  have h5 : st.head.length + 1 = 5 := by have := HLN.out; omega
  rw [h5] at H3 HF3
  rw [h5]
  have hsb : SlC Rd.u8 (w2.setCell ⟨s, 4, none⟩ (.slice A2 5 c2)) Any A2 5 c2 (st.head ++ [c]) := by
    obtain ⟨A0, c0, e, hs⟩ := H3.out.head.1.sl
    have e' : (st.headed c).head.length = 5 := by have := HLN.out; simp [St.headed]; omega
    rw [e'] at e hs
    injection e with e1 _ e2
    subst e1
    subst e2
    exact hs.any
  have HSB := Lib.hid hsb
  have HRH := Lib.hid (record_HeadOf (by have := HLN.out; simp; omega) hsb H3.out.env.lim)
  rw [hres] at HRH
  clear hg3 h3 hf3 HS2 HS HSY HTO hsb r2 r4 rf
  generalize hW : w2.setCell ⟨s, 4, none⟩ (.slice A2 5 c2) = W at *
  generalize st.came - 5 = fr at *
  have HPa : Hid (∀ W', Ext W W' → Calls Tryz.prog 42 #[.pointer (some ⟨h, 0, none⟩)] W' fun e w' => e = .returned (.bool false) ∧ w' = W') := Lib.hid fun W' hW => by
    have := hand_Partial W' (H3.out.hand.ext hW)
    rw [show decide (0 < (st.headed c).hd.data.length) = false from hp] at this
    exact this
  have q0 := H3.out.c0
  have q2 : W.cell? ⟨s, 2, none⟩ = some (.int .i64 st.came) := H3.out.c2
  have q4 := H3.out.c4
  have qf := H3.out.cf
  have qlt := H3.out.lt
  (go_at_call 71; refine (HRH.out).mono ?_; rintro e w1 ⟨rfl, hx1⟩; have hc1 := Ext.cells hx1; have hf1 := Ext.frozens hx1; have hz1 := Fr.size hx1; try simp [go_sem] at hz1; try (have hzl := Nat.lt_of_succ_le hz1; try (have hzm := Nat.lt_of_succ_lt hzl)))
  have hq1 : s < w1.heap.size := by omega
  go_wp2_with (first | ((go_at_call 42; refine (HPa.out _ ((by repeat (first | with_reducible assumption | with_reducible exact Fr.refl _ _ | (with_reducible refine Fr.alloc ?_ _) | (with_reducible refine Fr.drew ?_) | (with_reducible refine Fr.drewN ?_ _) | (with_reducible refine Fr.setNew ?_ _ _ _ (by first | with_reducible exact Nat.le_refl _ | omega | (simp; omega))))))).mono ?_; rintro e w8 ⟨rfl, rfl⟩)))
  have H4 := Lib.hid (((H3.out.ext hx1).nohead).ext ((Fr.refl _ (w1.setCell ⟨s, 4, none⟩ (.slice none 0 0))).alloc (.cells #[.int .i64 k, .int .i64 v, .int .i64 n] 90)))
  have HF4 : Hid (Fr (Hot col3) W ((w1.setCell ⟨s, 4, none⟩ (.slice none 0 0)).alloc (.cells #[.int .i64 k, .int .i64 v, .int .i64 n] 90))) := Lib.hid (Fr.trans (Ext.any hx1) (Fr.alloc (Fr.set (Fr.refl _ _) _ _ _ (by unfold Hot; rw [H3.out.cs]; omega)) _))
  have hb5 : ((w1.setCell ⟨s, 4, none⟩ (.slice none 0 0)).alloc (.cells #[.int .i64 k, .int .i64 v, .int .i64 n] 90)).heap[w1.heap.size]? = some (.cells #[.int .i64 k, .int .i64 v, .int .i64 n] 90 (0, 0)) := blk_new' _ _ _ (by simp [World.setCell])
  generalize hWd : (w1.setCell ⟨s, 4, none⟩ (.slice none 0 0)).alloc (.cells #[.int .i64 k, .int .i64 v, .int .i64 n] 90) = Wd at *
  have d0 : Wd.cell? ⟨w1.heap.size, 0, none⟩ = some (.int .i64 k) := (blk_cell hb5 0).trans rfl
  have d1 : Wd.cell? ⟨w1.heap.size, 1, none⟩ = some (.int .i64 v) := (blk_cell hb5 1).trans rfl
  have d2 : Wd.cell? ⟨w1.heap.size, 2, none⟩ = some (.int .i64 n) := (blk_cell hb5 2).trans rfl
  have hg5 : w1.heap.size < Wd.heap.size := blk_lt hb5
  generalize w1.heap.size = g5 at *
  have hsg : ¬ s = g5 := by omega
  have hgs : ¬ g5 = s := by omega
  have p3 := H4.out.c3
  have p5 := H4.out.c5
  have p6 := H4.out.c6
  have p7 := H4.out.c7
  have p9 := H4.out.c9
  have pf := H4.out.cf
  have plt := H4.out.lt
  clear q2 q4 qf qlt hx1 hc1 hf1 hz1 hq1 hW hWd hb5
  refine wp_region_mix _ 7 8 (by kernel_rfl) (by kernel_rfl) (fun w'' => w''.cell? ⟨g5, 0, none⟩ = some (.int .i64 k) ∧ w''.cell? ⟨g5, 1, none⟩ = some (.int .i64 v) ∧ w''.cell? ⟨g5, 2, none⟩ = some (.int .i64 n)) ?_ ?_
  · exact ⟨d0, d1, d2⟩
  simp only [List.take_succ_cons, List.take_zero]
  (repeat (first | (apply wpStl_op; (focus (first | rfl | (go_simp; done))); (focus (intro w' hw'; skip; go_simp; first | done | rfl | exact ⟨rfl, rfl⟩)); (intro K hK; go_simp; refine hK _ ?_; clear hK K)) | (refine wpStl_no ?_ (fun K hK => ?_); (focus (first | rfl | (go_simp; done))); go_simp; refine hK _ ?_; clear hK K)))
  (show wpMid _ _ _ _ _ _ _; simp only [List.drop_succ_cons, List.drop_zero, List.take_succ_cons, List.take_zero, Nat.reduceSub])
  (refine wpMid_op ?_ (fun K hK => ?_); (focus (first | rfl | (go_simp; done))); go_simp)
  have hfx : Fr (One s) Wd.drew (((Wd.drew.setCell ⟨s, 5, none⟩ (.int .i64 k)).setCell ⟨s, 6, none⟩ (.int .i64 v)).setCell ⟨s, 7, none⟩ (.int .i64 n)) := (by repeat (first | with_reducible exact Fr.refl _ _ | (with_reducible refine Fr.set ?_ _ _ _ (One.self _)) | (with_reducible refine Fr.alloc ?_ _) | (with_reducible refine Fr.drew ?_)))
  refine hK _ _ ⟨(Fr.cells hfx g5 0 hg5 hgs).trans d0, (Fr.cells hfx g5 1 hg5 hgs).trans d1, (Fr.cells hfx g5 2 hg5 hgs).trans d2⟩ ?_
  clear hK K hfx
  (show wpList _ _ _ _ _ _; try simp only [List.drop_succ_cons, List.drop_zero])
  go_wp2
  ((try simp only [Exit.inBlock, Exit.then]); refine bodyPost_end (results_none rfl _ _ _) rfl ?_)
  have H5 := H4.out
  have hfz : Fr (One s) Wd (((((Wd.setCell ⟨s, 5, none⟩ (.int .i64 k)).setCell ⟨s, 6, none⟩ (.int .i64 v)).setCell ⟨s, 7, none⟩ (.int .i64 n)).setCell ⟨s, 9, none⟩ (.int .i64 n)).setCell ⟨s, 3, none⟩ (Nx.body.v s)) := (by repeat (first | with_reducible exact Fr.refl _ _ | (with_reducible refine Fr.set ?_ _ _ _ (One.self _)) | (with_reducible refine Fr.alloc ?_ _) | (with_reducible refine Fr.drew ?_)))
  have H6 := H5.own (st' := (st.headed c).begun k v n) hfz ((blk_set (blk_set (blk_set (blk_set (blk_set H5.blk 5 _) 6 _) 7 _) 9 _) 3 _).trans (by simp [stCells, St.begun, St.headed, Nx.v, HKK.out])) rfl rfl rfl rfl rfl rfl
  exact StPost.after HG3.out HF3.out ⟨col3, fun _ _ => rfl, rfl, ⟨_, _, _, _, H6.ext (Fr.refl _ _).drew⟩, (Fr.trans HF4.out (hfz.mono fun b _ e => by unfold One at e; unfold Hot; rw [e, H3.out.cs]; omega)).drew⟩
set_option maxRecDepth 8000 in
set_option maxHeartbeats 8000000 in
theorem head_ok0 (H : IsSt w col s h t st) (hcm : st.came ≤ 4611686018427387904) (hl : st.head.length = 4) (h5c : 5 ≤ st.came) (hp : decide (0 < (st.headed c).hd.data.length) = false) {k v n lo hi : Nat} (hk : k ≠ 22) (hn : n = 0) (hlim : limits k = some (lo, hi)) (hbody : st.body = []) (hnr : st.records.length ≤ 1099511627776) (hne : st.events.length ≤ 1099511627776) (hres : hdOf (st.head ++ [c]) = .ok (k, v, n)) : Calls Tryz.prog 40 #[.pointer (some ⟨s, 0, none⟩), .int .u8 c.toNat] w (StPost col s h t (((st.headed c).begun k v n).whole) w) := by
  obtain ⟨vh, vb, vr, ve, H⟩ := H
  obtain ⟨Ah, ch, rfl⟩ := H.head.isSl
  have e4 := H.c4
  have e2 := H.c2
  have ef := H.cf
  have hlt := H.lt
  have HX := Lib.hid H
  have hsy := src_u8 (w := w) (col := col) (v := .slice Ah st.head.length ch) c (fun b e => (H.head.1.block b e).2)
  have hto := H.head.togrow ((Fr.refl _ w).alloc (.cells #[.int .u8 c.toNat] 5)) (by omega)
  have HSY := Lib.hid hsy
  have HTO := Lib.hid hto
  clear H hsy hto
  have dl : decide ((st.head.length : Int) + 1 < 5) = false := by simp; omega
  have wf : IntKind.i64.wrap ((st.came : Int) - 5) = ((st.came - 5 : Nat) : Int) := by rw [IntWalk.i64_in _ (by omega)]; omega
  have kk : ((k : Int) == 22) = false := by rw [beq_eq_false_iff_ne]; omega
  have nn : ((n : Int) == 0) = true := by rw [beq_iff_eq]; omega
  have HKK := Lib.hid hk
  have HLM : Hid (limits ((st.headed c).begun k v n).now.kind = some (lo, hi)) := Lib.hid hlim
  have HLB : Hid (((st.headed c).begun k v n).now.length = ((st.headed c).begun k v n).body.length) := Lib.hid (by simp [St.begun, St.headed, hbody, hn])
  have HLC : Hid (((st.headed c).begun k v n).body.length ≤ ((st.headed c).begun k v n).came) := Lib.hid (by simp [St.begun, St.headed, hbody])
  have HLD : Hid (((st.headed c).begun k v n).body.length ≤ 1000000000) := Lib.hid (by simp [St.begun, St.headed, hbody])
  clear hk hn hlim hbody
  have HLN := Lib.hid hl
  clear hl
  go_enter Tryz.func40, Tryz.ntmps40
  go_wp2_with (at_builtin; refine wpList_append_rows (d := Rd.u8) (v := .slice Ah st.head.length ch) (xs := st.head) (ys := [c]) (n := st.head.length) (m := 1) (base := 0) rfl rfl app_u8 rfl HTO.out growok_not HSY.out rfl ?_ ?_ ?_)
  · first | omega | (have := HLN.out; omega)
  · exact Nat.zero_le _
  intro v' w2 hown hgr hblk
  have HS := Lib.hid (HX.out.head_set ((Fr.refl _ w).alloc (.cells #[.int .u8 c.toNat] 5)) hown (by simp) hgr (by simpa using hblk))
  have hb2 : w2.heap[s]? = _ := (Fr.trans (Ext.any ((Fr.refl _ w).alloc (.cells #[.int .u8 c.toNat] 5))) (Fr.of_grow hgr HX.out.head.2)).blk HX.out.blk (by rw [HX.out.cs]; omega)
  obtain ⟨A2, c2, rfl, _⟩ := hown.sl
  have r2 : w2.cell? ⟨s, 2, none⟩ = some (.int .i64 st.came) := (blk_cell hb2 2).trans rfl
  have r4 : w2.cell? ⟨s, 4, none⟩ = some (.slice Ah st.head.length ch) := (blk_cell hb2 4).trans rfl
  have rf : ∀ i, w2.frozen? ⟨s, i, none⟩ = false := fun i => blk_unfrozen hb2 i
  clear hb2 hown hgr hblk e4 e2 ef
  have HS2 : Hid (∃ col', Goes w col col' ∧ (∃ vb vr ve, IsStX (w2.setCell ⟨s, 4, none⟩ (.slice A2 (st.head.length + 1) c2)) col' s h t (st.headed c) (.slice A2 (st.head.length + 1) c2) vb vr ve) ∧ Fr (Hot col) w (w2.setCell ⟨s, 4, none⟩ (.slice A2 (st.head.length + 1) c2))) := Lib.hid (by
    obtain ⟨h1, h2, h3⟩ := HS.out
    exact ⟨_, h2, ⟨_, _, _, h1⟩, h3⟩)
  go_wp2_with (first | ((go_at_call 71; refine (HS2).mono ?_; rintro e)))
  obtain ⟨col3, hg3, ⟨vb', vr', ve', h3⟩, hf3⟩ := HS2.out
  have HG3 := Lib.hid hg3
  have H3 := Lib.hid h3
  have HF3 := Lib.hid hf3
  have h5 : st.head.length + 1 = 5 := by have := HLN.out; omega
  rw [h5] at H3 HF3
  rw [h5]
  have hsb : SlC Rd.u8 (w2.setCell ⟨s, 4, none⟩ (.slice A2 5 c2)) Any A2 5 c2 (st.head ++ [c]) := by
    obtain ⟨A0, c0, e, hs⟩ := H3.out.head.1.sl
    have e' : (st.headed c).head.length = 5 := by have := HLN.out; simp [St.headed]; omega
    rw [e'] at e hs
    injection e with e1 _ e2
    subst e1
    subst e2
    exact hs.any
  have HSB := Lib.hid hsb
  have HRH := Lib.hid (record_HeadOf (by have := HLN.out; simp; omega) hsb H3.out.env.lim)
  rw [hres] at HRH
  clear hg3 h3 hf3 HS2 HS HSY HTO hsb r2 r4 rf
  generalize hW : w2.setCell ⟨s, 4, none⟩ (.slice A2 5 c2) = W at *
  generalize st.came - 5 = fr at *
  have HPa : Hid (∀ W', Ext W W' → Calls Tryz.prog 42 #[.pointer (some ⟨h, 0, none⟩)] W' fun e w' => e = .returned (.bool false) ∧ w' = W') := Lib.hid fun W' hW => by
    have := hand_Partial W' (H3.out.hand.ext hW)
    rw [show decide (0 < (st.headed c).hd.data.length) = false from hp] at this
    exact this
  have q0 := H3.out.c0
  have q2 : W.cell? ⟨s, 2, none⟩ = some (.int .i64 st.came) := H3.out.c2
  have q4 := H3.out.c4
  have qf := H3.out.cf
  have qlt := H3.out.lt
  (go_at_call 71; refine (HRH.out).mono ?_; rintro e w1 ⟨rfl, hx1⟩; have hc1 := Ext.cells hx1; have hf1 := Ext.frozens hx1; have hz1 := Fr.size hx1; try simp [go_sem] at hz1; try (have hzl := Nat.lt_of_succ_le hz1; try (have hzm := Nat.lt_of_succ_lt hzl)))
  have hq1 : s < w1.heap.size := by omega
  go_wp2_with (first | ((go_at_call 42; refine (HPa.out _ ((by repeat (first | with_reducible assumption | with_reducible exact Fr.refl _ _ | (with_reducible refine Fr.alloc ?_ _) | (with_reducible refine Fr.drew ?_) | (with_reducible refine Fr.drewN ?_ _) | (with_reducible refine Fr.setNew ?_ _ _ _ (by first | with_reducible exact Nat.le_refl _ | omega | (simp; omega))))))).mono ?_; rintro e w8 ⟨rfl, rfl⟩)))
  have H4 := Lib.hid (((H3.out.ext hx1).nohead).ext ((Fr.refl _ (w1.setCell ⟨s, 4, none⟩ (.slice none 0 0))).alloc (.cells #[.int .i64 k, .int .i64 v, .int .i64 n] 90)))
  have HF4 : Hid (Fr (Hot col3) W ((w1.setCell ⟨s, 4, none⟩ (.slice none 0 0)).alloc (.cells #[.int .i64 k, .int .i64 v, .int .i64 n] 90))) := Lib.hid (Fr.trans (Ext.any hx1) (Fr.alloc (Fr.set (Fr.refl _ _) _ _ _ (by unfold Hot; rw [H3.out.cs]; omega)) _))
  have hb5 : ((w1.setCell ⟨s, 4, none⟩ (.slice none 0 0)).alloc (.cells #[.int .i64 k, .int .i64 v, .int .i64 n] 90)).heap[w1.heap.size]? = some (.cells #[.int .i64 k, .int .i64 v, .int .i64 n] 90 (0, 0)) := blk_new' _ _ _ (by simp [World.setCell])
  generalize hWd : (w1.setCell ⟨s, 4, none⟩ (.slice none 0 0)).alloc (.cells #[.int .i64 k, .int .i64 v, .int .i64 n] 90) = Wd at *
  have d0 : Wd.cell? ⟨w1.heap.size, 0, none⟩ = some (.int .i64 k) := (blk_cell hb5 0).trans rfl
  have d1 : Wd.cell? ⟨w1.heap.size, 1, none⟩ = some (.int .i64 v) := (blk_cell hb5 1).trans rfl
  have d2 : Wd.cell? ⟨w1.heap.size, 2, none⟩ = some (.int .i64 n) := (blk_cell hb5 2).trans rfl
  have hg5 : w1.heap.size < Wd.heap.size := blk_lt hb5
  generalize w1.heap.size = g5 at *
  have hsg : ¬ s = g5 := by omega
  have hgs : ¬ g5 = s := by omega
  have p3 := H4.out.c3
  have p5 := H4.out.c5
  have p6 := H4.out.c6
  have p7 := H4.out.c7
  have p9 := H4.out.c9
  have pf := H4.out.cf
  have plt := H4.out.lt
  clear q2 q4 qf qlt hx1 hc1 hf1 hz1 hq1 hW hWd hb5
  refine wp_region_mix _ 7 8 (by kernel_rfl) (by kernel_rfl) (fun w'' => w''.cell? ⟨g5, 0, none⟩ = some (.int .i64 k) ∧ w''.cell? ⟨g5, 1, none⟩ = some (.int .i64 v) ∧ w''.cell? ⟨g5, 2, none⟩ = some (.int .i64 n)) ?_ ?_
  · exact ⟨d0, d1, d2⟩
  simp only [List.take_succ_cons, List.take_zero]
  (repeat (first | (apply wpStl_op; (focus (first | rfl | (go_simp; done))); (focus (intro w' hw'; skip; go_simp; first | done | rfl | exact ⟨rfl, rfl⟩)); (intro K hK; go_simp; refine hK _ ?_; clear hK K)) | (refine wpStl_no ?_ (fun K hK => ?_); (focus (first | rfl | (go_simp; done))); go_simp; refine hK _ ?_; clear hK K)))
  (show wpMid _ _ _ _ _ _ _; simp only [List.drop_succ_cons, List.drop_zero, List.take_succ_cons, List.take_zero, Nat.reduceSub])
  (refine wpMid_op ?_ (fun K hK => ?_); (focus (first | rfl | (go_simp; done))); go_simp)
  have hfx : Fr (One s) Wd.drew (((Wd.drew.setCell ⟨s, 5, none⟩ (.int .i64 k)).setCell ⟨s, 6, none⟩ (.int .i64 v)).setCell ⟨s, 7, none⟩ (.int .i64 n)) := (by repeat (first | with_reducible exact Fr.refl _ _ | (with_reducible refine Fr.set ?_ _ _ _ (One.self _)) | (with_reducible refine Fr.alloc ?_ _) | (with_reducible refine Fr.drew ?_)))
  refine hK _ _ ⟨(Fr.cells hfx g5 0 hg5 hgs).trans d0, (Fr.cells hfx g5 1 hg5 hgs).trans d1, (Fr.cells hfx g5 2 hg5 hgs).trans d2⟩ ?_
  clear hK K hfx
  have H5 := H4.out
  have hfz : Fr (One s) Wd (((((Wd.setCell ⟨s, 5, none⟩ (.int .i64 k)).setCell ⟨s, 6, none⟩ (.int .i64 v)).setCell ⟨s, 7, none⟩ (.int .i64 n)).setCell ⟨s, 9, none⟩ (.int .i64 n)).setCell ⟨s, 3, none⟩ (Nx.body.v s)) := (by repeat (first | with_reducible exact Fr.refl _ _ | (with_reducible refine Fr.set ?_ _ _ _ (One.self _)) | (with_reducible refine Fr.alloc ?_ _) | (with_reducible refine Fr.drew ?_)))
  have H6 := Lib.hid (H5.own (st' := (st.headed c).begun k v n) hfz ((blk_set (blk_set (blk_set (blk_set (blk_set H5.blk 5 _) 6 _) 7 _) 9 _) 3 _).trans (by simp [stCells, St.begun, St.headed, Nx.v, HKK.out])) rfl rfl rfl rfl rfl rfl)
  have HWh := Lib.hid ((stream_whole ⟨_, _, _, _, H6.out.ext (Fr.refl _ _).drew⟩ HLM.out HLB.out HLC.out hcm HLD.out hnr hne).mono fun e w' hp => hp.after (fun _ _ => rfl) (Fr.trans HF4.out (hfz.mono fun b _ e => by unfold One at e; unfold Hot; rw [e, H3.out.cs]; omega)).drew)
  clear hfz H5 H6
  (show wpList _ _ _ _ _ _; try simp only [List.drop_succ_cons, List.drop_zero])
  go_wp2_with ((go_at_call 75; refine (HWh.out).mono ?_; rintro e w9 ⟨col9, hg9, rfl, hI9, hf9⟩))
  ((try simp only [Exit.inBlock, Exit.then]); refine bodyPost_end (results_none rfl _ _ _) rfl ?_)
  exact StPost.after HG3.out HF3.out ⟨col9, hg9, rfl, hI9, hf9⟩
end
end Go.Proofs.YtalbiepdkaldmaaGreatDoor
