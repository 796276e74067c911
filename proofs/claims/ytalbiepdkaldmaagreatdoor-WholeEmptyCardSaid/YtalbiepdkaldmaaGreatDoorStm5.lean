/- stream.inHead: a byte of a record's head. -/
import Derived.Test.YtalbiepdkaldmaaGreatDoorProg
import Derived.Test.YtalbiepdkaldmaaGreatDoorStm4
import Derived.Deep.QuietTactic
import Derived.BigQuiet
import Derived.Deep.LoopGhost
import Derived.Laws.EntriesVeiled
set_option linter.unusedVariables false
set_option linter.unusedSimpArgs false
namespace Go.Proofs.YtalbiepdkaldmaaGreatDoor
open Go.RowKit
def hdOf (b : Bytes) : Except (Nat × Nat) (Nat × Nat × Nat) := headOf (num (b.take 1)) (num ((b.drop 1).take 2)) (num ((b.drop 3).take 2))
theorem record_HeadOf {b : Bytes} {A : Option Addr} {m c : Nat} {w : World} (hl : b.length = 5) (hb : SlC Rd.u8 w Any A m c b) (hla : LaidLim w) : Calls Tryz.prog 71 #[.slice A m c] w (HeadPost (hdOf b) w) := by
  obtain ⟨k, v, n, l1, l3, l5, hh⟩ := rhead_of b (fun b => b < w.heap.size) hl
  unfold hdOf
  rw [hh.hk, hh.hv, hh.hn]
  exact record_Head A m c b (fun b => b < w.heap.size) w hh hl hb.lt (fun _ h => h) hla
def St.headed (st : St) (c : UInt8) : St := { st with head := st.head ++ [c] }
def St.mixed (st : St) : Prop := 0 < st.hd.data.length ∧ st.head.head? ≠ some 22
instance (st : St) : Decidable st.mixed := by unfold St.mixed; exact inferInstance
def St.begun (st : St) (k v n : Nat) : St := { st with head := [], now := ⟨k, v, n⟩, left := n, next := if k = 22 then .message else .body }
def St.inHead (st : St) (c : UInt8) : St :=
  if st.head.length + 1 < 5 then st.headed c else
  match hdOf (st.head ++ [c]) with
  | .error (a, e) => if a = 0 then (st.headed c).fail (st.came - 5) e else if (st.headed c).mixed then (st.headed c).fail (st.came - 5) 10 else (st.headed c).fail (st.came - 5 + a) e
  | .ok (k, v, n) => if (st.headed c).mixed then (st.headed c).fail (st.came - 5) 10 else if n = 0 then ((st.headed c).begun k v n).whole else (st.headed c).begun k v n
section
variable {w : World} {col : Nat → Nat} {s h t : Nat} {st : St} (c : UInt8)
set_option maxRecDepth 8000 in
set_option maxHeartbeats 8000000 in
theorem head_short (H : IsSt w col s h t st) (hcm : st.came ≤ 4611686018427387904) (hl : st.head.length + 1 < 5) : Calls Tryz.prog 40 #[.pointer (some ⟨s, 0, none⟩), .int .u8 c.toNat] w (StPost col s h t (st.headed c) w) := by
  obtain ⟨vh, vb, vr, ve, H⟩ := H
  obtain ⟨Ah, ch, rfl⟩ := H.head.isSl
  have e4 := H.c4
  have e2 := H.c2
  have ef := H.cf
  have hlt := H.lt
  have HX := Lib.hid H
  have hsy := src_u8 (w := w) (col := col) (v := .slice Ah st.head.length ch) c (fun b e => (H.head.1.block b e).2)
  have hto := H.head.togrow ((Fr.refl _ w).alloc (.cells #[.int .u8 c.toNat] 5)) (by omega)
  have HSY := Lib.hid hsy
  have HTO := Lib.hid hto
  clear H hsy hto
  have dl : decide ((st.head.length : Int) + 1 < 5) = true := by simp; omega
  go_enter Tryz.func40, Tryz.ntmps40
  go_wp2_with (at_builtin; refine wpList_append_rows (d := Rd.u8) (v := .slice Ah st.head.length ch) (xs := st.head) (ys := [c]) (n := st.head.length) (m := 1) (base := 0) rfl rfl app_u8 rfl HTO.out growok_not HSY.out rfl ?_ ?_ ?_)
  · first | omega | (have := HLN.out; omega)
  · exact Nat.zero_le _
  intro v' w2 hown hgr hblk
  have HS := Lib.hid (HX.out.head_set ((Fr.refl _ w).alloc (.cells #[.int .u8 c.toNat] 5)) hown (by simp) hgr (by simpa using hblk))
  have hb2 : w2.heap[s]? = _ := (Fr.trans (Ext.any ((Fr.refl _ w).alloc (.cells #[.int .u8 c.toNat] 5))) (Fr.of_grow hgr HX.out.head.2)).blk HX.out.blk (by rw [HX.out.cs]; omega)
  obtain ⟨A2, c2, rfl, _⟩ := hown.sl
  have r2 : w2.cell? ⟨s, 2, none⟩ = some (.int .i64 st.came) := (blk_cell hb2 2).trans rfl
  have r4 : w2.cell? ⟨s, 4, none⟩ = some (.slice Ah st.head.length ch) := (blk_cell hb2 4).trans rfl
  have rf : ∀ i, w2.frozen? ⟨s, i, none⟩ = false := fun i => blk_unfrozen hb2 i
  clear hb2 hown hgr hblk e4 e2 ef
  have HS2 : Hid (∃ col', Goes w col col' ∧ (∃ vb vr ve, IsStX (w2.setCell ⟨s, 4, none⟩ (.slice A2 (st.head.length + 1) c2)) col' s h t (st.headed c) (.slice A2 (st.head.length + 1) c2) vb vr ve) ∧ Fr (Hot col) w (w2.setCell ⟨s, 4, none⟩ (.slice A2 (st.head.length + 1) c2))) := Lib.hid (by
    obtain ⟨h1, h2, h3⟩ := HS.out
    exact ⟨_, h2, ⟨_, _, _, h1⟩, h3⟩)
  go_wp2
  ((try simp only [Exit.inBlock, Exit.then]); refine bodyPost_ret (results_none rfl _ _ _) rfl ?_)
  obtain ⟨col', h2, ⟨vb', vr', ve', h3⟩, h4⟩ := HS2.out
  exact ⟨col', h2, rfl, ⟨_, _, _, _, h3⟩, h4⟩
set_option maxRecDepth 8000 in
set_option maxHeartbeats 8000000 in
theorem head_err0 (H : IsSt w col s h t st) (hcm : st.came ≤ 4611686018427387904) (hl : st.head.length = 4) (h5c : 5 ≤ st.came) {e : Nat} (he : e ≠ 0) (hres : hdOf (st.head ++ [c]) = .error (0, e)) : Calls Tryz.prog 40 #[.pointer (some ⟨s, 0, none⟩), .int .u8 c.toNat] w (StPost col s h t ((st.headed c).fail (st.came - 5) e) w) := by
  obtain ⟨vh, vb, vr, ve, H⟩ := H
  obtain ⟨Ah, ch, rfl⟩ := H.head.isSl
  have e4 := H.c4
  have e2 := H.c2
  have ef := H.cf
  have hlt := H.lt
  have HX := Lib.hid H
  have hsy := src_u8 (w := w) (col := col) (v := .slice Ah st.head.length ch) c (fun b e => (H.head.1.block b e).2)
  have hto := H.head.togrow ((Fr.refl _ w).alloc (.cells #[.int .u8 c.toNat] 5)) (by omega)
  have HSY := Lib.hid hsy
  have HTO := Lib.hid hto
  clear H hsy hto
  have dl : decide ((st.head.length : Int) + 1 < 5) = false := by simp; omega
  have wf : IntKind.i64.wrap ((st.came : Int) - 5) = ((st.came - 5 : Nat) : Int) := by rw [IntWalk.i64_in _ (by omega)]; omega
  have ee : ((e : Int) != 0) = true := by rw [bne_iff_ne]; omega
  clear he
  have HLN := Lib.hid hl
  clear hl
  go_enter Tryz.func40, Tryz.ntmps40
  go_wp2_with (at_builtin; refine wpList_append_rows (d := Rd.u8) (v := .slice Ah st.head.length ch) (xs := st.head) (ys := [c]) (n := st.head.length) (m := 1) (base := 0) rfl rfl app_u8 rfl HTO.out growok_not HSY.out rfl ?_ ?_ ?_)
  · first | omega | (have := HLN.out; omega)
  · exact Nat.zero_le _
  intro v' w2 hown hgr hblk
  have HS := Lib.hid (HX.out.head_set ((Fr.refl _ w).alloc (.cells #[.int .u8 c.toNat] 5)) hown (by simp) hgr (by simpa using hblk))
  have hb2 : w2.heap[s]? = _ := (Fr.trans (Ext.any ((Fr.refl _ w).alloc (.cells #[.int .u8 c.toNat] 5))) (Fr.of_grow hgr HX.out.head.2)).blk HX.out.blk (by rw [HX.out.cs]; omega)
  obtain ⟨A2, c2, rfl, _⟩ := hown.sl
  have r2 : w2.cell? ⟨s, 2, none⟩ = some (.int .i64 st.came) := (blk_cell hb2 2).trans rfl
  have r4 : w2.cell? ⟨s, 4, none⟩ = some (.slice Ah st.head.length ch) := (blk_cell hb2 4).trans rfl
  have rf : ∀ i, w2.frozen? ⟨s, i, none⟩ = false := fun i => blk_unfrozen hb2 i
  clear hb2 hown hgr hblk e4 e2 ef
  have HS2 : Hid (∃ col', Goes w col col' ∧ (∃ vb vr ve, IsStX (w2.setCell ⟨s, 4, none⟩ (.slice A2 (st.head.length + 1) c2)) col' s h t (st.headed c) (.slice A2 (st.head.length + 1) c2) vb vr ve) ∧ Fr (Hot col) w (w2.setCell ⟨s, 4, none⟩ (.slice A2 (st.head.length + 1) c2))) := Lib.hid (by
    obtain ⟨h1, h2, h3⟩ := HS.out
    exact ⟨_, h2, ⟨_, _, _, h1⟩, h3⟩)
  go_wp2_with (first | ((go_at_call 71; refine (HS2).mono ?_; rintro e)))
  obtain ⟨col3, hg3, ⟨vb', vr', ve', h3⟩, hf3⟩ := HS2.out
  have HG3 := Lib.hid hg3
  have H3 := Lib.hid h3
  have HF3 := Lib.hid hf3
  have h5 : st.head.length + 1 = 5 := by have := HLN.out; omega
  rw [h5] at H3 HF3
  rw [h5]
  have hsb : SlC Rd.u8 (w2.setCell ⟨s, 4, none⟩ (.slice A2 5 c2)) Any A2 5 c2 (st.head ++ [c]) := by
    obtain ⟨A0, c0, e, hs⟩ := H3.out.head.1.sl
    have e' : (st.headed c).head.length = 5 := by have := HLN.out; simp [St.headed]; omega
    rw [e'] at e hs
    injection e with e1 _ e2
    subst e1
    subst e2
    exact hs.any
  have HSB := Lib.hid hsb
  have HRH := Lib.hid (record_HeadOf (by have := HLN.out; simp; omega) hsb H3.out.env.lim)
  rw [hres] at HRH
  clear hg3 h3 hf3 HS2 HS HSY HTO hsb r2 r4 rf
  generalize hW : w2.setCell ⟨s, 4, none⟩ (.slice A2 5 c2) = W at *
  have HFl : Hid (∀ W' , Ext W W' → Calls Tryz.prog 72 #[.pointer (some ⟨s, 0, none⟩), .int .i64 ((st.came - 5 : Nat) : Int), .int .i64 e] W' fun en w' => en = .returned (.tuple #[]) ∧ IsSt w' col3 s h t ((st.headed c).fail (st.came - 5) e) ∧ Fr (Hot col3) W w') := Lib.hid fun W' hW => (stream_fail (H3.out.ext hW) _ _).mono fun e w' hh => ⟨hh.1, ⟨_, _, _, _, hh.2.1⟩, Fr.trans (Ext.any hW) (hh.2.2.hot H3.out.cs)⟩
  generalize st.came - 5 = fr at *
  have q2 : W.cell? ⟨s, 2, none⟩ = some (.int .i64 st.came) := H3.out.c2
  have q4 := H3.out.c4
  have qf := H3.out.cf
  have qlt := H3.out.lt
  (go_at_call 71; refine (HRH.out).mono ?_; rintro e w1 ⟨rfl, hx1⟩; have hc1 := Ext.cells hx1; have hf1 := Ext.frozens hx1; have hz1 := Fr.size hx1; try simp [go_sem] at hz1; try (have hzl := Nat.lt_of_succ_le hz1; try (have hzm := Nat.lt_of_succ_lt hzl)))
  have hq1 : s < w1.heap.size := by omega
  go_wp2_with (first | ((go_at_call 72; refine (HFl.out _ ((by repeat (first | with_reducible assumption | with_reducible exact Fr.refl _ _ | (with_reducible refine Fr.alloc ?_ _) | (with_reducible refine Fr.drew ?_) | (with_reducible refine Fr.drewN ?_ _) | (with_reducible refine Fr.setNew ?_ _ _ _ (by first | with_reducible exact Nat.le_refl _ | omega | (simp; omega))))))).mono ?_; rintro e w9 ⟨rfl, hI9, hf9⟩)))
  ((try simp only [Exit.inBlock, Exit.then]); refine bodyPost_ret (results_none rfl _ _ _) rfl ?_)
  exact StPost.after HG3.out HF3.out ⟨col3, fun _ _ => rfl, rfl, hI9, hf9⟩
set_option maxRecDepth 8000 in
set_option maxHeartbeats 8000000 in
theorem head_errA (H : IsSt w col s h t st) (hcm : st.came ≤ 4611686018427387904) (hl : st.head.length = 4) (h5c : 5 ≤ st.came) (hp : decide (0 < (st.headed c).hd.data.length) = false) {a e : Nat} (ha : a ≠ 0) (he : e ≠ 0) (ha5 : a ≤ 5) (hres : hdOf (st.head ++ [c]) = .error (a, e)) : Calls Tryz.prog 40 #[.pointer (some ⟨s, 0, none⟩), .int .u8 c.toNat] w (StPost col s h t ((st.headed c).fail (st.came - 5 + a) e) w) := by
  obtain ⟨vh, vb, vr, ve, H⟩ := H
  obtain ⟨Ah, ch, rfl⟩ := H.head.isSl
  have e4 := H.c4
  have e2 := H.c2
  have ef := H.cf
  have hlt := H.lt
  have HX := Lib.hid H
  have hsy := src_u8 (w := w) (col := col) (v := .slice Ah st.head.length ch) c (fun b e => (H.head.1.block b e).2)
  have hto := H.head.togrow ((Fr.refl _ w).alloc (.cells #[.int .u8 c.toNat] 5)) (by omega)
  have HSY := Lib.hid hsy
  have HTO := Lib.hid hto
  clear H hsy hto
  have dl : decide ((st.head.length : Int) + 1 < 5) = false := by simp; omega
  have wf : IntKind.i64.wrap ((st.came : Int) - 5) = ((st.came - 5 : Nat) : Int) := by rw [IntWalk.i64_in _ (by omega)]; omega
  have ee : ((e : Int) != 0) = true := by rw [bne_iff_ne]; omega
  have ea : ((a : Int) == 0) = false := by rw [beq_eq_false_iff_ne]; omega
  have wa : IntKind.i64.wrap (((st.came - 5 : Nat) : Int) + (a : Int)) = ((st.came - 5 + a : Nat) : Int) := by rw [IntWalk.i64_in _ (by omega)]; omega
  clear he ha
  have HLN := Lib.hid hl
  clear hl
  go_enter Tryz.func40, Tryz.ntmps40
  go_wp2_with (at_builtin; refine wpList_append_rows (d := Rd.u8) (v := .slice Ah st.head.length ch) (xs := st.head) (ys := [c]) (n := st.head.length) (m := 1) (base := 0) rfl rfl app_u8 rfl HTO.out growok_not HSY.out rfl ?_ ?_ ?_)
  · first | omega | (have := HLN.out; omega)
  · exact Nat.zero_le _
  intro v' w2 hown hgr hblk
  have HS := Lib.hid (HX.out.head_set ((Fr.refl _ w).alloc (.cells #[.int .u8 c.toNat] 5)) hown (by simp) hgr (by simpa using hblk))
  have hb2 : w2.heap[s]? = _ := (Fr.trans (Ext.any ((Fr.refl _ w).alloc (.cells #[.int .u8 c.toNat] 5))) (Fr.of_grow hgr HX.out.head.2)).blk HX.out.blk (by rw [HX.out.cs]; omega)
  obtain ⟨A2, c2, rfl, _⟩ := hown.sl
  have r2 : w2.cell? ⟨s, 2, none⟩ = some (.int .i64 st.came) := (blk_cell hb2 2).trans rfl
  have r4 : w2.cell? ⟨s, 4, none⟩ = some (.slice Ah st.head.length ch) := (blk_cell hb2 4).trans rfl
  have rf : ∀ i, w2.frozen? ⟨s, i, none⟩ = false := fun i => blk_unfrozen hb2 i
  clear hb2 hown hgr hblk e4 e2 ef
  have HS2 : Hid (∃ col', Goes w col col' ∧ (∃ vb vr ve, IsStX (w2.setCell ⟨s, 4, none⟩ (.slice A2 (st.head.length + 1) c2)) col' s h t (st.headed c) (.slice A2 (st.head.length + 1) c2) vb vr ve) ∧ Fr (Hot col) w (w2.setCell ⟨s, 4, none⟩ (.slice A2 (st.head.length + 1) c2))) := Lib.hid (by
    obtain ⟨h1, h2, h3⟩ := HS.out
    exact ⟨_, h2, ⟨_, _, _, h1⟩, h3⟩)
  go_wp2_with (first | ((go_at_call 71; refine (HS2).mono ?_; rintro e)))
  obtain ⟨col3, hg3, ⟨vb', vr', ve', h3⟩, hf3⟩ := HS2.out
  have HG3 := Lib.hid hg3
  have H3 := Lib.hid h3
  have HF3 := Lib.hid hf3
  have h5 : st.head.length + 1 = 5 := by have := HLN.out; omega
  rw [h5] at H3 HF3
  rw [h5]
  have hsb : SlC Rd.u8 (w2.setCell ⟨s, 4, none⟩ (.slice A2 5 c2)) Any A2 5 c2 (st.head ++ [c]) := by
    obtain ⟨A0, c0, e, hs⟩ := H3.out.head.1.sl
    have e' : (st.headed c).head.length = 5 := by have := HLN.out; simp [St.headed]; omega
    rw [e'] at e hs
    injection e with e1 _ e2
    subst e1
    subst e2
    exact hs.any
  have HSB := Lib.hid hsb
  have HRH := Lib.hid (record_HeadOf (by have := HLN.out; simp; omega) hsb H3.out.env.lim)
  rw [hres] at HRH
  clear hg3 h3 hf3 HS2 HS HSY HTO hsb r2 r4 rf
  generalize hW : w2.setCell ⟨s, 4, none⟩ (.slice A2 5 c2) = W at *
  have HFl : Hid (∀ W' , Ext W W' → Calls Tryz.prog 72 #[.pointer (some ⟨s, 0, none⟩), .int .i64 ((st.came - 5 + a : Nat) : Int), .int .i64 e] W' fun en w' => en = .returned (.tuple #[]) ∧ IsSt w' col3 s h t ((st.headed c).fail (st.came - 5 + a) e) ∧ Fr (Hot col3) W w') := Lib.hid fun W' hW => (stream_fail (H3.out.ext hW) _ _).mono fun e w' hh => ⟨hh.1, ⟨_, _, _, _, hh.2.1⟩, Fr.trans (Ext.any hW) (hh.2.2.hot H3.out.cs)⟩
  generalize st.came - 5 + a = fra at *
  generalize st.came - 5 = fr at *
  have HPa : Hid (∀ W', Ext W W' → Calls Tryz.prog 42 #[.pointer (some ⟨h, 0, none⟩)] W' fun e w' => e = .returned (.bool false) ∧ w' = W') := Lib.hid fun W' hW => by
    have := hand_Partial W' (H3.out.hand.ext hW)
    rw [show decide (0 < (st.headed c).hd.data.length) = false from hp] at this
    exact this
  have q0 := H3.out.c0
  have q2 : W.cell? ⟨s, 2, none⟩ = some (.int .i64 st.came) := H3.out.c2
  have q4 := H3.out.c4
  have qf := H3.out.cf
  have qlt := H3.out.lt
  (go_at_call 71; refine (HRH.out).mono ?_; rintro e w1 ⟨rfl, hx1⟩; have hc1 := Ext.cells hx1; have hf1 := Ext.frozens hx1; have hz1 := Fr.size hx1; try simp [go_sem] at hz1; try (have hzl := Nat.lt_of_succ_le hz1; try (have hzm := Nat.lt_of_succ_lt hzl)))
  have hq1 : s < w1.heap.size := by omega
  go_wp2_with (first | ((go_at_call 72; refine (HFl.out _ ((by repeat (first | with_reducible assumption | with_reducible exact Fr.refl _ _ | (with_reducible refine Fr.alloc ?_ _) | (with_reducible refine Fr.drew ?_) | (with_reducible refine Fr.drewN ?_ _) | (with_reducible refine Fr.setNew ?_ _ _ _ (by first | with_reducible exact Nat.le_refl _ | omega | (simp; omega))))))).mono ?_; rintro e w9 ⟨rfl, hI9, hf9⟩)) | ((go_at_call 42; refine (HPa.out _ ((by repeat (first | with_reducible assumption | with_reducible exact Fr.refl _ _ | (with_reducible refine Fr.alloc ?_ _) | (with_reducible refine Fr.drew ?_) | (with_reducible refine Fr.drewN ?_ _) | (with_reducible refine Fr.setNew ?_ _ _ _ (by first | with_reducible exact Nat.le_refl _ | omega | (simp; omega))))))).mono ?_; rintro e w8 ⟨rfl, rfl⟩)))
  ((try simp only [Exit.inBlock, Exit.then]); refine bodyPost_ret (results_none rfl _ _ _) rfl ?_)
  exact StPost.after HG3.out HF3.out ⟨col3, fun _ _ => rfl, rfl, hI9, hf9⟩
set_option maxRecDepth 8000 in
set_option maxHeartbeats 8000000 in
theorem head_errB (H : IsSt w col s h t st) (hcm : st.came ≤ 4611686018427387904) (hl : st.head.length = 4) (h5c : 5 ≤ st.came) (hp : decide (0 < (st.headed c).hd.data.length) = true) {b0 : UInt8} (hb0 : st.head.head? = some b0) (bb : ((b0.toNat : Int) != 22) = false) {a e : Nat} (ha : a ≠ 0) (he : e ≠ 0) (ha5 : a ≤ 5) (hres : hdOf (st.head ++ [c]) = .error (a, e)) : Calls Tryz.prog 40 #[.pointer (some ⟨s, 0, none⟩), .int .u8 c.toNat] w (StPost col s h t ((st.headed c).fail (st.came - 5 + a) e) w) := by
  obtain ⟨vh, vb, vr, ve, H⟩ := H
  obtain ⟨Ah, ch, rfl⟩ := H.head.isSl
  have e4 := H.c4
  have e2 := H.c2
  have ef := H.cf
  have hlt := H.lt
  have HX := Lib.hid H
  have hsy := src_u8 (w := w) (col := col) (v := .slice Ah st.head.length ch) c (fun b e => (H.head.1.block b e).2)
  have hto := H.head.togrow ((Fr.refl _ w).alloc (.cells #[.int .u8 c.toNat] 5)) (by omega)
  have HSY := Lib.hid hsy
  have HTO := Lib.hid hto
  clear H hsy hto
  have dl : decide ((st.head.length : Int) + 1 < 5) = false := by simp; omega
  have wf : IntKind.i64.wrap ((st.came : Int) - 5) = ((st.came - 5 : Nat) : Int) := by rw [IntWalk.i64_in _ (by omega)]; omega
  have ee : ((e : Int) != 0) = true := by rw [bne_iff_ne]; omega
  have ea : ((a : Int) == 0) = false := by rw [beq_eq_false_iff_ne]; omega
  have wa : IntKind.i64.wrap (((st.came - 5 : Nat) : Int) + (a : Int)) = ((st.came - 5 + a : Nat) : Int) := by rw [IntWalk.i64_in _ (by omega)]; omega
  clear he ha
  have HLN := Lib.hid hl
  clear hl
  go_enter Tryz.func40, Tryz.ntmps40
  go_wp2_with (at_builtin; refine wpList_append_rows (d := Rd.u8) (v := .slice Ah st.head.length ch) (xs := st.head) (ys := [c]) (n := st.head.length) (m := 1) (base := 0) rfl rfl app_u8 rfl HTO.out growok_not HSY.out rfl ?_ ?_ ?_)
  · first | omega | (have := HLN.out; omega)
  · exact Nat.zero_le _
  intro v' w2 hown hgr hblk
  have HS := Lib.hid (HX.out.head_set ((Fr.refl _ w).alloc (.cells #[.int .u8 c.toNat] 5)) hown (by simp) hgr (by simpa using hblk))
  have hb2 : w2.heap[s]? = _ := (Fr.trans (Ext.any ((Fr.refl _ w).alloc (.cells #[.int .u8 c.toNat] 5))) (Fr.of_grow hgr HX.out.head.2)).blk HX.out.blk (by rw [HX.out.cs]; omega)
  obtain ⟨A2, c2, rfl, _⟩ := hown.sl
  have r2 : w2.cell? ⟨s, 2, none⟩ = some (.int .i64 st.came) := (blk_cell hb2 2).trans rfl
  have r4 : w2.cell? ⟨s, 4, none⟩ = some (.slice Ah st.head.length ch) := (blk_cell hb2 4).trans rfl
  have rf : ∀ i, w2.frozen? ⟨s, i, none⟩ = false := fun i => blk_unfrozen hb2 i
  clear hb2 hown hgr hblk e4 e2 ef
  have HS2 : Hid (∃ col', Goes w col col' ∧ (∃ vb vr ve, IsStX (w2.setCell ⟨s, 4, none⟩ (.slice A2 (st.head.length + 1) c2)) col' s h t (st.headed c) (.slice A2 (st.head.length + 1) c2) vb vr ve) ∧ Fr (Hot col) w (w2.setCell ⟨s, 4, none⟩ (.slice A2 (st.head.length + 1) c2))) := Lib.hid (by
    obtain ⟨h1, h2, h3⟩ := HS.out
    exact ⟨_, h2, ⟨_, _, _, h1⟩, h3⟩)
  go_wp2_with (first | ((go_at_call 71; refine (HS2).mono ?_; rintro e)))
  obtain ⟨col3, hg3, ⟨vb', vr', ve', h3⟩, hf3⟩ := HS2.out
  have HG3 := Lib.hid hg3
  have H3 := Lib.hid h3
  have HF3 := Lib.hid hf3
  have h5 : st.head.length + 1 = 5 := by have := HLN.out; omega
  rw [h5] at H3 HF3
  rw [h5]
  have hsb : SlC Rd.u8 (w2.setCell ⟨s, 4, none⟩ (.slice A2 5 c2)) Any A2 5 c2 (st.head ++ [c]) := by
    obtain ⟨A0, c0, e, hs⟩ := H3.out.head.1.sl
    have e' : (st.headed c).head.length = 5 := by have := HLN.out; simp [St.headed]; omega
    rw [e'] at e hs
    injection e with e1 _ e2
    subst e1
    subst e2
    exact hs.any
  have HSB := Lib.hid hsb
  have HRH := Lib.hid (record_HeadOf (by have := HLN.out; simp; omega) hsb H3.out.env.lim)
  rw [hres] at HRH
  clear hg3 h3 hf3 HS2 HS HSY HTO hsb r2 r4 rf
  generalize hW : w2.setCell ⟨s, 4, none⟩ (.slice A2 5 c2) = W at *
  have HFl : Hid (∀ W' , Ext W W' → Calls Tryz.prog 72 #[.pointer (some ⟨s, 0, none⟩), .int .i64 ((st.came - 5 + a : Nat) : Int), .int .i64 e] W' fun en w' => en = .returned (.tuple #[]) ∧ IsSt w' col3 s h t ((st.headed c).fail (st.came - 5 + a) e) ∧ Fr (Hot col3) W w') := Lib.hid fun W' hW => (stream_fail (H3.out.ext hW) _ _).mono fun e w' hh => ⟨hh.1, ⟨_, _, _, _, hh.2.1⟩, Fr.trans (Ext.any hW) (hh.2.2.hot H3.out.cs)⟩
  generalize st.came - 5 + a = fra at *
  generalize st.came - 5 = fr at *
  have HPa : Hid (∀ W', Ext W W' → Calls Tryz.prog 42 #[.pointer (some ⟨h, 0, none⟩)] W' fun e w' => e = .returned (.bool true) ∧ w' = W') := Lib.hid fun W' hW => by
    have := hand_Partial W' (H3.out.hand.ext hW)
    rw [show decide (0 < (st.headed c).hd.data.length) = true from hp] at this
    exact this
  have q0 := H3.out.c0
  obtain ⟨g, o, rfl, _, e0⟩ := scalar_cell HSB.out (j := 0) (show (st.head ++ [c])[0]? = some b0 by
    cases hs : st.head with
    | nil => rw [hs] at hb0; simp at hb0
    | cons x r => rw [hs] at hb0; simpa using hb0)
  have hgl : g < W.heap.size := by
    obtain ⟨cs, ⟨b1, o1, arr, T, fr, hA, _, hb1, _⟩, _⟩ := HSB.out.get (j := 0) (x := b0) (show (st.head ++ [c])[0]? = some b0 by
      cases hs : st.head with
      | nil => rw [hs] at hb0; simp at hb0
      | cons x r => rw [hs] at hb0; simpa using hb0)
    injection hA with hA
    injection hA with hA
    subst hA
    exact blk_lt hb1
  rw [Nat.add_zero] at e0
  have HB0 := Lib.hid hb0
  clear hb0
  have q2 : W.cell? ⟨s, 2, none⟩ = some (.int .i64 st.came) := H3.out.c2
  have q4 := H3.out.c4
  have qf := H3.out.cf
  have qlt := H3.out.lt
  (go_at_call 71; refine (HRH.out).mono ?_; rintro e w1 ⟨rfl, hx1⟩; have hc1 := Ext.cells hx1; have hf1 := Ext.frozens hx1; have hz1 := Fr.size hx1; try simp [go_sem] at hz1; try (have hzl := Nat.lt_of_succ_le hz1; try (have hzm := Nat.lt_of_succ_lt hzl)))
  have hq1 : s < w1.heap.size := by omega
  have hg1 : g < w1.heap.size := by omega
  go_wp2_with (first | ((go_at_call 72; refine (HFl.out _ ((by repeat (first | with_reducible assumption | with_reducible exact Fr.refl _ _ | (with_reducible refine Fr.alloc ?_ _) | (with_reducible refine Fr.drew ?_) | (with_reducible refine Fr.drewN ?_ _) | (with_reducible refine Fr.setNew ?_ _ _ _ (by first | with_reducible exact Nat.le_refl _ | omega | (simp; omega))))))).mono ?_; rintro e w9 ⟨rfl, hI9, hf9⟩)) | ((go_at_call 42; refine (HPa.out _ ((by repeat (first | with_reducible assumption | with_reducible exact Fr.refl _ _ | (with_reducible refine Fr.alloc ?_ _) | (with_reducible refine Fr.drew ?_) | (with_reducible refine Fr.drewN ?_ _) | (with_reducible refine Fr.setNew ?_ _ _ _ (by first | with_reducible exact Nat.le_refl _ | omega | (simp; omega))))))).mono ?_; rintro e w8 ⟨rfl, rfl⟩)))
  ((try simp only [Exit.inBlock, Exit.then]); refine bodyPost_ret (results_none rfl _ _ _) rfl ?_)
  exact StPost.after HG3.out HF3.out ⟨col3, fun _ _ => rfl, rfl, hI9, hf9⟩
set_option maxRecDepth 8000 in
set_option maxHeartbeats 8000000 in
theorem head_errC (H : IsSt w col s h t st) (hcm : st.came ≤ 4611686018427387904) (hl : st.head.length = 4) (h5c : 5 ≤ st.came) (hp : decide (0 < (st.headed c).hd.data.length) = true) {b0 : UInt8} (hb0 : st.head.head? = some b0) (bb : ((b0.toNat : Int) != 22) = true) {a e : Nat} (ha : a ≠ 0) (he : e ≠ 0) (ha5 : a ≤ 5) (hres : hdOf (st.head ++ [c]) = .error (a, e)) : Calls Tryz.prog 40 #[.pointer (some ⟨s, 0, none⟩), .int .u8 c.toNat] w (StPost col s h t ((st.headed c).fail (st.came - 5) 10) w) := by
  obtain ⟨vh, vb, vr, ve, H⟩ := H
  obtain ⟨Ah, ch, rfl⟩ := H.head.isSl
  have e4 := H.c4
  have e2 := H.c2
  have ef := H.cf
  have hlt := H.lt
  have HX := Lib.hid H
  have hsy := src_u8 (w := w) (col := col) (v := .slice Ah st.head.length ch) c (fun b e => (H.head.1.block b e).2)
  have hto := H.head.togrow ((Fr.refl _ w).alloc (.cells #[.int .u8 c.toNat] 5)) (by omega)
  have HSY := Lib.hid hsy
  have HTO := Lib.hid hto
  clear H hsy hto
  have dl : decide ((st.head.length : Int) + 1 < 5) = false := by simp; omega
  have wf : IntKind.i64.wrap ((st.came : Int) - 5) = ((st.came - 5 : Nat) : Int) := by rw [IntWalk.i64_in _ (by omega)]; omega
  have ee : ((e : Int) != 0) = true := by rw [bne_iff_ne]; omega
  have ea : ((a : Int) == 0) = false := by rw [beq_eq_false_iff_ne]; omega
  have wa : IntKind.i64.wrap (((st.came - 5 : Nat) : Int) + (a : Int)) = ((st.came - 5 + a : Nat) : Int) := by rw [IntWalk.i64_in _ (by omega)]; omega
  clear he ha
  have HLN := Lib.hid hl
  clear hl
  go_enter Tryz.func40, Tryz.ntmps40
  go_wp2_with (at_builtin; refine wpList_append_rows (d := Rd.u8) (v := .slice Ah st.head.length ch) (xs := st.head) (ys := [c]) (n := st.head.length) (m := 1) (base := 0) rfl rfl app_u8 rfl HTO.out growok_not HSY.out rfl ?_ ?_ ?_)
  · first | omega | (have := HLN.out; omega)
  · exact Nat.zero_le _
  intro v' w2 hown hgr hblk
  have HS := Lib.hid (HX.out.head_set ((Fr.refl _ w).alloc (.cells #[.int .u8 c.toNat] 5)) hown (by simp) hgr (by simpa using hblk))
  have hb2 : w2.heap[s]? = _ := (Fr.trans (Ext.any ((Fr.refl _ w).alloc (.cells #[.int .u8 c.toNat] 5))) (Fr.of_grow hgr HX.out.head.2)).blk HX.out.blk (by rw [HX.out.cs]; omega)
  obtain ⟨A2, c2, rfl, _⟩ := hown.sl
  have r2 : w2.cell? ⟨s, 2, none⟩ = some (.int .i64 st.came) := (blk_cell hb2 2).trans rfl
  have r4 : w2.cell? ⟨s, 4, none⟩ = some (.slice Ah st.head.length ch) := (blk_cell hb2 4).trans rfl
  have rf : ∀ i, w2.frozen? ⟨s, i, none⟩ = false := fun i => blk_unfrozen hb2 i
  clear hb2 hown hgr hblk e4 e2 ef
  have HS2 : Hid (∃ col', Goes w col col' ∧ (∃ vb vr ve, IsStX (w2.setCell ⟨s, 4, none⟩ (.slice A2 (st.head.length + 1) c2)) col' s h t (st.headed c) (.slice A2 (st.head.length + 1) c2) vb vr ve) ∧ Fr (Hot col) w (w2.setCell ⟨s, 4, none⟩ (.slice A2 (st.head.length + 1) c2))) := Lib.hid (by
    obtain ⟨h1, h2, h3⟩ := HS.out
    exact ⟨_, h2, ⟨_, _, _, h1⟩, h3⟩)
  go_wp2_with (first | ((go_at_call 71; refine (HS2).mono ?_; rintro e)))
  obtain ⟨col3, hg3, ⟨vb', vr', ve', h3⟩, hf3⟩ := HS2.out
  have HG3 := Lib.hid hg3
  have H3 := Lib.hid h3
  have HF3 := Lib.hid hf3
  have h5 : st.head.length + 1 = 5 := by have := HLN.out; omega
  rw [h5] at H3 HF3
  rw [h5]
  have hsb : SlC Rd.u8 (w2.setCell ⟨s, 4, none⟩ (.slice A2 5 c2)) Any A2 5 c2 (st.head ++ [c]) := by
    obtain ⟨A0, c0, e, hs⟩ := H3.out.head.1.sl
    have e' : (st.headed c).head.length = 5 := by have := HLN.out; simp [St.headed]; omega
    rw [e'] at e hs
    injection e with e1 _ e2
    subst e1
    subst e2
    exact hs.any
  have HSB := Lib.hid hsb
  have HRH := Lib.hid (record_HeadOf (by have := HLN.out; simp; omega) hsb H3.out.env.lim)
  rw [hres] at HRH
  clear hg3 h3 hf3 HS2 HS HSY HTO hsb r2 r4 rf
  generalize hW : w2.setCell ⟨s, 4, none⟩ (.slice A2 5 c2) = W at *
  have HFl : Hid (∀ W' , Ext W W' → Calls Tryz.prog 72 #[.pointer (some ⟨s, 0, none⟩), .int .i64 ((st.came - 5 : Nat) : Int), .int .i64 10] W' fun en w' => en = .returned (.tuple #[]) ∧ IsSt w' col3 s h t ((st.headed c).fail (st.came - 5) 10) ∧ Fr (Hot col3) W w') := Lib.hid fun W' hW => (stream_fail (H3.out.ext hW) _ _).mono fun e w' hh => ⟨hh.1, ⟨_, _, _, _, hh.2.1⟩, Fr.trans (Ext.any hW) (hh.2.2.hot H3.out.cs)⟩
  generalize st.came - 5 = fr at *
  have HPa : Hid (∀ W', Ext W W' → Calls Tryz.prog 42 #[.pointer (some ⟨h, 0, none⟩)] W' fun e w' => e = .returned (.bool true) ∧ w' = W') := Lib.hid fun W' hW => by
    have := hand_Partial W' (H3.out.hand.ext hW)
    rw [show decide (0 < (st.headed c).hd.data.length) = true from hp] at this
    exact this
  have q0 := H3.out.c0
  obtain ⟨g, o, rfl, _, e0⟩ := scalar_cell HSB.out (j := 0) (show (st.head ++ [c])[0]? = some b0 by
    cases hs : st.head with
    | nil => rw [hs] at hb0; simp at hb0
    | cons x r => rw [hs] at hb0; simpa using hb0)
  have hgl : g < W.heap.size := by
    obtain ⟨cs, ⟨b1, o1, arr, T, fr, hA, _, hb1, _⟩, _⟩ := HSB.out.get (j := 0) (x := b0) (show (st.head ++ [c])[0]? = some b0 by
      cases hs : st.head with
      | nil => rw [hs] at hb0; simp at hb0
      | cons x r => rw [hs] at hb0; simpa using hb0)
    injection hA with hA
    injection hA with hA
    subst hA
    exact blk_lt hb1
  rw [Nat.add_zero] at e0
  have HB0 := Lib.hid hb0
  clear hb0
  have q2 : W.cell? ⟨s, 2, none⟩ = some (.int .i64 st.came) := H3.out.c2
  have q4 := H3.out.c4
  have qf := H3.out.cf
  have qlt := H3.out.lt
  (go_at_call 71; refine (HRH.out).mono ?_; rintro e w1 ⟨rfl, hx1⟩; have hc1 := Ext.cells hx1; have hf1 := Ext.frozens hx1; have hz1 := Fr.size hx1; try simp [go_sem] at hz1; try (have hzl := Nat.lt_of_succ_le hz1; try (have hzm := Nat.lt_of_succ_lt hzl)))
  have hq1 : s < w1.heap.size := by omega
  have hg1 : g < w1.heap.size := by omega
  go_wp2_with (first | ((go_at_call 72; refine (HFl.out _ ((by repeat (first | with_reducible assumption | with_reducible exact Fr.refl _ _ | (with_reducible refine Fr.alloc ?_ _) | (with_reducible refine Fr.drew ?_) | (with_reducible refine Fr.drewN ?_ _) | (with_reducible refine Fr.setNew ?_ _ _ _ (by first | with_reducible exact Nat.le_refl _ | omega | (simp; omega))))))).mono ?_; rintro e w9 ⟨rfl, hI9, hf9⟩)) | ((go_at_call 42; refine (HPa.out _ ((by repeat (first | with_reducible assumption | with_reducible exact Fr.refl _ _ | (with_reducible refine Fr.alloc ?_ _) | (with_reducible refine Fr.drew ?_) | (with_reducible refine Fr.drewN ?_ _) | (with_reducible refine Fr.setNew ?_ _ _ _ (by first | with_reducible exact Nat.le_refl _ | omega | (simp; omega))))))).mono ?_; rintro e w8 ⟨rfl, rfl⟩)))
  ((try simp only [Exit.inBlock, Exit.then]); refine bodyPost_ret (results_none rfl _ _ _) rfl ?_)
  exact StPost.after HG3.out HF3.out ⟨col3, fun _ _ => rfl, rfl, hI9, hf9⟩
set_option maxRecDepth 8000 in
set_option maxHeartbeats 8000000 in
theorem head_okC (H : IsSt w col s h t st) (hcm : st.came ≤ 4611686018427387904) (hl : st.head.length = 4) (h5c : 5 ≤ st.came) (hp : decide (0 < (st.headed c).hd.data.length) = true) {b0 : UInt8} (hb0 : st.head.head? = some b0) (bb : ((b0.toNat : Int) != 22) = true) {k v n : Nat} (hres : hdOf (st.head ++ [c]) = .ok (k, v, n)) : Calls Tryz.prog 40 #[.pointer (some ⟨s, 0, none⟩), .int .u8 c.toNat] w (StPost col s h t ((st.headed c).fail (st.came - 5) 10) w) := by
  obtain ⟨vh, vb, vr, ve, H⟩ := H
  obtain ⟨Ah, ch, rfl⟩ := H.head.isSl
  have e4 := H.c4
  have e2 := H.c2
  have ef := H.cf
  have hlt := H.lt
  have HX := Lib.hid H
  have hsy := src_u8 (w := w) (col := col) (v := .slice Ah st.head.length ch) c (fun b e => (H.head.1.block b e).2)
  have hto := H.head.togrow ((Fr.refl _ w).alloc (.cells #[.int .u8 c.toNat] 5)) (by omega)
  have HSY := Lib.hid hsy
  have HTO := Lib.hid hto
  clear H hsy hto
  have dl : decide ((st.head.length : Int) + 1 < 5) = false := by simp; omega
  have wf : IntKind.i64.wrap ((st.came : Int) - 5) = ((st.came - 5 : Nat) : Int) := by rw [IntWalk.i64_in _ (by omega)]; omega
  have HLN := Lib.hid hl
  clear hl
  go_enter Tryz.func40, Tryz.ntmps40
  go_wp2_with (at_builtin; refine wpList_append_rows (d := Rd.u8) (v := .slice Ah st.head.length ch) (xs := st.head) (ys := [c]) (n := st.head.length) (m := 1) (base := 0) rfl rfl app_u8 rfl HTO.out growok_not HSY.out rfl ?_ ?_ ?_)
  · first | omega | (have := HLN.out; omega)
  · exact Nat.zero_le _
  intro v' w2 hown hgr hblk
  have HS := Lib.hid (HX.out.head_set ((Fr.refl _ w).alloc (.cells #[.int .u8 c.toNat] 5)) hown (by simp) hgr (by simpa using hblk))
  have hb2 : w2.heap[s]? = _ := (Fr.trans (Ext.any ((Fr.refl _ w).alloc (.cells #[.int .u8 c.toNat] 5))) (Fr.of_grow hgr HX.out.head.2)).blk HX.out.blk (by rw [HX.out.cs]; omega)
  obtain ⟨A2, c2, rfl, _⟩ := hown.sl
  have r2 : w2.cell? ⟨s, 2, none⟩ = some (.int .i64 st.came) := (blk_cell hb2 2).trans rfl
  have r4 : w2.cell? ⟨s, 4, none⟩ = some (.slice Ah st.head.length ch) := (blk_cell hb2 4).trans rfl
  have rf : ∀ i, w2.frozen? ⟨s, i, none⟩ = false := fun i => blk_unfrozen hb2 i
  clear hb2 hown hgr hblk e4 e2 ef
  have HS2 : Hid (∃ col', Goes w col col' ∧ (∃ vb vr ve, IsStX (w2.setCell ⟨s, 4, none⟩ (.slice A2 (st.head.length + 1) c2)) col' s h t (st.headed c) (.slice A2 (st.head.length + 1) c2) vb vr ve) ∧ Fr (Hot col) w (w2.setCell ⟨s, 4, none⟩ (.slice A2 (st.head.length + 1) c2))) := Lib.hid (by
    obtain ⟨h1, h2, h3⟩ := HS.out
    exact ⟨_, h2, ⟨_, _, _, h1⟩, h3⟩)
  go_wp2_with (first | ((go_at_call 71; refine (HS2).mono ?_; rintro e)))
  obtain ⟨col3, hg3, ⟨vb', vr', ve', h3⟩, hf3⟩ := HS2.out
  have HG3 := Lib.hid hg3
  have H3 := Lib.hid h3
  have HF3 := Lib.hid hf3
  have h5 : st.head.length + 1 = 5 := by have := HLN.out; omega
  rw [h5] at H3 HF3
  rw [h5]
  have hsb : SlC Rd.u8 (w2.setCell ⟨s, 4, none⟩ (.slice A2 5 c2)) Any A2 5 c2 (st.head ++ [c]) := by
    obtain ⟨A0, c0, e, hs⟩ := H3.out.head.1.sl
    have e' : (st.headed c).head.length = 5 := by have := HLN.out; simp [St.headed]; omega
    rw [e'] at e hs
    injection e with e1 _ e2
    subst e1
    subst e2
    exact hs.any
  have HSB := Lib.hid hsb
  have HRH := Lib.hid (record_HeadOf (by have := HLN.out; simp; omega) hsb H3.out.env.lim)
  rw [hres] at HRH
  clear hg3 h3 hf3 HS2 HS HSY HTO hsb r2 r4 rf
  generalize hW : w2.setCell ⟨s, 4, none⟩ (.slice A2 5 c2) = W at *
  have HFl : Hid (∀ W' , Ext W W' → Calls Tryz.prog 72 #[.pointer (some ⟨s, 0, none⟩), .int .i64 ((st.came - 5 : Nat) : Int), .int .i64 10] W' fun en w' => en = .returned (.tuple #[]) ∧ IsSt w' col3 s h t ((st.headed c).fail (st.came - 5) 10) ∧ Fr (Hot col3) W w') := Lib.hid fun W' hW => (stream_fail (H3.out.ext hW) _ _).mono fun e w' hh => ⟨hh.1, ⟨_, _, _, _, hh.2.1⟩, Fr.trans (Ext.any hW) (hh.2.2.hot H3.out.cs)⟩
  generalize st.came - 5 = fr at *
  have HPa : Hid (∀ W', Ext W W' → Calls Tryz.prog 42 #[.pointer (some ⟨h, 0, none⟩)] W' fun e w' => e = .returned (.bool true) ∧ w' = W') := Lib.hid fun W' hW => by
    have := hand_Partial W' (H3.out.hand.ext hW)
    rw [show decide (0 < (st.headed c).hd.data.length) = true from hp] at this
    exact this
  have q0 := H3.out.c0
  obtain ⟨g, o, rfl, _, e0⟩ := scalar_cell HSB.out (j := 0) (show (st.head ++ [c])[0]? = some b0 by
    cases hs : st.head with
    | nil => rw [hs] at hb0; simp at hb0
    | cons x r => rw [hs] at hb0; simpa using hb0)
  have hgl : g < W.heap.size := by
    obtain ⟨cs, ⟨b1, o1, arr, T, fr, hA, _, hb1, _⟩, _⟩ := HSB.out.get (j := 0) (x := b0) (show (st.head ++ [c])[0]? = some b0 by
      cases hs : st.head with
      | nil => rw [hs] at hb0; simp at hb0
      | cons x r => rw [hs] at hb0; simpa using hb0)
    injection hA with hA
    injection hA with hA
    subst hA
    exact blk_lt hb1
  rw [Nat.add_zero] at e0
  have HB0 := Lib.hid hb0
  clear hb0
  have q2 : W.cell? ⟨s, 2, none⟩ = some (.int .i64 st.came) := H3.out.c2
  have q4 := H3.out.c4
  have qf := H3.out.cf
  have qlt := H3.out.lt
  (go_at_call 71; refine (HRH.out).mono ?_; rintro e w1 ⟨rfl, hx1⟩; have hc1 := Ext.cells hx1; have hf1 := Ext.frozens hx1; have hz1 := Fr.size hx1; try simp [go_sem] at hz1; try (have hzl := Nat.lt_of_succ_le hz1; try (have hzm := Nat.lt_of_succ_lt hzl)))
  have hq1 : s < w1.heap.size := by omega
  have hg1 : g < w1.heap.size := by omega
  go_wp2_with (first | ((go_at_call 72; refine (HFl.out _ ((by repeat (first | with_reducible assumption | with_reducible exact Fr.refl _ _ | (with_reducible refine Fr.alloc ?_ _) | (with_reducible refine Fr.drew ?_) | (with_reducible refine Fr.drewN ?_ _) | (with_reducible refine Fr.setNew ?_ _ _ _ (by first | with_reducible exact Nat.le_refl _ | omega | (simp; omega))))))).mono ?_; rintro e w9 ⟨rfl, hI9, hf9⟩)) | ((go_at_call 42; refine (HPa.out _ ((by repeat (first | with_reducible assumption | with_reducible exact Fr.refl _ _ | (with_reducible refine Fr.alloc ?_ _) | (with_reducible refine Fr.drew ?_) | (with_reducible refine Fr.drewN ?_ _) | (with_reducible refine Fr.setNew ?_ _ _ _ (by first | with_reducible exact Nat.le_refl _ | omega | (simp; omega))))))).mono ?_; rintro e w8 ⟨rfl, rfl⟩)))
  ((try simp only [Exit.inBlock, Exit.then]); refine bodyPost_ret (results_none rfl _ _ _) rfl ?_)
  exact StPost.after HG3.out HF3.out ⟨col3, fun _ _ => rfl, rfl, hI9, hf9⟩
end
end Go.Proofs.YtalbiepdkaldmaaGreatDoor
