/- stream.inBody: a byte of a record that isn't of messages. -/
import Derived.Test.YtalbiepdkaldmaaGreatDoorProg
import Derived.Test.YtalbiepdkaldmaaGreatDoorStm3
import Derived.Deep.QuietTactic
import Derived.BigQuiet
import Derived.Deep.LoopGhost
import Derived.Laws.EntriesVeiled
set_option linter.unusedVariables false
set_option linter.unusedSimpArgs false
namespace Go.Proofs.YtalbiepdkaldmaaGreatDoor
open Go.RowKit
theorem src_u8 {w : World} {col : Nat → Nat} {v : Value} (c : UInt8) (hv : ∀ b, v.ownBlock = some b → b < w.heap.size) : SlC Rd.u8 (w.alloc (.cells #[.int .u8 c.toNat] 5)) (GrowOk w.heap.size (w.alloc (.cells #[.int .u8 c.toNat] 5)).heap.size col v) (some ⟨w.heap.size, 0, none⟩) 1 1 [c] :=
  sl_newO (d := Rd.u8) (w := w) (ok := NoB) (cells := [.int .u8 c.toNat]) (blk_new _ _) (Elems.one (d := Rd.u8) (x := c) rfl) ((Fr.refl _ _).alloc _) rfl (by decide) ⟨by simp, fun e => by have := hv _ e; omega, .inr (Nat.le_refl _)⟩ (fun _ _ e => e.elim)
def St.bodied (st : St) (c : UInt8) : St := { st with body := st.body ++ [c], left := st.left - 1 }
def St.inBody (st : St) (c : UInt8) : St := if st.left = 1 then (st.bodied c).whole else st.bodied c
/-- A record's body that is being read. -/
structure BodyOk (st : St) : Prop where
  kind : ∃ lo hi, limits st.now.kind = some (lo, hi)
  left : 1 ≤ st.left
  len : st.now.length = st.body.length + st.left
  small : st.now.length ≤ 16640
set_option maxRecDepth 8000 in
set_option maxHeartbeats 8000000 in
theorem stream_inBody {w : World} {col : Nat → Nat} {s h t : Nat} {st : St} (c : UInt8) (H : IsSt w col s h t st) (hk : BodyOk st) (hc : st.body.length + 1 ≤ st.came) (hcm : st.came ≤ 4611686018427387904) (hn : st.records.length ≤ 1099511627776) (hne : st.events.length ≤ 1099511627776) : Calls Tryz.prog 73 #[.pointer (some ⟨s, 0, none⟩), .int .u8 c.toNat] w (StPost col s h t (st.inBody c) w) := by
  obtain ⟨vh, vb, vr, ve, H⟩ := H
  obtain ⟨Ab, cb, rfl⟩ := H.body.isSl
  obtain ⟨⟨lo, hi, hk1⟩, hk2, hk3, hk4⟩ := hk
  have e8 := H.c8
  have e9 := H.c9
  have ef := H.cf
  have hlt := H.lt
  have hbl : st.body.length + st.left ≤ 16640 := by omega
  have HX := Lib.hid H
  have HK := Lib.hid hk1
  have HK3 := Lib.hid hk3
  have hsy := src_u8 (w := w) (col := col) (v := .slice Ab st.body.length cb) c (fun b e => (H.body.1.block b e).2)
  have hto := H.body.togrow ((Fr.refl _ w).alloc (.cells #[.int .u8 c.toNat] 5)) (by omega)
  have HSY := Lib.hid hsy
  have HTO := Lib.hid hto
  clear H hk1 hk3 hsy hto
  have wl : IntKind.i64.wrap ((st.left : Int) - 1) = ((st.left - 1 : Nat) : Int) := by rw [IntWalk.i64_in _ (by omega)]; omega
  go_enter Tryz.func73, Tryz.ntmps73
  go_wp2_with (at_builtin; refine wpList_append_rows (d := Rd.u8) (v := .slice Ab st.body.length cb) (xs := st.body) (ys := [c]) (n := st.body.length) (m := 1) (base := 0) rfl rfl app_u8 rfl HTO.out growok_not HSY.out rfl ?_ ?_ ?_)
  · omega
  · exact Nat.zero_le _
  intro v' w2 hown hgr hblk
  have HS := Lib.hid (HX.out.body_set ((Fr.refl _ w).alloc (.cells #[.int .u8 c.toNat] 5)) hown (by simp) hgr (by simpa using hblk))
  have hb2 : w2.heap[s]? = _ := (Fr.trans (Ext.any ((Fr.refl _ w).alloc (.cells #[.int .u8 c.toNat] 5))) (Fr.of_grow hgr HX.out.body.2)).blk HX.out.blk (by rw [HX.out.cs]; omega)
  obtain ⟨A2, c2, rfl, _⟩ := hown.sl
  have r8 : w2.cell? ⟨s, 8, none⟩ = some (.slice Ab st.body.length cb) := (blk_cell hb2 8).trans rfl
  have r9 : w2.cell? ⟨s, 9, none⟩ = some (.int .i64 st.left) := (blk_cell hb2 9).trans rfl
  have rf : ∀ i, w2.frozen? ⟨s, i, none⟩ = false := fun i => blk_unfrozen hb2 i
  clear hb2 hown hgr hblk e8 e9 ef
  have HS2 : Hid (∃ col', Goes w col col' ∧ IsSt ((w2.setCell ⟨s, 8, none⟩ (.slice A2 (st.body.length + 1) c2)).setCell ⟨s, 9, none⟩ (.int .i64 ((st.left - 1 : Nat) : Int))) col' s h t (st.bodied c) ∧ Fr (Hot col) w ((w2.setCell ⟨s, 8, none⟩ (.slice A2 (st.body.length + 1) c2)).setCell ⟨s, 9, none⟩ (.int .i64 ((st.left - 1 : Nat) : Int)))) := Lib.hid (by
    obtain ⟨h1, h2, h3⟩ := HS.out
    have hf4 : Fr (One s) (w2.setCell ⟨s, 8, none⟩ (.slice A2 (st.body.length + 1) c2)) ((w2.setCell ⟨s, 8, none⟩ (.slice A2 (st.body.length + 1) c2)).setCell ⟨s, 9, none⟩ (.int .i64 ((st.left - 1 : Nat) : Int))) := (by repeat (first | with_reducible exact Fr.refl _ _ | (with_reducible refine Fr.set ?_ _ _ _ (One.self _)) | (with_reducible refine Fr.alloc ?_ _) | (with_reducible refine Fr.drew ?_)))
    exact ⟨_, h2, ⟨_, _, _, _, h1.own (st' := st.bodied c) hf4 ((blk_set h1.blk 9 _).trans (by simp [stCells, St.bodied])) rfl rfl rfl rfl rfl rfl⟩, Fr.trans h3 (hf4.mono fun b _ e => by unfold One at e; unfold Hot; rw [e, HX.out.cs]; omega)⟩)
  by_cases h1 : st.left = 1
  · have HR : Hid (st.inBody c = (st.bodied c).whole) := Lib.hid (if_pos h1)
    have hq : (((st.left - 1 : Nat) : Int) == 0) = true := by rw [beq_iff_eq]; omega
    have HW : Hid (Calls Tryz.prog 75 #[.pointer (some ⟨s, 0, none⟩)] ((w2.setCell ⟨s, 8, none⟩ (.slice A2 (st.body.length + 1) c2)).setCell ⟨s, 9, none⟩ (.int .i64 ((st.left - 1 : Nat) : Int))) (StPost col s h t (st.bodied c).whole w)) := Lib.hid (by
      obtain ⟨col', h2, h3, h4⟩ := HS2.out
      exact (stream_whole h3 HK.out (by have := HK3.out; simp [St.bodied]; omega) (by simp [St.bodied]; omega) hcm (by simp [St.bodied]; omega) hn hne).mono fun e w' hp => hp.after h2 h4)
    clear h1
    generalize st.left - 1 = lf at *
    go_wp2_with ((go_at_call 75; refine (HW.out).mono ?_; rintro e w9 ⟨col9, hg9, rfl, hI9, hf9⟩))
    ((try simp only [Exit.inBlock, Exit.then]); refine bodyPost_end (results_none rfl _ _ _) rfl ?_)
    rw [HR.out]
    exact ⟨col9, hg9, rfl, hI9, hf9⟩
  · have HR : Hid (st.inBody c = st.bodied c) := Lib.hid (if_neg h1)
    have hq : (((st.left - 1 : Nat) : Int) == 0) = false := by rw [beq_eq_false_iff_ne]; omega
    clear h1
    generalize st.left - 1 = lf at *
    go_wp2
    ((try simp only [Exit.inBlock, Exit.then]); refine bodyPost_end (results_none rfl _ _ _) rfl ?_)
    obtain ⟨col', h2, h3, h4⟩ := HS2.out
    rw [HR.out]
    exact ⟨col', h2, rfl, h3, h4⟩
end Go.Proofs.YtalbiepdkaldmaaGreatDoor
