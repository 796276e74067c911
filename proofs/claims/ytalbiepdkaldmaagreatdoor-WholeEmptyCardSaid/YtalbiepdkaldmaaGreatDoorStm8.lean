/- stream.inMessage: a byte of a record of messages. -/
import Derived.Test.YtalbiepdkaldmaaGreatDoorProg
import Derived.Test.YtalbiepdkaldmaaGreatDoorRun
import Derived.Deep.QuietTactic
import Derived.BigQuiet
import Derived.Deep.LoopGhost
import Derived.Laws.EntriesVeiled
set_option linter.unusedVariables false
set_option linter.unusedSimpArgs false
namespace Go.Proofs.YtalbiepdkaldmaaGreatDoor
open Go.RowKit
section
variable {P : Program} {ops : Array Oper} {rest : List Oper} {o : Oper} {a : Act} {w : World} {Q : Exit → Act → World → Prop}
theorem wpList_idx_found {ok : Nat → Prop} {A : Option Addr} {n c : Nat} {xs : List (Bytes × List (Nat × Nat))} (H : SlC Rd.found w ok A n c xs) (hg : o.guard = none) (t : TypeId) (x i : Operand) (ho : o.op = .indexAddr t x i) (k : Int) (e : TypeId)
    (ht : P.underlying t = some (.slice e)) (hsz : (sizeOf e).run P w = .ok 2 w) (hx : a.eval x = .slice A n c) (hk : a.eval i = .int .i64 k) (h0 : 0 ≤ k) (h1 : k < n)
    (h : ∀ b off f A1 n1 c1 A2 n2 c2, ok b → xs[k.toNat]? = some f → SlC Rd.u8 w ok A1 n1 c1 f.1 → w.cell? ⟨b, off, none⟩ = some (.slice A1 n1 c1) → w.cell? ⟨b, off + 1, none⟩ = some (.slice A2 n2 c2) → wpList P ops Q rest (a.put o.dst (.pointer (some ⟨b, off, none⟩))) w) : wpList P ops Q (o :: rest) a w := by
  refine wpList_idx H hg t x i ho k e ht hsz hx hk h0 h1 fun b off cs f hok hf hK hc => ?_
  obtain ⟨A1, n1, c1, A2, n2, c2, rfl, hs, _⟩ := hK
  exact h b off f A1 n1 c1 A2 n2 c2 hok hf hs (hc 0 _ rfl) (hc 1 _ rfl)
end
theorem size_found (w : World) : (sizeOf 143).run Tryz.prog w = .ok 2 w := by kernel_rfl
/-- No block that is to come has a colour. -/
def clip (w : World) (col : Nat → Nat) : Nat → Nat := fun b => if b < w.heap.size then col b else 0
theorem clip_goes (w : World) (col : Nat → Nat) : Goes w col (clip w col) := fun b hb => if_pos hb
theorem clip_new {w : World} {col : Nat → Nat} {b : Nat} (h : w.heap.size ≤ b) : clip w col b = 0 := if_neg (by omega)
section
variable {w : World} {col : Nat → Nat} {s h t : Nat} {st : St} (c : UInt8)
set_option maxRecDepth 8000 in
set_option maxHeartbeats 8000000 in
theorem inmsg_none {σ : Hd} (H : IsSt w col s h t st) (hcl : ∀ b, w.heap.size ≤ b → col b = 0) (hp : putOf st.hd (st.came - 1) c = some (σ, [])) (hl1 : 1 ≤ st.left) (hl2 : st.left ≤ 4611686018427387000) (hc1 : 1 ≤ st.came) (hcm : st.came ≤ 4611686018427387904) (hn : st.records.length ≤ 1099511627776) :
    Calls Tryz.prog 74 #[.pointer (some ⟨s, 0, none⟩), .int .u8 c.toNat] w (StPost col s h t ({ st with hd := σ } : St).lefted w) := by
  obtain ⟨vh, vb, vr, ve, H⟩ := H
  have e0 := H.c0
  have e2 := H.c2
  have hlt := H.lt
  have HX := Lib.hid H
  have HP := Lib.hid hp
  have HCL := Lib.hid hcl
  clear H hp hcl
  have wc : IntKind.i64.wrap ((st.came : Int) - 1) = ((st.came - 1 : Nat) : Int) := by rw [IntWalk.i64_in _ (by omega)]; omega
  go_enter Tryz.func74, Tryz.ntmps74
  go_wp2
  (refine wp_region_mixT _ [0, 1, 2, 3, 4, 5, 6, 7, 8, 9] [10, 11] [12, 13, 14, 15, 16, 17] 18 (by kernel_rfl) (by kernel_rfl) (fun w'' => w''.cell? ⟨s, 0, none⟩ = some (.pointer (some ⟨h, 0, none⟩)) ∧ w''.cell? ⟨s, 2, none⟩ = some (.int .i64 st.came)) ?_ ?_; rotate_left; simp only [opsAt, List.filterMap_cons, List.filterMap_nil, List.getElem?_cons_succ, List.getElem?_cons_zero]; rotate_left)
  · exact ⟨e0, e2⟩
  (repeat (first | (apply wpStl_op; (focus (first | rfl | (go_simp; done))); (focus (intro w' hw'; skip; go_simp; first | done | rfl | exact ⟨rfl, rfl⟩)); (intro K hK; go_simp; refine hK _ ?_; clear hK K)) | (refine wpStl_no ?_ (fun K hK => ?_); (focus (first | rfl | (go_simp; done))); go_simp; refine hK _ ?_; clear hK K)))
  show wpMid _ _ _ _ _ _ _
  (refine wpMid_op ?_ (fun K hK => ?_); (focus (first | rfl | (go_simp; done))); go_simp)
  have hx1 : Ext w (w.drew.alloc (.cells #[.int .u8 c.toNat] 5)) := (Fr.refl _ _).drew.alloc _
  have hcx := Ext.cells hx1
  refine hK _ _ ⟨(hcx _ _ hlt).trans e0, (hcx _ _ hlt).trans e2⟩ ?_
  clear hK K
  (refine wpMid_op ?_ (fun K hK => ?_); (focus (first | rfl | (go_simp; done))); go_simp)
  have hsy : SlC Rd.u8 (w.drew.alloc (.cells #[.int .u8 c.toNat] 5)) (fun b => b = w.heap.size) (some ⟨w.heap.size, 0, none⟩) 1 1 [c] :=
    sl_newO (d := Rd.u8) (w := w.drew) (ok := NoB) (cells := [.int .u8 c.toNat]) (blk_new _ _) (Elems.one (d := Rd.u8) (x := c) rfl) ((Fr.refl _ _).alloc _) rfl (by decide) rfl (fun _ _ e => e.elim)
  refine (hand_Put _ (HX.out.hand.ext hx1) _ 1 c (st.came - 1) _ hsy (fun b hb e => by have hb : b = w.heap.size := hb; have := HCL.out b (by omega); unfold Hues at e; omega) HP.out).mono ?_
  rintro e w2 ⟨col2, Af, cf, hg2, rfl, hsf, hI2, hf2⟩
  have H2 := Lib.hid (HX.out.handed hx1 hf2 hg2 hI2)
  have HF2 := Lib.hid (Fr.trans (Ext.any hx1) (hues_hot hf2))
  have HG2 : Hid (Goes w col col2) := Lib.hid fun b hb => hg2 b (Nat.lt_of_lt_of_le hb hx1.size)
  have k0 := H2.out.c0
  have k2 := H2.out.c2
  refine hK _ _ ⟨k0, k2⟩ ?_
  clear hK K hsy hf2 hg2 hI2 hx1 hcx
  (repeat (first | (apply wpStl_op; (focus (first | rfl | (go_simp; done))); (focus (intro w' hw'; skip; go_simp; first | done | rfl | exact ⟨rfl, rfl⟩)); (intro K hK; go_simp; refine hK _ ?_; clear hK K)) | (refine wpStl_no ?_ (fun K hK => ?_); (focus (first | rfl | (go_simp; done))); go_simp; refine hK _ ?_; clear hK K)))
  (show wpList _ _ _ _ _ _; try simp only [List.drop_succ_cons, List.drop_zero])
  go_wp2
  have HQ : Hid (IsStX w2 col2 s h t ({ st with hd := σ } : St) vh vb vr ve) := H2
  have HGQ := HG2
  have HFQ := HF2
  clear H2 HG2 HF2 k0 k2 e0 e2
  generalize w2 = W at *
  generalize col2 = colq at *
  have k9 : W.cell? ⟨s, 9, none⟩ = some (.int .i64 st.left) := HQ.out.c9
  have k3 := HQ.out.c3
  have kf := HQ.out.cf
  have klt := HQ.out.lt
  have hfz : Fr (One s) W (W.setCell ⟨s, 9, none⟩ (.int .i64 ((st.left - 1 : Nat) : Int))) := (by repeat (first | with_reducible exact Fr.refl _ _ | (with_reducible refine Fr.set ?_ _ _ _ (One.self _)) | (with_reducible refine Fr.alloc ?_ _) | (with_reducible refine Fr.drew ?_)))
  have HQ1 := Lib.hid (HQ.out.own (st' := { ({ st with hd := σ } : St) with left := st.left - 1 }) hfz ((blk_set HQ.out.blk 9 _).trans (by simp [stCells])) rfl rfl rfl rfl rfl rfl)
  have HFZ : Hid (Fr (Hot col) w (W.setCell ⟨s, 9, none⟩ (.int .i64 ((st.left - 1 : Nat) : Int)))) := Lib.hid (Fr.trans' HFQ.out hfz (fun b hb e => by unfold One at e; unfold Hot; rw [e, ← HGQ.out s (by rw [← e]; exact hb), HQ.out.cs]; omega))
  have wl : IntKind.i64.wrap ((st.left : Int) - 1) = ((st.left - 1 : Nat) : Int) := by rw [IntWalk.i64_in _ (by omega)]; omega
  clear hfz
  by_cases h1 : st.left = 1
  · have hq : (((st.left - 1 : Nat) : Int) == 0) = true := by rw [beq_iff_eq]; omega
    have HR : Hid ((({ st with hd := σ } : St)).lefted = ({ ({ st with hd := σ } : St) with left := st.left - 1 } : St).ended) := Lib.hid (if_pos h1)
    have HE : Hid (Calls Tryz.prog 118 #[.pointer (some ⟨s, 0, none⟩)] (W.setCell ⟨s, 9, none⟩ (.int .i64 ((st.left - 1 : Nat) : Int))) (StPost col s h t ({ ({ st with hd := σ } : St) with left := st.left - 1 } : St).ended w)) := Lib.hid ((stream_end ⟨_, _, _, _, HQ1.out⟩ hn).mono fun e w' hp => hp.after HGQ.out HFZ.out)
    clear h1
    generalize st.left - 1 = lf at *
    refine wp_loop_rounds 1 ?_
    rw [rounds_succ]
    go_wp2_with ((go_at_call 118; refine (HE.out).mono ?_; rintro e w9 ⟨col9, hg9, rfl, hI9, hf9⟩))
    ((try simp only [Exit.inBlock, Exit.then]); refine bodyPost_end (results_none rfl _ _ _) rfl ?_)
    rw [HR.out]
    exact ⟨col9, hg9, rfl, hI9, hf9⟩
  · have hq : (((st.left - 1 : Nat) : Int) == 0) = false := by rw [beq_eq_false_iff_ne]; omega
    have HR : Hid ((({ st with hd := σ } : St)).lefted = { ({ st with hd := σ } : St) with left := st.left - 1 }) := Lib.hid (if_neg h1)
    clear h1
    generalize st.left - 1 = lf at *
    refine wp_loop_rounds 1 ?_
    rw [rounds_succ]
    go_wp2
    ((try simp only [Exit.inBlock, Exit.then]); refine bodyPost_end (results_none rfl _ _ _) rfl ?_)
    rw [HR.out]
    exact ⟨colq, HGQ.out, rfl, ⟨_, _, _, _, HQ1.out⟩, HFZ.out⟩
set_option maxRecDepth 8000 in
set_option maxHeartbeats 8000000 in
theorem inmsg_one {σ : Hd} {g : List (Nat × Nat)} (H : IsSt w col s h t st) (hcl : ∀ b, w.heap.size ≤ b → col b = 0) (hp : putOf st.hd (st.came - 1) c = some (σ, [([24, 0, 0, 1, 1], g)])) (hl1 : 1 ≤ st.left) (hl2 : st.left ≤ 4611686018427387000) (hc1 : 1 ≤ st.came) (hcm : st.came ≤ 4611686018427387904) (hn : st.records.length ≤ 1099511627776) (hne : st.events.length ≤ 1099511627776) (hst : st.steps ≤ 4611686018427387500) :
    Calls Tryz.prog 74 #[.pointer (some ⟨s, 0, none⟩), .int .u8 c.toNat] w (StPost col s h t ({ st with hd := σ, steps := st.steps + 5, events := st.events ++ [(22, [24, 0, 0, 1, 1])] } : St).lefted w) := by
  obtain ⟨vh, vb, vr, ve, H⟩ := H
  obtain ⟨Ae, ce, rfl⟩ := H.evs.isSl
  have e0 := H.c0
  have e2 := H.c2
  have hlt := H.lt
  have HX := Lib.hid H
  have HP := Lib.hid hp
  have HCL := Lib.hid hcl
  clear H hp hcl
  have wc : IntKind.i64.wrap ((st.came : Int) - 1) = ((st.came - 1 : Nat) : Int) := by rw [IntWalk.i64_in _ (by omega)]; omega
  go_enter Tryz.func74, Tryz.ntmps74
  go_wp2
  (refine wp_region_mixT _ [0, 1, 2, 3, 4, 5, 6, 7, 8, 9] [10, 11] [12, 13, 14, 15, 16, 17] 18 (by kernel_rfl) (by kernel_rfl) (fun w'' => w''.cell? ⟨s, 0, none⟩ = some (.pointer (some ⟨h, 0, none⟩)) ∧ w''.cell? ⟨s, 2, none⟩ = some (.int .i64 st.came)) ?_ ?_; rotate_left; simp only [opsAt, List.filterMap_cons, List.filterMap_nil, List.getElem?_cons_succ, List.getElem?_cons_zero]; rotate_left)
  · exact ⟨e0, e2⟩
  (repeat (first | (apply wpStl_op; (focus (first | rfl | (go_simp; done))); (focus (intro w' hw'; skip; go_simp; first | done | rfl | exact ⟨rfl, rfl⟩)); (intro K hK; go_simp; refine hK _ ?_; clear hK K)) | (refine wpStl_no ?_ (fun K hK => ?_); (focus (first | rfl | (go_simp; done))); go_simp; refine hK _ ?_; clear hK K)))
  show wpMid _ _ _ _ _ _ _
  (refine wpMid_op ?_ (fun K hK => ?_); (focus (first | rfl | (go_simp; done))); go_simp)
  have hx1 : Ext w (w.drew.alloc (.cells #[.int .u8 c.toNat] 5)) := (Fr.refl _ _).drew.alloc _
  have hcx := Ext.cells hx1
  refine hK _ _ ⟨(hcx _ _ hlt).trans e0, (hcx _ _ hlt).trans e2⟩ ?_
  clear hK K
  (refine wpMid_op ?_ (fun K hK => ?_); (focus (first | rfl | (go_simp; done))); go_simp)
  have hsy : SlC Rd.u8 (w.drew.alloc (.cells #[.int .u8 c.toNat] 5)) (fun b => b = w.heap.size) (some ⟨w.heap.size, 0, none⟩) 1 1 [c] :=
    sl_newO (d := Rd.u8) (w := w.drew) (ok := NoB) (cells := [.int .u8 c.toNat]) (blk_new _ _) (Elems.one (d := Rd.u8) (x := c) rfl) ((Fr.refl _ _).alloc _) rfl (by decide) rfl (fun _ _ e => e.elim)
  refine (hand_Put _ (HX.out.hand.ext hx1) _ 1 c (st.came - 1) _ hsy (fun b hb e => by have hb : b = w.heap.size := hb; have := HCL.out b (by omega); unfold Hues at e; omega) HP.out).mono ?_
  rintro e w2 ⟨col2, Af, cf, hg2, rfl, hsf, hI2, hf2⟩
  have H2 := Lib.hid (HX.out.handed hx1 hf2 hg2 hI2)
  have HF2 := Lib.hid (Fr.trans (Ext.any hx1) (hues_hot hf2))
  have HG2 : Hid (Goes w col col2) := Lib.hid fun b hb => hg2 b (Nat.lt_of_lt_of_le hb hx1.size)
  have k0 := H2.out.c0
  have k2 := H2.out.c2
  refine hK _ _ ⟨k0, k2⟩ ?_
  have HSF := Lib.hid hsf
  have HSZ : Hid (w.heap.size + 1 ≤ w2.heap.size) := Lib.hid (by have := hf2.size; simpa using this)
  clear hK K hsy hf2 hg2 hI2 hx1 hcx hsf
  (repeat (first | (apply wpStl_op; (focus (first | rfl | (go_simp; done))); (focus (intro w' hw'; skip; go_simp; first | done | rfl | exact ⟨rfl, rfl⟩)); (intro K hK; go_simp; refine hK _ ?_; clear hK K)) | (refine wpStl_no ?_ (fun K hK => ?_); (focus (first | rfl | (go_simp; done))); go_simp; refine hK _ ?_; clear hK K)))
  (show wpList _ _ _ _ _ _; try simp only [List.drop_succ_cons, List.drop_zero])
  go_wp2
  have hws : w.heap.size + 1 ≤ w2.heap.size := by have := HF2.out.size; have := HSZ.out; omega
  clear k0 k2 e0 e2
  go_loopg [30] 1 (fun k i wr => (k = 1 ∧ i = .int .i64 0 ∧ wr = w2) ∨ (k = 0 ∧ i = .int .i64 1 ∧ ∃ colq vv, Goes w col colq ∧ IsStX wr colq s h t ({ st with hd := σ, steps := st.steps + 5, events := st.events ++ [(22, [24, 0, 0, 1, 1])] } : St) vh vb vr vv ∧ Fr (Hot col) w wr))
  case atStart => exact .inl ⟨rfl, rfl, rfl⟩
  case round =>
    obtain ⟨rfl, rfl, rfl⟩ | ⟨rfl, rfl, colq, vv, hgq, hq, hfq⟩ := hrel
    · have k1 := H2.out.c1
      have kf := H2.out.cf
      have klt := H2.out.lt
      have ktl : t < wr.heap.size := blk_lt H2.out.tally
      go_wp2_with (refine wpList_idx_found HSF.out rfl _ _ _ rfl _ _ Tryz.underlying193 (size_found _) rfl rfl ?_ ?_ ?_)
      · decide
      · simp
      intro bf off fb fg A1 n1 c1 A2 n2 c2 hk1 hk2 e1 e2 hsd d0 d1
      subst e1 e2
      obtain rfl : n1 = 5 := by have := hsd.len; simpa using this.symm
      have hbf : bf < wr.heap.size := by
        rcases Nat.lt_or_ge bf wr.heap.size with h' | h'
        · exact h'
        · have h0 : wr.heap[bf]? = none := Array.getElem?_eq_none h'
          simp [World.cell?, h0] at d0
      have HSD := Lib.hid hsd
      clear hsd hk1 hk2
      go_wp2
      refine wp_region_mix _ 7 8 (by kernel_rfl) (by kernel_rfl) (fun w'' => w''.cell? ⟨s, 1, none⟩ = some (.pointer (some ⟨t, 0, none⟩)) ∧ w''.cell? ⟨wr.heap.size, 0, none⟩ = some (.slice A1 5 c1)) ?_ ?_
      · exact ⟨by go_simp, by go_simp⟩
      simp only [List.take_succ_cons, List.take_zero]
      (repeat (first | (apply wpStl_op; (focus (first | rfl | (go_simp; done))); (focus (intro w' hw'; skip; go_simp; first | done | rfl | exact ⟨rfl, rfl⟩)); (intro K hK; go_simp; refine hK _ ?_; clear hK K)) | (refine wpStl_no ?_ (fun K hK => ?_); (focus (first | rfl | (go_simp; done))); go_simp; refine hK _ ?_; clear hK K)))
      (show wpMid _ _ _ _ _ _ _; simp only [List.drop_succ_cons, List.drop_zero, List.take_succ_cons, List.take_zero, Nat.reduceSub])
      (refine wpMid_op ?_ (fun K hK => ?_); (focus (first | rfl | (go_simp; done))); go_simp)
      have hx4 : Ext wr ((wr.alloc (.cells #[.slice A1 5 c1, .slice A2 n2 c2] 143)).drew) := ((Fr.refl _ _).alloc _).drew
      have kF0 : ((wr.alloc (.cells #[.slice A1 5 c1, .slice A2 n2 c2] 143)).drew).cell? ⟨wr.heap.size, 0, none⟩ = some (.slice A1 5 c1) := by go_simp
      refine (tally_Spend t st.steps 5 _ ((H2.out.ext hx4).tally) (by omega)).mono ?_
      rintro e w4 ⟨rfl, hT4, hf4⟩
      have H4 : Hid (IsStX w4 col2 s h t ({ st with hd := σ, steps := st.steps + 5 } : St) vh vb vr (.slice Ae st.events.length ce)) := Lib.hid ((H2.out.ext hx4).tallied hf4 hT4)
      have ktn : ¬ wr.heap.size = t := by omega
      have hzw : wr.heap.size < ((wr.alloc (.cells #[.slice A1 5 c1, .slice A2 n2 c2] 143)).drew).heap.size := by simp [World.drew]
      have kF : w4.cell? ⟨wr.heap.size, 0, none⟩ = some (.slice A1 5 c1) := (Fr.cells hf4 _ _ hzw ktn).trans kF0
      have hz4 : wr.heap.size < w4.heap.size := Nat.lt_of_lt_of_le hzw hf4.size
      refine hK _ _ ⟨H4.out.c1, kF⟩ ?_
      clear hK K
      have hx0 : Fr (Hot col) w w4 := Fr.trans' (Fr.trans HF2.out (Ext.any hx4)) hf4 (fun b hb e => by unfold One at e; unfold Hot; rw [e, ← HG2.out t (by rw [← e]; exact hb), H2.out.ct]; omega)
      have HX0 := Lib.hid hx0
      have HD4 : Hid (SlC Rd.u8 w4 (fun b => w.heap.size + 1 ≤ b ∧ col2 b = 0) A1 5 c1 [24, 0, 0, 1, 1]) := Lib.hid ((HSD.out.ext hx4).fr hf4 (fun b hb e => by unfold One at e; have := H2.out.ct; rw [← e] at this; omega))
      have HM : Hid (Calls Tryz.prog 9 #[.slice A1 5 c1, .int .i64 0] w4 (fun e w' => ∃ x : Nat, ∃ A n c A' n' c', e = .returned (.tuple #[.agg #[.int .i64 24, .int .u64 x, .slice A n c, .slice A' n' c'], .int .i64 5, .int .i64 0]) ∧ Ext w4 w')) := Lib.hid (by
        have := message_Read ask24 A1 5 c1 [24, 0, 0, 1, 1] 0 _ w4 HD4.out.lt (fun b hb => hb) (by decide) (by decide) H4.out.env.laid ask24_spec
        rw [key_update] at this
        exact this.mono fun e w' ⟨⟨x, A, n, c, A', n', c', he, _⟩, hx⟩ => ⟨x, A, n, c, A', n', c', he, hx⟩)
      clear hx0 hx4 hf4 hT4 kF0 k1 kf d0 d1
      have klt4 := H4.out.lt
      have k11 := H4.out.c11
      (show wpList _ _ _ _ _ _; try simp only [List.drop_succ_cons, List.drop_zero])
      go_wp2_with ((go_at_call 9; refine (HM.out).mono ?_; rintro e w5 ⟨x, A3, n3, c3, A4, n4, c4, rfl, hx5⟩); have hz5 : wr.heap.size < w5.heap.size := Nat.lt_of_lt_of_le hz4 hx5.size; have kf5 : w5.cell? ⟨wr.heap.size, 0, none⟩ = some (.slice A1 5 c1) := (Ext.cells hx5 _ _ hz4).trans kF; have k51 : w5.cell? ⟨s, 11, none⟩ = some (.slice Ae st.events.length ce) := (Ext.cells hx5 _ _ klt4).trans k11; have klt5 : s < w5.heap.size := Nat.lt_of_lt_of_le klt4 hx5.size)
      have hx8 : Ext w4 (w5.alloc (.cells #[.int .i64 24, .int .u64 x, .slice A3 n3 c3, .slice A4 n4 c4] 30)) := hx5.alloc _
      have H8 := Lib.hid (H4.out.ext hx8)
      have HD8 := Lib.hid (HD4.out.ext hx8)
      have HX8 := Lib.hid (Fr.trans HX0.out (Ext.any hx8))
      have kF8 : (w5.alloc (.cells #[.int .i64 24, .int .u64 x, .slice A3 n3 c3, .slice A4 n4 c4] 30)).cell? ⟨wr.heap.size, 0, none⟩ = some (.slice A1 5 c1) := (Ext.cells hx8 _ _ hz4).trans kF
      have hz8 : wr.heap.size < (w5.alloc (.cells #[.int .i64 24, .int .u64 x, .slice A3 n3 c3, .slice A4 n4 c4] 30)).heap.size := Nat.lt_of_lt_of_le hz4 hx8.size
      clear hx8 hx5 kf5 k51 klt5 hz5 kF k11
      generalize w5.alloc (.cells #[.int .i64 24, .int .u64 x, .slice A3 n3 c3, .slice A4 n4 c4] 30) = V at *
      have e11 := H8.out.c11
      have elt := H8.out.lt
      have ef := H8.out.cf
      refine wp_region_mix _ 8 10 (by kernel_rfl) (by kernel_rfl) (fun w'' => w''.cell? ⟨s, 11, none⟩ = some (.slice Ae st.events.length ce) ∧ w''.cell? ⟨wr.heap.size, 0, none⟩ = some (.slice A1 5 c1)) ?_ ?_
      · exact ⟨e11, kF8⟩
      simp only [List.take_succ_cons, List.take_zero]
      (repeat (first | (apply wpStl_op; (focus (first | rfl | (go_simp; done))); (focus (intro w' hw'; skip; go_simp; first | done | rfl | exact ⟨rfl, rfl⟩)); (intro K hK; go_simp; refine hK _ ?_; clear hK K)) | (refine wpStl_no ?_ (fun K hK => ?_); (focus (first | rfl | (go_simp; done))); go_simp; refine hK _ ?_; clear hK K)))
      (show wpMid _ _ _ _ _ _ _; simp only [List.drop_succ_cons, List.drop_zero, List.take_succ_cons, List.take_zero, Nat.reduceSub])
      (refine wpMid_op ?_ (fun K hK => ?_); (focus (first | rfl | (go_simp; done))); go_simp)
      have hxa : Ext V (V.drew.alloc (.cells #[.int .i64 22, .slice A1 5 c1] 49)) := (Fr.refl _ _).drew.alloc _
      have hca := Ext.cells hxa
      refine hK _ _ ⟨(hca _ _ elt).trans e11, (hca _ _ hz8).trans kF8⟩ ?_
      clear hK K
      refine wpMid_op ?_ (fun K hK => ?_)
      · rfl
      have hvb : ∀ b, (Value.slice Ae st.events.length ce).ownBlock = some b → b < V.heap.size ∧ col2 b = 7 := fun b e => ⟨(H8.out.evs.1.block b e).2, H8.out.evs.2 b e⟩
      have hsy : SlC Rd.event (V.drew.alloc (.cells #[.int .i64 22, .slice A1 5 c1] 49)) (GrowOk V.heap.size (V.heap.size + 1) col2 (.slice Ae st.events.length ce)) (some ⟨V.heap.size, 0, none⟩) 1 1 [(22, [24, 0, 0, 1, 1])] := by
        refine sl_newO (d := Rd.event) (w := V.drew) (ok := fun b => b < V.heap.size ∧ col2 b = 0) (cells := [.int .i64 22, .slice A1 5 c1]) (blk_new _ _) (Elems.one (d := Rd.event) (x := (22, [24, 0, 0, 1, 1])) ⟨_, _, _, rfl, (HD8.out.mono fun b hb hh => ⟨hb, hh.2⟩).ext (Fr.refl _ _).drew⟩) ((Fr.refl _ _).alloc _) rfl (by decide) ⟨Nat.lt_succ_self _, fun e => ?_, .inr (Nat.le_refl _)⟩ (fun b hb e => ⟨by have := e.1; omega, fun e' => ?_, .inl e.2⟩)
        · have := (hvb _ e).1
          simp [World.drew] at this
        · have := (hvb _ e').2
          have := e.2
          omega
      have hto := H8.out.evs.togrow hxa (by omega)
      rw [show (V.drew.alloc (.cells #[.int .i64 22, .slice A1 5 c1] 49)).heap.size = V.heap.size + 1 from by simp] at hto
      refine wp_append_rows (d := Rd.event) (v := .slice Ae st.events.length ce) (xs := st.events) (ys := [(22, [24, 0, 0, 1, 1])]) (n := st.events.length) (m := 1) (base := 0) rfl app_event rfl hto growok_not hsy rfl (by omega) (Nat.zero_le _) ?_
      intro v' wa hown hgr hblk
      rw [show V.heap.size + 1 = (V.drew.alloc (.cells #[.int .i64 22, .slice A1 5 c1] 49)).heap.size from by simp] at hown
      have HS := Lib.hid (H8.out.evs_set hxa hown (by simp) hgr hblk)
      have hFa : Fr (fun b => col2 b = 7) V wa := Fr.trans (Ext.any hxa) (Fr.of_grow hgr H8.out.evs.2)
      have hba : wa.heap[s]? = _ := hFa.blk H8.out.blk (by rw [H8.out.cs]; omega)
      have kFa : wa.cell? ⟨wr.heap.size, 0, none⟩ = some (.slice A1 5 c1) := by
        have hFb : Fr (fun b => (Value.slice Ae st.events.length ce).ownBlock = some b) V wa := Fr.trans (Ext.any hxa) (Fr.of_grow hgr (fun k hk => hk))
        exact (Fr.cells hFb _ _ hz8 (fun e => Nat.lt_irrefl _ (H2.out.evs.1.block _ e).2)).trans kF8
      refine hK _ _ ⟨(blk_cell hba 11).trans rfl, kFa⟩ ?_
      clear hK K
      obtain ⟨A9, c9, rfl, _⟩ := hown.sl
      have r11 : wa.cell? ⟨s, 11, none⟩ = some (.slice Ae st.events.length ce) := (blk_cell hba 11).trans rfl
      have rf : ∀ i, wa.frozen? ⟨s, i, none⟩ = false := fun i => blk_unfrozen hba i
      clear hba hown hgr hblk hto hsy hxa hca hvb e11 ef hFa
      (show wpList _ _ _ _ _ _; try simp only [List.drop_succ_cons, List.drop_zero])
      go_wp2
      all_goals
        go_roundg 0
        case measure => omega
        case rel =>
          obtain ⟨h1, h2, h3⟩ := HS.out
          have hv : ∀ b, b < w.heap.size → b < V.heap.size := fun b hb => Nat.lt_of_lt_of_le hb HX8.out.size
          refine .inr ⟨rfl, rfl, _, _, fun b hb => (h2 b (hv b hb)).trans (HG2.out b hb), h1, Fr.trans' HX8.out h3 (fun b hb e => ?_)⟩
          unfold Hot at *
          rw [HG2.out b hb] at e
          exact e
    · have HQ : Hid (IsStX wr colq s h t ({ st with hd := σ, steps := st.steps + 5, events := st.events ++ [(22, [24, 0, 0, 1, 1])] } : St) vh vb vr vv) := Lib.hid hq
      have HGQ := Lib.hid hgq
      have HFQ := Lib.hid hfq
      clear hq hgq hfq H2 HG2 HF2 HSF
      generalize wr = W at *
      have k9 : W.cell? ⟨s, 9, none⟩ = some (.int .i64 st.left) := HQ.out.c9
      have k3 := HQ.out.c3
      have kf := HQ.out.cf
      have klt := HQ.out.lt
      have hfz : Fr (One s) W (W.setCell ⟨s, 9, none⟩ (.int .i64 ((st.left - 1 : Nat) : Int))) := (by repeat (first | with_reducible exact Fr.refl _ _ | (with_reducible refine Fr.set ?_ _ _ _ (One.self _)) | (with_reducible refine Fr.alloc ?_ _) | (with_reducible refine Fr.drew ?_)))
      have HQ1 := Lib.hid (HQ.out.own (st' := { ({ st with hd := σ, steps := st.steps + 5, events := st.events ++ [(22, [24, 0, 0, 1, 1])] } : St) with left := st.left - 1 }) hfz ((blk_set HQ.out.blk 9 _).trans (by simp [stCells])) rfl rfl rfl rfl rfl rfl)
      have HFZ : Hid (Fr (Hot col) w (W.setCell ⟨s, 9, none⟩ (.int .i64 ((st.left - 1 : Nat) : Int)))) := Lib.hid (Fr.trans' HFQ.out hfz (fun b hb e => by unfold One at e; unfold Hot; rw [e, ← HGQ.out s (by rw [← e]; exact hb), HQ.out.cs]; omega))
      have wl : IntKind.i64.wrap ((st.left : Int) - 1) = ((st.left - 1 : Nat) : Int) := by rw [IntWalk.i64_in _ (by omega)]; omega
      clear hfz
      by_cases h1 : st.left = 1
      · have hq : (((st.left - 1 : Nat) : Int) == 0) = true := by rw [beq_iff_eq]; omega
        have HR : Hid ((({ st with hd := σ, steps := st.steps + 5, events := st.events ++ [(22, [24, 0, 0, 1, 1])] } : St)).lefted = ({ ({ st with hd := σ, steps := st.steps + 5, events := st.events ++ [(22, [24, 0, 0, 1, 1])] } : St) with left := st.left - 1 } : St).ended) := Lib.hid (if_pos h1)
        have HE : Hid (Calls Tryz.prog 118 #[.pointer (some ⟨s, 0, none⟩)] (W.setCell ⟨s, 9, none⟩ (.int .i64 ((st.left - 1 : Nat) : Int))) (StPost col s h t ({ ({ st with hd := σ, steps := st.steps + 5, events := st.events ++ [(22, [24, 0, 0, 1, 1])] } : St) with left := st.left - 1 } : St).ended w)) := Lib.hid ((stream_end ⟨_, _, _, _, HQ1.out⟩ hn).mono fun e w' hp => hp.after HGQ.out HFZ.out)
        clear h1
        generalize st.left - 1 = lf at *
        go_wp2_with ((go_at_call 118; refine (HE.out).mono ?_; rintro e w9 ⟨col9, hg9, rfl, hI9, hf9⟩))
        ((try simp only [Exit.inBlock, Exit.then]); refine bodyPost_end (results_none rfl _ _ _) rfl ?_)
        rw [HR.out]
        exact ⟨col9, hg9, rfl, hI9, hf9⟩
      · have hq : (((st.left - 1 : Nat) : Int) == 0) = false := by rw [beq_eq_false_iff_ne]; omega
        have HR : Hid ((({ st with hd := σ, steps := st.steps + 5, events := st.events ++ [(22, [24, 0, 0, 1, 1])] } : St)).lefted = { ({ st with hd := σ, steps := st.steps + 5, events := st.events ++ [(22, [24, 0, 0, 1, 1])] } : St) with left := st.left - 1 }) := Lib.hid (if_neg h1)
        clear h1
        generalize st.left - 1 = lf at *
        go_wp2
        ((try simp only [Exit.inBlock, Exit.then]); refine bodyPost_end (results_none rfl _ _ _) rfl ?_)
        rw [HR.out]
        exact ⟨colq, HGQ.out, rfl, ⟨_, _, _, _, HQ1.out⟩, HFZ.out⟩

theorem stream_inMessage {st' : St} (H : IsSt w col s h t st) (hs : st.inMessage c = some st') (hcm : st.came ≤ 4611686018427387904) (hn : st.records.length ≤ 1099511627776) (hne : st.events.length ≤ 1099511627776) (hst : st.steps ≤ 4611686018427387500) :
    Calls Tryz.prog 74 #[.pointer (some ⟨s, 0, none⟩), .int .u8 c.toNat] w (StPost col s h t st' w) := by
  unfold St.inMessage at hs
  split at hs
  · cases hs
  · rename_i hb
    have hl1 : 1 ≤ st.left := by omega
    have hl2 : st.left ≤ 4611686018427387000 := by omega
    have hc1 : 1 ≤ st.came := by omega
    split at hs
    · rename_i σ hp
      injection hs with hs
      subst hs
      exact (inmsg_none c (H.goes (clip_goes w col)) (fun b hb => clip_new hb) hp hl1 hl2 hc1 hcm hn).mono fun e w' hp => hp.after (clip_goes w col) (Fr.refl _ _)
    · rename_i σ m g hp
      split at hs
      · rename_i hm
        subst hm
        injection hs with hs
        subst hs
        exact (inmsg_one c (H.goes (clip_goes w col)) (fun b hb => clip_new hb) hp hl1 hl2 hc1 hcm hn hne hst).mono fun e w' hp => hp.after (clip_goes w col) (Fr.refl _ _)
      · cases hs
    · cases hs
end
end Go.Proofs.YtalbiepdkaldmaaGreatDoor
