/- whole.Pieces where nothing is told, and of one piece; whole.Write of nothing. whole.Write of nothing; the small functions of law21. WholeEmpty: no bytes are a session without events, one byte is too few. -/
import Derived.Test.YtalbiepdkaldmaaGreatDoorProg
import Derived.Test.YtalbiepdkaldmaaGreatDoorLawPlaces
import Derived.Deep.Upon
import Derived.Deep.QuietTactic
import Derived.Deep.LoopGhost
set_option linter.unusedVariables false
set_option linter.unusedSimpArgs false
namespace Go.Proofs.YtalbiepdkaldmaaGreatDoor
open Go.RowKit
section
variable {P : Program} {ops : Array Oper} {rest : List Oper} {o : Oper} {a : Act} {w : World} {Q : Exit → Act → World → Prop}
theorem wpList_append_nothing (hg : o.guard = none) {s x : Operand} {t e : TypeId} (i : TypeInfo) (ho : o.op = .call { callee := .builtin .append, args := #[s, x], argTypes := #[t, t] }) (ht : P.underlying t = some (.slice e)) (hi : P.info? e = some i)
    {B A : Option Addr} {n k c : Nat} (hle : n ≤ k) (hs : a.eval s = .slice B n k) (hx : a.eval x = .slice A 0 c) (h : wpList P ops Q rest (a.put o.dst (.slice B n k)) w) : wpList P ops Q (o :: rest) a w := by
  refine wpList_plain hg fun K hK => ?_
  have hsrc : Src P i.size t (.slice A 0 c) 0 [] w := by
    cases A with
    | none => exact Src.ofNil w ht c
    | some ad => exact Src.ofSlice w ht ad 0 c [] (by simp) (fun j u hu => by simp at hu) (fun u hu => by cases hu)
  have hrun := run_append_nothing w t t o.type e i ht hi B n k hle (.slice A 0 c) hsrc
  unfold Oper.wp
  simp [execOp, ho, resolve, invoke, builtin, hs, hx, hrun, Result.andThen]
  exact hK _ _ h
end
section
variable {w : World} {col : Nat → Nat} {s h t : Nat} {st : St}
theorem stream_Records (H : IsSt w col s h t st) (hn : st.records.length ≤ 1000000000) : Calls Tryz.prog 18 #[.pointer (some ⟨s, 0, none⟩)] w fun e w' => ∃ A c, e = .returned (.slice A st.records.length c) ∧ Ext w w' := by
  obtain ⟨vh, vb, vr, ve, H⟩ := H
  obtain ⟨Ar, cr, rfl⟩ := H.recs.isSl
  have c10 := H.c10
  have HC := Lib.hid (clone_rcd Ar st.records.length cr st.records Any w H.recs.src hn)
  clear H
  go_enter Tryz.func18, Tryz.ntmps18
  go_wp2_with (first | ((go_at_call 44; refine (HC.out).mono ?_; rintro e w1 ⟨A8, c8, rfl, ho8, hx8⟩)))
  refine bodyPost_ret (v := .slice A8 st.records.length c8) (by simp only [results, Tryz.results18]; go_simp) rfl ?_
  exact ⟨_, _, rfl, hx8⟩
set_option maxHeartbeats 2000000 in
theorem stream_Close_short (H : IsSt w col s h t st) (he : st.err = 0) (hcl : st.closed = false) (hl : st.left = 0) (hh : 0 < st.head.length) : Calls Tryz.prog 16 #[.pointer (some ⟨s, 0, none⟩)] w fun e w' => e = .returned (.tuple #[.int .i64 st.came, .int .i64 4]) ∧ IsSt w' col s h t { st with closed := true } ∧ Fr (Hot col) w w' := by
  obtain ⟨vh, vb, vr, ve, H⟩ := H
  obtain ⟨Ah, ch, rfl⟩ := H.head.isSl
  have c2 := H.c2
  have c4 := H.c4
  have c9 : w.cell? ⟨s, 9, none⟩ = some (.int .i64 0) := by rw [H.c9, hl]; rfl
  have c13 : w.cell? ⟨s, 13, none⟩ = some (.int .i64 0) := by rw [H.c13, he]; rfl
  have c14 : w.cell? ⟨s, 14, none⟩ = some (.bool false) := by rw [H.c14, hcl]
  have hlt := H.lt
  have ff := H.cf
  have hf : Fr (One s) w (w.setCell ⟨s, 14, none⟩ (.bool true)) := (by repeat (first | with_reducible exact Fr.refl _ _ | (with_reducible refine Fr.set ?_ _ _ _ (One.self _)) | (with_reducible refine Fr.alloc ?_ _) | (with_reducible refine Fr.drew ?_)))
  have H1 := Lib.hid (H.own (st' := { st with closed := true }) hf ((blk_set H.blk 14 _).trans (by simp [stCells])) rfl rfl rfl rfl rfl rfl)
  have HF := Lib.hid (hf.hot H.cs)
  have d : decide ((0 : Int) < (st.head.length : Int)) = true := by simp; omega
  have hne : ¬ st.head.length = 0 := by omega
  clear H hf
  generalize st.head.length = hn at *
  go_enter Tryz.func16, Tryz.ntmps16
  go_wp2
  refine bodyPost_ret (v := .tuple #[.int .i64 st.came, .int .i64 4]) (by simp only [results, Tryz.results16]; go_simp) rfl ?_
  exact ⟨rfl, ⟨_, _, _, _, H1.out⟩, HF.out⟩
end
theorem own_rcd {e base n : Nat} {w : World} {ok ok' : Nat → Prop} {v : Value} {xs : List Rec} (h : OwnR Rd.rcd e w base ok v n xs) : OwnR Rd.rcd e w base ok' v n xs := h
theorem own_none {α : Type} {d : Rd α} {e base n : Nat} {w : World} {ok ok' : Nat → Prop} {v : Value} (h : OwnR d e w base ok v n []) : OwnR d e w base ok' v n [] := by
  obtain ⟨h1, cells, h2, h3⟩ := h
  exact ⟨h1, cells, h2, h3.1, fun j x hx => by simp at hx⟩
/-- Blocks without a colour may turn, as long as no event is kept. -/
theorem IsSt.fr0 {F : Nat → Prop} {w w' : World} {col : Nat → Nat} {s h t : Nat} {st : St} (H : IsSt w col s h t st) (hev : st.events = []) (hf : Fr F w w') (hF : ∀ b, b < w.heap.size → F b → col b = 0 ∧ 11 ≤ b) : IsSt w' col s h t st := by
  obtain ⟨vh, vb, vr, ve, H⟩ := H
  have hr : Fr (fun b => b < w.heap.size ∧ F b) w w' := ⟨hf.os, hf.tape, hf.output, hf.size, fun k hk hn => hf.block k hk (fun hF => hn ⟨hk, hF⟩)⟩
  have hc : ∀ b, (b < w.heap.size ∧ F b) → col b = 0 := fun b hb => (hF b hb.1 hb.2).1
  have hG : ∀ b, b < 11 → ¬ (b < w.heap.size ∧ F b) := fun b hb e => by have := (hF b e.1 e.2).2; omega
  have hE := H.evs
  rw [hev] at hE
  refine ⟨vh, vb, vr, ve, ⟨H.cs, hr.blk H.blk (fun e => by have := hc s e; have := H.cs; omega), ⟨?_, H.head.2⟩, ⟨?_, H.body.2⟩, ⟨?_, H.recs.2⟩, ?_, H.hand.fr hr (fun b _ e => by have := hc b e; omega), H.ct, H.tally.fr hr (fun e => by have := hc t e; have := H.ct; omega), ⟨H.env.lim.fr hr hG, H.env.laid.fr hr hG, H.env.col0⟩⟩⟩
  · exact own_u8 ((own_u8 (ok' := NoB) H.head.1).fr hr (fun k hk e => by have := hc k e; have := H.head.2 k hk; omega) (fun _ e => e.elim))
  · exact own_u8 ((own_u8 (ok' := NoB) H.body.1).fr hr (fun k hk e => by have := hc k e; have := H.body.2 k hk; omega) (fun _ e => e.elim))
  · exact own_rcd ((own_rcd (ok' := NoB) H.recs.1).fr hr (fun k hk e => by have := hc k e; have := H.recs.2 k hk; omega) (fun _ e => e.elim))
  · rw [hev]
    exact ⟨own_none ((own_none (ok' := NoB) hE.1).fr hr (fun k hk e => by have := hc k e; have := hE.2 k hk; omega) (fun _ e => e.elim)), hE.2⟩
/-- How a stream ends that did not fail. -/
def St.closing (st : St) (er : Nat) : Prop := st.err = 0 ∧ st.left = 0 ∧ ((st.head = [] ∧ st.hd.data = [] ∧ er = 0) ∨ (0 < st.head.length ∧ er = 4))
theorem stream_Close_any {w : World} {col : Nat → Nat} {s h t er : Nat} {st : St} (H : IsSt w col s h t st) (hcl : st.closed = false) (hc : st.closing er) : Calls Tryz.prog 16 #[.pointer (some ⟨s, 0, none⟩)] w fun e w' => e = .returned (.tuple #[.int .i64 st.came, .int .i64 er]) ∧ IsSt w' col s h t { st with closed := true } ∧ Fr (Hot col) w w' := by
  obtain ⟨h1, h2, ⟨h3, h4, rfl⟩ | ⟨h3, rfl⟩⟩ := hc
  · exact stream_Close_ok H h1 hcl h2 h3 h4
  · exact stream_Close_short H h1 hcl h2 h3
theorem run_okw {st y : St} {b : Bytes} (h : st.run b = some y) (he : y.err = 0) : st.err = 0 := by
  by_cases hz : st.err = 0
  · exact hz
  · rw [run_err hz] at h
    injection h with h
    rw [h]
    exact he
theorem size_bytesw (w : World) : (sizeOf 22).run Tryz.prog w = .ok 1 w := by kernel_rfl
theorem info_event : ∃ i, Tryz.prog.info? 49 = some i := by
  obtain ⟨i, z, _, hi, _⟩ := app_event
  exact ⟨i, hi⟩
def sesV (A : Option Addr) (n c : Nat) (B : Option Addr) (m d : Nat) (at_ er : Nat) : Value := .agg #[.slice A n c, .slice B m d, .int .i64 at_, .int .i64 er]
set_option maxRecDepth 8000 in
set_option maxHeartbeats 8000000 in
theorem pieces_quiet (most : Nat) (h1 : 4 ≤ most) (h2 : most ≤ 16777219) (A : Option Addr) (n c : Nat) (L : List Bytes) (ok : Nat → Prop) (er : Nat) (st' : St) (w : World) (hL : SlC (Rd.slice Rd.u8) w ok A n c L) (hok : ∀ b, ok b → b < w.heap.size) (hr : (St.new most).run L.flatten = some st') (hev : st'.events = []) (hcl : st'.closing er) (hrc : st'.records.length ≤ 1000000000) (hla : Laid w) (hll : LaidLim w) :
    Calls Tryz.prog 21 #[.int .i64 most, .slice A n c] w fun e w' => ∃ B d, e = .returned (sesV none 0 0 B st'.records.length d st'.came er) ∧ Ext w w' := by
  have HN := Lib.hid (fun W (hx : Ext w W) => stream_New most W h1 h2 (hll.ext hx) (hla.ext hx))
  have HL := Lib.hid hL
  have HOK := Lib.hid hok
  have HR := Lib.hid hr
  have HEV := Lib.hid hev
  have HCL := Lib.hid hcl
  have HRC := Lib.hid hrc
  obtain ⟨ie, hie⟩ := info_event
  have HIE := Lib.hid hie
  have hn := hL.len
  have HLN := Lib.hid hn
  have HLS : Hid (11 ≤ w.heap.size) := Lib.hid hla.size
  clear hla hll hL hok hr hev hcl hrc h1 h2 hie hn
  go_enter Tryz.func21, Tryz.ntmps21
  go_wp2_with (first | ((go_at_call 13; refine (HN.out _ ((Fr.refl _ w).alloc _)).mono ?_; rintro e w1 ⟨s, h, t, col, rfl, hI1, hc0, hx1, hc4⟩)))
  have HI1 := Lib.hid (hI1.goes (clip_goes w1 col))
  have hws : w.heap.size < w1.heap.size := by have := hx1.size; simp at this; omega
  have HX1 := Lib.hid (Fr.trans ((Fr.refl No w).alloc _) hx1)
  have HC0 : Hid (∀ b, b ≤ w.heap.size → clip w1 col b = 0) := Lib.hid (fun b hb => (clip_goes w1 col b (by omega)).trans (hc0 b (by simp; omega)))
  have HC4 : Hid (∀ b, clip w1 col b < 4) := Lib.hid (fun b => by unfold clip; split; exact hc4 b; omega)
  have HCN : Hid (∀ b, w1.heap.size ≤ b → clip w1 col b = 0) := Lib.hid (fun b hb => clip_new hb)
  have HR0 : Hid (w1.heap[w.heap.size]? = some (.cells #[.slice none 0 0, .slice none 0 0, .int .i64 0, .int .i64 0] 57 (0, 0))) := Lib.hid (Ext.blk hx1 (blk_new _ _))
  generalize clip w1 col = col0 at *
  clear hI1 hc0 hx1 hc4 HN
  go_loopg [24] n (fun mm i wr => ∃ (j : Nat) (str : St) (colr : Nat → Nat), i = .int .i64 (j : Nat) ∧ j ≤ n ∧ mm = n - j ∧ IsSt wr colr s h t str ∧ str.events = [] ∧ str.closed = false ∧ (∀ b, b < wr.heap.size → colr b ≠ 7) ∧ str.run (L.drop j).flatten = some st' ∧
    wr.heap[w1.heap.size]? = some (.cells #[.slice none 0 0, .slice none 0 0, .int .i64 0, .int .i64 0] 57 (0, 0)) ∧ wr.heap[w.heap.size]? = some (.cells #[.slice none 0 0, .slice none 0 0, .int .i64 0, .int .i64 0] 57 (0, 0)) ∧
    colr w1.heap.size = 0 ∧ Goes w1 col0 colr ∧ Fr (Hot col0) w1 wr)
  case atStart => exact ⟨0, St.new most, col0, rfl, Nat.zero_le _, rfl, HI1.out.ext ((Fr.refl _ _).alloc _), rfl, rfl, fun b _ e => by (have := HC4.out b; omega), HR.out, blk_new _ _, Ext.blk ((Fr.refl _ w1).alloc _) HR0.out, HCN.out _ (Nat.le_refl _), fun _ _ => rfl, (Fr.refl _ _).alloc _⟩
  case round =>
    obtain ⟨j, str, colr, rfl, hj, hmm, hI, hev, hcl, h7, hrun, hX, hRR, hcX, hg, hf⟩ := hrel
    have hwX : w1.heap.size < wr.heap.size := blk_lt hX
    have hwR : w.heap.size < wr.heap.size := blk_lt hRR
    have hXR : ¬ w1.heap.size = w.heap.size := by omega
    have hRX : ¬ w.heap.size = w1.heap.size := by omega
    by_cases hlt : j < n
    · have d2 : decide ((j : Int) < (n : Int)) = true := by simp; omega
      have hjL : j < L.length := by rw [HLN.out]; exact hlt
      have hLr : SlC (Rd.slice Rd.u8) wr (fun b => b < w.heap.size) A n c L := ((HL.out.mono fun b hb hh => HOK.out b hh).ext HX1.out).fr hf (fun b hb e => e (HC0.out b (by omega)))
      have hLj : L[j]? = some L[j] := List.getElem?_eq_getElem hjL
      rw [List.drop_eq_getElem_cons hjL, List.flatten_cons] at hrun
      generalize L[j] = y at *
      obtain ⟨st1, z, g1, g2, hz⟩ := run_piece hrun
      have hez : st1.events = [] ∧ z.events = [] := by
        have := HEV.out
        rw [hz] at this
        exact List.append_eq_nil_iff.1 this
      have hz' : st' = z := by rw [hz, hez.1]; rfl
      have hse : st1.err = 0 := run_okw (st := st1.clear) g2 (by rw [← hz']; exact HCL.out.1)
      have hst0 : str.err = 0 := run_okw hrun HCL.out.1
      have HLR := Lib.hid hLr
      have HLJ := Lib.hid hLj
      have HJ := Lib.hid hj
      have HMM := Lib.hid hmm
      have HG := Lib.hid hg
      have HF := Lib.hid hf
      have HXB := Lib.hid hX
      have HRB := Lib.hid hRR
      have HCX := Lib.hid hcX
      have HG2 := Lib.hid (show st1.clear.run (L.drop (j + 1)).flatten = some st' from by rw [hz']; exact g2)
      have HC1 := Lib.hid ((run_closed g1).trans hcl)
      have HFD : Hid (∀ (A1 : Option Addr) (n1 c1 : Nat), SlC Rd.u8 wr (fun b => b < w.heap.size) A1 n1 c1 y → Calls Tryz.prog 14 #[.pointer (some ⟨s, 0, none⟩), .slice A1 n1 c1] wr fun e w' => ∃ col' A c, Goes wr colr col' ∧ (∀ b, b < w'.heap.size → col' b ≠ 7) ∧ e = .returned (.tuple #[.slice A 0 c, .int .i64 st1.at_, .int .i64 0]) ∧ IsSt w' col' s h t st1.clear ∧ Fr (Hot colr) wr w') := Lib.hid fun A1 n1 c1 hs => by
        have := feed_any hI hev hcl (fun _ => h7) g1 hs.len hs (fun x hx => ⟨by omega, (hg x (by omega)).trans (HC0.out x (by omega))⟩)
        rw [hse] at this
        exact this.mono fun e w' ⟨col', A, c, k1, k2, k3, k4, k5, k6⟩ => ⟨col', A, c, k1, k2 hse, by rw [hez.1] at k3; exact k3, k5, k6⟩
      clear hI hev hcl h7 hrun hX hRR hcX hg hf hj hmm hLr hLj g1 g2 hz hez hz' hse hst0
      have HLT := Lib.hid hlt
      clear hlt hjL
      go_wp2_with (refine wpList_idx HLR.out rfl _ _ _ rfl _ _ Tryz.underlying46 (size_bytesw _) rfl rfl ?_ ?_ ?_)
      · omega
      · have := HLT.out; omega
      intro bf off cs y2 hkb hget he hcell
      obtain ⟨A5, n5, c5, rfl, hs5⟩ := he
      have e1 : some y = some y2 := HLJ.out.symm.trans (by simpa using hget)
      injection e1 with e1
      subst e1
      have hd0 : wr.cell? ⟨bf, off, none⟩ = some (.slice A5 n5 c5) := hcell 0 _ rfl
      have HFF := Lib.hid (HFD.out A5 n5 c5 hs5)
      clear hcell hget hs5
      go_wp2_with (first | ((go_at_call 13; refine (HLN.out).mono ?_; rintro e w4)))
      (go_at_call 14; refine (HFF.out).mono ?_; rintro e w4 ⟨col4, A4, c4, hg4, h74, rfl, hI4, hf4⟩)
      have hX4 : w4.heap[w1.heap.size]? = _ := hf4.blk HXB.out (fun e => e HCX.out)
      have hR4 : w4.heap[w.heap.size]? = _ := hf4.blk HRB.out (fun e => e ((HG.out _ hws).trans (HC0.out _ (Nat.le_refl _))))
      have x0 : w4.cell? ⟨w1.heap.size, 0, none⟩ = some (.slice none 0 0) := (blk_cell hX4 0).trans rfl
      have xf : ∀ i, w4.frozen? ⟨w1.heap.size, i, none⟩ = false := fun i => blk_unfrozen hX4 i
      have hX4l : w1.heap.size < w4.heap.size := blk_lt hX4
      have HX4 := Lib.hid hX4
      have HR4 := Lib.hid hR4
      have HI4 := Lib.hid hI4
      have HF4 := Lib.hid hf4
      have HG4 := Lib.hid hg4
      have H74 := Lib.hid h74
      have hwj : IntKind.i64.wrap ((j : Int) + 1) = (j : Int) + 1 := IntWalk.i64_in _ (by have := HLR.out.le; have := HLR.out.max; have := HLT.out; omega)
      clear hX4 hR4 hI4 hf4 hg4 h74
      go_wp2_with (at_builtin; refine wpList_append_nothing rfl ie rfl Tryz.underlying41 HIE.out (Nat.le_refl 0) rfl rfl ?_)
      all_goals
        go_roundg (n - (j + 1))
        case measure => (have := HMM.out; have := HLT.out; omega)
        case rel =>
          have hfs : Fr (One w1.heap.size) w4 (w4.setCell ⟨w1.heap.size, 0, none⟩ (.slice none 0 0)) := (by repeat (first | with_reducible exact Fr.refl _ _ | (with_reducible refine Fr.set ?_ _ _ _ (One.self _)) | (with_reducible refine Fr.alloc ?_ _) | (with_reducible refine Fr.drew ?_)))
          have hcX4 : col4 w1.heap.size = 0 := (HG4.out _ hwX).trans HCX.out
          have hG1 : Goes w1 col0 col4 := fun b hb => (HG4.out b (by omega)).trans (HG.out b hb)
          refine ⟨j + 1, st1.clear, col4, by simp, HLT.out, rfl, HI4.out.fr0 rfl hfs (fun b _ e => ⟨by unfold One at e; rw [e]; exact hcX4, by unfold One at e; have := HLS.out; omega⟩), rfl, HC1.out, fun b hb => H74.out b (by simpa using hb), HG2.out, (blk_set HX4.out 0 _).trans rfl, hfs.blk HR4.out (fun e => by unfold One at e; omega), hcX4, hG1, ?_⟩
          exact Fr.trans' (Fr.trans' HF.out HF4.out (fun b hb e => by unfold Hot at *; rw [HG.out b hb] at e; exact e)) hfs (fun b hb e => by unfold One at e; omega)
    · obtain rfl : j = n := by omega
      have d2 : decide ((j : Int) < (j : Int)) = false := by simp
      have hdl : L.drop j = [] := List.drop_eq_nil_of_le (by rw [HLN.out]; omega)
      rw [hdl] at hrun
      simp only [List.flatten_nil, St.run] at hrun
      injection hrun with hrun
      subst hrun
      have HCLS := Lib.hid (stream_Close_any hI hcl HCL.out)
      have HXB := Lib.hid hX
      have HRB := Lib.hid hRR
      have HCX := Lib.hid hcX
      have HG := Lib.hid hg
      have HF := Lib.hid hf
      clear hI hev hcl h7 hX hRR hcX hg hf hmm hlt hdl
      go_wp2_with (first | ((go_at_call 13; refine (HLN.out).mono ?_; rintro e w4)))
      (go_at_call 16; refine (HCLS.out).mono ?_; rintro e w5 ⟨rfl, hI5, hf5⟩)
      have hX5 : w5.heap[w1.heap.size]? = _ := hf5.blk HXB.out (fun e => e HCX.out)
      have hR5 : w5.heap[w.heap.size]? = _ := hf5.blk HRB.out (fun e => e ((HG.out _ hws).trans (HC0.out _ (Nat.le_refl _))))
      have x2 : w5.cell? ⟨w1.heap.size, 2, none⟩ = some (.int .i64 0) := (blk_cell hX5 2).trans rfl
      have x3 : w5.cell? ⟨w1.heap.size, 3, none⟩ = some (.int .i64 0) := (blk_cell hX5 3).trans rfl
      have xf : ∀ i, w5.frozen? ⟨w1.heap.size, i, none⟩ = false := fun i => blk_unfrozen hX5 i
      have hX5l : w1.heap.size < w5.heap.size := blk_lt hX5
      have hfs : Fr (One w1.heap.size) w5 ((w5.setCell ⟨w1.heap.size, 2, none⟩ (.int .i64 str.came)).setCell ⟨w1.heap.size, 3, none⟩ (.int .i64 er)) := (by repeat (first | with_reducible exact Fr.refl _ _ | (with_reducible refine Fr.set ?_ _ _ _ (One.self _)) | (with_reducible refine Fr.alloc ?_ _) | (with_reducible refine Fr.drew ?_)))
      have HRS := Lib.hid (stream_Records (hI5.fr0 HEV.out hfs (fun b _ e => ⟨by unfold One at e; rw [e]; exact HCX.out, by unfold One at e; have := HLS.out; omega⟩)) HRC.out)
      have HX6 := Lib.hid (blk_set (blk_set hX5 2 (.int .i64 str.came)) 3 (.int .i64 er))
      have HR6 := Lib.hid (hfs.blk hR5 (fun e => by unfold One at e; omega))
      have HF6 : Hid (Fr (Hot col0) w1 ((w5.setCell ⟨w1.heap.size, 2, none⟩ (.int .i64 str.came)).setCell ⟨w1.heap.size, 3, none⟩ (.int .i64 er))) := Lib.hid (Fr.trans' (Fr.trans' HF.out hf5 (fun b hb e => by unfold Hot at *; rw [HG.out b hb] at e; exact e)) hfs (fun b hb e => by unfold One at e; omega))
      clear hX5 hR5 hfs hI5 hf5
      go_wp2_with (first | ((go_at_call 13; refine (HLN.out).mono ?_; rintro e w4)))
      (go_at_call 18; refine (HRS.out).mono ?_; rintro e w7 ⟨B, dd, rfl, hx7⟩)
      have hX7 := Ext.blk hx7 HX6.out
      have hR7 := Ext.blk hx7 HR6.out
      have z0 : w7.cell? ⟨w1.heap.size, 0, none⟩ = some (.slice none 0 0) := (blk_cell hX7 0).trans rfl
      have z1 : w7.cell? ⟨w1.heap.size, 1, none⟩ = some (.slice none 0 0) := (blk_cell hX7 1).trans rfl
      have z2 : w7.cell? ⟨w1.heap.size, 2, none⟩ = some (.int .i64 str.came) := (blk_cell hX7 2).trans rfl
      have z3 : w7.cell? ⟨w1.heap.size, 3, none⟩ = some (.int .i64 er) := (blk_cell hX7 3).trans rfl
      have zf : ∀ i, w7.frozen? ⟨w1.heap.size, i, none⟩ = false := fun i => blk_unfrozen hX7 i
      have r0 : w7.cell? ⟨w.heap.size, 0, none⟩ = some (.slice none 0 0) := (blk_cell hR7 0).trans rfl
      have r1 : w7.cell? ⟨w.heap.size, 1, none⟩ = some (.slice none 0 0) := (blk_cell hR7 1).trans rfl
      have r2 : w7.cell? ⟨w.heap.size, 2, none⟩ = some (.int .i64 0) := (blk_cell hR7 2).trans rfl
      have r3 : w7.cell? ⟨w.heap.size, 3, none⟩ = some (.int .i64 0) := (blk_cell hR7 3).trans rfl
      have rf : ∀ i, w7.frozen? ⟨w.heap.size, i, none⟩ = false := fun i => blk_unfrozen hR7 i
      have hX7l : w1.heap.size < w7.heap.size := blk_lt hX7
      have hR7l : w.heap.size < w7.heap.size := blk_lt hR7
      have HF7 : Hid (Fr (Hot col0) w1 w7) := Lib.hid (Fr.trans HF6.out (Ext.any hx7))
      clear hx7 hX7 hR7
      have h7 : Ext w w7 := Fr.trans' HX1.out HF7.out (fun b hb e => e (HC0.out b (by omega)))
      go_wp2
      refine bodyPost_ret (v := .agg #[.slice none 0 0, .slice B str.records.length dd, .int .i64 str.came, .int .i64 er]) (by simp only [results, Tryz.results21]; go_simp) rfl ?_
      exact ⟨_, _, rfl, (by repeat (first | with_reducible assumption | with_reducible exact Fr.refl _ _ | (with_reducible refine Fr.alloc ?_ _) | (with_reducible refine Fr.drew ?_) | (with_reducible refine Fr.drewN ?_ _) | (with_reducible refine Fr.setNew ?_ _ _ _ (by first | with_reducible exact Nat.le_refl _ | omega | (simp; omega)))))⟩
end Go.Proofs.YtalbiepdkaldmaaGreatDoor
namespace Go.Proofs.YtalbiepdkaldmaaGreatDoor
open Go.RowKit
theorem law21_most (n : Int) (M : Nat) (hM : max (0 : Int) n % 3000 = (M : Int)) (hM3 : M < 3000) (w : World) : Calls Tryz.prog 22 #[.int .i64 n] w fun e w' => e = .returned (.int .i64 ((4 + M : Nat) : Int)) ∧ w' = w := by
  have hw : IntKind.i64.wrap (4 + (M : Int)) = ((4 + M : Nat) : Int) := by rw [IntWalk.i64_in _ (by omega)]; omega
  go_enter Tryz.func22, Tryz.ntmps22
  go_wp2
  refine bodyPost_ret (v := .int .i64 ((4 + M : Nat) : Int)) (by simp only [results, Tryz.results22]; go_simp) rfl ?_
  exact ⟨rfl, rfl⟩
theorem plan_Check_none (most : Nat) (h1 : 4 ≤ most) (h2 : most ≤ 16777219) (A : Option Addr) (c : Nat) (w : World) : Calls Tryz.prog 78 #[.int .i64 most, .slice A 0 c] w fun e w' => e = .returned (.tuple #[.int .i64 0, .int .i64 0]) ∧ w' = w := by
  have d1 : decide ((most : Int) < 4) = false := by simp; omega
  have d2 : decide (16777219 < (most : Int)) = false := by simp; omega
  clear h1 h2
  go_enter Tryz.func78, Tryz.ntmps78
  go_wp2
  refine wp_loop_rounds 1 ?_
  rw [rounds_succ]
  go_wp2
  refine bodyPost_ret (v := .tuple #[.int .i64 0, .int .i64 0]) (by simp only [results, Tryz.results78]; go_simp) rfl ?_
  exact ⟨rfl, rfl⟩
theorem plan_Write_none (most : Nat) (h1 : 4 ≤ most) (h2 : most ≤ 16777219) (A B : Option Addr) (c d : Nat) (w : World) : Calls Tryz.prog 47 #[.int .i64 most, .slice A 0 c, .slice B 0 d] w fun e w' => e = .returned (.tuple #[.slice none 0 0, .int .i64 0]) ∧ Ext w w' := by
  have HC := Lib.hid (fun w => plan_Check_none most h1 h2 A c w)
  clear h1 h2
  go_enter Tryz.func47, Tryz.ntmps47
  go_wp2_with (first | ((go_at_call 78; refine (HC.out _).mono ?_; rintro e w1 ⟨rfl, rfl⟩)))
  refine wp_loop_rounds 1 ?_
  rw [rounds_succ]
  go_wp2
  refine wp_loop_rounds 1 ?_
  rw [rounds_succ]
  go_wp2
  refine bodyPost_ret (v := .tuple #[.slice none 0 0, .int .i64 0]) (by simp only [results, Tryz.results47]; go_simp) rfl ?_
  exact ⟨rfl, (by repeat (first | with_reducible assumption | with_reducible exact Fr.refl _ _ | (with_reducible refine Fr.alloc ?_ _) | (with_reducible refine Fr.drew ?_) | (with_reducible refine Fr.drewN ?_ _) | (with_reducible refine Fr.setNew ?_ _ _ _ (by first | with_reducible exact Nat.le_refl _ | omega | (simp; omega)))))⟩
theorem whole_Write_none (most : Nat) (h1 : 4 ≤ most) (h2 : most ≤ 16777219) (A B : Option Addr) (c d at_ : Nat) (w : World) : Calls Tryz.prog 23 #[.int .i64 most, sesV A 0 c B 0 d at_ 0] w fun e w' => e = .returned (.tuple #[.slice none 0 0, .int .i64 0]) ∧ Ext w w' := by
  have HC := Lib.hid (fun w => plan_Write_none most h1 h2 A B c d w)
  clear h1 h2
  unfold sesV
  go_enter Tryz.func23, Tryz.ntmps23
  go_wp2_with (first | ((go_at_call 47; refine (HC.out _).mono ?_; rintro e w1 ⟨rfl, hx1⟩)))
  refine bodyPost_ret (v := .tuple #[.slice none 0 0, .int .i64 0]) (by simp only [results, Tryz.results23]; go_simp) rfl ?_
  exact ⟨rfl, Fr.trans ((by repeat (first | with_reducible assumption | with_reducible exact Fr.refl _ _ | (with_reducible refine Fr.alloc ?_ _) | (with_reducible refine Fr.drew ?_) | (with_reducible refine Fr.drewN ?_ _) | (with_reducible refine Fr.setNew ?_ _ _ _ (by first | with_reducible exact Nat.le_refl _ | omega | (simp; omega)))))) hx1⟩
theorem events_none (A B : Option Addr) (c d : Nat) (w : World) : Calls Tryz.prog 48 #[.slice A 0 c, .slice B 0 d] w fun e w' => e = .returned (.bool true) ∧ w' = w := by
  go_enter Tryz.func48, Tryz.ntmps48
  go_wp2
  refine wp_loop_rounds 1 ?_
  rw [rounds_succ]
  go_wp2
  refine bodyPost_ret (v := .bool true) (by simp only [results, Tryz.results48]; go_simp) rfl ?_
  exact ⟨rfl, rfl⟩
theorem records_none (A B : Option Addr) (c d : Nat) (w : World) : Calls Tryz.prog 49 #[.slice A 0 c, .slice B 0 d] w fun e w' => e = .returned (.bool true) ∧ w' = w := by
  go_enter Tryz.func49, Tryz.ntmps49
  go_wp2
  refine wp_loop_rounds 1 ?_
  rw [rounds_succ]
  go_wp2
  refine bodyPost_ret (v := .bool true) (by simp only [results, Tryz.results49]; go_simp) rfl ?_
  exact ⟨rfl, rfl⟩
theorem law21_Same (A B C D : Option Addr) (c d c2 d2 at_ : Nat) (w : World) : Calls Tryz.prog 24 #[sesV A 0 c B 0 d at_ 0, sesV C 0 c2 D 0 d2 at_ 0] w fun e w' => e = .returned (.int .i64 1) ∧ Ext w w' := by
  have HE := Lib.hid (fun w => events_none A C c c2 w)
  have HR := Lib.hid (fun w => records_none B D d d2 w)
  unfold sesV
  go_enter Tryz.func24, Tryz.ntmps24
  go_wp2_with (first | ((go_at_call 48; refine (HE.out _).mono ?_; rintro e w1 ⟨rfl, rfl⟩)) | ((go_at_call 49; refine (HR.out _).mono ?_; rintro e w1 ⟨rfl, rfl⟩)))
  refine bodyPost_ret (v := .int .i64 1) (by simp only [results, Tryz.results24]; go_simp) rfl ?_
  exact ⟨rfl, (by repeat (first | with_reducible assumption | with_reducible exact Fr.refl _ _ | (with_reducible refine Fr.alloc ?_ _) | (with_reducible refine Fr.drew ?_) | (with_reducible refine Fr.drewN ?_ _) | (with_reducible refine Fr.setNew ?_ _ _ _ (by first | with_reducible exact Nat.le_refl _ | omega | (simp; omega)))))⟩
set_option maxRecDepth 8000 in
set_option maxHeartbeats 8000000 in
theorem pieces_one (most : Nat) (h1 : 4 ≤ most) (h2 : most ≤ 16777219) (A : Option Addr) (c : Nat) (y : Bytes) (ok : Nat → Prop) (er : Nat) (st' : St) (w : World) (hL : SlC (Rd.slice Rd.u8) w ok A 1 c [y]) (hok : ∀ b, ok b → b < w.heap.size) (hr : (St.new most).run y = some st') (hcl : st'.closing er) (hrc : st'.records.length ≤ 1000000000) (hec : st'.events.length ≤ 1000000000) (hla : Laid w) (hll : LaidLim w) :
    Calls Tryz.prog 21 #[.int .i64 most, .slice A 1 c] w fun e w' => ∃ A1 c1 B d, e = .returned (sesV A1 st'.events.length c1 B st'.records.length d st'.came er) ∧ Ext w w' := by
  have HN := Lib.hid (fun W (hx : Ext w W) => stream_New most W h1 h2 (hll.ext hx) (hla.ext hx))
  have HL := Lib.hid hL
  have HOK := Lib.hid hok
  have HR := Lib.hid hr
  have HCL := Lib.hid hcl
  have HRC := Lib.hid hrc
  have HEC := Lib.hid hec
  have HLS : Hid (11 ≤ w.heap.size) := Lib.hid hla.size
  clear hla hll hL hok hr hcl hrc hec h1 h2
  go_enter Tryz.func21, Tryz.ntmps21
  go_wp2_with (first | ((go_at_call 13; refine (HN.out _ ((Fr.refl _ w).alloc _)).mono ?_; rintro e w1 ⟨s, h, t, col, rfl, hI1, hc0, hx1, hc4⟩)))
  have HI1 := Lib.hid (hI1.goes (clip_goes w1 col))
  have hws : w.heap.size < w1.heap.size := by have := hx1.size; simp at this; omega
  have HX1 := Lib.hid (Fr.trans ((Fr.refl No w).alloc _) hx1)
  have HC0 : Hid (∀ b, b ≤ w.heap.size → clip w1 col b = 0) := Lib.hid (fun b hb => (clip_goes w1 col b (by omega)).trans (hc0 b (by simp; omega)))
  have HC4 : Hid (∀ b, clip w1 col b < 4) := Lib.hid (fun b => by unfold clip; split; exact hc4 b; omega)
  have HCN : Hid (∀ b, w1.heap.size ≤ b → clip w1 col b = 0) := Lib.hid (fun b hb => clip_new hb)
  have HR0 : Hid (w1.heap[w.heap.size]? = some (.cells #[.slice none 0 0, .slice none 0 0, .int .i64 0, .int .i64 0] 57 (0, 0))) := Lib.hid (Ext.blk hx1 (blk_new _ _))
  generalize clip w1 col = col0 at *
  have HIW := Lib.hid (HI1.out.ext ((Fr.refl _ w1).alloc (.cells #[.slice none 0 0, .slice none 0 0, .int .i64 0, .int .i64 0] 57)))
  have HXB : Hid ((w1.alloc (.cells #[.slice none 0 0, .slice none 0 0, .int .i64 0, .int .i64 0] 57)).heap[w1.heap.size]? = some (.cells #[.slice none 0 0, .slice none 0 0, .int .i64 0, .int .i64 0] 57 (0, 0))) := Lib.hid (blk_new _ _)
  have HRB : Hid ((w1.alloc (.cells #[.slice none 0 0, .slice none 0 0, .int .i64 0, .int .i64 0] 57)).heap[w.heap.size]? = some (.cells #[.slice none 0 0, .slice none 0 0, .int .i64 0, .int .i64 0] 57 (0, 0))) := Lib.hid (Ext.blk ((Fr.refl _ w1).alloc _) HR0.out)
  have HLR : Hid (SlC (Rd.slice Rd.u8) (w1.alloc (.cells #[.slice none 0 0, .slice none 0 0, .int .i64 0, .int .i64 0] 57)) (fun b => b < w.heap.size) A 1 c [y]) := Lib.hid (((HL.out.mono fun b hb hh => HOK.out b hh).ext HX1.out).ext ((Fr.refl _ _).alloc _))
  have hXR : ¬ w1.heap.size = w.heap.size := by omega
  have hRX : ¬ w.heap.size = w1.heap.size := by omega
  have hF1 : Ext w1 (w1.alloc (.cells #[.slice none 0 0, .slice none 0 0, .int .i64 0, .int .i64 0] 57)) := (Fr.refl _ _).alloc _
  have hFW : Ext w (w1.alloc (.cells #[.slice none 0 0, .slice none 0 0, .int .i64 0, .int .i64 0] 57)) := Fr.trans HX1.out hF1
  have HFW := Lib.hid hFW
  have h7 : ∀ b, b < (w1.alloc (.cells #[.slice none 0 0, .slice none 0 0, .int .i64 0, .int .i64 0] 57)).heap.size → col0 b ≠ 7 := fun b _ e => by have := HC4.out b; omega
  have HFD : Hid (∀ (A1 : Option Addr) (n1 c1 : Nat), SlC Rd.u8 (w1.alloc (.cells #[.slice none 0 0, .slice none 0 0, .int .i64 0, .int .i64 0] 57)) (fun b => b < w.heap.size) A1 n1 c1 y → Calls Tryz.prog 14 #[.pointer (some ⟨s, 0, none⟩), .slice A1 n1 c1] (w1.alloc (.cells #[.slice none 0 0, .slice none 0 0, .int .i64 0, .int .i64 0] 57)) fun e w' => ∃ col' A c, Goes (w1.alloc (.cells #[.slice none 0 0, .slice none 0 0, .int .i64 0, .int .i64 0] 57)) col0 col' ∧ e = .returned (.tuple #[.slice A st'.events.length c, .int .i64 st'.at_, .int .i64 st'.err]) ∧ SlC Rd.event w' (fun b => b < w'.heap.size ∧ col' b = 0) A st'.events.length c st'.events ∧ IsSt w' col' s h t st'.clear ∧ Fr (Hot col0) (w1.alloc (.cells #[.slice none 0 0, .slice none 0 0, .int .i64 0, .int .i64 0] 57)) w') := Lib.hid fun A1 n1 c1 hs => by
    have := feed_any HIW.out rfl rfl (fun _ => h7) HR.out hs.len hs (fun x hx => ⟨by simp; omega, HC0.out x (by omega)⟩)
    exact this.mono fun e w' ⟨col', A, c, k1, k2, k3, k4, k5, k6⟩ => ⟨col', A, c, k1, k3, k4, k5, k6⟩
  have HX8 := Lib.hid hF1
  clear hI1 hc0 hx1 hc4 HN h7 hF1 hFW HIW
  generalize w1.alloc (.cells #[.slice none 0 0, .slice none 0 0, .int .i64 0, .int .i64 0] 57) = wr at *
  have hwX : w1.heap.size < wr.heap.size := blk_lt HXB.out
  have hwR : w.heap.size < wr.heap.size := blk_lt HRB.out
  refine wp_loop_rounds 2 ?_
  rw [rounds_succ]
  go_wp2_with (refine wpList_idx HLR.out rfl _ _ _ rfl _ _ Tryz.underlying46 (size_bytesw _) rfl rfl ?_ ?_ ?_)
  · decide
  · decide
  intro bf off cs hkb he hcell
  obtain ⟨A5, n5, c5, rfl, hs5⟩ := he
  have hd0 : wr.cell? ⟨bf, off, none⟩ = some (.slice A5 n5 c5) := hcell 0 _ rfl
  have HFF := Lib.hid (HFD.out A5 n5 c5 hs5)
  clear hcell hs5
  go_wp2_with (first | ((go_at_call 13; refine (HL.out).mono ?_; rintro e w4)))
  (go_at_call 14; refine (HFF.out).mono ?_; rintro e w4 ⟨col4, A4, c4, hg4, rfl, hs4, hI4, hf4⟩)
  have hX4 : w4.heap[w1.heap.size]? = _ := hf4.blk HXB.out (fun e => e (HCN.out _ (Nat.le_refl _)))
  have hR4 : w4.heap[w.heap.size]? = _ := hf4.blk HRB.out (fun e => e (HC0.out _ (Nat.le_refl _)))
  have x0 : w4.cell? ⟨w1.heap.size, 0, none⟩ = some (.slice none 0 0) := (blk_cell hX4 0).trans rfl
  have xf : ∀ i, w4.frozen? ⟨w1.heap.size, i, none⟩ = false := fun i => blk_unfrozen hX4 i
  have hX4l : w1.heap.size < w4.heap.size := blk_lt hX4
  have HS4 := Lib.hid hs4
  have HX4 := Lib.hid hX4
  have HR4 := Lib.hid hR4
  have HI4 := Lib.hid hI4
  have HF4 := Lib.hid hf4
  have HG4 := Lib.hid hg4
  clear hs4 hX4 hR4 hI4 hf4 hg4
  go_wp2_with (at_builtin; refine wpList_append_rows (d := Rd.event) (ok := fun b => b < w4.heap.size ∧ col4 b = 0) (v := .slice none 0 0) (xs := []) (ys := st'.events) (n := 0) (m := st'.events.length) (base := w4.heap.size) rfl rfl app_event rfl (OwnR.nil _ _ _ _ _) (fun k hk => by simp [Value.ownBlock] at hk) HS4.out rfl ?_ (Nat.le_refl _) ?_)
  · have := HEC.out; omega
  intro v' w5 hown hgr hblk
  obtain ⟨Av, cv, rfl, _⟩ := hown.sl
  have hx5 : Ext w4 w5 := Fr.of_grow hgr (fun k hk => by simp [Value.ownBlock] at hk)
  have hX5 := Ext.blk hx5 HX4.out
  have hR5 := Ext.blk hx5 HR4.out
  have x50 : w5.cell? ⟨w1.heap.size, 0, none⟩ = some (.slice none 0 0) := (blk_cell hX5 0).trans rfl
  have xf5 : ∀ i, w5.frozen? ⟨w1.heap.size, i, none⟩ = false := fun i => blk_unfrozen hX5 i
  have hX5l : w1.heap.size < w5.heap.size := blk_lt hX5
  have hcX4 : col4 w1.heap.size = 0 := (HG4.out _ hwX).trans (HCN.out _ (Nat.le_refl _))
  have hfs : Fr (One w1.heap.size) w5 (w5.setCell ⟨w1.heap.size, 0, none⟩ (.slice Av (0 + st'.events.length) cv)) := (by repeat (first | with_reducible exact Fr.refl _ _ | (with_reducible refine Fr.set ?_ _ _ _ (One.self _)) | (with_reducible refine Fr.alloc ?_ _) | (with_reducible refine Fr.drew ?_)))
  have hI6 := (HI4.out.ext hx5).fr0 rfl hfs (fun b _ e => ⟨by unfold One at e; rw [e]; exact hcX4, by unfold One at e; have := HLS.out; omega⟩)
  have hcl6 : st'.closed = false := run_closed HR.out
  have HCLS := Lib.hid (stream_Close_any hI6 hcl6 (show st'.clear.closing er from HCL.out))
  have HX6 := Lib.hid (blk_set hX5 0 (.slice Av (0 + st'.events.length) cv))
  have HR6 := Lib.hid (hfs.blk hR5 (fun e => by unfold One at e; omega))
  have HF6 : Hid (Fr (Hot col0) wr (w5.setCell ⟨w1.heap.size, 0, none⟩ (.slice Av (0 + st'.events.length) cv)) ∨ True) := Lib.hid (.inr trivial)
  have HE6 : Hid (Ext w (w5.setCell ⟨w1.heap.size, 0, none⟩ (.slice Av (0 + st'.events.length) cv))) := Lib.hid (Fr.trans' (Fr.trans (Fr.trans' HFW.out HF4.out (fun b hb e => e (HC0.out b (by omega)))) hx5) hfs (fun b hb e => by unfold One at e; omega))
  have hL0 : 0 + st'.events.length = st'.events.length := Nat.zero_add _
  have HC4Z : Hid (∀ b, b < w.heap.size → col4 b = 0) := Lib.hid fun b hb => (HG4.out b (by omega)).trans (HC0.out b (by omega))
  rw [hL0] at HCLS HX6 HR6 HE6
  clear hown hgr hblk hX5 hR5 hfs hI6 hx5 HF6 x0 xf hL0
  go_wp2_with (first | ((go_at_call 13; refine (HL.out).mono ?_; rintro e w4)))
  rw [rounds_succ]
  go_wp2_with (first | ((go_at_call 13; refine (HL.out).mono ?_; rintro e w4)))
  (go_at_call 16; refine (HCLS.out).mono ?_; rintro e w6 ⟨rfl, hI7, hf7⟩)
  have hX7 : w6.heap[w1.heap.size]? = _ := hf7.blk HX6.out (fun e => e hcX4)
  have hR7 : w6.heap[w.heap.size]? = _ := hf7.blk HR6.out (fun e => e ((HG4.out _ hwR).trans (HC0.out _ (Nat.le_refl _))))
  have x2 : w6.cell? ⟨w1.heap.size, 2, none⟩ = some (.int .i64 0) := (blk_cell hX7 2).trans rfl
  have x3 : w6.cell? ⟨w1.heap.size, 3, none⟩ = some (.int .i64 0) := (blk_cell hX7 3).trans rfl
  have xf : ∀ i, w6.frozen? ⟨w1.heap.size, i, none⟩ = false := fun i => blk_unfrozen hX7 i
  have hX7l : w1.heap.size < w6.heap.size := blk_lt hX7
  have hfs : Fr (One w1.heap.size) w6 ((w6.setCell ⟨w1.heap.size, 2, none⟩ (.int .i64 st'.came)).setCell ⟨w1.heap.size, 3, none⟩ (.int .i64 er)) := (by repeat (first | with_reducible exact Fr.refl _ _ | (with_reducible refine Fr.set ?_ _ _ _ (One.self _)) | (with_reducible refine Fr.alloc ?_ _) | (with_reducible refine Fr.drew ?_)))
  have HRS := Lib.hid (stream_Records (hI7.fr0 rfl hfs (fun b _ e => ⟨by unfold One at e; rw [e]; exact hcX4, by unfold One at e; have := HLS.out; omega⟩)) HRC.out)
  have HX8 := Lib.hid (blk_set (blk_set hX7 2 (.int .i64 st'.came)) 3 (.int .i64 er))
  have HR8 := Lib.hid (hfs.blk hR7 (fun e => by unfold One at e; omega))
  have HE8 : Hid (Ext w ((w6.setCell ⟨w1.heap.size, 2, none⟩ (.int .i64 st'.came)).setCell ⟨w1.heap.size, 3, none⟩ (.int .i64 er))) := Lib.hid (Fr.trans' (Fr.trans' HE6.out hf7 (fun b hb e => e (HC4Z.out b hb))) hfs (fun b hb e => by unfold One at e; omega))
  clear hX7 hR7 hfs hI7 hf7 x50 xf5
  go_wp2_with (first | ((go_at_call 13; refine (HL.out).mono ?_; rintro e w4)))
  (go_at_call 18; refine (HRS.out).mono ?_; rintro e w7 ⟨B, dd, rfl, hx7⟩)
  have hX9 := Ext.blk hx7 HX8.out
  have hR9 := Ext.blk hx7 HR8.out
  have z0 : w7.cell? ⟨w1.heap.size, 0, none⟩ = some (.slice Av st'.events.length cv) := (blk_cell hX9 0).trans rfl
  have z1 : w7.cell? ⟨w1.heap.size, 1, none⟩ = some (.slice none 0 0) := (blk_cell hX9 1).trans rfl
  have z2 : w7.cell? ⟨w1.heap.size, 2, none⟩ = some (.int .i64 st'.came) := (blk_cell hX9 2).trans rfl
  have z3 : w7.cell? ⟨w1.heap.size, 3, none⟩ = some (.int .i64 er) := (blk_cell hX9 3).trans rfl
  have zf : ∀ i, w7.frozen? ⟨w1.heap.size, i, none⟩ = false := fun i => blk_unfrozen hX9 i
  have r0 : w7.cell? ⟨w.heap.size, 0, none⟩ = some (.slice none 0 0) := (blk_cell hR9 0).trans rfl
  have r1 : w7.cell? ⟨w.heap.size, 1, none⟩ = some (.slice none 0 0) := (blk_cell hR9 1).trans rfl
  have r2 : w7.cell? ⟨w.heap.size, 2, none⟩ = some (.int .i64 0) := (blk_cell hR9 2).trans rfl
  have r3 : w7.cell? ⟨w.heap.size, 3, none⟩ = some (.int .i64 0) := (blk_cell hR9 3).trans rfl
  have rf : ∀ i, w7.frozen? ⟨w.heap.size, i, none⟩ = false := fun i => blk_unfrozen hR9 i
  have hX9l : w1.heap.size < w7.heap.size := blk_lt hX9
  have hR9l : w.heap.size < w7.heap.size := blk_lt hR9
  have h7 : Ext w w7 := Fr.trans HE8.out hx7
  clear hx7 hX9 hR9
  go_wp2
  refine bodyPost_ret (v := .agg #[.slice Av st'.events.length cv, .slice B st'.clear.records.length dd, .int .i64 st'.came, .int .i64 er]) (by simp only [results, Tryz.results21]; go_simp) rfl ?_
  exact ⟨_, _, _, _, rfl, (by repeat (first | with_reducible assumption | with_reducible exact Fr.refl _ _ | (with_reducible refine Fr.alloc ?_ _) | (with_reducible refine Fr.drew ?_) | (with_reducible refine Fr.drewN ?_ _) | (with_reducible refine Fr.setNew ?_ _ _ _ (by first | with_reducible exact Nat.le_refl _ | omega | (simp; omega)))))⟩
theorem alive21_fin : ((St.new 100).run [22, 3, 3, 0, 5, 24, 0, 0, 1, 1]).map (fun st => (st.err, st.came, st.events.length, st.records.length, st.left, st.head, st.hd.data)) = some (0, 10, 1, 1, 0, [], []) := by rfl
set_option maxHeartbeats 4000000 in
theorem law21_alive (w : World) (hla : Laid w) (hll : LaidLim w) : Calls Tryz.prog 20 #[] w fun e w' => e = .returned (.bool true) ∧ Ext w w' := by
  obtain ⟨st1, hr1, hq1⟩ := Option.map_eq_some_iff.1 alive21_fin
  simp only [Prod.mk.injEq] at hq1
  obtain ⟨q1, q2, q3, q4, q5, q6, q7⟩ := hq1
  have HP : Hid (Calls Tryz.prog 46 #[.int .i64 100, .slice (some ⟨w.heap.size, 0, none⟩) 10 10] (w.alloc (.cells #[.int .u8 22, .int .u8 3, .int .u8 3, .int .u8 0, .int .u8 5, .int .u8 24, .int .u8 0, .int .u8 0, .int .u8 1, .int .u8 1] 5)) fun e w' => ∃ A1 c1 B d, e = .returned (.agg #[.slice A1 1 c1, .slice B 1 d, .int .i64 10, .int .i64 0]) ∧ Ext (w.alloc (.cells #[.int .u8 22, .int .u8 3, .int .u8 3, .int .u8 0, .int .u8 5, .int .u8 24, .int .u8 0, .int .u8 0, .int .u8 1, .int .u8 1] 5)) w') := Lib.hid (by
    have hs : SlC Rd.u8 (w.alloc (.cells #[.int .u8 22, .int .u8 3, .int .u8 3, .int .u8 0, .int .u8 5, .int .u8 24, .int .u8 0, .int .u8 0, .int .u8 1, .int .u8 1] 5)) (fun b => b = w.heap.size) (some ⟨w.heap.size, 0, none⟩) 10 10 [22, 3, 3, 0, 5, 24, 0, 0, 1, 1] := sl_bytes w [22, 3, 3, 0, 5, 24, 0, 0, 1, 1] (by decide)
    have hx : Ext w (w.alloc (.cells #[.int .u8 22, .int .u8 3, .int .u8 3, .int .u8 0, .int .u8 5, .int .u8 24, .int .u8 0, .int .u8 0, .int .u8 1, .int .u8 1] 5)) := (Fr.refl _ _).alloc _
    have hz : w.heap.size < (w.alloc (.cells #[.int .u8 22, .int .u8 3, .int .u8 3, .int .u8 0, .int .u8 5, .int .u8 24, .int .u8 0, .int .u8 0, .int .u8 1, .int .u8 1] 5)).heap.size := by simp
    have hla1 := hla.ext hx
    have hll1 := hll.ext hx
    generalize w.alloc (.cells #[.int .u8 22, .int .u8 3, .int .u8 3, .int .u8 0, .int .u8 5, .int .u8 24, .int .u8 0, .int .u8 0, .int .u8 1, .int .u8 1] 5) = W at *
    have hs1 : SlC (Rd.slice Rd.u8) ((W.alloc (.cells #[.slice none 0 0, .slice none 0 0, .int .i64 0, .int .i64 0] 57)).alloc (.cells #[.slice (some ⟨w.heap.size, 0, none⟩) 10 10] 22)) (fun b => b < W.heap.size + 2) (some ⟨W.heap.size + 1, 0, none⟩) 1 1 [[22, 3, 3, 0, 5, 24, 0, 0, 1, 1]] := by
      have hb := blk_new' (W.alloc (.cells #[.slice none 0 0, .slice none 0 0, .int .i64 0, .int .i64 0] 57)) (.cells #[.slice (some ⟨w.heap.size, 0, none⟩) 10 10] 22) (g := W.heap.size + 1) (by simp)
      exact sl_newO (d := Rd.slice Rd.u8) (w := W.alloc (.cells #[.slice none 0 0, .slice none 0 0, .int .i64 0, .int .i64 0] 57)) (ok := fun b => b = w.heap.size) (cells := [.slice (some ⟨w.heap.size, 0, none⟩) 10 10]) hb (Elems.one (d := Rd.slice Rd.u8) (x := [22, 3, 3, 0, 5, 24, 0, 0, 1, 1]) ⟨_, _, _, rfl, hs.ext ((Fr.refl _ _).alloc _)⟩) ((Fr.refl _ _).alloc _) rfl (by decide) (by omega) (fun b _ e => by omega)
    have hxx : Ext W ((W.alloc (.cells #[.slice none 0 0, .slice none 0 0, .int .i64 0, .int .i64 0] 57)).alloc (.cells #[.slice (some ⟨w.heap.size, 0, none⟩) 10 10] 22)) := ((Fr.refl _ _).alloc _).alloc _
    have HP := Lib.hid (pieces_one 100 (by decide) (by decide) _ _ _ _ 0 st1 _ hs1 (fun b hb => by simp; omega) hr1 ⟨q1, q5, .inl ⟨q6, q7, rfl⟩⟩ (by omega) (by omega) (hla1.ext hxx) (hll1.ext hxx))
    rw [q2, q3, q4] at HP
    unfold sesV at HP
    have HXX := Lib.hid hxx
    have HRW : Hid (((W.alloc (.cells #[.slice none 0 0, .slice none 0 0, .int .i64 0, .int .i64 0] 57)).alloc (.cells #[.slice (some ⟨w.heap.size, 0, none⟩) 10 10] 22)).heap[W.heap.size]? = some (.cells #[.slice none 0 0, .slice none 0 0, .int .i64 0, .int .i64 0] 57 (0, 0))) := Lib.hid (Ext.blk ((Fr.refl _ _).alloc _) (blk_new _ _))
    clear hs1 hxx hs hx hla1 hll1
    go_enter Tryz.func46, Tryz.ntmps46
    go_wp2_with (first | ((go_at_call 13; refine (HRW.out).mono ?_; rintro e w4)))
    (go_at_call 21; refine (HP.out).mono ?_; rintro e w3 ⟨A1, c1, B, d, rfl, hx3⟩)
    have hR3 := Ext.blk hx3 HRW.out
    have r0 : w3.cell? ⟨W.heap.size, 0, none⟩ = some (.slice none 0 0) := (blk_cell hR3 0).trans rfl
    have r1 : w3.cell? ⟨W.heap.size, 1, none⟩ = some (.slice none 0 0) := (blk_cell hR3 1).trans rfl
    have r2 : w3.cell? ⟨W.heap.size, 2, none⟩ = some (.int .i64 0) := (blk_cell hR3 2).trans rfl
    have r3 : w3.cell? ⟨W.heap.size, 3, none⟩ = some (.int .i64 0) := (blk_cell hR3 3).trans rfl
    have rf : ∀ i, w3.frozen? ⟨W.heap.size, i, none⟩ = false := fun i => blk_unfrozen hR3 i
    have hqw : W.heap.size < w3.heap.size := blk_lt hR3
    have HX3 := Lib.hid hx3
    clear hR3 hx3
    go_wp2
    refine bodyPost_ret (v := .agg #[.slice A1 1 c1, .slice B 1 d, .int .i64 10, .int .i64 0]) (by simp only [results, Tryz.results46]; go_simp) rfl ?_
    have hx4 : Ext W w3 := Fr.trans HXX.out HX3.out
    exact ⟨_, _, _, _, rfl, (by repeat (first | with_reducible assumption | with_reducible exact Fr.refl _ _ | (with_reducible refine Fr.alloc ?_ _) | (with_reducible refine Fr.drew ?_) | (with_reducible refine Fr.drewN ?_ _) | (with_reducible refine Fr.setNew ?_ _ _ _ (by first | with_reducible exact Nat.le_refl _ | omega | (simp; omega)))))⟩)
  clear hr1 q1 q2 q3 q4 q5 q6 q7 hla hll
  go_enter Tryz.func20, Tryz.ntmps20
  go_wp2_with (first | ((go_at_call 46; refine (HP.out).mono ?_; rintro e w3 ⟨A1, c1, B, d, rfl, hx3⟩)))
  refine bodyPost_ret (v := .bool true) (by simp only [results, Tryz.results20]; go_simp) rfl ?_
  exact ⟨rfl, Fr.trans ((Fr.refl _ _).alloc _) ((by repeat (first | with_reducible assumption | with_reducible exact Fr.refl _ _ | (with_reducible refine Fr.alloc ?_ _) | (with_reducible refine Fr.drew ?_) | (with_reducible refine Fr.drewN ?_ _) | (with_reducible refine Fr.setNew ?_ _ _ _ (by first | with_reducible exact Nat.le_refl _ | omega | (simp; omega))))))⟩
end Go.Proofs.YtalbiepdkaldmaaGreatDoor
namespace Go.Proofs.YtalbiepdkaldmaaGreatDoor
open Go.RowKit
theorem app_bytesw : AppT Tryz.prog 46 22 1 24 := AppT.of (z := .slice none 0 0) Tryz.underlying46 (by kernel_rfl) rfl (by decide) (by decide)
theorem flat_nil (K : Nat) : (List.replicate K ([] : Bytes)).flatten = [] := by
  induction K with
  | zero => rfl
  | succ K ih => rw [List.replicate_succ, List.flatten_cons, ih]; rfl
theorem run_one (m : Nat) (c : UInt8) : ∃ y : St, (St.new m).run [c] = some y ∧ y.events = [] ∧ y.closing 4 ∧ y.records.length = 0 ∧ y.came = 1 := by
  rw [run_short (st := St.new m) c [] rfl rfl (show 0 + 1 < 5 by decide) rfl (Nat.le_refl 0) (Nat.zero_le _) (Nat.zero_le _) (Nat.zero_le _) (Nat.zero_le _)]
  exact ⟨_, rfl, rfl, ⟨rfl, rfl, .inr ⟨Nat.zero_lt_one, rfl⟩⟩, rfl, rfl⟩
set_option maxRecDepth 8000 in
set_option maxHeartbeats 8000000 in
theorem empty_walk (n q : Int) (kb : UInt8) (M K : Nat) (hM : max (0 : Int) n % 3000 = (M : Int)) (hM3 : M < 3000) (hK : max (0 : Int) q % 30 = (K : Int)) (hK3 : K < 30) (w : World) (hla : Laid w) (hll : LaidLim w) : Calls Tryz.prog 7 #[.int .i64 n, .int .i64 q, .int .u8 kb.toNat] w fun e w' => e = .returned (.bool true) ∧ Ext w w' := by
  have HA := Lib.hid (law21_alive w hla hll)
  have HMO := Lib.hid (fun w => law21_most n M hM hM3 w)
  have HLA := Lib.hid hla
  have HLL := Lib.hid hll
  have HM3 := Lib.hid hM3
  clear hla hll hM hM3
  go_enter Tryz.func7, Tryz.ntmps7
  go_wp2_with (first | ((go_at_call 20; refine (HA.out).mono ?_; rintro e w0 ⟨rfl, hx0⟩)))
  have HX0 := Lib.hid hx0
  clear hx0 HA
  rw [hK]
  go_loopg [7, 17] K (fun mm v i wr => ∃ (j : Nat) (colx : Nat → Nat) (xs : List Bytes), i = .int .i64 (j : Nat) ∧ j ≤ K ∧ mm = K - j ∧ xs = List.replicate j [] ∧ RowC (Rd.slice Rd.u8) 22 7 wr colx v xs ∧ (∀ b, b < w0.heap.size → colx b = 0) ∧ Ext w0 wr)
  case atStart => exact ⟨0, fun _ => 0, [], rfl, Nat.zero_le _, rfl, rfl, RowC.nil, fun _ _ => rfl, Fr.refl _ _⟩
  case round =>
    obtain ⟨j, colx, xs, rfl, hj, hmm, hxs, hrow, hold, hx⟩ := hrel
    obtain ⟨Al, cl, rfl⟩ := hrow.isSl
    have hxl : xs.length = j := by rw [hxs, List.length_replicate]
    have HXL := Lib.hid hxl
    have HXS := Lib.hid hxs
    have HROW := Lib.hid hrow
    have HOLD := Lib.hid hold
    have HX := Lib.hid hx
    have HMM := Lib.hid hmm
    have hz := hx.size
    clear hrow hold hx hmm hxs hxl
    by_cases hlt : j < K
    · have d2 : decide ((j : Int) < (K : Int)) = true := by simp; omega
      have HLT := Lib.hid hlt
      have HT7 : Hid (∀ o, OwnR (Rd.slice Rd.u8) 22 (wr.alloc o) 0 (GrowOk wr.heap.size (wr.alloc o).heap.size colx (.slice Al xs.length cl)) (.slice Al xs.length cl) xs.length xs) := Lib.hid fun o => HROW.out.togrow ((Fr.refl _ wr).alloc o) (by omega)
      have HSY : Hid (SlC (Rd.slice Rd.u8) (wr.alloc (.cells #[.slice none 0 0] 22)) (GrowOk wr.heap.size (wr.alloc (.cells #[.slice none 0 0] 22)).heap.size colx (.slice Al xs.length cl)) (some ⟨wr.heap.size, 0, none⟩) 1 1 [([] : Bytes)]) := Lib.hid (by
        refine sl_newO (d := Rd.slice Rd.u8) (w := wr) (ok := NoB) (cells := [.slice none 0 0]) (blk_new _ _) (Elems.one (d := Rd.slice Rd.u8) (x := ([] : Bytes)) ⟨none, 0, 0, rfl, SlC.nil _ _ _ _ _ (Nat.zero_le _) (fun _ => rfl)⟩) ((Fr.refl _ _).alloc _) rfl (by decide) ⟨by simp, fun e => ?_, .inr (Nat.le_refl _)⟩ (fun _ _ e => e.elim)
        have := (HROW.out.1.block _ e).2
        omega)
      clear hlt
      go_wp2_with (at_builtin; refine wpList_append_rows (d := Rd.slice Rd.u8) (v := .slice Al xs.length cl) (xs := xs) (ys := [([] : Bytes)]) (n := xs.length) (m := 1) (base := 0) rfl rfl app_bytesw rfl (HT7.out _) growok_not HSY.out rfl ?_ ?_ ?_)
      · have := HXL.out; omega
      · exact Nat.zero_le _
      intro v2 w2 hown hgr hblk
      have hg2 : Goes wr colx (hue0 wr.heap.size colx 7 v2) := goes_hue0 HROW.out.2 (fun k hk => by
        rcases hblk k hk with h1 | h1
        · exact .inl h1
        · exact .inr (by omega))
      have hF2 : Fr (fun b => colx b = 7) wr w2 := Fr.trans (Ext.any ((Fr.refl _ wr).alloc _)) (Fr.of_grow hgr HROW.out.2)
      have HROW2 := Lib.hid (show RowC (Rd.slice Rd.u8) 22 7 w2 (hue0 wr.heap.size colx 7 v2) v2 (xs ++ [([] : Bytes)]) from RowC.grown hown (by simp) (fun k hk => by simpa using hblk k hk))
      have HOLD2 : Hid (∀ b, b < w0.heap.size → hue0 wr.heap.size colx 7 v2 b = 0) := Lib.hid fun b hb => (hg2 b (by omega)).trans (HOLD.out b hb)
      have HX2 : Hid (Ext w0 w2) := Lib.hid (Fr.trans' HX.out hF2 (fun b hb e => by have := HOLD.out b hb; omega))
      clear hown hgr hblk hg2 hF2 HSY HT7
      obtain ⟨Ao2, co2, rfl⟩ := HROW2.out.isSl
      generalize hue0 wr.heap.size colx 7 _ = colx2 at *
      go_wp2
      all_goals
        go_roundg (K - (j + 1))
        case measure => (have := HMM.out; have := HLT.out; omega)
        case rel =>
          refine ⟨j + 1, colx2, xs ++ [[]], by simp, HLT.out, rfl, ?_, by simpa using HROW2.out, HOLD2.out, HX2.out⟩
          rw [HXS.out, List.replicate_succ']
    · obtain rfl : j = K := by omega
      have d2 : decide ((j : Int) < (j : Int)) = false := by simp
      have hm1 : 4 ≤ 4 + M := by omega
      have hm2 : 4 + M ≤ 16777219 := by have := HM3.out; omega
      have HSL : Hid (SlC (Rd.slice Rd.u8) wr (fun b => b < wr.heap.size) Al j cl xs) := Lib.hid (by
        have := HROW.out.src.lt
        rw [HXL.out] at this
        exact this)
      have HP1 : Hid (Calls Tryz.prog 21 #[.int .i64 ((4 + M : Nat) : Int), .slice Al j cl] wr fun e w' => ∃ B d, e = .returned (.agg #[.slice none 0 0, .slice B 0 d, .int .i64 0, .int .i64 0]) ∧ Ext wr w') := Lib.hid (by
        have hx1 := Fr.trans HX0.out HX.out
        exact pieces_quiet (4 + M) hm1 hm2 Al j cl xs _ 0 (St.new (4 + M)) wr HSL.out (fun b hb => hb) (by rw [HXS.out, flat_nil]; rfl) rfl ⟨rfl, rfl, .inl ⟨rfl, rfl, rfl⟩⟩ (Nat.zero_le _) (HLA.out.ext hx1) (HLL.out.ext hx1))
      rw [HXL.out]
      clear hlt
      go_wp2_with (first | ((go_at_call 22; refine (HMO.out _).mono ?_; rintro e w8 ⟨rfl, rfl⟩)) | ((go_at_call 21; refine (HP1.out).mono ?_; rintro e w3 ⟨B, d, rfl, hx3⟩); have HX3 := Lib.hid hx3; clear hx3))
      have HROW3 := Lib.hid (HROW.out.ext HX3.out)
      refine wp_region_quietX (by kernel_rfl) (by kernel_rfl) ?_
      (repeat (first | (apply wpQuiet_op (hg := rfl); (focus (intro w' hw'; have hcx := Ext.cells hw'; have hzx := Fr.size hw'; go_simp; first | done | rfl | exact ⟨rfl, rfl⟩)); (intro K hK; go_simp; refine hK _ ?_; clear hK K)) | (refine wpQuiet_opW ?_ ?_ ?_ ?_; rotate_left; (focus (first | rfl | (go_simp; done))); (focus (intro w' hw'; have hcx := Ext.cells hw'; have hzx := Fr.size hw'; go_simp; first | done | rfl | exact ⟨rfl, rfl⟩)); (intro K hK; go_simp; refine hK _ ?_; clear hK K)) | (refine wpQuiet_no ?_ (fun K hK => ?_); (focus (first | rfl | (go_simp; done))); go_simp; refine hK _ ?_; clear hK K)))
      ((first | refine wpQuiet_op (.int .i64 ((4 + M : Nat) : Int)) rfl (fun w' hw' => ?_) (fun K hK => ?_) | (refine wpQuiet_opW (.int .i64 ((4 + M : Nat) : Int)) ?_ (fun w' hw' => ?_) (fun K hK => ?_); (focus (first | rfl | (go_simp; done))))); rotate_left; (go_simp; refine hK _ ?_; clear hK K); rotate_left; (have hcx := Ext.cells hw'; have hzx := Fr.size hw'; go_simp))
      · exact (HMO.out _).mono fun e w'' ⟨he, hw⟩ => ⟨he, by rw [hw]; exact hw'⟩
      (repeat (first | (apply wpQuiet_op (hg := rfl); (focus (intro w' hw'; have hcx := Ext.cells hw'; have hzx := Fr.size hw'; go_simp; first | done | rfl | exact ⟨rfl, rfl⟩)); (intro K hK; go_simp; refine hK _ ?_; clear hK K)) | (refine wpQuiet_opW ?_ ?_ ?_ ?_; rotate_left; (focus (first | rfl | (go_simp; done))); (focus (intro w' hw'; have hcx := Ext.cells hw'; have hzx := Fr.size hw'; go_simp; first | done | rfl | exact ⟨rfl, rfl⟩)); (intro K hK; go_simp; refine hK _ ?_; clear hK K)) | (refine wpQuiet_no ?_ (fun K hK => ?_); (focus (first | rfl | (go_simp; done))); go_simp; refine hK _ ?_; clear hK K)))
      ((first | refine wpQuiet_op (.tuple #[.slice none 0 0, .int .i64 0]) rfl (fun w' hw' => ?_) (fun K hK => ?_) | (refine wpQuiet_opW (.tuple #[.slice none 0 0, .int .i64 0]) ?_ (fun w' hw' => ?_) (fun K hK => ?_); (focus (first | rfl | (go_simp; done))))); rotate_left; (go_simp; refine hK _ ?_; clear hK K); rotate_left; (have hcx := Ext.cells hw'; have hzx := Fr.size hw'; go_simp))
      · exact (whole_Write_none (4 + M) hm1 hm2 none B 0 d 0 _).mono fun e w'' ⟨he, hx⟩ => ⟨he, Fr.trans hw' hx⟩
      (repeat (first | (apply wpQuiet_op (hg := rfl); (focus (intro w' hw'; have hcx := Ext.cells hw'; have hzx := Fr.size hw'; go_simp; first | done | rfl | exact ⟨rfl, rfl⟩)); (intro K hK; go_simp; refine hK _ ?_; clear hK K)) | (refine wpQuiet_opW ?_ ?_ ?_ ?_; rotate_left; (focus (first | rfl | (go_simp; done))); (focus (intro w' hw'; have hcx := Ext.cells hw'; have hzx := Fr.size hw'; go_simp; first | done | rfl | exact ⟨rfl, rfl⟩)); (intro K hK; go_simp; refine hK _ ?_; clear hK K)) | (refine wpQuiet_no ?_ (fun K hK => ?_); (focus (first | rfl | (go_simp; done))); go_simp; refine hK _ ?_; clear hK K)))
      (refine wpQuiet_nil ?_; intro w' hw'; have hcx := Ext.cells hw'; have hfx := Ext.frozens hw'; have hzx := Fr.size hw'; try simp [go_sem] at hzx; try (have hzl := Nat.lt_of_succ_le hzx; try (have hzm := Nat.lt_of_succ_lt hzl)))
      have HT8 : Hid (w'.heap[w3.heap.size]? = some (.cells #[.slice none 0 0, .slice B 0 d, .int .i64 0, .int .i64 0] 57 (0, 0))) := Lib.hid (Ext.blk hw' (blk_new _ _))
      have hx4 : Ext w3 w' := Fr.trans ((Fr.refl _ _).alloc _) hw'
      have HROW4 : Hid (RowC (Rd.slice Rd.u8) 22 7 w' colx (.slice Al xs.length cl) xs) := Lib.hid (HROW3.out.ext hx4)
      have HX4 : Hid (Ext w0 w') := Lib.hid (Fr.trans HX.out (Fr.trans HX3.out hx4))
      have hz4 : w0.heap.size ≤ w'.heap.size := HX4.out.size
      have hz8 : w3.heap.size < w'.heap.size := blk_lt HT8.out
      clear hx4 hw' hcx hfx hzx hzl HROW3
      generalize w' = w4 at *
      have HSY4 : Hid (SlC (Rd.slice Rd.u8) ((w4.alloc (.cells #[.int .u8 kb.toNat] 5)).alloc (.cells #[.slice (some ⟨w4.heap.size, 0, none⟩) 1 1] 22)) (GrowOk w4.heap.size ((w4.alloc (.cells #[.int .u8 kb.toNat] 5)).alloc (.cells #[.slice (some ⟨w4.heap.size, 0, none⟩) 1 1] 22)).heap.size colx (.slice Al xs.length cl)) (some ⟨w4.heap.size + 1, 0, none⟩) 1 1 [[kb]]) := Lib.hid (by
        have hvb : ∀ b, (Value.slice Al xs.length cl).ownBlock = some b → b < w4.heap.size := fun b e => (HROW4.out.1.block b e).2
        have hs : SlC Rd.u8 (w4.alloc (.cells #[.int .u8 kb.toNat] 5)) (fun b => b = w4.heap.size) (some ⟨w4.heap.size, 0, none⟩) 1 1 [kb] := sl_bytes w4 [kb] (by simp)
        have hb := blk_new' (w4.alloc (.cells #[.int .u8 kb.toNat] 5)) (.cells #[.slice (some ⟨w4.heap.size, 0, none⟩) 1 1] 22) (g := w4.heap.size + 1) (by simp)
        exact sl_newO (d := Rd.slice Rd.u8) (w := w4.alloc (.cells #[.int .u8 kb.toNat] 5)) (ok := fun b => b = w4.heap.size) (cells := [.slice (some ⟨w4.heap.size, 0, none⟩) 1 1]) hb (Elems.one (d := Rd.slice Rd.u8) (x := [kb]) ⟨_, _, _, rfl, hs⟩) ((Fr.refl _ _).alloc _) rfl (by decide) ⟨by simp, fun e => by have := hvb _ e; omega, .inr (by omega)⟩ (fun b _ e => ⟨by simp; omega, fun e' => by have := hvb _ e'; omega, .inr (by omega)⟩))
      have HT9 : Hid (∀ o o2, OwnR (Rd.slice Rd.u8) 22 ((w4.alloc o).alloc o2) 0 (GrowOk w4.heap.size ((w4.alloc o).alloc o2).heap.size colx (.slice Al xs.length cl)) (.slice Al xs.length cl) xs.length xs) := Lib.hid fun o o2 => HROW4.out.togrow (((Fr.refl _ w4).alloc o).alloc o2) (by omega)
      rw [HXL.out] at HSY4 HT9
      go_wp2_with (first | ((go_at_call 22; refine (HMO.out _).mono ?_; rintro e w8 ⟨rfl, rfl⟩)) | (at_builtin; refine wpList_append_rows (d := Rd.slice Rd.u8) (v := .slice Al j cl) (xs := xs) (ys := [[kb]]) (n := j) (m := 1) (base := 0) rfl rfl app_bytesw rfl (HT9.out _ _) growok_not HSY4.out rfl ?_ ?_ ?_))
      · omega
      · exact Nat.zero_le _
      intro v9 w9 hown hgr hblk
      have HROW5 := HROW4.out
      rw [HXL.out] at HROW5
      have hblk5 : ∀ b, (Value.slice Al j cl).ownBlock = some b → b < w3.heap.size := fun b e => Nat.lt_of_lt_of_le (HROW.out.1.block b (by rw [HXL.out]; exact e)).2 HX3.out.size
      obtain ⟨A9, c9, rfl, hs9⟩ := hown.sl
      have hF9 := Fr.of_grow (F := fun b => (Value.slice Al j cl).ownBlock = some b) hgr (fun k hk => hk)
      have hT9 := hF9.blk (Ext.blk (((Fr.refl No _).alloc _).alloc _) HT8.out) (fun e => Nat.lt_irrefl _ (hblk5 _ e))
      have hx9 : Ext w0 w9 := Fr.trans' (Fr.trans HX4.out (((Fr.refl No _).alloc _).alloc _)) (Fr.of_grow (F := fun b => colx b = 7) hgr HROW5.2) (fun b hb e => by have := HOLD.out b hb; omega)
      have hx09 : Ext w w9 := Fr.trans HX0.out hx9
      obtain ⟨y, y1, y2, y3, y4, y5⟩ := run_one (4 + M) kb
      have HP2 : Hid (Calls Tryz.prog 21 #[.int .i64 ((4 + M : Nat) : Int), .slice A9 (j + 1) c9] w9 fun e w' => ∃ B d, e = .returned (.agg #[.slice none 0 0, .slice B 0 d, .int .i64 1, .int .i64 4]) ∧ Ext w9 w') := Lib.hid (by
        have := pieces_quiet (4 + M) hm1 hm2 A9 (j + 1) c9 (xs ++ [[kb]]) _ 4 y w9 hs9.lt (fun b hb => hb) (by rw [HXS.out, List.flatten_append, flat_nil]; exact y1) y2 y3 (by rw [y4]; omega) (HLA.out.ext hx09) (HLL.out.ext hx09)
        rw [y4, y5] at this
        exact this)
      have HT9 := Lib.hid hT9
      have HX09 := Lib.hid hx09
      have hz9 : w3.heap.size < w9.heap.size := blk_lt hT9
      clear hown hgr hblk HROW5 hblk5 hs9 hF9 hT9 hx9 hx09 y1 y2 y3 y4 y5
      go_wp2_with (first | ((go_at_call 13; refine (HT9.out).mono ?_; rintro e w4)))
      (go_at_call 21; refine (HP2.out).mono ?_; rintro e w10 ⟨B2, dd2, rfl, hx10⟩)
      have hT10 := Ext.blk hx10 HT9.out
      have k0 : w10.cell? ⟨w3.heap.size, 0, none⟩ = some (.slice none 0 0) := (blk_cell hT10 0).trans rfl
      have k1 : w10.cell? ⟨w3.heap.size, 1, none⟩ = some (.slice B 0 d) := (blk_cell hT10 1).trans rfl
      have k2 : w10.cell? ⟨w3.heap.size, 2, none⟩ = some (.int .i64 0) := (blk_cell hT10 2).trans rfl
      have k3 : w10.cell? ⟨w3.heap.size, 3, none⟩ = some (.int .i64 0) := (blk_cell hT10 3).trans rfl
      have hz10 : w3.heap.size < w10.heap.size := blk_lt hT10
      have HX10 := Lib.hid (Fr.trans HX09.out hx10)
      have HSM : Hid (∀ W, Calls Tryz.prog 24 #[.agg #[.slice none 0 0, .slice B 0 d, .int .i64 0, .int .i64 0], .agg #[.slice none 0 0, .slice none 0 0, .int .i64 0, .int .i64 0]] W fun e w' => e = .returned (.int .i64 1) ∧ Ext W w') := Lib.hid fun W => law21_Same none B none none 0 d 0 0 0 W
      clear hT10 hx10
      go_wp2_with (first | ((go_at_call 13; refine (HT9.out).mono ?_; rintro e w4)))
      (go_at_call 24; refine (HSM.out _).mono ?_; rintro e w11 ⟨rfl, hx11⟩)
      have hT11 : w11.heap[w10.heap.size]? = some (.cells #[.slice none 0 0, .slice B2 0 dd2, .int .i64 1, .int .i64 4] 57 (0, 0)) := Ext.blk hx11 (blk_new _ _)
      have q0 : w11.cell? ⟨w10.heap.size, 0, none⟩ = some (.slice none 0 0) := (blk_cell hT11 0).trans rfl
      have q1 : w11.cell? ⟨w10.heap.size, 1, none⟩ = some (.slice B2 0 dd2) := (blk_cell hT11 1).trans rfl
      have q2 : w11.cell? ⟨w10.heap.size, 2, none⟩ = some (.int .i64 1) := (blk_cell hT11 2).trans rfl
      have q3 : w11.cell? ⟨w10.heap.size, 3, none⟩ = some (.int .i64 4) := (blk_cell hT11 3).trans rfl
      have hz11 : w10.heap.size < w11.heap.size := blk_lt hT11
      have HX11 := Lib.hid (Fr.trans HX10.out (Fr.trans ((Fr.refl No _).alloc _) hx11))
      clear hT11 hx11 k0 k1 k2 k3
      go_wp2
      refine bodyPost_ret (v := .bool true) (by simp only [results, Tryz.results7]; go_simp) rfl ?_
      exact ⟨rfl, HX11.out⟩
theorem law_empty (n q k : Int) (w : World) (hwk : (Lit.int .u8 k).wf = true) (hla : Laid w) (hll : LaidLim w) : Calls Tryz.prog 7 #[.int .i64 n, .int .i64 q, .int .u8 k] w fun e w' => e = .returned (.bool true) ∧ Ext w w' := by
  simp only [Lit.wf, Bool.and_eq_true, decide_eq_true_eq] at hwk
  obtain ⟨h1, h2⟩ := hwk
  have h1 : 0 ≤ k := h1
  have h2 : k ≤ 255 := h2
  obtain ⟨kb, rfl⟩ : ∃ kb : UInt8, k = (kb.toNat : Int) := ⟨UInt8.ofNat k.toNat, by rw [UInt8.toNat_ofNat', Nat.mod_eq_of_lt (by omega), Int.toNat_of_nonneg h1]⟩
  exact empty_walk n q kb (max (0 : Int) n % 3000).toNat (max (0 : Int) q % 30).toNat (by omega) (by omega) (by omega) (by omega) w hla hll
end Go.Proofs.YtalbiepdkaldmaaGreatDoor
