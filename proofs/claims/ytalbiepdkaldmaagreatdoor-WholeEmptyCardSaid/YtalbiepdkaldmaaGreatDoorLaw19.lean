/- law19: the document's examples hold ('alive'). -/
import Derived.Test.YtalbiepdkaldmaaGreatDoorProg
import Derived.Test.YtalbiepdkaldmaaGreatDoorStm9
import Derived.Laws.BytesArg
import Derived.Deep.QuietTactic
set_option linter.unusedVariables false
set_option linter.unusedSimpArgs false
namespace Go.Proofs.YtalbiepdkaldmaaGreatDoor
open Go.RowKit
theorem strOf_map (xs : Bytes) : strOfNums (xs.map fun x => (x.toNat : Int)) = ⟨xs.toArray⟩ := by
  unfold strOfNums
  congr 1
  rw [List.map_map]
  congr 1
  have : ((fun n : Int => UInt8.ofNat n.toNat) ∘ fun x : UInt8 => (x.toNat : Int)) = id := by
    funext x
    simp
  rw [this, List.map_id]
/-- The text of bytes. -/
theorem str_of {A : Option Addr} {n c : Nat} {xs : Bytes} {ok : Nat → Prop} {w : World} (h : SlC Rd.u8 w ok A n c xs) : (convert 22 9 (.slice A n c)).run Tryz.prog w = .ok (.string ⟨xs.toArray⟩) w := by
  cases A with
  | none =>
    have hc := h.zero rfl
    have hn : n = 0 := by have := h.le; omega
    subst hn
    have hx : xs = [] := List.eq_nil_of_length_eq_zero h.len
    subst hx
    exact run_convert_bytes_nil w _ _ Tryz.underlying22 Tryz.underlying5 0 c _ Tryz.underlying9
  | some ad =>
    by_cases hn : n = 0
    · subst hn
      have hx : xs = [] := List.eq_nil_of_length_eq_zero h.len
      subst hx
      have h1 : (loadCells ad 0).run Tryz.prog w = .ok (([] : List Int).map (Value.int .u8)).toArray w := run_loadCells_list (P := Tryz.prog) w ad [] (fun j v hj => by simp at hj)
      rw [run_convert_bytes_string w _ _ 5 _ 0 c Tryz.underlying22 Tryz.underlying5 Tryz.underlying9]
      rw [run_bytesToString w ad 0 c [] h1]
      rfl
    · obtain ⟨b, o, hA⟩ := h.addr (by omega)
      obtain rfl := Option.some.inj hA
      rw [← strOf_map]
      refine run_convert_bytes_arg w _ _ Tryz.underlying22 Tryz.underlying5 b o n c (xs.map fun x => (x.toNat : Int)) (by simpa using h.len) (fun i hi => ?_) _ Tryz.underlying9
      have hlt : i < xs.length := by have := h.len; omega
      obtain ⟨b', o', hA', _, hc⟩ := scalar_cell h (List.getElem?_eq_getElem hlt)
      have e1 := Option.some.inj hA'
      rw [Addr.mk.injEq] at e1
      obtain ⟨rfl, rfl, _⟩ := e1
      rw [hc]
      simp [List.getD, List.getElem?_eq_getElem hlt]
theorem elems_u8 {w : World} {ok : Nat → Prop} : ∀ l : Bytes, Elems Rd.u8 w ok l (l.map fun x => .int .u8 x.toNat)
  | [] => Elems.nil _ _ _
  | x :: l => by
    have := (Elems.one (d := Rd.u8) (w := w) (ok := ok) (x := x) (cs := [.int .u8 x.toNat]) rfl).append (elems_u8 l)
    simpa using this
theorem sl_bytes (w : World) (l : Bytes) (hl : l.length ≤ 1000) : SlC Rd.u8 (w.alloc (.cells (l.map fun x => Value.int .u8 x.toNat).toArray 5)) (fun b => b = w.heap.size) (some ⟨w.heap.size, 0, none⟩) l.length l.length l :=
  sl_newO (d := Rd.u8) (w := w) (ok := NoB) (blk_new _ _) (elems_u8 l) ((Fr.refl _ _).alloc _) rfl (by simp only [maxLen]; omega) rfl (fun _ _ e => e.elim)
/-- Feeding a literal. -/
theorem feed_lit {w : World} {col : Nat → Nat} {s h t : Nat} {st st' : St} (l : Bytes) (hl : l.length ≤ 1000) (H : IsSt w col s h t st) (he : st.err = 0) (hcl : st.closed = false) (h7 : ∀ b, b < w.heap.size → col b ≠ 7) (hr : st.run l = some st') :
    Calls Tryz.prog 14 #[.pointer (some ⟨s, 0, none⟩), .slice (some ⟨w.heap.size, 0, none⟩) l.length l.length] (w.alloc (.cells (l.map fun x => Value.int .u8 x.toNat).toArray 5)) fun e w' => ∃ col' A c, (∀ b, b < w.heap.size → col' b = col b) ∧ (∀ b, b < w'.heap.size → col' b ≠ 7) ∧ e = .returned (.tuple #[.slice A st'.events.length c, .int .i64 st'.at_, .int .i64 st'.err]) ∧
      SlC Rd.event w' (fun b => b < w'.heap.size ∧ col' b = 0) A st'.events.length c st'.events ∧ IsSt w' col' s h t { st' with events := [] } ∧ Fr (Hot col) w w' := by
  have hx : Ext w (w.alloc (.cells (l.map fun x => Value.int .u8 x.toNat).toArray 5)) := (Fr.refl _ _).alloc _
  have hg := clip_goes w col
  refine (stream_Feed (col := clip w col) ((H.goes hg).ext hx) he hcl (fun b _ e => ?_) hr (sl_bytes w l hl) (fun b hb => ?_)).mono ?_
  · unfold clip at e
    split at e
    · rename_i hb
      exact h7 b hb e
    · cases e
  · have hb : b = w.heap.size := hb
    subst hb
    exact ⟨by simp, clip_new (Nat.le_refl _)⟩
  · rintro e w' ⟨col', A, c, hg', h7', he', hs, hI, hf⟩
    refine ⟨col', A, c, fun b hb => (hg' b (Nat.lt_of_lt_of_le hb hx.size)).trans (hg b hb), h7', he', hs.ltok, hI, Fr.trans' (Ext.any hx) hf (fun b hb e => ?_)⟩
    unfold Hot at *
    rw [hg b hb] at e
    exact e
theorem alive_fin1 : ((St.new 100).run [22, 3, 3, 0, 5, 24, 0, 0, 1, 1]).map (fun st => (st.err, st.at_, st.came, st.events, st.left, st.head, st.hd.data, st.closed)) = some (0, 0, 10, [(22, [24, 0, 0, 1, 1])], 0, [], [], false) := by rfl
theorem alive_fin2 : (((St.new 100).run [22, 3, 3, 0, 1, 24, 21, 3, 3, 0]).bind (fun st => ({ st with events := [] } : St).run [2])).map (fun st => (st.err, st.at_)) = some (10, 6) := by rfl
theorem alive_fin3 : ((St.new 100).run [22, 3, 3, 0, 1, 24, 21, 3, 3, 0]).map (fun st => (st.err, st.closed)) = some (0, false) := by rfl
set_option maxRecDepth 8000 in
set_option maxHeartbeats 4000000 in
theorem law19_alive (w : World) (hla : Laid w) (hll : LaidLim w) : Calls Tryz.prog 12 #[] w fun e w' => e = .returned (.bool true) ∧ Ext w w' := by
  obtain ⟨st1, hr1, hq1⟩ := Option.map_eq_some_iff.1 alive_fin1
  obtain ⟨st2, hr2, hq2⟩ := Option.map_eq_some_iff.1 alive_fin3
  obtain ⟨st3, hr3, hq3⟩ : ∃ st3, ({ st2 with events := [] } : St).run [2] = some st3 ∧ (st3.err, st3.at_) = (10, 6) := by
    have := alive_fin2
    rw [hr2] at this
    exact Option.map_eq_some_iff.1 this
  simp only [Prod.mk.injEq] at hq1 hq2 hq3
  obtain ⟨q1, q2, q3, q4, q5, q6, q7, q8⟩ := hq1
  have HN := Lib.hid (stream_New 100 w (by decide) (by decide) hll hla)
  have HR1 := Lib.hid hr1
  have HR2 := Lib.hid hr2
  have HR3 := Lib.hid hr3
  have HQ1 := Lib.hid (show st1.err = 0 ∧ st1.at_ = 0 ∧ st1.came = 10 ∧ st1.events = [(22, [24, 0, 0, 1, 1])] ∧ st1.left = 0 ∧ st1.head = [] ∧ st1.hd.data = [] ∧ st1.closed = false from ⟨q1, q2, q3, q4, q5, q6, q7, q8⟩)
  have HQ2 := Lib.hid hq2
  have HQ3 := Lib.hid hq3
  clear hr1 hr2 hr3 hq2 hq3 q1 q2 q3 q4 q5 q6 q7 q8
  go_enter Tryz.func12, Tryz.ntmps12
  go_wp2_with (first | ((go_at_call 13; refine (HN.out).mono ?_; rintro e w1 ⟨s, h, t, col, rfl, hI1, hc0, hx1, hc4⟩)))
  have HF1 : Hid (Calls Tryz.prog 14 #[.pointer (some ⟨s, 0, none⟩), .slice (some ⟨w1.heap.size, 0, none⟩) 10 10] (w1.alloc (.cells #[.int .u8 22, .int .u8 3, .int .u8 3, .int .u8 0, .int .u8 5, .int .u8 24, .int .u8 0, .int .u8 0, .int .u8 1, .int .u8 1] 5)) fun e w' => ∃ col' A c, (∀ b, b < w1.heap.size → col' b = col b) ∧ e = .returned (.tuple #[.slice A 1 c, .int .i64 0, .int .i64 0]) ∧
      SlC Rd.event w' (fun b => b < w'.heap.size ∧ col' b = 0) A 1 c [(22, [24, 0, 0, 1, 1])] ∧ IsSt w' col' s h t { st1 with events := [] } ∧ Fr (Hot col) w1 w') := Lib.hid (by
    obtain ⟨q1, q2, q3, q4, q5, q6, q7, q8⟩ := HQ1.out
    have := feed_lit [22, 3, 3, 0, 5, 24, 0, 0, 1, 1] (by decide) hI1 rfl rfl (fun b _ e => by have := hc4 b; omega) HR1.out
    exact this.mono fun e w' ⟨col', A, c, h1, _, h2, h3, h4, h5⟩ => ⟨col', A, c, h1, by rw [q1, q2, q4] at h2; exact h2, by rw [q4] at h3; exact h3, h4, h5⟩)
  have HI1 := Lib.hid hI1
  have HC0 := Lib.hid hc0
  have HX1 := Lib.hid hx1
  have HC4 := Lib.hid hc4
  clear hI1 hc0 hx1 hc4
  (go_at_call 14; refine (HF1.out).mono ?_; rintro e w2 ⟨col2, A2, c2, hg2, rfl, hs2, hI2, hf2⟩)
  obtain ⟨cs, ⟨gb, go, arr, T, fr, rfl, ⟨hgb, hgc⟩, hgh, hgd⟩, A9, n9, c9, rfl, hs9⟩ := hs2.get (j := 0) (x := (22, [24, 0, 0, 1, 1])) rfl
  obtain rfl : n9 = 5 := by have := hs9.len; simpa using this.symm
  have kc0 : w2.cell? ⟨gb, go, none⟩ = some (.int .i64 22) := by
    have := hgd 0 (.int .i64 22) rfl
    simp at this
    simp [World.cell?, hgh, this]
  have kc1 : w2.cell? ⟨gb, go + 1, none⟩ = some (.slice A9 5 c9) := by
    have := hgd 1 (.slice A9 5 c9) rfl
    simp at this
    simp [World.cell?, hgh, this]
  have HS9 := Lib.hid hs9
  have HKC := Lib.hid (And.intro kc0 kc1)
  clear hs9 kc0 kc1 hgd hs2
  have HCL : Hid (Calls Tryz.prog 16 #[.pointer (some ⟨s, 0, none⟩)] w2 fun e w' => e = .returned (.tuple #[.int .i64 10, .int .i64 0]) ∧ Laid w' ∧ LaidLim w' ∧ Fr (Hot col2) w2 w') := Lib.hid (by
    obtain ⟨q1, q2, q3, q4, q5, q6, q7, q8⟩ := HQ1.out
    have := stream_Close_ok hI2 q1 q8 q5 q6 q7
    rw [show ({ st1 with events := [] } : St).came = 10 from q3] at this
    exact this.mono fun e w' ⟨he, ⟨_, _, _, _, hI⟩, hf⟩ => ⟨he, hI.env.laid, hI.env.lim, hf⟩)
  go_wp2_with (first | ((go_at_call 16; refine (HCL.out).mono ?_; rintro e w3 ⟨rfl, hla3, hll3, hf3⟩)))
  have HN3 := Lib.hid (stream_New 100 w3 (by decide) (by decide) hll3 hla3)
  go_wp2_with (first | ((go_at_call 13; refine (HN3.out).mono ?_; rintro e w4 ⟨s4, h4, t4, col4, rfl, hI4, hc40, hx4, hc44⟩)))
  have HF4 : Hid (Calls Tryz.prog 14 #[.pointer (some ⟨s4, 0, none⟩), .slice (some ⟨w4.heap.size, 0, none⟩) 10 10] (w4.alloc (.cells #[.int .u8 22, .int .u8 3, .int .u8 3, .int .u8 0, .int .u8 1, .int .u8 24, .int .u8 21, .int .u8 3, .int .u8 3, .int .u8 0] 5)) fun e w' => ∃ col' A n c, (∀ b, b < w4.heap.size → col' b = col4 b) ∧ (∀ b, b < w'.heap.size → col' b ≠ 7) ∧ e = .returned (.tuple #[.slice A n c, .int .i64 st2.at_, .int .i64 st2.err]) ∧
      IsSt w' col' s4 h4 t4 { st2 with events := [] } ∧ Fr (Hot col4) w4 w') := Lib.hid ((feed_lit [22, 3, 3, 0, 1, 24, 21, 3, 3, 0] (by decide) hI4 rfl rfl (fun b _ e => by have := hc44 b; omega) HR2.out).mono fun e w' ⟨col', A, c, h1, h7, h2, h3, h4, h5⟩ => ⟨col', A, _, c, h1, h7, h2, h4, h5⟩)
  (go_at_call 14; refine (HF4.out).mono ?_; rintro e w5 ⟨col5, A5, n5, c5, hg5, h75, rfl, hI5, hf5⟩)
  have HF5 : Hid (Calls Tryz.prog 14 #[.pointer (some ⟨s4, 0, none⟩), .slice (some ⟨w5.heap.size, 0, none⟩) 1 1] (w5.alloc (.cells #[.int .u8 2] 5)) fun e w' => ∃ A n c, e = .returned (.tuple #[.slice A n c, .int .i64 6, .int .i64 10]) ∧ Fr (Hot col5) w5 w') := Lib.hid (by
    obtain ⟨q1, q2⟩ := HQ3.out
    exact (feed_lit [2] (by decide) hI5 HQ2.out.1 HQ2.out.2 h75 HR3.out).mono fun e w' ⟨col', A, c, h1, h7, h2, h3, h4, h5⟩ => ⟨A, _, c, by rw [q1, q2] at h2; exact h2, h5⟩)
  go_wp2_with (first | ((go_at_call 13; refine (HN3.out).mono ?_; rintro e w6 ⟨s4, h4, t4, col4, rfl, hI4, hc40, hx4, hc44⟩)))
  (go_at_call 14; refine (HF5.out).mono ?_; rintro e w6 ⟨A6, n6, c6, rfl, hf6⟩)
  have hb3 : ∀ b, b < w2.heap.size ∧ col2 b = 0 → b < w3.heap.size ∧ b < w4.heap.size ∧ col4 b = 0 ∧ col5 b = 0 := fun b hb => by
    have z3 := Nat.lt_of_lt_of_le hb.1 hf3.size
    have z4 := Nat.lt_of_lt_of_le z3 hx4.size
    have := hc40 b z3
    exact ⟨z3, z4, this, (hg5 b z4).trans this⟩
  have hs26 : SlC Rd.u8 w6 (fun b => b < w2.heap.size ∧ col2 b = 0) A9 5 c9 [24, 0, 0, 1, 1] :=
    ((((HS9.out.fr hf3 (fun b hb e => e hb.2)).ext hx4).fr hf5 (fun b hb e => e (hb3 b hb).2.2.1)).fr hf6 (fun b hb e => e (hb3 b hb).2.2.2))
  have hcell : ∀ o, w6.cell? ⟨gb, o, none⟩ = w2.cell? ⟨gb, o, none⟩ := fun o => by
    obtain ⟨z3, z4, z5, z6⟩ := hb3 gb ⟨hgb, hgc⟩
    rw [Fr.cells hf6 gb o (Nat.lt_of_lt_of_le z4 hf5.size) (fun e => e z6), Fr.cells hf5 gb o z4 (fun e => e z5), Ext.cells hx4 gb o z3, Fr.cells hf3 gb o hgb (fun e => e hgc)]
  have k60 : w6.cell? ⟨gb, go, none⟩ = some (.int .i64 22) := (hcell go).trans HKC.out.1
  have k61 : w6.cell? ⟨gb, go + 1, none⟩ = some (.slice A9 5 c9) := (hcell (go + 1)).trans HKC.out.2
  have kcv := str_of hs26
  have hfin : Ext w w6 := by
    have h01 : ∀ b, b < w.heap.size → b < w1.heap.size := fun b hb => Nat.lt_of_lt_of_le hb HX1.out.size
    have f2 : Ext w w2 := Fr.trans' HX1.out hf2 (fun b hb e => e (HC0.out b hb))
    have z2 : ∀ b, b < w.heap.size → col2 b = 0 := fun b hb => (hg2 b (h01 b hb)).trans (HC0.out b hb)
    have f3 : Ext w w3 := Fr.trans' f2 hf3 (fun b hb e => e (z2 b hb))
    have z3 : ∀ b, b < w.heap.size → b < w2.heap.size ∧ col2 b = 0 := fun b hb => ⟨Nat.lt_of_lt_of_le hb f2.size, z2 b hb⟩
    exact Fr.trans' (Fr.trans' (Fr.trans f3 hx4) hf5 (fun b hb e => e (hb3 b (z3 b hb)).2.2.1)) hf6 (fun b hb e => e (hb3 b (z3 b hb)).2.2.2)
  have HFIN := Lib.hid hfin
  clear hfin hs26 hcell hb3 hf6 hf5 hx4 hf3 hf2 hg2 hg5 hc40 hc44 h75 hI5 hI4 HKC HS9 HF5 HF4 HF1 HN HN3 HCL HC0 HC4
  go_wp2
  refine bodyPost_ret (v := .bool true) (by simp only [results, Tryz.results12]; go_simp) rfl ?_
  exact ⟨rfl, HFIN.out⟩
end Go.Proofs.YtalbiepdkaldmaaGreatDoor
