/- stream: how a stream lies in memory; what may turn; rows that grow; New and fail. -/
import Derived.Test.YtalbiepdkaldmaaGreatDoorProg
import Derived.Test.YtalbiepdkaldmaaGreatDoorHand5
import Derived.Test.YtalbiepdkaldmaaGreatDoorBody
import Derived.Test.YtalbiepdkaldmaaGreatDoorMsg5
import Derived.Deep.QuietTactic
import Derived.BigQuiet
import Derived.Deep.LoopGhost
import Derived.Laws.EntriesVeiled
set_option linter.unusedVariables false
set_option linter.unusedSimpArgs false
namespace Go.Proofs.YtalbiepdkaldmaaGreatDoor
open Go.RowKit
/-- An event: its kind, its bytes. -/
def Rd.event : Rd (Nat × Bytes) where
  sz := 2
  K := fun w ok x cs => ∃ A n c, cs = [.int .i64 x.1, .slice A n c] ∧ SlC Rd.u8 w ok A n c x.2
  len := fun h => by obtain ⟨A, n, c, rfl, _⟩ := h; rfl
  one := fun h u hu => by
    obtain ⟨A, n, c, rfl, _⟩ := h
    simp at hu
    rcases hu with rfl | rfl <;> rfl
  mono := fun hm h => by
    obtain ⟨A, n, c, e, h1⟩ := h
    exact ⟨A, n, c, e, h1.mono hm⟩
  move := fun hm h => by
    obtain ⟨A, n, c, e, h1⟩ := h
    exact ⟨A, n, c, e, h1.move hm⟩
theorem app_event : AppT Tryz.prog 41 49 2 32 := AppT.of (z := .agg #[.int .i64 0, .slice none 0 0]) Tryz.underlying41 (by kernel_rfl) rfl (by decide) (by decide)
/-- A row of a colour. -/
def RowC {α : Type} (d : Rd α) (e c : Nat) (w : World) (col : Nat → Nat) (v : Value) (xs : List α) : Prop := OwnR d e w 0 (fun b => col b = 0) v xs.length xs ∧ ∀ k, v.ownBlock = some k → col k = c
/-- Blocks of some colours. -/
def Cl (S : List Nat) (col : Nat → Nat) : Nat → Prop := fun b => col b ∈ S
def hue0 (n : Nat) (col : Nat → Nat) (c : Nat) (v : Value) : Nat → Nat := fun b => if v.ownBlock = some b then c else if b < n then col b else 0
section
variable {α : Type} {d : Rd α} {e c : Nat} {w w' : World} {col col' : Nat → Nat} {v : Value} {xs : List α}
theorem RowC.nil : RowC d e c w col (.slice none 0 0) [] := ⟨OwnR.nil _ _ _ _ _, fun k hk => by simp [Value.ownBlock] at hk⟩
theorem RowC.goes (h : RowC d e c w col v xs) (hg : Goes w col col') : RowC d e c w col' v xs :=
  ⟨h.1.okmono fun b hb h0 => (hg b hb).trans h0, fun k hk => (hg k (h.1.block k hk).2).trans (h.2 k hk)⟩
theorem RowC.fr {F : Nat → Prop} (h : RowC d e c w col v xs) (hf : Fr F w w') (hF : ∀ b, b < w.heap.size → F b → col b ≠ c ∧ col b ≠ 0) : RowC d e c w' col v xs := by
  have hr : Fr (fun b => b < w.heap.size ∧ F b) w w' := ⟨hf.os, hf.tape, hf.output, hf.size, fun k hk hn => hf.block k hk (fun hF => hn ⟨hk, hF⟩)⟩
  exact ⟨h.1.fr hr (fun k hk e => (hF k e.1 e.2).1 (h.2 k hk)) (fun b hb e => (hF b e.1 e.2).2 hb), h.2⟩
theorem RowC.ext (h : RowC d e c w col v xs) (hf : Ext w w') : RowC d e c w' col v xs := h.fr hf (fun _ _ e => e.elim)
theorem RowC.isSl (h : RowC d e c w col v xs) : ∃ A n, v = .slice A xs.length n := by
  obtain ⟨A, n, rfl, _⟩ := h.1.sl
  exact ⟨A, n, rfl⟩
end
theorem RowC.src {α : Type} {d : Rd α} {e c : Nat} {w : World} {col : Nat → Nat} {A : Option Addr} {n : Nat} {xs : List α} (h : RowC d e c w col (.slice A xs.length n) xs) : SlC d w Any A xs.length n xs := by
  obtain ⟨A', n', he, hs⟩ := h.1.sl
  injection he with e1 _ e2
  subst e1
  subst e2
  exact hs.any
section
variable {α : Type} {d : Rd α} {e c : Nat} {w w' w1 w2 : World} {col col' : Nat → Nat} {v v' : Value} {xs : List α}
theorem goes_hue0 (h : ∀ k, v.ownBlock = some k → col k = c) (hv : ∀ k, v'.ownBlock = some k → v.ownBlock = some k ∨ w.heap.size ≤ k) : Goes w col (hue0 w.heap.size col c v') := by
  intro b hb
  unfold hue0
  split
  · rename_i e
    rcases hv b e with h1 | h1
    · exact (h b h1).symm
    · omega
  · first | rfl | rw [if_pos hb]
/-- What may be told of a row that is to grow. -/
def GrowOk (n0 n1 : Nat) (col : Nat → Nat) (v : Value) : Nat → Prop := fun b => b < n1 ∧ v.ownBlock ≠ some b ∧ (col b = 0 ∨ n0 ≤ b)
theorem RowC.togrow (h : RowC d e c w col v xs) (hx : Ext w w1) (hc : c ≠ 0) : OwnR d e w1 0 (GrowOk w.heap.size w1.heap.size col v) v xs.length xs :=
  (h.1.okmono (ok' := GrowOk w.heap.size w1.heap.size col v) fun b hb h0 => ⟨Nat.lt_of_lt_of_le hb hx.size, fun e => hc ((h.2 b e).symm.trans h0), .inl h0⟩).ext hx
theorem growok_not {n0 n1 : Nat} : ∀ k, v.ownBlock = some k → ¬ GrowOk n0 n1 col v k := fun k hk e => e.2.1 hk
theorem RowC.grown {n0 n1 n : Nat} (hown : OwnR d e w2 0 (GrowOk n0 n1 col v) v' n xs) (hn : n = xs.length) (hblk : ∀ k, v'.ownBlock = some k → v.ownBlock = some k ∨ n1 ≤ k) : RowC d e c w2 (hue0 n0 col c v') v' xs := by
  subst hn
  refine ⟨hown.okmono fun b _ hb => ?_, fun k hk => if_pos hk⟩
  obtain ⟨h1, h2, h3⟩ := hb
  unfold hue0
  rw [if_neg (fun e => by rcases hblk b e with h | h; exact h2 h; omega)]
  rcases h3 with h3 | h3
  · split
    · exact h3
    · rfl
  · rw [if_neg (by omega)]
end
theorem IsHand.goes {w : World} {col col' : Nat → Nat} {h : Nat} {σ : Hd} (H : IsHand w col h σ) (hg : Goes w col col') : IsHand w col' h σ := by
  obtain ⟨hc, vd, vs, hb, hd, hd8, hs, hs9⟩ := H
  exact ⟨(hg h (blk_lt hb)).trans hc, vd, vs, hb, hd, fun k hk => (hg k (hd.block k hk).2).trans (hd8 k hk), hs, fun k hk => (hg k (hs.block k hk).2).trans (hs9 k hk)⟩
/-- What is done with the next byte. -/
inductive Nx | head | body | message
deriving DecidableEq
def Nx.v (s : Nat) : Nx → Value
  | .head => .func (.func 40) #[.pointer (some ⟨s, 0, none⟩)] #[]
  | .body => .func (.func 73) #[.pointer (some ⟨s, 0, none⟩)] #[]
  | .message => .func (.func 74) #[.pointer (some ⟨s, 0, none⟩)] #[]
structure St where
  hd : Hd
  steps : Nat
  came : Nat
  next : Nx
  head : Bytes
  now : Rec
  body : Bytes
  left : Nat
  records : List Rec
  events : List (Nat × Bytes)
  at_ : Nat
  err : Nat
  closed : Bool
def stCells (s h t : Nat) (st : St) (vh vb vr ve : Value) : Array Value :=
  #[.pointer (some ⟨h, 0, none⟩), .pointer (some ⟨t, 0, none⟩), .int .i64 st.came, st.next.v s, vh, .int .i64 st.now.kind, .int .i64 st.now.version, .int .i64 st.now.length, vb, .int .i64 st.left, vr, ve, .int .i64 st.at_, .int .i64 st.err, .bool st.closed]
/-- The globals' blocks have no colour; the tables lie. -/
structure Env (w : World) (col : Nat → Nat) : Prop where
  lim : LaidLim w
  laid : Laid w
  col0 : ∀ b, b < 11 → col b = 0
theorem Env.fr {F : Nat → Prop} {w w' : World} {col : Nat → Nat} (h : Env w col) (hf : Fr F w w') (hF : ∀ b, b < w.heap.size → F b → col b ≠ 0) : Env w' col := by
  have hr : Fr (fun b => b < w.heap.size ∧ F b) w w' := ⟨hf.os, hf.tape, hf.output, hf.size, fun k hk hn => hf.block k hk (fun hF => hn ⟨hk, hF⟩)⟩
  exact ⟨h.lim.fr hr (fun b hb e => hF b e.1 e.2 (h.col0 b hb)), h.laid.fr hr (fun b hb e => hF b e.1 e.2 (h.col0 b hb)), h.col0⟩
theorem Env.goes {w : World} {col col' : Nat → Nat} (h : Env w col) (hg : Goes w col col') : Env w col' := ⟨h.lim, h.laid, fun b hb => (hg b (Nat.lt_of_lt_of_le hb h.laid.size)).trans (h.col0 b hb)⟩
/-- A stream at block s, its hand at h, its tally at t. -/
structure IsStX (w : World) (col : Nat → Nat) (s h t : Nat) (st : St) (vh vb vr ve : Value) : Prop where
  cs : col s = 1
  blk : w.heap[s]? = some (.cells (stCells s h t st vh vb vr ve) 92 (0, 0))
  head : RowC Rd.u8 5 4 w col vh st.head
  body : RowC Rd.u8 5 5 w col vb st.body
  recs : RowC Rd.rcd 90 6 w col vr st.records
  evs : RowC Rd.event 49 7 w col ve st.events
  hand : IsHand w col h st.hd
  ct : col t = 3
  tally : IsTally w t st.steps
  env : Env w col
def IsSt (w : World) (col : Nat → Nat) (s h t : Nat) (st : St) : Prop := ∃ vh vb vr ve, IsStX w col s h t st vh vb vr ve
/-- Whatever has a colour may turn. -/
def Hot (col : Nat → Nat) : Nat → Prop := fun b => col b ≠ 0
def StPost (col : Nat → Nat) (s h t : Nat) (st' : St) (w : World) (e : Ending) (w' : World) : Prop := ∃ col', Goes w col col' ∧ e = .returned (.tuple #[]) ∧ IsSt w' col' s h t st' ∧ Fr (Hot col) w w'
section
variable {w w' : World} {col col' : Nat → Nat} {s h t : Nat} {st st' : St} {vh vb vr ve : Value}
theorem IsStX.ext (H : IsStX w col s h t st vh vb vr ve) (hx : Ext w w') : IsStX w' col s h t st vh vb vr ve :=
  ⟨H.cs, Ext.blk hx H.blk, H.head.ext hx, H.body.ext hx, H.recs.ext hx, H.evs.ext hx, H.hand.ext hx, H.ct, H.tally.fr hx (fun f => f), H.env.fr hx (fun _ _ f => f.elim)⟩
theorem IsStX.goes (H : IsStX w col s h t st vh vb vr ve) (hg : Goes w col col') : IsStX w col' s h t st vh vb vr ve :=
  ⟨(hg s (blk_lt H.blk)).trans H.cs, H.blk, H.head.goes hg, H.body.goes hg, H.recs.goes hg, H.evs.goes hg, H.hand.goes hg, (hg t (blk_lt H.tally)).trans H.ct, H.tally, H.env.goes hg⟩
theorem IsSt.ext (H : IsSt w col s h t st) (hx : Ext w w') : IsSt w' col s h t st := by
  obtain ⟨vh, vb, vr, ve, H⟩ := H
  exact ⟨vh, vb, vr, ve, H.ext hx⟩
theorem IsSt.goes (H : IsSt w col s h t st) (hg : Goes w col col') : IsSt w col' s h t st := by
  obtain ⟨vh, vb, vr, ve, H⟩ := H
  exact ⟨vh, vb, vr, ve, H.goes hg⟩
/-- Only the stream's own block has turned. -/
theorem IsStX.own (H : IsStX w col s h t st vh vb vr ve) (hf : Fr (One s) w w') (hb : w'.heap[s]? = some (.cells (stCells s h t st' vh vb vr ve) 92 (0, 0))) (e1 : st'.head = st.head) (e2 : st'.body = st.body) (e3 : st'.records = st.records) (e4 : st'.events = st.events) (e5 : st'.hd = st.hd) (e6 : st'.steps = st.steps) :
    IsStX w' col s h t st' vh vb vr ve := by
  have hs : ∀ b, b < w.heap.size → One s b → col b = 1 := fun b _ e => by unfold One at e; rw [e]; exact H.cs
  refine ⟨H.cs, hb, ?_, ?_, ?_, ?_, ?_, H.ct, ?_, H.env.fr hf (fun b hb e => by rw [hs b hb e]; omega)⟩
  · rw [e1]; exact H.head.fr hf fun b hb e => by rw [hs b hb e]; omega
  · rw [e2]; exact H.body.fr hf fun b hb e => by rw [hs b hb e]; omega
  · rw [e3]; exact H.recs.fr hf fun b hb e => by rw [hs b hb e]; omega
  · rw [e4]; exact H.evs.fr hf fun b hb e => by rw [hs b hb e]; omega
  · rw [e5]; exact H.hand.fr hf fun b hb e => by rw [hs b hb e]; omega
  · rw [e6]; exact H.tally.fr hf fun e => by have := hs t (blk_lt H.tally) e; rw [H.ct] at this; omega
theorem Fr.hot (hf : Fr (One s) w w') (hc : col s = 1) : Fr (Hot col) w w' := hf.mono fun b _ e => by unfold One at e; unfold Hot; rw [e, hc]; omega
end
section
variable {w : World} {col : Nat → Nat} {s h t : Nat} {st : St} {vh vb vr ve : Value}
theorem IsStX.c0 (H : IsStX w col s h t st vh vb vr ve) : w.cell? ⟨s, 0, none⟩ = some (.pointer (some ⟨h, 0, none⟩)) := (blk_cell H.blk 0).trans rfl
theorem IsStX.c1 (H : IsStX w col s h t st vh vb vr ve) : w.cell? ⟨s, 1, none⟩ = some (.pointer (some ⟨t, 0, none⟩)) := (blk_cell H.blk 1).trans rfl
theorem IsStX.c2 (H : IsStX w col s h t st vh vb vr ve) : w.cell? ⟨s, 2, none⟩ = some (.int .i64 st.came) := (blk_cell H.blk 2).trans rfl
theorem IsStX.c3 (H : IsStX w col s h t st vh vb vr ve) : w.cell? ⟨s, 3, none⟩ = some (st.next.v s) := (blk_cell H.blk 3).trans rfl
theorem IsStX.c4 (H : IsStX w col s h t st vh vb vr ve) : w.cell? ⟨s, 4, none⟩ = some vh := (blk_cell H.blk 4).trans rfl
theorem IsStX.c5 (H : IsStX w col s h t st vh vb vr ve) : w.cell? ⟨s, 5, none⟩ = some (.int .i64 st.now.kind) := (blk_cell H.blk 5).trans rfl
theorem IsStX.c6 (H : IsStX w col s h t st vh vb vr ve) : w.cell? ⟨s, 6, none⟩ = some (.int .i64 st.now.version) := (blk_cell H.blk 6).trans rfl
theorem IsStX.c7 (H : IsStX w col s h t st vh vb vr ve) : w.cell? ⟨s, 7, none⟩ = some (.int .i64 st.now.length) := (blk_cell H.blk 7).trans rfl
theorem IsStX.c8 (H : IsStX w col s h t st vh vb vr ve) : w.cell? ⟨s, 8, none⟩ = some vb := (blk_cell H.blk 8).trans rfl
theorem IsStX.c9 (H : IsStX w col s h t st vh vb vr ve) : w.cell? ⟨s, 9, none⟩ = some (.int .i64 st.left) := (blk_cell H.blk 9).trans rfl
theorem IsStX.c10 (H : IsStX w col s h t st vh vb vr ve) : w.cell? ⟨s, 10, none⟩ = some vr := (blk_cell H.blk 10).trans rfl
theorem IsStX.c11 (H : IsStX w col s h t st vh vb vr ve) : w.cell? ⟨s, 11, none⟩ = some ve := (blk_cell H.blk 11).trans rfl
theorem IsStX.c12 (H : IsStX w col s h t st vh vb vr ve) : w.cell? ⟨s, 12, none⟩ = some (.int .i64 st.at_) := (blk_cell H.blk 12).trans rfl
theorem IsStX.c13 (H : IsStX w col s h t st vh vb vr ve) : w.cell? ⟨s, 13, none⟩ = some (.int .i64 st.err) := (blk_cell H.blk 13).trans rfl
theorem IsStX.c14 (H : IsStX w col s h t st vh vb vr ve) : w.cell? ⟨s, 14, none⟩ = some (.bool st.closed) := (blk_cell H.blk 14).trans rfl
theorem IsStX.cf (H : IsStX w col s h t st vh vb vr ve) : ∀ i, w.frozen? ⟨s, i, none⟩ = false := fun i => blk_unfrozen H.blk i
theorem IsStX.lt (H : IsStX w col s h t st vh vb vr ve) : s < w.heap.size := blk_lt H.blk
end
def St.fail (st : St) (at_ e : Nat) : St := { st with at_ := at_, err := e }
set_option maxHeartbeats 1000000 in
theorem stream_fail {w : World} {col : Nat → Nat} {s h t : Nat} {st : St} {vh vb vr ve : Value} (H : IsStX w col s h t st vh vb vr ve) (at_ e : Nat) : Calls Tryz.prog 72 #[.pointer (some ⟨s, 0, none⟩), .int .i64 at_, .int .i64 e] w fun en w' => en = .returned (.tuple #[]) ∧ IsStX w' col s h t (st.fail at_ e) vh vb vr ve ∧ Fr (One s) w w' := by
  have hf := H.cf
  have c12 := H.c12
  have c13 := H.c13
  have HX := Lib.hid H
  clear H
  go_enter Tryz.func72, Tryz.ntmps72
  go_wp2
  ((try simp only [Exit.inBlock, Exit.then]); refine bodyPost_end (results_none rfl _ _ _) rfl ?_)
  have hf4 : Fr (One s) w ((w.setCell ⟨s, 12, none⟩ (.int .i64 at_)).setCell ⟨s, 13, none⟩ (.int .i64 e)) := (by repeat (first | with_reducible exact Fr.refl _ _ | (with_reducible refine Fr.set ?_ _ _ _ (One.self _)) | (with_reducible refine Fr.alloc ?_ _) | (with_reducible refine Fr.drew ?_)))
  exact ⟨rfl, HX.out.own hf4 ((blk_set (blk_set HX.out.blk 12 _) 13 _).trans (by simp [stCells, St.fail])) rfl rfl rfl rfl rfl rfl, hf4⟩
def St.new (most : Nat) : St := ⟨⟨most, [], [], 0, 0, 0, 0⟩, 0, 0, .head, [], ⟨0, 0, 0⟩, [], 0, [], [], 0, 0, false⟩
/-- The colours of a stream that is new. -/
def colNew (h t s : Nat) : Nat → Nat := fun b => if b = h then 2 else if b = t then 3 else if b = s then 1 else 0
set_option maxHeartbeats 2000000 in
theorem stream_New (n : Nat) (w : World) (h1 : 4 ≤ n) (h2 : n ≤ 16777219) (hl : LaidLim w) (hla : Laid w) : Calls Tryz.prog 13 #[.int .i64 n] w fun e w' => ∃ s h t col, e = .returned (.tuple #[.pointer (some ⟨s, 0, none⟩), .int .i64 0]) ∧ IsSt w' col s h t (St.new n) ∧ (∀ b, b < w.heap.size → col b = 0) ∧ Ext w w' ∧ ∀ b, col b < 4 := by
  have HN := Lib.hid (fun w => hand_New n w h1 h2)
  have HT := Lib.hid tally_New
  go_enter Tryz.func13, Tryz.ntmps13
  go_wp2_with (first | ((go_at_call 38; refine (HN.out _).mono ?_; rintro e w1 ⟨rfl, hb1, hx1⟩)) | ((go_at_call 39; refine (HT.out _).mono ?_; rintro e w2 ⟨rfl, hb2, hx2⟩)))
  refine bodyPost_ret (v := .tuple #[.pointer (some ⟨w2.heap.size, 0, none⟩), .int .i64 0]) (by simp only [results, Tryz.results13]; go_simp) rfl ?_
  have q1 := blk_lt hb1
  have q2 := blk_lt hb2
  have q3 := hx2.size
  have q4 := hx1.size
  have hx : Ext w2 (w2.alloc (.cells (stCells w2.heap.size w.heap.size w1.heap.size (St.new n) (.slice none 0 0) (.slice none 0 0) (.slice none 0 0) (.slice none 0 0)) 92 (0, 0))) := (Fr.refl _ _).alloc _
  have hx02 : Ext w _ := Fr.trans (Fr.trans hx1 hx2) hx
  have hc : ∀ b, b < w.heap.size → colNew w.heap.size w1.heap.size w2.heap.size b = 0 := fun b hb => by
    unfold colNew
    rw [if_neg (by omega), if_neg (by omega), if_neg (by omega)]
  refine ⟨w2.heap.size, w.heap.size, w1.heap.size, colNew w.heap.size w1.heap.size w2.heap.size, rfl, ⟨_, _, _, _, ⟨?_, blk_new _ _, RowC.nil, RowC.nil, RowC.nil, RowC.nil, ⟨?_, _, _, (Ext.blk hx (Ext.blk hx2 hb1)), OwnR.nil _ _ _ _ _, fun k hk => by simp [Value.ownBlock] at hk, OwnR.nil _ _ _ _ _, fun k hk => by simp [Value.ownBlock] at hk⟩, ?_, IsTally.fr hb2 hx (fun f => f), ⟨hl.ext hx02, hla.fr hx02 (fun _ _ f => f), fun b hb => hc b (Nat.lt_of_lt_of_le hb hla.size)⟩⟩⟩, hc, hx02, fun b => by unfold colNew; repeat (first | omega | split)⟩
  · unfold colNew
    rw [if_neg (by omega), if_neg (by omega), if_pos rfl]
  · unfold colNew
    rw [if_pos rfl]
  · unfold colNew
    rw [if_neg (by omega), if_pos rfl]
end Go.Proofs.YtalbiepdkaldmaaGreatDoor
