/- stream.inHead, all cases. A stream as a plain machine: what a byte does; a run over bytes. No program in sight. A region that draws its order, in three turns: readers, named by their places; then what brings something new, in its forced order; then readers again; the rest in its forced order. hand.Put of one byte, by the plain answer. -/
import Derived.Test.YtalbiepdkaldmaaGreatDoorProg
import Derived.Test.YtalbiepdkaldmaaGreatDoorStm6
import Derived.Deep.QuietTactic
import Derived.BigQuiet
import Derived.Deep.LoopGhost
import Derived.Laws.EntriesVeiled
import Derived.Test.YtalbiepdkaldmaaGreatDoorMixL
import Derived.Orders
import Derived.Tactics
set_option linter.unusedVariables false
set_option linter.unusedSimpArgs false
namespace Go.Proofs.YtalbiepdkaldmaaGreatDoor
open Go.RowKit
theorem headOf_error {k v n a e : Nat} (h : headOf k v n = .error (a, e)) : e ≠ 0 ∧ a ≤ 5 := by
  unfold headOf at h
  split at h
  · injection h with h
    injection h with h1 h2
    omega
  · split at h
    · cases h
    · rename_i hne
      injection h with h
      injection h with h1 h2
      omega
theorem headOf_ok {k v n k' v' n' : Nat} (h : headOf k v n = .ok (k', v', n')) : k' = k ∧ v' = v ∧ n' = n ∧ ∃ lo hi, limits k = some (lo, hi) ∧ lo ≤ n ∧ n ≤ hi := by
  unfold headOf at h
  split at h
  · cases h
  · rename_i lo hi hl
    split at h
    · rename_i hc
      injection h with h
      injection h with h1 h2
      injection h2 with h2 h3
      refine ⟨h1.symm, h2.symm, h3.symm, lo, hi, hl, ?_⟩
      unfold checkLen at hc
      split at hc
      · cases hc
      · split at hc
        · omega
        · split at hc <;> cases hc
    · cases h
theorem hdOf_ok {b : Bytes} {k v n : Nat} (h : hdOf b = .ok (k, v, n)) : k = num (b.take 1) ∧ ∃ lo hi, limits k = some (lo, hi) ∧ lo ≤ n ∧ n ≤ hi := by
  obtain ⟨h1, h2, h3, lo, hi, h4, h5⟩ := headOf_ok h
  rw [← h1, ← h3] at *
  exact ⟨h1, lo, hi, h4, h5⟩
theorem limits_zero {k lo hi : Nat} (h : limits k = some (lo, hi)) (h0 : lo = 0) : k = 23 := by
  unfold limits at h
  split at h
  · injection h with h; injection h; omega
  · split at h
    · injection h with h; injection h; omega
    · split at h
      · injection h with h; injection h; omega
      · split at h
        · assumption
        · cases h
section
variable {w : World} {col : Nat → Nat} {s h t : Nat} {st : St} (c : UInt8)
theorem stream_inHead (H : IsSt w col s h t st) (hcm : st.came ≤ 4611686018427387904) (hh : st.head.length ≤ 4) (hc5 : st.head.length + 1 ≤ st.came) (hbody : st.body = []) (hnr : st.records.length ≤ 1099511627776) (hne : st.events.length ≤ 1099511627776) :
    Calls Tryz.prog 40 #[.pointer (some ⟨s, 0, none⟩), .int .u8 c.toNat] w (StPost col s h t (st.inHead c) w) := by
  unfold St.inHead
  by_cases hl : st.head.length + 1 < 5
  · rw [if_pos hl]
    exact head_short c H hcm hl
  rw [if_neg hl]
  have hl4 : st.head.length = 4 := by omega
  have h5c : 5 ≤ st.came := by omega
  have hd0 : (st.headed c).hd = st.hd := rfl
  obtain ⟨b0, hb0⟩ : ∃ b0, st.head.head? = some b0 := by
    cases hs : st.head with
    | nil => rw [hs] at hl4; cases hl4
    | cons x r => exact ⟨x, rfl⟩
  have hbh : (st.headed c).head.head? = some b0 := by
    show (st.head ++ [c]).head? = some b0
    cases hs : st.head with
    | nil => rw [hs] at hb0; cases hb0
    | cons x r => rw [hs] at hb0; exact hb0
  have hk0 : num ((st.head ++ [c]).take 1) = b0.toNat := by
    cases hs : st.head with
    | nil => rw [hs] at hb0; cases hb0
    | cons x r =>
      rw [hs] at hb0
      injection hb0 with hb0
      subst hb0
      simp [num]
  have hbT : b0 ≠ 22 → ((b0.toNat : Int) != 22) = true := fun e => by
    rw [bne_iff_ne]
    intro e'
    exact e (UInt8.toNat_inj.1 (by have : b0.toNat = 22 := by omega
                                   rw [this]; rfl))
  have hbF : b0 = 22 → ((b0.toNat : Int) != 22) = false := fun e => by subst e; rfl
  cases hres : hdOf (st.head ++ [c]) with
  | error ae =>
    obtain ⟨a, e⟩ := ae
    obtain ⟨he, ha5⟩ := headOf_error hres
    simp only
    by_cases ha : a = 0
    · rw [if_pos ha]
      subst ha
      exact head_err0 c H hcm hl4 h5c he hres
    · rw [if_neg ha]
      by_cases hp : decide (0 < (st.headed c).hd.data.length) = true
      · by_cases h22 : b0 = 22
        · rw [if_neg (fun hm => hm.2 (by rw [hbh, h22]))]
          exact head_errB c H hcm hl4 h5c hp hb0 (hbF h22) ha he ha5 hres
        · rw [if_pos ⟨of_decide_eq_true hp, by rw [hbh]; intro e; injection e with e; exact h22 e⟩]
          exact head_errC c H hcm hl4 h5c hp hb0 (hbT h22) ha he ha5 hres
      · rw [if_neg (fun hm => hp (decide_eq_true hm.1))]
        exact head_errA c H hcm hl4 h5c (by simpa using hp) ha he ha5 hres
  | ok kvn =>
    obtain ⟨k, v, n⟩ := kvn
    obtain ⟨hk, lo, hi, hlim, hlo, hhi⟩ := hdOf_ok hres
    rw [hk0] at hk
    simp only
    by_cases hp : decide (0 < (st.headed c).hd.data.length) = true
    · by_cases h22 : b0 = 22
      · have k22 : k = 22 := by rw [hk, h22]; rfl
        rw [if_neg (fun hm => hm.2 (by rw [hbh, h22])), if_neg (fun hn => by
          have := limits_zero hlim (by omega)
          omega)]
        exact head_okB1 c H hcm hl4 h5c hp hb0 (hbF h22) k22 (fun hn => by
          have := limits_zero hlim (by omega)
          omega) hres
      · rw [if_pos ⟨of_decide_eq_true hp, by rw [hbh]; intro e; injection e with e; exact h22 e⟩]
        exact head_okC c H hcm hl4 h5c hp hb0 (hbT h22) hres
    · rw [if_neg (fun hm => hp (decide_eq_true hm.1))]
      have hp' : decide (0 < (st.headed c).hd.data.length) = false := by simpa using hp
      by_cases hn : n = 0
      · rw [if_pos hn]
        have := limits_zero hlim (by omega)
        exact head_ok0 c H hcm hl4 h5c hp' (by omega) hn hlim hbody hnr hne hres
      · rw [if_neg hn]
        by_cases k22 : k = 22
        · exact head_okA1 c H hcm hl4 h5c hp' k22 hn hres
        · exact head_okA2 c H hcm hl4 h5c hp' k22 hn hres
end
end Go.Proofs.YtalbiepdkaldmaaGreatDoor
namespace Go.Proofs.YtalbiepdkaldmaaGreatDoor
/-- What the hand does with a byte, and what is whole then (none: not looked at here). -/
def putOf (σ : Hd) (at_ : Nat) (x : UInt8) : Option (Hd × List (Bytes × List (Nat × Nat))) :=
  if σ.err ≠ 0 ∨ 1000000 < σ.segs.length ∨ 4611686018427387904 < at_ + 1 ∨ 16777219 < σ.most then none else
  match σ.data with
  | [] => some ({ σ with data := [x], segs := σ.segs ++ [(0, at_)], next := at_ + 1 }, [])
  | [b0, b1, b2] => if at_ = σ.next ∧ (handshakes.lookup b0.toNat).isSome = true ∧ needOf [b0, b1, b2, x] ≤ σ.most ∧ 4 < needOf [b0, b1, b2, x] then some ({ σ with data := [b0, b1, b2, x], next := σ.next + 1, need := needOf [b0, b1, b2, x] }, []) else none
  | d => if at_ ≠ σ.next then none else
    if d.length + 1 < 4 then some ({ σ with data := d ++ [x], next := σ.next + 1 }, []) else
    if 4 ≤ d.length ∧ σ.need = d.length + 1 ∧ σ.need ≤ 16777219 then some ({ σ with data := [], segs := [], next := σ.next + 1 }, [(d ++ [x], σ.segs)]) else none
def St.lefted (st : St) : St := if st.left = 1 then { st with left := st.left - 1 }.ended else { st with left := st.left - 1 }
def St.inMessage (st : St) (c : UInt8) : Option St :=
  if st.left = 0 ∨ st.came = 0 ∨ 4611686018427387000 < st.left then none else
  match putOf st.hd (st.came - 1) c with
  | some (σ, []) => some ({ st with hd := σ }.lefted)
  | some (σ, [(m, g)]) => if m = [24, 0, 0, 1, 1] then some ({ st with hd := σ, steps := st.steps + 5, events := st.events ++ [(22, m)] }.lefted) else none
  | _ => none
def St.ticked (st : St) : St := { st with came := st.came + 1, steps := st.steps + 1 }
/-- What a byte does (none: not looked at here). -/
def St.step (st : St) (c : UInt8) : Option St :=
  if 4611686018427387000 < st.came ∨ 4611686018427387000 < st.steps ∨ 1099511627776 < st.records.length ∨ 1099511627776 < st.events.length then none else
  match st.next with
  | .head => if st.head.length ≤ 4 ∧ st.head.length ≤ st.came ∧ st.body = [] then some (st.ticked.inHead c) else none
  | .body => if (limits st.now.kind).isSome = true ∧ 1 ≤ st.left ∧ st.now.length = st.body.length + st.left ∧ st.now.length ≤ 16640 ∧ st.body.length ≤ st.came then some (st.ticked.inBody c) else none
  | .message => st.ticked.inMessage c
def St.run : St → Bytes → Option St
  | st, [] => some st
  | st, c :: b => if st.err ≠ 0 then some st else match st.step c with
    | none => none
    | some st' => st'.run b
theorem St.run_append (st : St) (a b : Bytes) : st.run (a ++ b) = (st.run a).bind fun st' => st'.run b := by
  induction a generalizing st with
  | nil => rfl
  | cons c a ih =>
    simp only [List.cons_append, St.run]
    by_cases he : st.err ≠ 0
    · rw [if_pos he, if_pos he]
      cases b with
      | nil => rfl
      | cons x b => simp only [Option.bind_some, St.run, if_pos he]
    · rw [if_neg he, if_neg he]
      cases st.step c with
      | none => rfl
      | some st' => exact ih st'
/-- Between two records, without a message that is begun. -/
structure St.Ready (st : St) : Prop where
  next : st.next = .head
  head : st.head = []
  body : st.body = []
  err : st.err = 0
  data : st.hd.data = []
/-- One record of other than messages more. -/
def St.more (st : St) (k v : Nat) (b : Bytes) : St :=
  { st with came := st.came + 5 + b.length, steps := st.steps + 5 + b.length, now := ⟨k, v, b.length⟩, left := 0, records := st.records ++ [⟨k, v, b.length⟩], events := st.events ++ [(k, b)] }
theorem St.Ready.more {st : St} (h : st.Ready) (k v : Nat) (b : Bytes) : (st.more k v b).Ready := ⟨h.next, h.head, h.body, h.err, h.data⟩
theorem run_body (r : Bytes) (st : St) (rest : Bytes) (hn : st.next = .body) (he : st.err = 0) (hk : (limits st.now.kind).isSome = true) (hl : st.left = r.length) (hr : 1 ≤ r.length) (hlen : st.now.length = st.body.length + r.length) (h16 : st.now.length ≤ 16640) (hb : st.body.length ≤ st.came)
    (hc : st.came + r.length ≤ 4611686018427387000) (hs : st.steps + r.length ≤ 4611686018427387000) (hrc : st.records.length ≤ 1099511627776) (hev : st.events.length ≤ 1099511627776) (hbe : bodyErr st.now.kind (st.body ++ r) = 0) :
    st.run (r ++ rest) = ({ st with came := st.came + r.length, steps := st.steps + r.length, left := 0, body := [], next := .head, records := st.records ++ [st.now], events := st.events ++ [(st.now.kind, st.body ++ r)] } : St).run rest := by
  induction r generalizing st with
  | nil => simp at hr
  | cons x r ih =>
    simp only [List.length_cons] at *
    have hst : st.step x = some (st.ticked.inBody x) := by
      unfold St.step
      rw [if_neg (by omega), hn]
      simp only
      rw [if_pos ⟨hk, by omega, by omega, h16, hb⟩]
    simp only [List.cons_append, St.run]
    rw [if_neg (by omega), hst]
    simp only
    have htl : st.ticked.left = r.length + 1 := hl
    by_cases h1 : r = []
    · subst h1
      simp only [List.nil_append, List.length_nil] at *
      congr 1
      unfold St.inBody
      rw [if_pos (by omega)]
      unfold St.whole
      rw [if_pos (show bodyErr (st.ticked.bodied x).now.kind (st.ticked.bodied x).body = 0 from hbe)]
      simp only [St.ended, St.evented, St.bodied, St.ticked, hl]
    · have hr1 : 1 ≤ r.length := by
        cases r with
        | nil => exact absurd rfl h1
        | cons y r => simp
      have hin : st.ticked.inBody x = st.ticked.bodied x := by
        unfold St.inBody
        rw [if_neg (by omega)]
      rw [hin, ih (st.ticked.bodied x) hn he hk (by simp only [St.bodied]; omega) hr1 (by simp only [St.bodied, St.ticked, List.length_append, List.length_cons, List.length_nil]; omega) h16 (by simp only [St.bodied, St.ticked, List.length_append, List.length_cons, List.length_nil]; omega)
        (by simp only [St.bodied, St.ticked]; omega) (by simp only [St.bodied, St.ticked]; omega) hrc hev (by simp only [St.bodied, St.ticked, List.append_assoc, List.singleton_append]; exact hbe)]
      simp only [St.bodied, St.ticked, List.append_assoc, List.singleton_append, Nat.add_assoc, Nat.add_comm 1]
theorem run_short {st : St} (c : UInt8) (rest : Bytes) (hn : st.next = .head) (he : st.err = 0) (hh : st.head.length + 1 < 5) (hb : st.body = []) (hcl : st.head.length ≤ st.came) (hc : st.came ≤ 4611686018427387000) (hs : st.steps ≤ 4611686018427387000) (hrc : st.records.length ≤ 1099511627776) (hev : st.events.length ≤ 1099511627776) :
    st.run (c :: rest) = ({ st with came := st.came + 1, steps := st.steps + 1, head := st.head ++ [c] } : St).run rest := by
  obtain ⟨hd, steps, came, next, head, now, body, left, records, events, at_, err, closed⟩ := st
  simp only at *
  subst hn he hb
  have hst : St.step { hd := hd, steps := steps, came := came, next := .head, head := head, now := now, body := [], left := left, records := records, events := events, at_ := at_, err := 0, closed := closed } c = some { hd := hd, steps := steps + 1, came := came + 1, next := .head, head := head ++ [c], now := now, body := [], left := left, records := records, events := events, at_ := at_, err := 0, closed := closed } := by
    unfold St.step
    rw [if_neg (by simp only; omega)]
    simp only
    rw [if_pos ⟨by omega, hcl, by trivial⟩]
    unfold St.inHead
    split
    · rfl
    · rename_i hx
      exact absurd hh hx
  simp only [St.run]
  rw [if_neg (by simp), hst]
theorem run_head4 {st : St} (h : st.Ready) (a b c d : UInt8) (rest : Bytes) (hc : st.came + 5 ≤ 4611686018427387000) (hs : st.steps + 5 ≤ 4611686018427387000) (hrc : st.records.length ≤ 1099511627776) (hev : st.events.length ≤ 1099511627776) :
    st.run (a :: b :: c :: d :: rest) = ({ st with came := st.came + 4, steps := st.steps + 4, head := [a, b, c, d] } : St).run rest := by
  obtain ⟨h1, h2, h3, h4, h5⟩ := h
  obtain ⟨hd, steps, came, next, head, now, body, left, records, events, at_, err, closed⟩ := st
  simp only at *
  subst h1 h2 h3 h4
  refine (run_short a _ rfl rfl (by simp) rfl (by simp) (by simp only; omega) (by simp only; omega) hrc hev).trans ?_
  refine (run_short b _ rfl rfl (by simp) rfl (by simp) (by simp only; omega) (by simp only; omega) hrc hev).trans ?_
  refine (run_short c _ rfl rfl (by simp) rfl (by simp) (by simp only; omega) (by simp only; omega) hrc hev).trans ?_
  exact run_short d _ rfl rfl (by simp) rfl (by simp) (by simp only; omega) (by simp only; omega) hrc hev
theorem run_record {st : St} (h : st.Ready) (kb v1 v0 l1 l0 : UInt8) (b rest : Bytes) (hk22 : kb ≠ 22) (hlim : headOf kb.toNat (num [v1, v0]) (num [l1, l0]) = .ok (kb.toNat, num [v1, v0], num [l1, l0])) (hl : num [l1, l0] = b.length) (hbe : bodyErr kb.toNat b = 0)
    (hc : st.came + 5 + b.length ≤ 4611686018427387000) (hs : st.steps + 5 + b.length ≤ 4611686018427387000) (hrc : st.records.length ≤ 1099511627776) (hev : st.events.length ≤ 1099511627776) :
    st.run (kb :: v1 :: v0 :: l1 :: l0 :: (b ++ rest)) = (st.more kb.toNat (num [v1, v0]) b).run rest := by
  obtain ⟨_, _, _, lo, hi, hlm, hlo, hhi⟩ := headOf_ok hlim
  have hhi16 : hi ≤ 16640 := by
    unfold limits at hlm
    split at hlm
    · simp at hlm; omega
    · split at hlm
      · simp at hlm; omega
      · split at hlm
        · simp at hlm; omega
        · split at hlm
          · simp at hlm; omega
          · simp at hlm
  have hk' : kb.toNat ≠ 22 := fun e => hk22 (UInt8.toNat_inj.1 (by rw [e]; rfl))
  rw [run_head4 h kb v1 v0 l1 _ (by omega) (by omega) hrc hev]
  obtain ⟨h1, h2, h3, h4, h5⟩ := h
  obtain ⟨hd, steps, came, next, head, now, body, left, records, events, at_, err, closed⟩ := st
  simp only at *
  subst h1 h2 h3 h4
  have hstep : ({ hd := hd, steps := steps + 4, came := came + 4, next := .head, head := [kb, v1, v0, l1], now := now, body := [], left := left, records := records, events := events, at_ := at_, err := 0, closed := closed } : St).step l0 = some (St.inHead { hd := hd, steps := steps + 5, came := came + 5, next := .head, head := [kb, v1, v0, l1], now := now, body := [], left := left, records := records, events := events, at_ := at_, err := 0, closed := closed } l0) := by
    unfold St.step
    rw [if_neg (by simp only; omega)]
    simp only
    rw [if_pos ⟨by simp, by simp, by trivial⟩]
    rfl
  have hhd : hdOf [kb, v1, v0, l1, l0] = .ok (kb.toNat, num [v1, v0], num [l1, l0]) := by
    have : num [kb] = kb.toNat := by simp [num]
    rw [← hlim]
    unfold hdOf
    simp only [List.take_succ_cons, List.take_zero, List.drop_succ_cons, List.drop_zero, this]
  rw [show (b ++ rest) = b ++ rest from rfl]
  simp only [St.run]
  rw [if_neg (by simp), hstep]
  simp only
  unfold St.inHead
  simp only [List.length_cons, List.length_nil, List.cons_append, List.nil_append, hhd]
  rw [if_neg (by omega), if_neg (by
    intro hm
    have := hm.1
    simp only [St.headed, h5, List.length_nil] at this
    omega)]
  by_cases hb0 : num [l1, l0] = 0
  · rw [if_pos hb0]
    have hbn : b = [] := by
      cases b with
      | nil => rfl
      | cons x b => simp at hl; omega
    subst hbn
    simp only [List.nil_append, List.length_nil] at *
    congr 1
    unfold St.whole
    split
    · simp only [St.ended, St.evented, St.begun, St.headed, St.more, hl, List.length_nil, Nat.add_zero]
    · rename_i hx
      exact absurd hbe hx
  · rw [if_neg hb0]
    rw [run_body b]
    · simp only [St.begun, St.headed, St.more, hl, List.nil_append]
    · simp only [St.begun, if_neg hk']
    · rfl
    · simp only [St.begun, hlm, Option.isSome_some]
    · simp only [St.begun, hl]
    · omega
    · simp only [St.begun, St.headed, hl, List.length_nil]; omega
    · simp only [St.begun]; omega
    · simp [St.begun, St.headed]
    · simp only [St.begun, St.headed]; omega
    · simp only [St.begun, St.headed]; omega
    · exact hrc
    · exact hev
    · simp only [St.begun, St.headed, List.nil_append]; exact hbe
theorem alive_run1 : ((St.new 100).run [22, 3, 3, 0, 5, 24, 0, 0, 1, 1]).map (fun st => (st.err, st.at_, st.came, st.events, st.records.length, st.left, st.head, st.hd.data)) = some (0, 0, 10, [(22, [24, 0, 0, 1, 1])], 1, 0, [], []) := by rfl
theorem alive_run2 : ((St.new 100).run [22, 3, 3, 0, 1, 24, 21, 3, 3, 0]).map (fun st => (st.err, st.closed, st.events)) = some (0, false, []) := by rfl
theorem alive_run3 : ((St.new 100).run [22, 3, 3, 0, 1, 24, 21, 3, 3, 0, 2]).map (fun st => (st.err, st.at_, st.events)) = some (10, 6, []) := by rfl
end Go.Proofs.YtalbiepdkaldmaaGreatDoor
namespace Go.Proofs.YtalbiepdkaldmaaGreatDoor
section
variable {P : Program} {Q : Exit → Act → World → Prop} {C : World → Prop}
def goodN (ops : Array Oper) (m : Nat) : List Nat → Array Bool → Bool
  | [], _ => true
  | k :: r, L => Region.ready .any ops L == [k] && decide (k < m) && goodN ops m r (L.setIfInBounds k true)
def mixT (l : List Oper) (rs ms rt : List Nat) (m : Nat) : Bool :=
  Region.noSelect l.toArray && backB l && tailB l m && decide (rs.length + ms.length + rt.length = m) && decide (m ≤ l.length) &&
  goodR l.toArray m rs (Array.replicate l.length false) && goodN l.toArray m ms (marked rs (Array.replicate l.length false)) &&
  goodR l.toArray m rt (marked ms (marked rs (Array.replicate l.length false))) && ((List.range l.length).all fun k => (marked rt (marked ms (marked rs (Array.replicate l.length false)))).getD k false == decide (k < m))
def Shut (l : List Oper) (L : Array Bool) : Prop := ∀ i j, L.getD i false = true → dep l i j = true → L.getD j false = true
theorem phase_r {l : List Oper} {m : Nat} (hsp : ∀ (j : Nat) (o : Oper) cs b, l.toArray[j]? = some o → o.op ≠ .select cs b) (htail : tailB l m = true) (hml : m ≤ l.length) : ∀ (rs : List Nat) (L : Array Bool) (a : Act) (w : World) (f0 : Nat) (X : Act → Prop), L.size = l.length → Shut l L → goodR l.toArray m rs L = true → C w →
    (∀ a', (marked rs L).size = l.length → Shut l (marked rs L) → X a' → wpAnyC P l C m Q f0 (marked rs L) a' w) → wpStl P l.toArray C X (opsAt l rs) a → wpAnyC P l C m Q (f0 + rs.length) L a w
  | [], L, a, w, f0, X, hsz, hcl, _, hC, hX, h => hX a hsz hcl h
  | k :: r, L, a, w, f0, X, hsz, hcl, hgr, hC, hX, h => by
    simp only [goodR, Bool.and_eq_true, decide_eq_true_eq] at hgr
    obtain ⟨⟨⟨hr, hfr⟩, hkm⟩, hgr⟩ := hgr
    have hkl : k < l.length := by omega
    have ho : l[k]? = some l[k] := List.getElem?_eq_getElem hkl
    have ho' : l.toArray[k]? = some l[k] := by simp [ho]
    have hop : opsAt l (k :: r) = l[k] :: opsAt l r := by simp [opsAt, List.filterMap_cons, ho]
    rw [hop] at h
    obtain ⟨v, hy, hn⟩ := h
    have hkr : k ∈ Region.ready .any l.toArray L := by simpa using hr
    rw [show f0 + (k :: r).length = (f0 + r.length) + 1 from by simp; omega]
    refine wpAnyC_first htail ho' hkm hsp _ L a w hsz hcl hC (Region.free_spec ho' hfr) hkr hy ?_
    exact phase_r hsp htail hml r _ _ w f0 X (by simpa using hsz) (closed_set hsz hcl hkr) hgr hC hX hn
theorem phase_m {l : List Oper} {m : Nat} (hml : m ≤ l.length) : ∀ (ms : List Nat) (L : Array Bool) (a : Act) (w : World) (f0 : Nat) (X : Act → World → Prop), L.size = l.length → Shut l L → goodN l.toArray m ms L = true → C w →
    (∀ a' w', (marked ms L).size = l.length → Shut l (marked ms L) → C w' → X a' w' → wpAnyC P l C m Q f0 (marked ms L) a' w') → wpMid P l.toArray C X (opsAt l ms) a w → wpAnyC P l C m Q (f0 + ms.length) L a w
  | [], L, a, w, f0, X, hsz, hcl, _, hC, hX, h => hX a w hsz hcl hC h
  | k :: r, L, a, w, f0, X, hsz, hcl, hg, hC, hX, h => by
    simp only [goodN, Bool.and_eq_true, beq_iff_eq, decide_eq_true_eq] at hg
    obtain ⟨⟨hr, hkm⟩, hg⟩ := hg
    have hkl : k < l.length := by omega
    have ho : l[k]? = some l[k] := List.getElem?_eq_getElem hkl
    have ho' : l.toArray[k]? = some l[k] := by simp [ho]
    have hop : opsAt l (k :: r) = l[k] :: opsAt l r := by simp [opsAt, List.filterMap_cons, ho]
    rw [hop] at h
    have hkr : k ∈ Region.ready .any l.toArray L := by rw [hr]; simp
    rw [show f0 + (k :: r).length = (f0 + r.length) + 1 from by simp; omega]
    unfold wpAnyC
    rw [if_neg (not_done hsz hkr hkm), hr]
    refine ⟨by simp, fun i hi => ?_⟩
    have hi : i = k := by simpa using hi
    subst hi
    have hcl' := closed_set hsz hcl hkr
    unfold wpOp
    simp only [ho']
    simp only [wpMid] at h
    split
    · rename_i hw
      rw [if_pos hw] at h
      exact .inl (Oper.wp_mono (fun a' w' h' => ⟨h'.1, phase_m hml r _ a' w' f0 X (by simpa using hsz) hcl' hg h'.1 hX h'.2⟩) h)
    · rename_i hw
      rw [if_neg hw] at h
      exact ⟨h.1, phase_m hml r _ _ _ f0 X (by simpa using hsz) hcl' hg h.1 hX h.2⟩
theorem wp_region_mixT {id : Nat} {a : Act} {w : World} (l : List Oper) (rs ms rt : List Nat) (m : Nat) (hm : P.follows .mixedOrders = true) (hB : mixT l rs ms rt m = true) (C : World → Prop) (hC : C w.drew)
    (h : wpStl P l.toArray C (fun a' => wpMid P l.toArray C (fun a w => wpStl P l.toArray C (fun a' => wpList P l.toArray Q (l.drop m) a' w) (opsAt l rt) a) (opsAt l ms) a' w.drew) (opsAt l rs) a) : (Code.region id l.toArray true).wp P Q a w := by
  simp only [mixT, Bool.and_eq_true, decide_eq_true_eq] at hB
  obtain ⟨⟨⟨⟨⟨⟨⟨⟨hsel, hback⟩, htail⟩, hlen⟩, hml⟩, hpre⟩, hmid⟩, hpost⟩, hall⟩ := hB
  have hsp := Region.noSelect_spec hsel
  refine wp_region_any hm ?_
  have h0 : ∀ i, (Array.replicate l.length false).getD i false = false := fun i => by simp [Array.getD]
  have base : ∀ (a : Act) (w : World), (marked rt (marked ms (marked rs (Array.replicate l.length false)))).size = l.length → wpList P l.toArray Q (l.drop m) a w → wpAnyC P l C m Q (l.length - m) (marked rt (marked ms (marked rs (Array.replicate l.length false)))) a w := by
    intro a w hsz h
    generalize marked rt (marked ms (marked rs (Array.replicate l.length false))) = L at *
    have hg : ∀ i, i < l.length → L.getD i false = decide (i < m) := fun i hi => by
      have := List.all_eq_true.1 hall i (List.mem_range.2 hi)
      simpa using this
    have hd : done m L = true := by
      unfold done
      rw [List.all_eq_true]
      intro i hi
      have := List.mem_range.1 hi
      rw [hg i (by omega)]
      simpa using this
    have hw : wpAny P .any l.toArray Q (l.length - m) L a w :=
      wp_tail l m hback htail (l.length - m) m _ a w (Nat.le_refl _) (by omega) hsz (fun i hi => by rw [hg i hi]; simp) h
    cases hf : l.length - m with
    | zero => rw [hf] at hw; exact ⟨hd, hw⟩
    | succ f => rw [hf] at hw; unfold wpAnyC; rw [if_pos hd]; exact hw
  have := wpAny_of_C _ _ _ _ (phase_r (Q := Q) hsp htail hml rs (Array.replicate l.length false) a w.drew (l.length - m + rt.length + ms.length) _ (by simp) (fun i j hi => by rw [h0] at hi; exact absurd hi (by simp)) hpre hC
    (fun a1 hs1 hc1 h1 => phase_m hml ms _ a1 w.drew (l.length - m + rt.length) _ hs1 hc1 hmid hC
      (fun a2 w2 hs2 hc2 hC2 h2 => phase_r hsp htail hml rt _ a2 w2 (l.length - m) _ hs2 hc2 hpost hC2 (fun a3 hs3 _ h3 => base a3 w2 hs3 h3) h2) h1) h)
  rw [show l.length - m + rt.length + ms.length + rs.length = l.length from by omega] at this
  simpa using this
end
end Go.Proofs.YtalbiepdkaldmaaGreatDoor
namespace Go.Proofs.YtalbiepdkaldmaaGreatDoor
open Go.RowKit
def PutPost (col : Nat → Nat) (q : Nat) (σ' : Hd) (l : List (Bytes × List (Nat × Nat))) (w : World) (e : Ending) (w' : World) : Prop :=
  ∃ col' A c, Goes w col col' ∧ e = .returned (.tuple #[.slice A l.length c, .int .i64 0, .int .i64 0]) ∧ SlC Rd.found w' (fun b => w.heap.size ≤ b ∧ col' b = 0) A l.length c l ∧ IsHand w' col' q σ' ∧ Fr (Hues col) w w'
theorem hand_Put {col : Nat → Nat} {q : Nat} {σ σ' : Hd} {l : List (Bytes × List (Nat × Nat))} (w : World) (H : IsHand w col q σ) (A : Option Addr) (cb : Nat) (x : UInt8) (at_ : Nat) (ok : Nat → Prop) (hx : SlC Rd.u8 w ok A 1 cb [x]) (hok : ∀ b, ok b → ¬ Hues col b) (hr : putOf σ at_ x = some (σ', l)) :
    Calls Tryz.prog 116 #[.pointer (some ⟨q, 0, none⟩), .int .i64 at_, .slice A 1 cb] w (PutPost col q σ' l w) := by
  unfold putOf at hr
  split at hr
  · cases hr
  · rename_i hbd
    have he : σ.err = 0 := by omega
    have hsn : σ.segs.length ≤ 1000000 := by omega
    have hat : at_ + 1 ≤ 4611686018427387904 := by omega
    have hmx : σ.most ≤ 16777219 := by omega
    have hnil : ∀ (W : World) (ok : Nat → Prop), SlC Rd.found W ok none 0 0 [] := fun W ok => SlC.nil _ _ _ _ _ (Nat.zero_le _) (fun _ => rfl)
    split at hr
    · rename_i h0
      injection hr with hr
      injection hr with h1 h2
      subst h1 h2
      refine (put_first w H A cb x at_ ok hx hok he h0 hat hsn).mono ?_
      rintro e w' ⟨col', hg, rfl, hI, hf⟩
      exact ⟨col', none, 0, hg, rfl, hnil _ _, hI, hf⟩
    · rename_i b0 b1 b2 h0
      split at hr
      · rename_i hc
        obtain ⟨rfl, hkn, hm, hn⟩ := hc
        injection hr with hr
        injection hr with h1 h2
        subst h1 h2
        refine (put_head w H A cb x b0 b1 b2 ok hx hok he h0 hkn hm hn hmx hat).mono ?_
        rintro e w' ⟨col', hg, rfl, hI, hf⟩
        exact ⟨col', none, 0, hg, rfl, hnil _ _, hI, hf⟩
      · cases hr
    · rename_i hn0 hn3
      split at hr
      · cases hr
      · rename_i hne
        have ha : at_ = σ.next := by omega
        subst ha
        have hp : 0 < σ.data.length := by
          cases hd : σ.data with
          | nil => exact absurd hd hn0
          | cons y r => simp
        split at hr
        · rename_i h3
          injection hr with hr
          injection hr with h1 h2
          subst h1 h2
          refine (put_more w H A cb x ok hx hok he hp h3 hat).mono ?_
          rintro e w' ⟨col', hg, rfl, hI, hf⟩
          exact ⟨col', none, 0, hg, rfl, hnil _ _, hI, hf⟩
        · split at hr
          · rename_i hc
            obtain ⟨h4, hn, hm⟩ := hc
            injection hr with hr
            injection hr with h1 h2
            subst h1 h2
            refine (put_end w H A cb x ok hx hok he h4 hn hm hat hsn).mono ?_
            rintro e w' ⟨col', A', c', hg, h0, rfl, hs, hI, hf⟩
            exact ⟨col', A', c', hg, rfl, hs.mono fun b _ hb => ⟨hb, h0 b hb⟩, hI, hf⟩
          · cases hr
/-- The hand has taken a byte. -/
theorem IsStX.handed {w w1 w2 : World} {col col2 : Nat → Nat} {s h t : Nat} {st : St} {vh vb vr ve : Value} {σ : Hd} (H : IsStX w col s h t st vh vb vr ve) (hx : Ext w w1) (hf : Fr (Hues col) w1 w2) (hg : Goes w1 col col2) (hI : IsHand w2 col2 h σ) : IsStX w2 col2 s h t { st with hd := σ } vh vb vr ve := by
  have hg' : Goes w col col2 := fun b hb => hg b (Nat.lt_of_lt_of_le hb hx.size)
  have H' := H.goes hg'
  have hF : Fr (Hues col) w w2 := Fr.trans (Ext.any hx) hf
  have hk : ∀ b, b < w.heap.size → Hues col b → col2 b = 2 ∨ col2 b = 8 ∨ col2 b = 9 := fun b hb e => by rw [hg' b hb]; exact e
  exact ⟨H'.cs, hF.blk H.blk (fun e => by have := hk s H.lt e; have := H'.cs; omega), H'.head.fr hF (fun b hb e => by have := hk b hb e; omega), H'.body.fr hF (fun b hb e => by have := hk b hb e; omega), H'.recs.fr hF (fun b hb e => by have := hk b hb e; omega), H'.evs.fr hF (fun b hb e => by have := hk b hb e; omega), hI, H'.ct, H'.tally.fr hF (fun e => by have := hk t (blk_lt H.tally) e; have := H'.ct; omega), H'.env.fr hF (fun b hb e => by have := hk b hb e; omega)⟩
theorem hues_hot {w w' : World} {col : Nat → Nat} (hf : Fr (Hues col) w w') : Fr (Hot col) w w' := hf.mono fun b _ e => by unfold Hues at e; unfold Hot; omega
end Go.Proofs.YtalbiepdkaldmaaGreatDoor
