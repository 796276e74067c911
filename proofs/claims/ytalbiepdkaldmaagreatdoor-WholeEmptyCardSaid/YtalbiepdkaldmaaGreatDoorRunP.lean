/- The plain machine, more: events that were told before; closed; rows of records. No program in sight. -/
import Derived.Test.YtalbiepdkaldmaaGreatDoorProg
import Derived.Test.YtalbiepdkaldmaaGreatDoorRun
set_option linter.unusedVariables false
set_option linter.unusedSimpArgs false
namespace Go.Proofs.YtalbiepdkaldmaaGreatDoor
def St.told (st : St) (e : List (Nat × Bytes)) : St := { st with events := e ++ st.events }
def St.clear (st : St) : St := { st with events := [] }
theorem clear_told (st : St) : st.clear.told st.events = st := by
  unfold St.clear St.told
  simp only [List.append_nil]
theorem ended_told (st : St) (e : List (Nat × Bytes)) : (st.told e).ended = st.ended.told e := rfl
theorem whole_told (st : St) (e : List (Nat × Bytes)) : (st.told e).whole = st.whole.told e := by
  unfold St.whole
  by_cases h : bodyErr st.now.kind st.body = 0
  · rw [if_pos h]
    refine (if_pos h).trans ?_
    simp only [St.evented, St.ended, St.told, List.append_assoc]
  · rw [if_neg h]
    exact if_neg h
theorem inHead_told (st : St) (e : List (Nat × Bytes)) (c : UInt8) : (st.told e).inHead c = (st.inHead c).told e := by
  unfold St.inHead
  by_cases h1 : st.head.length + 1 < 5
  · rw [if_pos h1]
    exact if_pos h1
  · rw [if_neg h1]
    refine (if_neg h1).trans ?_
    show (match hdOf (st.head ++ [c]) with
      | .error (a, er) => if a = 0 then ((st.told e).headed c).fail (st.came - 5) er else if (st.headed c).mixed then ((st.told e).headed c).fail (st.came - 5) 10 else ((st.told e).headed c).fail (st.came - 5 + a) er
      | .ok (k, v, n) => if (st.headed c).mixed then ((st.told e).headed c).fail (st.came - 5) 10 else if n = 0 then (((st.told e).headed c).begun k v n).whole else ((st.told e).headed c).begun k v n) = _
    cases hdOf (st.head ++ [c]) with
    | error ae =>
      obtain ⟨a, er⟩ := ae
      simp only
      split
      · rfl
      · split <;> rfl
    | ok kvn =>
      obtain ⟨k, v, n⟩ := kvn
      simp only
      split
      · rfl
      · split
        · exact whole_told ((st.headed c).begun k v n) e
        · rfl
theorem inBody_told (st : St) (e : List (Nat × Bytes)) (c : UInt8) : (st.told e).inBody c = (st.inBody c).told e := by
  unfold St.inBody
  by_cases h : st.left = 1
  · rw [if_pos h]
    exact (if_pos h).trans (whole_told (st.bodied c) e)
  · rw [if_neg h]
    exact if_neg h
theorem lefted_told (st : St) (e : List (Nat × Bytes)) : (st.told e).lefted = st.lefted.told e := by
  unfold St.lefted
  by_cases h : st.left = 1
  · rw [if_pos h]
    exact if_pos h
  · rw [if_neg h]
    exact if_neg h
theorem inMessage_told {st x : St} {e : List (Nat × Bytes)} {c : UInt8} (h : (st.told e).inMessage c = some x) : ∃ y, st.inMessage c = some y ∧ x = y.told e := by
  unfold St.inMessage at h ⊢
  split at h
  · cases h
  · rename_i hb
    have hb' : ¬ (st.left = 0 ∨ st.came = 0 ∨ 4611686018427387000 < st.left) := hb
    rw [if_neg hb']
    revert h
    show (match putOf st.hd (st.came - 1) c with
      | some (σ, []) => some ({ st.told e with hd := σ }.lefted)
      | some (σ, [(m, g)]) => if m = [24, 0, 0, 1, 1] then some ({ st.told e with hd := σ, steps := st.steps + 5, events := e ++ st.events ++ [(22, m)] }.lefted) else none
      | _ => none) = some x → _
    intro h
    split at h
    · rename_i σ hp
      injection h with h
      rw [hp]
      exact ⟨_, rfl, h.symm.trans (lefted_told { st with hd := σ } e)⟩
    · rename_i σ m g hp
      split at h
      · rename_i hm
        injection h with h
        rw [hp]
        simp only
        rw [if_pos hm]
        refine ⟨_, rfl, h.symm.trans ?_⟩
        rw [← lefted_told]
        simp only [St.told, List.append_assoc]
      · cases h
    · cases h
theorem step_told {st x : St} {e : List (Nat × Bytes)} {c : UInt8} (h : (st.told e).step c = some x) : ∃ y, st.step c = some y ∧ x = y.told e := by
  unfold St.step at h ⊢
  split at h
  · cases h
  · rename_i hb
    have hb' : ¬ (4611686018427387000 < st.came ∨ 4611686018427387000 < st.steps ∨ 1099511627776 < st.records.length ∨ 1099511627776 < st.events.length) := by
      simp only [St.told, List.length_append] at hb
      omega
    rw [if_neg hb']
    revert h
    show (match st.next with
      | .head => if st.head.length ≤ 4 ∧ st.head.length ≤ st.came ∧ st.body = [] then some ((st.ticked.told e).inHead c) else none
      | .body => if (limits st.now.kind).isSome = true ∧ 1 ≤ st.left ∧ st.now.length = st.body.length + st.left ∧ st.now.length ≤ 16640 ∧ st.body.length ≤ st.came then some ((st.ticked.told e).inBody c) else none
      | .message => (st.ticked.told e).inMessage c) = some x → _
    intro h
    cases hn : st.next with
    | head =>
      rw [hn] at h
      simp only at h ⊢
      split at h
      · rename_i hc
        injection h with h
        rw [if_pos hc]
        exact ⟨_, rfl, h.symm.trans (inHead_told st.ticked e c)⟩
      · cases h
    | body =>
      rw [hn] at h
      simp only at h ⊢
      split at h
      · rename_i hc
        injection h with h
        rw [if_pos hc]
        exact ⟨_, rfl, h.symm.trans (inBody_told st.ticked e c)⟩
      · cases h
    | message =>
      rw [hn] at h
      exact inMessage_told h
theorem run_told {e : List (Nat × Bytes)} : ∀ {b : Bytes} {st x : St}, (st.told e).run b = some x → ∃ y, st.run b = some y ∧ x = y.told e
  | [], st, x, h => ⟨st, rfl, by injection h with h; exact h.symm⟩
  | c :: b, st, x, h => by
    simp only [St.run] at h ⊢
    by_cases he : st.err ≠ 0
    · rw [if_pos he]
      have h := (if_pos he).symm.trans h
      injection h with h
      exact ⟨st, rfl, h.symm⟩
    · rw [if_neg he]
      have h := (if_neg he).symm.trans h
      cases hs : (st.told e).step c with
      | none => rw [hs] at h; cases h
      | some z =>
        rw [hs] at h
        obtain ⟨y, hy, rfl⟩ := step_told hs
        rw [hy]
        exact run_told h
/-- A piece, and what is left. -/
theorem run_piece {st st' : St} {a b : Bytes} (h : st.run (a ++ b) = some st') : ∃ st1 y, st.run a = some st1 ∧ st1.clear.run b = some y ∧ st' = y.told st1.events := by
  rw [St.run_append] at h
  cases h1 : st.run a with
  | none => rw [h1] at h; cases h
  | some st1 =>
    rw [h1] at h
    have h : st1.run b = some st' := h
    rw [← clear_told st1] at h
    obtain ⟨y, hy, e⟩ := run_told h
    exact ⟨st1, y, rfl, hy, e⟩
theorem whole_closed (st : St) : st.whole.closed = st.closed := by unfold St.whole; split <;> rfl
theorem inHead_closed (st : St) (c : UInt8) : (st.inHead c).closed = st.closed := by
  unfold St.inHead
  split
  · rfl
  · split
    · split
      · rfl
      · split <;> rfl
    · split
      · rfl
      · split
        · exact whole_closed _
        · rfl
theorem inBody_closed (st : St) (c : UInt8) : (st.inBody c).closed = st.closed := by
  unfold St.inBody
  split
  · exact whole_closed _
  · rfl
theorem lefted_closed (st : St) : st.lefted.closed = st.closed := by unfold St.lefted; split <;> rfl
theorem step_closed {st x : St} {c : UInt8} (h : st.step c = some x) : x.closed = st.closed := by
  unfold St.step at h
  split at h
  · cases h
  · split at h
    · split at h
      · injection h with h; rw [← h]; exact inHead_closed _ _
      · cases h
    · split at h
      · injection h with h; rw [← h]; exact inBody_closed _ _
      · cases h
    · unfold St.inMessage at h
      split at h
      · cases h
      · split at h
        · injection h with h; rw [← h]; exact lefted_closed _
        · split at h
          · injection h with h; rw [← h]; exact lefted_closed _
          · cases h
        · cases h
theorem run_closed : ∀ {b : Bytes} {st x : St}, st.run b = some x → x.closed = st.closed
  | [], st, x, h => by injection h with h; rw [h]
  | c :: b, st, x, h => by
    simp only [St.run] at h
    by_cases he : st.err ≠ 0
    · rw [if_pos he] at h
      injection h with h
      rw [h]
    · rw [if_neg he] at h
      cases hs : st.step c with
      | none => rw [hs] at h; cases h
      | some z =>
        rw [hs] at h
        exact (run_closed h).trans (step_closed hs)
theorem run_err {st : St} (h : st.err ≠ 0) (b : Bytes) : st.run b = some st := by
  cases b with
  | nil => rfl
  | cons c b => simp only [St.run]; rw [if_pos h]
theorem clear_ready {st : St} (h : st.Ready) : st.clear.Ready := ⟨h.next, h.head, h.body, h.err, h.data⟩

/-! ### Rows of alerts, and a record that is none -/
def alert : Bytes := [21, 3, 3, 0, 2, 1, 0]
def alerts (k : Nat) : Bytes := (List.replicate k alert).flatten
theorem alerts_snoc (k : Nat) : alerts (k + 1) = alerts k ++ alert := by
  unfold alerts
  rw [List.replicate_succ', List.flatten_append]
  simp
theorem alerts_len (k : Nat) : (alerts k).length = 7 * k := by
  induction k with
  | zero => rfl
  | succ k ih => rw [alerts_snoc, List.length_append, ih]; simp [alert]; omega
theorem alert_head : headOf (21 : UInt8).toNat (num [3, 3]) (num [0, 2]) = .ok ((21 : UInt8).toNat, num [3, 3], num [0, 2]) := by
  unfold headOf
  rw [show limits (21 : UInt8).toNat = some (2, 2) from rfl]
  simp only
  rw [if_pos (by rw [show num [0, 2] = 2 from rfl]; rfl)]
theorem run_alerts (rest : Bytes) : ∀ (k : Nat) (st : St), st.Ready → st.came + 7 * k ≤ 1000000 → st.steps + 7 * k ≤ 1000000 → st.records.length + k ≤ 1000000 → st.events.length + k ≤ 1000000 →
    ∃ y : St, st.run (alerts k ++ rest) = y.run rest ∧ y.Ready ∧ y.came = st.came + 7 * k ∧ y.steps = st.steps + 7 * k ∧ y.records.length = st.records.length + k ∧ y.events.length = st.events.length + k
  | 0, st, h, _, _, _, _ => ⟨st, rfl, h, rfl, rfl, rfl, rfl⟩
  | k + 1, st, h, h1, h2, h3, h4 => by
    have e : alerts (k + 1) ++ rest = 21 :: 3 :: 3 :: 0 :: 2 :: ([1, 0] ++ (alerts k ++ rest)) := by
      unfold alerts
      rw [List.replicate_succ, List.flatten_cons, List.append_assoc]
      rfl
    rw [e, run_record h 21 3 3 0 2 [1, 0] (alerts k ++ rest) (by decide) alert_head (by rw [show num [0, 2] = 2 from rfl]; rfl) (by unfold bodyErr; rw [if_neg (by intro hx; exact absurd hx.1 (by decide))]) (by simp; omega) (by simp; omega) (by omega) (by omega)]
    obtain ⟨y, g1, g2, g3, g4, g5, g6⟩ := run_alerts rest k (st.more (21 : UInt8).toNat (num [3, 3]) [1, 0]) (h.more _ _ _) (by simp [St.more]; omega) (by simp [St.more]; omega) (by simp [St.more]; omega) (by simp [St.more]; omega)
    refine ⟨y, g1, g2, ?_, ?_, ?_, ?_⟩
    · rw [g3]; simp [St.more]; omega
    · rw [g4]; simp [St.more]; omega
    · rw [g5]; simp [St.more]; omega
    · rw [g6]; simp [St.more]; omega
theorem run_wrong {st : St} (h : st.Ready) (kd : UInt8) (hk : limits kd.toNat = none) (hc : st.came ≤ 1000000) (hs : st.steps ≤ 1000000) (hrc : st.records.length ≤ 1000000) (hev : st.events.length ≤ 1000000) :
    ∃ y : St, st.run [kd, 3, 3, 0, 0, 9, 9] = some y ∧ y.err = 18 ∧ y.at_ = st.came ∧ y.came = st.came + 5 ∧ y.events = st.events := by
  rw [run_head4 h kd 3 3 0 _ (by omega) (by omega) (by omega) (by omega)]
  obtain ⟨h1, h2, h3, h4, h5⟩ := h
  obtain ⟨hd, steps, came, next, head, now, body, left, records, events, at_, err, closed⟩ := st
  simp only at *
  subst h1 h2 h3 h4
  have hhd : hdOf [kd, 3, 3, 0, 0] = .error (0, 18) := by
    have e : num [kd] = kd.toNat := by simp [num]
    unfold hdOf
    simp only [List.take_succ_cons, List.take_zero, List.drop_succ_cons, List.drop_zero, e]
    unfold headOf
    rw [hk]
  have hstep : ({ hd := hd, steps := steps + 4, came := came + 4, next := .head, head := [kd, 3, 3, 0], now := now, body := [], left := left, records := records, events := events, at_ := at_, err := 0, closed := closed } : St).step 0 = some { hd := hd, steps := steps + 5, came := came + 5, next := .head, head := [kd, 3, 3, 0, 0], now := now, body := [], left := left, records := records, events := events, at_ := came, err := 18, closed := closed } := by
    unfold St.step
    rw [if_neg (by simp only; omega)]
    simp only
    rw [if_pos ⟨by simp, by simp, by trivial⟩]
    unfold St.inHead
    simp only [St.ticked, List.length_cons, List.length_nil, List.cons_append, List.nil_append, hhd]
    rfl
  simp only [St.run]
  rw [if_neg (by simp), hstep]
  simp only
  rw [if_pos (by simp)]
  exact ⟨_, rfl, rfl, rfl, rfl, rfl⟩
theorem run_places (k : Nat) (hk : k ≤ 60) (kd : UInt8) (hkd : limits kd.toNat = none) : ∃ y : St, (St.new 100).run (alerts k ++ [kd, 3, 3, 0, 0, 9, 9]) = some y ∧ y.err = 18 ∧ y.at_ = 7 * k ∧ y.came = 7 * k + 5 ∧ y.events.length = k := by
  have hr : (St.new 100).Ready := ⟨rfl, rfl, rfl, rfl, rfl⟩
  have z1 : (St.new 100).came = 0 := rfl
  have z2 : (St.new 100).steps = 0 := rfl
  have z3 : (St.new 100).records.length = 0 := rfl
  have z4 : (St.new 100).events.length = 0 := rfl
  obtain ⟨y, g1, g2, g3, g4, g5, g6⟩ := run_alerts [kd, 3, 3, 0, 0, 9, 9] k (St.new 100) hr (by omega) (by omega) (by omega) (by omega)
  obtain ⟨x, f1, f2, f3, f4, f5⟩ := run_wrong g2 kd hkd (by omega) (by omega) (by omega) (by omega)
  exact ⟨x, g1.trans f1, f2, by omega, by omega, by rw [f5]; omega⟩

/-! ### Rows of records of data -/
def dataRec (v1 v0 : UInt8) (b : Bytes) : Bytes := 23 :: v1 :: v0 :: UInt8.ofNat (b.length / 256) :: UInt8.ofNat b.length :: b
def dataRecs (v1 v0 : UInt8) (l : List Bytes) : Bytes := (l.map (dataRec v1 v0)).flatten
theorem dataRecs_snoc (v1 v0 : UInt8) (l : List Bytes) (b : Bytes) : dataRecs v1 v0 (l ++ [b]) = dataRecs v1 v0 l ++ dataRec v1 v0 b := by
  unfold dataRecs
  rw [List.map_append, List.flatten_append]
  simp
theorem dataRecs_len (v1 v0 : UInt8) (l : List Bytes) (h : ∀ b ∈ l, b.length ≤ 300) : (dataRecs v1 v0 l).length ≤ 305 * l.length := by
  induction l with
  | nil => simp [dataRecs]
  | cons b l ih =>
    have h1 := ih (fun x hx => h x (List.mem_cons_of_mem _ hx))
    have h2 := h b (List.mem_cons_self ..)
    unfold dataRecs at *
    simp only [List.map_cons, List.flatten_cons, List.length_append, List.length_cons, dataRec]
    omega
theorem run_data (v1 v0 : UInt8) (rest : Bytes) : ∀ (l : List Bytes) (st : St), (∀ b ∈ l, b.length ≤ 300) → st.Ready → st.left = 0 → st.came + (dataRecs v1 v0 l).length ≤ 1000000 → st.steps + (dataRecs v1 v0 l).length ≤ 1000000 → st.records.length + l.length ≤ 1000000 → st.events.length + l.length ≤ 1000000 →
    ∃ y : St, st.run (dataRecs v1 v0 l ++ rest) = y.run rest ∧ y.Ready ∧ y.left = 0 ∧ y.came = st.came + (dataRecs v1 v0 l).length ∧ y.steps = st.steps + (dataRecs v1 v0 l).length ∧ y.events = st.events ++ l.map fun b => (23, b)
  | [], st, _, h, h0, _, _, _, _ => ⟨st, rfl, h, h0, rfl, rfl, by simp⟩
  | b :: l, st, hl, h, h0, h1, h2, h3, h4 => by
    have hb := hl b (List.mem_cons_self ..)
    have hlen : (dataRecs v1 v0 (b :: l)).length = 5 + b.length + (dataRecs v1 v0 l).length := by
      unfold dataRecs
      simp only [List.map_cons, List.flatten_cons, List.length_append, dataRec, List.length_cons]
      omega
    rw [hlen] at h1 h2 ⊢
    simp only [List.length_cons] at h3 h4
    have hn : num [UInt8.ofNat (b.length / 256), UInt8.ofNat b.length] = b.length := by
      simp only [num, List.foldl_cons, List.foldl_nil, UInt8.toNat_ofNat']
      omega
    have e : dataRecs v1 v0 (b :: l) ++ rest = 23 :: v1 :: v0 :: UInt8.ofNat (b.length / 256) :: UInt8.ofNat b.length :: (b ++ (dataRecs v1 v0 l ++ rest)) := by
      unfold dataRecs dataRec
      simp only [List.map_cons, List.flatten_cons, List.append_assoc, List.cons_append]
    have hh : headOf (23 : UInt8).toNat (num [v1, v0]) (num [UInt8.ofNat (b.length / 256), UInt8.ofNat b.length]) = .ok ((23 : UInt8).toNat, num [v1, v0], num [UInt8.ofNat (b.length / 256), UInt8.ofNat b.length]) := by
      rw [hn]
      unfold headOf
      rw [show limits (23 : UInt8).toNat = some (0, 16640) from rfl]
      simp only
      rw [if_pos (by unfold checkLen; rw [if_neg (by omega), if_pos (by omega)])]
    rw [e, run_record h 23 v1 v0 _ _ b (dataRecs v1 v0 l ++ rest) (by decide) hh hn (by unfold bodyErr; rw [if_neg (by intro hx; exact absurd hx.1 (by decide))]) (by omega) (by omega) (by omega) (by omega)]
    obtain ⟨y, g1, g2, g3, g4, g5, g6⟩ := run_data v1 v0 rest l (st.more (23 : UInt8).toNat (num [v1, v0]) b) (fun x hx => hl x (List.mem_cons_of_mem _ hx)) (h.more _ _ _) rfl (by simp only [St.more]; omega) (by simp only [St.more]; omega) (by simp only [St.more, List.length_append, List.length_cons, List.length_nil]; omega) (by simp only [St.more, List.length_append, List.length_cons, List.length_nil]; omega)
    refine ⟨y, g1, g2, g3, ?_, ?_, ?_⟩
    · rw [g4]; simp only [St.more]; omega
    · rw [g5]; simp only [St.more]; omega
    · rw [g6]; simp [St.more]
theorem run_all_data (v1 v0 : UInt8) (l : List Bytes) (hl : ∀ b ∈ l, b.length ≤ 300) (hn : l.length ≤ 60) : ∃ y : St, (St.new 4).run (dataRecs v1 v0 l) = some y ∧ y.Ready ∧ y.left = 0 ∧ y.came = (dataRecs v1 v0 l).length ∧ y.steps = (dataRecs v1 v0 l).length ∧ y.events = l.map fun b => (23, b) := by
  have hr : (St.new 4).Ready := ⟨rfl, rfl, rfl, rfl, rfl⟩
  have z1 : (St.new 4).came = 0 := rfl
  have z2 : (St.new 4).steps = 0 := rfl
  have z3 : (St.new 4).records.length = 0 := rfl
  have z4 : (St.new 4).events = [] := rfl
  have z5 := dataRecs_len v1 v0 l hl
  obtain ⟨y, g1, g2, g3, g4, g5, g6⟩ := run_data v1 v0 [] l (St.new 4) hl hr rfl (by omega) (by omega) (by omega) (by rw [z4, List.length_nil]; omega)
  rw [List.append_nil] at g1
  exact ⟨y, g1, g2, g3, by omega, by omega, by rw [g6, z4]; rfl⟩
end Go.Proofs.YtalbiepdkaldmaaGreatDoor
