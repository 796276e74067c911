/- A region that draws its order, walked once: each operation of its body by what it yields and keeps; the forced last operations in their order. For any program in which the orders mix. -/
import Derived.Test.YtalbiepdkaldmaaGreatDoorBase
import Derived.Orders
import Derived.Deep.QuietTactic
import Derived.Tactics
set_option linter.unusedVariables false
set_option linter.unusedSimpArgs false
namespace Go.Proofs.YtalbiepdkaldmaaGreatDoor
section
variable {P : Program} {Q : Exit → Act → World → Prop}

def putAll (a : Act) : List Oper → (Nat → Value) → Nat → Act
  | [], _, _ => a
  | o :: l, vs, k => putAll (a.put o.dst (vs k)) l vs (k + 1)

/-- What the slot of an operation holds. -/
def slotOf (o : Oper) (a : Act) : Value := match o.dst with | some d => a.tmps.getD d undef | none => undef

/-- Operation j is forced ahead of operation i. -/
def dep (l : List Oper) (i j : Nat) : Bool := match l[i]? with | some o => o.after.any (fun e => Region.binds .any e && e.on == j) | none => false
def depsB (l : List Oper) (D : List (List Nat)) : Bool := (List.range D.length).all fun i => (D.getD i []).all fun j => dep l i j
/-- All ahead of k are forced ahead of k, along the edges. -/
def reachB (l : List Oper) : Nat → Nat → Nat → Bool
  | 0, _, _ => false
  | f + 1, k, j => match l[k]? with | some o => o.after.any (fun e => Region.binds .any e && (e.on == j || reachB l f e.on j)) | none => false
def tailB (l : List Oper) (n : Nat) : Bool := (List.range l.length).all fun k => decide (k < n) || (List.range k).all fun j => reachB l l.length k j
def backB (l : List Oper) : Bool := (List.range l.length).all fun k => match l[k]? with | some o => o.after.all (fun e => !Region.binds .any e || decide (e.on < k)) | none => true
def dstsB (l : List Oper) (n size : Nat) : Bool := (List.range n).all fun i => match l[i]? with | none => true | some o => match o.dst with
  | none => false
  | some d => decide (d < size) && (List.range i).all fun j => match l[j]? with | none => true | some o' => o'.dst != some d

structure Agree (a0 a : Act) (l : List Oper) (n : Nat) : Prop where
  defers : a.defers = a0.defers
  size : a.tmps.size = a0.tmps.size
  out : ∀ t, (∀ i o, i < n → l[i]? = some o → o.dst ≠ some t) → a.tmps.getD t undef = a0.tmps.getD t undef

/-- What one operation owes: from any world of the class, with what its own needs say. -/
def StepOf (P : Program) (Q : Exit → Act → World → Prop) (l : List Oper) (C : World → Prop) (LE : Nat → World → World → Prop) (S : Nat → Value → World → Prop) (i : Nat) (o : Oper) (a : Act) (w : World) : Prop :=
  wpOp P l.toArray Q i (fun a' w' => ∃ v, a' = a.put o.dst v ∧ C w' ∧ LE i w w' ∧ S i v w') a w

theorem putAll_get (l : List Oper) (vs : Nat → Value) : ∀ (k : Nat) (a : Act), (putAll a l vs k).tmps.size = a.tmps.size ∧ (putAll a l vs k).defers = a.defers
    ∧ (∀ t, (∀ (i : Nat) (o : Oper), l[i]? = some o → o.dst ≠ some t) → (putAll a l vs k).tmps.getD t undef = a.tmps.getD t undef) := by
  induction l with
  | nil => intro k a; exact ⟨rfl, rfl, fun _ _ => rfl⟩
  | cons o l ih =>
    intro k a
    obtain ⟨h1, h2, h3⟩ := ih (k + 1) (a.put o.dst (vs k))
    refine ⟨?_, ?_, ?_⟩
    · rw [putAll, h1]; cases o.dst <;> simp [Act.put]
    · rw [putAll, h2]; cases o.dst <;> simp [Act.put]
    · intro t ht
      rw [putAll, h3 t (fun i o' h => ht (i + 1) o' (by simpa using h))]
      have := ht 0 o rfl
      cases hd : o.dst with
      | none => simp [Act.put]
      | some d =>
        have hne : d ≠ t := fun e => this (by rw [hd, e])
        simp [Act.put, Array.getD_eq_getD_getElem?, Array.getElem?_setIfInBounds_ne hne]

theorem putAll_slot (l : List Oper) (vs : Nat → Value) : ∀ (k : Nat) (a : Act) (i : Nat) (o : Oper) (d : Nat), l[i]? = some o → o.dst = some d → d < a.tmps.size →
    (∀ (j : Nat) (o' : Oper), l[j]? = some o' → o'.dst = some d → j = i) → (putAll a l vs k).tmps.getD d undef = vs (k + i) := by
  induction l with
  | nil => intro k a i o d h; simp at h
  | cons x l ih =>
    intro k a i o d h hd hs hu
    cases i with
    | zero =>
      simp only [List.getElem?_cons_zero, Option.some.injEq] at h
      subst h
      rw [putAll, (putAll_get l vs (k + 1) _).2.2 d (fun i o' h' e => by have := hu (i + 1) o' (by simpa using h') e; omega), hd]
      simp [Act.put, Array.getD_eq_getD_getElem?, hs]
    | succ i =>
      rw [putAll, ih (k + 1) _ i o d (by simpa using h) hd (by cases x.dst <;> simpa [Act.put] using hs) (fun j o' h' e => by have := hu (j + 1) o' (by simpa using h') e; omega)]
      congr 1
      omega

theorem act_ext {a b : Act} (hs : a.tmps.size = b.tmps.size) (hd : a.defers = b.defers) (h : ∀ t, a.tmps.getD t undef = b.tmps.getD t undef) : a = b := by
  cases a; cases b
  simp only at hs hd h
  congr 1
  apply Array.ext hs
  intro i h1 h2
  have := h i
  simpa [Array.getD_eq_getD_getElem?, h1, h2] using this

theorem ready_iff (l : List Oper) (listed : Array Bool) (_hsz : listed.size = l.length) (j : Nat) : j ∈ Region.ready .any l.toArray listed ↔
    j < l.length ∧ listed.getD j true = false ∧ ∀ k, dep l j k = true → listed.getD k false = true := by
  rw [mem_ready]
  constructor
  · rintro ⟨h1, o, ho, h2⟩
    have ho' : l[j]? = some o := by simpa using ho
    refine ⟨(List.getElem?_eq_some_iff.1 ho').1, h1, fun k hk => ?_⟩
    simp only [dep, ho', Array.any_eq_true, Bool.and_eq_true, beq_iff_eq] at hk
    obtain ⟨i, hi, hb, rfl⟩ := hk
    exact h2 _ (Array.getElem_mem hi) hb
  · rintro ⟨hj, h1, h2⟩
    refine ⟨h1, l[j], by simp [hj], fun e he hb => h2 _ ?_⟩
    simp only [dep, List.getElem?_eq_getElem hj, Array.any_eq_true, Bool.and_eq_true, beq_iff_eq]
    obtain ⟨i, hi, rfl⟩ := Array.getElem_of_mem he
    exact ⟨i, hi, hb, rfl⟩

theorem dep_lt {l : List Oper} (hback : backB l = true) {i j : Nat} (h : dep l i j = true) : j < i := by
  unfold dep at h
  cases ho : l[i]? with
  | none => simp [ho] at h
  | some o =>
    simp only [ho, Array.any_eq_true, Bool.and_eq_true, beq_iff_eq] at h
    obtain ⟨k, hk, hb, rfl⟩ := h
    have hlt := (List.getElem?_eq_some_iff.1 ho).1
    have hb1 := List.all_eq_true.1 hback i (List.mem_range.2 hlt)
    simp only [ho, Array.all_eq_true] at hb1
    have := hb1 k hk
    simpa [hb] using this

theorem reach_listed {l : List Oper} {listed : Array Bool} (hcl : ∀ i j, listed.getD i false = true → dep l i j = true → listed.getD j false = true) :
    ∀ (f k j : Nat), reachB l f k j = true → (∀ m, dep l k m = true → listed.getD m false = true) → listed.getD j false = true := by
  intro f
  induction f with
  | zero => intro k j h; simp [reachB] at h
  | succ f ih =>
    intro k j h hk
    unfold reachB at h
    cases ho : l[k]? with
    | none => simp [ho] at h
    | some o =>
      simp only [ho, Array.any_eq_true, Bool.and_eq_true, Bool.or_eq_true, beq_iff_eq] at h
      obtain ⟨i, hi, hb, h⟩ := h
      have hd : dep l k o.after[i].on = true := by
        simp only [dep, ho, Array.any_eq_true, Bool.and_eq_true, beq_iff_eq]
        exact ⟨i, hi, hb, rfl⟩
      rcases h with h | h
      · rw [← h]; exact hk _ hd
      · exact ih _ _ h (fun m hm => hcl _ _ (hk _ hd) hm)

/-- Behind the body: each of the last operations in its place. -/
theorem wp_tail (l : List Oper) (n : Nat) (hback : backB l = true) (htail : tailB l n = true) : ∀ (fuel k : Nat) (listed : Array Bool) (a : Act) (w : World), n ≤ k → l.length ≤ k + fuel →
    listed.size = l.length → (∀ i, i < l.length → (listed.getD i false = true ↔ i < k)) → wpList P l.toArray Q (l.drop k) a w → wpAny P .any l.toArray Q fuel listed a w := by
  have hready : ∀ k (listed : Array Bool), n ≤ k → listed.size = l.length → (∀ i, i < l.length → (listed.getD i false = true ↔ i < k)) → ∀ j, j ∈ Region.ready .any l.toArray listed ↔ j = k ∧ k < l.length := by
    intro k listed hk hsz hl j
    rw [ready_iff l listed hsz]
    constructor
    · rintro ⟨hj, h1, h2⟩
      have hjk : ¬ j < k := fun h => by
        have := (hl j hj).2 h
        simp [Array.getD, hsz, hj] at this h1
        rw [h1] at this
        exact absurd this (by simp)
      have hcl : ∀ i j, listed.getD i false = true → dep l i j = true → listed.getD j false = true := by
        intro i j hi hd
        have hil : i < l.length := by
          rcases Nat.lt_or_ge i l.length with h | h
          · exact h
          · simp [Array.getD, hsz, Nat.not_lt.2 h] at hi
        have := dep_lt hback hd
        exact (hl j (by omega)).2 (by have := (hl i hil).1 hi; omega)
      have ht := List.all_eq_true.1 htail j (List.mem_range.2 hj)
      simp only [Bool.or_eq_true, decide_eq_true_eq] at ht
      rcases ht with ht | ht
      · omega
      · by_cases hjk' : j = k
        · exact ⟨hjk', by omega⟩
        · exfalso
          have hkj : k < j := by omega
          have := List.all_eq_true.1 ht k (List.mem_range.2 hkj)
          have hr := reach_listed hcl _ _ _ this h2
          have := (hl k (by omega)).1 hr
          omega
    · rintro ⟨rfl, hk'⟩
      refine ⟨hk', ?_, fun m hm => (hl m (by have := dep_lt hback hm; omega)).2 (dep_lt hback hm)⟩
      have := mt (hl j hk').1 (by omega)
      simp [Array.getD, hsz, hk'] at this ⊢
      exact this
  intro fuel
  induction fuel with
  | zero =>
    intro k listed a w hk hf hsz hl h
    refine ⟨?_, ?_⟩
    · apply List.eq_nil_iff_forall_not_mem.2
      intro j hj
      have := (hready k listed hk hsz hl j).1 hj
      omega
    · rw [List.drop_eq_nil_of_le (by omega)] at h
      exact h
  | succ fuel ih =>
    intro k listed a w hk hf hsz hl h
    refine ⟨fun h0 => ?_, fun i hi => ?_⟩
    · have : l.length ≤ k := by
        rcases Nat.lt_or_ge k l.length with h' | h'
        · exact absurd (h0 ▸ (hready k listed hk hsz hl k).2 ⟨rfl, h'⟩) (by simp)
        · exact h'
      rw [List.drop_eq_nil_of_le this] at h
      exact h
    · obtain ⟨rfl, hlt⟩ := (hready k listed hk hsz hl i).1 hi
      rw [List.drop_eq_getElem_cons hlt] at h
      have e : l.toArray[i]? = some l[i] := by simp [hlt]
      unfold wpOp
      simp only [e]
      unfold wpList at h
      have hnext : ∀ a w, wpList P l.toArray Q (l.drop (i + 1)) a w → wpAny P .any l.toArray Q fuel (listed.setIfInBounds i true) a w := by
        intro a w h'
        refine ih (i + 1) _ a w (by omega) (by omega) (by simp [hsz]) (fun j hj => ?_) h'
        by_cases e : i = j
        · subst e; simp [Array.getD, hsz, hj]
        · rw [getD_set_ne _ e, hl j hj]; omega
      split at h
      · rename_i hw
        simp only [hw, if_true]
        exact h.imp (Oper.wp_mono hnext) id
      · rename_i hw
        simp only [hw]
        exact hnext _ _ h

theorem dst_some {l : List Oper} {n size : Nat} (h : dstsB l n size = true) {i : Nat} {o : Oper} (hi : i < n) (ho : l[i]? = some o) : ∃ d, o.dst = some d ∧ d < size := by
  have := List.all_eq_true.1 h i (List.mem_range.2 hi)
  simp only [ho] at this
  cases hd : o.dst with
  | none => simp [hd] at this
  | some d =>
    simp only [hd, Bool.and_eq_true, decide_eq_true_eq] at this
    exact ⟨d, rfl, this.1⟩
theorem dst_ne {l : List Oper} {n size : Nat} (h : dstsB l n size = true) {i j : Nat} {o o' : Oper} {d : Nat} (hi : i < n) (hj : j < n) (ho : l[i]? = some o) (ho' : l[j]? = some o') (hd : o.dst = some d) (hd' : o'.dst = some d) : i = j := by
  rcases Nat.lt_trichotomy i j with hij | hij | hij
  · exfalso
    have := List.all_eq_true.1 h j (List.mem_range.2 hj)
    simp only [ho', hd', Bool.and_eq_true, List.all_eq_true] at this
    have := this.2 i (List.mem_range.2 hij)
    simp [ho, hd] at this
  · exact hij
  · exfalso
    have := List.all_eq_true.1 h i (List.mem_range.2 hi)
    simp only [ho, hd, Bool.and_eq_true, List.all_eq_true] at this
    have := this.2 j (List.mem_range.2 hij)
    simp [ho', hd'] at this

theorem wp_region_rel {id : Nat} {a0 : Act} {w0 : World} (l : List Oper) (n : Nat) (hm : P.follows .mixedOrders = true)
    (hback : backB l = true) (htail : tailB l n = true) (hdst : dstsB l n a0.tmps.size = true) (hn : n ≤ l.length)
    (C : World → Prop) (LE : Nat → World → World → Prop) (S : Nat → Value → World → Prop)
    (hC : C { w0 with drawn := w0.drawn + 1 })
    (hmono : ∀ i j v w w', i < n → j < n → i ≠ j → LE i w w' → S j v w → S j v w')
    (step : ∀ i o, i < n → l[i]? = some o → ∀ a w, C w → Agree a0 a l n → (∀ j oj, dep l i j = true → l[j]? = some oj → S j (slotOf oj a) w) →
      StepOf P Q l C LE S i o a w)
    (fin : ∀ vs w, C w → (∀ i, i < n → S i (vs i) w) → wpList P l.toArray Q (l.drop n) (putAll a0 (l.take n) vs 0) w) :
    (Code.region id l.toArray true).wp P Q a0 w0 := by
  refine wp_region_any hm ?_
  simp only [List.size_toArray]
  suffices H : ∀ (fuel : Nat) (listed : Array Bool) (a : Act) (w : World), listed.size = l.length → (∀ i, listed.getD i false = true → i < n) → l.length ≤ fuel + ((List.range l.length).countP fun i => listed.getD i false) →
      C w → Agree a0 a l n → (∀ i o, l[i]? = some o → listed.getD i false = true → S i (slotOf o a) w) → (∀ i j, listed.getD i false = true → dep l i j = true → listed.getD j false = true) → wpAny P .any l.toArray Q fuel listed a w by
    refine H _ _ _ _ (by simp) (fun i hi => ?_) (by omega) hC ⟨rfl, rfl, fun _ _ => rfl⟩ (fun i o _ hi => ?_) (fun i j hi => ?_)
    all_goals (simp [Array.getD, Array.getElem_replicate] at hi)
  -- all of the body is behind: the rest
  have hrest : ∀ (fuel : Nat) (listed : Array Bool) (a : Act) (w : World), listed.size = l.length → (∀ i, i < l.length → (listed.getD i false = true ↔ i < n)) → l.length ≤ n + fuel → C w → Agree a0 a l n →
      (∀ i o, l[i]? = some o → listed.getD i false = true → S i (slotOf o a) w) → wpAny P .any l.toArray Q fuel listed a w := by
    intro fuel listed a w hsz hl hf hC hA hS
    refine wp_tail l n hback htail fuel n listed a w (Nat.le_refl _) hf hsz hl ?_
    have e : a = putAll a0 (l.take n) (fun i => match l[i]? with | some o => slotOf o a | none => undef) 0 := by
      obtain ⟨h1, h2, h3⟩ := putAll_get (l.take n) (fun i => match l[i]? with | some o => slotOf o a | none => undef) 0 a0
      refine act_ext (by rw [h1, hA.size]) (by rw [h2, hA.defers]) (fun t => ?_)
      by_cases ht : ∃ (i : Nat) (o : Oper), i < n ∧ l[i]? = some o ∧ o.dst = some t
      · obtain ⟨i, o, hi, ho, hd⟩ := ht
        obtain ⟨d, hd', hs⟩ := dst_some hdst hi ho
        obtain rfl : d = t := by rw [hd] at hd'; injection hd' with h; exact h.symm
        rw [putAll_slot (l.take n) _ 0 a0 i o d (by rw [List.getElem?_take]; simp [hi, ho]) hd hs (fun j o' h' e => ?_)]
        · simp [ho, slotOf, hd]
        · rw [List.getElem?_take] at h'
          split at h'
          · exact dst_ne hdst ‹_› hi h' ho e hd
          · simp at h'
      · rw [hA.out t (fun i o hi ho hd => ht ⟨i, o, hi, ho, hd⟩), h3 t (fun i o ho hd => ?_)]
        rw [List.getElem?_take] at ho
        split at ho
        · exact ht ⟨i, o, ‹_›, ho, hd⟩
        · simp at ho
    rw [e]
    refine fin _ w hC (fun i hi => ?_)
    have hil : i < l.length := by omega
    simp only [List.getElem?_eq_getElem hil]
    exact hS i _ (List.getElem?_eq_getElem hil) ((hl i hil).2 hi)
  intro fuel
  induction fuel with
  | zero =>
    intro listed a w hsz hln hf hC hA hS hcl
    have hall : ∀ i, i < l.length → listed.getD i false = true := by
      have : ((List.range l.length).countP fun i => listed.getD i false) = (List.range l.length).length := by
        have := List.countP_le_length (p := fun i => listed.getD i false) (l := List.range l.length)
        simp only [List.length_range] at this ⊢
        omega
      intro i hi
      exact List.countP_eq_length.1 this i (List.mem_range.2 hi)
    exact hrest 0 listed a w hsz (fun i hi => ⟨hln i, fun _ => hall i hi⟩) (by
      rcases Nat.lt_or_ge n l.length with h | h
      · have := hln n (hall n h); omega
      · omega) hC hA hS
  | succ fuel ih =>
    intro listed a w hsz hln hf hC hA hS hcl
    by_cases hb : ∀ i, i < n → listed.getD i false = true
    · refine hrest _ listed a w hsz (fun i hi => ⟨hln i, hb i⟩) ?_ hC hA hS
      have h1 : ((List.range l.length).countP fun i => listed.getD i false) ≤ n := by
        have h2 : ((List.range l.length).countP fun i => listed.getD i false) = ((List.range l.length).countP fun i => decide (i < n)) := by
          apply List.countP_congr
          intro i hi
          simp only [decide_eq_true_eq]
          exact ⟨hln i, hb i⟩
        rw [h2]
        have h3 : l.length = n + (l.length - n) := by omega
        rw [h3, List.range_add, List.countP_append]
        have h4 : List.countP (fun i => decide (i < n)) (List.range n) ≤ n := by
          have := List.countP_le_length (p := fun i => decide (i < n)) (l := List.range n)
          simpa using this
        have h5 : List.countP (fun i => decide (i < n)) (List.map (fun x => n + x) (List.range (l.length - n))) = 0 := by
          rw [List.countP_eq_zero]
          intro x hx
          obtain ⟨y, _, rfl⟩ := List.mem_map.1 hx
          simp
        omega
      omega
    · -- some of the body is left: what is ready is of the body
      have hready : ∀ i, i ∈ Region.ready .any l.toArray listed → i < n := by
        intro i hi
        obtain ⟨hil, h1, h2⟩ := (ready_iff l listed hsz i).1 hi
        rcases Nat.lt_or_ge i n with h | h
        · exact h
        · exfalso
          apply hb
          intro j hj
          have ht := List.all_eq_true.1 htail i (List.mem_range.2 hil)
          simp only [Bool.or_eq_true, decide_eq_true_eq] at ht
          rcases ht with ht | ht
          · omega
          · have := List.all_eq_true.1 ht j (List.mem_range.2 (by omega))
            exact reach_listed hcl _ _ _ this h2
      refine ⟨fun h0 => ?_, fun i hi => ?_⟩
      · exfalso
        -- the first that isn't listed is ready
        have hex : ∃ k, k < n ∧ listed.getD k false = false := by
          apply Classical.byContradiction
          intro h
          apply hb
          intro i hi
          cases h' : listed.getD i false with
          | true => rfl
          | false => exact absurd ⟨i, hi, h'⟩ h
        have hmin : ∀ m, (∃ k, k ≤ m ∧ k < n ∧ listed.getD k false = false) → ∃ k, k < n ∧ listed.getD k false = false ∧ ∀ j, j < k → listed.getD j false = true := by
          intro m
          induction m with
          | zero =>
            rintro ⟨k, hk, hkn, hkl⟩
            exact ⟨k, hkn, hkl, fun j hj => by omega⟩
          | succ m ihm =>
            rintro ⟨k, hk, hkn, hkl⟩
            by_cases hc : ∃ k, k ≤ m ∧ k < n ∧ listed.getD k false = false
            · exact ihm hc
            · refine ⟨k, hkn, hkl, fun j hj => ?_⟩
              cases h' : listed.getD j false with
              | true => rfl
              | false => exact absurd ⟨j, by omega, by omega, h'⟩ hc
        obtain ⟨k0, hk0, hkl0⟩ := hex
        obtain ⟨k, hkn, hkl, hk⟩ := hmin k0 ⟨k0, Nat.le_refl _, hk0, hkl0⟩
        have : k ∈ Region.ready .any l.toArray listed := by
          rw [ready_iff l listed hsz]
          refine ⟨by omega, ?_, fun m hm => hk m (dep_lt hback hm)⟩
          have hkl' : k < l.length := by omega
          simp [Array.getD, hsz, hkl'] at hkl ⊢
          exact hkl
        rw [h0] at this
        exact absurd this (by simp)
      · have hin := hready i hi
        obtain ⟨hil, h1, h2⟩ := (ready_iff l listed hsz i).1 hi
        have h1' : listed.getD i false = false := by simp [Array.getD, hsz, hil] at h1 ⊢; exact h1
        have ho : l[i]? = some l[i] := List.getElem?_eq_getElem hil
        have hst := step i l[i] hin ho a w hC hA (fun j oj hd hj => hS j oj hj (h2 j hd))
        refine wpOp_mono ?_ hst
        rintro a' w' ⟨v, rfl, hC', hle, hSv⟩
        obtain ⟨d, hd, hds⟩ := dst_some hdst hin ho
        refine ih _ _ _ (by simp [hsz]) (fun j hj => ?_) ?_ hC' ?_ (fun j oj hoj hj => ?_) (fun j m hj hdj => ?_)
        · by_cases e : i = j
          · subst e; exact hin
          · rw [getD_set_ne _ e] at hj; exact hln j hj
        · have hcount : ((List.range l.length).countP fun j => listed.getD j false) + 1 ≤ ((List.range l.length).countP fun j => (listed.setIfInBounds i true).getD j false) := by
            have h3 : l.length = i + (1 + (l.length - i - 1)) := by omega
            have hi1 : (listed.setIfInBounds i true).getD i false = true := by simp [Array.getD, hsz, hil]
            rw [h3, List.range_add, List.range_add]
            simp only [List.map_append, List.countP_append, List.map_map]
            have e1 : List.countP (fun j => (listed.setIfInBounds i true).getD j false) (List.range i) = List.countP (fun j => listed.getD j false) (List.range i) := by
              apply List.countP_congr
              intro x hx
              rw [getD_set_ne _ (by have := List.mem_range.1 hx; omega)]
            have e2 : List.countP (fun j => (listed.setIfInBounds i true).getD j false) (List.map ((fun x => i + x) ∘ fun x => 1 + x) (List.range (l.length - i - 1))) = List.countP (fun j => listed.getD j false) (List.map ((fun x => i + x) ∘ fun x => 1 + x) (List.range (l.length - i - 1))) := by
              apply List.countP_congr
              intro x hx
              obtain ⟨y, _, rfl⟩ := List.mem_map.1 hx
              rw [getD_set_ne _ (by simp)]
            have e3 : List.countP (fun j => (listed.setIfInBounds i true).getD j false) (List.map (fun x => i + x) (List.range 1)) = 1 := by simp only [List.range_one, List.map_cons, List.map_nil, Nat.add_zero, List.countP_cons, List.countP_nil, hi1]; rfl
            have e4 : List.countP (fun j => listed.getD j false) (List.map (fun x => i + x) (List.range 1)) = 0 := by simp only [List.range_one, List.map_cons, List.map_nil, Nat.add_zero, List.countP_cons, List.countP_nil, h1']; rfl
            rw [e1, e2, e3, e4]
            omega
          omega
        · refine ⟨?_, ?_, fun t ht => ?_⟩
          · simp only [Act.put, hd]; exact hA.defers
          · simp only [Act.put, hd, Array.size_setIfInBounds]; exact hA.size
          · rw [← hA.out t ht]
            have hne : d ≠ t := fun e => ht i _ hin ho (by rw [hd, e])
            simp [Act.put, hd, Array.getD_eq_getD_getElem?, Array.getElem?_setIfInBounds_ne hne]
        · by_cases e : i = j
          · subst e
            rw [ho] at hoj
            injection hoj with hoj
            subst hoj
            have : slotOf l[i] (a.put l[i].dst v) = v := by
              have hs' : d < a.tmps.size := by rw [hA.size]; exact hds
              simp [slotOf, hd, Act.put, Array.getD_eq_getD_getElem?, hs']
            rw [this]
            exact hSv
          · rw [getD_set_ne _ e] at hj
            have hjn := hln j hj
            obtain ⟨d', hd', _⟩ := dst_some hdst hjn hoj
            have hne : d ≠ d' := fun e' => e (dst_ne hdst hin hjn ho hoj hd (by rw [hd', e']))
            have : slotOf oj (a.put l[i].dst v) = slotOf oj a := by
              simp [slotOf, hd, hd', Act.put, Array.getD_eq_getD_getElem?, Array.getElem?_setIfInBounds_ne hne]
            rw [this]
            exact hmono i j _ w w' hin hjn e hle (hS j oj hoj hj)
        · by_cases e : i = m
          · subst e; simp [Array.getD, hsz, hil]
          · rw [getD_set_ne _ e]
            by_cases e' : i = j
            · subst e'; exact h2 m hdj
            · rw [getD_set_ne _ e'] at hj
              exact hcl j m hj hdj
end
/-! ### Regions whose values are all known: the kit's quiet walk, one operation at a time, over any class -/
section
variable {P : Program} {ops : Array Oper} {C : World → Prop} {QQ : Act → Prop} {o : Oper} {rest : List Oper} {a : Act}
theorem wpQuiet_op (v : Value) (hg : o.guard = none) (h : ∀ w, C w → o.quietAt P a C w v) (hn : ∀ K : Act → Prop, (∀ a, wpQuiet P ops C QQ rest a → K a) → K (a.put o.dst v)) : wpQuiet P ops C QQ (o :: rest) a := by
  refine wpQuiet_step fun K hK => ?_
  rw [if_pos (by simp [Region.wanted, hg])]
  exact ⟨v, h, hn K hK⟩
theorem wpQuiet_opW (v : Value) (hw : Region.wanted o (yielded ops a.tmps) = true) (h : ∀ w, C w → o.quietAt P a C w v) (hn : ∀ K : Act → Prop, (∀ a, wpQuiet P ops C QQ rest a → K a) → K (a.put o.dst v)) : wpQuiet P ops C QQ (o :: rest) a := by
  refine wpQuiet_step fun K hK => ?_
  rw [if_pos hw]
  exact ⟨v, h, hn K hK⟩
theorem wpQuiet_no (hw : Region.wanted o (yielded ops a.tmps) = false) (hn : ∀ K : Act → Prop, (∀ a, wpQuiet P ops C QQ rest a → K a) → K (a.put o.dst undef)) : wpQuiet P ops C QQ (o :: rest) a := by
  refine wpQuiet_step fun K hK => ?_
  rw [if_neg (by rw [hw]; exact Bool.false_ne_true)]
  exact hn K hK
theorem wp_region_quietX {id : Nat} {Q : Exit → Act → World → Prop} {w : World} (hm : P.follows .mixedOrders = true) (hB : Region.lexB .any ops = true)
    (h : wpQuiet P ops (fun w' => Ext w w') (fun a' => ∀ w', Ext w w' → Q .normal a' w') ops.toList a) : (Code.region id ops true).wp P Q a w :=
  wp_region_quiet (C := fun w' => Ext w w') hm hB (Fr.refl _ _).drew h
end
end Go.Proofs.YtalbiepdkaldmaaGreatDoor
