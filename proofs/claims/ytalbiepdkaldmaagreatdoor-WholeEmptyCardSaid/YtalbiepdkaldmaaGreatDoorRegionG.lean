/- A region that draws its order, walked once, with a ghost beside the world: each operation by what it yields and keeps. For any program in which the orders mix. -/
import Derived.Test.YtalbiepdkaldmaaGreatDoorRegion
import Derived.Orders
import Derived.Deep.QuietTactic
import Derived.Tactics
set_option linter.unusedVariables false
set_option linter.unusedSimpArgs false
namespace Go.Proofs.YtalbiepdkaldmaaGreatDoor
section
variable {P : Program} {Q : Exit → Act → World → Prop}

def dstsG (l : List Oper) (n size : Nat) : Bool := (List.range n).all fun i => match l[i]? with | none => true | some o => match o.dst with
  | none => true
  | some d => decide (d < size) && (List.range i).all fun j => match l[j]? with | none => true | some o' => o'.dst != some d
theorem dst_lt {l : List Oper} {n size : Nat} (h : dstsG l n size = true) {i d : Nat} {o : Oper} (hi : i < n) (ho : l[i]? = some o) (hd : o.dst = some d) : d < size := by
  have := List.all_eq_true.1 h i (List.mem_range.2 hi)
  simp only [ho, hd, Bool.and_eq_true, decide_eq_true_eq] at this
  exact this.1
theorem dst_neG {l : List Oper} {n size : Nat} (h : dstsG l n size = true) {i j : Nat} {o o' : Oper} {d : Nat} (hi : i < n) (hj : j < n) (ho : l[i]? = some o) (ho' : l[j]? = some o') (hd : o.dst = some d) (hd' : o'.dst = some d) : i = j := by
  rcases Nat.lt_trichotomy i j with hij | hij | hij
  · exfalso
    have := List.all_eq_true.1 h j (List.mem_range.2 hj)
    simp only [ho', hd', Bool.and_eq_true, List.all_eq_true] at this
    have := this.2 i (List.mem_range.2 hij)
    simp [ho, hd] at this
  · exact hij
  · exfalso
    have := List.all_eq_true.1 h i (List.mem_range.2 hi)
    simp only [ho, hd, Bool.and_eq_true, List.all_eq_true] at this
    have := this.2 j (List.mem_range.2 hij)
    simp [ho', hd'] at this
/-- What one operation owes: from any state of the class, with what its own needs say. -/
def StepG {γ : Type} (P : Program) (Q : Exit → Act → World → Prop) (l : List Oper) (C : (Nat → Bool) → γ → World → Prop) (LE : Nat → γ × World → γ × World → Prop) (S : Nat → Value → γ × World → Prop) (L : Nat → Bool) (i : Nat) (o : Oper) (a : Act) (g : γ) (w : World) : Prop :=
  wpOp P l.toArray Q i (fun a' w' => ∃ v g', a' = a.put o.dst v ∧ C (fun j => j == i || L j) g' w' ∧ LE i (g, w) (g', w') ∧ S i v (g', w') ∧ (o.dst = none → v = undef)) a w
theorem StepG.op {γ : Type} {l : List Oper} {L : Nat → Bool} {C : (Nat → Bool) → γ → World → Prop} {LE : Nat → γ × World → γ × World → Prop} {S : Nat → Value → γ × World → Prop} {i : Nat} {o : Oper} {a : Act} {g : γ} {w : World} (ho : l[i]? = some o) (hg : o.guard = none)
    (h : ∀ K : Act → World → Prop, (∀ v g' w', C (fun j => j == i || L j) g' w' → LE i (g, w) (g', w') → S i v (g', w') → (o.dst = none → v = undef) → K (a.put o.dst v) w') → o.wp P a w K Q) : StepG P Q l C LE S L i o a g w := by
  unfold StepG wpOp
  have ho' : l.toArray[i]? = some o := by simpa using ho
  simp only [ho']
  rw [if_pos (by simp [Region.wanted, hg])]
  exact .inl (h _ fun v g' w' h1 h2 h3 h4 => ⟨v, g', rfl, h1, h2, h3, h4⟩)

theorem wp_region_relG {γ : Type} {id : Nat} {a0 : Act} {w0 : World} (l : List Oper) (n : Nat) (hm : P.follows .mixedOrders = true)
    (hback : backB l = true) (htail : tailB l n = true) (hdst : dstsG l n a0.tmps.size = true) (hn : n ≤ l.length)
    (g0 : γ) (C : (Nat → Bool) → γ → World → Prop) (LE : Nat → γ × World → γ × World → Prop) (S : Nat → Value → γ × World → Prop)
    (hC : C (fun _ => false) g0 { w0 with drawn := w0.drawn + 1 })
    (hmono : ∀ i j v w w', i < n → j < n → i ≠ j → LE i w w' → S j v w → S j v w')
    (step : ∀ i o, i < n → l[i]? = some o → ∀ L a g w, L i = false → C L g w → Agree a0 a l n → (∀ j oj, dep l i j = true → l[j]? = some oj → S j (slotOf oj a) (g, w)) →
      StepG P Q l C LE S L i o a g w)
    (fin : ∀ vs L g w, C L g w → (∀ i, i < n → S i (vs i) (g, w)) → wpList P l.toArray Q (l.drop n) (putAll a0 (l.take n) vs 0) w) :
    (Code.region id l.toArray true).wp P Q a0 w0 := by
  refine wp_region_any hm ?_
  simp only [List.size_toArray]
  suffices H : ∀ (fuel : Nat) (listed : Array Bool) (a : Act) (g : γ) (w : World), listed.size = l.length → (∀ i, listed.getD i false = true → i < n) → l.length ≤ fuel + ((List.range l.length).countP fun i => listed.getD i false) →
      C (fun j => listed.getD j false) g w → Agree a0 a l n → (∀ i o, l[i]? = some o → listed.getD i false = true → S i (slotOf o a) (g, w)) → (∀ i j, listed.getD i false = true → dep l i j = true → listed.getD j false = true) → wpAny P .any l.toArray Q fuel listed a w by
    refine H _ _ _ g0 _ (by simp) (fun i hi => ?_) (by omega) (by
      have e : (fun j => (Array.replicate l.length false).getD j false) = fun _ => false := by funext j; simp [Array.getD]
      first | (rw [e]; exact hC) | (simp only [List.size_toArray] at e ⊢; rw [e]; exact hC)) ⟨rfl, rfl, fun _ _ => rfl⟩ (fun i o _ hi => ?_) (fun i j hi => ?_)
    all_goals (simp [Array.getD, Array.getElem_replicate] at hi)
  -- all of the body is behind: the rest
  have hrest : ∀ (fuel : Nat) (listed : Array Bool) (a : Act) (g : γ) (w : World), listed.size = l.length → (∀ i, i < l.length → (listed.getD i false = true ↔ i < n)) → l.length ≤ n + fuel → C (fun j => listed.getD j false) g w → Agree a0 a l n →
      (∀ i o, l[i]? = some o → listed.getD i false = true → S i (slotOf o a) (g, w)) → wpAny P .any l.toArray Q fuel listed a w := by
    intro fuel listed a g w hsz hl hf hC hA hS
    refine wp_tail l n hback htail fuel n listed a w (Nat.le_refl _) hf hsz hl ?_
    have e : a = putAll a0 (l.take n) (fun i => match l[i]? with | some o => slotOf o a | none => undef) 0 := by
      obtain ⟨h1, h2, h3⟩ := putAll_get (l.take n) (fun i => match l[i]? with | some o => slotOf o a | none => undef) 0 a0
      refine act_ext (by rw [h1, hA.size]) (by rw [h2, hA.defers]) (fun t => ?_)
      by_cases ht : ∃ (i : Nat) (o : Oper), i < n ∧ l[i]? = some o ∧ o.dst = some t
      · obtain ⟨i, o, hi, ho, hd⟩ := ht
        have hs := dst_lt hdst hi ho hd
        rw [putAll_slot (l.take n) _ 0 a0 i o t (by rw [List.getElem?_take]; simp [hi, ho]) hd hs (fun j o' h' e => ?_)]
        · simp [ho, slotOf, hd]
        · rw [List.getElem?_take] at h'
          split at h'
          · exact dst_neG hdst ‹_› hi h' ho e hd
          · simp at h'
      · rw [hA.out t (fun i o hi ho hd => ht ⟨i, o, hi, ho, hd⟩), h3 t (fun i o ho hd => ?_)]
        rw [List.getElem?_take] at ho
        split at ho
        · exact ht ⟨i, o, ‹_›, ho, hd⟩
        · simp at ho
    rw [e]
    refine fin _ _ g w hC (fun i hi => ?_)
    have hil : i < l.length := by omega
    simp only [List.getElem?_eq_getElem hil]
    exact hS i _ (List.getElem?_eq_getElem hil) ((hl i hil).2 hi)
  intro fuel
  induction fuel with
  | zero =>
    intro listed a g w hsz hln hf hC hA hS hcl
    have hall : ∀ i, i < l.length → listed.getD i false = true := by
      have : ((List.range l.length).countP fun i => listed.getD i false) = (List.range l.length).length := by
        have := List.countP_le_length (p := fun i => listed.getD i false) (l := List.range l.length)
        simp only [List.length_range] at this ⊢
        omega
      intro i hi
      exact List.countP_eq_length.1 this i (List.mem_range.2 hi)
    exact hrest 0 listed a g w hsz (fun i hi => ⟨hln i, fun _ => hall i hi⟩) (by
      rcases Nat.lt_or_ge n l.length with h | h
      · have := hln n (hall n h); omega
      · omega) hC hA hS
  | succ fuel ih =>
    intro listed a g w hsz hln hf hC hA hS hcl
    by_cases hb : ∀ i, i < n → listed.getD i false = true
    · refine hrest _ listed a g w hsz (fun i hi => ⟨hln i, hb i⟩) ?_ hC hA hS
      have h1 : ((List.range l.length).countP fun i => listed.getD i false) ≤ n := by
        have h2 : ((List.range l.length).countP fun i => listed.getD i false) = ((List.range l.length).countP fun i => decide (i < n)) := by
          apply List.countP_congr
          intro i hi
          simp only [decide_eq_true_eq]
          exact ⟨hln i, hb i⟩
        rw [h2]
        have h3 : l.length = n + (l.length - n) := by omega
        rw [h3, List.range_add, List.countP_append]
        have h4 : List.countP (fun i => decide (i < n)) (List.range n) ≤ n := by
          have := List.countP_le_length (p := fun i => decide (i < n)) (l := List.range n)
          simpa using this
        have h5 : List.countP (fun i => decide (i < n)) (List.map (fun x => n + x) (List.range (l.length - n))) = 0 := by
          rw [List.countP_eq_zero]
          intro x hx
          obtain ⟨y, _, rfl⟩ := List.mem_map.1 hx
          simp
        omega
      omega
    · -- some of the body is left: what is ready is of the body
      have hready : ∀ i, i ∈ Region.ready .any l.toArray listed → i < n := by
        intro i hi
        obtain ⟨hil, h1, h2⟩ := (ready_iff l listed hsz i).1 hi
        rcases Nat.lt_or_ge i n with h | h
        · exact h
        · exfalso
          apply hb
          intro j hj
          have ht := List.all_eq_true.1 htail i (List.mem_range.2 hil)
          simp only [Bool.or_eq_true, decide_eq_true_eq] at ht
          rcases ht with ht | ht
          · omega
          · have := List.all_eq_true.1 ht j (List.mem_range.2 (by omega))
            exact reach_listed hcl _ _ _ this h2
      refine ⟨fun h0 => ?_, fun i hi => ?_⟩
      · exfalso
        -- the first that isn't listed is ready
        have hex : ∃ k, k < n ∧ listed.getD k false = false := by
          apply Classical.byContradiction
          intro h
          apply hb
          intro i hi
          cases h' : listed.getD i false with
          | true => rfl
          | false => exact absurd ⟨i, hi, h'⟩ h
        have hmin : ∀ m, (∃ k, k ≤ m ∧ k < n ∧ listed.getD k false = false) → ∃ k, k < n ∧ listed.getD k false = false ∧ ∀ j, j < k → listed.getD j false = true := by
          intro m
          induction m with
          | zero =>
            rintro ⟨k, hk, hkn, hkl⟩
            exact ⟨k, hkn, hkl, fun j hj => by omega⟩
          | succ m ihm =>
            rintro ⟨k, hk, hkn, hkl⟩
            by_cases hc : ∃ k, k ≤ m ∧ k < n ∧ listed.getD k false = false
            · exact ihm hc
            · refine ⟨k, hkn, hkl, fun j hj => ?_⟩
              cases h' : listed.getD j false with
              | true => rfl
              | false => exact absurd ⟨j, by omega, by omega, h'⟩ hc
        obtain ⟨k0, hk0, hkl0⟩ := hex
        obtain ⟨k, hkn, hkl, hk⟩ := hmin k0 ⟨k0, Nat.le_refl _, hk0, hkl0⟩
        have : k ∈ Region.ready .any l.toArray listed := by
          rw [ready_iff l listed hsz]
          refine ⟨by omega, ?_, fun m hm => hk m (dep_lt hback hm)⟩
          have hkl' : k < l.length := by omega
          simp [Array.getD, hsz, hkl'] at hkl ⊢
          exact hkl
        rw [h0] at this
        exact absurd this (by simp)
      · have hin := hready i hi
        obtain ⟨hil, h1, h2⟩ := (ready_iff l listed hsz i).1 hi
        have h1' : listed.getD i false = false := by simp [Array.getD, hsz, hil] at h1 ⊢; exact h1
        have ho : l[i]? = some l[i] := List.getElem?_eq_getElem hil
        have hst := step i l[i] hin ho _ a g w h1' hC hA (fun j oj hd hj => hS j oj hj (h2 j hd))
        refine wpOp_mono ?_ hst
        rintro a' w' ⟨v, g', rfl, hC', hle, hSv, hun⟩
        have eC : (fun j => (listed.setIfInBounds i true).getD j false) = fun j => j == i || listed.getD j false := by
          funext j
          by_cases e : i = j
          · subst e; simp [Array.getD, hsz, hil]
          · rw [getD_set_ne _ e]; simp [Ne.symm e]
        refine ih _ _ g' _ (by simp [hsz]) (fun j hj => ?_) ?_ (by rw [eC]; exact hC') ?_ (fun j oj hoj hj => ?_) (fun j m hj hdj => ?_)
        · by_cases e : i = j
          · subst e; exact hin
          · rw [getD_set_ne _ e] at hj; exact hln j hj
        · have hcount : ((List.range l.length).countP fun j => listed.getD j false) + 1 ≤ ((List.range l.length).countP fun j => (listed.setIfInBounds i true).getD j false) := by
            have h3 : l.length = i + (1 + (l.length - i - 1)) := by omega
            have hi1 : (listed.setIfInBounds i true).getD i false = true := by simp [Array.getD, hsz, hil]
            rw [h3, List.range_add, List.range_add]
            simp only [List.map_append, List.countP_append, List.map_map]
            have e1 : List.countP (fun j => (listed.setIfInBounds i true).getD j false) (List.range i) = List.countP (fun j => listed.getD j false) (List.range i) := by
              apply List.countP_congr
              intro x hx
              rw [getD_set_ne _ (by have := List.mem_range.1 hx; omega)]
            have e2 : List.countP (fun j => (listed.setIfInBounds i true).getD j false) (List.map ((fun x => i + x) ∘ fun x => 1 + x) (List.range (l.length - i - 1))) = List.countP (fun j => listed.getD j false) (List.map ((fun x => i + x) ∘ fun x => 1 + x) (List.range (l.length - i - 1))) := by
              apply List.countP_congr
              intro x hx
              obtain ⟨y, _, rfl⟩ := List.mem_map.1 hx
              rw [getD_set_ne _ (by simp)]
            have e3 : List.countP (fun j => (listed.setIfInBounds i true).getD j false) (List.map (fun x => i + x) (List.range 1)) = 1 := by simp only [List.range_one, List.map_cons, List.map_nil, Nat.add_zero, List.countP_cons, List.countP_nil, hi1]; rfl
            have e4 : List.countP (fun j => listed.getD j false) (List.map (fun x => i + x) (List.range 1)) = 0 := by simp only [List.range_one, List.map_cons, List.map_nil, Nat.add_zero, List.countP_cons, List.countP_nil, h1']; rfl
            rw [e1, e2, e3, e4]
            omega
          omega
        · refine ⟨?_, ?_, fun t ht => ?_⟩
          · cases hd : l[i].dst <;> simp only [Act.put] <;> exact hA.defers
          · cases hd : l[i].dst <;> simp only [Act.put, Array.size_setIfInBounds] <;> exact hA.size
          · rw [← hA.out t ht]
            cases hd : l[i].dst with
            | none => simp only [Act.put]
            | some d =>
              have hne : d ≠ t := fun e => ht i _ hin ho (by rw [hd, e])
              simp [Act.put, Array.getD_eq_getD_getElem?, Array.getElem?_setIfInBounds_ne hne]
        · by_cases e : i = j
          · subst e
            rw [ho] at hoj
            injection hoj with hoj
            subst hoj
            have : slotOf l[i] (a.put l[i].dst v) = v := by
              cases hd : l[i].dst with
              | none => simp [slotOf, hd, hun hd]
              | some d =>
                have hs' : d < a.tmps.size := by rw [hA.size]; exact dst_lt hdst hin ho hd
                simp [slotOf, hd, Act.put, Array.getD_eq_getD_getElem?, hs']
            rw [this]
            exact hSv
          · rw [getD_set_ne _ e] at hj
            have hjn := hln j hj
            have : slotOf oj (a.put l[i].dst v) = slotOf oj a := by
              cases hd : l[i].dst with
              | none => simp [Act.put]
              | some d =>
                cases hd' : oj.dst with
                | none => simp [slotOf, hd']
                | some d' =>
                  have hne : d ≠ d' := fun e' => e (dst_neG hdst hin hjn ho hoj hd (by rw [hd', e']))
                  simp [slotOf, hd', Act.put, Array.getD_eq_getD_getElem?, Array.getElem?_setIfInBounds_ne hne]
            rw [this]
            exact hmono i j _ (g, w) (g', w') hin hjn e hle (hS j oj hoj hj)
        · by_cases e : i = m
          · subst e; simp [Array.getD, hsz, hil]
          · rw [getD_set_ne _ e]
            by_cases e' : i = j
            · subst e'; exact h2 m hdj
            · rw [getD_set_ne _ e'] at hj
              exact hcl j m hj hdj
end
end Go.Proofs.YtalbiepdkaldmaaGreatDoor
