/- A region that draws its order: operations that only read are taken first; then those that bring something new, in their forced order; each of these keeps what the readers read. For any program in which the orders mix. -/
import Derived.Test.YtalbiepdkaldmaaGreatDoorRegion
import Derived.Orders
import Derived.Tactics
import Derived.Deep.QuietTactic
set_option linter.unusedVariables false
set_option linter.unusedSimpArgs false
namespace Go.Proofs.YtalbiepdkaldmaaGreatDoor
section
variable {P : Program} {Q : Exit → Act → World → Prop} {C : World → Prop}

def NoQ : Exit → Act → World → Prop := fun _ _ _ => False
theorem noq_out : ¬ LetsOut NoQ := fun ⟨_, _, h⟩ => h

def MYields (P : Program) (ops : Array Oper) (C : World → Prop) (o : Oper) (v : Value) (a : Act) : Prop :=
  (Region.wanted o (yielded ops a.tmps) = true ∧ ∀ w, C w → o.quietAt P a (fun w'' => w'' = w) w v) ∨ (Region.wanted o (yielded ops a.tmps) = false ∧ v = undef)
theorem MYields.wpOp {ops : Array Oper} {i : Nat} {o : Oper} {v : Value} {a : Act} {w : World} {K : Act → World → Prop} (hi : ops[i]? = some o) (hy : MYields P ops C o v a) (hw : C w) (h : K (a.put o.dst v) w) : wpOp P ops Q i K a w := by
  unfold Go.wpOp
  simp only [hi]
  rcases hy with ⟨h1, h2⟩ | ⟨h1, rfl⟩
  · simp only [h1, if_true]
    exact .inl (Oper.wp_of_quiet (C := fun w'' => w'' = w) (K := fun a' => a' = a.put o.dst v) rfl (fun a' w' e1 e2 => by subst e1; subst e2; exact h) ⟨v, fun w' e => by subst e; exact h2 _ hw, rfl⟩)
  · simp only [h1, Bool.false_eq_true, if_false]
    exact h
theorem MYields.of_same {ops : Array Oper} {o : Oper} {v : Value} {a a' : Act} (hy : MYields P ops C o v a) (he : execOp a'.eval o = execOp a.eval o)
    (hw : Region.wanted o (yielded ops a'.tmps) = Region.wanted o (yielded ops a.tmps)) : MYields P ops C o v a' := by
  unfold MYields Oper.quietAt at *
  rw [he, hw]
  exact hy

/-- One operation, apart from a reader: whether the reader's value is in its place makes no difference. -/
theorem wpOp_unput {ops : Array Oper} {j : Nat} {oi oj : Oper} {v : Value} {a : Act} {w : World} {K : Act → World → Prop} (hj : ops[j]? = some oj) (hap : oi.apart ops oj = true)
    (hsi : ∀ cs b, oi.op ≠ .select cs b) (hsj : ∀ cs b, oj.op ≠ .select cs b) (hy : MYields P ops C oi v a) (h : wpOp P ops NoQ j K (a.put oi.dst v) w) :
    wpOp P ops NoQ j (fun a' w' => MYields P ops C oi v a' ∧ K (a'.put oi.dst v) w') a w := by
  obtain ⟨h1, h2, h3⟩ := Oper.apart_spec hap
  have keep : ∀ u, MYields P ops C oi v (a.put oj.dst u) := fun u => hy.of_same (execOp_put oi hsi a oj.dst u h3) (wanted_put oi a oj.dst u h3)
  have comm : ∀ u, (a.put oi.dst v).put oj.dst u = (a.put oj.dst u).put oi.dst v := fun u => Act.put_comm a v u h2
  unfold wpOp at *
  simp only [hj] at *
  rw [wanted_put oj a oi.dst v h1] at h
  split
  · rename_i hw
    simp only [hw, if_true] at h
    rcases h with h | ⟨_, h⟩
    · left
      unfold Oper.wp at *
      rw [execOp_put oj hsj a oi.dst v h1] at h
      generalize (execOp a.eval oj).run P w = r at *
      cases r with
      | ok nx w' =>
        cases nx with
        | value u => exact ⟨keep u, by simpa only [Oper.upon, comm] using h⟩
        | skip => exact ⟨keep undef, by simpa only [Oper.upon, comm] using h⟩
        | enter f args =>
          simp only [Oper.upon] at h ⊢
          refine h.mono ?_
          intro e w'' he
          cases e with
          | returned u => exact ⟨keep u, by rw [← comm]; exact he⟩
          | panicked c => exact he
          | outgrown => exact absurd he noq_out
        | row r args =>
          simp only [Oper.upon] at h ⊢
          exact h.mono fun u w'' hu => ⟨keep u, by rw [← comm]; exact hu⟩
        | «defer» d =>
          simp only [Oper.upon] at h ⊢
          have e1 : ({ a.put oi.dst v with defers := d :: (a.put oi.dst v).defers } : Act) = ({ a with defers := d :: a.defers } : Act).put oi.dst v := by cases oi.dst <;> rfl
          have ev : ({ a with defers := d :: a.defers } : Act).eval = a.eval := by funext x; cases x <;> rfl
          refine ⟨hy.of_same ((execOp_put oi hsi _ oj.dst undef h3).trans (by rw [ev])) (wanted_put oi ({ a with defers := d :: a.defers } : Act) oj.dst undef h3), ?_⟩
          rw [e1, Act.put_comm _ v undef h2] at h
          exact h
        | _ => exact h.elim
      | halt x w' => cases x <;> exact h.elim
    · exact absurd h noq_out
  · rename_i hw
    simp only [hw] at h
    exact ⟨keep undef, by rw [← comm]; exact h⟩

/-- All below m are behind. -/
def done (m : Nat) (listed : Array Bool) : Bool := (List.range m).all fun k => listed.getD k false

/-- Whatever order is picked, until all below m are behind; each leaves a world of the class. -/
def wpAnyC (P : Program) (l : List Oper) (C : World → Prop) (m : Nat) (Q : Exit → Act → World → Prop) : Nat → Array Bool → Act → World → Prop
  | 0, listed, a, w => done m listed = true ∧ wpAny P .any l.toArray Q 0 listed a w
  | fuel + 1, listed, a, w => if done m listed = true then wpAny P .any l.toArray Q (fuel + 1) listed a w else
      Region.ready .any l.toArray listed ≠ [] ∧ ∀ i ∈ Region.ready .any l.toArray listed, wpOp P l.toArray NoQ i (fun a' w' => C w' ∧ wpAnyC P l C m Q fuel (listed.setIfInBounds i true) a' w') a w

theorem upon_noq {o : Oper} {a : Act} {K : Act → World → Prop} {r : Result Next} (h : o.upon P a K NoQ r) : o.upon P a K Q r := by
  cases r with
  | ok nx w' =>
    cases nx with
    | enter f args =>
      simp only [Oper.upon] at h ⊢
      refine h.mono ?_
      intro e w'' he
      cases e with
      | returned u => exact he
      | panicked c => exact he.elim
      | outgrown => exact absurd he noq_out
    | value u => exact h
    | skip => exact h
    | row r args => exact h
    | «defer» d => exact h
    | _ => exact h.elim
  | halt x w' => cases x <;> exact h.elim
theorem wpOp_noq {ops : Array Oper} {i : Nat} {K : Act → World → Prop} {a : Act} {w : World} (h : wpOp P ops NoQ i K a w) : wpOp P ops Q i K a w := by
  unfold wpOp at *
  split
  · rename_i ho; simpa only [ho] using h
  · rename_i o ho
    simp only [ho] at h
    split
    · rename_i hw
      simp only [hw, if_true] at h
      rcases h with h | ⟨_, h⟩
      · exact .inl (upon_noq h)
      · exact absurd h noq_out
    · rename_i hw; simpa only [hw, Bool.false_eq_true, if_false] using h

theorem wpAny_of_C {l : List Oper} {m : Nat} : ∀ (fuel : Nat) (listed : Array Bool) (a : Act) (w : World), wpAnyC P l C m Q fuel listed a w → wpAny P .any l.toArray Q fuel listed a w
  | 0, _, _, _, h => h.2
  | fuel + 1, listed, a, w, h => by
    unfold wpAnyC at h
    split at h
    · exact h
    · refine ⟨fun h0 => absurd h0 h.1, fun i hi => ?_⟩
      exact wpOp_mono (fun a' w' h' => wpAny_of_C fuel _ a' w' h'.2) (wpOp_noq (h.2 i hi))

theorem done_of_ready {l : List Oper} {m : Nat} (htail : tailB l m = true) {listed : Array Bool} (hsz : listed.size = l.length)
    (hcl : ∀ i j, listed.getD i false = true → dep l i j = true → listed.getD j false = true) {j : Nat} (hj : j ∈ Region.ready .any l.toArray listed) (hm : m ≤ j) : done m listed = true := by
  rw [ready_iff l listed hsz] at hj
  obtain ⟨h1, h2, h3⟩ := hj
  unfold done
  rw [List.all_eq_true]
  intro k hk
  have hk := List.mem_range.1 hk
  have ht := List.all_eq_true.1 htail j (List.mem_range.2 h1)
  simp only [Bool.or_eq_true, decide_eq_true_eq] at ht
  rcases ht with ht | ht
  · omega
  · exact reach_listed hcl _ _ _ (List.all_eq_true.1 ht k (List.mem_range.2 (by omega))) h3

theorem closed_set {l : List Oper} {listed : Array Bool} (hsz : listed.size = l.length) (hcl : ∀ i j, listed.getD i false = true → dep l i j = true → listed.getD j false = true) {i : Nat} (hi : i ∈ Region.ready .any l.toArray listed) :
    ∀ x y, (listed.setIfInBounds i true).getD x false = true → dep l x y = true → (listed.setIfInBounds i true).getD y false = true := by
  rw [ready_iff l listed hsz] at hi
  intro x y hx hd
  by_cases hxi : x = i
  · subst hxi
    exact getD_set_true (hi.2.2 y hd)
  · rw [getD_set_ne false (Ne.symm hxi)] at hx
    exact getD_set_true (hcl x y hx hd)

/-- A reader may be taken first. -/
theorem wpAnyC_first {l : List Oper} {m i : Nat} {oi : Oper} {v : Value} (htail : tailB l m = true) (hi : l.toArray[i]? = some oi) (him : i < m) (hsel : ∀ (j : Nat) (o : Oper) cs b, l.toArray[j]? = some o → o.op ≠ .select cs b) :
    ∀ (fuel : Nat) (listed : Array Bool) (a : Act) (w : World), listed.size = l.length → (∀ i j, listed.getD i false = true → dep l i j = true → listed.getD j false = true) → C w →
      (∀ j oj, l.toArray[j]? = some oj → j ≠ i → listed.getD j true = false → (∀ e ∈ oj.after, Region.binds .any e = true → e.on ≠ i) → oi.apart l.toArray oj = true) →
      i ∈ Region.ready .any l.toArray listed → MYields P l.toArray C oi v a →
      wpAnyC P l C m Q fuel (listed.setIfInBounds i true) (a.put oi.dst v) w → wpAnyC P l C m Q (fuel + 1) listed a w := by
  intro fuel
  induction fuel with
  | zero =>
    intro listed a w hsz hcl hC _ hr hy H
    have hnd : ¬ done m listed = true := by
      intro hd
      have h0 := ((ready_iff l listed hsz i).1 hr).2.1
      have h1 := List.all_eq_true.1 hd i (List.mem_range.2 him)
      have hil := ((ready_iff l listed hsz i).1 hr).1
      simp [Array.getD, hsz, hil] at h0 h1
      rw [h0] at h1
      exact absurd h1 (by simp)
    unfold wpAnyC
    rw [if_neg hnd]
    refine ⟨fun h => (by rw [h] at hr; cases hr), fun j hj => ?_⟩
    by_cases hji : j = i
    · subst hji; exact hy.wpOp hi hC ⟨hC, H⟩
    · exfalso
      have hjm : j < m := by
        rcases Nat.lt_or_ge j m with h | h
        · exact h
        · exact absurd (done_of_ready htail hsz hcl hj h) hnd
      have h1 := List.all_eq_true.1 H.1 j (List.mem_range.2 hjm)
      rw [getD_set_ne false (Ne.symm hji)] at h1
      have h2 := ((ready_iff l listed hsz j).1 hj)
      have hjl := h2.1
      have h3 := h2.2.1
      simp [Array.getD, hsz, hjl] at h1 h3
      rw [h1] at h3
      exact absurd h3 (by simp)
  | succ fuel ih =>
    intro listed a w hsz hcl hC hfree hr hy H
    have hnd : ¬ done m listed = true := by
      intro hd
      have h0 := ((ready_iff l listed hsz i).1 hr).2.1
      have h1 := List.all_eq_true.1 hd i (List.mem_range.2 him)
      have hil := ((ready_iff l listed hsz i).1 hr).1
      simp [Array.getD, hsz, hil] at h0 h1
      rw [h0] at h1
      exact absurd h1 (by simp)
    unfold wpAnyC
    rw [if_neg hnd]
    refine ⟨fun h => (by rw [h] at hr; cases hr), fun j hj => ?_⟩
    by_cases hji : j = i
    · subst hji; exact hy.wpOp hi hC ⟨hC, H⟩
    · have hjm : j < m := by
        rcases Nat.lt_or_ge j m with h | h
        · exact h
        · exact absurd (done_of_ready htail hsz hcl hj h) hnd
      have hjr := ready_mono hj hji
      have hcl' := closed_set hsz hcl hr
      have hnd' : ¬ done m (listed.setIfInBounds i true) = true := by
        intro hd
        have h1 := List.all_eq_true.1 hd j (List.mem_range.2 hjm)
        rw [getD_set_ne false (Ne.symm hji)] at h1
        have h2 := ((ready_iff l listed hsz j).1 hj)
        have hjl := h2.1
        have h3 := h2.2.1
        simp [Array.getD, hsz, hjl] at h1 h3
        rw [h1] at h3
        exact absurd h3 (by simp)
      unfold wpAnyC at H
      rw [if_neg hnd'] at H
      have h1 := H.2 j hjr
      obtain ⟨hjun, oj, hoj, hall⟩ := mem_ready.1 hj
      have hnot : ∀ e ∈ oj.after, Region.binds .any e = true → e.on ≠ i := fun e he hb heq => by
        have h1 := hall e he hb
        have h0 := (mem_ready.1 hr).1
        rw [heq] at h1
        rcases Nat.lt_or_ge i listed.size with h' | h'
        · simp [h'] at h0 h1; rw [h0] at h1; cases h1
        · simp [Array.getElem?_eq_none h'] at h1
      have h2 := wpOp_unput hoj (hfree j oj hoj hji hjun hnot) (fun cs b => hsel i oi cs b hi) (fun cs b => hsel j oj cs b hoj) hy h1
      have hfree' : ∀ k ok, l.toArray[k]? = some ok → k ≠ i → (listed.setIfInBounds j true).getD k true = false →
          (∀ e ∈ ok.after, Region.binds .any e = true → e.on ≠ i) → oi.apart l.toArray ok = true := fun k ok hk hki hun hno => by
        refine hfree k ok hk hki ?_ hno
        by_cases hjk : j = k
        · subst hjk; exact hjun
        · rw [getD_set_ne true hjk] at hun; exact hun
      refine wpOp_mono (fun a' w' h3 => ?_) h2
      refine ⟨h3.2.1, ih (listed.setIfInBounds j true) a' w' (by simpa using hsz) (closed_set hsz hcl hj) h3.2.1 hfree' (ready_mono hr (Ne.symm hji)) h3.1 ?_⟩
      rw [Array.setIfInBounds_comm _ _ hji]
      exact h3.2.2

/-! ### The order of the text -/
def upTo (N k : Nat) : Array Bool := ((List.range N).map fun i => decide (i < k)).toArray
theorem upTo_size (N k : Nat) : (upTo N k).size = N := by simp [upTo]
theorem upTo_get (N k i : Nat) (h : i < N) (d : Bool) : (upTo N k).getD i d = decide (i < k) := by simp [upTo, Array.getD, h]
theorem upTo_out (N k i : Nat) (h : ¬ i < N) (d : Bool) : (upTo N k).getD i d = d := by simp [upTo, Array.getD, h]
theorem upTo_set (N k : Nat) : (upTo N k).setIfInBounds k true = upTo N (k + 1) := by
  unfold upTo
  rw [List.setIfInBounds_toArray]
  congr 1
  apply List.ext_getElem
  · simp
  · intro i h1 h2
    rw [List.getElem_set]
    simp only [List.getElem_map, List.getElem_range]
    split
    · rename_i e; subst e; simp
    · rename_i e
      simp
      omega
theorem upTo_closed {l : List Oper} (hback : backB l = true) (k : Nat) : ∀ i j, (upTo l.length k).getD i false = true → dep l i j = true → (upTo l.length k).getD j false = true := by
  intro i j hi hd
  have hlt := dep_lt hback hd
  by_cases h : i < l.length
  · rw [upTo_get _ _ _ h] at hi
    rw [upTo_get _ _ _ (by omega)]
    simp at hi ⊢
    omega
  · rw [upTo_out _ _ _ h] at hi
    exact absurd hi (by simp)

def wpStl (P : Program) (ops : Array Oper) (C : World → Prop) (QQ : Act → Prop) : List Oper → Act → Prop
  | [], a => QQ a
  | o :: rest, a => ∃ v, MYields P ops C o v a ∧ wpStl P ops C QQ rest (a.put o.dst v)
def wpMid (P : Program) (ops : Array Oper) (C : World → Prop) (T : Act → World → Prop) : List Oper → Act → World → Prop
  | [], a, w => T a w
  | o :: rest, a, w => if Region.wanted o (yielded ops a.tmps) then o.wp P a w (fun a' w' => C w' ∧ wpMid P ops C T rest a' w') NoQ else C w ∧ wpMid P ops C T rest (a.put o.dst undef) w

def mixB (l : List Oper) (n m : Nat) : Bool :=
  Region.noSelect l.toArray && backB l && tailB l m && decide (n ≤ m) && decide (m ≤ l.length) &&
  ((List.range n).all fun k => (Region.ready .any l.toArray (upTo l.length k)).contains k && Region.free .any l.toArray (upTo l.length k) k) &&
  ((List.range m).all fun k => decide (k < n) || Region.ready .any l.toArray (upTo l.length k) == [k])

theorem wp_region_mix {id : Nat} {a : Act} {w : World} (l : List Oper) (n m : Nat) (hm : P.follows .mixedOrders = true) (hB : mixB l n m = true) (C : World → Prop) (hC : C w.drew)
    (h : wpStl P l.toArray C (fun a' => wpMid P l.toArray C (fun a w => wpList P l.toArray Q (l.drop m) a w) ((l.drop n).take (m - n)) a' w.drew) (l.take n) a) : (Code.region id l.toArray true).wp P Q a w := by
  simp only [mixB, Bool.and_eq_true, decide_eq_true_eq] at hB
  obtain ⟨⟨⟨⟨⟨⟨hsel, hback⟩, htail⟩, hnm⟩, hml⟩, hpre⟩, hmid⟩ := hB
  have hsp := Region.noSelect_spec hsel
  have notdone : ∀ k, k < m → ¬ done m (upTo l.length k) = true := by
    intro k hk hd
    have := List.all_eq_true.1 hd k (List.mem_range.2 hk)
    rw [upTo_get _ _ _ (by omega)] at this
    simp at this
  -- the middle
  have A : ∀ (f k : Nat) (a : Act) (w : World), m = k + f → n ≤ k → wpMid P l.toArray C (fun a w => wpList P l.toArray Q (l.drop m) a w) ((l.drop k).take f) a w → wpAnyC P l C m Q (l.length - k) (upTo l.length k) a w := by
    intro f
    induction f with
    | zero =>
      intro k a w hk hn h
      have hk : k = m := by omega
      subst hk
      have hd : done k (upTo l.length k) = true := by
        unfold done
        rw [List.all_eq_true]
        intro i hi
        have := List.mem_range.1 hi
        rw [upTo_get _ _ _ (by omega)]
        simpa using this
      have hw : wpAny P .any l.toArray Q (l.length - k) (upTo l.length k) a w :=
        wp_tail l k hback htail (l.length - k) k _ a w (Nat.le_refl _) (by omega) (upTo_size _ _) (fun i hi => by rw [upTo_get _ _ _ hi]; simp) (by simpa [wpMid] using h)
      cases hf : l.length - k with
      | zero => rw [hf] at hw; exact ⟨hd, hw⟩
      | succ f => rw [hf] at hw; unfold wpAnyC; rw [if_pos hd]; exact hw
    | succ f ih =>
      intro k a w hk hn h
      have hkl : k < l.length := by omega
      have ho : l[k]? = some l[k] := List.getElem?_eq_getElem hkl
      rw [List.drop_eq_getElem_cons hkl, List.take_succ_cons] at h
      have hr := List.all_eq_true.1 hmid k (List.mem_range.2 (by omega))
      simp only [Bool.or_eq_true, decide_eq_true_eq, beq_iff_eq] at hr
      have hr : Region.ready .any l.toArray (upTo l.length k) = [k] := by
        rcases hr with hr | hr
        · omega
        · exact hr
      have e : l.length - k = (l.length - (k + 1)) + 1 := by omega
      rw [e]
      unfold wpAnyC
      rw [if_neg (notdone k (by omega)), hr]
      refine ⟨by simp, fun i hi => ?_⟩
      have hi : i = k := by simpa using hi
      subst hi
      rw [upTo_set]
      unfold wpOp
      have ho' : l.toArray[i]? = some l[i] := by simp [ho]
      simp only [ho']
      simp only [wpMid] at h
      split
      · rename_i hw
        rw [if_pos hw] at h
        exact .inl (Oper.wp_mono (fun a' w' h' => ⟨h'.1, ih (i + 1) a' w' (by omega) (by omega) h'.2⟩) h)
      · rename_i hw
        rw [if_neg hw] at h
        exact ⟨h.1, ih (i + 1) _ _ (by omega) (by omega) h.2⟩
  -- the readers
  have B : ∀ (f k : Nat) (a : Act) (w : World), n = k + f → C w → wpStl P l.toArray C (fun a' => wpMid P l.toArray C (fun a w => wpList P l.toArray Q (l.drop m) a w) ((l.drop n).take (m - n)) a' w) ((l.drop k).take f) a → wpAnyC P l C m Q (l.length - k) (upTo l.length k) a w := by
    intro f
    induction f with
    | zero =>
      intro k a w hk hC h
      have hk : k = n := by omega
      subst hk
      exact A (m - k) k a w (by omega) (Nat.le_refl _) (by simpa [wpStl] using h)
    | succ f ih =>
      intro k a w hk hC h
      have hkl : k < l.length := by omega
      have ho : l.toArray[k]? = some l[k] := by simp [hkl]
      rw [List.drop_eq_getElem_cons hkl, List.take_succ_cons] at h
      obtain ⟨v, hy, hn⟩ := h
      have hr := List.all_eq_true.1 hpre k (List.mem_range.2 (by omega))
      simp only [Bool.and_eq_true] at hr
      have e : l.length - k = (l.length - (k + 1)) + 1 := by omega
      rw [e]
      refine wpAnyC_first htail ho (by omega) hsp (l.length - (k + 1)) (upTo l.length k) a w (upTo_size _ _) (upTo_closed hback k) hC (Region.free_spec ho hr.2) (by simpa using hr.1) hy ?_
      rw [upTo_set]
      exact ih (k + 1) _ w (by omega) hC hn
  refine wp_region_any hm ?_
  have e0 : Array.replicate l.toArray.size false = upTo l.length 0 := by
    apply Array.ext
    · simp [upTo]
    · intro i h1 h2; simp [upTo]
  rw [e0]
  have := wpAny_of_C _ _ _ _ (B n 0 a _ (by omega) hC (by simpa using h))
  simpa using this
end
section
variable {P : Program} {ops : Array Oper} {C : World → Prop} {QQ : Act → Prop} {o : Oper} {rest : List Oper} {a : Act}
theorem wpStl_op (v : Value) (hw : Region.wanted o (yielded ops a.tmps) = true) (h : ∀ w, C w → o.quietAt P a (fun w'' => w'' = w) w v) (hn : ∀ K : Act → Prop, (∀ a, wpStl P ops C QQ rest a → K a) → K (a.put o.dst v)) : wpStl P ops C QQ (o :: rest) a :=
  ⟨v, .inl ⟨hw, h⟩, hn _ fun _ h => h⟩
theorem wpStl_no (hw : Region.wanted o (yielded ops a.tmps) = false) (hn : ∀ K : Act → Prop, (∀ a, wpStl P ops C QQ rest a → K a) → K (a.put o.dst undef)) : wpStl P ops C QQ (o :: rest) a :=
  ⟨undef, .inr ⟨hw, rfl⟩, hn _ fun _ h => h⟩
theorem wpMid_op {T : Act → World → Prop} {w : World} (hw : Region.wanted o (yielded ops a.tmps) = true) (h : ∀ K : Act → World → Prop, (∀ a w', C w' → wpMid P ops C T rest a w' → K a w') → o.wp P a w K NoQ) : wpMid P ops C T (o :: rest) a w := by
  unfold wpMid
  rw [if_pos hw]
  exact h _ fun _ _ h1 h2 => ⟨h1, h2⟩
end
theorem wp_region_mixE {P : Program} {Q : Exit → Act → World → Prop} {id : Nat} {a : Act} {w : World} (l : List Oper) (n m : Nat) (hm : P.follows .mixedOrders = true) (hB : mixB l n m = true)
    (h : wpStl P l.toArray (fun w'' => Ext w w'') (fun a' => wpMid P l.toArray (fun w'' => Ext w w'') (fun a w => wpList P l.toArray Q (l.drop m) a w) ((l.drop n).take (m - n)) a' w.drew) (l.take n) a) : (Code.region id l.toArray true).wp P Q a w :=
  wp_region_mix l n m hm hB _ (Fr.refl _ _).drew h
end Go.Proofs.YtalbiepdkaldmaaGreatDoor
