/- A region that draws its order: readers, named by their places, are taken first; then the others, in their forced order. As Mix, but the readers need not stand first in the text. -/
import Derived.Test.YtalbiepdkaldmaaGreatDoorMix
import Derived.Orders
import Derived.Tactics
import Derived.Deep.QuietTactic
set_option linter.unusedVariables false
set_option linter.unusedSimpArgs false
namespace Go.Proofs.YtalbiepdkaldmaaGreatDoor
section
variable {P : Program} {Q : Exit → Act → World → Prop} {C : World → Prop}
def goodR (ops : Array Oper) (m : Nat) : List Nat → Array Bool → Bool
  | [], _ => true
  | k :: r, L => (Region.ready .any ops L).contains k && Region.free .any ops L k && decide (k < m) && goodR ops m r (L.setIfInBounds k true)
def goodM (ops : Array Oper) (m : Nat) : List Nat → Array Bool → Bool
  | [], L => (List.range ops.size).all fun k => L.getD k false == decide (k < m)
  | k :: r, L => Region.ready .any ops L == [k] && decide (k < m) && goodM ops m r (L.setIfInBounds k true)
def marked (rs : List Nat) (L : Array Bool) : Array Bool := rs.foldl (fun L k => L.setIfInBounds k true) L
def opsAt (l : List Oper) (rs : List Nat) : List Oper := rs.filterMap fun k => l[k]?
def mixL (l : List Oper) (rs ms : List Nat) (m : Nat) : Bool :=
  Region.noSelect l.toArray && backB l && tailB l m && decide (rs.length + ms.length = m) && decide (m ≤ l.length) &&
  goodR l.toArray m rs (Array.replicate l.length false) && goodM l.toArray m ms (marked rs (Array.replicate l.length false))
theorem marked_size (rs : List Nat) (L : Array Bool) : (marked rs L).size = L.size := by
  induction rs generalizing L with
  | nil => rfl
  | cons k r ih => show (marked r (L.setIfInBounds k true)).size = _; rw [ih]; simp
theorem not_done {l : List Oper} {m k : Nat} {L : Array Bool} (hsz : L.size = l.length) (hr : k ∈ Region.ready .any l.toArray L) (hk : k < m) : ¬ done m L = true := by
  intro hd
  have h0 := ((ready_iff l L hsz k).1 hr)
  have h1 := List.all_eq_true.1 hd k (List.mem_range.2 hk)
  have hil := h0.1
  have h2 := h0.2.1
  simp [Array.getD, hsz, hil] at h1 h2
  rw [h2] at h1
  exact absurd h1 (by simp)
theorem wp_region_mixL {id : Nat} {a : Act} {w : World} (l : List Oper) (rs ms : List Nat) (m : Nat) (hm : P.follows .mixedOrders = true) (hB : mixL l rs ms m = true) (C : World → Prop) (hC : C w.drew)
    (h : wpStl P l.toArray C (fun a' => wpMid P l.toArray C (fun a w => wpList P l.toArray Q (l.drop m) a w) (opsAt l ms) a' w.drew) (opsAt l rs) a) : (Code.region id l.toArray true).wp P Q a w := by
  simp only [mixL, Bool.and_eq_true, decide_eq_true_eq] at hB
  obtain ⟨⟨⟨⟨⟨⟨hsel, hback⟩, htail⟩, hlen⟩, hml⟩, hpre⟩, hmid⟩ := hB
  have hsp := Region.noSelect_spec hsel
  have A : ∀ (ms : List Nat) (L : Array Bool) (a : Act) (w : World) (fuel : Nat), L.size = l.length → (∀ i j, L.getD i false = true → dep l i j = true → L.getD j false = true) → goodM l.toArray m ms L = true → fuel = l.length - m + ms.length →
      wpMid P l.toArray C (fun a w => wpList P l.toArray Q (l.drop m) a w) (opsAt l ms) a w → wpAnyC P l C m Q fuel L a w := by
    intro ms
    induction ms with
    | nil =>
      intro L a w fuel hsz hcl hg hf h
      have hg : ∀ i, i < l.length → L.getD i false = decide (i < m) := fun i hi => by
        have := List.all_eq_true.1 hg i (List.mem_range.2 (by simpa using hi))
        simpa using this
      have hd : done m L = true := by
        unfold done
        rw [List.all_eq_true]
        intro i hi
        have := List.mem_range.1 hi
        rw [hg i (by omega)]
        simpa using this
      have hw : wpAny P .any l.toArray Q (l.length - m) L a w :=
        wp_tail l m hback htail (l.length - m) m _ a w (Nat.le_refl _) (by omega) hsz (fun i hi => by rw [hg i hi]; simp) (by simpa [wpMid, opsAt] using h)
      have hf : fuel = l.length - m := by simpa using hf
      rw [hf]
      cases hf : l.length - m with
      | zero => rw [hf] at hw; exact ⟨hd, hw⟩
      | succ f => rw [hf] at hw; unfold wpAnyC; rw [if_pos hd]; exact hw
    | cons k r ih =>
      intro L a w fuel hsz hcl hg hf h
      simp only [goodM, Bool.and_eq_true, beq_iff_eq, decide_eq_true_eq] at hg
      obtain ⟨⟨hr, hkm⟩, hg⟩ := hg
      have hkl : k < l.length := by omega
      have ho : l[k]? = some l[k] := List.getElem?_eq_getElem hkl
      have ho' : l.toArray[k]? = some l[k] := by simp [ho]
      have hop : opsAt l (k :: r) = l[k] :: opsAt l r := by simp [opsAt, List.filterMap_cons, ho]
      rw [hop] at h
      have e : fuel = (l.length - m + r.length) + 1 := by simp at hf; omega
      have hkr : k ∈ Region.ready .any l.toArray L := by rw [hr]; simp
      rw [e]
      unfold wpAnyC
      rw [if_neg (not_done hsz hkr hkm), hr]
      refine ⟨by simp, fun i hi => ?_⟩
      have hi : i = k := by simpa using hi
      subst hi
      have hcl' := closed_set hsz hcl hkr
      unfold wpOp
      simp only [ho']
      simp only [wpMid] at h
      split
      · rename_i hw
        rw [if_pos hw] at h
        exact .inl (Oper.wp_mono (fun a' w' h' => ⟨h'.1, ih _ a' w' _ (by simpa using hsz) hcl' hg rfl h'.2⟩) h)
      · rename_i hw
        rw [if_neg hw] at h
        exact ⟨h.1, ih _ _ _ _ (by simpa using hsz) hcl' hg rfl h.2⟩
  have B : ∀ (rs : List Nat) (L : Array Bool) (a : Act) (w : World) (fuel : Nat), L.size = l.length → (∀ i j, L.getD i false = true → dep l i j = true → L.getD j false = true) → goodR l.toArray m rs L = true → goodM l.toArray m ms (marked rs L) = true → fuel = l.length - m + ms.length + rs.length → C w →
      wpStl P l.toArray C (fun a' => wpMid P l.toArray C (fun a w => wpList P l.toArray Q (l.drop m) a w) (opsAt l ms) a' w) (opsAt l rs) a → wpAnyC P l C m Q fuel L a w := by
    intro rs
    induction rs with
    | nil =>
      intro L a w fuel hsz hcl _ hg hf hC h
      exact A ms L a w fuel hsz hcl hg (by simpa using hf) (by simpa [wpStl, opsAt] using h)
    | cons k r ih =>
      intro L a w fuel hsz hcl hgr hg hf hC h
      simp only [goodR, Bool.and_eq_true, decide_eq_true_eq] at hgr
      obtain ⟨⟨⟨hr, hfr⟩, hkm⟩, hgr⟩ := hgr
      have hkl : k < l.length := by omega
      have ho : l[k]? = some l[k] := List.getElem?_eq_getElem hkl
      have ho' : l.toArray[k]? = some l[k] := by simp [ho]
      have hop : opsAt l (k :: r) = l[k] :: opsAt l r := by simp [opsAt, List.filterMap_cons, ho]
      rw [hop] at h
      obtain ⟨v, hy, hn⟩ := h
      have e : fuel = (l.length - m + ms.length + r.length) + 1 := by simp at hf; omega
      have hkr : k ∈ Region.ready .any l.toArray L := by simpa using hr
      rw [e]
      refine wpAnyC_first htail ho' hkm hsp _ L a w hsz hcl hC (Region.free_spec ho' hfr) hkr hy ?_
      exact ih _ _ w _ (by simpa using hsz) (closed_set hsz hcl hkr) hgr hg rfl hC hn
  refine wp_region_any hm ?_
  have h0 : ∀ i, (Array.replicate l.length false).getD i false = false := fun i => by simp [Array.getD]
  have := wpAny_of_C _ _ _ _ (B rs (Array.replicate l.length false) a w.drew l.length (by simp) (fun i j hi => by rw [h0] at hi; exact absurd hi (by simp)) hpre hmid (by omega) hC h)
  simpa using this
end
end Go.Proofs.YtalbiepdkaldmaaGreatDoor
