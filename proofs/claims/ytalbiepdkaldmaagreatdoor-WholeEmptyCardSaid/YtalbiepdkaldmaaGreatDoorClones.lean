/- bytes.Clone, slices.Clone of segments and of records; how segments, records and found messages lie. -/
import Derived.Test.YtalbiepdkaldmaaGreatDoorProg
import Derived.Test.YtalbiepdkaldmaaGreatDoorHand
import Derived.Test.YtalbiepdkaldmaaGreatDoorLayout
set_option linter.unusedVariables false
set_option linter.unusedSimpArgs false
namespace Go.Proofs.YtalbiepdkaldmaaGreatDoor
open Go.RowKit
structure Rec where
  kind : Nat
  version : Nat
  length : Nat
deriving DecidableEq
def Rec.vals (r : Rec) : List Value := [.int .i64 r.kind, .int .i64 r.version, .int .i64 r.length]
def Rd.rcd : Rd Rec where
  sz := 3
  K := fun _ _ x cs => cs = x.vals
  len := fun h => by rw [h]; rfl
  one := fun h u hu => by
    rw [h] at hu
    simp [Rec.vals] at hu
    rcases hu with rfl | rfl | rfl <;> rfl
  mono := fun _ h => h
  move := fun _ h => h
theorem app_rcd : AppT Tryz.prog 53 90 3 24 := AppT.of (z := .agg #[.int .i64 0, .int .i64 0, .int .i64 0]) Tryz.underlying53 (by kernel_rfl) rfl (by decide) (by decide)
/-- A message that is found: its bytes, and its segments. -/
def Rd.found : Rd (Bytes × List (Nat × Nat)) where
  sz := 2
  K := fun w ok x cs => ∃ A n c B m d, cs = [.slice A n c, .slice B m d] ∧ SlC Rd.u8 w ok A n c x.1 ∧ SlC Rd.seg w ok B m d x.2
  len := fun h => by obtain ⟨A, n, c, B, m, d, rfl, _⟩ := h; rfl
  one := fun h u hu => by
    obtain ⟨A, n, c, B, m, d, rfl, _⟩ := h
    simp at hu
    rcases hu with rfl | rfl <;> rfl
  mono := fun hm h => by
    obtain ⟨A, n, c, B, m, d, e, h1, h2⟩ := h
    exact ⟨A, n, c, B, m, d, e, h1.mono hm, h2.mono hm⟩
  move := fun hm h => by
    obtain ⟨A, n, c, B, m, d, e, h1, h2⟩ := h
    exact ⟨A, n, c, B, m, d, e, h1.move hm, h2.move hm⟩
theorem app_found : AppT Tryz.prog 193 143 2 48 := AppT.of (z := .agg #[.slice none 0 0, .slice none 0 0]) Tryz.underlying193 (by kernel_rfl) rfl (by decide) (by decide)
set_option maxHeartbeats 400000 in
theorem clone_u8 (A : Option Addr) (n c : Nat) (xs : List UInt8) (ok : Nat → Prop) (w : World) (h : SlC Rd.u8 w ok A n c xs) (hn : n ≤ 1000000000) :
    Calls Tryz.prog 120 #[.slice A n c] w (CloneRet Rd.u8 5 n xs ok w) := by
  cases A with
  | none =>
    have hc := h.zero rfl
    subst hc
    have hn0 : n = 0 := by have := h.le; omega
    subst hn0
    obtain rfl : xs = [] := List.eq_nil_of_length_eq_zero h.len
    have e0 := fun w => Lib.run_eql_slice_nil (P := Tryz.prog) w 22 _ none 0 0 0 0 Tryz.underlying22
    go_enter Tryz.func120, Tryz.ntmps120
    go_wp2
    refine bodyPost_ret (v := .slice none 0 0) (by simp only [results, Tryz.results120]; go_simp) rfl ?_
    exact ⟨_, _, rfl, OwnR.nil _ _ _ _ _, Fr.refl _ _⟩
  | some ad =>
    have e0 := fun w => Lib.run_eql_slice_nil (P := Tryz.prog) w 22 _ (some ad) n c 0 0 Tryz.underlying22
    go_enter Tryz.func120, Tryz.ntmps120
    go_wp2_with (at_builtin; refine wpList_append_rows (v := .slice (some ⟨w.heap.size, 0, none⟩) 0 0) rfl rfl app_u8 rfl (OwnR.lit0 Rd.u8 _ w w.heap.size (fun b => b < w.heap.size ∧ ok b) (Nat.le_refl _)) ?_ (h.ltok.ext ((Fr.refl _ _).alloc _)) rfl ?_ ?_ ?_)
    · intro k hk
      simp [Value.ownBlock] at hk
      omega
    · omega
    · simp
    · intro v' w' ho hg _
      obtain ⟨A', c', rfl, hs'⟩ := ho.sl
      go_wp2
      refine bodyPost_ret (v := .slice A' n c') (by simp only [results, Tryz.results120]; go_simp) rfl ?_
      exact ⟨_, _, rfl, ho, ((Fr.refl _ _).alloc _).grown hg (fun k hk => by simp [Value.ownBlock] at hk; omega)⟩
set_option maxHeartbeats 400000 in
theorem clone_seg (A : Option Addr) (n c : Nat) (xs : List (Nat × Nat)) (ok : Nat → Prop) (w : World) (h : SlC Rd.seg w ok A n c xs) (hn : n ≤ 1000000000) :
    Calls Tryz.prog 150 #[.slice A n c] w (CloneRet Rd.seg 230 n xs ok w) := by
  cases A with
  | none =>
    have hc := h.zero rfl
    subst hc
    have hn0 : n = 0 := by have := h.le; omega
    subst hn0
    obtain rfl : xs = [] := List.eq_nil_of_length_eq_zero h.len
    have e0 := fun w => Lib.run_eql_slice_nil (P := Tryz.prog) w 141 _ none 0 0 0 0 Tryz.underlying141
    go_enter Tryz.func150, Tryz.ntmps150
    go_wp2
    refine bodyPost_ret (v := .slice none 0 0) (by simp only [results, Tryz.results150]; go_simp) rfl ?_
    exact ⟨_, _, rfl, OwnR.nil _ _ _ _ _, Fr.refl _ _⟩
  | some ad =>
    have e0 := fun w => Lib.run_eql_slice_nil (P := Tryz.prog) w 141 _ (some ad) n c 0 0 Tryz.underlying141
    go_enter Tryz.func150, Tryz.ntmps150
    go_wp2_with (at_builtin; refine wpList_append_rows (v := .slice (some ⟨w.heap.size, 0, none⟩) 0 0) rfl rfl app_seg rfl (OwnR.lit0 Rd.seg _ w w.heap.size (fun b => b < w.heap.size ∧ ok b) (Nat.le_refl _)) ?_ (h.ltok.ext ((Fr.refl _ _).alloc _)) rfl ?_ ?_ ?_)
    · intro k hk
      simp [Value.ownBlock] at hk
      omega
    · omega
    · simp
    · intro v' w' ho hg _
      obtain ⟨A', c', rfl, hs'⟩ := ho.sl
      go_wp2
      refine bodyPost_ret (v := .slice A' n c') (by simp only [results, Tryz.results150]; go_simp) rfl ?_
      exact ⟨_, _, rfl, ho, ((Fr.refl _ _).alloc _).grown hg (fun k hk => by simp [Value.ownBlock] at hk; omega)⟩
set_option maxHeartbeats 400000 in
theorem clone_rcd (A : Option Addr) (n c : Nat) (xs : List Rec) (ok : Nat → Prop) (w : World) (h : SlC Rd.rcd w ok A n c xs) (hn : n ≤ 1000000000) :
    Calls Tryz.prog 44 #[.slice A n c] w (CloneRet Rd.rcd 90 n xs ok w) := by
  cases A with
  | none =>
    have hc := h.zero rfl
    subst hc
    have hn0 : n = 0 := by have := h.le; omega
    subst hn0
    obtain rfl : xs = [] := List.eq_nil_of_length_eq_zero h.len
    have e0 := fun w => Lib.run_eql_slice_nil (P := Tryz.prog) w 53 _ none 0 0 0 0 Tryz.underlying53
    go_enter Tryz.func44, Tryz.ntmps44
    go_wp2
    refine bodyPost_ret (v := .slice none 0 0) (by simp only [results, Tryz.results44]; go_simp) rfl ?_
    exact ⟨_, _, rfl, OwnR.nil _ _ _ _ _, Fr.refl _ _⟩
  | some ad =>
    have e0 := fun w => Lib.run_eql_slice_nil (P := Tryz.prog) w 53 _ (some ad) n c 0 0 Tryz.underlying53
    go_enter Tryz.func44, Tryz.ntmps44
    go_wp2_with (at_builtin; refine wpList_append_rows (v := .slice (some ⟨w.heap.size, 0, none⟩) 0 0) rfl rfl app_rcd rfl (OwnR.lit0 Rd.rcd _ w w.heap.size (fun b => b < w.heap.size ∧ ok b) (Nat.le_refl _)) ?_ (h.ltok.ext ((Fr.refl _ _).alloc _)) rfl ?_ ?_ ?_)
    · intro k hk
      simp [Value.ownBlock] at hk
      omega
    · omega
    · simp
    · intro v' w' ho hg _
      obtain ⟨A', c', rfl, hs'⟩ := ho.sl
      go_wp2
      refine bodyPost_ret (v := .slice A' n c') (by simp only [results, Tryz.results44]; go_simp) rfl ?_
      exact ⟨_, _, rfl, ho, ((Fr.refl _ _).alloc _).grown hg (fun k hk => by simp [Value.ownBlock] at hk; omega)⟩
end Go.Proofs.YtalbiepdkaldmaaGreatDoor
