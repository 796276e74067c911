/- message.Read, whole, over any asking; and of a key update. -/
import Derived.Test.YtalbiepdkaldmaaGreatDoorProg
import Derived.Test.YtalbiepdkaldmaaGreatDoorMsg4
set_option linter.unusedVariables false
set_option linter.unusedSimpArgs false
namespace Go.Proofs.YtalbiepdkaldmaaGreatDoor
open Go.RowKit
theorem message_Read (ask : Nat → Val → Nat → Bytes → Option (Nat × Nat)) (B : Option Addr) (m cb : Nat) (l : Bytes) (p : Nat) (ok : Nat → Prop) (w : World) (hb : SlC Rd.u8 w ok B m cb l) (hok : ∀ b, ok b → b < w.heap.size) (hp : p + l.length ≤ 4611686018427387904) (hm : l.length ≤ 1099511627776)
    (hla : Laid w) (hask : AskSpec ask (num (l.take 1))) : Calls Tryz.prog 9 #[.slice B m cb, .int .i64 p] w (MsgPost l p (msgRead ask l p) w) := by
  by_cases hl : l.length < 4
  · exact message_short B m cb l p ok w ask hb hok hp hl
  · obtain ⟨k, n, l1, l4, hh⟩ := head_of l p ok (by omega)
    rw [msgRead_head hh]
    cases hf : Form.message k with
    | none => exact message_none' B m cb l p ok w hh hb hok hp hf
    | some f =>
      simp only
      by_cases h1 : l4.length < n
      · rw [if_pos h1]
        exact message_fewer B m cb l p ok w hh f hb hok hp hf h1
      · rw [if_neg h1]
        by_cases h2 : n < l4.length
        · rw [if_pos h2]
          exact message_more B m cb l p ok w hh f hb hok hp hf h2
        · rw [if_neg h2]
          exact message_body B m cb l p ok w ask hh f hb hok hp hm hla hf (by omega) (by rw [← hh.hk]; exact hask)
/-- What is asked of a key update. -/
def ask24 (k : Nat) (v : Val) (p : Nat) (_ : Bytes) : Option (Nat × Nat) := if k = 24 then (if 1 < v.n then some (p, 3) else none) else none
theorem ask24_spec : AskSpec ask24 24 := by
  intro v x A n c A' n' c' p B m cb l w _ hK _ _ _ _
  obtain ⟨A2, n2, c2, A3, n3, c3, hcs, _⟩ := Rd.val_iff.1 hK
  have hx : x = v.n := by
    injection hcs with h1 _
    injection h1 with _ h1
    omega
  have := ask_24 x A n c A' n' c' p B m cb w
  rw [hx] at this ⊢
  exact this
theorem ask_row_none (ask : Nat → Val → Nat → Bytes → Option (Nat × Nat)) (k : Nat) (h : (k : Int) ∉ ([1, 2, 4, 8, 11, 13, 24] : List Int)) (ha : ∀ v p l, ask k v p l = none) : AskSpec ask k := by
  intro v x A n c A' n' c' p B m cb l w _ _ _ _ _ _
  rw [ha]
  exact ask_none k h x A n c A' n' c' p B m cb w
/-- A type that has no form is asked nothing. -/
theorem ask_absent (ask : Nat → Val → Nat → Bytes → Option (Nat × Nat)) (k : Nat) (h : Form.message k = none) : AskSpec ask k := by
  intro v x A n c A' n' c' p B m cb l w _ _ _ ⟨f, q, hf, _⟩ _ _
  rw [h] at hf
  cases hf
theorem key_update (p : Nat) : msgRead ask24 [24, 0, 0, 1, 1] p = .ok (24, .mk 1 [] []) := by
  have h1 : readAll (Form.num 1) [1] (p + 4) false = .ok (.mk 1 [] [], p + 4 + 1) := by
    simp [readAll, Form.read, num]
  have h2 : Form.message (num ([24] : Bytes)) = some (Form.num 1) := by rfl
  have h3 : num ([0, 0, 1] : Bytes) = 1 := by rfl
  simp [msgRead, h2, h3, h1]
  simp [ask24, Val.n]
  rfl
end Go.Proofs.YtalbiepdkaldmaaGreatDoor
