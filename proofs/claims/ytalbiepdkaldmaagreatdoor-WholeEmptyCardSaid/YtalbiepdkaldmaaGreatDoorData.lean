/- The program's data as plain data: forms, values, DER things; how each lies in memory. -/
import Derived.Test.YtalbiepdkaldmaaGreatDoorBase
set_option linter.unusedVariables false
set_option linter.unusedSimpArgs false
namespace Go.Proofs.YtalbiepdkaldmaaGreatDoor
open Go.RowKit

inductive Form where | mk (kind size lo hi step : Nat) (parts : List Form)
inductive Val where | mk (n : Nat) (b : Bytes) (l : List Val)
inductive Node where | mk (cls tag : Nat) (made : Bool) (b : Bytes) (l : List Node)
namespace Form
def kind : Form → Nat | .mk k _ _ _ _ _ => k
def size : Form → Nat | .mk _ s _ _ _ _ => s
def lo : Form → Nat | .mk _ _ l _ _ _ => l
def hi : Form → Nat | .mk _ _ _ h _ _ => h
def step : Form → Nat | .mk _ _ _ _ s _ => s
def parts : Form → List Form | .mk _ _ _ _ _ p => p
def zero : Form := .mk 0 0 0 0 0 []
end Form
namespace Val
def n : Val → Nat | .mk n _ _ => n
def b : Val → Bytes | .mk _ b _ => b
def l : Val → List Val | .mk _ _ l => l
def zero : Val := .mk 0 [] []
end Val

/-! ### A kind nested in itself -/
section
variable {α : Type}
def upto (sz : Nat) (F : Rd α → Rd α) : Nat → Rd α
  | 0 => { sz := sz, K := fun _ _ _ _ => False, len := fun h => h.elim, one := fun h => h.elim, mono := fun _ h => h, move := fun _ h => h }
  | n + 1 => F (upto sz F n)
end
/-- The cells of a form, out of how its parts lie. -/
def formF (d : Rd Form) : Rd Form where
  sz := 6
  K := fun w ok f cs => ∃ A n c, cs = [.int .i64 f.kind, .int .i64 f.size, .int .i64 f.lo, .int .i64 f.hi, .int .i64 f.step, .slice A n c] ∧ SlC d w ok A n c f.parts
  len := by rintro w ok x cs ⟨A, n, c, rfl, _⟩; rfl
  one := by rintro w ok x cs ⟨A, n, c, rfl, _⟩ u hu; simp at hu; rcases hu with rfl | rfl | rfl | rfl | rfl | rfl <;> rfl
  mono := by rintro w ok ok' x cs hm ⟨A, n, c, rfl, h⟩; exact ⟨A, n, c, rfl, h.mono hm⟩
  move := by rintro w w' ok x cs hm ⟨A, n, c, rfl, h⟩; exact ⟨A, n, c, rfl, h.move hm⟩
def valF (d : Rd Val) : Rd Val where
  sz := 3
  K := fun w ok v cs => ∃ A n c A' n' c', cs = [.int .u64 v.n, .slice A n c, .slice A' n' c'] ∧ v.n < 18446744073709551616 ∧ SlC Rd.u8 w ok A n c v.b ∧ SlC d w ok A' n' c' v.l
  len := by rintro w ok x cs ⟨A, n, c, A', n', c', rfl, _⟩; rfl
  one := by rintro w ok x cs ⟨A, n, c, A', n', c', rfl, _⟩ u hu; simp at hu; rcases hu with rfl | rfl | rfl <;> rfl
  mono := by rintro w ok ok' x cs hm ⟨A, n, c, A', n', c', rfl, h1, h2, h3⟩; exact ⟨A, n, c, A', n', c', rfl, h1, h2.mono hm, h3.mono hm⟩
  move := by rintro w w' ok x cs hm ⟨A, n, c, A', n', c', rfl, h1, h2, h3⟩; exact ⟨A, n, c, A', n', c', rfl, h1, h2.move hm, h3.move hm⟩
theorem SlC.imp {α : Type} {d d' : Rd α} {w : World} {ok : Nat → Prop} {A : Option Addr} {n c : Nat} {xs : List α} (h : SlC d w ok A n c xs) (hs : d'.sz = d.sz) (hK : ∀ x cs, x ∈ xs → d.K w ok x cs → d'.K w ok x cs) : SlC d' w ok A n c xs := by
  obtain ⟨h1, h2, h3, h4, h5⟩ := h
  refine ⟨h1, h2, h3, h4, fun j x hx => ?_⟩
  obtain ⟨cs, hc, hk⟩ := h5 j x hx
  exact ⟨cs, by rw [hs]; exact hc, hK x cs (List.mem_of_getElem? hx) hk⟩
/-- Nested for some depth. -/
def fixR {α : Type} (sz : Nat) (F : Rd α → Rd α) (hsz : ∀ n, (upto sz F n).sz = sz) : Rd α where
  sz := sz
  K := fun w ok x cs => ∃ n, (upto sz F n).K w ok x cs
  len := by rintro w ok x cs ⟨n, h⟩; rw [(upto sz F n).len h, hsz]
  one := by rintro w ok x cs ⟨n, h⟩; exact (upto sz F n).one h
  mono := by rintro w ok ok' x cs hm ⟨n, h⟩; exact ⟨n, (upto sz F n).mono hm h⟩
  move := by rintro w w' ok x cs hm ⟨n, h⟩; exact ⟨n, (upto sz F n).move hm h⟩
section
variable {α : Type} {sz : Nat} {F : Rd α → Rd α} {hsz : ∀ n, (upto sz F n).sz = sz} {w : World} {ok : Nat → Prop}
/-- More depth is more. -/
theorem upto_mono (hF : ∀ d d' : Rd α, d'.sz = d.sz → (∀ x cs, d.K w ok x cs → d'.K w ok x cs) → ∀ x cs, (F d).K w ok x cs → (F d').K w ok x cs) (hsz : ∀ n, (upto sz F n).sz = sz) :
    ∀ n m, n ≤ m → ∀ x cs, (upto sz F n).K w ok x cs → (upto sz F m).K w ok x cs := by
  intro n
  induction n with
  | zero => intro m _ x cs h; exact h.elim
  | succ n ih =>
    intro m hm x cs h
    obtain ⟨k, rfl⟩ : ∃ k, m = k + 1 := ⟨m - 1, by omega⟩
    exact hF (upto sz F n) (upto sz F k) (by rw [hsz, hsz]) (ih k (by omega)) x cs h
theorem sl_fix_iff (hF : ∀ d d' : Rd α, d'.sz = d.sz → (∀ x cs, d.K w ok x cs → d'.K w ok x cs) → ∀ x cs, (F d).K w ok x cs → (F d').K w ok x cs) {A : Option Addr} {n c : Nat} {xs : List α} :
    SlC (fixR sz F hsz) w ok A n c xs ↔ ∃ m, SlC (upto sz F m) w ok A n c xs := by
  constructor
  · rintro ⟨h1, h2, h3, h4, h5⟩
    have : ∃ m, ∀ j x, xs[j]? = some x → ∃ cs, CellsAt w ok A (j * sz) cs ∧ (upto sz F m).K w ok x cs := by
      clear h1 h2
      have key : ∀ k, ∃ m, ∀ j x, j < k → xs[j]? = some x → ∃ cs, CellsAt w ok A (j * sz) cs ∧ (upto sz F m).K w ok x cs := by
        intro k
        induction k with
        | zero => exact ⟨0, fun j x hj => absurd hj (Nat.not_lt_zero _)⟩
        | succ k ih =>
          obtain ⟨m, hm⟩ := ih
          cases hk : xs[k]? with
          | none => exact ⟨m, fun j x hj hx => by
              rcases Nat.lt_succ_iff_lt_or_eq.1 hj with h | rfl
              · exact hm j x h hx
              · rw [hk] at hx; simp at hx⟩
          | some y =>
            obtain ⟨cs, hc, m', hm'⟩ := h5 k y hk
            refine ⟨max m m', fun j x hj hx => ?_⟩
            rcases Nat.lt_succ_iff_lt_or_eq.1 hj with h | rfl
            · obtain ⟨cs, h1, h2⟩ := hm j x h hx
              exact ⟨cs, h1, upto_mono hF hsz m _ (Nat.le_max_left _ _) _ _ h2⟩
            · rw [hk] at hx
              injection hx with hx
              subst hx
              exact ⟨cs, hc, upto_mono hF hsz m' _ (Nat.le_max_right _ _) _ _ hm'⟩
      obtain ⟨m, hm⟩ := key xs.length
      exact ⟨m, fun j x hx => hm j x (List.getElem?_eq_some_iff.1 hx).1 hx⟩
    obtain ⟨m, hm⟩ := this
    exact ⟨m, h1, h2, h3, h4, fun j x hx => by rw [hsz]; exact hm j x hx⟩
  · rintro ⟨m, h⟩
    exact h.imp (by rw [hsz]; rfl) (fun x cs _ hk => ⟨m, hk⟩)
end
theorem formF_sz : ∀ n, (upto 6 formF n).sz = 6 := by intro n; cases n <;> rfl
theorem valF_sz : ∀ n, (upto 3 valF n).sz = 3 := by intro n; cases n <;> rfl
def Rd.form : Rd Form := fixR 6 formF formF_sz
def Rd.val : Rd Val := fixR 3 valF valF_sz
theorem formF_mono {w : World} {ok : Nat → Prop} (d d' : Rd Form) (hs : d'.sz = d.sz) (h : ∀ x cs, d.K w ok x cs → d'.K w ok x cs) (x : Form) (cs : List Value) : (formF d).K w ok x cs → (formF d').K w ok x cs := by
  rintro ⟨A, n, c, rfl, hk⟩
  exact ⟨A, n, c, rfl, hk.imp hs (fun x cs _ => h x cs)⟩
theorem valF_mono {w : World} {ok : Nat → Prop} (d d' : Rd Val) (hs : d'.sz = d.sz) (h : ∀ x cs, d.K w ok x cs → d'.K w ok x cs) (x : Val) (cs : List Value) : (valF d).K w ok x cs → (valF d').K w ok x cs := by
  rintro ⟨A, n, c, A', n', c', rfl, h1, h2, hk⟩
  exact ⟨A, n, c, A', n', c', rfl, h1, h2, hk.imp hs (fun x cs _ => h x cs)⟩
theorem Rd.form_iff {w : World} {ok : Nat → Prop} {f : Form} {cs : List Value} : Rd.form.K w ok f cs ↔ (formF Rd.form).K w ok f cs := by
  constructor
  · rintro ⟨n, h⟩
    cases n with
    | zero => exact h.elim
    | succ n => exact formF_mono (upto 6 formF n) Rd.form (by rw [formF_sz]; rfl) (fun x cs h => ⟨n, h⟩) _ _ h
  · rintro ⟨A, n, c, rfl, h⟩
    obtain ⟨m, hm⟩ := (sl_fix_iff formF_mono).1 h
    exact ⟨m + 1, A, n, c, rfl, hm⟩
theorem Rd.val_iff {w : World} {ok : Nat → Prop} {f : Val} {cs : List Value} : Rd.val.K w ok f cs ↔ (valF Rd.val).K w ok f cs := by
  constructor
  · rintro ⟨n, h⟩
    cases n with
    | zero => exact h.elim
    | succ n => exact valF_mono (upto 3 valF n) Rd.val (by rw [valF_sz]; rfl) (fun x cs h => ⟨n, h⟩) _ _ h
  · rintro ⟨A, n, c, A', n', c', rfl, h1, h2, h⟩
    obtain ⟨m, hm⟩ := (sl_fix_iff valF_mono).1 h
    exact ⟨m + 1, A, n, c, A', n', c', rfl, h1, h2, hm⟩

/-- A form as a value that is handed on. -/
def IsForm (w : World) (ok : Nat → Prop) (A : Option Addr) (n c : Nat) (f : Form) : Prop := SlC Rd.form w ok A n c f.parts
abbrev formV (A : Option Addr) (n c : Nat) (f : Form) : Value := .agg #[.int .i64 f.kind, .int .i64 f.size, .int .i64 f.lo, .int .i64 f.hi, .int .i64 f.step, .slice A n c]
end Go.Proofs.YtalbiepdkaldmaaGreatDoor
