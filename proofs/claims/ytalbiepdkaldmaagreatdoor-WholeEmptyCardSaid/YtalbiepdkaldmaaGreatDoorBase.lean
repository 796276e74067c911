/- Words for all walks: what a call may have turned (Fr); how data lie in memory (Rd, SlC); steps that read elements. For any program. -/
import Derived.WalkKit
import Derived.WalkLawsBesides
import Derived.WalkSpells
import Derived.KernelRfl
import Derived.Below
import Derived.OwnWalk
import Derived.Lib.Hide
set_option linter.unusedVariables false
set_option linter.unusedSimpArgs false
namespace Go.Proofs.YtalbiepdkaldmaaGreatDoor
open Go.RowKit

/-! ### What a call may have turned -/
structure Fr (F : Nat → Prop) (w w' : World) : Prop where
  os : w'.os = w.os
  tape : w'.tape = w.tape
  output : w'.output = w.output
  size : w.heap.size ≤ w'.heap.size
  block : ∀ k, k < w.heap.size → ¬ F k → w'.heap[k]? = w.heap[k]?
def No : Nat → Prop := fun _ => False
def One (g : Nat) : Nat → Prop := fun k => k = g
def Two (g h : Nat) : Nat → Prop := fun k => k = g ∨ k = h
theorem One.self (g : Nat) : One g g := rfl
/-- Nothing that was there has turned. -/
abbrev Ext (w w' : World) : Prop := Fr No w w'

theorem Fr.refl (F : Nat → Prop) (w : World) : Fr F w w := ⟨rfl, rfl, rfl, Nat.le_refl _, fun _ _ _ => rfl⟩
theorem Fr.mono {F G : Nat → Prop} {w w' : World} (h : Fr F w w') (hF : ∀ k, k < w.heap.size → F k → G k) : Fr G w w' :=
  ⟨h.os, h.tape, h.output, h.size, fun k hk hn => h.block k hk (fun hf => hn (hF k hk hf))⟩
theorem Fr.trans {F : Nat → Prop} {a b c : World} (h : Fr F a b) (k : Fr F b c) : Fr F a c :=
  ⟨k.os.trans h.os, k.tape.trans h.tape, k.output.trans h.output, Nat.le_trans h.size k.size, fun i hi hn => (k.block i (Nat.lt_of_lt_of_le hi h.size) hn).trans (h.block i hi hn)⟩
/-- What the second may turn: also what is new since the first world. -/
theorem Fr.trans' {F G : Nat → Prop} {a b c : World} (h : Fr F a b) (k : Fr G b c) (hG : ∀ i, i < a.heap.size → G i → F i) : Fr F a c :=
  ⟨k.os.trans h.os, k.tape.trans h.tape, k.output.trans h.output, Nat.le_trans h.size k.size, fun i hi hn => (k.block i (Nat.lt_of_lt_of_le hi h.size) (fun g => hn (hG i hi g))).trans (h.block i hi hn)⟩
theorem Ext.any {F : Nat → Prop} {w w' : World} (h : Ext w w') : Fr F w w' := h.mono fun _ _ f => f.elim
theorem Ext.to {w w' : World} (h : Ext w w') : Below w.heap.size w w' := ⟨h.os, h.tape, h.output, h.size, fun k hk => h.block k hk (fun f => f)⟩
theorem Ext.of {w w' : World} (h : Below w.heap.size w w') : Ext w w' := ⟨h.os, h.tape, h.output, h.size, fun k hk _ => h.block k hk⟩
theorem Fr.alloc {F : Nat → Prop} {a w : World} (h : Fr F a w) (o : Obj) : Fr F a (w.alloc o) :=
  h.trans ⟨rfl, rfl, rfl, by simp, fun k hk _ => Below.heap_alloc _ _ _ (by omega)⟩
theorem Fr.drew {F : Nat → Prop} {a w : World} (h : Fr F a w) : Fr F a w.drew := ⟨h.os, h.tape, h.output, h.size, h.block⟩
theorem Fr.drewN {F : Nat → Prop} {a w : World} (h : Fr F a w) (n : Nat) : Fr F a (w.drewN n) := ⟨h.os, h.tape, h.output, h.size, h.block⟩
theorem Fr.setCell {F : Nat → Prop} {a w : World} (h : Fr F a w) {p : Addr} (hp : a.heap.size ≤ p.block ∨ F p.block) (u : Value) : Fr F a (w.setCell p u) :=
  ⟨h.os, h.tape, h.output, by simpa [World.setCell] using h.size, fun k hk hn => (Below.heap_setCell _ _ _ _ (by
    rintro rfl
    rcases hp with hp | hp
    · omega
    · exact hn hp)).trans (h.block k hk hn)⟩
theorem Fr.grown {F : Nat → Prop} {a w w' : World} {row : Option Nat} (h : Fr F a w) (hg : w.grownBy w' row) (hr : ∀ k, row = some k → a.heap.size ≤ k ∨ F k) : Fr F a w' :=
  ⟨hg.os.trans h.os, hg.tape.trans h.tape, hg.output.trans h.output, Nat.le_trans h.size hg.size, fun k hk hn => (hg.block k (Nat.lt_of_lt_of_le hk h.size) (fun e => by
    rcases hr k e.symm with h' | h'
    · omega
    · exact hn h')).trans (h.block k hk hn)⟩
theorem Fr.blk {F : Nat → Prop} {w w' : World} (h : Fr F w w') {g : Nat} {o : Obj} (hb : w.heap[g]? = some o) (hn : ¬ F g) : w'.heap[g]? = some o :=
  (h.block g (Array.getElem?_eq_some_iff.1 hb).1 hn).trans hb
theorem Ext.blk {w w' : World} (h : Ext w w') {g : Nat} {o : Obj} (hb : w.heap[g]? = some o) : w'.heap[g]? = some o := Fr.blk h hb (fun f => f)
theorem Ext.cells {w w' : World} (h : Ext w w') : ∀ b o, b < w.heap.size → w'.cell? ⟨b, o, none⟩ = w.cell? ⟨b, o, none⟩ := fun b o hb => World.cell?_of_block (a := ⟨b, o, none⟩) (h.block b hb (fun f => f))
theorem Ext.frozens {w w' : World} (h : Ext w w') : ∀ b o, b < w.heap.size → w'.frozen? ⟨b, o, none⟩ = w.frozen? ⟨b, o, none⟩ := fun b o hb => World.frozen?_of_block (a := ⟨b, o, none⟩) (h.block b hb (fun f => f))
theorem Fr.cells {F : Nat → Prop} {w w' : World} (h : Fr F w w') : ∀ b o, b < w.heap.size → ¬ F b → w'.cell? ⟨b, o, none⟩ = w.cell? ⟨b, o, none⟩ := fun b o hb hn => World.cell?_of_block (a := ⟨b, o, none⟩) (h.block b hb hn)
theorem Fr.frozens {F : Nat → Prop} {w w' : World} (h : Fr F w w') : ∀ b o, b < w.heap.size → ¬ F b → w'.frozen? ⟨b, o, none⟩ = w.frozen? ⟨b, o, none⟩ := fun b o hb hn => World.frozen?_of_block (a := ⟨b, o, none⟩) (h.block b hb hn)
theorem blk_lt {w : World} {g : Nat} {o : Obj} (hb : w.heap[g]? = some o) : g < w.heap.size := (Array.getElem?_eq_some_iff.1 hb).1
theorem blk_cell {w : World} {g t : Nat} {cs : Array Value} {fr : Nat × Nat} (hb : w.heap[g]? = some (.cells cs t fr)) (i : Nat) : w.cell? ⟨g, i, none⟩ = cs[i]? := by simp [World.cell?, hb]
theorem blk_unfrozen {w : World} {g t : Nat} {cs : Array Value} (hb : w.heap[g]? = some (.cells cs t (0, 0))) (i : Nat) : w.frozen? ⟨g, i, none⟩ = false := by simp [World.frozen?, hb]

theorem blk_set {w : World} {g t : Nat} {cs : Array Value} {fr : Nat × Nat} (hb : w.heap[g]? = some (.cells cs t fr)) (i : Nat) (u : Value) : (w.setCell ⟨g, i, none⟩ u).heap[g]? = some (.cells (cs.setIfInBounds i u) t fr) := by
  simp only [World.setCell, Array.getElem?_modify, if_true, hb, Option.map_some]; rfl
theorem blk_set_ne {w : World} {g g' : Nat} {o : Obj} (hb : w.heap[g]? = some o) (hne : g ≠ g') (i : Nat) (u : Value) : (w.setCell ⟨g', i, none⟩ u).heap[g]? = some o :=
  (Below.heap_setCell _ _ _ _ hne).trans hb
theorem blk_new (w : World) (o : Obj) : (w.alloc o).heap[w.heap.size]? = some o := by simpa using heap_alloc_new w o
theorem blk_new' (w : World) (o : Obj) (g : Nat) (h : g = w.heap.size) : (w.alloc o).heap[g]? = some o := by rw [h]; exact blk_new w o
theorem blk_alloc {w : World} {g : Nat} {o : Obj} (hb : w.heap[g]? = some o) (o' : Obj) : (w.alloc o').heap[g]? = some o := (Below.heap_alloc _ _ _ (blk_lt hb)).trans hb
theorem Fr.set {F : Nat → Prop} {a w : World} (h : Fr F a w) (g i : Nat) (u : Value) (hp : F g) : Fr F a (w.setCell ⟨g, i, none⟩ u) := h.setCell (.inr hp) u
theorem Fr.setNew {F : Nat → Prop} {a w : World} (h : Fr F a w) (g i : Nat) (u : Value) (hp : a.heap.size ≤ g) : Fr F a (w.setCell ⟨g, i, none⟩ u) := h.setCell (.inl hp) u

/-! ### Cells that lie in a row -/
def CellsAt (w : World) (ok : Nat → Prop) (A : Option Addr) (j : Nat) (cs : List Value) : Prop :=
  ∃ b o arr T fr, A = some ⟨b, o, none⟩ ∧ ok b ∧ w.heap[b]? = some (.cells arr T fr) ∧ ∀ i u, cs[i]? = some u → arr[o + j + i]? = some u
theorem CellsAt.move {w w' : World} {ok : Nat → Prop} {A : Option Addr} {j : Nat} {cs : List Value} (h : CellsAt w ok A j cs) (hm : ∀ b, ok b → b < w.heap.size → w'.heap[b]? = w.heap[b]?) : CellsAt w' ok A j cs := by
  obtain ⟨b, o, arr, T, fr, hA, hok, hb, hc⟩ := h
  exact ⟨b, o, arr, T, fr, hA, hok, (hm b hok (blk_lt hb)).trans hb, hc⟩
theorem CellsAt.mono {w : World} {ok ok' : Nat → Prop} {A : Option Addr} {j : Nat} {cs : List Value} (h : CellsAt w ok A j cs) (hm : ∀ b, ok b → ok' b) : CellsAt w ok' A j cs := by
  obtain ⟨b, o, arr, T, fr, hA, hok, hb, hc⟩ := h
  exact ⟨b, o, arr, T, fr, hA, hm b hok, hb, hc⟩

/-- How data of a kind lie in cells: ok says which blocks may bear what they lead to. -/
structure Rd (α : Type) where
  sz : Nat
  K : World → (Nat → Prop) → α → List Value → Prop
  len : ∀ {w ok x cs}, K w ok x cs → cs.length = sz
  one : ∀ {w ok x cs}, K w ok x cs → ∀ u ∈ cs, u.oneCell' = true
  mono : ∀ {w : World} {ok ok' : Nat → Prop} {x cs}, (∀ b, b < w.heap.size → ok b → ok' b) → K w ok x cs → K w ok' x cs
  move : ∀ {w w' : World} {ok : Nat → Prop} {x cs}, (∀ b, ok b → b < w.heap.size → w'.heap[b]? = w.heap[b]?) → K w ok x cs → K w' ok x cs

/-- A slice's elements, read. -/
def SlC {α : Type} (d : Rd α) (w : World) (ok : Nat → Prop) (A : Option Addr) (n c : Nat) (xs : List α) : Prop :=
  xs.length = n ∧ n ≤ c ∧ c ≤ maxLen ∧ (A = none → c = 0) ∧ ∀ j x, xs[j]? = some x → ∃ cs, CellsAt w ok A (j * d.sz) cs ∧ d.K w ok x cs
section
variable {α : Type} {d : Rd α} {w w' : World} {ok ok' : Nat → Prop} {A : Option Addr} {n c : Nat} {xs : List α}
theorem SlC.move (h : SlC d w ok A n c xs) (hm : ∀ b, ok b → b < w.heap.size → w'.heap[b]? = w.heap[b]?) : SlC d w' ok A n c xs := by
  obtain ⟨h1, h2, h3, h4, h5⟩ := h
  refine ⟨h1, h2, h3, h4, fun j x hx => ?_⟩
  obtain ⟨cs, h1, h2⟩ := h5 j x hx
  exact ⟨cs, h1.move hm, d.move hm h2⟩
theorem CellsAt.mono' {j : Nat} {cs : List Value} (h : CellsAt w ok A j cs) (hm : ∀ b, b < w.heap.size → ok b → ok' b) : CellsAt w ok' A j cs := by
  obtain ⟨b, o, arr, T, fr, hA, hok, hb, hc⟩ := h
  exact ⟨b, o, arr, T, fr, hA, hm b (blk_lt hb) hok, hb, hc⟩
theorem SlC.mono (h : SlC d w ok A n c xs) (hm : ∀ b, b < w.heap.size → ok b → ok' b) : SlC d w ok' A n c xs := by
  obtain ⟨h1, h2, h3, h4, h5⟩ := h
  refine ⟨h1, h2, h3, h4, fun j x hx => ?_⟩
  obtain ⟨cs, h1, h2⟩ := h5 j x hx
  exact ⟨cs, h1.mono' hm, d.mono hm h2⟩
theorem SlC.fr {F : Nat → Prop} (h : SlC d w ok A n c xs) (hf : Fr F w w') (hn : ∀ b, ok b → ¬ F b) : SlC d w' ok A n c xs := h.move fun b hb hlt => hf.block b hlt (hn b hb)
theorem SlC.ext (h : SlC d w ok A n c xs) (hf : Ext w w') : SlC d w' ok A n c xs := h.fr hf (fun _ _ f => f)
theorem SlC.nil (d : Rd α) (w : World) (ok : Nat → Prop) (A : Option Addr) (c : Nat) (hc : c ≤ maxLen) (hA : A = none → c = 0) : SlC d w ok A 0 c [] := ⟨rfl, Nat.zero_le _, hc, hA, fun j x hx => by simp at hx⟩
theorem SlC.len (h : SlC d w ok A n c xs) : xs.length = n := h.1
theorem SlC.le (h : SlC d w ok A n c xs) : n ≤ c := h.2.1
theorem SlC.max (h : SlC d w ok A n c xs) : c ≤ 9223372036854775807 := by have := h.2.2.1; simpa [maxLen] using this
theorem SlC.zero (h : SlC d w ok A n c xs) : A = none → c = 0 := h.2.2.2.1
theorem SlC.get (h : SlC d w ok A n c xs) {j : Nat} {x : α} (hx : xs[j]? = some x) : ∃ cs, CellsAt w ok A (j * d.sz) cs ∧ d.K w ok x cs := h.2.2.2.2 j x hx
theorem SlC.addr (h : SlC d w ok A n c xs) (hne : 0 < n) : ∃ b o, A = some ⟨b, o, none⟩ := by
  have hl := h.len
  obtain ⟨cs, ⟨b, o, arr, T, fr, hA, _⟩, _⟩ := h.get (List.getElem?_eq_getElem (show 0 < xs.length by omega))
  exact ⟨b, o, hA⟩
theorem addr_add (b o n : Nat) : (⟨b, o, none⟩ : Addr).add n = ⟨b, o + n, none⟩ := by unfold Addr.add; split <;> simp_all
theorem SlC.drop (h : SlC d w ok A n c xs) (i : Nat) (hi : i ≤ n) : SlC d w ok (if c = i then A else A.map (·.add (i * d.sz))) (n - i) (c - i) (xs.drop i) := by
  have hl := h.len
  have hle := h.le
  refine ⟨by rw [List.length_drop, hl], by omega, by have := h.2.2.1; omega, fun hA => ?_, fun j x hx => ?_⟩
  · have : A = none := by
      split at hA
      · exact hA
      · simpa using hA
    have := h.zero this
    omega
  rw [List.getElem?_drop] at hx
  obtain ⟨cs, ⟨b, o, arr, T, fr, hA, hok, hb, hc⟩, h2⟩ := h.get hx
  have hlt : i + j < xs.length := (List.getElem?_eq_some_iff.1 hx).1
  refine ⟨cs, ⟨b, o + i * d.sz, arr, T, fr, ?_, hok, hb, fun k u hu => ?_⟩, h2⟩
  · rw [if_neg (by omega), hA]
    simp only [Option.map_some, addr_add]
  · have := hc k u hu
    rw [Nat.add_mul] at this
    rw [← this]
    congr 1
    omega
theorem SlC.take (h : SlC d w ok A n c xs) (i c' : Nat) (hi : i ≤ n) (hc : i ≤ c') (hc' : c' ≤ c) : SlC d w ok A i c' (xs.take i) := by
  have hl := h.len
  refine ⟨by rw [List.length_take]; omega, hc, by have := h.2.2.1; omega, fun hA => by have := h.zero hA; omega, fun j x hx => ?_⟩
  rw [List.getElem?_take] at hx
  split at hx
  · exact h.get hx
  · simp at hx
end

namespace Rd
def scalar {α : Type} (enc : α → Value) (h1 : ∀ x, (enc x).oneCell' = true) : Rd α where
  sz := 1
  K := fun _ _ x cs => cs = [enc x]
  len := fun h => by rw [h]; rfl
  one := fun h u hu => by
    rw [h] at hu
    rw [List.mem_singleton.1 hu]
    exact h1 _
  mono := fun _ h => h
  move := fun _ h => h
def u8 : Rd UInt8 := scalar (fun x => .int .u8 (x.toNat : Int)) (fun _ => rfl)
def int : Rd Int := scalar (fun x => .int .i64 x) (fun _ => rfl)
def str : Rd (List UInt8) := scalar (fun x => .string ⟨x.toArray⟩) (fun _ => rfl)
def slice {α : Type} (d : Rd α) : Rd (List α) where
  sz := 1
  K := fun w ok xs cs => ∃ A n c, cs = [.slice A n c] ∧ SlC d w ok A n c xs
  len := by rintro w ok x cs ⟨A, n, c, rfl, _⟩; rfl
  one := by
    rintro w ok x cs ⟨A, n, c, rfl, _⟩ u hu
    rw [List.mem_singleton.1 hu]
    rfl
  mono := by rintro w ok ok' x cs hm ⟨A, n, c, rfl, h⟩; exact ⟨A, n, c, rfl, h.mono hm⟩
  move := by rintro w w' ok x cs hm ⟨A, n, c, rfl, h⟩; exact ⟨A, n, c, rfl, h.move hm⟩
end Rd
abbrev Bytes := List UInt8

/-! ### Reading an element -/
theorem scalar_cell {α : Type} {enc : α → Value} {h1 : ∀ x, (enc x).oneCell' = true} {w : World} {ok : Nat → Prop} {A : Option Addr} {n c : Nat} {xs : List α} (H : SlC (Rd.scalar enc h1) w ok A n c xs) {j : Nat} {x : α} (hx : xs[j]? = some x) :
    ∃ b o, A = some ⟨b, o, none⟩ ∧ ok b ∧ w.cell? ⟨b, o + j, none⟩ = some (enc x) := by
  obtain ⟨cs, ⟨b, o, arr, T, fr, hA, hok, hb, hc⟩, h2⟩ := H.get hx
  have h2 : cs = [enc x] := h2
  subst h2
  refine ⟨b, o, hA, hok, ?_⟩
  have := hc 0 (enc x) rfl
  simp only [Rd.scalar, Nat.mul_one, Nat.add_zero] at this
  simp [World.cell?, hb, this]
section
variable {P : Program} {ops : Array Oper} {rest : List Oper} {o : Oper} {a : Act} {w : World} {Q : Exit → Act → World → Prop}
/-- An element's address, and its cells. -/
theorem wpList_idx {α : Type} {d : Rd α} {ok : Nat → Prop} {A : Option Addr} {n c : Nat} {xs : List α} (H : SlC d w ok A n c xs) (hg : o.guard = none) (t : TypeId) (x i : Operand) (ho : o.op = .indexAddr t x i) (k : Int) (e : TypeId)
    (ht : P.underlying t = some (.slice e)) (hsz : (sizeOf e).run P w = .ok d.sz w) (hx : a.eval x = .slice A n c) (hk : a.eval i = .int .i64 k) (h0 : 0 ≤ k) (h1 : k < n)
    (h : ∀ b off cs y, ok b → xs[k.toNat]? = some y → d.K w ok y cs → (∀ j u, cs[j]? = some u → w.cell? ⟨b, off + j, none⟩ = some u) → wpList P ops Q rest (a.put o.dst (.pointer (some ⟨b, off, none⟩))) w) : wpList P ops Q (o :: rest) a w := by
  have hlt : k.toNat < xs.length := by have := H.len; omega
  obtain ⟨cs, ⟨b, off, arr, T, fr, rfl, hok, hb, hc⟩, h2⟩ := H.get (List.getElem?_eq_getElem hlt)
  refine wpList_plain hg fun K hK => ?_
  unfold Oper.wp execOp
  have he : P.elem t = e := by simp [Program.elem, ht]
  simp only [ho, hx, hk, Sem.run_bind, run_indexAt_slice (h := by rw [he]; exact ht), h0, h1, and_self, if_true, he, hsz, Result.andThen_ok, addr_add, Sem.run_pure]
  refine hK _ _ (h b (off + k.toNat * d.sz) cs _ hok (List.getElem?_eq_getElem hlt) h2 (fun j u hu => ?_))
  simp [World.cell?, hb, hc j u hu]

/-! ### append -/
/-- What append asks of the types. -/
def AppT (P : Program) (t e size bytes : Nat) : Prop := ∃ i z, P.underlying t = some (.slice e) ∧ P.info? e = some i ∧ i.zero = some z ∧ i.size = size ∧ i.bytes = bytes ∧ z.cells.size = size ∧ 0 < size ∧ 0 < bytes
theorem AppT.of {P : Program} {t e size bytes : Nat} {z : Value} (ht : P.underlying t = some (.slice e)) (h : (P.info? e).map (fun i => (i.zero, i.size, i.bytes)) = some (some z, size, bytes)) (hz : z.cells.size = size) (h0 : 0 < size) (h1 : 0 < bytes) : AppT P t e size bytes := by
  obtain ⟨i0, hi, hz0, hz1, hz2⟩ := info_parts h
  exact ⟨i0, z, ht, hi, hz0, hz1, hz2, hz, h0, h1⟩

theorem addr_off (b o j : Nat) : (⟨b, o, none⟩ : Addr).add j = ⟨b, o + j, none⟩ := addr_add b o j
theorem wp_append_sl {K : Act → World → Prop} {α : Type} {enc : α → Value} {h1 : ∀ x, (enc x).oneCell' = true} {s x : Operand} {t e bytes base : Nat} (ho : o.op = .call { callee := .builtin .append, args := #[s, x], argTypes := #[t, t] })
    (hT : AppT P t e 1 bytes) {v : Value} {n : Nat} {cells : List Value} (hs : a.eval s = v) (hown : w.ownsRow base e 1 v n cells) {ok : Nat → Prop} {A : Option Addr} {m c : Nat} {ys : List α} (H : SlC (Rd.scalar enc h1) w ok A m c ys)
    (hx : a.eval x = .slice A m c) (hb : (n + m) * bytes ≤ 140737488355328) (hbase : base ≤ w.heap.size)
    (h : ∀ v' w', w'.ownsRow base e 1 v' (n + m) (cells ++ ys.map enc) → w.grownBy w' v.ownBlock → K (a.put o.dst v') w') : o.wp P a w K Q := by
  obtain ⟨i, z, ht, hi, hz, hsz, hby, hzs, h0, hb0⟩ := hT
  have hn : n + m ≤ 140737488355328 := Nat.le_trans (Nat.le_mul_of_pos_right _ hb0) hb
  cases A with
  | none =>
    have hc := H.zero rfl
    subst hc
    have hm : m = 0 := by have := H.le; omega
    subst hm
    have hy : ys = [] := List.eq_nil_of_length_eq_zero H.len
    subst hy
    have hrun := run_append_owned_none (P := P) (w := w) base t o.type e i 1 ht hi v n cells hown
    unfold Oper.wp
    simp [execOp, ho, resolve, invoke, builtin, hs, hx, hrun, Result.andThen]
    exact h v w (by simpa using hown) ⟨rfl, rfl, rfl, Nat.le_refl _, fun _ _ _ => rfl⟩
  | some ad =>
    refine wp_append_own w s x t ho base e i z 1 bytes ht hi hz hsz hby hzs (by omega) v n cells hs hown ad m c (ys.map enc) hx (by simp [H.len]) (fun j u hu => ?_) (fun u hu => ?_) (by simp only [maxLen]; omega) hb hbase (fun v' w' h2 h3 _ => h v' w' h2 h3)
    · rw [List.getElem?_map] at hu
      cases hj : ys[j]? with
      | none => simp [hj] at hu
      | some y =>
        simp only [hj, Option.map_some, Option.some.injEq] at hu
        subst hu
        obtain ⟨b, off, hA, _, hc⟩ := scalar_cell H hj
        injection hA with hA
        subst hA
        rw [addr_off]
        exact hc
    · obtain ⟨y, _, rfl⟩ := List.mem_map.1 hu
      exact h1 y
theorem wpList_append_sl {α : Type} {enc : α → Value} {h1 : ∀ x, (enc x).oneCell' = true} (hg : o.guard = none) {s x : Operand} {t e bytes base : Nat} (ho : o.op = .call { callee := .builtin .append, args := #[s, x], argTypes := #[t, t] })
    (hT : AppT P t e 1 bytes) {v : Value} {n : Nat} {cells : List Value} (hs : a.eval s = v) (hown : w.ownsRow base e 1 v n cells) {ok : Nat → Prop} {A : Option Addr} {m c : Nat} {ys : List α} (H : SlC (Rd.scalar enc h1) w ok A m c ys)
    (hx : a.eval x = .slice A m c) (hb : (n + m) * bytes ≤ 140737488355328) (hbase : base ≤ w.heap.size)
    (h : ∀ v' w', w'.ownsRow base e 1 v' (n + m) (cells ++ ys.map enc) → w.grownBy w' v.ownBlock → wpList P ops Q rest (a.put o.dst v') w') : wpList P ops Q (o :: rest) a w :=
  wpList_plain hg fun _ hK => wp_append_sl ho hT hs hown H hx hb hbase fun v' w' h2 h3 => hK _ _ (h v' w' h2 h3)
end
/-- An own row of one-cell elements, read. -/
theorem own_sl {α : Type} {enc : α → Value} {h1 : ∀ x, (enc x).oneCell' = true} {w : World} {base e n : Nat} {v : Value} {xs : List α} (h : w.ownsRow base e 1 v n (xs.map enc)) :
    ∃ A c, v = .slice A n c ∧ SlC (Rd.scalar enc h1) w (fun b => base ≤ b) A n c xs := by
  have hl : xs.length = n := by have := h.1; simpa using this
  rcases h.2 with ⟨rfl, rfl⟩ | ⟨g, cap, cur, rfl, hb, hh, hn, hm, hcur, htake⟩
  · have : xs = [] := List.eq_nil_of_length_eq_zero hl
    subst this
    exact ⟨none, 0, rfl, SlC.nil _ _ _ _ _ (Nat.zero_le _) (fun _ => rfl)⟩
  · refine ⟨some ⟨g, 0, none⟩, cap, rfl, hl, hn, hm, fun h => by simp at h, fun j x hx => ⟨[enc x], ⟨g, 0, cur, e, (0, 0), rfl, hb, hh, fun i u hu => ?_⟩, rfl⟩⟩
    have hi : i = 0 ∧ u = enc x := by
      cases i with
      | zero => simp at hu; exact ⟨rfl, hu.symm⟩
      | succ i => simp at hu
    obtain ⟨rfl, rfl⟩ := hi
    have hj : (xs.map enc)[j]? = some (enc x) := by simp [hx]
    rw [← htake, List.getElem?_take] at hj
    split at hj
    · simpa [Rd.scalar] using hj
    · simp at hj
theorem own_nil (w : World) (base e size : Nat) : w.ownsRow base e size (.slice none 0 0) 0 [] := ⟨by simp, .inl ⟨rfl, rfl⟩⟩
theorem own_ge {w : World} {base e size n : Nat} {v : Value} {xs : List Value} (h : w.ownsRow base e size v n xs) : ∀ k, v.ownBlock = some k → base ≤ k := fun k hk => (h.lt k hk).1
section
variable {P : Program} {ops : Array Oper} {rest : List Oper} {o : Oper} {a : Act} {w : World} {Q : Exit → Act → World → Prop}
/-- 'append([]T(nil), xs...)'. -/
theorem wp_append_nil {K : Act → World → Prop} {α : Type} {enc : α → Value} {h1 : ∀ x, (enc x).oneCell' = true} {s x : Operand} {t e bytes : Nat} (ho : o.op = .call { callee := .builtin .append, args := #[s, x], argTypes := #[t, t] })
    (hT : AppT P t e 1 bytes) (hs : a.eval s = .slice none 0 0) {ok : Nat → Prop} {A : Option Addr} {m c : Nat} {ys : List α} (H : SlC (Rd.scalar enc h1) w ok A m c ys)
    (hx : a.eval x = .slice A m c) (hb : m * bytes ≤ 140737488355328)
    (h : ∀ A' c' w', SlC (Rd.scalar enc h1) w' (fun b => w.heap.size ≤ b) A' m c' ys → w'.ownsRow w.heap.size e 1 (.slice A' m c') m (ys.map enc) → Ext w w' → K (a.put o.dst (.slice A' m c')) w') : o.wp P a w K Q := by
  refine wp_append_sl (v := .slice none 0 0) ho hT hs (own_nil w w.heap.size e 1) H hx (by simpa using hb) (Nat.le_refl _) fun v' w' hown hg => ?_
  rw [Nat.zero_add, List.nil_append] at hown
  obtain ⟨A', c', rfl, hs'⟩ := own_sl (h1 := h1) hown
  exact h A' c' w' hs' hown ((Fr.refl _ _).grown hg (fun k hk => by simp [Value.ownBlock] at hk))
theorem wpList_append_nil {α : Type} {enc : α → Value} {h1 : ∀ x, (enc x).oneCell' = true} (hg : o.guard = none) {s x : Operand} {t e bytes : Nat} (ho : o.op = .call { callee := .builtin .append, args := #[s, x], argTypes := #[t, t] })
    (hT : AppT P t e 1 bytes) (hs : a.eval s = .slice none 0 0) {ok : Nat → Prop} {A : Option Addr} {m c : Nat} {ys : List α} (H : SlC (Rd.scalar enc h1) w ok A m c ys)
    (hx : a.eval x = .slice A m c) (hb : m * bytes ≤ 140737488355328)
    (h : ∀ A' c' w', SlC (Rd.scalar enc h1) w' (fun b => w.heap.size ≤ b) A' m c' ys → w'.ownsRow w.heap.size e 1 (.slice A' m c') m (ys.map enc) → Ext w w' → wpList P ops Q rest (a.put o.dst (.slice A' m c')) w') : wpList P ops Q (o :: rest) a w :=
  wpList_plain hg fun _ hK => wp_append_nil ho hT hs H hx hb fun A' c' w' h2 h3 h4 => hK _ _ (h A' c' w' h2 h3 h4)
end

/-! ### Rows of any elements -/
def Any : Nat → Prop := fun _ => True
theorem SlC.any {α : Type} {d : Rd α} {w : World} {ok : Nat → Prop} {A : Option Addr} {n c : Nat} {xs : List α} (h : SlC d w ok A n c xs) : SlC d w Any A n c xs := h.mono fun _ _ _ => trivial
theorem SlC.lt {α : Type} {d : Rd α} {w : World} {ok : Nat → Prop} {A : Option Addr} {n c : Nat} {xs : List α} (h : SlC d w ok A n c xs) : SlC d w (fun b => b < w.heap.size) A n c xs := h.mono fun _ hb _ => hb
theorem SlC.ltok {α : Type} {d : Rd α} {w : World} {ok : Nat → Prop} {A : Option Addr} {n c : Nat} {xs : List α} (h : SlC d w ok A n c xs) : SlC d w (fun b => b < w.heap.size ∧ ok b) A n c xs := h.mono fun _ hb ho => ⟨hb, ho⟩
theorem Rd.any {α : Type} (d : Rd α) {w : World} {ok : Nat → Prop} {x : α} {cs : List Value} (h : d.K w ok x cs) : d.K w Any x cs := d.mono (fun _ _ _ => trivial) h
theorem Rd.fr {α : Type} (d : Rd α) {F : Nat → Prop} {w w' : World} {ok : Nat → Prop} {x : α} {cs : List Value} (h : d.K w ok x cs) (hf : Fr F w w') (hn : ∀ b, ok b → ¬ F b) : d.K w' ok x cs := d.move (fun b hb hlt => hf.block b hlt (hn b hb)) h
theorem Rd.ext {α : Type} (d : Rd α) {w w' : World} {ok : Nat → Prop} {x : α} {cs : List Value} (h : d.K w ok x cs) (hf : Ext w w') : d.K w' ok x cs := d.fr h hf (fun _ _ f => f)

/-- Cells that hold elements, one behind the other. -/
def Elems {α : Type} (d : Rd α) (w : World) (ok : Nat → Prop) (xs : List α) (cells : List Value) : Prop :=
  cells.length = xs.length * d.sz ∧ ∀ j x, xs[j]? = some x → d.K w ok x ((cells.drop (j * d.sz)).take d.sz)
section
variable {α : Type} {d : Rd α} {w w' : World} {ok ok' : Nat → Prop} {xs ys : List α} {cells news : List Value}
theorem Elems.nil (d : Rd α) (w : World) (ok : Nat → Prop) : Elems d w ok [] [] := ⟨by simp, fun j x h => by simp at h⟩
theorem Elems.append (h : Elems d w ok xs cells) (k : Elems d w ok ys news) : Elems d w ok (xs ++ ys) (cells ++ news) := by
  refine ⟨by rw [List.length_append, List.length_append, h.1, k.1, Nat.add_mul], fun j x hx => ?_⟩
  rcases Nat.lt_or_ge j xs.length with hj | hj
  · rw [List.getElem?_append_left hj] at hx
    have h1 : j * d.sz + d.sz ≤ cells.length := by rw [h.1, ← Nat.succ_mul]; exact Nat.mul_le_mul_right _ hj
    rw [List.drop_append_of_le_length (by omega), List.take_append_of_le_length (by rw [List.length_drop]; omega)]
    exact h.2 j x hx
  · rw [List.getElem?_append_right hj] at hx
    have h1 : cells.length ≤ j * d.sz := by rw [h.1]; exact Nat.mul_le_mul_right _ hj
    rw [List.drop_append, List.drop_eq_nil_of_le h1, List.nil_append]
    have e : j * d.sz - cells.length = (j - xs.length) * d.sz := by rw [h.1, Nat.sub_mul]
    rw [e]
    exact k.2 _ x hx
theorem Elems.one {x : α} {cs : List Value} (h : d.K w ok x cs) : Elems d w ok [x] cs := by
  refine ⟨by rw [d.len h]; simp, fun j y hy => ?_⟩
  cases j with
  | zero =>
    simp at hy
    subst hy
    rw [Nat.zero_mul, List.drop_zero, List.take_of_length_le (Nat.le_of_eq (d.len h))]
    exact h
  | succ j => simp at hy
theorem Elems.oneCell (h : Elems d w ok xs cells) : ∀ u ∈ cells, u.oneCell' = true := by
  intro u hu
  obtain ⟨k, hk, rfl⟩ := List.getElem_of_mem hu
  have hsz : 0 < d.sz := by
    rcases Nat.eq_zero_or_pos d.sz with h0 | h0
    · rw [h.1, h0, Nat.mul_zero] at hk; exact absurd hk (Nat.not_lt_zero _)
    · exact h0
  have hj : k / d.sz < xs.length := by rw [h.1] at hk; exact (Nat.div_lt_iff_lt_mul hsz).2 hk
  have hx := h.2 (k / d.sz) _ (List.getElem?_eq_getElem hj)
  refine d.one hx _ ?_
  have hm := Nat.div_add_mod k d.sz
  have hl := Nat.mod_lt k hsz
  have : ((cells.drop (k / d.sz * d.sz)).take d.sz)[k % d.sz]? = some cells[k] := by
    rw [List.getElem?_take, if_pos hl, List.getElem?_drop, Nat.mul_comm, hm, List.getElem?_eq_getElem hk]
  exact List.mem_of_getElem? this
theorem Elems.move (h : Elems d w ok xs cells) (hm : ∀ b, ok b → b < w.heap.size → w'.heap[b]? = w.heap[b]?) : Elems d w' ok xs cells := ⟨h.1, fun j x hx => d.move hm (h.2 j x hx)⟩
theorem Elems.fr {F : Nat → Prop} (h : Elems d w ok xs cells) (hf : Fr F w w') (hn : ∀ b, ok b → ¬ F b) : Elems d w' ok xs cells := h.move fun b hb hlt => hf.block b hlt (hn b hb)
theorem Elems.mono (h : Elems d w ok xs cells) (hm : ∀ b, b < w.heap.size → ok b → ok' b) : Elems d w ok' xs cells := ⟨h.1, fun j x hx => d.mono hm (h.2 j x hx)⟩
/-- A slice's elements, laid out flat. -/
theorem SlC.flat {b o n c : Nat} (h : SlC d w ok (some ⟨b, o, none⟩) n c xs) :
    ∃ cells, Elems d w ok xs cells ∧ ∀ j u, cells[j]? = some u → w.cell? ⟨b, o + j, none⟩ = some u := by
  have key : ∀ k, k ≤ xs.length → ∃ cells, Elems d w ok (xs.take k) cells ∧ ∀ j u, cells[j]? = some u → w.cell? ⟨b, o + j, none⟩ = some u := by
    intro k
    induction k with
    | zero => intro _; exact ⟨[], by simpa using Elems.nil d w ok, fun j u hu => by simp at hu⟩
    | succ k ih =>
      intro hk
      obtain ⟨cells, h1, h2⟩ := ih (by omega)
      have hx := List.getElem?_eq_getElem (show k < xs.length by omega)
      obtain ⟨cs, ⟨b', o', arr, T, fr, hA, hok, hb, hc⟩, hK⟩ := h.get hx
      simp only [Option.some.injEq, Addr.mk.injEq, and_true] at hA
      obtain ⟨rfl, rfl⟩ := hA
      refine ⟨cells ++ cs, by rw [List.take_succ_eq_append_getElem (by omega)]; exact h1.append (Elems.one hK), fun j u hu => ?_⟩
      have hlen : cells.length = k * d.sz := by rw [h1.1, List.length_take, Nat.min_eq_left (by omega)]
      rcases Nat.lt_or_ge j cells.length with hj | hj
      · rw [List.getElem?_append_left hj] at hu
        exact h2 j u hu
      · rw [List.getElem?_append_right hj] at hu
        have := hc _ _ hu
        have e : o + k * d.sz + (j - cells.length) = o + j := by omega
        rw [e] at this
        simp [World.cell?, hb, this]
  obtain ⟨cells, h1, h2⟩ := key xs.length (Nat.le_refl _)
  rw [List.take_length] at h1
  exact ⟨cells, h1, h2⟩
end

/-- A row of the call's own: its block from base on; ok: what its elements lead to. -/
def OwnR {α : Type} (d : Rd α) (e : Nat) (w : World) (base : Nat) (ok : Nat → Prop) (v : Value) (n : Nat) (xs : List α) : Prop :=
  xs.length = n ∧ ∃ cells, w.ownsRow base e d.sz v n cells ∧ Elems d w ok xs cells
section
variable {α : Type} {d : Rd α} {e base n : Nat} {w w' : World} {ok ok' : Nat → Prop} {v : Value} {xs : List α}
theorem OwnR.nil (d : Rd α) (e : Nat) (w : World) (base : Nat) (ok : Nat → Prop) : OwnR d e w base ok (.slice none 0 0) 0 [] := ⟨rfl, [], own_nil _ _ _ _, Elems.nil _ _ _⟩
theorem OwnR.lit0 (d : Rd α) (e : Nat) (w : World) (base : Nat) (ok : Nat → Prop) (hb : base ≤ w.heap.size) : OwnR d e (w.alloc (.cells #[] e)) base ok (.slice (some ⟨w.heap.size, 0, none⟩) 0 0) 0 [] :=
  ⟨rfl, [], World.ownsRow_lit w #[] 0 hb (Nat.zero_le _) (by simp), Elems.nil _ _ _⟩
theorem OwnR.lit {cells : List Value} (hk : Elems d w ok xs cells) (hb : base ≤ w.heap.size) (hn : xs.length = n) (hm : n ≤ maxLen) : OwnR d e (w.alloc (.cells cells.toArray e)) base ok (.slice (some ⟨w.heap.size, 0, none⟩) n n) n xs :=
  ⟨hn, cells, World.ownsRow_lit w cells.toArray n hb hm (by simp [hk.1, hn]), hk.move fun b _ hlt => Below.heap_alloc _ _ _ hlt⟩
theorem OwnR.len (h : OwnR d e w base ok v n xs) : xs.length = n := h.1
theorem OwnR.sl (h : OwnR d e w base ok v n xs) : ∃ A c, v = .slice A n c ∧ SlC d w (fun b => base ≤ b ∨ ok b) A n c xs := by
  obtain ⟨hl, cells, ho, hk⟩ := h
  rcases ho.2 with ⟨rfl, rfl⟩ | ⟨g, cap, cur, rfl, hb, hh, hn, hm, hcur, htake⟩
  · have : xs = [] := List.eq_nil_of_length_eq_zero hl
    subst this
    exact ⟨none, 0, rfl, SlC.nil _ _ _ _ _ (Nat.zero_le _) (fun _ => rfl)⟩
  · refine ⟨some ⟨g, 0, none⟩, cap, rfl, hl, hn, hm, fun h => by simp at h, fun j x hx => ⟨_, ⟨g, 0, cur, e, (0, 0), rfl, .inl hb, hh, fun i u hu => ?_⟩, d.mono (fun _ _ h => .inr h) (hk.2 j x hx)⟩⟩
    rw [List.getElem?_take] at hu
    split at hu
    · rw [List.getElem?_drop, ← htake, List.getElem?_take] at hu
      split at hu
      · simpa using hu
      · simp at hu
    · simp at hu
theorem OwnR.fr {F : Nat → Prop} (h : OwnR d e w base ok v n xs) (hf : Fr F w w') (hv : ∀ k, v.ownBlock = some k → ¬ F k) (hn : ∀ b, ok b → ¬ F b) : OwnR d e w' base ok v n xs := by
  obtain ⟨hl, cells, ⟨h1, h2⟩, hk⟩ := h
  refine ⟨hl, cells, ⟨h1, ?_⟩, hk.fr hf hn⟩
  rcases h2 with h2 | ⟨g, cap, cur, rfl, hb, hh, r⟩
  · exact .inl h2
  · exact .inr ⟨g, cap, cur, rfl, hb, hf.blk hh (hv g rfl), r⟩
theorem OwnR.ext (h : OwnR d e w base ok v n xs) (hf : Ext w w') : OwnR d e w' base ok v n xs := h.fr hf (fun _ _ f => f) (fun _ _ f => f)
theorem OwnR.okmono (h : OwnR d e w base ok v n xs) (hm : ∀ b, b < w.heap.size → ok b → ok' b) : OwnR d e w base ok' v n xs := ⟨h.1, h.2.elim fun cells hc => ⟨cells, hc.1, hc.2.mono hm⟩⟩
theorem OwnR.base_le {base' : Nat} (h : OwnR d e w base ok v n xs) (hb : base' ≤ base) : OwnR d e w base' ok v n xs := by
  obtain ⟨hl, cells, ⟨h1, h2⟩, hk⟩ := h
  refine ⟨hl, cells, ⟨h1, ?_⟩, hk⟩
  rcases h2 with h2 | ⟨g, cap, cur, rfl, hg, r⟩
  · exact .inl h2
  · exact .inr ⟨g, cap, cur, rfl, Nat.le_trans hb hg, r⟩
theorem OwnR.block (h : OwnR d e w base ok v n xs) : ∀ k, v.ownBlock = some k → base ≤ k ∧ k < w.heap.size := by
  obtain ⟨hl, cells, ho, hk⟩ := h
  exact ho.lt
end
section
variable {P : Program} {ops : Array Oper} {rest : List Oper} {o : Oper} {a : Act} {w : World} {Q : Exit → Act → World → Prop}
/-- append onto an own row, of whatever elements; what they lead to isn't the row's block. -/
theorem wp_append_rows {K : Act → World → Prop} {α : Type} {d : Rd α} {s x : Operand} {t e bytes base n : Nat} (ho : o.op = .call { callee := .builtin .append, args := #[s, x], argTypes := #[t, t] })
    (hT : AppT P t e d.sz bytes) {ok : Nat → Prop} {v : Value} {xs : List α} (hs : a.eval s = v) (hown : OwnR d e w base ok v n xs) (hnot : ∀ k, v.ownBlock = some k → ¬ ok k)
    {A : Option Addr} {m c : Nat} {ys : List α} (H : SlC d w ok A m c ys) (hx : a.eval x = .slice A m c) (hb : (n + m) * bytes ≤ 140737488355328) (hbase : base ≤ w.heap.size)
    (h : ∀ v' w', OwnR d e w' base ok v' (n + m) (xs ++ ys) → w.grownBy w' v.ownBlock → (∀ k, v'.ownBlock = some k → v.ownBlock = some k ∨ w.heap.size ≤ k) → K (a.put o.dst v') w') : o.wp P a w K Q := by
  obtain ⟨i, z, ht, hi, hz, hsz, hby, hzs, h0, hb0⟩ := hT
  obtain ⟨hl, cells, hrow, hk⟩ := hown
  have hn : n + m ≤ 140737488355328 := Nat.le_trans (Nat.le_mul_of_pos_right _ hb0) hb
  cases A with
  | none =>
    have hc := H.zero rfl
    subst hc
    have hm : m = 0 := by have := H.le; omega
    subst hm
    have hy : ys = [] := List.eq_nil_of_length_eq_zero H.len
    subst hy
    have hrun := run_append_owned_none (P := P) (w := w) base t o.type e i d.sz ht hi v n cells hrow
    unfold Oper.wp
    simp [execOp, ho, resolve, invoke, builtin, hs, hx, hrun, Result.andThen]
    exact h v w ⟨by simpa using hl, cells, hrow, by simpa using hk⟩ ⟨rfl, rfl, rfl, Nat.le_refl _, fun _ _ _ => rfl⟩ (fun k hk => .inl hk)
  | some ad =>
    by_cases hm0 : m = 0
    · subst hm0
      have hy : ys = [] := List.eq_nil_of_length_eq_zero H.len
      subst hy
      obtain ⟨v', w', hrun, h2, h3, h4, hat⟩ := run_append_own_at (P := P) w base t o.type e i z d.sz bytes ht hi hz hsz hby hzs h0 v n cells hrow ad 0 c [] (by simp) (fun j u hu => by simp at hu) (fun u hu => by simp at hu) (by simp only [maxLen]; omega) hb hbase
      unfold Oper.wp
      simp [execOp, ho, resolve, invoke, builtin, hs, hx, hrun, Result.andThen]
      refine h v' w' ⟨by simpa using hl, cells, by simpa using h2, ?_⟩ h3 (fun k hk => ?_)
      · rw [List.append_nil]
        exact hk.move fun b hb hlt => h3.block b hlt (fun e => hnot b e.symm hb)
      · rcases hat with hat | hat
        · rw [hat] at hk; exact .inl hk
        · rw [hat] at hk; injection hk with hk; exact .inr (by omega)
    · obtain ⟨b, off, hA⟩ := H.addr (by omega)
      injection hA with hA
      subst hA
      obtain ⟨news, hel, hcell⟩ := H.flat
      obtain ⟨v', w', hrun, h2, h3, h4, hat⟩ := run_append_own_at (P := P) w base t o.type e i z d.sz bytes ht hi hz hsz hby hzs h0 v n cells hrow ⟨b, off, none⟩ m c news (by rw [hel.1, H.len]) (fun j u hu => by rw [addr_off]; exact hcell j u hu) hel.oneCell (by simp only [maxLen]; omega) hb hbase
      unfold Oper.wp
      simp [execOp, ho, resolve, invoke, builtin, hs, hx, hrun, Result.andThen]
      refine h v' w' ⟨by simp [hl, H.len], cells ++ news, h2, ?_⟩ h3 (fun k hk => ?_)
      · exact (hk.append hel).move fun b hb hlt => h3.block b hlt (fun e => hnot b e.symm hb)
      · rcases hat with hat | hat
        · rw [hat] at hk; exact .inl hk
        · rw [hat] at hk; injection hk with hk; exact .inr (by omega)
theorem wpList_append_rows {α : Type} {d : Rd α} (hg : o.guard = none) {s x : Operand} {t e bytes base n : Nat} (ho : o.op = .call { callee := .builtin .append, args := #[s, x], argTypes := #[t, t] })
    (hT : AppT P t e d.sz bytes) {ok : Nat → Prop} {v : Value} {xs : List α} (hs : a.eval s = v) (hown : OwnR d e w base ok v n xs) (hnot : ∀ k, v.ownBlock = some k → ¬ ok k)
    {A : Option Addr} {m c : Nat} {ys : List α} (H : SlC d w ok A m c ys) (hx : a.eval x = .slice A m c) (hb : (n + m) * bytes ≤ 140737488355328) (hbase : base ≤ w.heap.size)
    (h : ∀ v' w', OwnR d e w' base ok v' (n + m) (xs ++ ys) → w.grownBy w' v.ownBlock → (∀ k, v'.ownBlock = some k → v.ownBlock = some k ∨ w.heap.size ≤ k) → wpList P ops Q rest (a.put o.dst v') w') : wpList P ops Q (o :: rest) a w :=
  wpList_plain hg fun _ hK => wp_append_rows ho hT hs hown hnot H hx hb hbase fun v' w' h2 h3 h4 => hK _ _ (h v' w' h2 h3 h4)
end
end Go.Proofs.YtalbiepdkaldmaaGreatDoor
