/- Maps keyed by int: what one holds, how it is written and asked; a region that draws its order and fills one map. For any program in which the orders mix. -/
import Derived.Test.YtalbiepdkaldmaaGreatDoorRegionG
import Derived.Test.YtalbiepdkaldmaaGreatDoorData
import Derived.MapKept
set_option linter.unusedVariables false
set_option linter.unusedSimpArgs false
namespace Go.Proofs.YtalbiepdkaldmaaGreatDoor
open Go.MapKept Go.RowKit

/-! ### Blocks of cells stay -/
def IsC (w : World) (b : Nat) : Prop := ∃ c e fr, w.heap[b]? = some (.cells c e fr)
def KeepC (w w' : World) : Prop := ∀ b, IsC w b → w'.heap[b]? = w.heap[b]?
theorem KeepC.ext {w w' : World} (h : Ext w w') : KeepC w w' := fun b ⟨_, _, _, hb⟩ => (Ext.blk h hb).trans hb.symm
theorem KeepC.trans {a b c : World} (h : KeepC a b) (k : KeepC b c) : KeepC a c := fun x hx => by
  have h1 := h x hx
  obtain ⟨p, q, r, hb⟩ := hx
  exact (k x ⟨p, q, r, h1.trans hb⟩).trans h1
def Rd.Real {α : Type} (d : Rd α) : Prop := ∀ (w : World) (ok : Nat → Prop) x cs, d.K w ok x cs → d.K w (fun b => ok b ∧ IsC w b) x cs
theorem SlC.real {α : Type} {d : Rd α} (hd : d.Real) {w : World} {ok : Nat → Prop} {A : Option Addr} {n c : Nat} {xs : List α} (h : SlC d w ok A n c xs) : SlC d w (fun b => ok b ∧ IsC w b) A n c xs := by
  obtain ⟨h1, h2, h3, h4, h5⟩ := h
  refine ⟨h1, h2, h3, h4, fun j x hx => ?_⟩
  obtain ⟨cs, ⟨b, o, arr, T, fr, hA, hok, hb, hc⟩, hk⟩ := h5 j x hx
  exact ⟨cs, ⟨b, o, arr, T, fr, hA, ⟨hok, arr, T, fr, hb⟩, hb, hc⟩, hd w ok x cs hk⟩
theorem SlC.keep {α : Type} {d : Rd α} (hd : d.Real) {w w' : World} {ok : Nat → Prop} {A : Option Addr} {n c : Nat} {xs : List α} (h : SlC d w ok A n c xs) (hk : KeepC w w') : SlC d w' ok A n c xs :=
  ((h.real hd).move fun b hb _ => hk b hb.2).mono fun _ _ h => h.1
theorem Rd.real_u8 : Rd.u8.Real := fun _ _ _ _ h => h
theorem upto_real : ∀ n, (upto 6 formF n).Real := by
  intro n
  induction n with
  | zero => intro w ok x cs h; exact h.elim
  | succ n ih =>
    rintro w ok x cs ⟨A, m, c, rfl, h⟩
    exact ⟨A, m, c, rfl, h.real ih⟩
theorem Rd.real_form : Rd.form.Real := fun w ok x cs ⟨n, h⟩ => ⟨n, upto_real n w ok x cs h⟩

/-! ### A map keyed by int -/
def mfind (k : Int) : List MapEntry → Option Value
  | [] => none
  | e :: es => match e.key with | .int .i64 j => if k = j then some e.val else mfind k es | _ => mfind k es
def IntMap (w : World) (b : Nat) (f : Int → Option Value) : Prop := ∃ es ck, w.heap[b]? = some (.map es ck) ∧ (∀ e ∈ es.toList, ∃ j, e.key = .int .i64 j) ∧ ∀ k, mfind k es.toList = f k
theorem IntMap.blk {w w' : World} {b : Nat} {f : Int → Option Value} (h : IntMap w b f) (hb : w'.heap[b]? = w.heap[b]?) : IntMap w' b f := by
  obtain ⟨es, ck, h1, h2, h3⟩ := h
  exact ⟨es, ck, hb.trans h1, h2, h3⟩
theorem IntMap.lt {w : World} {b : Nat} {f : Int → Option Value} (h : IntMap w b f) : b < w.heap.size := by
  obtain ⟨es, ck, h1, _⟩ := h
  exact blk_lt h1
theorem IntMap.ext {w w' : World} {b : Nat} {f : Int → Option Value} (h : IntMap w b f) (hx : Ext w w') : IntMap w' b f := h.blk (hx.block b h.lt (fun f => f))
theorem IntMap.not {w : World} {b : Nat} {f : Int → Option Value} (h : IntMap w b f) : ¬ IsC w b := by
  obtain ⟨es, ck, h1, _⟩ := h
  rintro ⟨c, e, fr, h2⟩
  rw [h1] at h2
  injection h2 with h2
  cases h2
theorem IntMap.new (w : World) : IntMap (w.alloc (.map #[] 0)) w.heap.size (fun _ => none) := ⟨#[], 0, blk_new _ _, by simp, fun k => rfl⟩
section
variable {P : Program} {T kt et : TypeId}
theorem int_findNow (k : Int) : ∀ (l : List MapEntry) (i : Nat), (∀ e ∈ l, ∃ j, e.key = .int .i64 j) →
    (Instr.findNow (.int .i64) (.int .i64 k) l i = some none ∧ mfind k l = none) ∨ ∃ j e, Instr.findNow (.int .i64) (.int .i64 k) l i = some (some (i + j, e.val)) ∧ l[j]? = some e ∧ e.key = .int .i64 k ∧ mfind k l = some e.val ∧ ∀ m, m < j → ∀ e', l[m]? = some e' → e'.key ≠ .int .i64 k
  | [], i, _ => .inl ⟨rfl, rfl⟩
  | e :: es, i, h => by
    obtain ⟨j, hj⟩ := h e (.head _)
    by_cases hkj : k = j
    · subst hkj
      exact .inr ⟨0, e, by simp [Instr.findNow, Instr.sameNow, hj], rfl, hj, by simp [mfind, hj], fun m hm => absurd hm (Nat.not_lt_zero _)⟩
    · have hb : (k == j) = false := by simpa using hkj
      rcases int_findNow k es (i + 1) (fun x hx => h x (.tail _ hx)) with ⟨h1, h2⟩ | ⟨m, e', h1, h2, h3, h4, h5⟩
      · exact .inl ⟨by simp [Instr.findNow, Instr.sameNow, hj, hb, h1], by simp [mfind, hj, hkj, h2]⟩
      · refine .inr ⟨m + 1, e', by simp [Instr.findNow, Instr.sameNow, hj, hb, h1]; omega, by simpa using h2, h3, by simp [mfind, hj, hkj, h4], fun q hq x hx => ?_⟩
        cases q with
        | zero => simp at hx; subst hx; rw [hj]; intro e; injection e with _ e; exact hkj e.symm
        | succ q => exact h5 q (by omega) x (by simpa using hx)
theorem int_lookup (hT : P.underlying T = some (.map kt et)) (hk : P.underlying kt = some (.int .i64)) {w : World} {b : Nat} {f : Int → Option Value} (h : IntMap w b f) (k : Int) {z : Value} (hz : (zeroValue et).run P w = .ok z w) :
    (Instr.lookup T (.map (some b)) (.int .i64 k) true).run P w = .ok (.tuple #[(f k).getD z, .bool (f k).isSome]) w := by
  obtain ⟨es, ck, h1, h2, h3⟩ := h
  have hc : (Instr.checkKey es.isEmpty 10000 kt (.int .i64 k)).run P w = .ok () w := run_checkKey hk (by first | trivial | rfl | simp [IsKey]) _ _
  rcases int_findNow k es.toList 0 h2 with ⟨h4, h5⟩ | ⟨j, e, h4, h5, h6, h7, _⟩
  · rw [h3] at h5
    simp [Instr.lookup, run_underlying hT, MapKept.run_getObj_map h1, hc, run_findKey hk h4, hz, Result.andThen, h5]
  · rw [h3] at h7
    simp [Instr.lookup, run_underlying hT, MapKept.run_getObj_map h1, hc, run_findKey hk h4, Result.andThen, h7]
theorem mfind_append (k : Int) (l m : List MapEntry) : mfind k (l ++ m) = (mfind k l).orElse fun _ => mfind k m := by
  induction l with
  | nil => simp [mfind]
  | cons e l ih =>
    simp only [List.cons_append, mfind]
    split
    · split <;> simp [ih]
    · exact ih
theorem mfind_modify (k k0 : Int) (v : Value) : ∀ (l : List MapEntry) (j : Nat) (e : MapEntry), l[j]? = some e → e.key = .int .i64 k0 → (∀ m, m < j → ∀ e', l[m]? = some e' → e'.key ≠ .int .i64 k0) → (∀ e ∈ l, ∃ j, e.key = .int .i64 j) →
    mfind k (l.modify j fun e => { e with key := .int .i64 k0, val := v }) = if k = k0 then some v else mfind k l
  | [], j, e, h, _, _, _ => by simp at h
  | x :: l, 0, e, h, hk, _, _ => by
    simp only [List.getElem?_cons_zero, Option.some.injEq] at h
    subst h
    simp only [List.modify_zero_cons, mfind, hk]
    split <;> rfl
  | x :: l, j + 1, e, h, hk, hn, ha => by
    have h0 := hn 0 (Nat.succ_pos _) x rfl
    obtain ⟨q, hq⟩ := ha x (.head _)
    have hne : ¬ q = k0 := fun e => h0 (by rw [hq, e])
    simp only [List.modify_succ_cons, mfind, hq]
    rw [mfind_modify k k0 v l j e (by simpa using h) hk (fun m hm e' he' => hn (m + 1) (by omega) e' (by simpa using he')) (fun e he => ha e (.tail _ he))]
    by_cases hkq : k = q
    · rw [if_pos hkq, if_pos hkq, if_neg (fun e => hne (hkq.symm.trans e))]
    · rw [if_neg hkq, if_neg hkq]
theorem int_update (hT : P.underlying T = some (.map kt et)) (hk : P.underlying kt = some (.int .i64)) {w : World} {b : Nat} {f : Int → Option Value} (h : IntMap w b f) (k : Int) (v : Value) :
    ∃ w', (Instr.mapUpdate T (.map (some b)) (.int .i64 k) v).run P w = .ok () w' ∧ IntMap w' b (fun k' => if k' = k then some v else f k') ∧ Fr (One b) w w' := by
  obtain ⟨es, ck, h1, h2, h3⟩ := h
  have hc : (Instr.checkKey false 10000 kt (.int .i64 k)).run P w = .ok () w := run_checkKey hk (by first | trivial | rfl | simp [IsKey]) _ _
  have hlt := blk_lt h1
  have hfr : ∀ o, Fr (One b) w { w with heap := w.heap.setIfInBounds b o } := fun o => ⟨rfl, rfl, rfl, by simp, fun x _ hx => by simp [Array.getElem?_setIfInBounds_ne (Ne.symm hx)]⟩
  rcases int_findNow k es.toList 0 h2 with ⟨h4, h5⟩ | ⟨j, e, h4, h5, h6, h7, h8⟩
  · refine ⟨{ w with heap := w.heap.setIfInBounds b (.map (es.push { key := .int .i64 k, val := v, born := ck }) (ck + 1)) }, by simp [Instr.mapUpdate, run_underlying hT, MapKept.run_getObj_map h1, hc, run_findKey hk h4, run_setObj_map _ h1, Result.andThen], ⟨_, _, by simp [hlt]; exact ⟨rfl, rfl⟩, ?_, ?_⟩, hfr _⟩
    · intro e he
      simp only [Array.toList_push, List.mem_append, List.mem_singleton] at he
      rcases he with he | rfl
      · exact h2 e he
      · exact ⟨k, rfl⟩
    · intro k'
      rw [Array.toList_push, mfind_append, h3]
      by_cases hkk : k' = k
      · subst hkk
        rw [h3] at h5
        simp [h5, mfind]
      · simp [mfind, hkk]
  · have hj : es[j]? = some e := by simpa using h5
    refine ⟨{ w with heap := w.heap.setIfInBounds b (.map (es.modify j fun e => { e with key := .int .i64 k, val := v }) ck) }, by simp [Instr.mapUpdate, run_underlying hT, MapKept.run_getObj_map h1, hc, run_findKey hk h4, hj, h6, run_keyThatStays (d := .int .i64) (k := .int .i64 k) (by first | trivial | rfl | simp [IsKey]), run_setObj_map _ h1, Result.andThen], ⟨_, _, by simp [hlt]; exact ⟨rfl, rfl⟩, ?_, ?_⟩, hfr _⟩
    · intro x hx
      have : x.key ∈ (es.modify j fun e => { e with key := .int .i64 k, val := v }).toList.map (·.key) := List.mem_map.2 ⟨x, hx, rfl⟩
      rw [modify_keys j _ (fun e' he' => by rw [hj] at he'; cases he'; exact h6.symm)] at this
      obtain ⟨y, hy, e1⟩ := List.mem_map.1 this
      rw [← e1]; exact h2 y hy
    · intro k'
      rw [Array.toList_modify, mfind_modify k' k v es.toList j e h5 h6 h8 h2, h3]
end

theorem IntMap.uniq {w : World} {b : Nat} {f f' : Int → Option Value} (h : IntMap w b f) (h' : IntMap w b f') : f = f' := by
  obtain ⟨es, ck, h1, _, h3⟩ := h
  obtain ⟨es', ck', h1', _, h3'⟩ := h'
  rw [h1] at h1'
  injection h1' with e
  injection e with e1 e2
  subst e1
  funext k
  rw [← h3, ← h3']
theorem KeepC.one {w w' : World} {b : Nat} (h : Fr (One b) w w') (hb : ¬ IsC w b) : KeepC w w' := fun x hx => by
  have hne : ¬ One b x := fun e => hb (by have e : x = b := e; rw [← e]; exact hx)
  obtain ⟨p, q, r, hx'⟩ := hx
  exact h.block x (blk_lt hx') hne

/-! ### A region that draws its order and fills one map -/
inductive Sp where
  | val (V : World → Value → Prop)
  | map
  | ins (k : Int) (V : World → Value → Prop)
def Sp.key : Sp → Option Int | .ins k _ => some k | _ => none
def Sp.isMap : Sp → Bool | .map => true | _ => false
def Stab (V : World → Value → Prop) : Prop := ∀ w w' v, KeepC w w' → V w v → V w' v
def Sp.stab : Sp → Prop | .val V => Stab V | .map => True | .ins _ V => Stab V
def Sp.ahead : Sp → World → Value → Prop | .val V, w, v => V w v | _, _, _ => True
def SpH (sp : Nat → Sp) (j : Nat) (v : Value) (x : Option Nat × World) : Prop := match sp j with
  | .val V => V x.2 v
  | .map => ∃ b, v = .map (some b) ∧ x.1 = some b
  | .ins k V => ∃ b f u, x.1 = some b ∧ IntMap x.2 b f ∧ f k = some u ∧ V x.2 u
def SpC (w0 : World) (sp : Nat → Sp) (ks : List Int) (L : Nat → Bool) (g : Option Nat) (w : World) : Prop :=
  Ext w0 w ∧ (∀ j, sp j = .map → L j = false → g = none) ∧ ∀ b, g = some b → w0.heap.size ≤ b ∧ ∃ f, IntMap w b f ∧ ∀ k, k ∉ ks → f k = none
def SpLE (sp : Nat → Sp) (i : Nat) (x y : Option Nat × World) : Prop :=
  (x.1 = none ∨ y.1 = x.1) ∧ KeepC x.2 y.2 ∧ ∀ b f, x.1 = some b → IntMap x.2 b f → ∃ f', IntMap y.2 b f' ∧ ∀ k, (sp i).key ≠ some k → f' k = f k
def spB (sp : Nat → Sp) (n : Nat) (ks : List Int) : Bool := (List.range n).all fun i => (match (sp i).key with | some k => ks.contains k | none => true) && (List.range n).all fun j => i == j || match (sp i).key, (sp j).key with | some a, some b => a != b | _, _ => true
theorem spB_key {sp : Nat → Sp} {n : Nat} {ks : List Int} (h : spB sp n ks = true) {i : Nat} (hi : i < n) {k : Int} (hk : (sp i).key = some k) : k ∈ ks := by
  have := List.all_eq_true.1 h i (List.mem_range.2 hi)
  simp only [hk, Bool.and_eq_true] at this
  simpa using this.1
theorem spB_ne {sp : Nat → Sp} {n : Nat} {ks : List Int} (h : spB sp n ks = true) {i j : Nat} (hi : i < n) (hj : j < n) (hne : i ≠ j) {k : Int} (hk : (sp i).key = some k) : (sp j).key ≠ some k := by
  have := List.all_eq_true.1 h i (List.mem_range.2 hi)
  simp only [hk, Bool.and_eq_true] at this
  have := List.all_eq_true.1 this.2 j (List.mem_range.2 hj)
  intro hk'
  simp [hk', hne] at this
theorem sp_mono {sp : Nat → Sp} {n : Nat} {ks : List Int} (hB : spB sp n ks = true) (hs : ∀ j, j < n → (sp j).stab) (i j : Nat) (v : Value) (x y : Option Nat × World) (hi : i < n) (hj : j < n) (hne : i ≠ j) (h : SpLE sp i x y) (hS : SpH sp j v x) : SpH sp j v y := by
  have hst := hs j hj
  obtain ⟨h1, h2, h3⟩ := h
  unfold SpH at *
  cases e : sp j with
  | val V =>
    simp only [e] at hS ⊢
    rw [e] at hst
    exact hst _ _ _ h2 hS
  | map =>
    simp only [e] at hS ⊢
    obtain ⟨b, rfl, hb⟩ := hS
    refine ⟨b, rfl, ?_⟩
    rcases h1 with h1 | h1
    · rw [hb] at h1; cases h1
    · rw [h1, hb]
  | ins k V =>
    simp only [e] at hS ⊢
    rw [e] at hst
    obtain ⟨b, f, u, hb, hm, hf, hV⟩ := hS
    obtain ⟨f', hm', hf'⟩ := h3 b f hb hm
    refine ⟨b, f', u, ?_, hm', ?_, hst _ _ _ h2 hV⟩
    · rcases h1 with h1 | h1
      · rw [hb] at h1; cases h1
      · rw [h1, hb]
    · rw [hf' k (spB_ne hB hj hi (Ne.symm hne) (by rw [e]; rfl))]
      exact hf
section
variable {P : Program} {Q : Exit → Act → World → Prop} {l : List Oper} {w0 : World} {sp : Nat → Sp} {ks : List Int} {L : Nat → Bool} {i : Nat} {o : Oper} {a : Act} {g : Option Nat} {w : World}
theorem step_val {V : World → Value → Prop} (hsp : sp i = .val V) (ho : l[i]? = some o) (hg : o.guard = none) (hd : o.dst.isSome = true) (hC : SpC w0 sp ks L g w)
    (h : ∀ K : Act → World → Prop, (∀ v w', Ext w w' → V w' v → K (a.put o.dst v) w') → o.wp P a w K Q) : StepG P Q l (SpC w0 sp ks) (SpLE sp) (SpH sp) L i o a g w := by
  obtain ⟨h1, h2, h3⟩ := hC
  refine StepG.op ho hg fun K hK => h K fun v w' hx hV => hK v g w' ⟨Fr.trans h1 hx, fun j hj hl => h2 j hj ?_, fun b hb => ?_⟩ ⟨.inr rfl, KeepC.ext hx, fun b f _ hm => ⟨f, hm.ext hx, fun _ _ => rfl⟩⟩ (by unfold SpH; simp only [hsp]; exact hV) (fun e => by rw [e] at hd; cases hd)
  · cases e : (j == i) with
    | true => simp only [e, Bool.true_or] at hl; cases hl
    | false => simpa [e] using hl
  · obtain ⟨h4, f, h5, h6⟩ := h3 b hb
    exact ⟨h4, f, h5.ext hx, h6⟩
theorem step_map {T : TypeId} (hsp : sp i = .map) (hl : L i = false) (ho : l[i]? = some o) (hg : o.guard = none) (hop : o.op = .makeMap T none) (hd : o.dst.isSome = true) (hm1 : ∀ j, sp j = .map → j = i) (hC : SpC w0 sp ks L g w) :
    StepG P Q l (SpC w0 sp ks) (SpLE sp) (SpH sp) L i o a g w := by
  obtain ⟨h1, h2, h3⟩ := hC
  have hg0 := h2 i hsp hl
  subst hg0
  have hx : Ext w (w.alloc (.map #[] 0)) := (Fr.refl _ _).alloc _
  refine StepG.op ho hg fun K hK => ?_
  have := hK (.map (some w.heap.size)) (some w.heap.size) (w.alloc (.map #[] 0)) ⟨Fr.trans h1 hx, fun j hj hl' => ?_, fun b hb => ?_⟩ ⟨.inl rfl, KeepC.ext hx, fun b f hb => by cases hb⟩ (by unfold SpH; simp only [hsp]; exact ⟨_, rfl, rfl⟩) (fun e => by rw [e] at hd; cases hd)
  · unfold Oper.wp execOp
    simp only [hop]
    simpa [Instr.makeMap, go_sem] using this
  · have := hm1 j hj
    subst this
    simp at hl'
  · injection hb with hb
    subst hb
    exact ⟨h1.size, _, IntMap.new w, fun _ _ => rfl⟩
theorem step_ins {T kt et : TypeId} {k : Int} {V : World → Value → Prop} {m x : Operand} {b : Nat} {u : Value} (hsp : sp i = .ins k V) (ho : l[i]? = some o) (hg : o.guard = none) (hop : o.op = .insert T m (.const (.int .i64 k)) x) (hd : o.dst = none)
    (hT : P.underlying T = some (.map kt et)) (hk : P.underlying kt = some (.int .i64)) (hkk : k ∈ ks) (hnm : ∀ j, sp j = .map → j ≠ i) (hm : a.eval m = .map (some b)) (hgb : g = some b) (hx : a.eval x = u) (hV : V w u) (hst : Stab V) (hC : SpC w0 sp ks L g w) :
    StepG P Q l (SpC w0 sp ks) (SpLE sp) (SpH sp) L i o a g w := by
  obtain ⟨h1, h2, h3⟩ := hC
  obtain ⟨h4, f, h5, h6⟩ := h3 b hgb
  obtain ⟨w', hr, hm', hf⟩ := int_update hT hk h5 k u
  have hkc := KeepC.one hf h5.not
  refine StepG.op ho hg fun K hK => ?_
  have := hK undef g w' ⟨Fr.trans' h1 hf (fun j hj e => by have e : j = b := e; omega), fun j hj hl' => h2 j hj ?_, fun b' hb' => ?_⟩ ⟨.inr rfl, hkc, fun b' f' hb' hm'' => ?_⟩ ?_ (fun _ => rfl)
  · unfold Oper.wp execOp
    have hc : a.eval (.const (.int .i64 k)) = .int .i64 k := rfl
    simp only [hop, hm, hx, hc, hd]
    simp only [hd, Act.put] at this ⊢
    simpa [hr, go_sem, Act.put, hd] using this
  · have := hnm j hj
    simpa [this] using hl'
  · rw [hgb] at hb'
    injection hb' with hb'
    subst hb'
    refine ⟨h4, _, hm', fun k' hk' => ?_⟩
    rw [if_neg (fun e => hk' (by rw [e]; exact hkk))]
    exact h6 k' hk'
  · rw [hgb] at hb'
    injection hb' with hb'
    subst hb'
    obtain rfl := h5.uniq hm''
    exact ⟨_, hm', fun k' hk' => if_neg (fun e => hk' (by rw [hsp, e]; rfl))⟩
  · unfold SpH
    simp only [hsp]
    exact ⟨b, _, u, hgb, hm', by simp, hst _ _ _ hkc hV⟩
/-- The slots that an operation's needs have filled. -/
theorem sp_get {n : Nat} {a0 : Act} (hS : ∀ j oj, dep l i j = true → l[j]? = some oj → SpH sp j (slotOf oj a) (g, w)) (j d : Nat) (h : (dep l i j && match l[j]? with | some o => o.dst == some d | none => false) = true) : SpH sp j (a.tmps.getD d undef) (g, w) := by
  simp only [Bool.and_eq_true] at h
  obtain ⟨h1, h2⟩ := h
  cases e : l[j]? with
  | none => simp [e] at h2
  | some o =>
    simp only [e, beq_iff_eq] at h2
    have := hS j o h1 e
    simpa [slotOf, h2] using this
def outB (l : List Oper) (n t : Nat) : Bool := (l.take n).all fun o => o.dst != some t
theorem outB_get {n t : Nat} {a0 : Act} (hA : Agree a0 a l n) (h : outB l n t = true) : a.tmps.getD t undef = a0.tmps.getD t undef := hA.out t fun i o hi ho e => by
  have := List.all_eq_true.1 h o (List.mem_of_getElem? (i := i) (by rw [List.getElem?_take]; simp [hi, ho]))
  simp [e] at this
def AllFrom (q : Nat → Oper → Prop) : Nat → List Oper → Prop
  | _, [] => True
  | k, o :: os => q k o ∧ AllFrom q (k + 1) os
theorem AllFrom.get {q : Nat → Oper → Prop} : ∀ (l : List Oper) (k : Nat), AllFrom q k l → ∀ i o, l[i]? = some o → q (k + i) o
  | [], _, _, i, o, h => by simp at h
  | x :: l, k, h, 0, o, he => by simp at he; subst he; exact h.1
  | x :: l, k, h, i + 1, o, he => by
    have := AllFrom.get l (k + 1) h.2 i o (by simpa using he)
    have e : k + (i + 1) = k + 1 + i := by omega
    rw [e]; exact this
end
theorem wp_region_map {P : Program} {Q : Exit → Act → World → Prop} {id : Nat} {a0 : Act} {w0 : World} (l : List Oper) (n : Nat) (sp : Nat → Sp) (ks : List Int) (hm : P.follows .mixedOrders = true)
    (hb : (backB l && tailB l n && dstsG l n a0.tmps.size && decide (n ≤ l.length) && spB sp n ks) = true) (hst : ∀ j, j < n → (sp j).stab)
    (step : AllFrom (fun i o => ∀ L a g w, L i = false → SpC w0 sp ks L g w → (∀ t, outB l n t = true → a.tmps.getD t undef = a0.tmps.getD t undef) → (∀ j d, (dep l i j && match l[j]? with | some o => o.dst == some d | none => false) = true → SpH sp j (a.tmps.getD d undef) (g, w)) → l[i]? = some o → StepG P Q l (SpC w0 sp ks) (SpLE sp) (SpH sp) L i o a g w) 0 (l.take n))
    (fin : ∀ (vs : Nat → Value) L g w a, SpC w0 sp ks L g w → (∀ i, i < n → SpH sp i (vs i) (g, w)) → (∀ i d, (decide (i < n) && match l[i]? with | some o => o.dst == some d | none => false) = true → a.tmps.getD d undef = vs i) → a.tmps.size = a0.tmps.size → a.defers = a0.defers → wpList P l.toArray Q (l.drop n) a w) :
    (Code.region id l.toArray true).wp P Q a0 w0 := by
  simp only [Bool.and_eq_true, decide_eq_true_eq] at hb
  obtain ⟨⟨⟨⟨h1, h2⟩, h3⟩, h4⟩, h5⟩ := hb
  refine wp_region_relG l n hm h1 h2 h3 h4 none (SpC w0 sp ks) (SpLE sp) (SpH sp) ⟨(Fr.refl _ _).drew, fun _ _ _ => rfl, fun b hb => by cases hb⟩ (fun i j v x y hi hj hne => sp_mono h5 hst i j v x y hi hj hne) ?_ (fun vs L g w hC hS => fin vs L g w _ hC hS (fun i d hd => ?_) (putAll_get _ _ _ _).1 (putAll_get _ _ _ _).2.1)
  rotate_left
  · simp only [Bool.and_eq_true, decide_eq_true_eq] at hd
    obtain ⟨hi, hd⟩ := hd
    cases ho : l[i]? with
    | none => simp [ho] at hd
    | some o =>
      simp only [ho, beq_iff_eq] at hd
      have := putAll_slot (l.take n) vs 0 a0 i o d (by rw [List.getElem?_take]; simp [hi, ho]) hd (dst_lt h3 hi ho hd) (fun j o' h' e => by
        rw [List.getElem?_take] at h'
        split at h'
        · exact dst_neG h3 ‹_› hi h' ho e hd
        · simp at h')
      rwa [Nat.zero_add] at this
  intro i o hi ho L a g w hl hC hA hS
  have ho' : (l.take n)[i]? = some o := by rw [List.getElem?_take]; simp [hi, ho]
  have := AllFrom.get _ _ step i o ho'
  rw [Nat.zero_add] at this
  exact this L a g w hl hC (fun t ht => outB_get hA ht) (fun j d => sp_get hS (n := n) (a0 := a0) j d) ho
end Go.Proofs.YtalbiepdkaldmaaGreatDoor
