/- layout: forms made, and asked. -/
import Derived.Test.YtalbiepdkaldmaaGreatDoorProg
import Derived.Test.YtalbiepdkaldmaaGreatDoorData
import Derived.Deep.QuietTactic
import Derived.BigQuiet
import Derived.Deep.LoopGhost
set_option linter.unusedVariables false
set_option linter.unusedSimpArgs false
namespace Go.Proofs.YtalbiepdkaldmaaGreatDoor
open Go.RowKit
theorem app_form : AppT Tryz.prog 68 70 6 64 := AppT.of (z := .agg #[.int .i64 0, .int .i64 0, .int .i64 0, .int .i64 0, .int .i64 0, .slice none 0 0]) Tryz.underlying68 (by kernel_rfl) rfl (by decide) (by decide)
theorem size_form (w : World) : (sizeOf 70).run Tryz.prog w = .ok 6 w := by kernel_rfl

/-! ### Plain: what forms are like -/
mutual
def Form.isOpen : Form → Bool
  | .mk k _ _ _ _ ps => k == 4 || (k == 3 && Form.lastOpen ps)
def Form.lastOpen : List Form → Bool
  | [] => false
  | f :: ps => match ps with | [] => f.isOpen | _ :: _ => Form.lastOpen ps
end
mutual
def Form.least : Form → Nat
  | .mk k s lo _ _ ps => if k = 0 then s else if k = 1 ∨ k = 2 then s + lo else if k = 4 ∨ k = 5 then lo else Form.leasts ps
def Form.leasts : List Form → Nat
  | [] => 0
  | f :: ps => f.least + Form.leasts ps
end
mutual
def Form.depth : Form → Nat
  | .mk _ _ _ _ _ ps => Form.depths ps + 1
def Form.depths : List Form → Nat
  | [] => 0
  | f :: ps => max f.depth (Form.depths ps)
end
/-- A form in itself. -/
def Form.own (f : Form) : Bool := match f with
  | .mk 0 s _ _ _ ps => decide (1 ≤ s ∧ s ≤ 4) && ps.isEmpty
  | .mk 1 s lo hi st ps => decide (1 ≤ s ∧ s ≤ 3 ∧ lo ≤ hi ∧ hi ≤ 256 ^ s - 1 ∧ 1 ≤ st ∧ st ≤ 65536) && ps.isEmpty
  | .mk 2 s lo hi st ps => decide (1 ≤ s ∧ s ≤ 3 ∧ lo ≤ hi ∧ hi ≤ 256 ^ s - 1 ∧ 1 ≤ st ∧ st ≤ 65536) && (ps.length == 1)
  | .mk 3 _ _ _ _ ps => decide (ps.length ≤ 32)
  | .mk 4 _ lo hi _ ps => decide (lo ≤ hi ∧ hi ≤ 16777215) && ps.isEmpty
  | .mk 5 _ lo _ _ ps => decide (lo ≤ 16777215) && ps.isEmpty
  | _ => false
mutual
def Form.wf : Form → Bool
  | .mk k s lo hi st ps => Form.own (.mk k s lo hi st ps) && Form.wfs ps && (k != 2 || ps.all fun f => !f.isOpen && f.least != 0 && decide (f.least ≤ 4294967296)) && ps.dropLast.all fun f => !f.isOpen
def Form.wfs : List Form → Bool
  | [] => true
  | f :: ps => f.wf && Form.wfs ps
end
theorem Form.wfs_mem {ps : List Form} (h : Form.wfs ps = true) {f : Form} (hf : f ∈ ps) : f.wf = true := by
  induction ps with
  | nil => simp at hf
  | cons g ps ih =>
    simp only [Form.wfs, Bool.and_eq_true] at h
    rcases List.mem_cons.1 hf with rfl | hf
    · exact h.1
    · exact ih h.2 hf

/-! ### An element of a slice of forms -/
section
variable {P : Program} {ops : Array Oper} {rest : List Oper} {o : Oper} {a : Act} {w : World} {Q : Exit → Act → World → Prop}
theorem wpList_idx_form {ok : Nat → Prop} {A : Option Addr} {n c : Nat} {xs : List Form} (H : SlC Rd.form w ok A n c xs) (hg : o.guard = none) (t : TypeId) (x i : Operand) (ho : o.op = .indexAddr t x i) (k : Int) (e : TypeId)
    (ht : P.underlying t = some (.slice e)) (hsz : (sizeOf e).run P w = .ok 6 w) (hx : a.eval x = .slice A n c) (hk : a.eval i = .int .i64 k) (h0 : 0 ≤ k) (h1 : k < n)
    (h : ∀ b off f A' n' c', ok b → xs[k.toNat]? = some f → SlC Rd.form w ok A' n' c' f.parts → w.cell? ⟨b, off, none⟩ = some (.int .i64 f.kind) → w.cell? ⟨b, off + 1, none⟩ = some (.int .i64 f.size) → w.cell? ⟨b, off + 2, none⟩ = some (.int .i64 f.lo) →
      w.cell? ⟨b, off + 3, none⟩ = some (.int .i64 f.hi) → w.cell? ⟨b, off + 4, none⟩ = some (.int .i64 f.step) → w.cell? ⟨b, off + 5, none⟩ = some (.slice A' n' c') → wpList P ops Q rest (a.put o.dst (.pointer (some ⟨b, off, none⟩))) w) : wpList P ops Q (o :: rest) a w := by
  refine wpList_idx H hg t x i ho k e ht hsz hx hk h0 h1 fun b off cs f hok hf hK hc => ?_
  obtain ⟨A', n', c', rfl, hs⟩ := Rd.form_iff.1 hK
  exact h b off f A' n' c' hok hf hs (hc 0 _ rfl) (hc 1 _ rfl) (hc 2 _ rfl) (hc 3 _ rfl) (hc 4 _ rfl) (hc 5 _ rfl)
end

theorem wpList_unguard {P : Program} {ops : Array Oper} {rest : List Oper} {o : Oper} {a : Act} {w : World} {Q : Exit → Act → World → Prop} (hw : Region.wanted o (yielded ops a.tmps) = true)
    (h : wpList P ops Q ({ o with guard := none } :: rest) a w) : wpList P ops Q (o :: rest) a w := by
  unfold wpList at *
  rw [if_pos hw]
  rw [if_pos (by simp [Region.wanted])] at h
  exact h

/-! ### Forms that are made -/
def FormRet (f : Form) (w : World) (e : Ending) (w' : World) : Prop := ∃ A n c, e = .returned (formV A n c f) ∧ SlC Rd.form w' Any A n c f.parts ∧ Ext w w'
theorem formK {w : World} {ok : Nat → Prop} {A : Option Addr} {n c : Nat} {f : Form} (h : SlC Rd.form w ok A n c f.parts) : Rd.form.K w ok f [.int .i64 f.kind, .int .i64 f.size, .int .i64 f.lo, .int .i64 f.hi, .int .i64 f.step, .slice A n c] :=
  Rd.form_iff.2 ⟨A, n, c, rfl, h⟩

theorem layout_Number (k : Nat) (w : World) : Calls Tryz.prog 81 #[.int .i64 k] w (FormRet (.mk 0 k 0 0 0 []) w) := by
  go_enter Tryz.func81, Tryz.ntmps81
  go_wp2
  refine bodyPost_ret (v := formV none 0 0 (.mk 0 k 0 0 0 [])) (by simp [results, Tryz.results81, go_sem, Form.kind, Form.size, Form.lo, Form.hi, Form.step]) rfl ⟨none, 0, 0, rfl, SlC.nil _ _ _ _ _ (Nat.zero_le _) (fun _ => rfl), (Fr.refl _ _).alloc _⟩
theorem layout_Opaque (k lo hi : Nat) (w : World) : Calls Tryz.prog 83 #[.int .i64 k, .int .i64 lo, .int .i64 hi] w (FormRet (.mk 1 k lo hi 1 []) w) := by
  go_enter Tryz.func83, Tryz.ntmps83
  go_wp2
  refine bodyPost_ret (v := formV none 0 0 (.mk 1 k lo hi 1 [])) (by simp [results, Tryz.results83, go_sem, Form.kind, Form.size, Form.lo, Form.hi, Form.step]) rfl ⟨none, 0, 0, rfl, SlC.nil _ _ _ _ _ (Nat.zero_le _) (fun _ => rfl), (Fr.refl _ _).alloc _⟩
theorem layout_Rest (lo hi : Nat) (w : World) : Calls Tryz.prog 88 #[.int .i64 lo, .int .i64 hi] w (FormRet (.mk 4 0 lo hi 0 []) w) := by
  go_enter Tryz.func88, Tryz.ntmps88
  go_wp2
  refine bodyPost_ret (v := formV none 0 0 (.mk 4 0 lo hi 0 [])) (by simp [results, Tryz.results88, go_sem, Form.kind, Form.size, Form.lo, Form.hi, Form.step]) rfl ⟨none, 0, 0, rfl, SlC.nil _ _ _ _ _ (Nat.zero_le _) (fun _ => rfl), (Fr.refl _ _).alloc _⟩
theorem layout_Fixed (lo : Nat) (w : World) : Calls Tryz.prog 87 #[.int .i64 lo] w (FormRet (.mk 5 0 lo 0 0 []) w) := by
  go_enter Tryz.func87, Tryz.ntmps87
  go_wp2
  refine bodyPost_ret (v := formV none 0 0 (.mk 5 0 lo 0 0 [])) (by simp [results, Tryz.results87, go_sem, Form.kind, Form.size, Form.lo, Form.hi, Form.step]) rfl ⟨none, 0, 0, rfl, SlC.nil _ _ _ _ _ (Nat.zero_le _) (fun _ => rfl), (Fr.refl _ _).alloc _⟩
/-- A fresh block that holds elements, read. -/
theorem sl_new {α : Type} {d : Rd α} {w w' : World} {xs : List α} {cells : List Value} {g e n : Nat} (hb : w'.heap[g]? = some (.cells cells.toArray e (0, 0))) (hk : Elems d w Any xs cells) (hf : Ext w w') (hn : xs.length = n) (hm : n ≤ maxLen) : SlC d w' Any (some ⟨g, 0, none⟩) n n xs := by
  refine ⟨hn, Nat.le_refl _, hm, fun h => by simp at h, fun j x hx => ⟨_, ⟨g, 0, _, e, (0, 0), rfl, trivial, hb, fun i u hu => ?_⟩, d.ext (hk.2 j x hx) hf⟩⟩
  rw [List.getElem?_take] at hu
  split at hu
  · rw [List.getElem?_drop] at hu
    simpa using hu
  · simp at hu
theorem layout_List (k lo hi st : Nat) (A : Option Addr) (n c : Nat) (f : Form) (w : World) (h : SlC Rd.form w Any A n c f.parts) :
    Calls Tryz.prog 85 #[.int .i64 k, .int .i64 lo, .int .i64 hi, .int .i64 st, formV A n c f] w (FormRet (.mk 2 k lo hi st [f]) w) := by
  go_enter Tryz.func85, Tryz.ntmps85
  go_wp2
  refine bodyPost_ret (v := formV (some ⟨w.heap.size + 1 + 1, 0, none⟩) 1 1 (.mk 2 k lo hi st [f])) (by simp [results, Tryz.results85, go_sem, Form.kind, Form.size, Form.lo, Form.hi, Form.step]) rfl ⟨_, 1, 1, rfl, sl_new (d := Rd.form) (w := w) (xs := [f]) (blk_new' _ _ _ (by simp)) (Elems.one (formK h)) ((((Fr.refl _ _).alloc _).alloc _).alloc _) rfl (by decide), (((Fr.refl _ _).alloc _).alloc _).alloc _⟩
/-- What slices.Clone and bytes.Clone hand back. -/
def CloneRet {α : Type} (d : Rd α) (e : Nat) (n : Nat) (xs : List α) (ok : Nat → Prop) (w : World) (en : Ending) (w' : World) : Prop := ∃ A c, en = .returned (.slice A n c) ∧ OwnR d e w' w.heap.size (fun b => b < w.heap.size ∧ ok b) (.slice A n c) n xs ∧ Ext w w'
set_option maxHeartbeats 400000 in
theorem clone_form (A : Option Addr) (n c : Nat) (xs : List Form) (ok : Nat → Prop) (w : World) (h : SlC Rd.form w ok A n c xs) (hn : n ≤ 1000000) :
    Calls Tryz.prog 89 #[.slice A n c] w (CloneRet Rd.form 70 n xs ok w) := by
  cases A with
  | none =>
    have hc := h.zero rfl
    subst hc
    have hn0 : n = 0 := by have := h.le; omega
    subst hn0
    obtain rfl : xs = [] := List.eq_nil_of_length_eq_zero h.len
    have e0 := fun w => Lib.run_eql_slice_nil (P := Tryz.prog) w 68 _ none 0 0 0 0 Tryz.underlying68
    go_enter Tryz.func89, Tryz.ntmps89
    go_wp2
    go_ret
    exact ⟨_, _, rfl, OwnR.nil _ _ _ _ _, Fr.refl _ _⟩
  | some ad =>
    have e0 := fun w => Lib.run_eql_slice_nil (P := Tryz.prog) w 68 _ (some ad) n c 0 0 Tryz.underlying68
    go_enter Tryz.func89, Tryz.ntmps89
    go_wp2_with (at_builtin; refine wpList_append_rows (v := .slice (some ⟨w.heap.size, 0, none⟩) 0 0) rfl rfl app_form rfl (OwnR.lit0 Rd.form _ w w.heap.size (fun b => b < w.heap.size ∧ ok b) (Nat.le_refl _)) ?_ (h.ltok.ext ((Fr.refl _ _).alloc _)) rfl ?_ ?_ ?_)
    · intro k hk
      simp [Value.ownBlock] at hk
      omega
    · omega
    · simp
    · intro v' w' ho hg _
      obtain ⟨A', c', rfl, hs'⟩ := ho.sl
      go_wp2
      go_ret
      exact ⟨_, _, rfl, ho, ((Fr.refl _ _).alloc _).grown hg (fun k hk => by simp [Value.ownBlock] at hk; omega)⟩

theorem layout_Row (A : Option Addr) (n c : Nat) (xs : List Form) (w : World) (h : SlC Rd.form w Any A n c xs) (hn : n ≤ 1000000) :
    Calls Tryz.prog 82 #[.slice A n c] w (FormRet (.mk 3 0 0 0 0 xs) w) := by
  go_enter Tryz.func82, Tryz.ntmps82
  go_wp2_with (go_at_call 89; refine (clone_form A n c xs (fun b => b < w.heap.size) _ (h.lt.ext ((Fr.refl _ _).alloc _)) hn).mono ?_; rintro e w1 ⟨A', c', rfl, ho, hx⟩; have hcx := hx.cells; have hfx := hx.frozens; have hzx := hx.size)
  obtain ⟨A2, c2, he, hs⟩ := ho.sl
  injection he with e1 _ e2
  subst e1 e2
  have hx0 : Ext w w1 := Fr.trans ((Fr.refl _ _).alloc _) hx
  have hf : ∀ u0 u1 u2 u3 u4 u5, Fr (One w.heap.size) w1 ((((((w1.setCell ⟨w.heap.size, 0, none⟩ u0).setCell ⟨w.heap.size, 1, none⟩ u1).setCell ⟨w.heap.size, 2, none⟩ u2).setCell ⟨w.heap.size, 3, none⟩ u3).setCell ⟨w.heap.size, 4, none⟩ u4).setCell ⟨w.heap.size, 5, none⟩ u5) := fun _ _ _ _ _ _ =>
    ((((((Fr.refl _ _).set _ _ _ (One.self _)).set _ _ _ (One.self _)).set _ _ _ (One.self _)).set _ _ _ (One.self _)).set _ _ _ (One.self _)).set _ _ _ (One.self _)
  refine bodyPost_ret (v := formV A' n c' (.mk 3 0 0 0 0 xs)) (by simp [results, Tryz.results82, go_sem, hcx, hzx, Form.kind, Form.size, Form.lo, Form.hi, Form.step]) rfl ?_
  refine ⟨A', n, c', rfl, (hs.fr (hf _ _ _ _ _ _) ?_).any, (by repeat (first | with_reducible assumption | with_reducible exact Fr.refl _ _ | (with_reducible refine Fr.alloc ?_ _) | (with_reducible refine Fr.drew ?_) | (with_reducible refine Fr.drewN ?_ _) | (with_reducible refine Fr.setNew ?_ _ _ _ (by first | with_reducible exact Nat.le_refl _ | omega | (simp; omega)))))⟩
  intro b hb e
  simp at hb
  have e : b = w.heap.size := e
  omega

/-! ### Forms that are asked -/
theorem layout_bounds (lo hi most : Nat) (w : World) (h1 : lo ≤ hi) (h2 : hi ≤ most) : Calls Tryz.prog 178 #[.int .i64 lo, .int .i64 hi, .int .i64 most] w fun e w' => e = .returned (.int .i64 0) ∧ w' = w := by
  go_enter Tryz.func178, Tryz.ntmps178
  go_wp2
  go_ret
  exact ⟨rfl, rfl⟩
def PartsRet (f : Form) (w : World) (e : Ending) (w' : World) : Prop := ∃ A' n' c', e = .returned (.slice A' n' c') ∧ SlC Rd.form w' Any A' n' c' (if f.kind = 2 ∨ f.kind = 3 then f.parts else []) ∧ Ext w w'
theorem layout_parts (A : Option Addr) (n c : Nat) (f : Form) (w : World) (h : SlC Rd.form w Any A n c f.parts) : Calls Tryz.prog 152 #[formV A n c f] w (PartsRet f w) := by
  obtain ⟨k, s, lo, hi, st, ps⟩ := f
  simp only [formV, Form.kind, Form.size, Form.lo, Form.hi, Form.step, Form.parts] at *
  by_cases h2 : k = 2
  · subst h2
    go_enter Tryz.func152, Tryz.ntmps152
    go_wp2
    go_ret
    exact ⟨_, _, _, rfl, h.ext ((Fr.refl _ _).alloc _), (Fr.refl _ _).alloc _⟩
  by_cases h3 : k = 3
  · subst h3
    go_enter Tryz.func152, Tryz.ntmps152
    go_wp2
    go_ret
    exact ⟨_, _, _, rfl, h.ext ((Fr.refl _ _).alloc _), (Fr.refl _ _).alloc _⟩
  · have e2 : ((k : Int) == 2) = false := by simp; omega
    have e3 : ((k : Int) == 3) = false := by simp; omega
    go_enter Tryz.func152, Tryz.ntmps152
    go_wp2
    go_ret
    refine ⟨_, _, _, rfl, ?_, (Fr.refl _ _).alloc _⟩
    simp only [Form.kind, h2, h3, or_self, if_false]
    exact SlC.nil _ _ _ _ _ (Nat.zero_le _) (fun _ => rfl)

/-- A cell of a variable that is a form. -/
def formCells (A : Option Addr) (n c : Nat) (f : Form) : Array Value := #[.int .i64 f.kind, .int .i64 f.size, .int .i64 f.lo, .int .i64 f.hi, .int .i64 f.step, .slice A n c]
theorem lastOpen_snoc (l : List Form) (f : Form) : Form.lastOpen (l ++ [f]) = f.isOpen := by
  induction l with
  | nil => simp [Form.lastOpen]
  | cons g l ih =>
    cases l with
    | nil => simp [Form.lastOpen]
    | cons h t => simpa [Form.lastOpen] using ih
theorem depth_mem {l : List Form} {f : Form} (h : f ∈ l) : f.depth ≤ Form.depths l := by
  induction l with
  | nil => simp at h
  | cons g l ih =>
    simp only [Form.depths]
    rcases List.mem_cons.1 h with rfl | h
    · exact Nat.le_max_left _ _
    · exact Nat.le_trans (ih h) (Nat.le_max_right _ _)
theorem depth_parts (f : Form) : f.depth = Form.depths f.parts + 1 := by cases f; simp [Form.depth, Form.parts]
theorem isOpen_last {f g : Form} (hk : f.kind = 3) (h : f.parts[f.parts.length - 1]? = some g) : f.isOpen = g.isOpen := by
  obtain ⟨k, s, lo, hi, st, ps⟩ := f
  simp only [Form.kind, Form.parts] at *
  subst hk
  have hne : ps ≠ [] := by rintro rfl; simp at h
  have : ps = ps.dropLast ++ [g] := by
    have h1 := List.dropLast_concat_getLast hne
    rw [List.getLast_eq_getElem] at h1
    have h2 : ps[ps.length - 1]'(by have := List.length_pos_iff.2 hne; omega) = g := by
      rw [List.getElem?_eq_getElem (by have := List.length_pos_iff.2 hne; omega)] at h
      injection h
    rw [h2] at h1
    exact h1.symm
  rw [this]
  simp [Form.isOpen, lastOpen_snoc]
set_option maxHeartbeats 1000000 in
theorem layout_Open (A : Option Addr) (n c : Nat) (f : Form) (w : World) (h : SlC Rd.form w Any A n c f.parts) :
    Calls Tryz.prog 155 #[formV A n c f] w fun e w' => e = .returned (.bool f.isOpen) ∧ Ext w w' := by
  go_enter Tryz.func155, Tryz.ntmps155
  go_wp2
  go_loopg [] f.depth (fun k wr => ∃ f' A' n' c', f'.depth = k ∧ f'.isOpen = f.isOpen ∧ wr.heap[w.heap.size]? = some (.cells (formCells A' n' c' f') 70 (0, 0)) ∧ SlC Rd.form wr (fun b => b < w.heap.size) A' n' c' f'.parts ∧ Ext w wr)
  case atStart => exact ⟨f, A, n, c, rfl, rfl, blk_new _ _, h.lt.ext (by repeat (first | with_reducible assumption | with_reducible exact Fr.refl _ _ | (with_reducible refine Fr.alloc ?_ _) | (with_reducible refine Fr.drew ?_) | (with_reducible refine Fr.drewN ?_ _) | (with_reducible refine Fr.setNew ?_ _ _ _ (by first | with_reducible exact Nat.le_refl _ | omega | (simp; omega))))), (by repeat (first | with_reducible assumption | with_reducible exact Fr.refl _ _ | (with_reducible refine Fr.alloc ?_ _) | (with_reducible refine Fr.drew ?_) | (with_reducible refine Fr.drewN ?_ _) | (with_reducible refine Fr.setNew ?_ _ _ _ (by first | with_reducible exact Nat.le_refl _ | omega | (simp; omega)))))⟩
  case round =>
    obtain ⟨f', A', n', c', rfl, ho, hb, hs, hx⟩ := hrel
    have hlen := hs.len
    have hle := hs.le
    have hmx := hs.max
    have HO := Lib.hid ho
    clear ho
    have HB := Lib.hid hb
    have c0 : wr.cell? ⟨w.heap.size, 0, none⟩ = some (.int .i64 f'.kind) := blk_cell hb 0
    have c1 : wr.cell? ⟨w.heap.size, 1, none⟩ = some (.int .i64 f'.size) := blk_cell hb 1
    have c2 : wr.cell? ⟨w.heap.size, 2, none⟩ = some (.int .i64 f'.lo) := blk_cell hb 2
    have c3 : wr.cell? ⟨w.heap.size, 3, none⟩ = some (.int .i64 f'.hi) := blk_cell hb 3
    have c4 : wr.cell? ⟨w.heap.size, 4, none⟩ = some (.int .i64 f'.step) := blk_cell hb 4
    have c5 : wr.cell? ⟨w.heap.size, 5, none⟩ = some (.slice A' n' c') := blk_cell hb 5
    have hf := fun i => blk_unfrozen hb i
    clear hb
    have hz := hx.size
    have HL := Lib.hid hlen
    clear hlen
    by_cases hk : f'.kind = 3
    · by_cases hn : 0 < n'
      · go_wp2_with (refine wpList_idx_form hs rfl _ _ _ rfl _ _ Tryz.underlying68 (size_form _) rfl rfl ?_ ?_ ?_)
        · omega
        · omega
        · intro b off g A2 n2 c2 hok hg hs2 d0 d1 d2 d3 d4 d5
          have hbg : b ≠ w.heap.size := by omega
          have hg' : f'.parts[f'.parts.length - 1]? = some g := by rw [← hg, HL.out]
          have hd := depth_mem (List.mem_of_getElem? hg')
          have hd' := depth_parts f'
          have ho' := isOpen_last hk hg'
          have H2 := Lib.hid (And.intro hg' (And.intro ho' hd'))
          clear hg hg' ho' hd'
          go_wp2
          go_roundg g.depth
          case measure => have := H2.out.2.2; omega
          case rel =>
            refine ⟨g, A2, n2, c2, rfl, by rw [← H2.out.2.1]; exact HO.out, ?_, hs2.fr (F := One w.heap.size) ?_ (fun b hb e => by have e : b = w.heap.size := e; omega), (by repeat (first | with_reducible assumption | with_reducible exact Fr.refl _ _ | (with_reducible refine Fr.alloc ?_ _) | (with_reducible refine Fr.drew ?_) | (with_reducible refine Fr.drewN ?_ _) | (with_reducible refine Fr.setNew ?_ _ _ _ (by first | with_reducible exact Nat.le_refl _ | omega | (simp; omega)))))⟩
            · exact (blk_set (blk_set (blk_set (blk_set (blk_set (blk_set HB.out 0 _) 1 _) 2 _) 3 _) 4 _) 5 _).trans rfl
            · exact ((((((Fr.refl _ _).set _ _ _ (One.self _)).set _ _ _ (One.self _)).set _ _ _ (One.self _)).set _ _ _ (One.self _)).set _ _ _ (One.self _)).set _ _ _ (One.self _)
      · go_wp2
        go_ret
        refine ⟨?_, hx⟩
        rw [← HO.out]
        have hl := HL.out
        obtain ⟨k, s, lo, hi, st, ps⟩ := f'
        simp only [Form.kind, Form.parts] at hk hl ⊢
        subst hk
        have : ps = [] := List.eq_nil_of_length_eq_zero (by omega)
        subst this
        rfl
    · go_wp2
      go_ret
      refine ⟨?_, hx⟩
      rw [← HO.out]
      obtain ⟨k, s, lo, hi, st, ps⟩ := f'
      simp only [Form.kind] at hk ⊢
      have e3 : (k == 3) = false := by simpa using hk
      have e4 : ((k : Int) == 4) = (k == 4) := by rw [Bool.eq_iff_iff]; simp; omega
      simp [Form.isOpen, e3, e4]
end Go.Proofs.YtalbiepdkaldmaaGreatDoor
