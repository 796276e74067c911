/- What the rows' condition gives the walks: the tables lie as the program's text lays them. From a walk to a row: what comes in is read as before; true is handed back. -/
import Derived.Test.YtalbiepdkaldmaaGreatDoorRows
import Derived.Test.YtalbiepdkaldmaaGreatDoorTally
import Derived.ProofKit
import Derived.LaidMore
import Derived.OpenShut
import Derived.LaidHandle
import Derived.Stop.Joined
import Derived.Carry
import Derived.ChangeSame
import Derived.ChangeVars
import Derived.JoinedOf
import Derived.RowKit
set_option linter.unusedVariables false
set_option linter.unusedSimpArgs false
namespace Go.Proofs.YtalbiepdkaldmaaGreatDoor
open Go.RowKit
section
variable {P : Program} {w : World}
theorem vars_mem {n : String} {d : DataW Unit} : ∀ {l : List (String × DataW Unit)} {ps : List MemPlace}, DataW.LaidVars P w l ps → (n, d) ∈ l →
    ∃ g t cs fuel p, P.globalNamed n = some g ∧ (P.globals[g]?).map (·.type) = some t ∧ w.var? P n = some cs ∧ DataW.trod (fun _ => ()) P w 0 (fun _ => true) false fuel t cs.toList = some (d, p)
  | [], _, _, h => by cases h
  | (n', d') :: r, ps, hv, h => by
    obtain ⟨g, t, cs, fuel, p, q, h1, h2, h3, h4, h5, _⟩ := hv
    rcases List.mem_cons.1 h with e | h
    · injection e with e1 e2
      subst e1 e2
      exact ⟨g, t, cs, fuel, p, h1, h2, h3, h4⟩
    · exact vars_mem h5 h
theorem laid_mem {l : List (String × DataW Unit)} (h : laidMetH P l w) {n : String} {d : DataW Unit} (hx : (n, d) ∈ l) (hn : d.handleName?.isNone = true) :
    ∃ g t cs fuel p, P.globalNamed n = some g ∧ (P.globals[g]?).map (·.type) = some t ∧ w.var? P n = some cs ∧ DataW.trod (fun _ => ()) P w 0 (fun _ => true) false fuel t cs.toList = some (d, p) := by
  unfold laidMetH at h
  split at h
  · obtain ⟨ps, hv, _⟩ := h
    exact vars_mem hv hx
  · obtain ⟨⟨ps, hv, _⟩, _⟩ := h
    exact vars_mem hv (List.mem_filter.2 ⟨hx, hn⟩)
section
variable {H : Type} {enc : TypeId × Value → H} {base : Nat} {sp : Nat → Bool} {held : Bool}
theorem one_of_take {cs : List Value} {i : Nat} {v : Value} (h : (cs.drop i).take 1 = [v]) : cs[i]? = some v := by
  have : ((cs.drop i).take 1)[0]? = some v := by rw [h]; rfl
  rw [List.getElem?_take_of_lt (by omega), List.getElem?_drop] at this
  simpa using this
theorem ints_of_trod {t e n fuel : Nat} {cs : List Value} {l : List Int} {p : List MemPlace} (ht : P.underlying t = some (.array n e)) (he : P.underlying e = some (.int .i64)) (hce : P.cellsOf e = 1)
    (h : DataW.trod enc P w base sp held fuel t cs = some (.agg (l.map fun k => .lit (.int .i64 k)), p)) : ∀ (i : Nat) (x : Value), (i64s l)[i]? = some x → cs[i]? = some x := by
  obtain ⟨xs, m, _, hx, _, hn, hel⟩ := DataW.trod_array ht h
  injection hx with hx _
  injection hx with hx
  intro i x hi
  unfold i64s at hi
  rw [List.getElem?_map] at hi
  cases hli : l[i]? with
  | none => rw [hli] at hi; cases hi
  | some k =>
    rw [hli] at hi
    simp only [Option.map_some, Option.some.injEq] at hi
    subst hi
    have h1 : (xs.map (·.1))[i]? = some (.lit (.int .i64 k)) := by rw [← hx, List.getElem?_map, hli]; rfl
    rw [List.getElem?_map] at h1
    cases hxi : xs[i]? with
    | none => rw [hxi] at h1; cases h1
    | some y =>
      rw [hxi] at h1
      simp only [Option.map_some, Option.some.injEq] at h1
      have hlt : i < n := by rw [← hn]; exact (List.getElem?_eq_some_iff.1 hxi).1
      have h2 := hel i hlt
      rw [hxi, hce, Nat.mul_one] at h2
      obtain ⟨k', e1, e2, _⟩ := DataW.trod_int he h2
      rw [e2] at h1
      simp only [DataW.lit.injEq, Lit.int.injEq, true_and] at h1
      subst h1
      exact one_of_take e1
theorem pairs_of_trod {t e e0 n fuel : Nat} {cs : List Value} {l : List (Int × Int)} {p : List MemPlace} (ht : P.underlying t = some (.array n e)) (he : P.underlying e = some (.array 2 e0)) (he0 : P.underlying e0 = some (.int .i64)) (hce : P.cellsOf e = 2) (hce0 : P.cellsOf e0 = 1)
    (h : DataW.trod enc P w base sp held fuel t cs = some (.agg (l.map fun k => .agg [.lit (.int .i64 k.1), .lit (.int .i64 k.2)]), p)) : ∀ (i : Nat) (x y : Int), l[i]? = some (x, y) → cs[i * 2]? = some (.int .i64 x) ∧ cs[i * 2 + 1]? = some (.int .i64 y) := by
  obtain ⟨xs, m, _, hx, _, hn, hel⟩ := DataW.trod_array ht h
  injection hx with hx _
  injection hx with hx
  intro i x y hli
  have h1 : (xs.map (·.1))[i]? = some (.agg [.lit (.int .i64 x), .lit (.int .i64 y)]) := by rw [← hx, List.getElem?_map, hli]; rfl
  rw [List.getElem?_map] at h1
  cases hxi : xs[i]? with
  | none => rw [hxi] at h1; cases h1
  | some z =>
    rw [hxi] at h1
    simp only [Option.map_some, Option.some.injEq] at h1
    have hlt : i < n := by rw [← hn]; exact (List.getElem?_eq_some_iff.1 hxi).1
    have h2 := hel i hlt
    rw [hxi, hce] at h2
    obtain ⟨z1, z2⟩ := z
    simp only at h1
    subst h1
    have h3 := ints_of_trod (l := [x, y]) he he0 hce0 h2
    constructor
    · have := h3 0 (.int .i64 x) rfl
      rw [List.getElem?_take_of_lt (by omega), List.getElem?_drop] at this
      exact this
    · have := h3 1 (.int .i64 y) rfl
      rw [List.getElem?_take_of_lt (by omega), List.getElem?_drop] at this
      exact this
end
end
theorem func_cell {P : Program} {w : World} {sp : Nat → Bool} {t e n fuel : Nat} {cs : List Value} {ds : List (DataW (List UInt8))} {q : List MemPlace} {ps rs : Array TypeId} {va : Bool} (ht : P.underlying t = some (.array n e)) (he : P.underlying e = some (.func ps rs va)) (hce : P.cellsOf e = 1) (hct : P.cellsOf t = n)
    (h : DataW.trod (funcToken P) P w 0 sp true fuel t cs = some (.agg ds, q)) {i : Nat} {b : UInt8} {r : List UInt8} {f0 : FuncId} (hi : ds[i]? = some (.held (b :: r))) (hone : ((List.range P.funcs.size).filter fun f => (P.funcs[f]?).any (·.name.toUTF8.data.toList == b :: r)) = [f0]) : cs[i]? = some (.func (.func f0) #[] #[]) := by
  obtain ⟨xs, m, _, hx, hlen, hn, hel⟩ := DataW.trod_array ht h
  injection hx with hx _
  injection hx with hx
  rw [hx, List.getElem?_map] at hi
  cases hxi : xs[i]? with
  | none => rw [hxi] at hi; cases hi
  | some y =>
    rw [hxi] at hi
    simp only [Option.map_some, Option.some.injEq] at hi
    have hlt : i < n := by rw [← hn]; exact (List.getElem?_eq_some_iff.1 hxi).1
    have h2 := hel i hlt
    rw [hxi, hce, Nat.mul_one] at h2
    have hlt' : i < cs.length := by rw [hlen, hct]; exact hlt
    have h3 : (cs.drop i).take 1 = [cs[i]] := by
      rw [List.drop_eq_getElem_cons hlt', List.take_succ_cons, List.take_zero]
    rw [h3] at h2
    obtain ⟨y1, y2⟩ := y
    simp only at hi
    subst hi
    have := func_of_trod he hone h2
    rw [List.getElem?_eq_getElem hlt', this]
section
variable {W : World} {l : List (String × DataW Unit)}
theorem gn_kinds : Tryz.prog.globalNamed "passepartout/read.kinds" = some 0 := by kernel_rfl
theorem gt_kinds : (Tryz.prog.globals[0]?).map (·.type) = some 206 := by kernel_rfl
theorem gn_limits : Tryz.prog.globalNamed "passepartout/record.limits" = some 1 := by kernel_rfl
theorem gt_limits : (Tryz.prog.globals[1]?).map (·.type) = some 228 := by kernel_rfl
theorem gn_plain : Tryz.prog.globalNamed "passepartout/dertag.plain" = some 3 := by kernel_rfl
theorem gt_plain : (Tryz.prog.globals[3]?).map (·.type) = some 311 := by kernel_rfl
theorem gn_made : Tryz.prog.globalNamed "passepartout/dertag.made" = some 4 := by kernel_rfl
theorem gt_made : (Tryz.prog.globals[4]?).map (·.type) = some 227 := by kernel_rfl
theorem gn_days : Tryz.prog.globalNamed "passepartout/dertype.days" = some 5 := by kernel_rfl
theorem gt_days : (Tryz.prog.globals[5]?).map (·.type) = some 321 := by kernel_rfl
theorem gn_tab : Tryz.prog.globalNamed "math/bits.deBruijn64tab" = some 10 := by kernel_rfl
theorem int1 : Tryz.prog.cellsOf 3 = 1 := by kernel_rfl
theorem gsize : 11 = 10 + 1 := by decide
theorem ints_at {n : String} {d : DataW Unit} {g0 t0 k : Nat} {xs : List Int} (h : laidMetH Tryz.prog l W) (hm : (n, d) ∈ l) (hd : d = .agg (xs.map fun k => .lit (.int .i64 k))) (hg : Tryz.prog.globalNamed n = some g0) (ht : (Tryz.prog.globals[g0]?).map (·.type) = some t0) (hu : Tryz.prog.underlying t0 = some (.array k 3)) : LaidAt W g0 (i64s xs) := by
  obtain ⟨g, t, cs, fuel, p, h1, h2, h3, h4⟩ := laid_mem h hm (by rw [hd]; rfl)
  obtain rfl := Option.some.inj (hg.symm.trans h1)
  obtain rfl := Option.some.inj (ht.symm.trans h2)
  rw [hd] at h4
  intro i x hx
  have := ints_of_trod hu Tryz.underlying3 int1 h4 i x hx
  rw [World.var?_cell h1 h3 i]
  simpa using this
theorem laid_of (h : laidMetH Tryz.prog l W) (m0 : ("passepartout/read.kinds", Rows.laid_passepartout_read_kinds) ∈ l) (m1 : ("passepartout/dertag.plain", Rows.laid_passepartout_dertag_plain) ∈ l) (m2 : ("passepartout/dertag.made", Rows.laid_passepartout_dertag_made) ∈ l) (m3 : ("passepartout/dertype.days", Rows.laid_passepartout_dertype_days) ∈ l) (m4 : ("math/bits.deBruijn64tab", Rows.laid_math_bits_deBruijn64tab) ∈ l) : Laid W := by
  obtain ⟨g, t, cs, fuel, p, h1, h2, h3, h4⟩ := h.funcs m0
  obtain rfl := Option.some.inj (gn_kinds.symm.trans h1)
  obtain rfl := Option.some.inj (gt_kinds.symm.trans h2)
  have hc6 : Tryz.prog.cellsOf 206 = 6 := by kernel_rfl
  have hc1 : Tryz.prog.cellsOf 205 = 1 := by kernel_rfl
  have cell : ∀ i v, cs.toList[i]? = some v → W.cell? ⟨0, i, none⟩ = some v := fun i v hv => by
    rw [World.var?_cell h1 h3 i]
    simpa using hv
  have hsz : 11 ≤ W.heap.size := by
    obtain ⟨g, t, cs, fuel, p, k1, k2, k3, k4⟩ := laid_mem h m4 rfl
    obtain rfl := Option.some.inj (gn_tab.symm.trans k1)
    simp only [World.var?, gn_tab, Option.bind_some] at k3
    have : 10 < W.heap.size := by
      cases hb : W.heap[10]? with
      | none => rw [hb] at k3; cases k3
      | some o => exact (Array.getElem?_eq_some_iff.1 hb).1
    rw [gsize]
    omega
  refine ⟨hsz, cell 0 _ (func_cell (i := 0) (f0 := 304) Tryz.underlying206 Tryz.underlying205 hc1 hc6 h4 rfl (by kernel_rfl)), cell 1 _ (func_cell (i := 1) (f0 := 305) Tryz.underlying206 Tryz.underlying205 hc1 hc6 h4 rfl (by kernel_rfl)),
    cell 4 _ (func_cell (i := 4) (f0 := 306) Tryz.underlying206 Tryz.underlying205 hc1 hc6 h4 rfl (by kernel_rfl)), cell 5 _ (func_cell (i := 5) (f0 := 307) Tryz.underlying206 Tryz.underlying205 hc1 hc6 h4 rfl (by kernel_rfl)), ?_, ?_, ?_⟩
  · exact ints_at h m1 rfl gn_plain gt_plain Tryz.underlying311
  · exact ints_at h m2 rfl gn_made gt_made Tryz.underlying227
  · exact ints_at h m3 rfl gn_days gt_days Tryz.underlying321
theorem limits_of (h : laidMetH Tryz.prog l W) (m : ("passepartout/record.limits", Rows.laid_passepartout_record_limits) ∈ l) (hla : Laid W) : LaidLim W := by
  refine ⟨hla.size, ?_⟩
  obtain ⟨g, t, cs, fuel, p, h1, h2, h3, h4⟩ := laid_mem h m rfl
  obtain rfl := Option.some.inj (gn_limits.symm.trans h1)
  obtain rfl := Option.some.inj (gt_limits.symm.trans h2)
  have hc2 : Tryz.prog.cellsOf 227 = 2 := by kernel_rfl
  have cell : ∀ i v, cs.toList[i]? = some v → W.cell? ⟨1, i, none⟩ = some v := fun i v hv => by
    rw [World.var?_cell h1 h3 i]
    simpa using hv
  have hp := pairs_of_trod (l := [(1, 1), (2, 2), (1, 16384), (0, 16640)]) Tryz.underlying228 Tryz.underlying227 Tryz.underlying3 hc2 int1 h4
  obtain ⟨a0, b0⟩ := hp 0 1 1 rfl
  obtain ⟨a1, b1⟩ := hp 1 2 2 rfl
  obtain ⟨a2, b2⟩ := hp 2 1 16384 rfl
  obtain ⟨a3, b3⟩ := hp 3 0 16640 rfl
  intro i x hx
  match i, hx with
  | 0, hx => cases hx; exact cell 0 _ a0
  | 1, hx => cases hx; exact cell 1 _ b0
  | 2, hx => cases hx; exact cell 2 _ a1
  | 3, hx => cases hx; exact cell 3 _ b1
  | 4, hx => cases hx; exact cell 4 _ a2
  | 5, hx => cases hx; exact cell 5 _ b2
  | 6, hx => cases hx; exact cell 6 _ a3
  | 7, hx => cases hx; exact cell 7 _ b3
  | n + 8, hx => simp [i64s] at hx
end
end Go.Proofs.YtalbiepdkaldmaaGreatDoor
namespace Go.Proofs.YtalbiepdkaldmaaGreatDoor
open Go.ChangeShapes Go.WideShapes Go.ChangeAt Go.RowKit
theorem laid_out : laidOutB Tryz.prog = true := by kernel_rfl
theorem own_knob : ownKnob Tryz.prog.godebug = none := by kernel_rfl
theorem trod_all_below {H : Type} {enc : TypeId × Value → H} {P : Program} (hl : laidOutB P = true) {W W' : World} (hb : Below W.heap.size W W') : ∀ {ts : List TypeId} {vs : List Value} {ds : List (DataW H)} {ps : List MemPlace}, (∀ t ∈ ts, P.readableRec t = true ∧ t < P.types.size) →
    DataW.TrodAll enc P W 0 (fun _ => true) true ts vs ds ps → (∀ x ∈ ps, x.block < W.heap.size) → DataW.TrodAll enc P W' 0 (fun b => decide (b < W.heap.size)) true ts vs ds ps
  | [], _, _, _, _, h, _ => by
    obtain ⟨rfl, rfl, rfl⟩ := trodAll_nil h
    exact h
  | t :: ts, _, _, _, hr, h, hlt => by
    obtain ⟨v, vs1, d, ds1, a, b, rfl, rfl, rfl, h1, h2⟩ := trodAll_cons h
    exact ⟨a, b, Below.trod hl (hr t (List.mem_cons_self ..)).1 (hr t (List.mem_cons_self ..)).2 h1 hb (fun x hx => hlt x (List.mem_append_left _ hx)), trod_all_below hl hb (fun u hu => hr u (List.mem_cons_of_mem _ hu)) h2 (fun x hx => hlt x (List.mem_append_right _ hx)), rfl⟩
theorem law_post {H : Type} {enc : TypeId × Value → H} {P : Program} {f : Func} {s : ChangeSpec} {W W' : World} {args : Array Value} {ds : List (DataW H)} {p : List MemPlace} {tb : TypeId} (hl : laidOutB P = true) (hv : s.vars = []) (hW : DataW.Whole enc P f.params.toList s.vars false W args.toList ds [] p)
    (hfn : s.fn H (ds ++ []) = { results := [.lit (.bool true)], args := ds }) (hrt : f.resultTypes = #[tb]) (hb : P.underlying tb = some .bool) (hx : Below W.heap.size W W') (hr : ∀ t ∈ f.params.toList, P.readableRec t = true ∧ t < P.types.size) : s.post enc P f false true false false W args (.bool true) W' := by
  obtain ⟨p1, q1, hA, hV, hp, hfz, hnd⟩ := id hW
  have hlt := hW.lt
  rw [hv] at hV
  obtain rfl : q1 = [] := hV
  rw [List.append_nil] at hp
  subst hp
  refine ⟨ds, [], _, [], p, [], hW, ?_, ?_, ?_, hx.frame _, fun h => by cases h⟩
  · rw [hfn, hrt]
    exact trodAll_mk1 (shut_bool hb true)
  · rw [hfn]
    exact trod_all_below hl hx hr hA (fun x hx => by simpa using hlt x hx)
  · rw [hfn, hv]
    rfl
end Go.Proofs.YtalbiepdkaldmaaGreatDoor
