/- The row of WholeEmpty, and its card: of no bytes are a session without events, one byte is too few; at every most, number of pieces and byte. -/
import Derived.Test.YtalbiepdkaldmaaGreatDoorFront
import Derived.Test.YtalbiepdkaldmaaGreatDoorLawEmpty
import Derived.Test.YtalbiepdkaldmaaGreatDoorClosedEmpty
import Derived.Test.YtalbiepdkaldmaaGreatDoorTie
import Derived.Test.YtalbiepdkaldmaaGreatDoorCards
import Derived.SevenTiedAt
set_option linter.unusedVariables false
set_option linter.unusedSimpArgs false
namespace Go.Proofs.YtalbiepdkaldmaaGreatDoor
open Go.ChangeShapes Go.WideShapes Go.ChangeAt Go.RowKit
theorem wholeEmpty_met (os : Os) (args : Array Value) : laidMetH Tryz.prog Rows.wholeEmptyRow.laid ((World.doorLaid Tryz.prog 96 os).forCall (fun _ _ => 0) ⟨#[], args, []⟩).memory :=
  laidMetH_of_parts3 (fuel := 8) (laidMet_of_run' 8 (by as_aux_lemma => kernel_rfl) (by as_aux_lemma => kernel_rfl)) (by as_aux_lemma => kernel_rfl) (by as_aux_lemma => kernel_rfl)
theorem wholeEmpty_lits : ∀ t ∈ Tryz.f7.params.toList, Tryz.prog.readableRec t = true ∧ t < Tryz.prog.types.size := by
  have h : (Tryz.f7.params.toList.all fun t => Tryz.prog.readableRec t && decide (t < Tryz.prog.types.size)) = true := by kernel_rfl
  intro t ht
  have := List.all_eq_true.1 h t ht
  simp only [Bool.and_eq_true, decide_eq_true_eq] at this
  exact this
set_option maxRecDepth 100000 in
theorem wholeEmpty_lifted (os : Os) (started : os.Started) (H : Type) (enc : TypeId × Value → H) :
    ReturnsInHanded {} Tryz.checked os 7 .any (fun w args => (Rows.wholeEmptySpec.pre enc Tryz.prog Tryz.f7 [] false w args ∧ laidMetH Tryz.prog Rows.wholeEmptyRow.laid w) ∧ sizedMet enc Tryz.prog Tryz.f7 (OpenSpec.ofChange Rows.wholeEmptySpec) false w args)
      (Rows.wholeEmptySpec.post enc Tryz.prog Tryz.f7 false true false false) := by
  refine returnsInHanded_of_change_and (C := Tryz.checked) (X := fun w _ => laidMetH Tryz.prog Rows.wholeEmptyRow.laid w) (fun _ _ _ hh h => h.of_heap hh) own_knob started (by as_aux_lemma => kernel_rfl) Tryz.func7
    (ChangeSpec.witness_shaped (enc := enc) (C := Tryz.checked) (os := os) (X := fun w _ => laidMetH Tryz.prog Rows.wholeEmptyRow.laid w) false (World.doorLaid Tryz.prog 96 os) #[.int .i64 0, .int .i64 0, .int .u8 0] 8 rfl (World.shaped_of_RefB (by as_aux_lemma => kernel_rfl) (by as_aux_lemma => kernel_rfl)) (by as_aux_lemma => kernel_rfl) (by as_aux_lemma => kernel_rfl) (by as_aux_lemma => kernel_rfl) (wholeEmpty_met os _)) ?_
  intro W base args ds gs before hval0 hW _ _ hL _
  have hval : ∀ (j : Nat) t v, Tryz.f7.params[j]? = some t → args[j]? = some v → Value.okWide Tryz.prog W .any base t v := hval0
  have hW' := hW
  obtain ⟨p, q, hA0, hV, rfl, hfz, hnd⟩ := hW
  have hA : DataW.TrodAll enc Tryz.prog W 0 (fun _ => true) true Tryz.f7.params.toList args.toList ds p := hA0
  rw [Tryz.params7] at hA hval
  have HM : ("passepartout/record.limits", Rows.laid_passepartout_record_limits) ∈ Rows.wholeEmptyRow.laid := List.mem_of_getElem? (i := 7) rfl
  have hla : Laid W := laid_of hL (List.mem_of_getElem? (i := 8) rfl) (List.mem_of_getElem? (i := 5) rfl) (List.mem_of_getElem? (i := 6) rfl) (List.mem_of_getElem? (i := 9) rfl) (List.mem_of_getElem? (i := 1) rfl)
  obtain ⟨v0, v1, v2, d0, d1, d2, p0, p1, p2, rfl, rfl, rfl, h0, h1, h2⟩ := trodAll_three hA
  obtain ⟨n, rfl, rfl, rfl, hwn⟩ := open_int Tryz.underlying3 (hval 0 3 v0 rfl rfl) h0
  obtain ⟨q, rfl, rfl, rfl, hwq⟩ := open_int Tryz.underlying3 (hval 1 3 v1 rfl rfl) h1
  obtain ⟨k, rfl, rfl, rfl, hwk⟩ := open_int Tryz.underlying5 (hval 2 5 v2 rfl rfl) h2
  obtain ⟨rfl, rfl⟩ := trodVars_none hV
  refine (law_empty n q k W hwk hla (limits_of hL HM hla)).mono fun e W' ⟨he, hx⟩ => ?_
  subst he
  exact ⟨_, rfl, law_post (ds := [.lit (.int .i64 n), .lit (.int .i64 q), .lit (.int .u8 k)]) laid_out rfl hW' rfl (by as_aux_lemma => kernel_rfl) Tryz.underlying4 hx.to wholeEmpty_lits⟩
theorem wholeEmpty_holds : Rows.WholeEmptySaid :=
  OpenClaim.holds_of_wide 7 Tryz.f7 rfl rfl rfl rfl rfl rfl rfl ⟨rfl, rfl, rfl, rfl, rfl⟩ rfl rfl rfl rfl rfl (by as_aux_lemma => kernel_rfl) Tryz.func7 wholeEmpty_closed
    (of_decide_eq_true (by as_aux_lemma => kernel_rfl)) (by unfold Func.isWrapper; first | (rw [if_pos (by decide +kernel)]; kernel_rfl) | (rw [if_neg (by decide +kernel)]; exact ⟨rfl, rfl⟩))
    (fun os started H enc _ => wholeEmpty_lifted os started H enc)
theorem wholeEmpty_card_holds : Rows.WholeEmptyCardSaid :=
  Claim7.holds_tied_plain_at .later [] [.data, .data, .data, .sentinel, .sentinel, .widerDeep, .widerDeep, .data, .funcs, .data, .data] true (true, "4b32a5a4e44b45f94f14dcdced3c0effbe5cbc6e31a1c183494738779e417114") true
    wholeEmpty_holds (fun _ h => by cases h) (by as_aux_lemma => kernel_rfl) (fun _ h => by cases h) wholeEmpty_row_tie rfl ⟨rfl, rfl⟩ (by as_aux_lemma => kernel_rfl) rfl
    (fun f fn hf hfn => by
      obtain rfl : f = 7 := Option.some.inj ((show Tryz.prog.funcNamed "passepartout/passepartoutlaw21.WholeEmpty" = some 7 by as_aux_lemma => kernel_rfl).symm.trans hf) |>.symm
      obtain rfl : fn = Tryz.f7 := (Option.some.inj (Tryz.func7.symm.trans hfn)).symm
      exact ⟨by as_aux_lemma => kernel_rfl, fun j t ht => by
        rw [Tryz.params7] at ht
        have hm : t ∈ [3, 3, 5] := by simpa using Array.mem_of_getElem? ht
        have hall : ([3, 3, 5].all fun u => !Tryz.prog.wantsStandIn u) = true := by kernel_rfl
        exact (show Tryz.prog.wantsStandIn t = false by simpa using List.all_eq_true.1 hall t hm)⟩)
    (by as_aux_lemma => kernel_rfl)
#print axioms wholeEmpty_card_holds
end Go.Proofs.YtalbiepdkaldmaaGreatDoor
