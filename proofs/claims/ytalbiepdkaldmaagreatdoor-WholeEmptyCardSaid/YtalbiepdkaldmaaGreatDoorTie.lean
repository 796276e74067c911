/-
  DERIVED. GIVEN WITH THE SEED: THE PROGRAM's TIES (one call each: nine closed facts by the kernel) AND EACH ROW's TIE, after the 31st guide's Derived/Test/Toyas{Tie, Card}.lean. No idea stands in it: it is a product of the set-up. Laid BY PROGRAM, IN A SANDBOX (cutbox-door.mjs). By AI agents, Wed Nov 11 2026. No macro, syntax, notation, axiom, sorry.
-/
import Derived.Test.YtalbiepdkaldmaaGreatDoorRows
import Derived.LaidByTextLater
import Derived.SevenTiedAt
import Derived.LaidSub
import Derived.LaidOnce
namespace Go.Proofs.YtalbiepdkaldmaaGreatDoor
open Go
set_option maxRecDepth 100000
theorem seatTie1 : Tryz.prog.laidByTextLater [("math/bits.deBruijn32tab", Rows.laid_math_bits_deBruijn32tab), ("math/bits.deBruijn64tab", Rows.laid_math_bits_deBruijn64tab), ("internal/strconv.uint64pow10", Rows.laid_internal_strconv_uint64pow10), ("strconv.ErrRange", Rows.laid_strconv_ErrRange), ("strconv.ErrSyntax", Rows.laid_strconv_ErrSyntax), ("passepartout/dertag.plain", Rows.laid_passepartout_dertag_plain), ("passepartout/dertag.made", Rows.laid_passepartout_dertag_made), ("passepartout/record.limits", Rows.laid_passepartout_record_limits), ("passepartout/read.kinds", Rows.laid_passepartout_read_kinds), ("passepartout/dertype.days", Rows.laid_passepartout_dertype_days), ("passepartout/ext.mark", Rows.laid_passepartout_ext_mark)] [.data, .data, .data, .sentinel, .sentinel, .widerDeep, .widerDeep, .data, .funcs, .data, .data] true :=
  Program.laidByTextLater_by_one 96 8 65 (by kernel_rfl) (by kernel_rfl) (by kernel_rfl) (by kernel_rfl) (by kernel_rfl) (by kernel_rfl) (fun _ _ => by kernel_rfl)
theorem noOwnUnsafe : Tryz.pinned.checked.prog.headLifts.contains "ownunsafe" = false := by kernel_rfl
theorem tie : Tryz.prog.laidByTextLater [("math/bits.deBruijn32tab", Rows.laid_math_bits_deBruijn32tab), ("math/bits.deBruijn64tab", Rows.laid_math_bits_deBruijn64tab), ("internal/strconv.uint64pow10", Rows.laid_internal_strconv_uint64pow10), ("strconv.ErrRange", Rows.laid_strconv_ErrRange), ("strconv.ErrSyntax", Rows.laid_strconv_ErrSyntax), ("passepartout/dertag.plain", Rows.laid_passepartout_dertag_plain), ("passepartout/dertag.made", Rows.laid_passepartout_dertag_made), ("passepartout/read.kinds", Rows.laid_passepartout_read_kinds), ("passepartout/dertype.days", Rows.laid_passepartout_dertype_days), ("passepartout/ext.mark", Rows.laid_passepartout_ext_mark)] [.data, .data, .data, .sentinel, .sentinel, .widerDeep, .widerDeep, .funcs, .data, .data] true :=
  Program.laidByTextLater.sub seatTie1 ["math/bits.deBruijn32tab", "math/bits.deBruijn64tab", "internal/strconv.uint64pow10", "strconv.ErrRange", "strconv.ErrSyntax", "passepartout/dertag.plain", "passepartout/dertag.made", "passepartout/read.kinds", "passepartout/dertype.days", "passepartout/ext.mark"] (by kernel_rfl) (by kernel_rfl)
theorem messageReads_row_tie : Rows.messageReadsRow.laidByTextAt .later Tryz.pinned [.data, .data, .data, .sentinel, .sentinel, .widerDeep, .widerDeep, .funcs, .data, .data] true :=
  OpenClaim.laidByTextAt_later rfl rfl tie noOwnUnsafe
theorem tie2 : Tryz.prog.laidByTextLater [("math/bits.deBruijn32tab", Rows.laid_math_bits_deBruijn32tab), ("math/bits.deBruijn64tab", Rows.laid_math_bits_deBruijn64tab), ("internal/strconv.uint64pow10", Rows.laid_internal_strconv_uint64pow10), ("strconv.ErrRange", Rows.laid_strconv_ErrRange), ("strconv.ErrSyntax", Rows.laid_strconv_ErrSyntax), ("passepartout/dertag.plain", Rows.laid_passepartout_dertag_plain), ("passepartout/dertag.made", Rows.laid_passepartout_dertag_made), ("passepartout/record.limits", Rows.laid_passepartout_record_limits), ("passepartout/read.kinds", Rows.laid_passepartout_read_kinds), ("passepartout/dertype.days", Rows.laid_passepartout_dertype_days), ("passepartout/ext.mark", Rows.laid_passepartout_ext_mark)] [.data, .data, .data, .sentinel, .sentinel, .widerDeep, .widerDeep, .data, .funcs, .data, .data] true :=
  Program.laidByTextLater.sub seatTie1 ["math/bits.deBruijn32tab", "math/bits.deBruijn64tab", "internal/strconv.uint64pow10", "strconv.ErrRange", "strconv.ErrSyntax", "passepartout/dertag.plain", "passepartout/dertag.made", "passepartout/record.limits", "passepartout/read.kinds", "passepartout/dertype.days", "passepartout/ext.mark"] (by kernel_rfl) (by kernel_rfl)
theorem streamPlaces_row_tie : Rows.streamPlacesRow.laidByTextAt .later Tryz.pinned [.data, .data, .data, .sentinel, .sentinel, .widerDeep, .widerDeep, .data, .funcs, .data, .data] true :=
  OpenClaim.laidByTextAt_later rfl rfl tie2 noOwnUnsafe
theorem streamData_row_tie : Rows.streamDataRow.laidByTextAt .later Tryz.pinned [.data, .data, .data, .sentinel, .sentinel, .widerDeep, .widerDeep, .data, .funcs, .data, .data] true :=
  OpenClaim.laidByTextAt_later rfl rfl tie2 noOwnUnsafe
theorem streamNone_row_tie : Rows.streamNoneRow.laidByTextAt .later Tryz.pinned [.data, .data, .data, .sentinel, .sentinel, .widerDeep, .widerDeep, .data, .funcs, .data, .data] true :=
  OpenClaim.laidByTextAt_later rfl rfl tie2 noOwnUnsafe
theorem wholeEmpty_row_tie : Rows.wholeEmptyRow.laidByTextAt .later Tryz.pinned [.data, .data, .data, .sentinel, .sentinel, .widerDeep, .widerDeep, .data, .funcs, .data, .data] true :=
  OpenClaim.laidByTextAt_later rfl rfl tie2 noOwnUnsafe
theorem messageReadsUpto_row_tie : Rows.messageReadsUptoRow.laidByTextAt .later Tryz.pinned [.data, .data, .data, .sentinel, .sentinel, .widerDeep, .widerDeep, .funcs, .data, .data] true :=
  OpenClaim.laidByTextAt_later rfl rfl tie noOwnUnsafe
theorem streamPlacesUpto_row_tie : Rows.streamPlacesUptoRow.laidByTextAt .later Tryz.pinned [.data, .data, .data, .sentinel, .sentinel, .widerDeep, .widerDeep, .data, .funcs, .data, .data] true :=
  OpenClaim.laidByTextAt_later rfl rfl tie2 noOwnUnsafe
theorem streamDataUpto_row_tie : Rows.streamDataUptoRow.laidByTextAt .later Tryz.pinned [.data, .data, .data, .sentinel, .sentinel, .widerDeep, .widerDeep, .data, .funcs, .data, .data] true :=
  OpenClaim.laidByTextAt_later rfl rfl tie2 noOwnUnsafe
theorem streamNoneUpto_row_tie : Rows.streamNoneUptoRow.laidByTextAt .later Tryz.pinned [.data, .data, .data, .sentinel, .sentinel, .widerDeep, .widerDeep, .data, .funcs, .data, .data] true :=
  OpenClaim.laidByTextAt_later rfl rfl tie2 noOwnUnsafe
theorem wholeEmptyUpto_row_tie : Rows.wholeEmptyUptoRow.laidByTextAt .later Tryz.pinned [.data, .data, .data, .sentinel, .sentinel, .widerDeep, .widerDeep, .data, .funcs, .data, .data] true :=
  OpenClaim.laidByTextAt_later rfl rfl tie2 noOwnUnsafe
end Go.Proofs.YtalbiepdkaldmaaGreatDoor
