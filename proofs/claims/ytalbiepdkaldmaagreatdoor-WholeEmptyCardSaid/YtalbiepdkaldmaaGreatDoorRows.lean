/-
  NARROWER THAN 'FOR EVERY INPUT', by the rows' own cells (each row's printed sentence says how): MessageReads: laid · StreamPlaces: laid · StreamData: laid · StreamNone: laid · WholeEmpty: laid.
  DERIVED. THE GIVEN ROWS OF THIS SEAT. 5 by the template 'for every input the law returns true; each argument reads behind the call as it read before'; 0 by the template 'total and deterministic' (their statements: YtalbiepdkaldmaaGreatDoorTotals.lean).
  GIVEN WITH THE SEED: the statements are not yours to turn. If you find one false, say at which input.
  Laid BY PROGRAM, IN A SANDBOX (cutbox-rows.mjs): the forced cells as the released guide's own fill.sh prints them over the translation 6b0595b25a00354f… (all of the seat's roots in one cut). By AI agents, Wed Nov 11 2026. No macro, syntax, notation, axiom, sorry.
-/
import Derived.Test.YtalbiepdkaldmaaGreatDoorChecked
import GoSem.Claim
import GoSem.ClaimJoined
import GoSem.ClaimMapViews
import Derived.JoinedTies
import Derived.KernelRfl
namespace Go.Proofs.YtalbiepdkaldmaaGreatDoor
/- THE CELL 'sum', in the pinned program and in every row, IS THE sha256 OF THE DUMP (.gsa) THAT YtalbiepdkaldmaaGreatDoorProg.lean LOADS. Nothing in Lean hashes anything: it is a label: what it is worth is what the hold of that sum in a sandbox is worth. -/
noncomputable def Tryz.pinned : Pinned := { name := "ytalbiepdkaldmaagreatdoor", sum := "6b0595b25a00354f49d08cd063bc3bb6691592eff96280e68ed8bca9f6784bbc", checked := Tryz.checked }
namespace Rows
def none {H : Type} : Left H := { results := [], args := [] }

/- WHAT THE LISTED PACKAGE-LEVEL VARIABLES READ AS WHEN THE CALL BEGINS. Each datum BY PROGRAM (the guide's laid-datum.mjs) off the statement by which the dump's own 'gosem.cut.vars' lays the variable. In a bare row this is a premise. The card (YtalbiepdkaldmaaGreatDoorCards.lean) ties it to the program's text. -/
def laid_math_bits_deBruijn32tab {H : Type} : DataW H := .agg [.lit (.int .u8 0), .lit (.int .u8 1), .lit (.int .u8 28), .lit (.int .u8 2), .lit (.int .u8 29), .lit (.int .u8 14), .lit (.int .u8 24), .lit (.int .u8 3), .lit (.int .u8 30), .lit (.int .u8 22), .lit (.int .u8 20), .lit (.int .u8 15), .lit (.int .u8 25), .lit (.int .u8 17), .lit (.int .u8 4), .lit (.int .u8 8), .lit (.int .u8 31), .lit (.int .u8 27), .lit (.int .u8 13), .lit (.int .u8 23), .lit (.int .u8 21), .lit (.int .u8 19), .lit (.int .u8 16), .lit (.int .u8 7), .lit (.int .u8 26), .lit (.int .u8 12), .lit (.int .u8 18), .lit (.int .u8 6), .lit (.int .u8 11), .lit (.int .u8 5), .lit (.int .u8 10), .lit (.int .u8 9)]
def laid_math_bits_deBruijn64tab {H : Type} : DataW H := .agg [.lit (.int .u8 0), .lit (.int .u8 1), .lit (.int .u8 56), .lit (.int .u8 2), .lit (.int .u8 57), .lit (.int .u8 49), .lit (.int .u8 28), .lit (.int .u8 3), .lit (.int .u8 61), .lit (.int .u8 58), .lit (.int .u8 42), .lit (.int .u8 50), .lit (.int .u8 38), .lit (.int .u8 29), .lit (.int .u8 17), .lit (.int .u8 4), .lit (.int .u8 62), .lit (.int .u8 47), .lit (.int .u8 59), .lit (.int .u8 36), .lit (.int .u8 45), .lit (.int .u8 43), .lit (.int .u8 51), .lit (.int .u8 22), .lit (.int .u8 53), .lit (.int .u8 39), .lit (.int .u8 33), .lit (.int .u8 30), .lit (.int .u8 24), .lit (.int .u8 18), .lit (.int .u8 12), .lit (.int .u8 5), .lit (.int .u8 63), .lit (.int .u8 55), .lit (.int .u8 48), .lit (.int .u8 27), .lit (.int .u8 60), .lit (.int .u8 41), .lit (.int .u8 37), .lit (.int .u8 16), .lit (.int .u8 46), .lit (.int .u8 35), .lit (.int .u8 44), .lit (.int .u8 21), .lit (.int .u8 52), .lit (.int .u8 32), .lit (.int .u8 23), .lit (.int .u8 11), .lit (.int .u8 54), .lit (.int .u8 26), .lit (.int .u8 40), .lit (.int .u8 15), .lit (.int .u8 34), .lit (.int .u8 20), .lit (.int .u8 31), .lit (.int .u8 10), .lit (.int .u8 25), .lit (.int .u8 14), .lit (.int .u8 19), .lit (.int .u8 9), .lit (.int .u8 13), .lit (.int .u8 8), .lit (.int .u8 7), .lit (.int .u8 6)]
def laid_internal_strconv_uint64pow10 {H : Type} : DataW H := .agg [.lit (.int .u64 1), .lit (.int .u64 10), .lit (.int .u64 100), .lit (.int .u64 1000), .lit (.int .u64 10000), .lit (.int .u64 100000), .lit (.int .u64 1000000), .lit (.int .u64 10000000), .lit (.int .u64 100000000), .lit (.int .u64 1000000000), .lit (.int .u64 10000000000), .lit (.int .u64 100000000000), .lit (.int .u64 1000000000000), .lit (.int .u64 10000000000000), .lit (.int .u64 100000000000000), .lit (.int .u64 1000000000000000), .lit (.int .u64 10000000000000000), .lit (.int .u64 100000000000000000), .lit (.int .u64 1000000000000000000), .lit (.int .u64 10000000000000000000)]
def laid_strconv_ErrRange {H : Type} : DataW H := .iface "*errors.errorString" (.ptr (.agg [.lit (.string [118, 97, 108, 117, 101, 32, 111, 117, 116, 32, 111, 102, 32, 114, 97, 110, 103, 101])]))
def laid_strconv_ErrSyntax {H : Type} : DataW H := .iface "*errors.errorString" (.ptr (.agg [.lit (.string [105, 110, 118, 97, 108, 105, 100, 32, 115, 121, 110, 116, 97, 120])]))
def laid_passepartout_dertag_plain {H : Type} : DataW H := .agg [.lit (.int .i64 1), .lit (.int .i64 2), .lit (.int .i64 3), .lit (.int .i64 4), .lit (.int .i64 5), .lit (.int .i64 6), .lit (.int .i64 10), .lit (.int .i64 12), .lit (.int .i64 18), .lit (.int .i64 19), .lit (.int .i64 20), .lit (.int .i64 22), .lit (.int .i64 23), .lit (.int .i64 24), .lit (.int .i64 26), .lit (.int .i64 28), .lit (.int .i64 30)]
def laid_passepartout_dertag_made {H : Type} : DataW H := .agg [.lit (.int .i64 16), .lit (.int .i64 17)]
def laid_passepartout_read_kinds {H : Type} : DataW H := .iface "func table" (.agg [.iface "func" (.lit (.string [40, 42, 112, 97, 115, 115, 101, 112, 97, 114, 116, 111, 117, 116, 47, 114, 101, 97, 100, 46, 114, 101, 97, 100, 101, 114, 41, 46, 110, 117, 109, 98, 101, 114])), .iface "func" (.lit (.string [40, 42, 112, 97, 115, 115, 101, 112, 97, 114, 116, 111, 117, 116, 47, 114, 101, 97, 100, 46, 114, 101, 97, 100, 101, 114, 41, 46, 111, 112, 97, 113, 117, 101])), .nil, .nil, .iface "func" (.lit (.string [40, 42, 112, 97, 115, 115, 101, 112, 97, 114, 116, 111, 117, 116, 47, 114, 101, 97, 100, 46, 114, 101, 97, 100, 101, 114, 41, 46, 114, 101, 115, 116])), .iface "func" (.lit (.string [40, 42, 112, 97, 115, 115, 101, 112, 97, 114, 116, 111, 117, 116, 47, 114, 101, 97, 100, 46, 114, 101, 97, 100, 101, 114, 41, 46, 102, 105, 120, 101, 100]))])
def laid_passepartout_dertype_days {H : Type} : DataW H := .agg [.lit (.int .i64 31), .lit (.int .i64 28), .lit (.int .i64 31), .lit (.int .i64 30), .lit (.int .i64 31), .lit (.int .i64 30), .lit (.int .i64 31), .lit (.int .i64 31), .lit (.int .i64 30), .lit (.int .i64 31), .lit (.int .i64 30), .lit (.int .i64 31)]
def laid_passepartout_ext_mark {H : Type} : DataW H := .agg [.lit (.int .u8 207), .lit (.int .u8 33), .lit (.int .u8 173), .lit (.int .u8 116), .lit (.int .u8 229), .lit (.int .u8 154), .lit (.int .u8 97), .lit (.int .u8 17), .lit (.int .u8 190), .lit (.int .u8 29), .lit (.int .u8 140), .lit (.int .u8 2), .lit (.int .u8 30), .lit (.int .u8 101), .lit (.int .u8 184), .lit (.int .u8 145), .lit (.int .u8 194), .lit (.int .u8 162), .lit (.int .u8 17), .lit (.int .u8 22), .lit (.int .u8 122), .lit (.int .u8 187), .lit (.int .u8 140), .lit (.int .u8 94), .lit (.int .u8 7), .lit (.int .u8 158), .lit (.int .u8 9), .lit (.int .u8 226), .lit (.int .u8 200), .lit (.int .u8 168), .lit (.int .u8 51), .lit (.int .u8 156)]
def laid_passepartout_record_limits {H : Type} : DataW H := .agg [.agg [.lit (.int .i64 1), .lit (.int .i64 1)], .agg [.lit (.int .i64 2), .lit (.int .i64 2)], .agg [.lit (.int .i64 1), .lit (.int .i64 16384)], .agg [.lit (.int .i64 0), .lit (.int .i64 16640)]]

/-- 'passepartoutlaw16.MessageReads': WHATEVER THE INPUT: true; the input reads as it did. -/
def messageReadsSpec : ChangeSpec := { name := "messageReads", fn := fun _ => fun
  | [d1, d2] => { results := [.lit (.bool true)], args := [d1, d2] }
  | _ => none }
def messageReadsRow : OpenClaim := { program := "ytalbiepdkaldmaagreatdoor", sum := "6b0595b25a00354f49d08cd063bc3bb6691592eff96280e68ed8bca9f6784bbc", func := "passepartout/passepartoutlaw16.MessageReads", spec := "messageReads", inPlace := ["sync/atomic.LoadInt64", "sync/atomic.CompareAndSwapInt64"], unfollowed := true, recurses := true, named := ["passepartout/read.kinds", "passepartout/ext.mark", "passepartout/dertag.plain", "passepartout/dertag.made", "passepartout/dertype.days", "strconv.ErrSyntax", "strconv.ErrRange", "internal/strconv.uint64pow10", "math/bits.deBruijn32tab", "math/bits.deBruijn64tab"], plainKeys := false, apart := false, laid := [("math/bits.deBruijn32tab", laid_math_bits_deBruijn32tab), ("math/bits.deBruijn64tab", laid_math_bits_deBruijn64tab), ("internal/strconv.uint64pow10", laid_internal_strconv_uint64pow10), ("strconv.ErrRange", laid_strconv_ErrRange), ("strconv.ErrSyntax", laid_strconv_ErrSyntax), ("passepartout/dertag.plain", laid_passepartout_dertag_plain), ("passepartout/dertag.made", laid_passepartout_dertag_made), ("passepartout/read.kinds", laid_passepartout_read_kinds), ("passepartout/dertype.days", laid_passepartout_dertype_days), ("passepartout/ext.mark", laid_passepartout_ext_mark)] }
def MessageReadsSaid : Prop := messageReadsRow.holds Tryz.pinned (OpenSpec.ofChange messageReadsSpec)

/-- ITS FALSE NEIGHBOUR: 'it returns false'. Refute it at one input. -/
def messageReadsWrong : ChangeSpec := { name := "messageReads", fn := fun _ => fun
  | [d1, d2] => { results := [.lit (.bool false)], args := [d1, d2] }
  | _ => none }
def MessageReadsWrongFalsely : Prop := messageReadsRow.holds Tryz.pinned (OpenSpec.ofChange messageReadsWrong)

/-- 'passepartoutlaw19.StreamPlaces': WHATEVER THE INPUT: true; the input reads as it did. -/
def streamPlacesSpec : ChangeSpec := { name := "streamPlaces", fn := fun _ => fun
  | [d1, d2, d3] => { results := [.lit (.bool true)], args := [d1, d2, d3] }
  | _ => none }
def streamPlacesRow : OpenClaim := { program := "ytalbiepdkaldmaagreatdoor", sum := "6b0595b25a00354f49d08cd063bc3bb6691592eff96280e68ed8bca9f6784bbc", func := "passepartout/passepartoutlaw19.StreamPlaces", spec := "streamPlaces", inPlace := ["sync/atomic.LoadInt64", "sync/atomic.CompareAndSwapInt64"], unfollowed := true, recurses := true, named := ["passepartout/record.limits", "passepartout/read.kinds", "passepartout/ext.mark", "passepartout/dertag.plain", "passepartout/dertag.made", "passepartout/dertype.days", "strconv.ErrSyntax", "strconv.ErrRange", "internal/strconv.uint64pow10", "math/bits.deBruijn32tab", "math/bits.deBruijn64tab"], plainKeys := false, apart := false, laid := [("math/bits.deBruijn32tab", laid_math_bits_deBruijn32tab), ("math/bits.deBruijn64tab", laid_math_bits_deBruijn64tab), ("internal/strconv.uint64pow10", laid_internal_strconv_uint64pow10), ("strconv.ErrRange", laid_strconv_ErrRange), ("strconv.ErrSyntax", laid_strconv_ErrSyntax), ("passepartout/dertag.plain", laid_passepartout_dertag_plain), ("passepartout/dertag.made", laid_passepartout_dertag_made), ("passepartout/record.limits", laid_passepartout_record_limits), ("passepartout/read.kinds", laid_passepartout_read_kinds), ("passepartout/dertype.days", laid_passepartout_dertype_days), ("passepartout/ext.mark", laid_passepartout_ext_mark)] }
def StreamPlacesSaid : Prop := streamPlacesRow.holds Tryz.pinned (OpenSpec.ofChange streamPlacesSpec)

/-- ITS FALSE NEIGHBOUR: 'it returns false'. Refute it at one input. -/
def streamPlacesWrong : ChangeSpec := { name := "streamPlaces", fn := fun _ => fun
  | [d1, d2, d3] => { results := [.lit (.bool false)], args := [d1, d2, d3] }
  | _ => none }
def StreamPlacesWrongFalsely : Prop := streamPlacesRow.holds Tryz.pinned (OpenSpec.ofChange streamPlacesWrong)

/-- 'passepartoutlaw19.StreamData': WHATEVER THE INPUT: true; the input reads as it did. -/
def streamDataSpec : ChangeSpec := { name := "streamData", fn := fun _ => fun
  | [d1, d2, d3] => { results := [.lit (.bool true)], args := [d1, d2, d3] }
  | _ => none }
def streamDataRow : OpenClaim := { program := "ytalbiepdkaldmaagreatdoor", sum := "6b0595b25a00354f49d08cd063bc3bb6691592eff96280e68ed8bca9f6784bbc", func := "passepartout/passepartoutlaw19.StreamData", spec := "streamData", inPlace := ["sync/atomic.LoadInt64", "sync/atomic.CompareAndSwapInt64"], unfollowed := true, recurses := true, named := ["passepartout/record.limits", "passepartout/read.kinds", "passepartout/ext.mark", "passepartout/dertag.plain", "passepartout/dertag.made", "passepartout/dertype.days", "strconv.ErrSyntax", "strconv.ErrRange", "internal/strconv.uint64pow10", "math/bits.deBruijn32tab", "math/bits.deBruijn64tab"], plainKeys := false, apart := false, laid := [("math/bits.deBruijn32tab", laid_math_bits_deBruijn32tab), ("math/bits.deBruijn64tab", laid_math_bits_deBruijn64tab), ("internal/strconv.uint64pow10", laid_internal_strconv_uint64pow10), ("strconv.ErrRange", laid_strconv_ErrRange), ("strconv.ErrSyntax", laid_strconv_ErrSyntax), ("passepartout/dertag.plain", laid_passepartout_dertag_plain), ("passepartout/dertag.made", laid_passepartout_dertag_made), ("passepartout/record.limits", laid_passepartout_record_limits), ("passepartout/read.kinds", laid_passepartout_read_kinds), ("passepartout/dertype.days", laid_passepartout_dertype_days), ("passepartout/ext.mark", laid_passepartout_ext_mark)] }
def StreamDataSaid : Prop := streamDataRow.holds Tryz.pinned (OpenSpec.ofChange streamDataSpec)

/-- ITS FALSE NEIGHBOUR: 'it returns false'. Refute it at one input. -/
def streamDataWrong : ChangeSpec := { name := "streamData", fn := fun _ => fun
  | [d1, d2, d3] => { results := [.lit (.bool false)], args := [d1, d2, d3] }
  | _ => none }
def StreamDataWrongFalsely : Prop := streamDataRow.holds Tryz.pinned (OpenSpec.ofChange streamDataWrong)

/-- 'passepartoutlaw19.StreamNone': WHATEVER THE INPUT: true; the input reads as it did. -/
def streamNoneSpec : ChangeSpec := { name := "streamNone", fn := fun _ => fun
  | [d1, d2] => { results := [.lit (.bool true)], args := [d1, d2] }
  | _ => none }
def streamNoneRow : OpenClaim := { program := "ytalbiepdkaldmaagreatdoor", sum := "6b0595b25a00354f49d08cd063bc3bb6691592eff96280e68ed8bca9f6784bbc", func := "passepartout/passepartoutlaw19.StreamNone", spec := "streamNone", inPlace := ["sync/atomic.LoadInt64", "sync/atomic.CompareAndSwapInt64"], unfollowed := true, recurses := true, named := ["passepartout/record.limits", "passepartout/read.kinds", "passepartout/ext.mark", "passepartout/dertag.plain", "passepartout/dertag.made", "passepartout/dertype.days", "strconv.ErrSyntax", "strconv.ErrRange", "internal/strconv.uint64pow10", "math/bits.deBruijn32tab", "math/bits.deBruijn64tab"], plainKeys := false, apart := false, laid := [("math/bits.deBruijn32tab", laid_math_bits_deBruijn32tab), ("math/bits.deBruijn64tab", laid_math_bits_deBruijn64tab), ("internal/strconv.uint64pow10", laid_internal_strconv_uint64pow10), ("strconv.ErrRange", laid_strconv_ErrRange), ("strconv.ErrSyntax", laid_strconv_ErrSyntax), ("passepartout/dertag.plain", laid_passepartout_dertag_plain), ("passepartout/dertag.made", laid_passepartout_dertag_made), ("passepartout/record.limits", laid_passepartout_record_limits), ("passepartout/read.kinds", laid_passepartout_read_kinds), ("passepartout/dertype.days", laid_passepartout_dertype_days), ("passepartout/ext.mark", laid_passepartout_ext_mark)] }
def StreamNoneSaid : Prop := streamNoneRow.holds Tryz.pinned (OpenSpec.ofChange streamNoneSpec)

/-- ITS FALSE NEIGHBOUR: 'it returns false'. Refute it at one input. -/
def streamNoneWrong : ChangeSpec := { name := "streamNone", fn := fun _ => fun
  | [d1, d2] => { results := [.lit (.bool false)], args := [d1, d2] }
  | _ => none }
def StreamNoneWrongFalsely : Prop := streamNoneRow.holds Tryz.pinned (OpenSpec.ofChange streamNoneWrong)

/-- 'passepartoutlaw21.WholeEmpty': WHATEVER THE INPUT: true; the input reads as it did. -/
def wholeEmptySpec : ChangeSpec := { name := "wholeEmpty", fn := fun _ => fun
  | [d1, d2, d3] => { results := [.lit (.bool true)], args := [d1, d2, d3] }
  | _ => none }
def wholeEmptyRow : OpenClaim := { program := "ytalbiepdkaldmaagreatdoor", sum := "6b0595b25a00354f49d08cd063bc3bb6691592eff96280e68ed8bca9f6784bbc", func := "passepartout/passepartoutlaw21.WholeEmpty", spec := "wholeEmpty", inPlace := ["sync/atomic.LoadInt64", "sync/atomic.CompareAndSwapInt64"], unfollowed := true, recurses := true, named := ["passepartout/record.limits", "passepartout/read.kinds", "passepartout/ext.mark", "passepartout/dertag.plain", "passepartout/dertag.made", "passepartout/dertype.days", "strconv.ErrSyntax", "strconv.ErrRange", "internal/strconv.uint64pow10", "math/bits.deBruijn32tab", "math/bits.deBruijn64tab"], plainKeys := false, apart := false, laid := [("math/bits.deBruijn32tab", laid_math_bits_deBruijn32tab), ("math/bits.deBruijn64tab", laid_math_bits_deBruijn64tab), ("internal/strconv.uint64pow10", laid_internal_strconv_uint64pow10), ("strconv.ErrRange", laid_strconv_ErrRange), ("strconv.ErrSyntax", laid_strconv_ErrSyntax), ("passepartout/dertag.plain", laid_passepartout_dertag_plain), ("passepartout/dertag.made", laid_passepartout_dertag_made), ("passepartout/record.limits", laid_passepartout_record_limits), ("passepartout/read.kinds", laid_passepartout_read_kinds), ("passepartout/dertype.days", laid_passepartout_dertype_days), ("passepartout/ext.mark", laid_passepartout_ext_mark)] }
def WholeEmptySaid : Prop := wholeEmptyRow.holds Tryz.pinned (OpenSpec.ofChange wholeEmptySpec)

/-- ITS FALSE NEIGHBOUR: 'it returns false'. Refute it at one input. -/
def wholeEmptyWrong : ChangeSpec := { name := "wholeEmpty", fn := fun _ => fun
  | [d1, d2, d3] => { results := [.lit (.bool false)], args := [d1, d2, d3] }
  | _ => none }
def WholeEmptyWrongFalsely : Prop := wholeEmptyRow.holds Tryz.pinned (OpenSpec.ofChange wholeEmptyWrong)

/- THE SECOND FORM. 'bulk': how many values and letters a reading holds, each counted each time it is reached (what is shared counts as often as it is met; a slice's spare places count too). A statement '..UptoSaid' is the law's where the arguments, and the package variables that the reading takes, are together of bulk at most 1048576: NARROWER than '..Said'. Prove '..Said' where nothing that the law and all that it calls make is longer than what came in: it says more and counts as full. Else prove '..UptoSaid'. A law counts once. -/
mutual
def uptoBulk {H : Type} : DataW H → Nat
  | .lit (.string bytes) => bytes.length + 1
  | .lit _ => 1
  | .nil => 1
  | .ptr d => uptoBulk d + 1
  | .slice elems spare => uptoBulkAll elems + uptoBulkAll spare + 1
  | .agg parts => uptoBulkAll parts + 1
  | .iface _ d => uptoBulk d + 1
  | .map entries => uptoBulkEntries entries + 1
  | .held _ => 1
def uptoBulkAll {H : Type} : List (DataW H) → Nat
  | [] => 0
  | d :: r => uptoBulk d + uptoBulkAll r
def uptoBulkEntries {H : Type} : List (Lit × DataW H) → Nat
  | [] => 0
  | x :: r => uptoBulkEntry x + uptoBulkEntries r
def uptoBulkEntry {H : Type} : Lit × DataW H → Nat
  | (.string bytes, d) => bytes.length + uptoBulk d + 1
  | (_, d) => uptoBulk d + 1
 end
def uptoSmall : (H : Type) → List (DataW H) → Bool := fun _ ds => decide (uptoBulkAll ds ≤ 1048576)
def OpenSpec.upto (s : _root_.Go.ChangeSpec) : _root_.Go.OpenSpec := { _root_.Go.OpenSpec.ofChange s with cond := some uptoSmall }

/-- 'passepartoutlaw16.MessageReads', WHERE WHAT IT READS IS OF BULK AT MOST 1048576: true; the input reads as it did. -/
def messageReadsUptoRow : OpenClaim := { program := "ytalbiepdkaldmaagreatdoor", sum := "6b0595b25a00354f49d08cd063bc3bb6691592eff96280e68ed8bca9f6784bbc", func := "passepartout/passepartoutlaw16.MessageReads", spec := "messageReads", inPlace := ["sync/atomic.LoadInt64", "sync/atomic.CompareAndSwapInt64"], unfollowed := true, recurses := true, named := ["passepartout/read.kinds", "passepartout/ext.mark", "passepartout/dertag.plain", "passepartout/dertag.made", "passepartout/dertype.days", "strconv.ErrSyntax", "strconv.ErrRange", "internal/strconv.uint64pow10", "math/bits.deBruijn32tab", "math/bits.deBruijn64tab"], plainKeys := false, apart := false, laid := [("math/bits.deBruijn32tab", laid_math_bits_deBruijn32tab), ("math/bits.deBruijn64tab", laid_math_bits_deBruijn64tab), ("internal/strconv.uint64pow10", laid_internal_strconv_uint64pow10), ("strconv.ErrRange", laid_strconv_ErrRange), ("strconv.ErrSyntax", laid_strconv_ErrSyntax), ("passepartout/dertag.plain", laid_passepartout_dertag_plain), ("passepartout/dertag.made", laid_passepartout_dertag_made), ("passepartout/read.kinds", laid_passepartout_read_kinds), ("passepartout/dertype.days", laid_passepartout_dertype_days), ("passepartout/ext.mark", laid_passepartout_ext_mark)], narrowed := true }
def MessageReadsUptoSaid : Prop := messageReadsUptoRow.holds Tryz.pinned (OpenSpec.upto messageReadsSpec)

/-- 'passepartoutlaw19.StreamPlaces', WHERE WHAT IT READS IS OF BULK AT MOST 1048576: true; the input reads as it did. -/
def streamPlacesUptoRow : OpenClaim := { program := "ytalbiepdkaldmaagreatdoor", sum := "6b0595b25a00354f49d08cd063bc3bb6691592eff96280e68ed8bca9f6784bbc", func := "passepartout/passepartoutlaw19.StreamPlaces", spec := "streamPlaces", inPlace := ["sync/atomic.LoadInt64", "sync/atomic.CompareAndSwapInt64"], unfollowed := true, recurses := true, named := ["passepartout/record.limits", "passepartout/read.kinds", "passepartout/ext.mark", "passepartout/dertag.plain", "passepartout/dertag.made", "passepartout/dertype.days", "strconv.ErrSyntax", "strconv.ErrRange", "internal/strconv.uint64pow10", "math/bits.deBruijn32tab", "math/bits.deBruijn64tab"], plainKeys := false, apart := false, laid := [("math/bits.deBruijn32tab", laid_math_bits_deBruijn32tab), ("math/bits.deBruijn64tab", laid_math_bits_deBruijn64tab), ("internal/strconv.uint64pow10", laid_internal_strconv_uint64pow10), ("strconv.ErrRange", laid_strconv_ErrRange), ("strconv.ErrSyntax", laid_strconv_ErrSyntax), ("passepartout/dertag.plain", laid_passepartout_dertag_plain), ("passepartout/dertag.made", laid_passepartout_dertag_made), ("passepartout/record.limits", laid_passepartout_record_limits), ("passepartout/read.kinds", laid_passepartout_read_kinds), ("passepartout/dertype.days", laid_passepartout_dertype_days), ("passepartout/ext.mark", laid_passepartout_ext_mark)], narrowed := true }
def StreamPlacesUptoSaid : Prop := streamPlacesUptoRow.holds Tryz.pinned (OpenSpec.upto streamPlacesSpec)

/-- 'passepartoutlaw19.StreamData', WHERE WHAT IT READS IS OF BULK AT MOST 1048576: true; the input reads as it did. -/
def streamDataUptoRow : OpenClaim := { program := "ytalbiepdkaldmaagreatdoor", sum := "6b0595b25a00354f49d08cd063bc3bb6691592eff96280e68ed8bca9f6784bbc", func := "passepartout/passepartoutlaw19.StreamData", spec := "streamData", inPlace := ["sync/atomic.LoadInt64", "sync/atomic.CompareAndSwapInt64"], unfollowed := true, recurses := true, named := ["passepartout/record.limits", "passepartout/read.kinds", "passepartout/ext.mark", "passepartout/dertag.plain", "passepartout/dertag.made", "passepartout/dertype.days", "strconv.ErrSyntax", "strconv.ErrRange", "internal/strconv.uint64pow10", "math/bits.deBruijn32tab", "math/bits.deBruijn64tab"], plainKeys := false, apart := false, laid := [("math/bits.deBruijn32tab", laid_math_bits_deBruijn32tab), ("math/bits.deBruijn64tab", laid_math_bits_deBruijn64tab), ("internal/strconv.uint64pow10", laid_internal_strconv_uint64pow10), ("strconv.ErrRange", laid_strconv_ErrRange), ("strconv.ErrSyntax", laid_strconv_ErrSyntax), ("passepartout/dertag.plain", laid_passepartout_dertag_plain), ("passepartout/dertag.made", laid_passepartout_dertag_made), ("passepartout/record.limits", laid_passepartout_record_limits), ("passepartout/read.kinds", laid_passepartout_read_kinds), ("passepartout/dertype.days", laid_passepartout_dertype_days), ("passepartout/ext.mark", laid_passepartout_ext_mark)], narrowed := true }
def StreamDataUptoSaid : Prop := streamDataUptoRow.holds Tryz.pinned (OpenSpec.upto streamDataSpec)

/-- 'passepartoutlaw19.StreamNone', WHERE WHAT IT READS IS OF BULK AT MOST 1048576: true; the input reads as it did. -/
def streamNoneUptoRow : OpenClaim := { program := "ytalbiepdkaldmaagreatdoor", sum := "6b0595b25a00354f49d08cd063bc3bb6691592eff96280e68ed8bca9f6784bbc", func := "passepartout/passepartoutlaw19.StreamNone", spec := "streamNone", inPlace := ["sync/atomic.LoadInt64", "sync/atomic.CompareAndSwapInt64"], unfollowed := true, recurses := true, named := ["passepartout/record.limits", "passepartout/read.kinds", "passepartout/ext.mark", "passepartout/dertag.plain", "passepartout/dertag.made", "passepartout/dertype.days", "strconv.ErrSyntax", "strconv.ErrRange", "internal/strconv.uint64pow10", "math/bits.deBruijn32tab", "math/bits.deBruijn64tab"], plainKeys := false, apart := false, laid := [("math/bits.deBruijn32tab", laid_math_bits_deBruijn32tab), ("math/bits.deBruijn64tab", laid_math_bits_deBruijn64tab), ("internal/strconv.uint64pow10", laid_internal_strconv_uint64pow10), ("strconv.ErrRange", laid_strconv_ErrRange), ("strconv.ErrSyntax", laid_strconv_ErrSyntax), ("passepartout/dertag.plain", laid_passepartout_dertag_plain), ("passepartout/dertag.made", laid_passepartout_dertag_made), ("passepartout/record.limits", laid_passepartout_record_limits), ("passepartout/read.kinds", laid_passepartout_read_kinds), ("passepartout/dertype.days", laid_passepartout_dertype_days), ("passepartout/ext.mark", laid_passepartout_ext_mark)], narrowed := true }
def StreamNoneUptoSaid : Prop := streamNoneUptoRow.holds Tryz.pinned (OpenSpec.upto streamNoneSpec)

/-- 'passepartoutlaw21.WholeEmpty', WHERE WHAT IT READS IS OF BULK AT MOST 1048576: true; the input reads as it did. -/
def wholeEmptyUptoRow : OpenClaim := { program := "ytalbiepdkaldmaagreatdoor", sum := "6b0595b25a00354f49d08cd063bc3bb6691592eff96280e68ed8bca9f6784bbc", func := "passepartout/passepartoutlaw21.WholeEmpty", spec := "wholeEmpty", inPlace := ["sync/atomic.LoadInt64", "sync/atomic.CompareAndSwapInt64"], unfollowed := true, recurses := true, named := ["passepartout/record.limits", "passepartout/read.kinds", "passepartout/ext.mark", "passepartout/dertag.plain", "passepartout/dertag.made", "passepartout/dertype.days", "strconv.ErrSyntax", "strconv.ErrRange", "internal/strconv.uint64pow10", "math/bits.deBruijn32tab", "math/bits.deBruijn64tab"], plainKeys := false, apart := false, laid := [("math/bits.deBruijn32tab", laid_math_bits_deBruijn32tab), ("math/bits.deBruijn64tab", laid_math_bits_deBruijn64tab), ("internal/strconv.uint64pow10", laid_internal_strconv_uint64pow10), ("strconv.ErrRange", laid_strconv_ErrRange), ("strconv.ErrSyntax", laid_strconv_ErrSyntax), ("passepartout/dertag.plain", laid_passepartout_dertag_plain), ("passepartout/dertag.made", laid_passepartout_dertag_made), ("passepartout/record.limits", laid_passepartout_record_limits), ("passepartout/read.kinds", laid_passepartout_read_kinds), ("passepartout/dertype.days", laid_passepartout_dertype_days), ("passepartout/ext.mark", laid_passepartout_ext_mark)], narrowed := true }
def WholeEmptyUptoSaid : Prop := wholeEmptyUptoRow.holds Tryz.pinned (OpenSpec.upto wholeEmptySpec)

end Rows
end Go.Proofs.YtalbiepdkaldmaaGreatDoor
