/- The closed facts of WholeEmpty's row. -/
import Derived.Test.YtalbiepdkaldmaaGreatDoorRows
import Derived.JoinedOf
namespace Go.Proofs.YtalbiepdkaldmaaGreatDoor
theorem wholeEmpty_inPlace : (Rows.wholeEmptyRow.inPlace == Tryz.prog.inPlace 7) = true := by kernel_rfl
theorem wholeEmpty_unfollowed : (Rows.wholeEmptyRow.unfollowed == Tryz.prog.unfollowed 7) = true := by kernel_rfl
theorem wholeEmpty_recurses : (Rows.wholeEmptyRow.recurses == Tryz.prog.recurses 7) = true := by kernel_rfl
theorem wholeEmpty_named : (Rows.wholeEmptyRow.named == Tryz.prog.varsNamed 7) = true := by kernel_rfl
theorem wholeEmpty_closed : joinedFacts Tryz.prog 7 Tryz.f7 Rows.wholeEmptySpec Rows.wholeEmptyRow = true := by
  unfold joinedFacts
  rw [wholeEmpty_inPlace, wholeEmpty_unfollowed, wholeEmpty_recurses, wholeEmpty_named]
  kernel_rfl
end Go.Proofs.YtalbiepdkaldmaaGreatDoor
