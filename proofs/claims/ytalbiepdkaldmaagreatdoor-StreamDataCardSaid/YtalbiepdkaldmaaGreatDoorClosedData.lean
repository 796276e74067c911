/- The closed facts of StreamData's row. -/
import Derived.Test.YtalbiepdkaldmaaGreatDoorRows
import Derived.JoinedOf
namespace Go.Proofs.YtalbiepdkaldmaaGreatDoor
theorem streamData_inPlace : (Rows.streamDataRow.inPlace == Tryz.prog.inPlace 5) = true := by kernel_rfl
theorem streamData_unfollowed : (Rows.streamDataRow.unfollowed == Tryz.prog.unfollowed 5) = true := by kernel_rfl
theorem streamData_recurses : (Rows.streamDataRow.recurses == Tryz.prog.recurses 5) = true := by kernel_rfl
theorem streamData_named : (Rows.streamDataRow.named == Tryz.prog.varsNamed 5) = true := by kernel_rfl
theorem streamData_closed : joinedFacts Tryz.prog 5 Tryz.f5 Rows.streamDataSpec Rows.streamDataRow = true := by
  unfold joinedFacts
  rw [streamData_inPlace, streamData_unfollowed, streamData_recurses, streamData_named]
  kernel_rfl
end Go.Proofs.YtalbiepdkaldmaaGreatDoor
