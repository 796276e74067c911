/- The closed facts of StreamNone's row. -/
import Derived.Test.YtalbiepdkaldmaaGreatDoorRows
import Derived.JoinedOf
namespace Go.Proofs.YtalbiepdkaldmaaGreatDoor
theorem streamNone_inPlace : (Rows.streamNoneRow.inPlace == Tryz.prog.inPlace 6) = true := by kernel_rfl
theorem streamNone_unfollowed : (Rows.streamNoneRow.unfollowed == Tryz.prog.unfollowed 6) = true := by kernel_rfl
theorem streamNone_recurses : (Rows.streamNoneRow.recurses == Tryz.prog.recurses 6) = true := by kernel_rfl
theorem streamNone_named : (Rows.streamNoneRow.named == Tryz.prog.varsNamed 6) = true := by kernel_rfl
theorem streamNone_closed : joinedFacts Tryz.prog 6 Tryz.f6 Rows.streamNoneSpec Rows.streamNoneRow = true := by
  unfold joinedFacts
  rw [streamNone_inPlace, streamNone_unfollowed, streamNone_recurses, streamNone_named]
  kernel_rfl
end Go.Proofs.YtalbiepdkaldmaaGreatDoor
