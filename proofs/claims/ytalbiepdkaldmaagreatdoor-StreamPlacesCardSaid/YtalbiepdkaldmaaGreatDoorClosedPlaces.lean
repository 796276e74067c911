/- The closed facts of StreamPlaces's row. -/
import Derived.Test.YtalbiepdkaldmaaGreatDoorRows
import Derived.JoinedOf
namespace Go.Proofs.YtalbiepdkaldmaaGreatDoor
theorem streamPlaces_inPlace : (Rows.streamPlacesRow.inPlace == Tryz.prog.inPlace 4) = true := by kernel_rfl
theorem streamPlaces_unfollowed : (Rows.streamPlacesRow.unfollowed == Tryz.prog.unfollowed 4) = true := by kernel_rfl
theorem streamPlaces_recurses : (Rows.streamPlacesRow.recurses == Tryz.prog.recurses 4) = true := by kernel_rfl
theorem streamPlaces_named : (Rows.streamPlacesRow.named == Tryz.prog.varsNamed 4) = true := by kernel_rfl
theorem streamPlaces_closed : joinedFacts Tryz.prog 4 Tryz.f4 Rows.streamPlacesSpec Rows.streamPlacesRow = true := by
  unfold joinedFacts
  rw [streamPlaces_inPlace, streamPlaces_unfollowed, streamPlaces_recurses, streamPlaces_named]
  kernel_rfl
end Go.Proofs.YtalbiepdkaldmaaGreatDoor
