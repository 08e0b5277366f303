/- DrillMoves: what the program's code holds. No condition. -/
import Derived.Test.YtljjbdbgedmadaaGreatDoorBase
import Derived.Test.YtljjbdbgedmadaaGreatDoorTie
import Derived.Test.YtljjbdbgedmadaaGreatDoorCards
import Derived.SevenTiedAt
import Derived.Carry
namespace Go.Proofs.YtljjbdbgedmadaaGreatDoor.drillMoves
open Go.RowKit

theorem jp1 : (Rows.drillMovesRow.inPlace == Tryz.pinned.checked.prog.inPlace 6) = true := by kernel_rfl
theorem jp2 : (Rows.drillMovesRow.unfollowed == Tryz.pinned.checked.prog.unfollowed 6) = true := by kernel_rfl
theorem jp3 : (Rows.drillMovesRow.recurses == Tryz.pinned.checked.prog.recurses 6) = true := by kernel_rfl
theorem jp4 : (Rows.drillMovesRow.named == Tryz.pinned.checked.prog.varsNamed 6) = true := by kernel_rfl
theorem jf : joinedFacts Tryz.pinned.checked.prog 6 Tryz.f6 Rows.drillMovesSpec Rows.drillMovesRow = true := by
  unfold joinedFacts
  rw [jp1, jp2, jp3, jp4]
  kernel_rfl
end Go.Proofs.YtljjbdbgedmadaaGreatDoor.drillMoves
