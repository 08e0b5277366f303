/- DrillWrites: what the program's code holds. No condition. -/
import Derived.Test.YtljjbdbgedmadaaGreatDoorBase
import Derived.Test.YtljjbdbgedmadaaGreatDoorTie
import Derived.Test.YtljjbdbgedmadaaGreatDoorCards
import Derived.SevenTiedAt
import Derived.Carry
namespace Go.Proofs.YtljjbdbgedmadaaGreatDoor.drillWrites
open Go.RowKit

theorem jp1 : (Rows.drillWritesRow.inPlace == Tryz.pinned.checked.prog.inPlace 7) = true := by kernel_rfl
theorem jp2 : (Rows.drillWritesRow.unfollowed == Tryz.pinned.checked.prog.unfollowed 7) = true := by kernel_rfl
theorem jp3 : (Rows.drillWritesRow.recurses == Tryz.pinned.checked.prog.recurses 7) = true := by kernel_rfl
theorem jp4 : (Rows.drillWritesRow.named == Tryz.pinned.checked.prog.varsNamed 7) = true := by kernel_rfl
theorem jf : joinedFacts Tryz.pinned.checked.prog 7 Tryz.f7 Rows.drillWritesSpec Rows.drillWritesRow = true := by
  unfold joinedFacts
  rw [jp1, jp2, jp3, jp4]
  kernel_rfl
end Go.Proofs.YtljjbdbgedmadaaGreatDoor.drillWrites
