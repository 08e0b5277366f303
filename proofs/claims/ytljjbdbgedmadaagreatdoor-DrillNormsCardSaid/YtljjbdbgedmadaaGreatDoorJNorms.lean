/- DrillNorms: what the program's code holds. No condition. -/
import Derived.Test.YtljjbdbgedmadaaGreatDoorBase
import Derived.Test.YtljjbdbgedmadaaGreatDoorTie
import Derived.Test.YtljjbdbgedmadaaGreatDoorCards
import Derived.SevenTiedAt
import Derived.Carry
namespace Go.Proofs.YtljjbdbgedmadaaGreatDoor.drillNorms
open Go.RowKit

theorem jp1 : (Rows.drillNormsRow.inPlace == Tryz.pinned.checked.prog.inPlace 8) = true := by kernel_rfl
theorem jp2 : (Rows.drillNormsRow.unfollowed == Tryz.pinned.checked.prog.unfollowed 8) = true := by kernel_rfl
theorem jp3 : (Rows.drillNormsRow.recurses == Tryz.pinned.checked.prog.recurses 8) = true := by kernel_rfl
theorem jp4 : (Rows.drillNormsRow.named == Tryz.pinned.checked.prog.varsNamed 8) = true := by kernel_rfl
theorem jf : joinedFacts Tryz.pinned.checked.prog 8 Tryz.f8 Rows.drillNormsSpec Rows.drillNormsRow = true := by
  unfold joinedFacts
  rw [jp1, jp2, jp3, jp4]
  kernel_rfl
end Go.Proofs.YtljjbdbgedmadaaGreatDoor.drillNorms
