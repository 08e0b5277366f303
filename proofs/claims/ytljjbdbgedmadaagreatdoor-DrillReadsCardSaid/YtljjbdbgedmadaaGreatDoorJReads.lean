/- DrillReads: what the program's code holds. No condition. -/
import Derived.Test.YtljjbdbgedmadaaGreatDoorBase
import Derived.Test.YtljjbdbgedmadaaGreatDoorTie
import Derived.Test.YtljjbdbgedmadaaGreatDoorCards
import Derived.SevenTiedAt
import Derived.Carry
namespace Go.Proofs.YtljjbdbgedmadaaGreatDoor.drillReads
open Go.RowKit
theorem jp1 : (Rows.drillReadsRow.inPlace == Tryz.pinned.checked.prog.inPlace 3) = true := by kernel_rfl
theorem jp2 : (Rows.drillReadsRow.unfollowed == Tryz.pinned.checked.prog.unfollowed 3) = true := by kernel_rfl
theorem jp3 : (Rows.drillReadsRow.recurses == Tryz.pinned.checked.prog.recurses 3) = true := by kernel_rfl
theorem jp4 : (Rows.drillReadsRow.named == Tryz.pinned.checked.prog.varsNamed 3) = true := by kernel_rfl
theorem jf : joinedFacts Tryz.pinned.checked.prog 3 Tryz.f3 Rows.drillReadsSpec Rows.drillReadsRow = true := by
 unfold joinedFacts; rw [jp1, jp2, jp3, jp4]
 kernel_rfl
end Go.Proofs.YtljjbdbgedmadaaGreatDoor.drillReads
