/- Whether an edge is valid, on the reference's side. No condition.
   The reference's test of a shape. Condition: at most 10^6 edges. -/
import Derived.Test.YtljjbdbgedmadaaGreatDoorEn
import Derived.Test.YtljjbdbgedmadaaGreatDoorVe
import Derived.Test.YtljjbdbgedmadaaGreatDoorPt
import Derived.Test.YtljjbdbgedmadaaGreatDoorPlA

namespace Go.Proofs.YtljjbdbgedmadaaGreatDoor
open Go.RowKit

end Go.Proofs.YtljjbdbgedmadaaGreatDoor

namespace Go.Proofs.YtljjbdbgedmadaaGreatDoor
open Go.RowKit

theorem ret_bool {a b : Bool} (h : a = b) : Ending.returned (.bool a) = .returned (.bool b) := by rw [h]
end Go.Proofs.YtljjbdbgedmadaaGreatDoor
