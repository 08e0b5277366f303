/- Points that numbers choose (Near). Condition: a width of at most 1000. -/
import Derived.Test.YtggplbenliaodaaDoorNx
namespace Go.Proofs.YtggplbenliaodaaDoor
open Go.RowKit

/-- A coordinate of some hundreds. -/
def Small (b x : Int) : Prop := -b ≤ x ∧ x ≤ b
end Go.Proofs.YtggplbenliaodaaDoor
