/- Rounded rectangles that are made. Condition: coordinates of at most 10^6. -/
import Derived.Test.YtggplbenliaodaaDoorSh
namespace Go.Proofs.YtggplbenliaodaaDoor
open Go.RowKit

end Go.Proofs.YtggplbenliaodaaDoor
