/- The one number that is its own opposite. No condition. -/
import Derived.Test.YtfcbogoahangoaaDoorBase
namespace Go.Proofs.YtfcbogoahangoaaDoor
open Go.RowKit
theorem wrap_min : ∀ v : Nat, v = 9223372036854775808 → (-(v : Int) == wrap64 (v : Int)) = true ∧ (wrap64 (v : Int) != 0) = true := by
  intro v h; subst h; exact ⟨by decide +kernel, by decide +kernel⟩

end Go.Proofs.YtfcbogoahangoaaDoor
