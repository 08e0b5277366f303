/- The row of the chapter's example. No condition. -/
import Derived.Test.YtldjhjbodhhnbaaDoorWf
namespace Go.Proofs.YtldjhjbodhhnbaaDoor
open Go.RowKit
set_option maxHeartbeats 1000000 in
set_option maxRecDepth 100000 in
theorem example_any (w : World) : Calls Tryd.prog 22 #[] w fun E w' => E = .returned (.agg #[.string ⟨#[85, 49]⟩, .string ⟨#[82]⟩, .int .i64 100, .int .i64 (-50), .int .i64 1, .bool false]) ∧ Kp w w' none := by
  go_enter Tryd.func22, Tryd.ntmps22
  go_wp2
  exact bodyPost_ret (v := .agg #[.string ⟨#[85, 49]⟩, .string ⟨#[82]⟩, .int .i64 100, .int .i64 (-50), .int .i64 1, .bool false]) (by simp [results, Tryd.results22, go_sem]) rfl ⟨rfl, (Kp.refl _ _).alloc _⟩
end Go.Proofs.YtldjhjbodhhnbaaDoor
