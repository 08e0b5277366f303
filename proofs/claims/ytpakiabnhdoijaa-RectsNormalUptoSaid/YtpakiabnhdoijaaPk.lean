/- The three tests of combinations. No condition. -/
import Derived.Test.YtpakiabnhdoijaaBase
namespace Go.Proofs.Ytpakiabnhdoijaa
open Go.RowKit

set_option maxHeartbeats 1000000 in
theorem join_k (a b : Bool) (w : World) : Calls Try.prog 43 #[.bool a, .bool b] w fun E w' => E = .returned (.bool (Rc.kJoin a b)) ∧ w = w' := by
  cases a <;> cases b
  all_goals
    go_enter Try.func43, Try.ntmps43
    go_wp2_with fail
    go_ret
    exact ⟨rfl, rfl⟩
set_option maxHeartbeats 1000000 in
theorem meet_k (a b : Bool) (w : World) : Calls Try.prog 45 #[.bool a, .bool b] w fun E w' => E = .returned (.bool (Rc.kMeet a b)) ∧ w = w' := by
  cases a <;> cases b
  all_goals
    go_enter Try.func45, Try.ntmps45
    go_wp2_with fail
    go_ret
    exact ⟨rfl, rfl⟩
set_option maxHeartbeats 1000000 in
theorem less_k (a b : Bool) (w : World) : Calls Try.prog 46 #[.bool a, .bool b] w fun E w' => E = .returned (.bool (Rc.kLess a b)) ∧ w = w' := by
  cases a <;> cases b
  all_goals
    go_enter Try.func46, Try.ntmps46
    go_wp2_with fail
    go_ret
    exact ⟨rfl, rfl⟩

/-- Which function of the program a combination asks. -/
def kFun (n : Nat) : Bool → Bool → Bool := if n = 43 then Rc.kJoin else if n = 45 then Rc.kMeet else Rc.kLess
theorem any_k (n : Nat) (hn : n = 43 ∨ n = 45 ∨ n = 46) (a b : Bool) (w : World) : Calls Try.prog n #[.bool a, .bool b] w fun E w' => E = .returned (.bool (kFun n a b)) ∧ w = w' := by
  rcases hn with rfl | rfl | rfl
  · exact join_k a b w
  · exact meet_k a b w
  · exact less_k a b w

end Go.Proofs.Ytpakiabnhdoijaa
