/- The reference's comparisons: touch, Same, same. Condition: at most 2^16 elements. -/
import Derived.Test.YtpakiabnhdoijaaRb
namespace Go.Proofs.Ytpakiabnhdoijaa
open Go.RowKit

def recAgg (r : Rc.Rect) : Value := .agg (recVal r).toArray
def spanAgg (s : Rc.Span) : Value := .agg (spanVal s).toArray
/-- Whether two rectangles have a point in common. -/
def touch (a b : Rc.Rect) : Bool := decide (a.x0 ≤ b.x1 ∧ b.x0 ≤ a.x1 ∧ a.y0 ≤ b.y1 ∧ b.y0 ≤ a.y1)

set_option maxHeartbeats 4000000 in
theorem touch_any (a b : Rc.Rect) (w : World) : Calls Try.prog 42 #[recAgg a, recAgg b] w fun E w' => E = .returned (.bool (touch a b)) ∧ Kp w w' none := by
  obtain ⟨a0, a1, a2, a3⟩ := a
  obtain ⟨b0, b1, b2, b3⟩ := b
  unfold touch
  simp only []
  have e : ∃ v, decide (a0 ≤ b2 ∧ b0 ≤ a2 ∧ a1 ≤ b3 ∧ b1 ≤ a3) = v := ⟨_, rfl⟩
  obtain ⟨v, hv⟩ := e
  rw [hv]
  have HV := Lib.hid hv
  clear hv
  show Calls Try.prog 42 #[.agg #[.int .i64 a0, .int .i64 a1, .int .i64 a2, .int .i64 a3], .agg #[.int .i64 b0, .int .i64 b1, .int .i64 b2, .int .i64 b3]] w _
  have K0 : Hid (Kp w ((w.alloc (.cells #[.int .i64 a0, .int .i64 a1, .int .i64 a2, .int .i64 a3] 44)).alloc (.cells #[.int .i64 b0, .int .i64 b1, .int .i64 b2, .int .i64 b3] 44)) none) := Lib.hid (((Kp.refl _ _).alloc _).alloc _)
  by_cases h0 : a0 ≤ b2
  · by_cases h1 : b0 ≤ a2
    · by_cases h2 : a1 ≤ b3
      · by_cases h3 : b1 ≤ a3
        · have e : v = true := by rw [← HV.out]; exact decide_eq_true ⟨h0, h1, h2, h3⟩
          subst e
          go_enter Try.func42, Try.ntmps42
          go_wp2_with fail
          go_ret
          exact ⟨rfl, K0.out⟩
        · have e : v = false := by rw [← HV.out]; exact decide_eq_false fun h => h3 h.2.2.2
          subst e
          go_enter Try.func42, Try.ntmps42
          go_wp2_with fail
          go_ret
          exact ⟨rfl, K0.out⟩
      · have e : v = false := by rw [← HV.out]; exact decide_eq_false fun h => h2 h.2.2.1
        subst e
        go_enter Try.func42, Try.ntmps42
        go_wp2_with fail
        go_ret
        exact ⟨rfl, K0.out⟩
    · have e : v = false := by rw [← HV.out]; exact decide_eq_false fun h => h1 h.2.1
      subst e
      go_enter Try.func42, Try.ntmps42
      go_wp2_with fail
      go_ret
      exact ⟨rfl, K0.out⟩
  · have e : v = false := by rw [← HV.out]; exact decide_eq_false fun h => h0 h.1
    subst e
    go_enter Try.func42, Try.ntmps42
    go_wp2_with fail
    go_ret
    exact ⟨rfl, K0.out⟩

end Go.Proofs.Ytpakiabnhdoijaa
