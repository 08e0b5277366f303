/- Motions of points, on the program's side. Condition: coordinates within 2^61. -/
import Derived.Test.YtljjbdbgedmadaaGreatDoorVe
namespace Go.Proofs.YtljjbdbgedmadaaGreatDoor
open Go.RowKit


set_option maxHeartbeats 4000000 in
set_option maxRecDepth 100000 in
theorem apply_1false (ax ay t x y : Int) (w : World) (h1 : Mid x) (h2 : Mid y) (h3 : Mid ax) (h4 : Mid ay) (ht : t % 4 = 1) :
    Calls Tryz.prog 60 #[.agg #[.int .i64 ax, .int .i64 ay, .int .i64 t, .bool false], .agg #[.int .i64 x, .int .i64 y]] w fun E w' => E = .returned (.agg #[.int .i64 (-y + ax), .int .i64 (x + ay)]) ∧ Kp w w' none := by
  have hm1 : Mid (-x) := by unfold Mid at *; omega
  have hm2 : Mid (-y) := by unfold Mid at *; omega
  have H1 := Lib.hid h1
  have H2 := Lib.hid h2
  have H3 := Lib.hid h3
  have H4 := Lib.hid h4
  have HM1 := Lib.hid hm1
  have HM2 := Lib.hid hm2
  unfold Mid at h1 h2 h3 h4
  have n1 : wrap64 (-x) = -x := wrap_mid (by omega) (by omega)
  have n2 : wrap64 (-y) = -y := wrap_mid (by omega) (by omega)
  have n3 : wrap64 (- -x) = x := by rw [Int.neg_neg]; exact wrap_mid (by omega) (by omega)
  have n4 : wrap64 (- -y) = y := by rw [Int.neg_neg]; exact wrap_mid (by omega) (by omega)
  have n5 : wrap64 x = x := wrap_mid (by omega) (by omega)
  have n6 : wrap64 y = y := wrap_mid (by omega) (by omega)
  clear h1 h2 h3 h4 hm1 hm2
  have hc := turns_any ax ay t false
  rw [ht] at hc
  clear ht
  go_enter Tryz.func60, Tryz.ntmps60
  go_wp2_with (go_at_call 58; refine (hc _).mono ?_; rintro e w1 ⟨rfl, rfl⟩)
  refine wp_loop_rounds 2 ?_
  rw [rounds_succ]
  go_wp2_with fail
  rw [rounds_succ]
  go_wp2_with fail
  refine (vadd_x (-y) (x) ax ay _ HM2.out H1.out H3.out H4.out).mono ?_
  rintro e w2 ⟨rfl, rfl⟩
  go_wp2_with fail
  go_returns
  exact ⟨rfl, by repeat first | exact Kp.refl _ _ | refine Kp.alloc ?_ _⟩

set_option maxHeartbeats 4000000 in
set_option maxRecDepth 100000 in
theorem apply_3false (ax ay t x y : Int) (w : World) (h1 : Mid x) (h2 : Mid y) (h3 : Mid ax) (h4 : Mid ay) (ht : t % 4 = 3) :
    Calls Tryz.prog 60 #[.agg #[.int .i64 ax, .int .i64 ay, .int .i64 t, .bool false], .agg #[.int .i64 x, .int .i64 y]] w fun E w' => E = .returned (.agg #[.int .i64 (y + ax), .int .i64 (-x + ay)]) ∧ Kp w w' none := by
  have hm1 : Mid (-x) := by unfold Mid at *; omega
  have hm2 : Mid (-y) := by unfold Mid at *; omega
  have H1 := Lib.hid h1
  have H2 := Lib.hid h2
  have H3 := Lib.hid h3
  have H4 := Lib.hid h4
  have HM1 := Lib.hid hm1
  have HM2 := Lib.hid hm2
  unfold Mid at h1 h2 h3 h4
  have n1 : wrap64 (-x) = -x := wrap_mid (by omega) (by omega)
  have n2 : wrap64 (-y) = -y := wrap_mid (by omega) (by omega)
  have n3 : wrap64 (- -x) = x := by rw [Int.neg_neg]; exact wrap_mid (by omega) (by omega)
  have n4 : wrap64 (- -y) = y := by rw [Int.neg_neg]; exact wrap_mid (by omega) (by omega)
  have n5 : wrap64 x = x := wrap_mid (by omega) (by omega)
  have n6 : wrap64 y = y := wrap_mid (by omega) (by omega)
  clear h1 h2 h3 h4 hm1 hm2
  have hc := turns_any ax ay t false
  rw [ht] at hc
  clear ht
  go_enter Tryz.func60, Tryz.ntmps60
  go_wp2_with (go_at_call 58; refine (hc _).mono ?_; rintro e w1 ⟨rfl, rfl⟩)
  refine wp_loop_rounds 4 ?_
  rw [rounds_succ]
  go_wp2_with fail
  rw [rounds_succ]
  go_wp2_with fail
  rw [rounds_succ]
  go_wp2_with fail
  rw [rounds_succ]
  go_wp2_with fail
  refine (vadd_x (y) (-x) ax ay _ H2.out HM1.out H3.out H4.out).mono ?_
  rintro e w2 ⟨rfl, rfl⟩
  go_wp2_with fail
  go_returns
  exact ⟨rfl, by repeat first | exact Kp.refl _ _ | refine Kp.alloc ?_ _⟩

end Go.Proofs.YtljjbdbgedmadaaGreatDoor
