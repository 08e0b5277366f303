/- Points: sums, differences, turns, as both sides reckon them. Condition: coordinates whose sums fit into 62 bits. -/
import Derived.Test.YtljjbdbgedmadaaGreatDoorBase
import Derived.Handy
namespace Go.Proofs.YtljjbdbgedmadaaGreatDoor
open Go.RowKit

/-- Within 2^61. -/
def Mid (n : Int) : Prop := -2305843009213693952 ≤ n ∧ n ≤ 2305843009213693952
theorem wrap_mid {n : Int} (h1 : -4611686018427387904 ≤ n) (h2 : n ≤ 4611686018427387904) : wrap64 n = n := by unfold wrap64; omega

set_option maxRecDepth 100000 in
theorem radd_x (ax ay bx bY : Int) (w : World) (h1 : Mid ax) (h2 : Mid ay) (h3 : Mid bx) (h4 : Mid bY) :
    Calls Tryz.prog 135 #[.agg #[.int .i64 ax, .int .i64 ay], .agg #[.int .i64 bx, .int .i64 bY]] w fun E w' => E = .returned (.agg #[.int .i64 (ax + bx), .int .i64 (ay + bY)]) ∧ w' = ((w.alloc (.cells #[.int .i64 ax, .int .i64 ay] 42)).alloc (.cells #[.int .i64 bx, .int .i64 bY] 42)).alloc (.cells #[.int .i64 (ax + bx), .int .i64 (ay + bY)] 42) := by
  unfold Mid at h1 h2 h3 h4
  have e1 : wrap64 (ax + bx) = ax + bx := wrap_mid (by omega) (by omega)
  have e2 : wrap64 (ay + bY) = ay + bY := wrap_mid (by omega) (by omega)
  clear h1 h2 h3 h4
  go_enter Tryz.func135, Tryz.ntmps135
  go_wp2
  go_returns
  exact ⟨rfl, rfl⟩
theorem radd_any (ax ay bx bY : Int) (w : World) (h1 : Mid ax) (h2 : Mid ay) (h3 : Mid bx) (h4 : Mid bY) :
    Calls Tryz.prog 135 #[.agg #[.int .i64 ax, .int .i64 ay], .agg #[.int .i64 bx, .int .i64 bY]] w fun E w' => E = .returned (.agg #[.int .i64 (ax + bx), .int .i64 (ay + bY)]) ∧ Kp w w' none := by
  refine (radd_x ax ay bx bY w h1 h2 h3 h4).mono ?_
  rintro e w' ⟨rfl, rfl⟩
  exact ⟨rfl, ((((Kp.refl w none).alloc _).alloc _).alloc _)⟩

set_option maxRecDepth 100000 in
theorem vadd_x (ax ay bx bY : Int) (w : World) (h1 : Mid ax) (h2 : Mid ay) (h3 : Mid bx) (h4 : Mid bY) :
    Calls Tryz.prog 105 #[.agg #[.int .i64 ax, .int .i64 ay], .agg #[.int .i64 bx, .int .i64 bY]] w fun E w' => E = .returned (.agg #[.int .i64 (ax + bx), .int .i64 (ay + bY)]) ∧ w' = ((w.alloc (.cells #[.int .i64 ax, .int .i64 ay] 42)).alloc (.cells #[.int .i64 bx, .int .i64 bY] 42)).alloc (.cells #[.int .i64 (ax + bx), .int .i64 (ay + bY)] 42) := by
  unfold Mid at h1 h2 h3 h4
  have e1 : wrap64 (ax + bx) = ax + bx := wrap_mid (by omega) (by omega)
  have e2 : wrap64 (ay + bY) = ay + bY := wrap_mid (by omega) (by omega)
  clear h1 h2 h3 h4
  go_enter Tryz.func105, Tryz.ntmps105
  go_wp2
  go_returns
  exact ⟨rfl, rfl⟩
set_option maxRecDepth 100000 in
theorem rsub_x (ax ay bx bY : Int) (w : World) (h1 : Mid ax) (h2 : Mid ay) (h3 : Mid bx) (h4 : Mid bY) :
    Calls Tryz.prog 134 #[.agg #[.int .i64 ax, .int .i64 ay], .agg #[.int .i64 bx, .int .i64 bY]] w fun E w' => E = .returned (.agg #[.int .i64 (ax - bx), .int .i64 (ay - bY)]) ∧ w' = ((w.alloc (.cells #[.int .i64 ax, .int .i64 ay] 42)).alloc (.cells #[.int .i64 bx, .int .i64 bY] 42)).alloc (.cells #[.int .i64 (ax - bx), .int .i64 (ay - bY)] 42) := by
  unfold Mid at h1 h2 h3 h4
  have e1 : wrap64 (ax - bx) = ax - bx := wrap_mid (by omega) (by omega)
  have e2 : wrap64 (ay - bY) = ay - bY := wrap_mid (by omega) (by omega)
  clear h1 h2 h3 h4
  go_enter Tryz.func134, Tryz.ntmps134
  go_wp2
  go_returns
  exact ⟨rfl, rfl⟩
theorem rsub_any (ax ay bx bY : Int) (w : World) (h1 : Mid ax) (h2 : Mid ay) (h3 : Mid bx) (h4 : Mid bY) :
    Calls Tryz.prog 134 #[.agg #[.int .i64 ax, .int .i64 ay], .agg #[.int .i64 bx, .int .i64 bY]] w fun E w' => E = .returned (.agg #[.int .i64 (ax - bx), .int .i64 (ay - bY)]) ∧ Kp w w' none := by
  refine (rsub_x ax ay bx bY w h1 h2 h3 h4).mono ?_
  rintro e w' ⟨rfl, rfl⟩
  exact ⟨rfl, ((((Kp.refl w none).alloc _).alloc _).alloc _)⟩

set_option maxRecDepth 100000 in
theorem vsub_x (ax ay bx bY : Int) (w : World) (h1 : Mid ax) (h2 : Mid ay) (h3 : Mid bx) (h4 : Mid bY) :
    Calls Tryz.prog 59 #[.agg #[.int .i64 ax, .int .i64 ay], .agg #[.int .i64 bx, .int .i64 bY]] w fun E w' => E = .returned (.agg #[.int .i64 (ax - bx), .int .i64 (ay - bY)]) ∧ w' = ((w.alloc (.cells #[.int .i64 ax, .int .i64 ay] 42)).alloc (.cells #[.int .i64 bx, .int .i64 bY] 42)).alloc (.cells #[.int .i64 (ax - bx), .int .i64 (ay - bY)] 42) := by
  unfold Mid at h1 h2 h3 h4
  have e1 : wrap64 (ax - bx) = ax - bx := wrap_mid (by omega) (by omega)
  have e2 : wrap64 (ay - bY) = ay - bY := wrap_mid (by omega) (by omega)
  clear h1 h2 h3 h4
  go_enter Tryz.func59, Tryz.ntmps59
  go_wp2
  go_returns
  exact ⟨rfl, rfl⟩
theorem vsub_any (ax ay bx bY : Int) (w : World) (h1 : Mid ax) (h2 : Mid ay) (h3 : Mid bx) (h4 : Mid bY) :
    Calls Tryz.prog 59 #[.agg #[.int .i64 ax, .int .i64 ay], .agg #[.int .i64 bx, .int .i64 bY]] w fun E w' => E = .returned (.agg #[.int .i64 (ax - bx), .int .i64 (ay - bY)]) ∧ Kp w w' none := by
  refine (vsub_x ax ay bx bY w h1 h2 h3 h4).mono ?_
  rintro e w' ⟨rfl, rfl⟩
  exact ⟨rfl, ((((Kp.refl w none).alloc _).alloc _).alloc _)⟩

theorem and_three (t : Int) : bits BinOp.and IntKind.i64 t 3 = t % 4 := by
  show IntKind.i64.wrap (((BitVec.ofInt 64 t &&& BitVec.ofInt 64 3).toNat : Nat) : Int) = _
  rw [BitVec.toNat_and]
  have h3 : (BitVec.ofInt 64 3).toNat = 2 ^ 2 - 1 := rfl
  rw [h3, Nat.and_two_pow_sub_one_eq_mod, IntKind.wrap_i64]
  have h1 : ((BitVec.ofInt 64 t).toNat : Int) = t % 18446744073709551616 := by
    rw [BitVec.toNat_ofInt]
    have : (0 : Int) ≤ t % ((2 : Nat) ^ 64 : Nat) := Int.emod_nonneg _ (by decide)
    rw [Int.toNat_of_nonneg this]; rfl
  omega
theorem tmod4 (t : Int) : (wrap64 (t.tmod 4 + 4)).tmod 4 = t % 4 := by
  have h : t.tmod 4 = t % 4 ∨ (t.tmod 4 = t % 4 - 4) := by
    rcases Int.lt_or_le t 0 with h | h
    · have e : t.tmod 4 = -((-t) % 4) := by rw [← Int.tmod_eq_emod_of_nonneg (by omega), Int.neg_tmod, Int.neg_neg]
      omega
    · exact .inl (Int.tmod_eq_emod_of_nonneg h)
  have hw : wrap64 (t.tmod 4 + 4) = t.tmod 4 + 4 := by unfold wrap64; omega
  rw [hw, Int.tmod_eq_emod_of_nonneg (by omega)]
  omega

theorem ret_int {a b : Int} (h : a = b) : Ending.returned (.int .i64 a) = .returned (.int .i64 b) := by rw [h]
theorem ret_ok {b : Bool} {P : Prop} [Decidable P] (h : b = true ↔ P) : Ending.returned (.bool b) = .returned (.bool (decide P)) := by
  rw [show b = decide P from Bool.eq_iff_iff.2 (by rw [decide_eq_true_iff]; exact h)]
set_option maxRecDepth 100000 in
theorem vright_any (x y : Int) (w : World) :
    Calls Tryz.prog 162 #[.agg #[.int .i64 x, .int .i64 y]] w fun E w' => E = .returned (.bool (decide (Pl.Pt.ok ⟨x, y⟩))) ∧ Kp w w' none := by
  go_enter Tryz.func162, Tryz.ntmps162
  go_wp2
  all_goals go_ret
  all_goals exact ⟨ret_ok (by simp only [decide_eq_true_eq, Bool.false_eq_true, false_iff]; unfold Pl.Pt.ok Pl.In; dsimp only; omega), (Kp.refl w none).alloc _⟩
set_option maxRecDepth 100000 in
theorem turns_any (ax ay t : Int) (m : Bool) (w : World) :
    Calls Tryz.prog 58 #[.agg #[.int .i64 ax, .int .i64 ay, .int .i64 t, .bool m]] w fun E w' => E = .returned (.int .i64 (t % 4)) ∧ w' = w.alloc (.cells #[.int .i64 ax, .int .i64 ay, .int .i64 t, .bool m] 44) := by
  go_enter Tryz.func58, Tryz.ntmps58
  go_wp2
  go_ret
  exact ⟨ret_int (and_three t), rfl⟩
set_option maxRecDepth 100000 in
theorem rturns_any (t : Int) (w : World) :
    Calls Tryz.prog 202 #[.int .i64 t] w fun E w' => E = .returned (.int .i64 (t % 4)) ∧ w' = w := by
  go_enter Tryz.func202, Tryz.ntmps202
  go_wp2
  go_ret
  exact ⟨ret_int (tmod4 t), rfl⟩
set_option maxRecDepth 100000 in
theorem mirrored_any (x y : Int) (m : Bool) (w : World) (h1 : Mid x) :
    Calls Tryz.prog 174 #[.agg #[.int .i64 x, .int .i64 y], .bool m] w fun E w' => E = .returned (.agg #[.int .i64 (if m then -x else x), .int .i64 y]) ∧ Kp w w' none := by
  unfold Mid at h1
  have e1 : wrap64 (-x) = -x := wrap_mid (by omega) (by omega)
  clear h1
  cases m
  all_goals go_enter Tryz.func174, Tryz.ntmps174
  all_goals go_wp2
  all_goals go_returns
  all_goals exact ⟨rfl, (((Kp.refl w none).alloc _).alloc _)⟩
theorem four (t : Int) : t % 4 = 0 ∨ t % 4 = 1 ∨ t % 4 = 2 ∨ t % 4 = 3 := by omega
set_option maxHeartbeats 2000000 in
set_option maxRecDepth 100000 in
theorem turned_any (x y t : Int) (w : World) (h1 : Mid x) (h2 : Mid y) :
    Calls Tryz.prog 173 #[.agg #[.int .i64 x, .int .i64 y], .int .i64 t] w fun E w' => E = .returned (.agg #[.int .i64 (Pl.turn t ⟨x, y⟩).x, .int .i64 (Pl.turn t ⟨x, y⟩).y]) ∧ Kp w w' none := by
  unfold Mid at h1 h2
  have e1 : wrap64 (-x) = -x := wrap_mid (by omega) (by omega)
  have e2 : wrap64 (-y) = -y := wrap_mid (by omega) (by omega)
  clear h1 h2
  have hc := rturns_any t
  unfold Pl.turn
  rcases four t with h | h | h | h
  all_goals rw [h] at hc ⊢
  all_goals clear h
  all_goals simp only [Int.reduceEq, if_false, if_true]
  all_goals go_enter Tryz.func173, Tryz.ntmps173
  all_goals go_wp2_with (go_at_call 202; refine (hc _).mono ?_; rintro e w1 ⟨rfl, rfl⟩)
  all_goals go_returns
  all_goals exact ⟨rfl, (((Kp.refl w none).alloc _).alloc _)⟩

end Go.Proofs.YtljjbdbgedmadaaGreatDoor
