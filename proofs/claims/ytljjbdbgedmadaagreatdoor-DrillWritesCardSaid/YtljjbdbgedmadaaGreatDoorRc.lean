/- Whether an edge is valid, on the reference's side. No condition.
  The reference's test of a shape. Condition: at most 10^6 edges. -/
import Derived.Test.YtljjbdbgedmadaaGreatDoorPt
import Derived.Test.YtljjbdbgedmadaaGreatDoorPlA
set_option maxRecDepth 100000
set_option maxHeartbeats 8000000
namespace Go.Proofs.YtljjbdbgedmadaaGreatDoor
open Go.RowKit
def RightX (x y : Int) (b : Bool) : Prop := ∀ V, Calls Tryz.prog 133 #[.agg #[I6 x, I6 y]] V fun E w' => E = .returned (.bool b) ∧ w' = V.alloc (.cells #[I6 x, I6 y] 42)
def SubX (ax ay bx bY dx dy : Int) : Prop := ∀ V, Calls Tryz.prog 134 #[.agg #[I6 ax, I6 ay], .agg #[I6 bx, I6 bY]] V fun E w' => E = .returned (.agg #[I6 dx, I6 dy]) ∧ w' = ((V.alloc (.cells #[I6 ax, I6 ay] 42)).alloc (.cells #[I6 bx, I6 bY] 42)).alloc (.cells #[I6 dx, I6 dy] 42)
theorem rright_x (x y : Int) (w : World) :
  Calls Tryz.prog 133 #[.agg #[I6 x, I6 y]] w fun E w' => E = .returned (.bool (decide (Pl.Pt.ok ⟨x, y⟩))) ∧ w' = w.alloc (.cells #[I6 x, I6 y] 42) := by
 go_enter Tryz.func133, Tryz.ntmps133
 go_wp2
 all_goals go_ret
 all_goals exact ⟨ret_ok (by simp only [decide_eq_true_eq, Bool.false_eq_true, false_iff]; unfold Pl.Pt.ok Pl.In; dsimp only; omega), rfl⟩
theorem rightX {p : Pl.Pt} {b : Bool} (h : decide p.ok = b) : RightX p.x p.y b := fun V => by
 have := rright_x p.x p.y V
 rw [show decide (Pl.Pt.ok ⟨p.x, p.y⟩) = b from h] at this; exact this
theorem subX {ax ay bx bY : Int} (h1 : Mid ax) (h2 : Mid ay) (h3 : Mid bx) (h4 : Mid bY) : SubX ax ay bx bY (ax - bx) (ay - bY) := fun V => rsub_x ax ay bx bY V h1 h2 h3 h4
theorem rcheck_low (ek ax ay bx bY cx cy : Int) (w : World) (hk : ek < 1) :
  Calls Tryz.prog 86 #[.agg #[I6 ek, I6 ax, I6 ay, I6 bx, I6 bY, I6 cx, I6 cy]] w fun E w' => E = .returned (I6 11) ∧ Kp w w' none := by
 go_enter Tryz.func86, Tryz.ntmps86
 go_wp2_with fail
 go_ret
 exact ⟨rfl, by repeat first | exact Kp.refl _ _ | refine Kp.alloc ?_ _⟩
theorem rcheck_high (ek ax ay bx bY cx cy : Int) (w : World) (hk : 3 < ek) :
  Calls Tryz.prog 86 #[.agg #[I6 ek, I6 ax, I6 ay, I6 bx, I6 bY, I6 cx, I6 cy]] w fun E w' => E = .returned (I6 11) ∧ Kp w w' none := by
 have h0 : 1 ≤ ek := by omega
 go_enter Tryz.func86, Tryz.ntmps86
 go_wp2_with fail
 go_ret
 exact ⟨rfl, by repeat first | exact Kp.refl _ _ | refine Kp.alloc ?_ _⟩
theorem rcheck_a (ek ax ay bx bY cx cy : Int) (w : World) (b1 b2 : Bool) (hk1 : 1 ≤ ek) (hk2 : ek ≤ 3) (hp0 : RightX ax ay false) (hp1 : RightX bx bY b1) (hp2 : RightX cx cy b2) :
  Calls Tryz.prog 86 #[.agg #[I6 ek, I6 ax, I6 ay, I6 bx, I6 bY, I6 cx, I6 cy]] w fun E w' => E = .returned (I6 10) ∧ Kp w w' none := by
 go_enter Tryz.func86, Tryz.ntmps86
 go_wp2_with fail
 refine (hp0 _).mono ?_
 rintro e w0 ⟨rfl, rfl⟩; go_wp2_with fail
 refine (hp1 _).mono ?_
 rintro e w1 ⟨rfl, rfl⟩; go_wp2_with fail
 refine (hp2 _).mono ?_
 rintro e w2 ⟨rfl, rfl⟩; go_wp2_with fail
 go_ret
 exact ⟨rfl, by repeat first | exact Kp.refl _ _ | refine Kp.alloc ?_ _⟩
theorem rcheck_b (ek ax ay bx bY cx cy : Int) (w : World) (b2 : Bool) (hk1 : 1 ≤ ek) (hk2 : ek ≤ 3) (hp0 : RightX ax ay true) (hp1 : RightX bx bY false) (hp2 : RightX cx cy b2) :
  Calls Tryz.prog 86 #[.agg #[I6 ek, I6 ax, I6 ay, I6 bx, I6 bY, I6 cx, I6 cy]] w fun E w' => E = .returned (I6 10) ∧ Kp w w' none := by
 go_enter Tryz.func86, Tryz.ntmps86
 go_wp2_with fail
 refine (hp0 _).mono ?_
 rintro e w0 ⟨rfl, rfl⟩; go_wp2_with fail
 refine (hp1 _).mono ?_
 rintro e w1 ⟨rfl, rfl⟩; go_wp2_with fail
 refine (hp2 _).mono ?_
 rintro e w2 ⟨rfl, rfl⟩; go_wp2_with fail
 go_ret
 exact ⟨rfl, by repeat first | exact Kp.refl _ _ | refine Kp.alloc ?_ _⟩
theorem rcheck_c (ek ax ay bx bY cx cy : Int) (w : World) (hk1 : 1 ≤ ek) (hk2 : ek ≤ 3) (hp0 : RightX ax ay true) (hp1 : RightX bx bY true) (hp2 : RightX cx cy false) :
  Calls Tryz.prog 86 #[.agg #[I6 ek, I6 ax, I6 ay, I6 bx, I6 bY, I6 cx, I6 cy]] w fun E w' => E = .returned (I6 10) ∧ Kp w w' none := by
 go_enter Tryz.func86, Tryz.ntmps86
 go_wp2_with fail
 refine (hp0 _).mono ?_
 rintro e w0 ⟨rfl, rfl⟩; go_wp2_with fail
 refine (hp1 _).mono ?_
 rintro e w1 ⟨rfl, rfl⟩; go_wp2_with fail
 refine (hp2 _).mono ?_
 rintro e w2 ⟨rfl, rfl⟩; go_wp2_with fail
 go_ret
 exact ⟨rfl, by repeat first | exact Kp.refl _ _ | refine Kp.alloc ?_ _⟩
theorem rcheck_1ok (ax ay bx bY cx cy : Int) (w : World) (q1 : (cx == 0) = true) (q2 : (cy == 0) = true) (hp0 : RightX ax ay true) (hp1 : RightX bx bY true) (hp2 : RightX cx cy true) :
  Calls Tryz.prog 86 #[.agg #[I6 1, I6 ax, I6 ay, I6 bx, I6 bY, I6 cx, I6 cy]] w fun E w' => E = .returned (I6 0) ∧ Kp w w' none := by
 go_enter Tryz.func86, Tryz.ntmps86
 go_wp2_with fail
 refine (hp0 _).mono ?_
 rintro e w0 ⟨rfl, rfl⟩; go_wp2_with fail
 refine (hp1 _).mono ?_
 rintro e w1 ⟨rfl, rfl⟩; go_wp2_with fail
 refine (hp2 _).mono ?_
 rintro e w2 ⟨rfl, rfl⟩; go_wp2_with fail
 go_ret
 exact ⟨rfl, by repeat first | exact Kp.refl _ _ | refine Kp.alloc ?_ _⟩
theorem rcheck_1x (ax ay bx bY cx cy : Int) (w : World) (q1 : (cx == 0) = false) (hp0 : RightX ax ay true) (hp1 : RightX bx bY true) (hp2 : RightX cx cy true) :
  Calls Tryz.prog 86 #[.agg #[I6 1, I6 ax, I6 ay, I6 bx, I6 bY, I6 cx, I6 cy]] w fun E w' => E = .returned (I6 11) ∧ Kp w w' none := by
 go_enter Tryz.func86, Tryz.ntmps86
 go_wp2_with fail
 refine (hp0 _).mono ?_
 rintro e w0 ⟨rfl, rfl⟩; go_wp2_with fail
 refine (hp1 _).mono ?_
 rintro e w1 ⟨rfl, rfl⟩; go_wp2_with fail
 refine (hp2 _).mono ?_
 rintro e w2 ⟨rfl, rfl⟩; go_wp2_with fail
 go_ret
 exact ⟨rfl, by repeat first | exact Kp.refl _ _ | refine Kp.alloc ?_ _⟩
theorem rcheck_1y (ax ay bx bY cx cy : Int) (w : World) (q1 : (cx == 0) = true) (q2 : (cy == 0) = false) (hp0 : RightX ax ay true) (hp1 : RightX bx bY true) (hp2 : RightX cx cy true) :
  Calls Tryz.prog 86 #[.agg #[I6 1, I6 ax, I6 ay, I6 bx, I6 bY, I6 cx, I6 cy]] w fun E w' => E = .returned (I6 11) ∧ Kp w w' none := by
 go_enter Tryz.func86, Tryz.ntmps86
 go_wp2_with fail
 refine (hp0 _).mono ?_
 rintro e w0 ⟨rfl, rfl⟩; go_wp2_with fail
 refine (hp1 _).mono ?_
 rintro e w1 ⟨rfl, rfl⟩; go_wp2_with fail
 refine (hp2 _).mono ?_
 rintro e w2 ⟨rfl, rfl⟩; go_wp2_with fail
 go_ret
 exact ⟨rfl, by repeat first | exact Kp.refl _ _ | refine Kp.alloc ?_ _⟩
theorem rcheck_2oka (ax ay bx bY cx cy dx dy qx qy : Int) (w : World) (hp0 : RightX ax ay true) (hp1 : RightX bx bY true) (hp2 : RightX cx cy true) (hs : SubX ax ay cx cy dx dy) (hs2 : SubX bx bY cx cy qx qy) (hw1 : wrap64 (-dy) = -dy) (_hw2 : wrap64 (-dx) = -dx) (hg1 : (dx == 0) = true) (hg2 : (dy == 0) = false) (hc1 : (qx == -dy) = true) (hc2 : (qy == dx) = true) :
  Calls Tryz.prog 86 #[.agg #[I6 2, I6 ax, I6 ay, I6 bx, I6 bY, I6 cx, I6 cy]] w fun E w' => E = .returned (I6 0) ∧ Kp w w' none := by
 go_enter Tryz.func86, Tryz.ntmps86
 go_wp2_with fail
 refine (hp0 _).mono ?_
 rintro e w0 ⟨rfl, rfl⟩; go_wp2_with fail
 refine (hp1 _).mono ?_
 rintro e w1 ⟨rfl, rfl⟩; go_wp2_with fail
 refine (hp2 _).mono ?_
 rintro e w2 ⟨rfl, rfl⟩; go_wp2_with fail
 refine (hs _).mono ?_
 rintro e w3 ⟨rfl, rfl⟩; go_wp2_with fail
 refine (hs2 _).mono ?_
 rintro e w4 ⟨rfl, rfl⟩; go_wp2_with fail
 go_ret
 exact ⟨rfl, by repeat first | exact Kp.refl _ _ | refine Kp.alloc ?_ _⟩
theorem rcheck_2no1a (ax ay bx bY cx cy dx dy qx qy : Int) (w : World) (hp0 : RightX ax ay true) (hp1 : RightX bx bY true) (hp2 : RightX cx cy true) (hs : SubX ax ay cx cy dx dy) (hs2 : SubX bx bY cx cy qx qy) (hw1 : wrap64 (-dy) = -dy) (_hw2 : wrap64 (-dx) = -dx) (hg1 : (dx == 0) = true) (hg2 : (dy == 0) = false) (hc1 : (qx == -dy) = false) :
  Calls Tryz.prog 86 #[.agg #[I6 2, I6 ax, I6 ay, I6 bx, I6 bY, I6 cx, I6 cy]] w fun E w' => E = .returned (I6 11) ∧ Kp w w' none := by
 go_enter Tryz.func86, Tryz.ntmps86
 go_wp2_with fail
 refine (hp0 _).mono ?_
 rintro e w0 ⟨rfl, rfl⟩; go_wp2_with fail
 refine (hp1 _).mono ?_
 rintro e w1 ⟨rfl, rfl⟩; go_wp2_with fail
 refine (hp2 _).mono ?_
 rintro e w2 ⟨rfl, rfl⟩; go_wp2_with fail
 refine (hs _).mono ?_
 rintro e w3 ⟨rfl, rfl⟩; go_wp2_with fail
 refine (hs2 _).mono ?_
 rintro e w4 ⟨rfl, rfl⟩; go_wp2_with fail
 go_ret
 exact ⟨rfl, by repeat first | exact Kp.refl _ _ | refine Kp.alloc ?_ _⟩
theorem rcheck_2no2a (ax ay bx bY cx cy dx dy qx qy : Int) (w : World) (hp0 : RightX ax ay true) (hp1 : RightX bx bY true) (hp2 : RightX cx cy true) (hs : SubX ax ay cx cy dx dy) (hs2 : SubX bx bY cx cy qx qy) (hw1 : wrap64 (-dy) = -dy) (_hw2 : wrap64 (-dx) = -dx) (hg1 : (dx == 0) = true) (hg2 : (dy == 0) = false) (hc1 : (qx == -dy) = true) (hc2 : (qy == dx) = false) :
  Calls Tryz.prog 86 #[.agg #[I6 2, I6 ax, I6 ay, I6 bx, I6 bY, I6 cx, I6 cy]] w fun E w' => E = .returned (I6 11) ∧ Kp w w' none := by
 go_enter Tryz.func86, Tryz.ntmps86
 go_wp2_with fail
 refine (hp0 _).mono ?_
 rintro e w0 ⟨rfl, rfl⟩; go_wp2_with fail
 refine (hp1 _).mono ?_
 rintro e w1 ⟨rfl, rfl⟩; go_wp2_with fail
 refine (hp2 _).mono ?_
 rintro e w2 ⟨rfl, rfl⟩; go_wp2_with fail
 refine (hs _).mono ?_
 rintro e w3 ⟨rfl, rfl⟩; go_wp2_with fail
 refine (hs2 _).mono ?_
 rintro e w4 ⟨rfl, rfl⟩; go_wp2_with fail
 go_ret
 exact ⟨rfl, by repeat first | exact Kp.refl _ _ | refine Kp.alloc ?_ _⟩
theorem rcheck_2okb (ax ay bx bY cx cy dx dy qx qy : Int) (w : World) (hp0 : RightX ax ay true) (hp1 : RightX bx bY true) (hp2 : RightX cx cy true) (hs : SubX ax ay cx cy dx dy) (hs2 : SubX bx bY cx cy qx qy) (hw1 : wrap64 (-dy) = -dy) (_hw2 : wrap64 (-dx) = -dx) (hg1 : (dx == 0) = false) (hg2 : (dy == 0) = true) (hc1 : (qx == -dy) = true) (hc2 : (qy == dx) = true) :
  Calls Tryz.prog 86 #[.agg #[I6 2, I6 ax, I6 ay, I6 bx, I6 bY, I6 cx, I6 cy]] w fun E w' => E = .returned (I6 0) ∧ Kp w w' none := by
 go_enter Tryz.func86, Tryz.ntmps86
 go_wp2_with fail
 refine (hp0 _).mono ?_
 rintro e w0 ⟨rfl, rfl⟩; go_wp2_with fail
 refine (hp1 _).mono ?_
 rintro e w1 ⟨rfl, rfl⟩; go_wp2_with fail
 refine (hp2 _).mono ?_
 rintro e w2 ⟨rfl, rfl⟩; go_wp2_with fail
 refine (hs _).mono ?_
 rintro e w3 ⟨rfl, rfl⟩; go_wp2_with fail
 refine (hs2 _).mono ?_
 rintro e w4 ⟨rfl, rfl⟩; go_wp2_with fail
 go_ret
 exact ⟨rfl, by repeat first | exact Kp.refl _ _ | refine Kp.alloc ?_ _⟩
theorem rcheck_2no1b (ax ay bx bY cx cy dx dy qx qy : Int) (w : World) (hp0 : RightX ax ay true) (hp1 : RightX bx bY true) (hp2 : RightX cx cy true) (hs : SubX ax ay cx cy dx dy) (hs2 : SubX bx bY cx cy qx qy) (hw1 : wrap64 (-dy) = -dy) (_hw2 : wrap64 (-dx) = -dx) (hg1 : (dx == 0) = false) (hg2 : (dy == 0) = true) (hc1 : (qx == -dy) = false) :
  Calls Tryz.prog 86 #[.agg #[I6 2, I6 ax, I6 ay, I6 bx, I6 bY, I6 cx, I6 cy]] w fun E w' => E = .returned (I6 11) ∧ Kp w w' none := by
 go_enter Tryz.func86, Tryz.ntmps86
 go_wp2_with fail
 refine (hp0 _).mono ?_
 rintro e w0 ⟨rfl, rfl⟩; go_wp2_with fail
 refine (hp1 _).mono ?_
 rintro e w1 ⟨rfl, rfl⟩; go_wp2_with fail
 refine (hp2 _).mono ?_
 rintro e w2 ⟨rfl, rfl⟩; go_wp2_with fail
 refine (hs _).mono ?_
 rintro e w3 ⟨rfl, rfl⟩; go_wp2_with fail
 refine (hs2 _).mono ?_
 rintro e w4 ⟨rfl, rfl⟩; go_wp2_with fail
 go_ret
 exact ⟨rfl, by repeat first | exact Kp.refl _ _ | refine Kp.alloc ?_ _⟩
theorem rcheck_2no2b (ax ay bx bY cx cy dx dy qx qy : Int) (w : World) (hp0 : RightX ax ay true) (hp1 : RightX bx bY true) (hp2 : RightX cx cy true) (hs : SubX ax ay cx cy dx dy) (hs2 : SubX bx bY cx cy qx qy) (hw1 : wrap64 (-dy) = -dy) (_hw2 : wrap64 (-dx) = -dx) (hg1 : (dx == 0) = false) (hg2 : (dy == 0) = true) (hc1 : (qx == -dy) = true) (hc2 : (qy == dx) = false) :
  Calls Tryz.prog 86 #[.agg #[I6 2, I6 ax, I6 ay, I6 bx, I6 bY, I6 cx, I6 cy]] w fun E w' => E = .returned (I6 11) ∧ Kp w w' none := by
 go_enter Tryz.func86, Tryz.ntmps86
 go_wp2_with fail
 refine (hp0 _).mono ?_
 rintro e w0 ⟨rfl, rfl⟩; go_wp2_with fail
 refine (hp1 _).mono ?_
 rintro e w1 ⟨rfl, rfl⟩; go_wp2_with fail
 refine (hp2 _).mono ?_
 rintro e w2 ⟨rfl, rfl⟩; go_wp2_with fail
 refine (hs _).mono ?_
 rintro e w3 ⟨rfl, rfl⟩; go_wp2_with fail
 refine (hs2 _).mono ?_
 rintro e w4 ⟨rfl, rfl⟩; go_wp2_with fail
 go_ret
 exact ⟨rfl, by repeat first | exact Kp.refl _ _ | refine Kp.alloc ?_ _⟩
theorem rcheck_2noa (ax ay bx bY cx cy dx dy qx qy : Int) (w : World) (hp0 : RightX ax ay true) (hp1 : RightX bx bY true) (hp2 : RightX cx cy true) (hs : SubX ax ay cx cy dx dy) (hs2 : SubX bx bY cx cy qx qy) (hw1 : wrap64 (-dy) = -dy) (_hw2 : wrap64 (-dx) = -dx) (hg1 : (dx == 0) = true) (hg2 : (dy == 0) = true) :
  Calls Tryz.prog 86 #[.agg #[I6 2, I6 ax, I6 ay, I6 bx, I6 bY, I6 cx, I6 cy]] w fun E w' => E = .returned (I6 11) ∧ Kp w w' none := by
 go_enter Tryz.func86, Tryz.ntmps86
 go_wp2_with fail
 refine (hp0 _).mono ?_
 rintro e w0 ⟨rfl, rfl⟩; go_wp2_with fail
 refine (hp1 _).mono ?_
 rintro e w1 ⟨rfl, rfl⟩; go_wp2_with fail
 refine (hp2 _).mono ?_
 rintro e w2 ⟨rfl, rfl⟩; go_wp2_with fail
 refine (hs _).mono ?_
 rintro e w3 ⟨rfl, rfl⟩; go_wp2_with fail
 refine (hs2 _).mono ?_
 rintro e w4 ⟨rfl, rfl⟩; go_wp2_with fail
 go_ret
 exact ⟨rfl, by repeat first | exact Kp.refl _ _ | refine Kp.alloc ?_ _⟩
theorem rcheck_2nob (ax ay bx bY cx cy dx dy qx qy : Int) (w : World) (hp0 : RightX ax ay true) (hp1 : RightX bx bY true) (hp2 : RightX cx cy true) (hs : SubX ax ay cx cy dx dy) (hs2 : SubX bx bY cx cy qx qy) (hw1 : wrap64 (-dy) = -dy) (_hw2 : wrap64 (-dx) = -dx) (hg1 : (dx == 0) = false) (hg2 : (dy == 0) = false) :
  Calls Tryz.prog 86 #[.agg #[I6 2, I6 ax, I6 ay, I6 bx, I6 bY, I6 cx, I6 cy]] w fun E w' => E = .returned (I6 11) ∧ Kp w w' none := by
 go_enter Tryz.func86, Tryz.ntmps86
 go_wp2_with fail
 refine (hp0 _).mono ?_
 rintro e w0 ⟨rfl, rfl⟩; go_wp2_with fail
 refine (hp1 _).mono ?_
 rintro e w1 ⟨rfl, rfl⟩; go_wp2_with fail
 refine (hp2 _).mono ?_
 rintro e w2 ⟨rfl, rfl⟩; go_wp2_with fail
 refine (hs _).mono ?_
 rintro e w3 ⟨rfl, rfl⟩; go_wp2_with fail
 refine (hs2 _).mono ?_
 rintro e w4 ⟨rfl, rfl⟩; go_wp2_with fail
 go_ret
 exact ⟨rfl, by repeat first | exact Kp.refl _ _ | refine Kp.alloc ?_ _⟩
theorem rcheck_3oka (ax ay bx bY cx cy dx dy qx qy : Int) (w : World) (hp0 : RightX ax ay true) (hp1 : RightX bx bY true) (hp2 : RightX cx cy true) (hs : SubX ax ay cx cy dx dy) (hs2 : SubX bx bY cx cy qx qy) (hw1 : wrap64 (-dy) = -dy) (hw2 : wrap64 (-dx) = -dx) (hg1 : (dx == 0) = true) (hg2 : (dy == 0) = false) (hc1 : (qx == dy) = true) (hc2 : (qy == -dx) = true) :
  Calls Tryz.prog 86 #[.agg #[I6 3, I6 ax, I6 ay, I6 bx, I6 bY, I6 cx, I6 cy]] w fun E w' => E = .returned (I6 0) ∧ Kp w w' none := by
 go_enter Tryz.func86, Tryz.ntmps86
 go_wp2_with fail
 refine (hp0 _).mono ?_
 rintro e w0 ⟨rfl, rfl⟩; go_wp2_with fail
 refine (hp1 _).mono ?_
 rintro e w1 ⟨rfl, rfl⟩; go_wp2_with fail
 refine (hp2 _).mono ?_
 rintro e w2 ⟨rfl, rfl⟩; go_wp2_with fail
 refine (hs _).mono ?_
 rintro e w3 ⟨rfl, rfl⟩; go_wp2_with fail
 refine (hs2 _).mono ?_
 rintro e w4 ⟨rfl, rfl⟩; go_wp2_with fail
 go_ret
 exact ⟨rfl, by repeat first | exact Kp.refl _ _ | refine Kp.alloc ?_ _⟩
theorem rcheck_3no1a (ax ay bx bY cx cy dx dy qx qy : Int) (w : World) (hp0 : RightX ax ay true) (hp1 : RightX bx bY true) (hp2 : RightX cx cy true) (hs : SubX ax ay cx cy dx dy) (hs2 : SubX bx bY cx cy qx qy) (hw1 : wrap64 (-dy) = -dy) (hw2 : wrap64 (-dx) = -dx) (hg1 : (dx == 0) = true) (hg2 : (dy == 0) = false) (hc1 : (qx == dy) = false) :
  Calls Tryz.prog 86 #[.agg #[I6 3, I6 ax, I6 ay, I6 bx, I6 bY, I6 cx, I6 cy]] w fun E w' => E = .returned (I6 11) ∧ Kp w w' none := by
 go_enter Tryz.func86, Tryz.ntmps86
 go_wp2_with fail
 refine (hp0 _).mono ?_
 rintro e w0 ⟨rfl, rfl⟩; go_wp2_with fail
 refine (hp1 _).mono ?_
 rintro e w1 ⟨rfl, rfl⟩; go_wp2_with fail
 refine (hp2 _).mono ?_
 rintro e w2 ⟨rfl, rfl⟩; go_wp2_with fail
 refine (hs _).mono ?_
 rintro e w3 ⟨rfl, rfl⟩; go_wp2_with fail
 refine (hs2 _).mono ?_
 rintro e w4 ⟨rfl, rfl⟩; go_wp2_with fail
 go_ret
 exact ⟨rfl, by repeat first | exact Kp.refl _ _ | refine Kp.alloc ?_ _⟩
theorem rcheck_3no2a (ax ay bx bY cx cy dx dy qx qy : Int) (w : World) (hp0 : RightX ax ay true) (hp1 : RightX bx bY true) (hp2 : RightX cx cy true) (hs : SubX ax ay cx cy dx dy) (hs2 : SubX bx bY cx cy qx qy) (hw1 : wrap64 (-dy) = -dy) (hw2 : wrap64 (-dx) = -dx) (hg1 : (dx == 0) = true) (hg2 : (dy == 0) = false) (hc1 : (qx == dy) = true) (hc2 : (qy == -dx) = false) :
  Calls Tryz.prog 86 #[.agg #[I6 3, I6 ax, I6 ay, I6 bx, I6 bY, I6 cx, I6 cy]] w fun E w' => E = .returned (I6 11) ∧ Kp w w' none := by
 go_enter Tryz.func86, Tryz.ntmps86
 go_wp2_with fail
 refine (hp0 _).mono ?_
 rintro e w0 ⟨rfl, rfl⟩; go_wp2_with fail
 refine (hp1 _).mono ?_
 rintro e w1 ⟨rfl, rfl⟩; go_wp2_with fail
 refine (hp2 _).mono ?_
 rintro e w2 ⟨rfl, rfl⟩; go_wp2_with fail
 refine (hs _).mono ?_
 rintro e w3 ⟨rfl, rfl⟩; go_wp2_with fail
 refine (hs2 _).mono ?_
 rintro e w4 ⟨rfl, rfl⟩; go_wp2_with fail
 go_ret
 exact ⟨rfl, by repeat first | exact Kp.refl _ _ | refine Kp.alloc ?_ _⟩
theorem rcheck_3okb (ax ay bx bY cx cy dx dy qx qy : Int) (w : World) (hp0 : RightX ax ay true) (hp1 : RightX bx bY true) (hp2 : RightX cx cy true) (hs : SubX ax ay cx cy dx dy) (hs2 : SubX bx bY cx cy qx qy) (hw1 : wrap64 (-dy) = -dy) (hw2 : wrap64 (-dx) = -dx) (hg1 : (dx == 0) = false) (hg2 : (dy == 0) = true) (hc1 : (qx == dy) = true) (hc2 : (qy == -dx) = true) :
  Calls Tryz.prog 86 #[.agg #[I6 3, I6 ax, I6 ay, I6 bx, I6 bY, I6 cx, I6 cy]] w fun E w' => E = .returned (I6 0) ∧ Kp w w' none := by
 go_enter Tryz.func86, Tryz.ntmps86
 go_wp2_with fail
 refine (hp0 _).mono ?_
 rintro e w0 ⟨rfl, rfl⟩; go_wp2_with fail
 refine (hp1 _).mono ?_
 rintro e w1 ⟨rfl, rfl⟩; go_wp2_with fail
 refine (hp2 _).mono ?_
 rintro e w2 ⟨rfl, rfl⟩; go_wp2_with fail
 refine (hs _).mono ?_
 rintro e w3 ⟨rfl, rfl⟩; go_wp2_with fail
 refine (hs2 _).mono ?_
 rintro e w4 ⟨rfl, rfl⟩; go_wp2_with fail
 go_ret
 exact ⟨rfl, by repeat first | exact Kp.refl _ _ | refine Kp.alloc ?_ _⟩
theorem rcheck_3no1b (ax ay bx bY cx cy dx dy qx qy : Int) (w : World) (hp0 : RightX ax ay true) (hp1 : RightX bx bY true) (hp2 : RightX cx cy true) (hs : SubX ax ay cx cy dx dy) (hs2 : SubX bx bY cx cy qx qy) (hw1 : wrap64 (-dy) = -dy) (hw2 : wrap64 (-dx) = -dx) (hg1 : (dx == 0) = false) (hg2 : (dy == 0) = true) (hc1 : (qx == dy) = false) :
  Calls Tryz.prog 86 #[.agg #[I6 3, I6 ax, I6 ay, I6 bx, I6 bY, I6 cx, I6 cy]] w fun E w' => E = .returned (I6 11) ∧ Kp w w' none := by
 go_enter Tryz.func86, Tryz.ntmps86
 go_wp2_with fail
 refine (hp0 _).mono ?_
 rintro e w0 ⟨rfl, rfl⟩; go_wp2_with fail
 refine (hp1 _).mono ?_
 rintro e w1 ⟨rfl, rfl⟩; go_wp2_with fail
 refine (hp2 _).mono ?_
 rintro e w2 ⟨rfl, rfl⟩; go_wp2_with fail
 refine (hs _).mono ?_
 rintro e w3 ⟨rfl, rfl⟩; go_wp2_with fail
 refine (hs2 _).mono ?_
 rintro e w4 ⟨rfl, rfl⟩; go_wp2_with fail
 go_ret
 exact ⟨rfl, by repeat first | exact Kp.refl _ _ | refine Kp.alloc ?_ _⟩
theorem rcheck_3no2b (ax ay bx bY cx cy dx dy qx qy : Int) (w : World) (hp0 : RightX ax ay true) (hp1 : RightX bx bY true) (hp2 : RightX cx cy true) (hs : SubX ax ay cx cy dx dy) (hs2 : SubX bx bY cx cy qx qy) (hw1 : wrap64 (-dy) = -dy) (hw2 : wrap64 (-dx) = -dx) (hg1 : (dx == 0) = false) (hg2 : (dy == 0) = true) (hc1 : (qx == dy) = true) (hc2 : (qy == -dx) = false) :
  Calls Tryz.prog 86 #[.agg #[I6 3, I6 ax, I6 ay, I6 bx, I6 bY, I6 cx, I6 cy]] w fun E w' => E = .returned (I6 11) ∧ Kp w w' none := by
 go_enter Tryz.func86, Tryz.ntmps86
 go_wp2_with fail
 refine (hp0 _).mono ?_
 rintro e w0 ⟨rfl, rfl⟩; go_wp2_with fail
 refine (hp1 _).mono ?_
 rintro e w1 ⟨rfl, rfl⟩; go_wp2_with fail
 refine (hp2 _).mono ?_
 rintro e w2 ⟨rfl, rfl⟩; go_wp2_with fail
 refine (hs _).mono ?_
 rintro e w3 ⟨rfl, rfl⟩; go_wp2_with fail
 refine (hs2 _).mono ?_
 rintro e w4 ⟨rfl, rfl⟩; go_wp2_with fail
 go_ret
 exact ⟨rfl, by repeat first | exact Kp.refl _ _ | refine Kp.alloc ?_ _⟩
theorem rcheck_3noa (ax ay bx bY cx cy dx dy qx qy : Int) (w : World) (hp0 : RightX ax ay true) (hp1 : RightX bx bY true) (hp2 : RightX cx cy true) (hs : SubX ax ay cx cy dx dy) (hs2 : SubX bx bY cx cy qx qy) (hw1 : wrap64 (-dy) = -dy) (hw2 : wrap64 (-dx) = -dx) (hg1 : (dx == 0) = true) (hg2 : (dy == 0) = true) :
  Calls Tryz.prog 86 #[.agg #[I6 3, I6 ax, I6 ay, I6 bx, I6 bY, I6 cx, I6 cy]] w fun E w' => E = .returned (I6 11) ∧ Kp w w' none := by
 go_enter Tryz.func86, Tryz.ntmps86
 go_wp2_with fail
 refine (hp0 _).mono ?_
 rintro e w0 ⟨rfl, rfl⟩; go_wp2_with fail
 refine (hp1 _).mono ?_
 rintro e w1 ⟨rfl, rfl⟩; go_wp2_with fail
 refine (hp2 _).mono ?_
 rintro e w2 ⟨rfl, rfl⟩; go_wp2_with fail
 refine (hs _).mono ?_
 rintro e w3 ⟨rfl, rfl⟩; go_wp2_with fail
 refine (hs2 _).mono ?_
 rintro e w4 ⟨rfl, rfl⟩; go_wp2_with fail
 go_ret
 exact ⟨rfl, by repeat first | exact Kp.refl _ _ | refine Kp.alloc ?_ _⟩
theorem rcheck_3nob (ax ay bx bY cx cy dx dy qx qy : Int) (w : World) (hp0 : RightX ax ay true) (hp1 : RightX bx bY true) (hp2 : RightX cx cy true) (hs : SubX ax ay cx cy dx dy) (hs2 : SubX bx bY cx cy qx qy) (hw1 : wrap64 (-dy) = -dy) (hw2 : wrap64 (-dx) = -dx) (hg1 : (dx == 0) = false) (hg2 : (dy == 0) = false) :
  Calls Tryz.prog 86 #[.agg #[I6 3, I6 ax, I6 ay, I6 bx, I6 bY, I6 cx, I6 cy]] w fun E w' => E = .returned (I6 11) ∧ Kp w w' none := by
 go_enter Tryz.func86, Tryz.ntmps86
 go_wp2_with fail
 refine (hp0 _).mono ?_
 rintro e w0 ⟨rfl, rfl⟩; go_wp2_with fail
 refine (hp1 _).mono ?_
 rintro e w1 ⟨rfl, rfl⟩; go_wp2_with fail
 refine (hp2 _).mono ?_
 rintro e w2 ⟨rfl, rfl⟩; go_wp2_with fail
 refine (hs _).mono ?_
 rintro e w3 ⟨rfl, rfl⟩; go_wp2_with fail
 refine (hs2 _).mono ?_
 rintro e w4 ⟨rfl, rfl⟩; go_wp2_with fail
 go_ret
 exact ⟨rfl, by repeat first | exact Kp.refl _ _ | refine Kp.alloc ?_ _⟩
theorem rcheck_any (e : Pl.Ed) (w : World) : Calls Tryz.prog 86 #[.agg #[I6 e.k, I6 e.a.x, I6 e.a.y, I6 e.b.x, I6 e.b.y, I6 e.c.x, I6 e.c.y]] w fun E w' => E = .returned (I6 (Pl.chkE e)) ∧ Kp w w' none := by
 obtain ⟨k, ⟨ax, ay⟩, ⟨bx, bY⟩, ⟨cx, cy⟩⟩ := e
 have e0 : Pl.chkE ⟨k, ⟨ax, ay⟩, ⟨bx, bY⟩, ⟨cx, cy⟩⟩ = Pl.chkE ⟨k, ⟨ax, ay⟩, ⟨bx, bY⟩, ⟨cx, cy⟩⟩ := rfl
 unfold Pl.chkE at e0 ⊢
 dsimp only at e0 ⊢
 clear e0
 by_cases hk : k < 1 ∨ 3 < k
 ·rw [if_pos hk]
  rcases hk with hk | hk
  ·exact rcheck_low k ax ay bx bY cx cy w hk
  ·exact rcheck_high k ax ay bx bY cx cy w hk
 ·rw [if_neg hk]; have ra : ∀ {p : Pl.Pt} {b : Bool}, decide p.ok = b → RightX p.x p.y b := rightX
  by_cases hp : Pl.Pt.ok ⟨ax, ay⟩ ∧ Pl.Pt.ok ⟨bx, bY⟩ ∧ Pl.Pt.ok ⟨cx, cy⟩
  ·rw [if_neg (fun h => h hp)]; obtain ⟨ha, hb, hc⟩ := hp
   have ha' := ra (decide_eq_true ha)
   have hb' := ra (decide_eq_true hb)
   have hc' := ra (decide_eq_true hc)
   by_cases h1 : k = 1
   ·subst h1; rw [if_pos rfl]
    by_cases h2 : cx = 0
    ·by_cases h3 : cy = 0
     ·rw [if_pos (by rw [h2, h3])]
      exact rcheck_1ok ax ay bx bY cx cy w (by simpa using h2) (by simpa using h3) ha' hb' hc'
     ·rw [if_neg (by simp [h3])]
      exact rcheck_1y ax ay bx bY cx cy w (by simpa using h2) (by simpa using h3) ha' hb' hc'
    ·rw [if_neg (by simp [h2])]
     exact rcheck_1x ax ay bx bY cx cy w (by simpa using h2) ha' hb' hc'
   ·rw [if_neg h1]; obtain ⟨ha1, ha2⟩ := ha; obtain ⟨hb1, hb2⟩ := hb; obtain ⟨hc1, hc2⟩ := hc
    dsimp only at ha1 ha2 hb1 hb2 hc1 hc2
    have hs := subX (In.mid ha1) (In.mid ha2) (In.mid hc1) (In.mid hc2)
    have hs2 := subX (In.mid hb1) (In.mid hb2) (In.mid hc1) (In.mid hc2)
    have w1 : wrap64 (-(ay - cy)) = -(ay - cy) := wrap_mid (by have := sub_mid ha2 hc2; unfold Mid at this; omega) (by have := sub_mid ha2 hc2; unfold Mid at this; omega)
    have w2 : wrap64 (-(ax - cx)) = -(ax - cx) := wrap_mid (by have := sub_mid ha1 hc1; unfold Mid at this; omega) (by have := sub_mid ha1 hc1; unfold Mid at this; omega)
    rcases (show k = 2 ∨ k = 3 by omega) with rfl | rfl
    ·have key : Pl.Arc ⟨2, ⟨ax, ay⟩, ⟨bx, bY⟩, ⟨cx, cy⟩⟩ ↔ ¬ (ax - cx = 0 ↔ ay - cy = 0) ∧ (bx - cx = -(ay - cy) ∧ bY - cy = (ax - cx)) := by
      unfold Pl.Arc Pl.sub Pl.quarter; dsimp only; rw [if_pos rfl, Pl.Pt.mk.injEq]
     by_cases h2 : ax - cx = 0
     ·by_cases h3 : ay - cy = 0
      ·rw [if_neg (by rw [key]; simp [h2, h3])]
       exact rcheck_2noa ax ay bx bY cx cy _ _ _ _ w ha' hb' hc' hs hs2 w1 w2 (by simpa using h2) (by simpa using h3)
      ·by_cases h4 : bx - cx = -(ay - cy)
       ·by_cases h5 : bY - cy = (ax - cx)
        ·rw [if_pos (key.2 ⟨fun h => h3 (h.1 h2), h4, h5⟩)]; exact rcheck_2oka ax ay bx bY cx cy _ _ _ _ w ha' hb' hc' hs hs2 w1 w2 (by simpa using h2) (by simpa using h3) (by simpa using h4) (by simpa using h5)
        ·rw [if_neg (fun h => h5 (key.1 h).2.2)]; exact rcheck_2no2a ax ay bx bY cx cy _ _ _ _ w ha' hb' hc' hs hs2 w1 w2 (by simpa using h2) (by simpa using h3) (by simpa using h4) (by simpa using h5)
       ·rw [if_neg (fun h => h4 (key.1 h).2.1)]; exact rcheck_2no1a ax ay bx bY cx cy _ _ _ _ w ha' hb' hc' hs hs2 w1 w2 (by simpa using h2) (by simpa using h3) (by simpa using h4)
     ·by_cases h3 : ay - cy = 0
      ·by_cases h4 : bx - cx = -(ay - cy)
       ·by_cases h5 : bY - cy = (ax - cx)
        ·rw [if_pos (key.2 ⟨fun h => h2 (h.2 h3), h4, h5⟩)]; exact rcheck_2okb ax ay bx bY cx cy _ _ _ _ w ha' hb' hc' hs hs2 w1 w2 (by simpa using h2) (by simpa using h3) (by simpa using h4) (by simpa using h5)
        ·rw [if_neg (fun h => h5 (key.1 h).2.2)]; exact rcheck_2no2b ax ay bx bY cx cy _ _ _ _ w ha' hb' hc' hs hs2 w1 w2 (by simpa using h2) (by simpa using h3) (by simpa using h4) (by simpa using h5)
       ·rw [if_neg (fun h => h4 (key.1 h).2.1)]; exact rcheck_2no1b ax ay bx bY cx cy _ _ _ _ w ha' hb' hc' hs hs2 w1 w2 (by simpa using h2) (by simpa using h3) (by simpa using h4)
      ·rw [if_neg (by rw [key]; simp [h2, h3])]
       exact rcheck_2nob ax ay bx bY cx cy _ _ _ _ w ha' hb' hc' hs hs2 w1 w2 (by simpa using h2) (by simpa using h3)
    ·have key : Pl.Arc ⟨3, ⟨ax, ay⟩, ⟨bx, bY⟩, ⟨cx, cy⟩⟩ ↔ ¬ (ax - cx = 0 ↔ ay - cy = 0) ∧ (bx - cx = (ay - cy) ∧ bY - cy = -(ax - cx)) := by
      unfold Pl.Arc Pl.sub Pl.quarter; dsimp only; rw [if_neg (by decide), Pl.Pt.mk.injEq]
     by_cases h2 : ax - cx = 0
     ·by_cases h3 : ay - cy = 0
      ·rw [if_neg (by rw [key]; simp [h2, h3])]
       exact rcheck_3noa ax ay bx bY cx cy _ _ _ _ w ha' hb' hc' hs hs2 w1 w2 (by simpa using h2) (by simpa using h3)
      ·by_cases h4 : bx - cx = (ay - cy)
       ·by_cases h5 : bY - cy = -(ax - cx)
        ·rw [if_pos (key.2 ⟨fun h => h3 (h.1 h2), h4, h5⟩)]; exact rcheck_3oka ax ay bx bY cx cy _ _ _ _ w ha' hb' hc' hs hs2 w1 w2 (by simpa using h2) (by simpa using h3) (by simpa using h4) (by simpa using h5)
        ·rw [if_neg (fun h => h5 (key.1 h).2.2)]; exact rcheck_3no2a ax ay bx bY cx cy _ _ _ _ w ha' hb' hc' hs hs2 w1 w2 (by simpa using h2) (by simpa using h3) (by simpa using h4) (by simpa using h5)
       ·rw [if_neg (fun h => h4 (key.1 h).2.1)]; exact rcheck_3no1a ax ay bx bY cx cy _ _ _ _ w ha' hb' hc' hs hs2 w1 w2 (by simpa using h2) (by simpa using h3) (by simpa using h4)
     ·by_cases h3 : ay - cy = 0
      ·by_cases h4 : bx - cx = (ay - cy)
       ·by_cases h5 : bY - cy = -(ax - cx)
        ·rw [if_pos (key.2 ⟨fun h => h2 (h.2 h3), h4, h5⟩)]; exact rcheck_3okb ax ay bx bY cx cy _ _ _ _ w ha' hb' hc' hs hs2 w1 w2 (by simpa using h2) (by simpa using h3) (by simpa using h4) (by simpa using h5)
        ·rw [if_neg (fun h => h5 (key.1 h).2.2)]; exact rcheck_3no2b ax ay bx bY cx cy _ _ _ _ w ha' hb' hc' hs hs2 w1 w2 (by simpa using h2) (by simpa using h3) (by simpa using h4) (by simpa using h5)
       ·rw [if_neg (fun h => h4 (key.1 h).2.1)]; exact rcheck_3no1b ax ay bx bY cx cy _ _ _ _ w ha' hb' hc' hs hs2 w1 w2 (by simpa using h2) (by simpa using h3) (by simpa using h4)
      ·rw [if_neg (by rw [key]; simp [h2, h3])]
       exact rcheck_3nob ax ay bx bY cx cy _ _ _ _ w ha' hb' hc' hs hs2 w1 w2 (by simpa using h2) (by simpa using h3)
  ·rw [if_pos hp]
   by_cases ha : Pl.Pt.ok ⟨ax, ay⟩
   ·by_cases hb : Pl.Pt.ok ⟨bx, bY⟩
    ·have hc : ¬ Pl.Pt.ok ⟨cx, cy⟩ := fun h => hp ⟨ha, hb, h⟩
     exact rcheck_c k ax ay bx bY cx cy w (by omega) (by omega) (ra (decide_eq_true ha)) (ra (decide_eq_true hb)) (ra (decide_eq_false hc))
    ·exact rcheck_b k ax ay bx bY cx cy w _ (by omega) (by omega) (ra (decide_eq_true ha)) (ra (decide_eq_false hb)) (rightX (p := ⟨cx, cy⟩) rfl)
   ·exact rcheck_a k ax ay bx bY cx cy w _ _ (by omega) (by omega) (ra (decide_eq_false ha)) (rightX (p := ⟨bx, bY⟩) rfl) (rightX (p := ⟨cx, cy⟩) rfl)
theorem ret_bool {a b : Bool} (h : a = b) : Ending.returned (.bool a) = .returned (.bool b) := by rw [h]
theorem rchain_any (es : List Pl.Ed) (n : Nat) (hn : es.length = n) (ao : Option Addr) (cap : Nat) (w : World) (hes : LiesAt 7 edC w ao cap es) (hl : n ≤ 1000000) :
  Calls Tryz.prog 87 #[.slice ao n cap] w fun E w' => E = .returned (.bool (Pl.chain es)) ∧ Kp w w' none := by
 have FE := oh hes; have HN := oh hn; obtain ⟨fin, hfin⟩ : ∃ f, Pl.chain es = f := ⟨_, rfl⟩
 have HFIN := oh hfin; rw [hfin]; clear hes hn hfin; have hn0 := nn n; go_enter Tryz.func87, Tryz.ntmps87
 go_wp2_with fail
 go_loopw [3] (fun i wr => ∃ k : Nat, (k + 1 ≤ n ∨ k = 0) ∧ i = I6 ((k : Int) + 1) ∧ Pl.chain es = Pl.chain (es.drop k) ∧ Kp w wr none) (fun i _ => n - (intOf i).toNat)
 case atStart => exact ⟨0, .inr rfl, rfl, rfl, Kp.refl _ _⟩
 case round =>
  obtain ⟨k, hk, rfl, hch, hK⟩ := hrel; have HC := oh hch; have HK := oh hK; clear hch hK
  have hk0 := nn k
  by_cases hlt : k + 1 < n
  ·have hk2 : (k : Int) + 1 < (n : Int) := by omega
   have hk3 : (k : Int) < (n : Int) := by omega
   have hk9 : (0 : Int) ≤ (k : Int) + 1 := by omega
   obtain ⟨b, off, rfl, hcap, hb, hce⟩ := FE.out.ed (k := k) (by have := HN.out; omega)
   obtain ⟨b', off', hao, _, _, hce1⟩ := FE.out.ed (k := k + 1) (by have := HN.out; omega)
   injection hao with hao; injection hao with e1 e2; subst e1; subst e2
   have hcap2 : n ≤ cap := by have := HN.out; omega
   have hw2 : wrap64 ((k : Int) + 1 - 1) = (k : Int) := by unfold wrap64; omega
   have hw3 : wrap64 (k : Int) = (k : Int) := by unfold wrap64; omega
   have hw4 : IntKind.i64.wrap ((k : Int) + 1 - 1) = (k : Int) := by rw [IntKind.wrap_i64]; omega
   have hw5 : IntKind.i64.wrap (k : Int) = (k : Int) := by rw [IntKind.wrap_i64]; omega
   have HW1 : Hid (wrap64 ((k : Int) + 1 + 1) = (k : Int) + 1 + 1) := oh (by unfold wrap64; omega)
   have hd := hce wr HK.out
   have he := hce1 wr HK.out
   have HST : Hid (Pl.chain (es.drop k) = (decide ((es[k]'(by have := HN.out; omega)).b = (es[k + 1]'(by have := HN.out; omega)).a) && Pl.chain (es.drop (k + 1)))) := oh (Pl.chain_drop es k (by have := HN.out; omega))
   obtain ⟨y, hy⟩ : ∃ y, es[k]'(by have := HN.out; omega) = y := ⟨_, rfl⟩
   obtain ⟨z, hz⟩ : ∃ z, es[k + 1]'(by have := HN.out; omega) = z := ⟨_, rfl⟩
   rw [hy] at hd HST; rw [hz] at he HST; clear hy hz hcap hce hce1; obtain ⟨yk, ya, ⟨ybx, yby⟩, yc⟩ := y; obtain ⟨zk, ⟨zax, zay⟩, zb, zc⟩ := z
   dsimp only at hd he HST
   obtain ⟨_, _, _, d3, d4, _, _⟩ := hd; obtain ⟨_, z1, z2, _, _, _, _⟩ := he
   by_cases t1 : ybx = zax
   ·by_cases t2 : yby = zay
    ·have HR : Hid (Pl.chain es = Pl.chain (es.drop (k + 1))) := oh (by rw [HC.out, HST.out, t1, t2]; simp)
     have q1 : (zax == ybx) = true := by simp [t1]
     have q2 : (zay == yby) = true := by simp [t2]
     clear t1 t2 hk HST HC; go_wp2_with fail
     go_quiet (fail)
     have KQ := oh (HK.out.drewN nq); clear hw2 hw3 hw4 hw5; have hw1 := HW1.out; go_wp2_with fail
     first | exact ⟨⟨k + 1, .inl hlt, by go_num, HR.out, KQ.out⟩, by simp [intOf]; omega⟩ | (go_roundw; all_goals first | exact ⟨k + 1, .inl hlt, by go_num, HR.out, KQ.out⟩ | (simp [intOf]; omega))
    ·have HR : Hid (fin = false) := oh (by rw [← HFIN.out, HC.out, HST.out, t1]; simp [t2])
     have q1 : (zax == ybx) = true := by simp [t1]
     have q2 : (zay == yby) = false := by simpa using fun h => t2 h.symm
     clear t1 t2 hk HST HC; go_wp2_with fail
     go_quiet (fail)
     have KQ := oh (HK.out.drewN nq); go_wp2_with fail
     go_ret
     exact ⟨ret_bool HR.out.symm, KQ.out⟩
   ·have HR : Hid (fin = false) := oh (by rw [← HFIN.out, HC.out, HST.out]; simp [t1])
    have q1 : (zax == ybx) = false := by simpa using fun h => t1 h.symm
    clear t1 hk HST HC; go_wp2_with fail
    go_quiet (fail)
    have KQ := oh (HK.out.drewN nq); go_wp2_with fail
    go_ret
    exact ⟨ret_bool HR.out.symm, KQ.out⟩
  ·have hk2 : ¬ (k : Int) + 1 < (n : Int) := by omega
   have HR : Hid (fin = true) := oh (by rw [← HFIN.out, HC.out, Pl.chain_end es k (by have := HN.out; omega)])
   go_wp2_with fail
   go_ret
   exact ⟨ret_bool HR.out.symm, HK.out⟩
end Go.Proofs.YtljjbdbgedmadaaGreatDoor
