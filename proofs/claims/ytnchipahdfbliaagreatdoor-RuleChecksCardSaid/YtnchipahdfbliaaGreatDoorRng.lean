/- The reference's right: what a condition has besides its own. No condition.
  The reference's coordinates. No condition. -/
import Derived.Test.YtnchipahdfbliaaGreatDoorRnf
import Derived.Test.YtnchipahdfbliaaGreatDoorFa

namespace Go.Proofs.YtnchipahdfbliaaGreatDoor
open Go.RowKit

/-- What is left of a condition's fields. -/
def bareA (op : Int) (t : List UInt8) (n x0 y0 x1 y1 : Int) (l : Value) : Value :=
 .agg #[.int .i64 op, str (if op = 2 ∨ op = 3 then [] else t), .int .i64 (if op = 4 ∨ op = 5 ∨ op = 6 then 0 else n), .int .i64 (if op = 7 then 0 else x0), .int .i64 (if op = 7 then 0 else y0), .int .i64 (if op = 7 then 0 else x1), .int .i64 (if op = 7 then 0 else y1), if op = 8 ∨ op = 9 ∨ op = 10 then .slice none 0 0 else l]
set_option maxHeartbeats 4000000 in
set_option maxRecDepth 100000 in
theorem bare_any (op : Int) (t : List UInt8) (n x0 y0 x1 y1 : Int) (a : Option Addr) (m p : Nat) (w : World) : Calls Tryz.prog 91 #[.agg #[.int .i64 op, str t, .int .i64 n, .int .i64 x0, .int .i64 y0, .int .i64 x1, .int .i64 y1, .slice a m p]] w fun e w' => e = .returned (bareA op t n x0 y0 x1 y1 (.slice a m p)) ∧ Kp w w' none := by
 by_cases g2 : op = 2
 ·subst g2
  have hr : Hid (bareA 2 t n x0 y0 x1 y1 (.slice a m p) = .agg #[.int .i64 2, .string ⟨#[]⟩, .int .i64 n, .int .i64 x0, .int .i64 y0, .int .i64 x1, .int .i64 y1, .slice a m p]) := Lib.hid (by rfl)
  go_enter Tryz.func91, Tryz.ntmps91
  go_wp2_with fail
  try simp only [Exit.inBlock, Exit.then]
  refine bodyPost_ret (results_cell_row (p := 2) (ty := 40) (by rfl) _ _ (w.heap.size + 1) 40 #[.int .i64 2, .string ⟨#[]⟩, .int .i64 n, .int .i64 x0, .int .i64 y0, .int .i64 x1, .int .i64 y1, .slice a m p] (0, 0) _ (by rfl) (heap_alloc2_new _ _ _) Tryz.underlying40 (by rfl) info40s) (by rfl) ?_
  exact ⟨by rw [hr.out], ((Kp.refl _ _).alloc _).alloc _⟩
 by_cases g3 : op = 3
 ·subst g3
  have hr : Hid (bareA 3 t n x0 y0 x1 y1 (.slice a m p) = .agg #[.int .i64 3, .string ⟨#[]⟩, .int .i64 n, .int .i64 x0, .int .i64 y0, .int .i64 x1, .int .i64 y1, .slice a m p]) := Lib.hid (by rfl)
  go_enter Tryz.func91, Tryz.ntmps91
  go_wp2_with fail
  try simp only [Exit.inBlock, Exit.then]
  refine bodyPost_ret (results_cell_row (p := 2) (ty := 40) (by rfl) _ _ (w.heap.size + 1) 40 #[.int .i64 3, .string ⟨#[]⟩, .int .i64 n, .int .i64 x0, .int .i64 y0, .int .i64 x1, .int .i64 y1, .slice a m p] (0, 0) _ (by rfl) (heap_alloc2_new _ _ _) Tryz.underlying40 (by rfl) info40s) (by rfl) ?_
  exact ⟨by rw [hr.out], ((Kp.refl _ _).alloc _).alloc _⟩
 by_cases g4 : op = 4
 ·subst g4
  have hr : Hid (bareA 4 t n x0 y0 x1 y1 (.slice a m p) = .agg #[.int .i64 4, str t, .int .i64 0, .int .i64 x0, .int .i64 y0, .int .i64 x1, .int .i64 y1, .slice a m p]) := Lib.hid (by rfl)
  go_enter Tryz.func91, Tryz.ntmps91
  go_wp2_with fail
  try simp only [Exit.inBlock, Exit.then]
  refine bodyPost_ret (results_cell_row (p := 2) (ty := 40) (by rfl) _ _ (w.heap.size + 1) 40 #[.int .i64 4, str t, .int .i64 0, .int .i64 x0, .int .i64 y0, .int .i64 x1, .int .i64 y1, .slice a m p] (0, 0) _ (by rfl) (heap_alloc2_new _ _ _) Tryz.underlying40 (by rfl) info40s) (by rfl) ?_
  exact ⟨by rw [hr.out], ((Kp.refl _ _).alloc _).alloc _⟩
 by_cases g5 : op = 5
 ·subst g5
  have hr : Hid (bareA 5 t n x0 y0 x1 y1 (.slice a m p) = .agg #[.int .i64 5, str t, .int .i64 0, .int .i64 x0, .int .i64 y0, .int .i64 x1, .int .i64 y1, .slice a m p]) := Lib.hid (by rfl)
  go_enter Tryz.func91, Tryz.ntmps91
  go_wp2_with fail
  try simp only [Exit.inBlock, Exit.then]
  refine bodyPost_ret (results_cell_row (p := 2) (ty := 40) (by rfl) _ _ (w.heap.size + 1) 40 #[.int .i64 5, str t, .int .i64 0, .int .i64 x0, .int .i64 y0, .int .i64 x1, .int .i64 y1, .slice a m p] (0, 0) _ (by rfl) (heap_alloc2_new _ _ _) Tryz.underlying40 (by rfl) info40s) (by rfl) ?_
  exact ⟨by rw [hr.out], ((Kp.refl _ _).alloc _).alloc _⟩
 by_cases g6 : op = 6
 ·subst g6
  have hr : Hid (bareA 6 t n x0 y0 x1 y1 (.slice a m p) = .agg #[.int .i64 6, str t, .int .i64 0, .int .i64 x0, .int .i64 y0, .int .i64 x1, .int .i64 y1, .slice a m p]) := Lib.hid (by rfl)
  go_enter Tryz.func91, Tryz.ntmps91
  go_wp2_with fail
  try simp only [Exit.inBlock, Exit.then]
  refine bodyPost_ret (results_cell_row (p := 2) (ty := 40) (by rfl) _ _ (w.heap.size + 1) 40 #[.int .i64 6, str t, .int .i64 0, .int .i64 x0, .int .i64 y0, .int .i64 x1, .int .i64 y1, .slice a m p] (0, 0) _ (by rfl) (heap_alloc2_new _ _ _) Tryz.underlying40 (by rfl) info40s) (by rfl) ?_
  exact ⟨by rw [hr.out], ((Kp.refl _ _).alloc _).alloc _⟩
 by_cases g7 : op = 7
 ·subst g7
  have hr : Hid (bareA 7 t n x0 y0 x1 y1 (.slice a m p) = .agg #[.int .i64 7, str t, .int .i64 n, .int .i64 0, .int .i64 0, .int .i64 0, .int .i64 0, .slice a m p]) := Lib.hid (by rfl)
  go_enter Tryz.func91, Tryz.ntmps91
  go_wp2_with fail
  try simp only [Exit.inBlock, Exit.then]
  refine bodyPost_ret (results_cell_row (p := 2) (ty := 40) (by rfl) _ _ (w.heap.size + 1) 40 #[.int .i64 7, str t, .int .i64 n, .int .i64 0, .int .i64 0, .int .i64 0, .int .i64 0, .slice a m p] (0, 0) _ (by rfl) (heap_alloc2_new _ _ _) Tryz.underlying40 (by rfl) info40s) (by rfl) ?_
  exact ⟨by rw [hr.out], ((Kp.refl _ _).alloc _).alloc _⟩
 by_cases g8 : op = 8
 ·subst g8
  have hr : Hid (bareA 8 t n x0 y0 x1 y1 (.slice a m p) = .agg #[.int .i64 8, str t, .int .i64 n, .int .i64 x0, .int .i64 y0, .int .i64 x1, .int .i64 y1, .slice none 0 0]) := Lib.hid (by rfl)
  go_enter Tryz.func91, Tryz.ntmps91
  go_wp2_with fail
  try simp only [Exit.inBlock, Exit.then]
  refine bodyPost_ret (results_cell_row (p := 2) (ty := 40) (by rfl) _ _ (w.heap.size + 1) 40 #[.int .i64 8, str t, .int .i64 n, .int .i64 x0, .int .i64 y0, .int .i64 x1, .int .i64 y1, .slice none 0 0] (0, 0) _ (by rfl) (heap_alloc2_new _ _ _) Tryz.underlying40 (by rfl) info40s) (by rfl) ?_
  exact ⟨by rw [hr.out], ((Kp.refl _ _).alloc _).alloc _⟩
 by_cases g9 : op = 9
 ·subst g9
  have hr : Hid (bareA 9 t n x0 y0 x1 y1 (.slice a m p) = .agg #[.int .i64 9, str t, .int .i64 n, .int .i64 x0, .int .i64 y0, .int .i64 x1, .int .i64 y1, .slice none 0 0]) := Lib.hid (by rfl)
  go_enter Tryz.func91, Tryz.ntmps91
  go_wp2_with fail
  try simp only [Exit.inBlock, Exit.then]
  refine bodyPost_ret (results_cell_row (p := 2) (ty := 40) (by rfl) _ _ (w.heap.size + 1) 40 #[.int .i64 9, str t, .int .i64 n, .int .i64 x0, .int .i64 y0, .int .i64 x1, .int .i64 y1, .slice none 0 0] (0, 0) _ (by rfl) (heap_alloc2_new _ _ _) Tryz.underlying40 (by rfl) info40s) (by rfl) ?_
  exact ⟨by rw [hr.out], ((Kp.refl _ _).alloc _).alloc _⟩
 by_cases g10 : op = 10
 ·subst g10
  have hr : Hid (bareA 10 t n x0 y0 x1 y1 (.slice a m p) = .agg #[.int .i64 10, str t, .int .i64 n, .int .i64 x0, .int .i64 y0, .int .i64 x1, .int .i64 y1, .slice none 0 0]) := Lib.hid (by rfl)
  go_enter Tryz.func91, Tryz.ntmps91
  go_wp2_with fail
  try simp only [Exit.inBlock, Exit.then]
  refine bodyPost_ret (results_cell_row (p := 2) (ty := 40) (by rfl) _ _ (w.heap.size + 1) 40 #[.int .i64 10, str t, .int .i64 n, .int .i64 x0, .int .i64 y0, .int .i64 x1, .int .i64 y1, .slice none 0 0] (0, 0) _ (by rfl) (heap_alloc2_new _ _ _) Tryz.underlying40 (by rfl) info40s) (by rfl) ?_
  exact ⟨by rw [hr.out], ((Kp.refl _ _).alloc _).alloc _⟩
 have hr : Hid (bareA op t n x0 y0 x1 y1 (.slice a m p) = .agg #[.int .i64 op, str t, .int .i64 n, .int .i64 x0, .int .i64 y0, .int .i64 x1, .int .i64 y1, .slice a m p]) := Lib.hid (by unfold bareA; rw [if_neg (by omega), if_neg (by omega), if_neg (by omega), if_neg (by omega), if_neg (by omega), if_neg (by omega), if_neg (by omega)])
 have e2 : (op == 2) = false := by simp; omega
 have e3 : (op == 3) = false := by simp; omega
 have e4 : (op == 4) = false := by simp; omega
 have e5 : (op == 5) = false := by simp; omega
 have e6 : (op == 6) = false := by simp; omega
 have e7 : (op == 7) = false := by simp; omega
 have e8 : (op == 8) = false := by simp; omega
 have e9 : (op == 9) = false := by simp; omega
 have e10 : (op == 10) = false := by simp; omega
 clear g2 g3 g4 g5 g6 g7 g8 g9 g10
 go_enter Tryz.func91, Tryz.ntmps91
 go_wp2_with fail
 try simp only [Exit.inBlock, Exit.then]
 refine bodyPost_ret (results_cell_row (p := 2) (ty := 40) (by rfl) _ _ (w.heap.size + 1) 40 #[.int .i64 op, str t, .int .i64 n, .int .i64 x0, .int .i64 y0, .int .i64 x1, .int .i64 y1, .slice a m p] (0, 0) _ (by rfl) (heap_alloc2_new _ _ _) Tryz.underlying40 (by rfl) info40s) (by rfl) ?_
 exact ⟨by rw [hr.out], ((Kp.refl _ _).alloc _).alloc _⟩

end Go.Proofs.YtnchipahdfbliaaGreatDoor

namespace Go.Proofs.YtnchipahdfbliaaGreatDoor
open Go.RowKit

theorem right05_any (x y : Int) (w : World) : Calls Tryz.prog 93 #[.agg #[.int .i64 x, .int .i64 y]] w fun e w' => e = .returned (.bool (Ru.coordR x && Ru.coordR y)) ∧ Kp w w' none := by
 have he : (Ru.coordR x && Ru.coordR y) = decide ((-67108864 ≤ x ∧ x ≤ 67108864) ∧ (-67108864 ≤ y ∧ y ≤ 67108864)) := by
  unfold Ru.coordR; rw [Bool.eq_iff_iff]; simp
 obtain ⟨r, hr⟩ : ∃ r, (Ru.coordR x && Ru.coordR y) = r := ⟨_, rfl⟩
 rw [hr] at he ⊢
 have HR := Lib.hid he
 clear he hr
 go_enter Tryz.func93, Tryz.ntmps93
 go_wp2
 all_goals
  go_ret
  refine ⟨?_, (Kp.refl w none).alloc _⟩
  refine ret_b ?_
  rw [HR.out]
  first | (rw [decide_eq_decide]; omega) | (symm; rw [decide_eq_true_iff]; omega) | (symm; rw [decide_eq_false_iff_not]; omega) | (rw [decide_eq_true_iff]; omega) | (rw [decide_eq_false_iff_not]; omega)
/-- What bare leaves, as letters. -/
def BareG (op : Int) (t : List UInt8) (n x0 y0 x1 y1 : Int) (a : Option Addr) (m p : Nat) : Prop := ∃ (rt : List UInt8) (rn r0 r1 r2 r3 : Int) (la : Option Addr) (lm lp : Nat),
  (∀ w, Calls Tryz.prog 91 #[.agg #[.int .i64 op, str t, .int .i64 n, .int .i64 x0, .int .i64 y0, .int .i64 x1, .int .i64 y1, .slice a m p]] w fun e w' => e = .returned (.agg #[.int .i64 op, str rt, .int .i64 rn, .int .i64 r0, .int .i64 r1, .int .i64 r2, .int .i64 r3, .slice la lm lp]) ∧ Kp w w' none) ∧
  Ru.rest op t n ⟨x0, y0, x1, y1⟩ m = ((rt == []) && ((rn == 0) && (decide (r0 = 0 ∧ r1 = 0 ∧ r2 = 0 ∧ r3 = 0) && (lm == 0))))
theorem bare_gen (op : Int) (t : List UInt8) (n x0 y0 x1 y1 : Int) (a : Option Addr) (m p : Nat) : BareG op t n x0 y0 x1 y1 a m p := by
 have key : ∀ (rt : List UInt8) (rn r0 r1 r2 r3 : Int) (la : Option Addr) (lm lp : Nat), bareA op t n x0 y0 x1 y1 (.slice a m p) = .agg #[.int .i64 op, str rt, .int .i64 rn, .int .i64 r0, .int .i64 r1, .int .i64 r2, .int .i64 r3, .slice la lm lp] → Ru.rest op t n ⟨x0, y0, x1, y1⟩ m = ((rt == []) && ((rn == 0) && (decide (r0 = 0 ∧ r1 = 0 ∧ r2 = 0 ∧ r3 = 0) && (lm == 0)))) → BareG op t n x0 y0 x1 y1 a m p := fun rt rn r0 r1 r2 r3 la lm lp h1 h2 => ⟨rt, rn, r0, r1, r2, r3, la, lm, lp, fun w => by rw [← h1]; exact bare_any op t n x0 y0 x1 y1 a m p w, h2⟩
 by_cases g : op = 8 ∨ op = 9 ∨ op = 10
 ·refine key (if op = 2 ∨ op = 3 then [] else t) (if op = 4 ∨ op = 5 ∨ op = 6 then 0 else n) (if op = 7 then 0 else x0) (if op = 7 then 0 else y0) (if op = 7 then 0 else x1) (if op = 7 then 0 else y1) none 0 0 (by unfold bareA; rw [if_pos g]) ?_
  rcases g with rfl | rfl | rfl <;> simp [Ru.rest, Ru.Box.none, Bool.and_assoc]
 ·refine key (if op = 2 ∨ op = 3 then [] else t) (if op = 4 ∨ op = 5 ∨ op = 6 then 0 else n) (if op = 7 then 0 else x0) (if op = 7 then 0 else y0) (if op = 7 then 0 else x1) (if op = 7 then 0 else y1) a m p (by unfold bareA; rw [if_neg g]) ?_
  by_cases g2 : op = 2 ∨ op = 3
  ·rcases g2 with rfl | rfl <;> simp [Ru.rest, Ru.Box.none, Bool.and_assoc] <;> rfl
  ·by_cases g4 : op = 4 ∨ op = 5 ∨ op = 6
   ·rcases g4 with rfl | rfl | rfl <;> simp [Ru.rest, Ru.Box.none, Bool.and_assoc] <;> rfl
   ·by_cases g7 : op = 7
    ·subst g7; simp [Ru.rest, Ru.Box.none, Bool.and_assoc] <;> rfl
    ·simp [Ru.rest, Ru.Box.none, g, g2, g4, g7, Bool.and_assoc] <;> rfl
end Go.Proofs.YtnchipahdfbliaaGreatDoor
