/- Discs, rectangles, circles and rounded rectangles that are made. Condition: coordinates of at most 2^61. -/
import Derived.Test.YtljjbdbgedmadaaGreatDoorLp
namespace Go.Proofs.YtljjbdbgedmadaaGreatDoor
open Go.RowKit

/-- A block of four points. -/
theorem pts4 (w : World) (x0 y0 x1 y1 x2 y2 x3 y3 : Int) : LiesAt 2 ptC (w.alloc (Obj.cells #[.int .i64 x0, .int .i64 y0, .int .i64 x1, .int .i64 y1, .int .i64 x2, .int .i64 y2, .int .i64 x3, .int .i64 y3] 42)) (some ⟨w.heap.size, 0, none⟩) 4 [⟨x0, y0⟩, ⟨x1, y1⟩, ⟨x2, y2⟩, ⟨x3, y3⟩] := fun k hk => by
  refine ⟨w.heap.size, 0, rfl, by simp, Nat.le_refl _, fun j hj => ?_⟩
  have hk' : k = 0 ∨ k = 1 ∨ k = 2 ∨ k = 3 := by simp at hk; omega
  have hj' : j = 0 ∨ j = 1 := by
    have : j < 2 := by rcases hk' with rfl | rfl | rfl | rfl <;> simpa [ptC] using hj
    omega
  rcases hk' with rfl | rfl | rfl | rfl <;> rcases hj' with rfl | rfl <;> exact hcell (heap_alloc_new w _) _ rfl
set_option maxHeartbeats 4000000 in
set_option maxRecDepth 100000 in
theorem rdisc_any (x y r : Int) (w : World) : Calls Tryz.prog 39 #[.agg #[.int .i64 x, .int .i64 y], .int .i64 r] w (ShapeIs w (Pl.disc ⟨x, y⟩ r)) := by
  go_enter Tryz.func39, Tryz.ntmps39
  go_wp2_with fail
  go_returns
  have hl := ed_list (w := (w.alloc (Obj.cells #[.int .i64 x, .int .i64 y] 42)).alloc (Obj.cells #[.int .i64 1, .slice (some ⟨w.heap.size + 1 + 1, 0, none⟩) 1 1, .int .i64 r] 50)) (Pl.line ⟨x, y⟩ ⟨x, y⟩)
  simp at hl
  exact ⟨_, _, rfl, hl.lies, fun p hp => by injection hp with hp; subst hp; dsimp only; omega, (((Kp.refl w none).alloc _).alloc _).alloc _⟩


set_option maxHeartbeats 4000000 in
set_option maxRecDepth 100000 in
theorem rrect_any (x0 y0 x1 y1 : Int) (w : World) : Calls Tryz.prog 73 #[.agg #[.int .i64 x0, .int .i64 y0, .int .i64 x1, .int .i64 y1]] w (ShapeIs w ⟨2, Pl.loopE [⟨x0, y0⟩, ⟨x1, y0⟩, ⟨x1, y1⟩, ⟨x0, y1⟩] 4, 0⟩) := by
  go_enter Tryz.func73, Tryz.ntmps73
  go_wp2_with fail
  have HL := Lib.hid (pts4 ((w.alloc (Obj.cells #[.int .i64 x0, .int .i64 y0, .int .i64 x1, .int .i64 y1] 142)).alloc (Obj.cells #[.int .i64 0, .slice none 0 0, .int .i64 0] 50)) x0 y0 x1 y0 x1 y1 x0 y1)
  simp at HL
  have HR0 : Hid (((w.alloc (Obj.cells #[.int .i64 x0, .int .i64 y0, .int .i64 x1, .int .i64 y1] 142)).alloc (Obj.cells #[.int .i64 0, .slice none 0 0, .int .i64 0] 50)).heap[w.heap.size + 1]? = some (Obj.cells #[.int .i64 0, .slice none 0 0, .int .i64 0] 50 (0, 0))) := Lib.hid (by have h := heap_alloc_new (w.alloc (Obj.cells #[.int .i64 x0, .int .i64 y0, .int .i64 x1, .int .i64 y1] 142)) (Obj.cells #[.int .i64 0, .slice none 0 0, .int .i64 0] 50); simpa using h)
  refine (loop_any [⟨x0, y0⟩, ⟨x1, y0⟩, ⟨x1, y1⟩, ⟨x0, y1⟩] 4 rfl _ _ _ HL.out (by omega) (by omega)).mono ?_
  rintro E w1 ⟨ea, ec, rfl, hl, hf, k1⟩
  have HR := Lib.hid (blk HR0.out (((Kp.refl _ none).alloc _).trans k1))
  have K1 := Lib.hid ((((Kp.refl w none).alloc _).alloc _).trans (((Kp.refl _ none).alloc _).trans k1))
  have HLI := Lib.hid hl
  have FRX : Hid (∀ p, ea = some p → w.heap.size ≤ p.block ∧ p.block ≠ w.heap.size + 1) := Lib.hid (fun p hp => by have := hf p hp; simp at this; omega)
  clear hl hf k1 HL HR0
  have g0 := Lib.frozen_of_heap HR.out 0
  have g1 := Lib.frozen_of_heap HR.out 1
  have g2 := Lib.frozen_of_heap HR.out 2
  have x0' : w1.cell? ⟨w.heap.size + 1, 0, none⟩ = some (.int .i64 0) := hcell HR.out 0 rfl
  have x1' : w1.cell? ⟨w.heap.size + 1, 1, none⟩ = some (.slice none 0 0) := hcell HR.out 1 rfl
  have x2' : w1.cell? ⟨w.heap.size + 1, 2, none⟩ = some (.int .i64 0) := hcell HR.out 2 rfl
  go_wp2_with fail
  clear x0' x1' x2' g0 g1 g2
  have hs0 := heap_set (o := 0) (v := .int .i64 2) HR.out
  have hs1 := heap_set (o := 1) (v := .slice ea (Pl.loopE [⟨x0, y0⟩, ⟨x1, y0⟩, ⟨x1, y1⟩, ⟨x0, y1⟩] 4).length ec) hs0
  have hs2 := heap_set (o := 2) (v := .int .i64 0) hs1
  have q0 := Lib.cell_of_heap hs2 0
  have q1 := Lib.cell_of_heap hs2 1
  have q2 := Lib.cell_of_heap hs2 2
  simp at q0 q1 q2
  have HO : Hid (LiesAt 7 edC (((w1.setCell ⟨w.heap.size + 1, 0, none⟩ (.int .i64 2)).setCell ⟨w.heap.size + 1, 1, none⟩ (.slice ea (Pl.loopE [⟨x0, y0⟩, ⟨x1, y0⟩, ⟨x1, y1⟩, ⟨x0, y1⟩] 4).length ec)).setCell ⟨w.heap.size + 1, 2, none⟩ (.int .i64 0)) ea ec _) := Lib.hid (HLI.out.keepRow ((((Kp.refl w1 (some (w.heap.size + 1))).set (.int .i64 2)).set (.slice ea (Pl.loopE [⟨x0, y0⟩, ⟨x1, y0⟩, ⟨x1, y1⟩, ⟨x0, y1⟩] 4).length ec)).set (.int .i64 0)) (fun p hp => (FRX.out p hp).2))
  have KF : Hid (Kp w (((w1.setCell ⟨w.heap.size + 1, 0, none⟩ (.int .i64 2)).setCell ⟨w.heap.size + 1, 1, none⟩ (.slice ea (Pl.loopE [⟨x0, y0⟩, ⟨x1, y0⟩, ⟨x1, y1⟩, ⟨x0, y1⟩] 4).length ec)).setCell ⟨w.heap.size + 1, 2, none⟩ (.int .i64 0)) none) := Lib.hid (K1.out.of_own ((((Kp.refl w1 (some (w.heap.size + 1))).set (.int .i64 2)).set (.slice ea (Pl.loopE [⟨x0, y0⟩, ⟨x1, y0⟩, ⟨x1, y1⟩, ⟨x0, y1⟩] 4).length ec)).set (.int .i64 0)) (by omega))
  clear hs0 hs1 hs2
  generalize (((w1.setCell ⟨w.heap.size + 1, 0, none⟩ (.int .i64 2)).setCell ⟨w.heap.size + 1, 1, none⟩ (.slice ea (Pl.loopE [⟨x0, y0⟩, ⟨x1, y0⟩, ⟨x1, y1⟩, ⟨x0, y1⟩] 4).length ec)).setCell ⟨w.heap.size + 1, 2, none⟩ (.int .i64 0)) = wf at *
  exact bodyPost_ret (v := .agg #[.int .i64 2, .slice ea (Pl.loopE [⟨x0, y0⟩, ⟨x1, y0⟩, ⟨x1, y1⟩, ⟨x0, y1⟩] 4).length ec, .int .i64 0]) (by simp [results, Tryz.results73, go_sem, q0, q1, q2]) rfl ⟨ea, ec, rfl, HO.out, fun p hp => (FRX.out p hp).1, KF.out⟩


end Go.Proofs.YtljjbdbgedmadaaGreatDoor
