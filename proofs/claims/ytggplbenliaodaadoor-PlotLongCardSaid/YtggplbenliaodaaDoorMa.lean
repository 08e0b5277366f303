/- Shapes that numbers choose (Made). No condition. -/
import Derived.Test.YtggplbenliaodaaDoorPa
namespace Go.Proofs.YtggplbenliaodaaDoor
open Go.RowKit

/-- A shape that is right, and small. -/
def FineSh (w : World) (E : Ending) (w' : World) : Prop := ∃ (s : Pl.Sh) (ea : Option Addr) (ec : Nat), Pl.Fine s ∧ E = .returned (.agg #[.int .i64 s.k, .slice ea s.es.length ec, .int .i64 s.r]) ∧ LiesAt 7 edC w' ea ec s.es ∧ (∀ p, ea = some p → w.heap.size ≤ p.block) ∧ Kp w w' none
theorem ShapeIs.fine {w w' : World} {s : Pl.Sh} {E : Ending} (hf : Pl.Fine s) (h : ShapeIs w s E w') : FineSh w E w' := by
  obtain ⟨ao, cap, h1, h2, h3, h4⟩ := h
  exact ⟨s, ao, cap, hf, h1, h2, h3, h4⟩
theorem pts_one (w : World) (x y : Int) : IsList 2 ptC (w.alloc (Obj.cells #[.int .i64 x, .int .i64 y] 29)) (.slice (some ⟨w.heap.size, 0, none⟩) 1 1) [⟨x, y⟩] := by
  refine .inr ⟨w.heap.size, 0, 1, rfl, by simp, by simp, fun k hk j hj => ?_⟩
  simp at hk; subst hk
  have hj' : j = 0 ∨ j = 1 := by
    have : j < 2 := by simpa [ptC] using hj
    omega
  rcases hj' with rfl | rfl <;> exact hcell (heap_alloc_new w _) _ rfl
theorem pt_one : ∀ x : Pl.Pt, ∀ u ∈ ptC x, u.oneCell' = true := by intro x q hq; simp [ptC] at hq; rcases hq with rfl | rfl <;> rfl
end Go.Proofs.YtggplbenliaodaaDoor
