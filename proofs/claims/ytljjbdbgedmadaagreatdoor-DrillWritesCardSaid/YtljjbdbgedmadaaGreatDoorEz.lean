/- One edge, one hole as a list. No condition. -/
import Derived.Test.YtljjbdbgedmadaaGreatDoorHs
namespace Go.Proofs.YtljjbdbgedmadaaGreatDoor
open Go.RowKit
theorem ed_one : ∀ x : Pl.Ed, ∀ u ∈ edC x, u.oneCell' = true := by intro x q hq; simp [edC] at hq; rcases hq with rfl | rfl | rfl | rfl | rfl | rfl | rfl <;> rfl
theorem ed_list {w : World} (e : Pl.Ed) : IsList 7 edC (w.alloc (.cells #[I6 e.k, I6 e.a.x, I6 e.a.y, I6 e.b.x, I6 e.b.y, I6 e.c.x, I6 e.c.y] 123)) (.slice (some ⟨w.heap.size, 0, none⟩) 1 1) [e] := by
 refine .inr ⟨w.heap.size, 0, 1, rfl, by simp, by simp, fun k hk j hj => ?_⟩
 simp at hk; subst hk
 have hj' : j < 7 := by simpa [edC] using hj
 have : j = 0 ∨ j = 1 ∨ j = 2 ∨ j = 3 ∨ j = 4 ∨ j = 5 ∨ j = 6 := by omega
 rcases this with rfl | rfl | rfl | rfl | rfl | rfl | rfl <;> exact hcell (heap_alloc_new w _) _ rfl
theorem infoHole : (Tryz.prog.info? 52).map (fun i => (i.zero, i.size, i.bytes)) = some (some (.agg #[I6 0, .slice none 0 0, I6 0, I6 0, I6 0, .bool false]), 6, 64) := by kernel_rfl
theorem hole_list {w : World} (t : HT) : IsList 6 htC (w.alloc (.cells #[I6 t.h.s.k, .slice t.ea t.h.s.es.length t.ec, I6 t.h.s.r, I6 t.h.f, I6 t.h.t, .bool t.h.pl] 52)) (.slice (some ⟨w.heap.size, 0, none⟩) 1 1) [t] := by
 refine .inr ⟨w.heap.size, 0, 1, rfl, by simp, by simp, fun k hk j hj => ?_⟩
 simp at hk; subst hk
 have hj' : j < 6 := by simpa [htC] using hj
 have : j = 0 ∨ j = 1 ∨ j = 2 ∨ j = 3 ∨ j = 4 ∨ j = 5 := by omega
 rcases this with rfl | rfl | rfl | rfl | rfl | rfl <;> exact hcell (heap_alloc_new w _) _ rfl
end Go.Proofs.YtljjbdbgedmadaaGreatDoor
