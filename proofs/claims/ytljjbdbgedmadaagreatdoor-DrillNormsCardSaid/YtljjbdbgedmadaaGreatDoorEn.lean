/- Bounds of right edges, for their walks. No condition.
   One edge of a list in memory. No condition. -/
import Derived.Test.YtljjbdbgedmadaaGreatDoorPt

namespace Go.Proofs.YtljjbdbgedmadaaGreatDoor
open Go.RowKit

theorem In.mid {n : Int} (h : Pl.In n) : Mid n := by unfold Pl.In at h; unfold Mid; omega
theorem chkE_zero {e : Pl.Ed} (h : Pl.chkE e = 0) : (e.k = 1 ∨ e.k = 2 ∨ e.k = 3) ∧ e.a.ok ∧ e.b.ok ∧ e.c.ok ∧ (e.k = 1 → e.c = ⟨0, 0⟩) ∧ (e.k ≠ 1 → Pl.Arc e) := by
  unfold Pl.chkE at h
  split at h
  · cases h
  · rename_i h1
    split at h
    · cases h
    · rename_i h2
      have h3 := Classical.not_not.1 h2
      refine ⟨by omega, h3.1, h3.2.1, h3.2.2, fun h4 => ?_, fun h4 => ?_⟩
      · rw [if_pos h4] at h
        split at h
        · assumption
        · cases h
      · rw [if_neg h4] at h
        split at h
        · assumption
        · cases h
theorem sub_mid {a b : Int} (h1 : Pl.In a) (h2 : Pl.In b) : Mid (a - b) := by unfold Pl.In at h1 h2; unfold Mid; omega
end Go.Proofs.YtljjbdbgedmadaaGreatDoor

namespace Go.Proofs.YtljjbdbgedmadaaGreatDoor
open Go.RowKit

theorem LiesAt.ed {w : World} {ao : Option Addr} {cap : Nat} {es : List Pl.Ed} (h : LiesAt 7 edC w ao cap es) {k : Nat} (hk : k < es.length) : ∃ b off, ao = some ⟨b, off, none⟩ ∧ es.length ≤ cap ∧ b < w.heap.size ∧ ∀ w', Kp w w' none →
    w'.cell? ⟨b, off + k * 7, none⟩ = some (.int .i64 es[k].k) ∧ w'.cell? ⟨b, off + k * 7 + 1, none⟩ = some (.int .i64 es[k].a.x) ∧ w'.cell? ⟨b, off + k * 7 + 2, none⟩ = some (.int .i64 es[k].a.y) ∧ w'.cell? ⟨b, off + k * 7 + 3, none⟩ = some (.int .i64 es[k].b.x) ∧ w'.cell? ⟨b, off + k * 7 + 4, none⟩ = some (.int .i64 es[k].b.y) ∧ w'.cell? ⟨b, off + k * 7 + 5, none⟩ = some (.int .i64 es[k].c.x) ∧ w'.cell? ⟨b, off + k * 7 + 6, none⟩ = some (.int .i64 es[k].c.y) := by
  obtain ⟨b, off, e, hb, hc, hr⟩ := h k hk
  refine ⟨b, off, e, hc, hb, fun w' K => ?_⟩
  have q : ∀ j, (hj : j < (edC es[k]).length) → w'.cell? ⟨b, off + k * 7 + j, none⟩ = some (edC es[k])[j] := fun j hj => (K.below.cell (p := ⟨b, off + k * 7 + j, none⟩) hb).trans (hr j hj)
  exact ⟨q 0 (by simp [edC]), q 1 (by simp [edC]), q 2 (by simp [edC]), q 3 (by simp [edC]), q 4 (by simp [edC]), q 5 (by simp [edC]), q 6 (by simp [edC])⟩
end Go.Proofs.YtljjbdbgedmadaaGreatDoor
