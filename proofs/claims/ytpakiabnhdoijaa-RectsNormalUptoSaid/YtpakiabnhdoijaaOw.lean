/- Slices that a call has built, read as lists. No condition. -/
import Derived.Test.YtpakiabnhdoijaaBase
import Derived.RegionTactic
import Derived.BigRegion
import Derived.OwnWalk
namespace Go.Proofs.Ytpakiabnhdoijaa
open Go.RowKit

theorem infoRect : (Try.prog.info? 44).map (fun i => (i.zero, i.size, i.bytes)) = some (some (.agg #[.int .i64 0, .int .i64 0, .int .i64 0, .int .i64 0]), 4, 32) := by kernel_rfl
theorem infoSpan : (Try.prog.info? 24).map (fun i => (i.zero, i.size, i.bytes)) = some (some (.agg #[.int .i64 0, .int .i64 0]), 2, 16) := by kernel_rfl
theorem infoInt : (Try.prog.info? 3).map (fun i => (i.zero, i.size, i.bytes)) = some (some (.int .i64 0), 1, 8) := by kernel_rfl
theorem heap_alloc_new (w : World) (o : Obj) : (w.alloc o).heap[w.heap.size]? = some o := by simp [World.alloc, -World.alloc_eq]
theorem Kp.row {W w w' : World} {row rb : Option Nat} (h0 : Kp W w row) (h : Kp w w' rb) (hr : ∀ k, rb = some k → W.heap.size ≤ k) : Kp W w' row := by
  cases rb with
  | none => exact h0.trans (h.weak row)
  | some r => exact Kp.of_own h0 h (hr r rfl)
theorem flat_get {α : Type} (m : Nat) (f : α → List Value) (hm : ∀ x, (f x).length = m) : ∀ (xs : List α) (k j : Nat) (h : k < xs.length) (h2 : j < (f xs[k]).length), (xs.flatMap f)[k * m + j]? = some (f xs[k])[j]
  | [], _, _, h, _ => by simp at h
  | x :: xs, 0, j, h, h2 => by
    simp only [Nat.zero_mul, Nat.zero_add, List.getElem_cons_zero] at h2 ⊢
    rw [List.flatMap_cons, List.getElem?_append_left h2, List.getElem?_eq_getElem h2]
  | x :: xs, k + 1, j, h, h2 => by
    have ih := flat_get m f hm xs k j (by simpa using h) (by simpa using h2)
    have e : (k + 1) * m + j = m + (k * m + j) := by rw [Nat.add_mul, Nat.one_mul]; omega
    rw [List.flatMap_cons, List.getElem?_append_right (by rw [hm x]; omega), hm x, show (k + 1) * m + j - m = k * m + j by omega, ih]
    rfl
theorem isList_own {α : Type} {m : Nat} {f : α → List Value} (hm : ∀ x, (f x).length = m) {w : World} {base : Nat} {e : TypeId} {v : Value} {xs : List α} (h : w.ownsRow base e m v xs.length (xs.flatMap f)) : IsList m f w v xs := by
  rcases h.2 with ⟨rfl, h0⟩ | ⟨g, cap, cur, rfl, _, hg, hc, _⟩
  · have : xs = [] := List.length_eq_zero_iff.1 h0
    subst this
    exact .inl ⟨_, _, rfl, rfl⟩
  · refine .inr ⟨g, 0, cap, rfl, hc, lt_of_block hg, fun k hk j hj => ?_⟩
    have := h.cells rfl (k * m + j) _ (flat_get m f hm xs k j hk hj)
    rw [show ((⟨g, 0, none⟩ : Addr).add (k * m + j)) = ⟨g, k * m + j, none⟩ by unfold Addr.add; split <;> simp_all] at this
    simpa using this
theorem flat_take_step {α : Type} (f : α → List Value) (xs : List α) (k : Nat) (h : k < xs.length) : (xs.take (k + 1)).flatMap f = (xs.take k).flatMap f ++ f xs[k] := by
  rw [List.take_succ_eq_append_getElem h, List.flatMap_append]; simp

end Go.Proofs.Ytpakiabnhdoijaa
