/- Cut slices as lists. No condition. -/
import Derived.Test.YtpakiabnhdoijaaAp
namespace Go.Proofs.Ytpakiabnhdoijaa
open Go.RowKit

theorem isList_take {α : Type} {m : Nat} {f : α → List Value} {w : World} {b off cap k : Nat} {xs : List α} (hc : xs.length ≤ cap) (hk : k ≤ xs.length) (hb : b < w.heap.size)
    (hr : ∀ k, (h : k < xs.length) → ∀ j, (h2 : j < (f xs[k]).length) → w.cell? ⟨b, off + k * m + j, none⟩ = some (f xs[k])[j]) : IsList m f w (.slice (some ⟨b, off, none⟩) k cap) (xs.take k) := by
  have hl : (xs.take k).length = k := by rw [List.length_take]; omega
  refine .inr ⟨b, off, cap, by rw [hl], by omega, hb, fun i hi j hj => ?_⟩
  have hi2 : i < xs.length := by omega
  have e : (xs.take k)[i] = xs[i] := List.getElem_take
  simp only [e] at hj ⊢
  exact hr i hi2 j hj
theorem isInts_drop {w : World} {b off cap k : Nat} {xs : List Int} (hc : xs.length ≤ cap) (hk : k ≤ xs.length) (hb : b < w.heap.size)
    (hr : ∀ k, (h : k < xs.length) → w.cell? ⟨b, off + k, none⟩ = some (.int .i64 xs[k])) : IsInts w (.slice (if cap = k then some ⟨b, off, none⟩ else some ⟨b, off + k, none⟩) (xs.length - k) (cap - k)) (xs.drop k) := by
  by_cases hck : cap = k
  · rw [if_pos hck]
    have e : xs.length - k = 0 := by omega
    rw [e]
    exact .inl ⟨_, _, rfl, List.drop_of_length_le (by omega)⟩
  · rw [if_neg hck]
    refine .inr ⟨b, off + k, cap - k, by rw [List.length_drop], by rw [List.length_drop]; omega, hb, fun i hi j hj => ?_⟩
    have hj0 : j = 0 := by simp [intVal] at hj; exact hj
    subst hj0
    have hi2 : k + i < xs.length := by rw [List.length_drop] at hi; omega
    have e : (xs.drop k)[i] = xs[k + i] := List.getElem_drop
    have h := hr (k + i) hi2
    simp only [e]
    rw [show off + k + i * 1 + 0 = off + (k + i) by omega, h]
    rfl

end Go.Proofs.Ytpakiabnhdoijaa
