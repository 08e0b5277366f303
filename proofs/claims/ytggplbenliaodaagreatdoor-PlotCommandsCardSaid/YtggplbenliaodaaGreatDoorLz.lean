/- Lists where they lie: kept, cut, one drawing as a list. No condition. -/
import Derived.Test.YtggplbenliaodaaGreatDoorSn
import Derived.Deep.CutBlock
import Derived.Deep.CutRange
namespace Go.Proofs.YtggplbenliaodaaGreatDoor
open Go.RowKit

theorem LiesRows.keep {w w' : World} {ao : Option Addr} {cap : Nat} {rows : List (List Int)} (h : LiesRows w ao cap rows) (k : Kp w w' none) : LiesRows w' ao cap rows := fun i hi => by
  obtain ⟨b, off, ra, rc, e, h1, h2, h3, h4, h5, h6⟩ := h i hi
  exact ⟨b, off, ra, rc, e, h1, Nat.lt_of_lt_of_le h2 k.size, (k.below.cell (p := ⟨b, off + i, none⟩) h2).trans h3, h4.keep k, h5, h6⟩
theorem own_keep {w w' : World} {base size n : Nat} {e : TypeId} {v : Value} {xs : List Value} (h : w.ownsRow base e size v n xs) (k : Kp w w' none) : w'.ownsRow base e size v n xs := h.kept k (by cases v.ownBlock <;> simp)
theorem dt_lies {w : World} {rb : Nat} {rk rr : Int} {es : List Pl.Ed} {ea : Option Addr} {j ec : Nat} {c : Bool} (h : w.heap[rb]? = some (.cells #[.int .i64 rk, .slice ea j ec, .int .i64 rr, .bool c] 30 (0, 0))) (hj : es.length = j) : IsList 4 dtC w (.slice (some ⟨rb, 0, none⟩) 1 1) [⟨⟨⟨rk, es, rr⟩, c⟩, ea, ec⟩] := by
  subst hj
  refine .inr ⟨rb, 0, 1, rfl, by simp, lt_of_block h, fun k hk i hi => ?_⟩
  simp at hk; subst hk
  have hi' : i = 0 ∨ i = 1 ∨ i = 2 ∨ i = 3 := by
    have : i < 4 := by simpa [dtC] using hi
    omega
  rcases hi' with rfl | rfl | rfl | rfl <;> exact hcell h _ rfl
theorem lies_set {α : Type} {m : Nat} {f : α → List Value} (h4 : ∀ x, 4 ≤ (f x).length) {w w' : World} {ao : Option Addr} {cap R : Nat} {xs : List α} {a b c : Value} {T : TypeId} (h : LiesAt m f w ao cap xs) (hR : w.heap[R]? = some (.cells #[a, b, c] T (0, 0))) (k : Kp w w' (some R)) : LiesAt m f w' ao cap xs := fun i hi => by
  obtain ⟨b2, off, e, hb, hc, hr⟩ := h i hi
  have hne : b2 ≠ R := fun e2 => by
    have h3 := hr 3 (by have := h4 xs[i]; omega)
    subst e2
    simp only [World.cell?, hR] at h3
    have : (#[a, b, c] : Array Value)[off + i * m + 3]? = none := by rw [Array.getElem?_eq_none]; simp
    simp [] at h3
  exact ⟨b2, off, e, Nat.lt_of_lt_of_le hb k.size, hc, fun j hj => by rw [World.grownBy.cell_far k ⟨b2, off + i * m + j, none⟩ hb (fun q => hne (Option.some.inj q))]; exact hr j hj⟩
theorem lies_take {α : Type} {m : Nat} {f : α → List Value} {w : World} {ao : Option Addr} {cap : Nat} {xs : List α} (h : LiesAt m f w ao cap xs) (k : Nat) (hk : k ≤ xs.length) : LiesAt m f w ao cap (xs.take k) := fun i hi => by
  have hi2 : i < xs.length := by rw [List.length_take] at hi; omega
  obtain ⟨b, off, e, hb, hc, hr⟩ := h i hi2
  have e1 : (xs.take k)[i] = xs[i] := List.getElem_take
  refine ⟨b, off, e, hb, by rw [List.length_take]; omega, fun j hj => ?_⟩
  simp only [e1] at hj ⊢
  exact hr j hj
theorem lies_drop {α : Type} {m : Nat} {f : α → List Value} {w : World} {b off cap : Nat} {xs : List α} (h : LiesAt m f w (some ⟨b, off, none⟩) cap xs) (k : Nat) (hk : k ≤ cap) (_ : k ≤ xs.length) : LiesAt m f w (some ⟨b, off + k * m, none⟩) (cap - k) (xs.drop k) := fun i hi => by
  have hi2 : k + i < xs.length := by rw [List.length_drop] at hi; omega
  obtain ⟨b2, off2, e, hb, hc, hr⟩ := h (k + i) hi2
  injection e with e
  injection e with e1 e2
  subst e1; subst e2
  have e3 : (xs.drop k)[i] = xs[k + i] := List.getElem_drop
  refine ⟨b, off + k * m, rfl, hb, by rw [List.length_drop]; omega, fun j hj => ?_⟩
  simp only [e3] at hj ⊢
  rw [show off + k * m + i * m + j = off + (k + i) * m + j by rw [Nat.add_mul]; omega]
  exact hr j hj
end Go.Proofs.YtggplbenliaodaaGreatDoor
