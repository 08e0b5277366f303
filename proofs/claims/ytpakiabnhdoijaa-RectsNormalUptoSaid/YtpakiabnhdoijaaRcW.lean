/- The plain law of a sorted list with a further number, cut where the number belongs. No program is in sight. -/
import Derived.Test.YtpakiabnhdoijaaRcB
namespace Go.Proofs.Ytpakiabnhdoijaa.Rc

theorem with_split : ∀ (xs : List Int) (n : Int) (k : Nat) (_h : ∀ x ∈ xs.take k, x < n), with_ xs n = xs.take k ++ with_ (xs.drop k) n
  | xs, n, 0, _ => by simp
  | [], n, k + 1, _ => by simp
  | x :: xs, n, k + 1, h => by
    have hx : x < n := h x (by simp)
    have ih := with_split xs n k fun y hy => h y (by rw [List.take_succ_cons]; exact List.mem_cons_of_mem _ hy)
    rw [List.take_succ_cons, List.drop_succ_cons, List.cons_append, ← ih]
    show (if x < n then x :: with_ xs n else _) = _
    rw [if_pos hx]
theorem with_there {xs : List Int} {n : Int} {k : Nat} (h : ∀ x ∈ xs.take k, x < n) (hk : k < xs.length) (he : xs[k] = n) : with_ xs n = xs := by
  have e : with_ (xs.drop k) n = xs.drop k := by
    rw [List.drop_eq_getElem_cons hk]
    show (if xs[k] < n then _ else if xs[k] = n then _ else _) = _
    rw [if_neg (by omega), if_pos he]
  rw [with_split xs n k h, e, List.take_append_drop]
theorem with_new {xs : List Int} {n : Int} {k : Nat} (h : ∀ x ∈ xs.take k, x < n) (hk : ∀ h : k < xs.length, n < xs[k]) : with_ xs n = xs.take k ++ n :: xs.drop k := by
  rw [with_split xs n k h]
  congr 1
  by_cases hlt : k < xs.length
  · have h2 := hk hlt
    rw [List.drop_eq_getElem_cons hlt]
    show (if xs[k] < n then _ else if xs[k] = n then _ else _) = _
    rw [if_neg (by omega), if_neg (by omega)]
  · rw [List.drop_of_length_le (by omega)]; rfl
theorem with_length (xs : List Int) (n : Int) : (with_ xs n).length ≤ xs.length + 1 := by
  induction xs with
  | nil => simp [with_]
  | cons x xs ih =>
    unfold with_
    split
    · simpa using ih
    · split <;> simp

end Go.Proofs.Ytpakiabnhdoijaa.Rc
