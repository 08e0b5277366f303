/- Numbers drawn from a list, one after the other: each within its bound. Condition: bounds of at most 10^6; no other. -/
import Derived.Test.YtggplbenliaodaaDoorVe
namespace Go.Proofs.YtggplbenliaodaaDoor
open Go.RowKit

theorem tmod_range (n m : Int) (hm : 0 < m) : -m < n.tmod m ∧ n.tmod m < m := by
  constructor
  · rcases Int.lt_or_le n 0 with h | h
    · have e : n.tmod m = -((-n).tmod m) := by rw [Int.neg_tmod]; omega
      have := Int.tmod_lt_of_pos (-n) hm
      omega
    · have := Int.tmod_nonneg m h
      omega
  · exact Int.tmod_lt_of_pos n hm
def rem (n m : Int) : Int := (n.tmod m + m) % m
theorem rem_range (n m : Int) (h : 0 < m) : 0 ≤ rem n m ∧ rem n m < m := ⟨Int.emod_nonneg _ (by omega), Int.emod_lt_of_pos _ h⟩
theorem wrap_mid' {n m : Int} (h : n = m) (h1 : -4611686018427387904 ≤ m) (h2 : m ≤ 4611686018427387904) : wrap64 n = m := by rw [h]; exact wrap_mid h1 h2
/-- A length of the machine. -/
def LenOk (n : Nat) : Prop := n ≤ 9223372036854775807
end Go.Proofs.YtggplbenliaodaaDoor
