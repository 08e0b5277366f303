/- Points that numbers choose (Near). Condition: a width of at most 1000. -/
import Derived.Test.YtljjbdbgedmadaaGreatDoorNx
import Derived.Test.YtljjbdbgedmadaaGreatDoorHs
import Derived.Test.YtljjbdbgedmadaaGreatDoorAy
namespace Go.Proofs.YtljjbdbgedmadaaGreatDoor
open Go.RowKit

/-- A coordinate of some hundreds. -/
def Small (b x : Int) : Prop := -b ≤ x ∧ x ≤ b
theorem DrawAt.kp {D : Nat} {ao : Option Addr} {n cap : Nat} {w w' : World} (h : DrawAt D ao n cap w) (k : Kp w w' none) : DrawAt D ao n cap w' := by
  obtain ⟨a, hb, ha⟩ := h
  exact ⟨a, (k.block D (lt_of_block hb) (by simp)).trans hb, ha⟩
theorem DrawAt.lt {D : Nat} {ao : Option Addr} {n cap : Nat} {w : World} (h : DrawAt D ao n cap w) : D < w.heap.size := by
  obtain ⟨a, hb, ha⟩ := h; exact lt_of_block hb

end Go.Proofs.YtljjbdbgedmadaaGreatDoor
