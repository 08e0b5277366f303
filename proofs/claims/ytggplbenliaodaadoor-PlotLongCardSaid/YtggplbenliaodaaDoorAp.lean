/- The reference's motions (Apply), and its arcs (Arc). Condition: coordinates of at most 2^26. -/
import Derived.Test.YtggplbenliaodaaDoorNe
import Derived.Test.YtggplbenliaodaaDoorPlA
namespace Go.Proofs.YtggplbenliaodaaDoor
open Go.RowKit

theorem fkr {wB w' : World} {b : Nat} {T : TypeId} {cs : Array Value} {row : Option Nat} (h : wB.heap[b]? = some (.cells cs T (0, 0))) (k : Kp wB w' row) (hne : row ≠ some b) (i : Nat) : w'.frozen? ⟨b, i, none⟩ = false :=
  Lib.frozen_of_heap ((k.block b (lt_of_block h) (fun e => hne e.symm)).trans h) i
theorem blk {w w' : World} {b : Nat} {o : Obj} (h : w.heap[b]? = some o) (k : Kp w w' none) : w'.heap[b]? = some o := (k.block b (lt_of_block h) (by simp)).trans h
theorem turn_abs (t : Int) (p : Pl.Pt) (h1 : Mid p.x) (h2 : Mid p.y) : Mid (Pl.turn t p).x ∧ Mid (Pl.turn t p).y := by
  unfold Mid Pl.turn at *
  split
  · exact ⟨by dsimp only; omega, by dsimp only; omega⟩
  · split
    · exact ⟨by dsimp only; omega, by dsimp only; omega⟩
    · split
      · exact ⟨by dsimp only; omega, by dsimp only; omega⟩
      · exact ⟨h1, h2⟩
theorem neg_mid {x : Int} (m : Bool) (h : Mid x) : Mid (if m then -x else x) := by unfold Mid at *; split <;> omega
end Go.Proofs.YtggplbenliaodaaDoor
