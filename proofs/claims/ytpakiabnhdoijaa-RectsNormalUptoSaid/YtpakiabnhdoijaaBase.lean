/- The frame of every walk over the rectangles' seat: what a world keeps; lists of rectangles, of ranges and of numbers in memory. No condition. -/
import Derived.Test.YtpakiabnhdoijaaProg
import Derived.WalkKit
import Derived.WalkSpells
import Derived.WalkLawsBesides
import Derived.Deep.QuietTactic
import Derived.BigQuiet
import Derived.Lib.Hide
import Derived.Deep.RegionHeld3
import Derived.Deep.AppendLies
import Derived.Test.YtpakiabnhdoijaaRcB
namespace Go.Proofs.Ytpakiabnhdoijaa
open Go.RowKit

/-- From w to w' nothing that was there has turned but block 'row'. -/
abbrev Kp (w w' : World) (row : Option Nat) : Prop := w.grownBy w' row

theorem Kp.refl (w : World) (row : Option Nat) : Kp w w row := ⟨rfl, rfl, rfl, Nat.le_refl _, fun _ _ _ => rfl⟩
theorem Kp.trans {a b c : World} {row : Option Nat} (h : Kp a b row) (k : Kp b c row) : Kp a c row :=
  ⟨k.os.trans h.os, k.tape.trans h.tape, k.output.trans h.output, Nat.le_trans h.size k.size, fun i hi hr => (k.block i (Nat.lt_of_lt_of_le hi h.size) hr).trans (h.block i hi hr)⟩
theorem Kp.weak {a b : World} (h : Kp a b none) (row : Option Nat) : Kp a b row := ⟨h.os, h.tape, h.output, h.size, fun k hk _ => h.block k hk (by simp)⟩
theorem Kp.drew {a b : World} {row : Option Nat} (h : Kp a b row) : Kp a b.drew row := h.trans ⟨rfl, rfl, rfl, Nat.le_refl _, fun _ _ _ => rfl⟩
theorem Kp.drewN {a b : World} {row : Option Nat} (h : Kp a b row) (n : Nat) : Kp a (b.drewN n) row := h.trans ⟨rfl, rfl, rfl, Nat.le_refl _, fun _ _ _ => rfl⟩
theorem Kp.alloc {a b : World} {row : Option Nat} (h : Kp a b row) (o : Obj) : Kp a (b.alloc o) row := h.trans (World.grownBy_alloc _ _ _)
theorem Kp.set {a b : World} {r o : Nat} (h : Kp a b (some r)) (v : Value) : Kp a (b.setCell ⟨r, o, none⟩ v) (some r) :=
  h.trans ⟨rfl, rfl, rfl, by simp [World.setCell], fun k _ hr => Below.heap_setCell _ _ _ _ (fun e => hr (by rw [e]))⟩
theorem Kp.of_below {w w' : World} (h : Below w.heap.size w w') : Kp w w' none := ⟨h.os, h.tape, h.output, h.size, fun k hk _ => h.block k hk⟩
theorem Kp.below {w w' : World} (h : Kp w w' none) : Below w.heap.size w w' := ⟨h.os, h.tape, h.output, h.size, fun k hk => h.block k hk (by simp)⟩
/-- What is written is a block of the call's own: for whoever looks from further back. -/
theorem Kp.of_own {W w w' : World} {r : Nat} {row : Option Nat} (h0 : Kp W w row) (h : Kp w w' (some r)) (hr : W.heap.size ≤ r) : Kp W w' row :=
  ⟨h.os.trans h0.os, h.tape.trans h0.tape, h.output.trans h0.output, Nat.le_trans h0.size h.size, fun k hk hx =>
    (h.block k (Nat.lt_of_lt_of_le hk h0.size) (by intro e; injection e with e; omega)).trans (h0.block k hk hx)⟩
theorem lt_of_block {w : World} {b : Nat} {o : Obj} (h : w.heap[b]? = some o) : b < w.heap.size := (Array.getElem?_eq_some_iff.1 h).1
theorem cell_lt {w : World} {b o : Nat} {v : Value} (h : w.cell? ⟨b, o, none⟩ = some v) : b < w.heap.size := World.block_lt_of_cell? w _ h

/-- The element of a list of rectangles as the memory holds it. -/
def recVal (r : Rc.Rect) : List Value := [.int .i64 r.x0, .int .i64 r.y0, .int .i64 r.x1, .int .i64 r.y1]
def spanVal (s : Rc.Span) : List Value := [.int .i64 s.1, .int .i64 s.2]
def intVal (n : Int) : List Value := [.int .i64 n]
/-- A slice of m-cell elements, empty or not, as a list of what f makes. -/
def IsList {α : Type} (m : Nat) (f : α → List Value) (w : World) (v : Value) (xs : List α) : Prop :=
  (∃ ao cap, v = .slice ao 0 cap ∧ xs = []) ∨ ∃ b off cap, v = .slice (some ⟨b, off, none⟩) xs.length cap ∧ xs.length ≤ cap ∧ b < w.heap.size ∧ ∀ k, (h : k < xs.length) → ∀ j, (h2 : j < (f xs[k]).length) → w.cell? ⟨b, off + k * m + j, none⟩ = some (f xs[k])[j]
theorem IsList.keep {α : Type} {m : Nat} {f : α → List Value} {w w' : World} {v : Value} {xs : List α} (h : IsList m f w v xs) (k : Kp w w' none) : IsList m f w' v xs := by
  rcases h with h | ⟨b, off, cap, hv, hc, hb, hr⟩
  · exact .inl h
  · exact .inr ⟨b, off, cap, hv, hc, Nat.lt_of_lt_of_le hb k.size, fun i hi j hj => by rw [k.below.cell (p := ⟨b, off + i * m + j, none⟩) hb]; exact hr i hi j hj⟩
abbrev IsRects := @IsList Rc.Rect 4 recVal
abbrev IsSpans := @IsList Rc.Span 2 spanVal
abbrev IsInts := @IsList Int 1 intVal

end Go.Proofs.Ytpakiabnhdoijaa
