/- A shape that a call builds, edge by edge, in a variable of its own. No condition but the model's bounds. -/
import Derived.Test.YtljjbdbgedmadaaGreatDoorOl
import Derived.Test.YtljjbdbgedmadaaGreatDoorAp
import Derived.Test.YtljjbdbgedmadaaGreatDoorQr
namespace Go.Proofs.YtljjbdbgedmadaaGreatDoor
open Go.RowKit

theorem infoEd : (Tryz.prog.info? 123).map (fun i => (i.zero, i.size, i.bytes)) = some (some (.agg #[.int .i64 0, .int .i64 0, .int .i64 0, .int .i64 0, .int .i64 0, .int .i64 0, .int .i64 0]), 7, 56) := by kernel_rfl
/-- A shape that a call hands out. -/
def ShapeIs (w : World) (s : Pl.Sh) (E : Ending) (w' : World) : Prop := ∃ ao cap, E = .returned (.agg #[.int .i64 s.k, .slice ao s.es.length cap, .int .i64 s.r]) ∧ LiesAt 7 edC w' ao cap s.es ∧ (∀ p, ao = some p → w.heap.size ≤ p.block) ∧ Kp w w' none
/-- A shape under way: it stands in block A; its edges lie in a block behind N. -/
def Bs (A N : Nat) (kind : Int) (es : List Pl.Ed) (r : Int) (u : Value) (w : World) : Prop := w.heap[A]? = some (.cells #[.int .i64 kind, u, .int .i64 r] 50 (0, 0)) ∧ (A < N ∧ N ≤ w.heap.size) ∧ w.ownsRow N 123 7 u es.length (es.flatMap edC)
theorem Bs.keep {A N : Nat} {kind r : Int} {es : List Pl.Ed} {u : Value} {w w' : World} (h : Bs A N kind es r u w) (k : Kp w w' none) : Bs A N kind es r u w' :=
  ⟨blk h.1 k, ⟨h.2.1.1, Nat.le_trans h.2.1.2 k.size⟩, h.2.2.kept k (by cases u.ownBlock <;> simp)⟩
/-- .. beside a block of another's, behind or before it. -/
theorem Bs.keepRow {A N D : Nat} {kind r : Int} {es : List Pl.Ed} {u : Value} {w w' : World} (h : Bs A N kind es r u w) (k : Kp w w' (some D)) (hD : D < A) : Bs A N kind es r u w' :=
  ⟨(k.block A (lt_of_block h.1) (by simp; omega)).trans h.1, ⟨h.2.1.1, Nat.le_trans h.2.1.2 k.size⟩, h.2.2.kept k (by
    cases e : u.ownBlock with
    | none => exact .inl rfl
    | some b => exact .inr (by have := (h.2.2.lt b e).1; have := h.2.1.1; intro e2; injection e2 with e2; omega))⟩
theorem Bs.cell {A N : Nat} {kind r : Int} {es : List Pl.Ed} {u : Value} {w : World} (h : Bs A N kind es r u w) : w.cell? ⟨A, 1, none⟩ = some u := by have := Lib.cell_of_heap h.1 1; simpa using this
theorem Bs.lt {A N : Nat} {kind r : Int} {es : List Pl.Ed} {u : Value} {w : World} (h : Bs A N kind es r u w) : A < w.heap.size := lt_of_block h.1
theorem Bs.frozen {A N : Nat} {kind r : Int} {es : List Pl.Ed} {u : Value} {w : World} (h : Bs A N kind es r u w) (i : Nat) : w.frozen? ⟨A, i, none⟩ = false := Lib.frozen_of_heap h.1 i
theorem Bs.other {A N : Nat} {kind r : Int} {es : List Pl.Ed} {u : Value} {w w' : World} (h : Bs A N kind es r u w) (k : Kp w w' u.ownBlock) : w'.heap[A]? = some (.cells #[.int .i64 kind, u, .int .i64 r] 50 (0, 0)) :=
  (k.block A h.lt (fun e => by have := (h.2.2.lt A e.symm).1; have := h.2.1.1; omega)).trans h.1
/-- The new row set into the variable. -/
theorem Bs.put {A N : Nat} {kind r : Int} {es : List Pl.Ed} {u v : Value} {w w' : World} {fs : List Pl.Ed} {n : Nat} {row : List Value} (h : Bs A N kind es r u w) (k : Kp w w' u.ownBlock) (ho : w'.ownsRow N 123 7 v n row) (hn : n = fs.length) (hr : row = fs.flatMap edC) : Bs A N kind fs r v (w'.setCell ⟨A, 1, none⟩ v) := by
  subst hn; subst hr
  have hA := h.2.1
  have hsz : w.heap.size ≤ w'.heap.size := k.size
  refine ⟨?_, ⟨hA.1, Nat.le_trans hA.2 (Nat.le_trans hsz ((Kp.refl w' (some A)).set (o := 1) v).size)⟩, ho.kept (row := some A) ((Kp.refl _ _).set _) (by
    cases e : v.ownBlock with
    | none => exact .inl rfl
    | some b => exact .inr (by have := (ho.lt b e).1; have := h.2.1.1; intro e2; injection e2 with e2; omega))⟩
  have := heap_set (o := 1) (v := v) (h.other k)
  simpa using this
/-- What another's world sees of it. -/
theorem Bs.far {W : World} {A N : Nat} {kind r : Int} {es : List Pl.Ed} {u v : Value} {w w' : World} {row : Option Nat} (h : Bs A N kind es r u w) (h0 : Kp W w row) (hA : W.heap.size ≤ A) (k : Kp w w' u.ownBlock) : Kp W (w'.setCell ⟨A, 1, none⟩ v) row := by
  have h1 : Kp W w' row := Kp.row h0 k (fun b e => by have := (h.2.2.lt b e).1; have := h.2.1.1; omega)
  exact Kp.of_own h1 ((Kp.refl _ _).set _) hA
theorem Bs.new (w : World) (kind : Int) : Bs w.heap.size (w.heap.size + 1) kind [] 0 (.slice none 0 0) (w.alloc (Obj.cells #[.int .i64 kind, .slice none 0 0, .int .i64 0] 50)) :=
  ⟨heap_alloc_new _ _, ⟨by omega, by simp⟩, by rfl, .inl ⟨rfl, rfl⟩⟩
/-- Copied into the result's block. -/
theorem Bs.out {A N R : Nat} {kind r : Int} {es : List Pl.Ed} {ao : Option Addr} {n cap : Nat} {w : World} (h : Bs A N kind es r (.slice ao n cap) w) (hR : R < A) {x0 x1 x2 : Value} : n = es.length ∧ LiesAt 7 edC (((w.setCell ⟨R, 0, none⟩ x0).setCell ⟨R, 1, none⟩ x1).setCell ⟨R, 2, none⟩ x2) ao cap es := by
  have k : Kp w (((w.setCell ⟨R, 0, none⟩ x0).setCell ⟨R, 1, none⟩ x1).setCell ⟨R, 2, none⟩ x2) (some R) := (((Kp.refl w (some R)).set _).set _).set _
  exact own_lies (m := 7) (f := edC) (fun _ => rfl) (h.2.2.kept k (own_ne h.2.2 (by have := h.2.1.1; omega)))
theorem Bs.slice {A N : Nat} {kind r : Int} {es : List Pl.Ed} {u : Value} {w : World} (h : Bs A N kind es r u w) : ∃ ao cap, u = .slice ao es.length cap := by
  obtain ⟨ao, cap, e, _⟩ := (isList_own (m := 7) (f := edC) (fun _ => rfl) h.2.2).form
  exact ⟨ao, cap, e⟩
/-- A block of two edges. -/
theorem ed_list2 {w : World} (e f : Pl.Ed) : IsList 7 edC (w.alloc (Obj.cells #[.int .i64 e.k, .int .i64 e.a.x, .int .i64 e.a.y, .int .i64 e.b.x, .int .i64 e.b.y, .int .i64 e.c.x, .int .i64 e.c.y, .int .i64 f.k, .int .i64 f.a.x, .int .i64 f.a.y, .int .i64 f.b.x, .int .i64 f.b.y, .int .i64 f.c.x, .int .i64 f.c.y] 123)) (.slice (some ⟨w.heap.size, 0, none⟩) 2 2) [e, f] := by
  refine .inr ⟨w.heap.size, 0, 2, rfl, by simp, by simp, fun k hk j hj => ?_⟩
  have hj' : j < 7 := by
    have : k = 0 ∨ k = 1 := by simp at hk; omega
    rcases this with rfl | rfl <;> simpa [edC] using hj
  have hk' : k = 0 ∨ k = 1 := by simp at hk; omega
  have hj7 : j = 0 ∨ j = 1 ∨ j = 2 ∨ j = 3 ∨ j = 4 ∨ j = 5 ∨ j = 6 := by omega
  rcases hk' with rfl | rfl <;> rcases hj7 with rfl | rfl | rfl | rfl | rfl | rfl | rfl <;> exact hcell (heap_alloc_new w _) _ rfl
theorem Bs.fresh {A N : Nat} {kind r : Int} {es : List Pl.Ed} {ao : Option Addr} {n cap : Nat} {w : World} (h : Bs A N kind es r (.slice ao n cap) w) : ∀ p, ao = some p → N ≤ p.block := fun p hp => by
  subst hp
  exact (h.2.2.lt p.block (by cases p; rfl)).1
end Go.Proofs.YtljjbdbgedmadaaGreatDoor
