/- Lists of numbers, and a number of 16 bits, out of an argument. No condition. -/
import Derived.Test.YtljjbdbgedmadaaGreatDoorLf
import Derived.Test.YtljjbdbgedmadaaGreatDoorMy
namespace Go.Proofs.YtljjbdbgedmadaaGreatDoor
open Go.ChangeShapes Go.WideShapes Go.ChangeAt Go.RowKit

theorem cells83 : Tryz.prog.cellsOf 83 = 1 := by kernel_rfl
section
variable {H : Type} {enc : TypeId × Value → H} {W : World}
/-- A row of numbers where it lies. -/
structure RowX where
  ao : Option Addr
  xs : List Int
  cap : Nat
def rowXC (r : RowX) : List Value := [.slice r.ao r.xs.length r.cap]
theorem el_rowX {n : Nat} {cs : List Value} {y : DataW H × List MemPlace} (_ : cs.length = 1) (h : DataW.trod enc Tryz.prog W 0 (fun _ => true) true n 83 cs = some y) : ∃ r : RowX, cs = rowXC r ∧ (LiesAt 1 intVal W r.ao r.cap r.xs ∧ r.xs.length ≤ r.cap ∧ LenOk r.xs.length) := by
  obtain ⟨ao, xs, cap, e, h1, h2, h3, _⟩ := open_lies (f := intVal) (Q := fun _ => True) Tryz.underlying83 cells3 (by decide) (fun _ => rfl) (fun _ _ _ hl h => el_int hl h) h
  exact ⟨⟨ao, xs, cap⟩, e, h1, h2, h3⟩
/-- Lists of numbers out of an argument. -/
theorem open_rows {v : Value} {d : DataW H} {p : List MemPlace} (h : DataW.Trod enc Tryz.prog W 0 (fun _ => true) true 22 v d p) (hc : v.cells = #[v]) : ∃ (ao : Option Addr) (rows : List (List Int)) (cap : Nat), v = .slice ao rows.length cap ∧ LiesRows W ao cap rows ∧ LenOk rows.length := by
  obtain ⟨fuel, hf⟩ := h
  rw [hc] at hf
  obtain ⟨ao, rs, cap, e, h1, h2, h3, h4⟩ := open_lies (f := rowXC) (Q := fun r => LiesAt 1 intVal W r.ao r.cap r.xs ∧ r.xs.length ≤ r.cap ∧ LenOk r.xs.length) Tryz.underlying22 cells83 (by decide) (fun _ => rfl) (fun _ _ _ hl h => el_rowX hl h) hf
  simp only [List.cons.injEq, and_true] at e
  refine ⟨ao, rs.map (·.xs), cap, by rw [List.length_map]; exact e, fun k hk => ?_, by rw [List.length_map]; exact h3⟩
  have hk2 : k < rs.length := by simpa using hk
  obtain ⟨b, off, e2, hb, hcc, hr⟩ := h1 k hk2
  have hx := hr 0 (by simp [rowXC])
  have hq := h4 _ (List.getElem_mem hk2)
  refine ⟨b, off, rs[k].ao, rs[k].cap, e2, by rw [List.length_map]; exact hcc, hb, ?_, ?_⟩
  · simpa [rowXC] using hx
  · simpa using hq
theorem cells4 : Tryz.prog.cellsOf 4 = 1 := by kernel_rfl
theorem cells42 : Tryz.prog.cellsOf 42 = 2 := by kernel_rfl
end
end Go.Proofs.YtljjbdbgedmadaaGreatDoor
