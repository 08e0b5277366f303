/- Lists of numbers, and a number of 16 bits, out of an argument. No condition. -/
import Derived.Test.YtljjbdbgedmadaaGreatDoorLf
import Derived.Test.YtljjbdbgedmadaaGreatDoorMy
namespace Go.Proofs.YtljjbdbgedmadaaGreatDoor
open Go.ChangeShapes Go.WideShapes Go.ChangeAt Go.RowKit

theorem cells83 : Tryz.prog.cellsOf 83 = 1 := by kernel_rfl
section
variable {H : Type} {enc : TypeId × Value → H} {W : World}
/-- A row of numbers where it lies. -/
structure RowX where
  ao : Option Addr
  xs : List Int
  cap : Nat
def rowXC (r : RowX) : List Value := [.slice r.ao r.xs.length r.cap]
theorem el_rowX {n : Nat} {cs : List Value} {y : DataW H × List MemPlace} (_ : cs.length = 1) (h : DataW.trod enc Tryz.prog W 0 (fun _ => true) true n 83 cs = some y) : ∃ r : RowX, cs = rowXC r ∧ (LiesAt 1 intVal W r.ao r.cap r.xs ∧ r.xs.length ≤ r.cap ∧ LenOk r.xs.length) := by
  obtain ⟨ao, xs, cap, e, h1, h2, h3, _⟩ := open_lies (f := intVal) (Q := fun _ => True) Tryz.underlying83 cells3 (by decide) (fun _ => rfl) (fun _ _ _ hl h => el_int hl h) h
  exact ⟨⟨ao, xs, cap⟩, e, h1, h2, h3⟩
/-- Lists of numbers out of an argument. -/
theorem open_rows {v : Value} {d : DataW H} {p : List MemPlace} (h : DataW.Trod enc Tryz.prog W 0 (fun _ => true) true 22 v d p) (hc : v.cells = #[v]) : ∃ (ao : Option Addr) (rows : List (List Int)) (cap : Nat), v = .slice ao rows.length cap ∧ LiesRows W ao cap rows ∧ LenOk rows.length := by
  obtain ⟨fuel, hf⟩ := h
  rw [hc] at hf
  obtain ⟨ao, rs, cap, e, h1, h2, h3, h4⟩ := open_lies (f := rowXC) (Q := fun r => LiesAt 1 intVal W r.ao r.cap r.xs ∧ r.xs.length ≤ r.cap ∧ LenOk r.xs.length) Tryz.underlying22 cells83 (by decide) (fun _ => rfl) (fun _ _ _ hl h => el_rowX hl h) hf
  simp only [List.cons.injEq, and_true] at e
  refine ⟨ao, rs.map (·.xs), cap, by rw [List.length_map]; exact e, fun k hk => ?_, by rw [List.length_map]; exact h3⟩
  have hk2 : k < rs.length := by simpa using hk
  obtain ⟨b, off, e2, hb, hcc, hr⟩ := h1 k hk2
  have hx := hr 0 (by simp [rowXC])
  have hq := h4 _ (List.getElem_mem hk2)
  refine ⟨b, off, rs[k].ao, rs[k].cap, e2, by rw [List.length_map]; exact hcc, hb, ?_, ?_⟩
  · simpa [rowXC] using hx
  · simpa using hq
theorem cells4 : Tryz.prog.cellsOf 4 = 1 := by kernel_rfl
theorem cells42 : Tryz.prog.cellsOf 42 = 2 := by kernel_rfl
theorem cells44 : Tryz.prog.cellsOf 44 = 4 := by kernel_rfl
theorem two_ints {n : Nat} {c d : Value} {y : DataW H × List MemPlace} (h : DataW.trod enc Tryz.prog W 0 (fun _ => true) true n 42 [c, d] = some y) : ∃ k m : Int, c = .int .i64 k ∧ d = .int .i64 m := by
  obtain ⟨xs, m, _, _, _, hxl, hg⟩ := DataW.trod_struct Tryz.underlying42 h
  match xs, hxl with
  | [y0, y1], _ =>
    have g0 := hg 0 _ rfl
    have g1 := hg 1 _ rfl
    simp [cells3] at g0 g1
    obtain ⟨k, rfl, _⟩ := one_int g0
    obtain ⟨m, rfl, _⟩ := one_int g1
    exact ⟨k, m, rfl, rfl⟩
set_option maxRecDepth 100000 in
theorem okWide_struct {fs : Array Field} {t : TypeId} {r : Reach} {base : Nat} {v : Value} (ht : Tryz.prog.underlying t = some (.struct fs)) (h : Value.okWide Tryz.prog W r base t v) : ∃ cs, v = .agg cs ∧ cs.size = Tryz.prog.cellsOf t := by
  simp only [Value.okWide, ht] at h
  obtain ⟨cs, h1, h2, _⟩ := h
  exact ⟨cs, h1, h2⟩
set_option maxRecDepth 100000 in
/-- A motion out of an argument. -/
theorem open_motion {r : Reach} {base : Nat} {v : Value} {d : DataW H} {p : List MemPlace} (hv : Value.okWide Tryz.prog W r base 44 v) (h : DataW.Trod enc Tryz.prog W 0 (fun _ => true) true 44 v d p) : ∃ (x y t : Int) (b : Bool), v = .agg #[.int .i64 x, .int .i64 y, .int .i64 t, .bool b] := by
  obtain ⟨cs, rfl, _⟩ := okWide_struct Tryz.underlying44 hv
  obtain ⟨fuel, hf⟩ := h
  obtain ⟨xs, m, _, _, hl, hxl, hg⟩ := DataW.trod_struct Tryz.underlying44 hf
  rw [cells44] at hl
  have e : (Value.agg cs).cells.toList = cs.toList := rfl
  rw [e] at hl hg
  obtain ⟨cs⟩ := cs
  match cs, hl, xs, hxl with
  | [c0, c1, c2, c3], _, [y0, y1, y2], _ =>
    have g0 := hg 0 _ rfl
    have g1 := hg 1 _ rfl
    have g2 := hg 2 _ rfl
    simp [cells3, cells4, cells42] at g0 g1 g2
    obtain ⟨x, y, rfl, rfl⟩ := two_ints g0
    obtain ⟨t, rfl, _⟩ := one_int g1
    obtain ⟨b, rfl⟩ := one_bool g2
    exact ⟨x, y, t, b, rfl⟩
end
end Go.Proofs.YtljjbdbgedmadaaGreatDoor
