/- Two bytes out of an argument. No condition. -/
import Derived.Test.YtggplbenliaodaaGreatDoorLf
namespace Go.Proofs.YtggplbenliaodaaGreatDoor
open Go.RowKit Go.WideShapes
section
variable {H : Type} {enc : TypeId × Value → H} {W : World}
theorem cells5 : Tryz.prog.cellsOf 5 = 1 := by kernel_rfl
theorem cells44 : Tryz.prog.cellsOf 44 = 2 := by kernel_rfl
set_option maxRecDepth 100000 in
theorem okWide_arr {n : Nat} {e t : TypeId} {r : Reach} {base : Nat} {v : Value} (ht : Tryz.prog.underlying t = some (.array n e)) (h : Value.okWide Tryz.prog W r base t v) : ∃ cs, v = .agg cs ∧ cs.size = Tryz.prog.cellsOf t := by
  simp only [Value.okWide, ht] at h
  obtain ⟨cs, h1, h2, _⟩ := h
  exact ⟨cs, h1, h2⟩
set_option maxRecDepth 100000 in
/-- Two bytes out of an argument. -/
theorem open_bytes2 {r : Reach} {base : Nat} {v : Value} {d : DataW H} {p : List MemPlace} (hv : Value.okWide Tryz.prog W r base 44 v) (h : DataW.Trod enc Tryz.prog W 0 (fun _ => true) true 44 v d p) : ∃ (a b : Nat), v = .agg #[.int .u8 a, .int .u8 b] ∧ a < 256 ∧ b < 256 := by
  obtain ⟨cs, rfl, _⟩ := okWide_arr Tryz.underlying44 hv
  obtain ⟨fuel, hf⟩ := h
  obtain ⟨xs, m, _, _, hl, hxl, hg⟩ := DataW.trod_array Tryz.underlying44 hf
  have e : (Value.agg cs).cells.toList = cs.toList := rfl
  rw [cells44] at hl
  rw [e] at hl hg
  obtain ⟨cs⟩ := cs
  match cs, hl, xs, hxl with
  | [c0, c1], _, [y0, y1], _ =>
    have g0 := hg 0 (by decide)
    have g1 := hg 1 (by decide)
    simp [cells5] at g0 g1
    obtain ⟨a, rfl, ha⟩ := one_byte g0
    obtain ⟨b, rfl, hb⟩ := one_byte g1
    exact ⟨a, b, rfl, ha, hb⟩
end
end Go.Proofs.YtggplbenliaodaaGreatDoor
