/- Two numbers of 16 bits out of an argument. No condition. -/
import Derived.Test.YtnchipahdfbliaaGreatDoorLf
namespace Go.Proofs.YtnchipahdfbliaaGreatDoor
open Go.RowKit Go.WideShapes
section
variable {H : Type} {enc : TypeId × Value → H} {W : World} {sp : Nat → Bool}
theorem cells44 : Tryz.prog.cellsOf 44 = 1 := by kernel_rfl
theorem cells45 : Tryz.prog.cellsOf 45 = 2 := by kernel_rfl
theorem one_u16 {n : Nat} {c : Value} {y : DataW H × List MemPlace} (h : DataW.trod enc Tryz.prog W 0 sp true n 44 [c] = some y) : ∃ k : Nat, c = .int .u16 k ∧ k < 65536 := by
 obtain ⟨k, e, _, wk⟩ := DataW.trod_int Tryz.underlying44 h
 simp only [List.cons.injEq, and_true] at e
 have h1 : IntKind.u16.min = 0 := rfl
 have h2 : IntKind.u16.max = 65535 := rfl
 simp only [Lit.wf, Bool.and_eq_true, decide_eq_true_eq] at wk
 exact ⟨k.toNat, by rw [e, Int.toNat_of_nonneg (by omega)], by omega⟩
set_option maxRecDepth 100000 in
theorem okWide_arr {n : Nat} {e t : TypeId} {r : Reach} {base : Nat} {v : Value} (ht : Tryz.prog.underlying t = some (.array n e)) (h : Value.okWide Tryz.prog W r base t v) : ∃ cs, v = .agg cs ∧ cs.size = Tryz.prog.cellsOf t := by
 simp only [Value.okWide, ht] at h
 obtain ⟨cs, h1, h2, _⟩ := h
 exact ⟨cs, h1, h2⟩
set_option maxRecDepth 100000 in
theorem open_u16s {r : Reach} {base : Nat} {v : Value} {d : DataW H} {p : List MemPlace} (hv : Value.okWide Tryz.prog W r base 45 v) (h : DataW.Trod enc Tryz.prog W 0 (fun _ => true) true 45 v d p) : ∃ (a b : Nat), v = .agg #[.int .u16 (a : Int), .int .u16 (b : Int)] ∧ a < 65536 ∧ b < 65536 := by
 obtain ⟨cs, rfl, _⟩ := okWide_arr Tryz.underlying45 hv
 obtain ⟨fuel, hf⟩ := h
 obtain ⟨xs, m, _, _, hl, hxl, hg⟩ := DataW.trod_array Tryz.underlying45 hf
 have e : (Value.agg cs).cells.toList = cs.toList := rfl
 rw [cells45] at hl
 rw [e] at hl hg
 obtain ⟨cs⟩ := cs
 match cs, hl, xs, hxl with
 | [c0, c1], _, [y0, y1], _ =>
  have g0 := hg 0 (by decide)
  have g1 := hg 1 (by decide)
  simp [cells44] at g0 g1
  obtain ⟨a, rfl, ha⟩ := one_u16 g0
  obtain ⟨b, rfl, hb⟩ := one_u16 g1
  exact ⟨a, b, rfl, ha, hb⟩
end
end Go.Proofs.YtnchipahdfbliaaGreatDoor
