/- A change of a text, opened out of an argument. No condition. -/
import Derived.Test.YtldjhjbodhhnbaaDoorLo
import Derived.Lib.SmallJoins
namespace Go.Proofs.YtldjhjbodhhnbaaDoor
open Go.Joins Go.ChangeShapes Go.WideShapes Go.RowKit Go.Deep
set_option maxRecDepth 100000 in
theorem open_change {H : Type} {enc : TypeId × Value → H} {W : World} {base : Nat} {v : Value} {d : DataW H} {p : List MemPlace} (hv : Value.okWide Tryd.prog W .any base 41 v) (h : DataW.Trod enc Tryd.prog W 0 (fun _ => true) true 41 v d p) :
    ∃ (a c : Int) (s : List UInt8), v = .agg #[.int .u16 a, .int .u8 c, .string ⟨s.toArray⟩] ∧ 0 ≤ a ∧ a < 65536 ∧ 0 ≤ c ∧ c < 256 ∧ s.length ≤ 9223372036854775807 := by
  obtain ⟨v0, v1, v2, y0, y1, y2, m, rfl, rfl, rfl, hy0, hy1, hy2⟩ := open_agg3 Tryd.underlying41 (by kernel_rfl) cells41 hv h
  obtain ⟨a, e0, _, wa⟩ := DataW.trod_int Tryd.underlying39 hy0
  obtain ⟨c, e1, _, wc⟩ := DataW.trod_int Tryd.underlying5 hy1
  obtain ⟨s, e2, _, hs⟩ := DataW.trod_string Tryd.underlying9 hy2
  simp only [List.cons.injEq, and_true] at e0 e1 e2
  subst e0 e1 e2
  have ha : 0 ≤ a ∧ a < 65536 := by
    have h1 : IntKind.u16.min = 0 := rfl
    have h2 : IntKind.u16.max = 65535 := rfl
    simp only [Lit.wf, Bool.and_eq_true, decide_eq_true_eq] at wa
    omega
  have hc : 0 ≤ c ∧ c < 256 := by
    have h1 : IntKind.u8.min = 0 := rfl
    have h2 : IntKind.u8.max = 255 := rfl
    simp only [Lit.wf, Bool.and_eq_true, decide_eq_true_eq] at wc
    omega
  exact ⟨a, c, s.data.toList, by cases s; simp, ha.1, ha.2, hc.1, hc.2, by have := hs; unfold maxLen at this; show s.data.toList.length ≤ _; simpa using this⟩
end Go.Proofs.YtldjhjbodhhnbaaDoor
