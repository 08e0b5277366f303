/- Rows of integers and strings out of arguments. No condition. -/
import Derived.Test.YtfcbogoahangoaaDoorLf
import Derived.Test.YtfcbogoahangoaaDoorWt
import Derived.SliceStrings
namespace Go.Proofs.YtfcbogoahangoaaDoor
open Go.RowKit
theorem cells3 : Tryd.prog.cellsOf 3 = 1 := by kernel_rfl
theorem i64_of_wf {n : Int} (h : (Lit.int .i64 n).wf = true) : Wr.I64 n := by
  have h1 : IntKind.i64.min = -9223372036854775808 := rfl
  have h2 : IntKind.i64.max = 9223372036854775807 := rfl
  simp only [Lit.wf, Bool.and_eq_true, decide_eq_true_eq] at h
  unfold Wr.I64; omega
theorem strs_at {w : World} {a : Addr} {ss : List ByteArray} (h : ∀ i, i < ss.length → w.cell? (a.add i) = some (.string (ss.getD i ByteArray.empty))) (hp : 0 < ss.length) :
    ∃ b off, a = ⟨b, off, none⟩ ∧ ∀ j, j < ss.length → w.cell? ⟨b, off + j, none⟩ = some (.string (ss.getD j ByteArray.empty)) := by
  obtain ⟨b, off, spot⟩ := a
  have hspot : spot = none := by simpa [Addr.add] using World.cell?_spot (h 0 hp)
  subst hspot
  exact ⟨b, off, rfl, fun j hj => by rw [← Go.WideShapes.add_plain]; exact h j hj⟩
theorem isRow_take {α : Type} {V : α → Value} {w : World} {ao : Option Addr} {cap : Nat} {xs : List α} (h : IsRow w (.slice ao xs.length cap) (xs.map V)) (k : Nat) : IsRow w (.slice ao (xs.take k).length cap) ((xs.take k).map V) := by
  rcases h with ⟨ao', cap', hv, h0⟩ | ⟨b, off, cap', hv, hc, hb, hr⟩
  · rw [List.map_eq_nil_iff.1 h0]; exact .inl ⟨ao, cap, by simp, by simp⟩
  · injection hv with hv _ hcap
    subst hv hcap
    refine .inr ⟨b, off, cap, by rw [List.length_map], ?_, hb, fun i hi => ?_⟩
    · rw [List.length_map] at hc ⊢; rw [List.length_take]; omega
    · rw [List.length_map, List.length_take] at hi
      rw [hr i (by rw [List.length_map]; omega)]
      rw [List.getElem?_map, List.getElem?_map, List.getElem?_take, if_pos (by omega)]
end Go.Proofs.YtfcbogoahangoaaDoor
