/- A value of the laws, opened out of an argument. No condition. -/
import Derived.Test.YtfcbogoahangoaaDoorLg
import Derived.Test.YtfcbogoahangoaaDoorTr
import Derived.Lib.SmallJoins
import Derived.Deep.Slices
import Derived.Deep.Fields
import Derived.ChangeSame
namespace Go.Proofs.YtfcbogoahangoaaDoor
open Go.Joins Go.ChangeShapes Go.WideShapes Go.RowKit Go.Deep
section
variable {H : Type} {enc : TypeId × Value → H} {P : Program} {w : World} {base : Nat} {spare : Nat → Bool} {held : Bool}
theorem open_agg5 {r : Reach} {b0 : Nat} {t : TypeId} {f0 f1 f2 f3 f4 : Field} {v : Value} {d : DataW H} {p : List MemPlace} (hs : P.underlying t = some (.struct #[f0, f1, f2, f3, f4])) (hone : oneCellFields P #[f0, f1, f2, f3, f4] = true) (hC : P.cellsOf t = 5)
    (hv : Value.okWide P w r b0 t v) (h : DataW.Trod enc P w base spare held t v d p) :
    ∃ (v0 v1 v2 v3 v4 : Value) (y0 y1 y2 y3 y4 : DataW H × List MemPlace) (n : Nat), v = .agg #[v0, v1, v2, v3, v4] ∧ d = .agg [y0.1, y1.1, y2.1, y3.1, y4.1] ∧ p = y0.2 ++ (y1.2 ++ (y2.2 ++ (y3.2 ++ y4.2))) ∧
      DataW.trod enc P w base spare held n f0.type [v0] = some y0 ∧ DataW.trod enc P w base spare held n f1.type [v1] = some y1 ∧ DataW.trod enc P w base spare held n f2.type [v2] = some y2 ∧ DataW.trod enc P w base spare held n f3.type [v3] = some y3 ∧ DataW.trod enc P w base spare held n f4.type [v4] = some y4 := by
  obtain ⟨cs, rfl, hsz⟩ := okWide_struct hs hv
  obtain ⟨l⟩ := cs
  match l, hsz.trans hC with
  | [c0, c1, c2, c3, c4], _ =>
    obtain ⟨fuel, hf⟩ := h
    obtain ⟨xs, n, _, hx, _, hlen, hg⟩ := DataW.trod_struct hs hf
    obtain ⟨o0, k0⟩ := hone_of hone 0 f0 rfl
    obtain ⟨o1, k1⟩ := hone_of hone 1 f1 rfl
    obtain ⟨o2, k2⟩ := hone_of hone 2 f2 rfl
    obtain ⟨o3, k3⟩ := hone_of hone 3 f3 rfl
    obtain ⟨o4, k4⟩ := hone_of hone 4 f4 rfl
    match xs, hlen with
    | [y0, y1, y2, y3, y4], _ =>
      simp only [Prod.mk.injEq] at hx
      exact ⟨c0, c1, c2, c3, c4, y0, y1, y2, y3, y4, n, rfl, by simpa using hx.1, by simpa using hx.2, by simpa [Value.cells, o0, k0] using hg 0 f0 rfl, by simpa [Value.cells, o1, k1] using hg 1 f1 rfl, by simpa [Value.cells, o2, k2] using hg 2 f2 rfl, by simpa [Value.cells, o3, k3] using hg 3 f3 rfl, by simpa [Value.cells, o4, k4] using hg 4 f4 rfl⟩
end
theorem cells45 : Tryd.prog.cellsOf 45 = 5 := by kernel_rfl

theorem open_rowI {H : Type} {enc : TypeId × Value → H} {W : World} {n : Nat} {v : Value} {y : DataW H × List MemPlace} (h : DataW.trod enc Tryd.prog W 0 (fun _ => true) true n 22 [v] = some y) :
    ∃ (a : Option Addr) (len cap : Nat) (xs : List Int), v = .slice a len cap ∧ xs.length = len ∧ IsRow W (.slice a xs.length cap) (xs.map vInt) ∧ (∀ y ∈ xs, Wr.I64 y) ∧ len ≤ cap ∧ cap ≤ 9223372036854775807 := by
  rcases open_ints Tryd.underlying22 Tryd.underlying3 cells3 h with ⟨hcs, _⟩ | ⟨a, len', cap', zs, hcs, _, hl, hmx, hz, _, hcell, hwz⟩
  · simp at hcs
    subst hcs
    exact ⟨none, 0, 0, [], rfl, rfl, .inl ⟨_, _, rfl, rfl⟩, by simp, by omega, by omega⟩
  · simp at hcs
    subst hcs
    unfold maxLen at hmx
    have hzl : len' ≤ zs.length := by rw [hz]; split <;> omega
    refine ⟨some a, len', cap', zs.take len', rfl, by simp; omega, ?_, fun y hy => i64_of_wf (hwz y (List.mem_of_mem_take hy)), hl, hmx⟩
    rcases Nat.eq_zero_or_pos len' with h0 | hpos
    · rw [h0]; exact .inl ⟨_, _, rfl, rfl⟩
    · obtain ⟨b, off, rfl, hc⟩ := ints_at hcell (by omega)
      refine .inr ⟨b, off, cap', by simp only [List.length_map], by simp only [List.length_map]; simp; omega, cell_lt (hc 0 (by omega)), fun i hi => ?_⟩
      rw [List.length_map] at hi
      have hi' : i < len' := by simp at hi; omega
      rw [hc i (by omega)]
      have hiz : i < zs.length := by omega
      simp [hi', hiz, List.getD, vInt]
theorem open_rowS {H : Type} {enc : TypeId × Value → H} {W : World} {n : Nat} {v : Value} {y : DataW H × List MemPlace} (h : DataW.trod enc Tryd.prog W 0 (fun _ => true) true n 23 [v] = some y) :
    ∃ (ts : List (List UInt8)), IsRow W v (ts.map vStr) ∧ (∀ y ∈ ts, y.length ≤ 9223372036854775807) ∧ ts.length ≤ 9223372036854775807 := by
  rcases open_strings Tryd.underlying23 Tryd.underlying9 cells9 h with ⟨hcs, _⟩ | ⟨a, len', cap', zs, hcs, _, hl, hmx, hz, _, hcell, hwz⟩
  · simp at hcs
    subst hcs
    exact ⟨[], .inl ⟨_, _, rfl, rfl⟩, by simp, by simp⟩
  · simp at hcs
    subst hcs
    unfold maxLen at hmx
    have hzl : len' ≤ zs.length := by rw [hz]; split <;> omega
    refine ⟨(zs.take len').map (fun s => s.data.toList), ?_, fun y hy => ?_, by simp; omega⟩
    · rcases Nat.eq_zero_or_pos len' with h0 | hpos
      · rw [h0]; exact .inl ⟨_, _, rfl, rfl⟩
      · obtain ⟨b, off, rfl, hc⟩ := strs_at hcell (by omega)
        refine .inr ⟨b, off, cap', by simp; omega, by simp; omega, cell_lt (hc 0 (by omega)), fun i hi => ?_⟩
        rw [List.length_map] at hi
        have hi' : i < len' := by simp at hi; omega
        rw [hc i (by omega)]
        have hiz : i < zs.length := by omega
        simp [hi', hiz, List.getD, vStr]
    · obtain ⟨s, hs, rfl⟩ := List.mem_map.1 hy
      have := hwz s (List.mem_of_mem_take hs)
      unfold maxLen at this
      show s.data.toList.length ≤ _
      simpa using this

set_option maxRecDepth 100000 in
theorem open_val {H : Type} {enc : TypeId × Value → H} {W : World} {base : Nat} {v : Value} {d : DataW H} {p : List MemPlace} (hv : Value.okWide Tryd.prog W .any base 45 v) (h : DataW.Trod enc Tryd.prog W 0 (fun _ => true) true 45 v d p) :
    ∃ (c n : Int) (s : List UInt8) (a3 : Option Addr) (l3 c3 : Nat) (xs : List Int) (v4 : Value) (ts : List (List UInt8)), v = .agg #[.int .u8 c, .int .i64 n, .string ⟨s.toArray⟩, .slice a3 l3 c3, v4] ∧ 0 ≤ c ∧ c < 256 ∧ ValOf W n s a3 l3 c3 xs v4 ts := by
  obtain ⟨v0, v1, v2, v3, v4, y0, y1, y2, y3, y4, m, rfl, rfl, rfl, hy0, hy1, hy2, hy3, hy4⟩ := open_agg5 Tryd.underlying45 (by kernel_rfl) cells45 hv h
  obtain ⟨c, e0, _, wc⟩ := DataW.trod_int Tryd.underlying5 hy0
  obtain ⟨n, e1, _, wn⟩ := DataW.trod_int Tryd.underlying3 hy1
  obtain ⟨s, e2, _, hs⟩ := DataW.trod_string Tryd.underlying9 hy2
  obtain ⟨a3, l3, c3, xs, rfl, hxl, hxr, hxI, hxc, hxm⟩ := open_rowI hy3
  obtain ⟨ts, htr, htl, htn⟩ := open_rowS hy4
  simp only [List.cons.injEq, and_true] at e0 e1 e2
  subst e0 e1 e2
  have hc : 0 ≤ c ∧ c < 256 := by
    have h1 : IntKind.u8.min = 0 := rfl
    have h2 : IntKind.u8.max = 255 := rfl
    simp only [Lit.wf, Bool.and_eq_true, decide_eq_true_eq] at wc
    omega
  refine ⟨c, n, s.data.toList, a3, l3, c3, xs.take 20, v4, ts, by cases s; simp, hc.1, hc.2, ?_⟩
  exact { n := i64_of_wf wn, s := (by have := hs; unfold maxLen at this; show s.data.toList.length ≤ _; simpa using this), l := (by rw [List.length_take, hxl, Nat.min_comm]), lc := hxc, lm := hxm, row := isRow_take hxr 20, i := fun y hy => hxI y (List.mem_of_mem_take hy), t := htr, tn := htn, tl := htl }
end Go.Proofs.YtfcbogoahangoaaDoor
