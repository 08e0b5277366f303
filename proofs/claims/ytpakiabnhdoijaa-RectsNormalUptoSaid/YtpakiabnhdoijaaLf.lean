/- From a row to its walk: rectangles, fours of bytes and numbers out of arguments; what stays as it reads. No condition. -/
import Derived.Test.YtpakiabnhdoijaaMd
import Derived.ProofKit
import Derived.OpenShut
import Derived.HandedShaped
import Derived.Deep.Slices
import Derived.Deep.Fields
import Derived.ChangeSame
import Derived.JoinedOf
import Derived.Carry
import Derived.Test.YtpakiabnhdoijaaRows
namespace Go.Proofs.Ytpakiabnhdoijaa
open Go.ChangeShapes Go.WideShapes Go.ChangeAt Go.RowKit

theorem own : ownKnob Try.prog.godebug = none := by kernel_rfl
theorem laidOut : laidOutB Try.prog = true := by kernel_rfl
theorem cells5 : Try.prog.cellsOf 5 = 1 := by kernel_rfl
theorem cells44 : Try.prog.cellsOf 44 = 4 := by kernel_rfl
theorem cells53 : Try.prog.cellsOf 53 = 4 := by kernel_rfl
theorem cells24 : Try.prog.cellsOf 24 = 2 := by kernel_rfl
theorem cells47 : Try.prog.cellsOf 47 = 3 := by kernel_rfl
/-- A number of the machine. -/
def I64 (n : Int) : Prop := -9223372036854775808 ≤ n ∧ n ≤ 9223372036854775807
theorem i64_of_wf {n : Int} (h : (Lit.int .i64 n).wf = true) : I64 n := by
  have h1 : IntKind.i64.min = -9223372036854775808 := rfl
  have h2 : IntKind.i64.max = 9223372036854775807 := rfl
  simp only [Lit.wf, Bool.and_eq_true, decide_eq_true_eq] at h
  unfold I64; omega
section
variable {H : Type} {enc : TypeId × Value → H} {W : World} {sp : Nat → Bool}
theorem one_int {n : Nat} {c : Value} {y : DataW H × List MemPlace} (h : DataW.trod enc Try.prog W 0 sp true n 3 [c] = some y) : ∃ k : Int, c = .int .i64 k ∧ I64 k := by
  obtain ⟨k, e, _, wk⟩ := DataW.trod_int Try.underlying3 h
  simp only [List.cons.injEq, and_true] at e
  exact ⟨k, e, i64_of_wf wk⟩
theorem one_byte {n : Nat} {c : Value} {y : DataW H × List MemPlace} (h : DataW.trod enc Try.prog W 0 sp true n 5 [c] = some y) : ∃ k : Int, c = .int .u8 k ∧ 0 ≤ k ∧ k ≤ 255 := by
  obtain ⟨k, e, _, wk⟩ := DataW.trod_int Try.underlying5 h
  simp only [List.cons.injEq, and_true] at e
  have h1 : IntKind.u8.min = 0 := rfl
  have h2 : IntKind.u8.max = 255 := rfl
  simp only [Lit.wf, Bool.and_eq_true, decide_eq_true_eq] at wk
  exact ⟨k, e, by omega, by omega⟩
set_option maxRecDepth 100000 in
theorem el_rect {n : Nat} {cs : List Value} {y : DataW H × List MemPlace} (h : DataW.trod enc Try.prog W 0 sp true n 44 cs = some y) : ∃ r : Rc.Rect, cs = recVal r ∧ True := by
  obtain ⟨xs, m, _, _, hl, hxl, hg⟩ := DataW.trod_struct Try.underlying44 h
  rw [cells44] at hl
  match cs, hl, xs, hxl with
  | [c0, c1, c2, c3], _, [y0, y1, y2, y3], _ =>
    have g0 := hg 0 _ rfl
    have g1 := hg 1 _ rfl
    have g2 := hg 2 _ rfl
    have g3 := hg 3 _ rfl
    simp [cells3] at g0 g1 g2 g3
    obtain ⟨a, rfl, _⟩ := one_int g0
    obtain ⟨b, rfl, _⟩ := one_int g1
    obtain ⟨c, rfl, _⟩ := one_int g2
    obtain ⟨d, rfl, _⟩ := one_int g3
    exact ⟨⟨a, b, c, d⟩, rfl, trivial⟩
set_option maxRecDepth 100000 in
theorem el_quad {n : Nat} {cs : List Value} {y : DataW H × List MemPlace} (h : DataW.trod enc Try.prog W 0 sp true n 53 cs = some y) : ∃ q : Quad, cs = quadVal q ∧ q.ok := by
  obtain ⟨xs, m, _, _, hl, hxl, hg⟩ := DataW.trod_array Try.underlying53 h
  rw [cells53] at hl
  match cs, hl, xs, hxl with
  | [c0, c1, c2, c3], _, [y0, y1, y2, y3], _ =>
    have g0 := hg 0 (by decide)
    have g1 := hg 1 (by decide)
    have g2 := hg 2 (by decide)
    have g3 := hg 3 (by decide)
    simp [cells5] at g0 g1 g2 g3
    obtain ⟨a, rfl, ha⟩ := one_byte g0
    obtain ⟨b, rfl, hb⟩ := one_byte g1
    obtain ⟨c, rfl, hc⟩ := one_byte g2
    obtain ⟨d, rfl, hd⟩ := one_byte g3
    exact ⟨⟨a, b, c, d⟩, rfl, ha.1, ha.2, hb.1, hb.2, hc.1, hc.2, hd.1, hd.2⟩
theorem el_byte {n : Nat} {cs : List Value} {y : DataW H × List MemPlace} (h : DataW.trod enc Try.prog W 0 sp true n 5 cs = some y) : ∃ k : Int, cs = [.int .u8 k] ∧ (0 ≤ k ∧ k ≤ 255) := by
  obtain ⟨k, e, _, wk⟩ := DataW.trod_int Try.underlying5 h
  have h1 : IntKind.u8.min = 0 := rfl
  have h2 : IntKind.u8.max = 255 := rfl
  simp only [Lit.wf, Bool.and_eq_true, decide_eq_true_eq] at wk
  exact ⟨k, e, by omega, by omega⟩
theorem pick_list {α : Type} {p : Nat → α → Prop} : ∀ n : Nat, (∀ i, i < n → ∃ x, p i x) → ∃ xs : List α, xs.length = n ∧ ∀ i, (h : i < xs.length) → p i xs[i]
  | 0, _ => ⟨[], rfl, fun i h => by simp at h⟩
  | n + 1, h => by
    obtain ⟨xs, hl, hx⟩ := pick_list n (fun i hi => h i (by omega))
    obtain ⟨x, hp⟩ := h n (by omega)
    refine ⟨xs ++ [x], by simp [hl], fun i hi => ?_⟩
    rcases Nat.lt_or_ge i xs.length with h1 | h1
    · rw [List.getElem_append_left h1]; exact hx i h1
    · have : i = xs.length := by simp at hi; omega
      subst this
      simp [hl, hp]
/-- A slice of an argument as a list. -/
theorem open_list {α : Type} {t e : TypeId} {size : Nat} {f : α → List Value} {Q : α → Prop} {v : Value} {d : DataW H} {p : List MemPlace} (ht : Try.prog.underlying t = some (.slice e)) (hC : Try.prog.cellsOf e = size) (hs : 0 < size) (hf : ∀ x, (f x).length = size)
    (hel : ∀ (n : Nat) (cs : List Value) (y : DataW H × List MemPlace), DataW.trod enc Try.prog W 0 (fun _ => true) true n e cs = some y → ∃ x : α, cs = f x ∧ Q x)
    (hv : ∃ a l c, v = .slice a l c) (h : DataW.Trod enc Try.prog W 0 (fun _ => true) true t v d p) : ∃ xs : List α, IsList size f W v xs ∧ ∀ x ∈ xs, Q x := by
  obtain ⟨fuel, hf0⟩ := h
  obtain ⟨a0, l0, c0, rfl⟩ := hv
  have hc : (Value.slice a0 l0 c0).cells = #[.slice a0 l0 c0] := rfl
  rw [hc] at hf0
  rcases Go.Deep.open_slice ht hf0 with ⟨hcs, _⟩ | ⟨a, len, cap, m, n, D, Pl, hcs, _, hl, hm, hmm, _, hi⟩
  · simp only [List.cons.injEq, and_true] at hcs
    rw [hcs]
    exact ⟨[], .inl ⟨none, 0, rfl, rfl⟩, by simp⟩
  · simp only [if_true] at hmm
    subst hmm
    simp only [List.cons.injEq, and_true] at hcs
    rw [hcs]
    rcases Nat.eq_zero_or_pos len with h0 | hpos
    · subst h0
      exact ⟨[], .inl ⟨_, _, rfl, rfl⟩, by simp⟩
    · obtain ⟨xs, hxl, hx⟩ := pick_list (p := fun i x => Q x ∧ ∀ j, (hj : j < (f x).length) → W.cell? ((a.add (i * size)).add j) = some ((f x)[j])) len (fun i him => by
        obtain ⟨cs', hc, ht'⟩ := hi i (by omega)
        rw [hC] at hc
        obtain ⟨x, rfl, hx⟩ := hel _ _ _ ht'
        obtain ⟨_, hcl, hat⟩ := World.cells?_some hc
        refine ⟨x, hx, fun j hj => ?_⟩
        rw [hat j (by rw [← hf x]; exact hj)]
        simp)
      obtain ⟨b, off, spot⟩ := a
      have hspot : spot = none := by simpa [Addr.add] using World.cell?_spot ((hx 0 (by omega)).2 0 (by rw [hf]; exact hs))
      subst hspot
      have hcell : ∀ k, (h : k < xs.length) → ∀ j, (h2 : j < (f xs[k]).length) → W.cell? ⟨b, off + k * size + j, none⟩ = some (f xs[k])[j] := fun k hk j hj => by
        have := (hx k hk).2 j hj
        rw [Go.WideShapes.add_plain, Go.WideShapes.add_plain] at this
        exact this
      refine ⟨xs, .inr ⟨b, off, m, by rw [hxl], by rw [hxl]; exact hl, cell_lt (hcell 0 (by omega) 0 (by rw [hf]; exact hs)), hcell⟩, fun x hx' => ?_⟩
      obtain ⟨i, hi', rfl⟩ := List.getElem_of_mem hx'
      exact (hx i hi').1
set_option maxRecDepth 100000 in
theorem open_rects {r : Reach} {base : Nat} {v : Value} {d : DataW H} {p : List MemPlace} (hv : Value.okWide Try.prog W r base 22 v) (h : DataW.Trod enc Try.prog W 0 (fun _ => true) true 22 v d p) : ∃ xs, IsRects W v xs := by
  obtain ⟨xs, h1, _⟩ := open_list (f := recVal) (Q := fun _ => True) Try.underlying22 cells44 (by decide) (fun _ => rfl) (fun _ _ _ h => el_rect h) (okWide_slice Try.underlying22 hv) h
  exact ⟨xs, h1⟩
set_option maxRecDepth 100000 in
theorem open_quads {r : Reach} {base : Nat} {v : Value} {d : DataW H} {p : List MemPlace} (hv : Value.okWide Try.prog W r base 23 v) (h : DataW.Trod enc Try.prog W 0 (fun _ => true) true 23 v d p) : ∃ xs, IsQuads W v xs ∧ ∀ q ∈ xs, q.ok :=
  open_list (f := quadVal) (Q := Quad.ok) Try.underlying23 cells53 (by decide) (fun _ => rfl) (fun _ _ _ h => el_quad h) (okWide_slice Try.underlying23 hv) h
set_option maxRecDepth 100000 in
theorem okWide_array {n : Nat} {e t : TypeId} {r : Reach} {base : Nat} {v : Value} (ht : Try.prog.underlying t = some (.array n e)) (h : Value.okWide Try.prog W r base t v) : ∃ cs, v = .agg cs ∧ cs.size = Try.prog.cellsOf t := by
  simp only [Value.okWide, ht] at h
  obtain ⟨cs, h1, h2, _⟩ := h
  exact ⟨cs, h1, h2⟩
set_option maxRecDepth 100000 in
theorem open_two {r : Reach} {base : Nat} {v : Value} {d : DataW H} {p : List MemPlace} (hv : Value.okWide Try.prog W r base 24 v) (h : DataW.Trod enc Try.prog W 0 (fun _ => true) true 24 v d p) : ∃ x y : Int, v = .agg #[.int .i64 x, .int .i64 y] ∧ I64 x ∧ I64 y := by
  obtain ⟨cs, rfl, _⟩ := okWide_array Try.underlying24 hv
  obtain ⟨fuel, hf⟩ := h
  obtain ⟨xs, m, _, _, hl, hxl, hg⟩ := DataW.trod_array Try.underlying24 hf
  rw [cells24] at hl
  have e : (Value.agg cs).cells.toList = cs.toList := rfl
  rw [e] at hl hg
  obtain ⟨cs⟩ := cs
  match cs, hl, xs, hxl with
  | [c0, c1], _, [y0, y1], _ =>
    have g0 := hg 0 (by decide)
    have g1 := hg 1 (by decide)
    simp [cells3] at g0 g1
    obtain ⟨a, rfl, ha⟩ := one_int g0
    obtain ⟨b, rfl, hb⟩ := one_int g1
    exact ⟨a, b, rfl, ha, hb⟩
set_option maxRecDepth 100000 in
theorem open_three {r : Reach} {base : Nat} {v : Value} {d : DataW H} {p : List MemPlace} (hv : Value.okWide Try.prog W r base 47 v) (h : DataW.Trod enc Try.prog W 0 (fun _ => true) true 47 v d p) : ∃ x y z : Int, v = .agg #[.int .i64 x, .int .i64 y, .int .i64 z] ∧ I64 x ∧ I64 y ∧ I64 z := by
  obtain ⟨cs, rfl, _⟩ := okWide_array Try.underlying47 hv
  obtain ⟨fuel, hf⟩ := h
  obtain ⟨xs, m, _, _, hl, hxl, hg⟩ := DataW.trod_array Try.underlying47 hf
  rw [cells47] at hl
  have e : (Value.agg cs).cells.toList = cs.toList := rfl
  rw [e] at hl hg
  obtain ⟨cs⟩ := cs
  match cs, hl, xs, hxl with
  | [c0, c1, c2], _, [y0, y1, y2], _ =>
    have g0 := hg 0 (by decide)
    have g1 := hg 1 (by decide)
    have g2 := hg 2 (by decide)
    simp [cells3] at g0 g1 g2
    obtain ⟨a, rfl, ha⟩ := one_int g0
    obtain ⟨b, rfl, hb⟩ := one_int g1
    obtain ⟨c, rfl, hc⟩ := one_int g2
    exact ⟨a, b, c, rfl, ha, hb, hc⟩
end
end Go.Proofs.Ytpakiabnhdoijaa
