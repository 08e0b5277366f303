/- Lists in memory: one form for nil, empty and full slices; a cell of what the call owns, read and written. The plain form of the reference's row. No condition. -/
import Derived.Test.YtpakiabnhdoijaaWn
import Derived.Test.YtpakiabnhdoijaaAt
import Derived.Test.YtpakiabnhdoijaaRcD
namespace Go.Proofs.Ytpakiabnhdoijaa
open Go.RowKit

/-- Where element k of a list lies. -/
def LiesAt {α : Type} (m : Nat) (f : α → List Value) (w : World) (ao : Option Addr) (cap : Nat) (xs : List α) : Prop :=
  ∀ k, (h : k < xs.length) → ∃ b off, ao = some ⟨b, off, none⟩ ∧ b < w.heap.size ∧ xs.length ≤ cap ∧ ∀ j, (h2 : j < (f xs[k]).length) → w.cell? ⟨b, off + k * m + j, none⟩ = some (f xs[k])[j]
theorem IsList.form {α : Type} {m : Nat} {f : α → List Value} {w : World} {v : Value} {xs : List α} (h : IsList m f w v xs) : ∃ ao cap, v = .slice ao xs.length cap ∧ LiesAt m f w ao cap xs := by
  rcases h with ⟨ao, cap, rfl, rfl⟩ | ⟨b, off, cap, rfl, hc, hb, hr⟩
  · exact ⟨ao, cap, rfl, fun k h => by simp at h⟩
  · exact ⟨_, cap, rfl, fun k h => ⟨b, off, rfl, hb, hc, fun j h2 => hr k h j h2⟩⟩
theorem LiesAt.list {α : Type} {m : Nat} {f : α → List Value} {w : World} {ao : Option Addr} {cap : Nat} {xs : List α} (h : LiesAt m f w ao cap xs) : IsList m f w (.slice ao xs.length cap) xs := by
  by_cases h0 : 0 < xs.length
  · obtain ⟨b, off, rfl, hb, hc, _⟩ := h 0 h0
    refine .inr ⟨b, off, cap, rfl, hc, hb, fun k hk j hj => ?_⟩
    obtain ⟨b', off', e, _, _, hr⟩ := h k hk
    injection e with e
    injection e with e1 e2
    subst e1; subst e2
    exact hr j hj
  · have : xs = [] := List.length_eq_zero_iff.1 (by omega)
    subst this
    exact .inl ⟨ao, cap, rfl, rfl⟩
theorem LiesAt.keep {α : Type} {m : Nat} {f : α → List Value} {w w' : World} {ao : Option Addr} {cap : Nat} {xs : List α} (h : LiesAt m f w ao cap xs) (k : Kp w w' none) : LiesAt m f w' ao cap xs := fun i hi => by
  obtain ⟨b, off, e, hb, hc, hr⟩ := h i hi
  exact ⟨b, off, e, Nat.lt_of_lt_of_le hb k.size, hc, fun j hj => by rw [k.below.cell (p := ⟨b, off + i * m + j, none⟩) hb]; exact hr j hj⟩
theorem LiesAt.int {w : World} {ao : Option Addr} {cap : Nat} {xs : List Int} (h : LiesAt 1 intVal w ao cap xs) (k : Nat) (hk : k < xs.length) : ∃ b off, ao = some ⟨b, off, none⟩ ∧ b < w.heap.size ∧ xs.length ≤ cap ∧ ∀ i, (hi : i < xs.length) → w.cell? ⟨b, off + i, none⟩ = some (.int .i64 xs[i]) := by
  obtain ⟨b, off, rfl, hb, hc, _⟩ := h k hk
  refine ⟨b, off, rfl, hb, hc, fun i hi => ?_⟩
  obtain ⟨b', off', e, _, _, hr⟩ := h i hi
  injection e with e
  injection e with e1 e2
  subst e1; subst e2
  have := hr 0 (by simp [intVal])
  simpa [intVal] using this

/-- The last range of an owned row of ranges, read and written. -/
theorem own_last {w : World} {base g cap : Nat} {out : List Rc.Span} {s : Rc.Span} (h : w.ownsRow base 24 2 (.slice (some ⟨g, 0, none⟩) (out.length + 1) cap) (out.length + 1) ((out ++ [s]).flatMap spanVal)) :
    w.cell? ⟨g, out.length * 2, none⟩ = some (.int .i64 s.1) ∧ w.cell? ⟨g, out.length * 2 + 1, none⟩ = some (.int .i64 s.2) ∧ w.frozen? ⟨g, out.length * 2 + 1, none⟩ = false := by
  have g0 := flat_get 2 spanVal (fun _ => rfl) (out ++ [s]) out.length 0 (by simp) (by simp [spanVal])
  have g1 := flat_get 2 spanVal (fun _ => rfl) (out ++ [s]) out.length 1 (by simp) (by simp [spanVal])
  simp [spanVal] at g0 g1
  refine ⟨?_, ?_, h.frozenAt _⟩
  · rw [h.cellAt _ (by omega)]; simpa [spanVal] using g0
  · rw [h.cellAt _ (by omega)]; simpa [spanVal] using g1
theorem flat_set_last (out : List Rc.Span) (s : Rc.Span) (y : Int) : ((out ++ [s]).flatMap spanVal).set (out.length * 2 + 1) (.int .i64 y) = (out ++ [(s.1, y)]).flatMap spanVal := by
  rw [List.flatMap_append, List.flatMap_append, List.set_append_right _ _ (by rw [flat_len (m := 2) (f := spanVal) (fun _ => rfl)]; omega), flat_len (m := 2) (f := spanVal) (fun _ => rfl) out, show out.length * 2 + 1 - out.length * 2 = 1 by omega]
  rfl
theorem own_last_set {w : World} {base g cap : Nat} {out : List Rc.Span} {s : Rc.Span} (h : w.ownsRow base 24 2 (.slice (some ⟨g, 0, none⟩) (out.length + 1) cap) (out.length + 1) ((out ++ [s]).flatMap spanVal)) (y : Int) :
    (w.setCell ⟨g, out.length * 2 + 1, none⟩ (.int .i64 y)).ownsRow base 24 2 (.slice (some ⟨g, 0, none⟩) (out.length + 1) cap) (out.length + 1) ((out ++ [(s.1, y)]).flatMap spanVal) ∧ w.grownBy (w.setCell ⟨g, out.length * 2 + 1, none⟩ (.int .i64 y)) (some g) := by
  have := h.stored (out.length * 2 + 1) (.int .i64 y)
  rw [flat_set_last] at this
  exact this

/-- The reference's numbers of a row. -/
def xfold (l : List Rc.Rect) (s : List Int) : List Int := l.foldl (fun xs r => Rc.with_ (Rc.with_ xs r.x0) r.x1) s
theorem xfold_step (l : List Rc.Rect) (s : List Int) (k : Nat) (h : k < l.length) : xfold (l.take (k + 1)) s = Rc.with_ (Rc.with_ (xfold (l.take k) s) l[k].x0) l[k].x1 := by
  unfold xfold
  rw [List.take_succ_eq_append_getElem h, List.foldl_append]
  rfl
theorem xfold_len (l : List Rc.Rect) (s : List Int) (k : Nat) (h : k ≤ l.length) : (xfold (l.take k) s).length ≤ s.length + 2 * k := by
  have := Rc.xs_len (l.take k) s
  rw [List.length_take, Nat.min_eq_left h] at this
  exact this
def yfold (l : List Rc.Rect) (s : List Int) : List Int := l.foldl (fun xs r => Rc.with_ (Rc.with_ xs r.y0) r.y1) s
theorem yfold_step (l : List Rc.Rect) (s : List Int) (k : Nat) (h : k < l.length) : yfold (l.take (k + 1)) s = Rc.with_ (Rc.with_ (yfold (l.take k) s) l[k].y0) l[k].y1 := by
  unfold yfold
  rw [List.take_succ_eq_append_getElem h, List.foldl_append]
  rfl
theorem yfold_len (l : List Rc.Rect) (s : List Int) (k : Nat) (h : k ≤ l.length) : (yfold (l.take k) s).length ≤ s.length + 2 * k := by
  have := Rc.ys_len (l.take k) s
  rw [List.length_take, Nat.min_eq_left h] at this
  exact this
theorem row_xfold (k : Bool → Bool → Bool) (a b : List Rc.Rect) (y : Int) : Rc.rowS k a b y = Rc.fill (Rc.wit k (Rc.at_ a y) (Rc.at_ b y) y) (xfold (Rc.at_ b y) (xfold (Rc.at_ a y) [])) [] := by
  unfold Rc.rowS Rc.xsOf xfold
  rw [List.foldl_append]
  congr 1
  funext x
  unfold Rc.wit
  rw [Rc.cov_at, Rc.cov_at]
theorem ys_yfold (a b : List Rc.Rect) : Rc.ysOf (a ++ b) = yfold b (yfold a []) := by
  unfold Rc.ysOf yfold
  rw [List.foldl_append]

end Go.Proofs.Ytpakiabnhdoijaa
