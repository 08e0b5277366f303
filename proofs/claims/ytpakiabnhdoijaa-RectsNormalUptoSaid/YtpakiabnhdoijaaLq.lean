/- Counts of squares, place by place; five counts and five answers in memory. No condition. -/
import Derived.Test.YtpakiabnhdoijaaL1
namespace Go.Proofs.Ytpakiabnhdoijaa
open Go.RowKit

theorem quad_small (qs : List Quad) (h : ∀ q ∈ qs, q.ok) : Rc.Small (made qs) := fun r hr => by
  unfold made at hr
  obtain ⟨q, hq, rfl⟩ := List.mem_map.1 hr
  have := h q (List.mem_of_mem_take hq)
  unfold Quad.ok at this
  unfold Quad.rect
  dsimp only
  omega
theorem quad_right (qs : List Quad) (h : ∀ q ∈ qs, q.ok) : Rc.Right (made qs) := by
  refine ⟨Nat.le_trans (made_len qs) (by decide), fun r hr => ?_⟩
  unfold made at hr
  obtain ⟨q, hq, rfl⟩ := List.mem_map.1 hr
  have := h q (List.mem_of_mem_take hq)
  unfold Quad.ok at this
  unfold Quad.rect Rc.Rect.ok Rc.far
  dsimp only
  omega
/-! ### Counting -/
def cnt (F : Nat → Int → Int → Bool) (p k : Nat) : Nat := (Rc.places.take p).countP fun c => F k c.1 c.2
set_option maxRecDepth 100000 in
theorem places_at : ∀ i : Nat, i < 15 → ∀ j : Nat, j < 15 → Rc.places[15 * i + j]? = some ((i : Int) - 1, (j : Int) - 1) := by decide
set_option maxRecDepth 100000 in
theorem places_len : Rc.places.length = 225 := by decide
theorem cnt_step (F : Nat → Int → Int → Bool) {i j : Nat} (hi : i < 15) (hj : j < 15) (k : Nat) : cnt F (15 * i + j + 1) k = cnt F (15 * i + j) k + (if F k ((i : Int) - 1) ((j : Int) - 1) = true then 1 else 0) := by
  unfold cnt
  rw [List.take_add_one, places_at i hi j hj, List.countP_append]
  simp [List.countP_cons]
theorem cnt_le (F : Nat → Int → Int → Bool) (p k : Nat) : cnt F p k ≤ 225 := by
  unfold cnt
  refine Nat.le_trans List.countP_le_length ?_
  rw [List.length_take, places_len]; omega
def rowOf (F : Nat → Int → Int → Bool) (p i : Nat) : List Nat := (List.range 5).map fun k => cnt F (if k < i then p + 1 else p) k
theorem rowOf_len (F : Nat → Int → Int → Bool) (p i : Nat) : (rowOf F p i).length = 5 := by unfold rowOf; simp
theorem rowOf_get (F : Nat → Int → Int → Bool) (p i k : Nat) (hk : k < 5) : (rowOf F p i)[k]'(by rw [rowOf_len]; exact hk) = cnt F (if k < i then p + 1 else p) k := by simp [rowOf]
theorem rowOf_next (F : Nat → Int → Int → Bool) (p : Nat) : rowOf F p 5 = rowOf F (p + 1) 0 := by
  unfold rowOf
  refine List.map_congr_left fun k hk => ?_
  have : k < 5 := List.mem_range.1 hk
  rw [if_pos this, if_neg (by omega)]
theorem rowOf_no (F : Nat → Int → Int → Bool) {i j k : Nat} (hi : i < 15) (hj : j < 15) (_hk : k < 5) (h : F k ((i : Int) - 1) ((j : Int) - 1) = false) : rowOf F (15 * i + j) (k + 1) = rowOf F (15 * i + j) k := by
  unfold rowOf
  refine List.map_congr_left fun m _ => ?_
  by_cases e : m = k
  · subst e
    rw [if_pos (by omega), if_neg (by omega), cnt_step F hi hj, h]; simp
  · by_cases g : m < k
    · rw [if_pos (by omega), if_pos g]
    · rw [if_neg (by omega), if_neg g]
theorem rowOf_yes (F : Nat → Int → Int → Bool) {i j k : Nat} (hi : i < 15) (hj : j < 15) (_hk : k < 5) (h : F k ((i : Int) - 1) ((j : Int) - 1) = true) : (rowOf F (15 * i + j) k).set k (cnt F (15 * i + j) k + 1) = rowOf F (15 * i + j) (k + 1) := by
  apply List.ext_getElem
  · rw [List.length_set, rowOf_len, rowOf_len]
  · intro m h1 h2
    have hm : m < 5 := by rw [rowOf_len] at h2; exact h2
    rw [List.getElem_set]
    split
    · rename_i e; subst e
      rw [rowOf_get F _ _ _ hm, if_pos (by omega), cnt_step F hi hj, h]; simp
    · rename_i e
      rw [rowOf_get F _ _ m hm, rowOf_get F _ _ m hm]
      by_cases g : m < k
      · rw [if_pos g, if_pos (by omega)]
      · rw [if_neg g, if_neg (by omega)]
/-- The five counts in memory. -/
def Cnt (w : World) (g : Nat) (R : List Nat) : Prop := w.heap[g]? = some (.cells (R.map placeVal).toArray 39 (0, 0))
theorem Cnt.cell {w : World} {g : Nat} {R : List Nat} (h : Cnt w g R) {k : Nat} (hk : k < R.length) : w.cell? ⟨g, k, none⟩ = some (.int .i64 (R[k] : Int)) := by
  rw [cell_of_row _ _ _ _ _ _ h]
  simp [placeVal, hk]
theorem Cnt.frozen {w : World} {g : Nat} {R : List Nat} (h : Cnt w g R) (k : Nat) : w.frozen? ⟨g, k, none⟩ = false := frozen_of_row w g k _ _ h
theorem Cnt.stored {w : World} {g : Nat} {R : List Nat} (h : Cnt w g R) (k m : Nat) : Cnt (w.setCell ⟨g, k, none⟩ (.int .i64 (m : Int))) g (R.set k m) ∧ w.grownBy (w.setCell ⟨g, k, none⟩ (.int .i64 (m : Int))) (some g) := by
  refine ⟨?_, ⟨rfl, rfl, rfl, by simp, fun j _ hj => heap_setCell_other w ⟨g, k, none⟩ j _ (fun e => hj (by simp [e]))⟩⟩
  unfold Cnt
  rw [heap_setCell_same w g k _ 39 _ h]
  congr 2
  rw [List.map_set]
  simp [placeVal]
theorem Cnt.keep {w w' : World} {g : Nat} {R : List Nat} (h : Cnt w g R) (k : Kp w w' none) : Cnt w' g R := (k.block g (lt_of_block h) (by simp)).trans h
theorem eq_five (w : World) (a b c d e a' b' c' d' e' : Int) : (Op.equalIn 10000 39 (.agg #[.int .i64 a, .int .i64 b, .int .i64 c, .int .i64 d, .int .i64 e]) (.agg #[.int .i64 a', .int .i64 b', .int .i64 c', .int .i64 d', .int .i64 e'])).run Try.prog w = .ok (a == a' && (b == b' && (c == c' && (d == d' && e == e')))) w := by
  obtain ⟨i, hi⟩ : ∃ i, Try.prog.info? 3 = some i := Option.isSome_iff_exists.1 (by kernel_rfl)
  rw [run_equalIn_array w 9999 _ _ Try.underlying39 hi, cells3]
  have e0 : ∀ x y : Int, (Op.equalIn 9999 3 (.int .i64 x) (.int .i64 y)).run Try.prog w = .ok (x == y) w := fun x y => run_equalIn_int w 9998 3 .i64 .i64 x y Try.underlying3
  simp [List.range_succ, Op.eqItems, part]
  simp only [e0, Result.andThen_ok]
  cases h1 : a == a' <;> cases h2 : b == b' <;> cases h3 : c == c' <;> cases h4 : d == d' <;> cases h5 : e == e' <;> simp
theorem bools_at (w : World) (t0 t1 t2 t3 t4 : Bool) (F : Nat → Bool) (h : F 0 = t0 ∧ F 1 = t1 ∧ F 2 = t2 ∧ F 3 = t3 ∧ F 4 = t4) (k : Nat) (hk : k < 5) : (w.alloc (Obj.cells #[.bool t0, .bool t1, .bool t2, .bool t3, .bool t4] 40)).cell? ⟨w.heap.size, k, none⟩ = some (.bool (F k)) := by
  rw [cell_of_row _ _ _ _ _ _ (heap_alloc_new w _)]
  obtain ⟨e0, e1, e2, e3, e4⟩ := h
  have : k = 0 ∨ k = 1 ∨ k = 2 ∨ k = 3 ∨ k = 4 := by omega
  rcases this with rfl | rfl | rfl | rfl | rfl
  · rw [e0]; rfl
  · rw [e1]; rfl
  · rw [e2]; rfl
  · rw [e3]; rfl
  · rw [e4]; rfl
/-- The squares of the five sets. -/
def sqs (a b : List Rc.Rect) (k : Nat) : Int → Int → Bool :=
  Rc.cov (Rc.set (match k with | 0 => a | 1 => b | 2 => Rc.comb Rc.kJoin a b | 3 => Rc.comb Rc.kLess a b | _ => Rc.comb Rc.kMeet a b))
theorem sqs_comb {k : Bool → Bool → Bool} (hk : Rc.Comb k) {a b : List Rc.Rect} (hl : a.length + b.length ≤ 24) (x y : Int) : Rc.cov (Rc.set (Rc.comb k a b)) x y = k (Rc.cov (Rc.set a) x y) (Rc.cov (Rc.set b) x y) := by
  rw [Rc.set_of_right (Rc.comb_right hk (by omega)), Rc.cov_comb hk]; rfl
theorem cnt_all (F : Nat → Int → Int → Bool) (k : Nat) : cnt F 225 k = Rc.countOf (F k) := by
  unfold cnt Rc.countOf
  rw [List.take_of_length_le (by rw [places_len]; omega)]
theorem count_comb {k : Bool → Bool → Bool} (hk : Rc.Comb k) {a b : List Rc.Rect} (ha : Rc.Small a) (hb : Rc.Small b) (hra : Rc.Right a) (hrb : Rc.Right b) (hl : a.length + b.length ≤ 24) : (Rc.countOf (Rc.cov (Rc.set (Rc.comb k a b))) : Int) = Rc.areaOf (Rc.norm (Rc.comb k a b)) := by
  refine Rc.count_norm _ fun r hr => ?_
  rw [Rc.set_of_right (Rc.comb_right hk (by omega))] at hr
  exact Rc.comb_in hk a b (X0 := 0) (Y0 := 0) (X1 := 13) (Y1 := 13) (fun u hu => by
    rw [Rc.set_of_right hra, Rc.set_of_right hrb] at hu
    rcases List.mem_append.1 hu with h | h
    · exact ha u h
    · exact hb u h) r hr

end Go.Proofs.Ytpakiabnhdoijaa
