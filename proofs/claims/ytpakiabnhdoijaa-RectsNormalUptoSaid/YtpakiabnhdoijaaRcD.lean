/- The plain law of the rectangles, fourth part: a normal list is right, in order, and its own normal list. No program is in sight. -/
import Derived.Test.YtpakiabnhdoijaaRcC
namespace Go.Proofs.Ytpakiabnhdoijaa.Rc

/-- How an earlier rectangle of a normal list stands to a later one. -/
def Before (b a : Rect) : Prop := (b.y0 = a.y0 ∧ b.x1 < a.x0 ∧ b.y1 = a.y1) ∨ (b.y0 < a.y0 ∧ b.y1 ≤ a.y0)
theorem flat_order : ∀ {l : List Seg}, Bands l → (∀ s ∈ l, Canon s.v) → (flat l).Pairwise Before
  | [], _, _ => List.Pairwise.nil
  | s :: l, h, hc => by
    have hs := (h.pos s (by simp)).1
    have e : flat (s :: l) = s.rects ++ flat l := rfl
    rw [e]
    refine List.pairwise_append.2 ⟨?_, flat_order h.tail (fun t ht => hc t (by simp [ht])), fun b hb a ha => ?_⟩
    · unfold Seg.rects
      rw [List.pairwise_map]
      exact (hc s (by simp)).ord.imp fun h => .inl ⟨rfl, h, rfl⟩
    · obtain ⟨t, ht, rfl⟩ := List.mem_map.1 hb
      obtain ⟨u, hu, ha⟩ := List.mem_flatMap.1 ha
      obtain ⟨v, hv, rfl⟩ := List.mem_map.1 ha
      have := (h.after u hu).1
      exact .inr ⟨by show s.lo < u.lo; omega, this⟩
theorem combB_rows {k : Bool → Bool → Bool} (hk : Comb k) (a b : List Rect) : ∀ s ∈ combB k a b, s.v = rowS k a b s.lo ∧ Canon s.v := fun s hs => by
  have hp := ((combB_spec hk a b).1.pos s hs).1
  have e := (((combB_spec hk a b).2 s.lo s.v).1 ⟨s, hs, Int.le_refl _, hp, rfl⟩).1
  exact ⟨e.symm, by rw [← e]; exact (rowS_spec hk a b s.lo).1⟩
theorem comb_order {k : Bool → Bool → Bool} (hk : Comb k) (a b : List Rect) : (comb k a b).Pairwise Before := by
  rw [comb_flat]
  exact flat_order (combB_spec hk _ _).1 fun s hs => (combB_rows hk _ _ s hs).2
theorem comb_pos {k : Bool → Bool → Bool} (hk : Comb k) (a b : List Rect) : ∀ r ∈ comb k a b, r.x0 < r.x1 ∧ r.y0 < r.y1 := fun r hr => by
  rw [comb_flat] at hr
  obtain ⟨s, hs, hr⟩ := List.mem_flatMap.1 hr
  obtain ⟨t, ht, rfl⟩ := List.mem_map.1 hr
  exact ⟨(combB_rows hk _ _ s hs).2.pos t ht, ((combB_spec hk _ _).1.pos s hs).1⟩
theorem wit_some {k : Bool → Bool → Bool} (hk : Comb k) {a b : List Rect} {x y : Int} (h : wit k a b y x = true) : ∃ r ∈ a ++ b, r.x0 ≤ x ∧ x < r.x1 ∧ r.y0 ≤ y ∧ y < r.y1 := by
  unfold wit at h
  cases h1 : cov a x y
  · cases h2 : cov b x y
    · rw [h1, h2, hk.none] at h; cases h
    · obtain ⟨r, hr, g⟩ := cov_iff.1 h2
      exact ⟨r, by simp [hr], g⟩
  · obtain ⟨r, hr, g⟩ := cov_iff.1 h1
    exact ⟨r, by simp [hr], g⟩
/-- A combination lies where its lists lie. -/
theorem comb_in {k : Bool → Bool → Bool} (hk : Comb k) (a b : List Rect) {X0 Y0 X1 Y1 : Int} (h : ∀ r ∈ set a ++ set b, X0 ≤ r.x0 ∧ Y0 ≤ r.y0 ∧ r.x1 ≤ X1 ∧ r.y1 ≤ Y1) : ∀ r ∈ comb k a b, X0 ≤ r.x0 ∧ Y0 ≤ r.y0 ∧ r.x1 ≤ X1 ∧ r.y1 ≤ Y1 := fun r hr => by
  have hp := comb_pos hk a b r hr
  have c1 : wit k (set a) (set b) r.y0 r.x0 = true := by
    rw [← cov_comb hk]; exact cov_iff.2 ⟨r, hr, by omega, by omega, by omega, by omega⟩
  have c2 : wit k (set a) (set b) (r.y1 - 1) (r.x1 - 1) = true := by
    rw [← cov_comb hk]; exact cov_iff.2 ⟨r, hr, by omega, by omega, by omega, by omega⟩
  obtain ⟨u, hu, g1⟩ := wit_some hk c1
  obtain ⟨v, hv, g2⟩ := wit_some hk c2
  have := h u hu
  have := h v hv
  omega
theorem comb_ok {k : Bool → Bool → Bool} (hk : Comb k) (a b : List Rect) : ∀ r ∈ comb k a b, r.ok := fun r hr => by
  have hp := comb_pos hk a b r hr
  have := comb_in hk a b (X0 := -far) (Y0 := -far) (X1 := far) (Y1 := far) (fun u hu => by
    have ho : u.ok := by
      rcases List.mem_append.1 hu with h | h
      · exact set_ok a u h
      · exact set_ok b u h
    exact ⟨ho.2.2.1, ho.2.2.2.1, ho.2.2.2.2.1, ho.2.2.2.2.2⟩) r hr
  exact ⟨hp.1, hp.2, this.1, this.2.1, this.2.2.1, this.2.2.2⟩

/-! ### How many they are -/
theorem with_len (l : List Int) (n : Int) : (with_ l n).length ≤ l.length + 1 := by
  induction l with
  | nil => simp [with_]
  | cons a l ih =>
    unfold with_
    split
    · simp; omega
    · split <;> simp
theorem ys_len (l : List Rect) : ∀ ys : List Int, (l.foldl (fun ys r => with_ (with_ ys r.y0) r.y1) ys).length ≤ ys.length + 2 * l.length := by
  induction l with
  | nil => intro ys; simp
  | cons r l ih =>
    intro ys
    have h1 := ih (with_ (with_ ys r.y0) r.y1)
    have h2 := with_len ys r.y0
    have h3 := with_len (with_ ys r.y0) r.y1
    rw [List.foldl_cons, List.length_cons]; omega
theorem xs_len (l : List Rect) : ∀ xs : List Int, (l.foldl (fun xs r => with_ (with_ xs r.x0) r.x1) xs).length ≤ xs.length + 2 * l.length := by
  induction l with
  | nil => intro ys; simp
  | cons r l ih =>
    intro ys
    have h1 := ih (with_ (with_ ys r.x0) r.x1)
    have h2 := with_len ys r.x0
    have h3 := with_len (with_ ys r.x0) r.x1
    rw [List.foldl_cons, List.length_cons]; omega
theorem push_len (out : List Span) (x y : Int) : (push out x y).length ≤ out.length + 1 := by
  rcases snoc_cases out with rfl | ⟨a, l, rfl⟩
  · simp [push]
  · unfold push; simp only [List.getLast?_append, List.getLast?_singleton, Option.some_or]
    split <;> simp
theorem fill_len (w : Int → Bool) : ∀ (l : List Int) (out : List Span), (fill w l out).length ≤ out.length + l.length
  | [], out => by simp [fill]
  | [x], out => by simp [fill]
  | x :: y :: r, out => by
    have h1 := fill_len w (y :: r) (if x ≠ y ∧ w x = true then push out x y else out)
    have h2 : (if x ≠ y ∧ w x = true then push out x y else out).length ≤ out.length + 1 := by
      split
      · exact push_len _ _ _
      · omega
    show (fill w (y :: r) _).length ≤ _
    simp only [List.length_cons] at h1 ⊢; omega
theorem row_len (k : Bool → Bool → Bool) (a b : List Rect) (y : Int) : (rowS k a b y).length ≤ 2 * (a.length + b.length) := by
  have h1 := fill_len (wit k a b y) (xsOf (at_ a y ++ at_ b y)) []
  have h2 := xs_len (at_ a y ++ at_ b y) []
  have h3 : (at_ a y).length ≤ a.length := List.length_filter_le _ _
  have h4 : (at_ b y).length ≤ b.length := List.length_filter_le _ _
  rw [List.length_append] at h2
  unfold rowS
  unfold xsOf at h1 ⊢
  simp only [List.length_nil] at h1 h2; omega
theorem pushB_len (out : List Seg) (y z : Int) (v : List Span) : (pushB out y z v).length ≤ out.length + 1 := by
  unfold pushB
  split
  · omega
  · rcases snoc_cases out with rfl | ⟨a, l, rfl⟩
    · simp
    · simp only [List.getLast?_append, List.getLast?_singleton, Option.some_or]
      split <;> simp
theorem fillB_len (row : Int → List Span) : ∀ (l : List Int) (out : List Seg), (fillB row l out).length ≤ out.length + l.length
  | [], out => by simp [fillB]
  | [x], out => by simp [fillB]
  | x :: y :: r, out => by
    have h1 := fillB_len row (y :: r) (pushB out x y (row x))
    have h2 := pushB_len out x y (row x)
    show (fillB row (y :: r) _).length ≤ _
    simp only [List.length_cons] at h1 ⊢; omega
theorem flat_len_le (N : Nat) : ∀ (l : List Seg), (∀ s ∈ l, s.v.length ≤ N) → (flat l).length ≤ l.length * N
  | [], _ => by simp [flat]
  | s :: l, h => by
    have e : flat (s :: l) = s.rects ++ flat l := rfl
    have h1 := flat_len_le N l (fun t ht => h t (by simp [ht]))
    have h2 := h s (by simp)
    rw [e, List.length_append, List.length_cons, Nat.add_mul]
    unfold Seg.rects
    rw [List.length_map]; omega
theorem set_len (l : List Rect) : (set l).length ≤ l.length := by unfold set; split <;> simp
theorem comb_len {k : Bool → Bool → Bool} (hk : Comb k) (a b : List Rect) {n : Nat} (h : a.length + b.length ≤ n) : (comb k a b).length ≤ (2 * n) * (2 * n) := by
  have ha := set_len a
  have hb := set_len b
  rw [comb_flat]
  have h1 := fillB_len (rowS k (set a) (set b)) (ysOf (set a ++ set b)) []
  have h2 := ys_len (set a ++ set b) []
  rw [List.length_append] at h2
  have h3 := flat_len_le (2 * n) (combB k (set a) (set b)) (fun s hs => by
    rw [(combB_rows hk _ _ s hs).1]
    have := row_len k (set a) (set b) s.lo; omega)
  have h4 : (combB k (set a) (set b)).length ≤ 2 * n := by
    unfold combB
    unfold ysOf at h1 ⊢
    simp only [List.length_nil] at h1 h2; omega
  exact Nat.le_trans h3 (Nat.mul_le_mul_right _ h4)
theorem set_of_right {l : List Rect} (h : Right l) : set l = l := by unfold set; rw [if_pos h]
theorem set_nil : set [] = [] := set_of_right ⟨by simp, by simp⟩
theorem comb_right {k : Bool → Bool → Bool} (hk : Comb k) {a b : List Rect} (h : a.length + b.length ≤ 32) : Right (comb k a b) :=
  ⟨Nat.le_trans (comb_len hk a b h) (by decide), comb_ok hk a b⟩
def norm (l : List Rect) : List Rect := comb kJoin l []
theorem wit_norm (l : List Rect) (x y : Int) : wit kJoin (set l) (set []) y x = cov (set l) x y := by
  unfold wit; rw [set_nil]; unfold kJoin; simp [cov]
theorem cov_norm (l : List Rect) (x y : Int) : cov (norm l) x y = cov (set l) x y := by unfold norm; rw [cov_comb join_comb, wit_norm]
/-- Lists of one set have one normal list. -/
theorem norm_ext {a b : List Rect} (h : ∀ x y, cov (set a) x y = cov (set b) x y) : norm a = norm b :=
  comb_ext join_comb join_comb fun x y => by rw [wit_norm, wit_norm, h]
/-- A combination is its own normal list. -/
theorem norm_comb {k : Bool → Bool → Bool} (hk : Comb k) {a b : List Rect} (h : Right (comb k a b)) : norm (comb k a b) = comb k a b :=
  comb_ext join_comb hk fun x y => by rw [wit_norm, set_of_right h, cov_comb hk]
theorem norm_norm {l : List Rect} (h : Right (norm l)) : norm (norm l) = norm l := norm_comb join_comb h
end Go.Proofs.Ytpakiabnhdoijaa.Rc
