/- The plain law of the rectangles, second part: combinations, row by row. No program is in sight. -/
import Derived.Test.YtpakiabnhdoijaaRcA
namespace Go.Proofs.Ytpakiabnhdoijaa.Rc

structure Rect where
  x0 : Int
  y0 : Int
  x1 : Int
  y1 : Int
deriving DecidableEq
def far : Int := 1073741824
def Rect.ok (r : Rect) : Prop := r.x0 < r.x1 ∧ r.y0 < r.y1 ∧ -far ≤ r.x0 ∧ -far ≤ r.y0 ∧ r.x1 ≤ far ∧ r.y1 ≤ far
instance (r : Rect) : Decidable r.ok := by unfold Rect.ok; exact inferInstance
def Right (l : List Rect) : Prop := l.length ≤ 4096 ∧ ∀ r ∈ l, r.ok
instance (l : List Rect) : Decidable (Right l) := by unfold Right; exact inferInstance
def set (l : List Rect) : List Rect := if Right l then l else []
theorem set_ok (l : List Rect) : ∀ r ∈ set l, r.ok := fun r hr => by
  unfold set at hr
  split at hr
  · rename_i h; exact h.2 r hr
  · cases hr
def Rect.has (r : Rect) (x y : Int) : Bool := decide (r.x0 ≤ x ∧ x < r.x1 ∧ r.y0 ≤ y ∧ y < r.y1)
def cov (l : List Rect) (x y : Int) : Bool := l.any fun r => r.has x y
theorem cov_iff {l : List Rect} {x y : Int} : cov l x y = true ↔ ∃ r ∈ l, r.x0 ≤ x ∧ x < r.x1 ∧ r.y0 ≤ y ∧ y < r.y1 := by
  unfold cov Rect.has
  simp only [List.any_eq_true, decide_eq_true_eq]

/-! ### Sorted numbers -/
def with_ : List Int → Int → List Int
  | [], n => [n]
  | a :: l, n => if a < n then a :: with_ l n else if a = n then a :: l else n :: a :: l
theorem mem_with {l : List Int} {n x : Int} : x ∈ with_ l n ↔ x = n ∨ x ∈ l := by
  induction l with
  | nil => simp [with_]
  | cons a l ih =>
    unfold with_
    split
    · rw [List.mem_cons, ih, List.mem_cons]
      constructor
      · rintro (h | h | h)
        · exact .inr (.inl h)
        · exact .inl h
        · exact .inr (.inr h)
      · rintro (h | h | h)
        · exact .inr (.inl h)
        · exact .inl h
        · exact .inr (.inr h)
    · split
      · rename_i h; subst h; simp
      · simp
theorem with_sorted {l : List Int} {n : Int} (h : l.Pairwise (· < ·)) : (with_ l n).Pairwise (· < ·) := by
  induction l with
  | nil => exact List.pairwise_singleton _ _
  | cons a l ih =>
    obtain ⟨h1, h2⟩ := List.pairwise_cons.1 h
    unfold with_
    split
    · rename_i hlt
      exact List.pairwise_cons.2 ⟨fun x hx => by rcases mem_with.1 hx with rfl | hx; exact hlt; exact h1 x hx, ih h2⟩
    · split
      · exact h
      · rename_i h3 h4
        exact List.pairwise_cons.2 ⟨fun x hx => by rcases List.mem_cons.1 hx with rfl | hx; omega; have := h1 x hx; omega, h⟩
/-- A list in strict order is known by what it holds. -/
theorem sorted_ext : ∀ {a b : List Int}, a.Pairwise (· < ·) → b.Pairwise (· < ·) → (∀ x, x ∈ a ↔ x ∈ b) → a = b
  | [], [], _, _, _ => rfl
  | [], y :: b, _, _, h => by have := (h y).2 (by simp); cases this
  | x :: a, [], _, _, h => by have := (h x).1 (by simp); cases this
  | x :: a, y :: b, ha, hb, h => by
    obtain ⟨ha1, ha2⟩ := List.pairwise_cons.1 ha
    obtain ⟨hb1, hb2⟩ := List.pairwise_cons.1 hb
    have e : x = y := by
      have h1 := (h x).1 (by simp)
      have h2 := (h y).2 (by simp)
      rcases List.mem_cons.1 h1 with h1 | h1
      · exact h1
      · rcases List.mem_cons.1 h2 with h2 | h2
        · exact h2.symm
        · have := hb1 x h1; have := ha1 y h2; omega
    subst e
    congr 1
    refine sorted_ext ha2 hb2 fun z => ⟨fun hz => ?_, fun hz => ?_⟩
    · have h3 := ha1 z hz
      rcases List.mem_cons.1 ((h z).1 (by simp [hz])) with h4 | h4
      · omega
      · exact h4
    · have h3 := hb1 z hz
      rcases List.mem_cons.1 ((h z).2 (by simp [hz])) with h4 | h4
      · omega
      · exact h4
def ysOf (l : List Rect) : List Int := l.foldl (fun ys r => with_ (with_ ys r.y0) r.y1) []
theorem ys_fold : ∀ (l : List Rect) (ys : List Int), ys.Pairwise (· < ·) → (l.foldl (fun ys r => with_ (with_ ys r.y0) r.y1) ys).Pairwise (· < ·) ∧ ∀ x, x ∈ l.foldl (fun ys r => with_ (with_ ys r.y0) r.y1) ys ↔ x ∈ ys ∨ ∃ r ∈ l, x = r.y0 ∨ x = r.y1
  | [], ys, h => ⟨h, fun x => by simp⟩
  | r :: l, ys, h => by
    obtain ⟨h1, h2⟩ := ys_fold l (with_ (with_ ys r.y0) r.y1) (with_sorted (with_sorted h))
    refine ⟨h1, fun x => ?_⟩
    rw [List.foldl_cons, h2, mem_with, mem_with]
    constructor
    · rintro ((h | h | h) | ⟨s, hs, h⟩)
      · exact .inr ⟨r, by simp, .inr h⟩
      · exact .inr ⟨r, by simp, .inl h⟩
      · exact .inl h
      · exact .inr ⟨s, by simp [hs], h⟩
    · rintro (h | ⟨s, hs, h⟩)
      · exact .inl (.inr (.inr h))
      · rcases List.mem_cons.1 hs with rfl | hs
        · rcases h with h | h
          · exact .inl (.inr (.inl h))
          · exact .inl (.inl h)
        · exact .inr ⟨s, hs, h⟩
theorem ys_sorted (l : List Rect) : (ysOf l).Pairwise (· < ·) := (ys_fold l [] List.Pairwise.nil).1
theorem mem_ys {l : List Rect} {x : Int} : x ∈ ysOf l ↔ ∃ r ∈ l, x = r.y0 ∨ x = r.y1 := by
  unfold ysOf; rw [(ys_fold l [] List.Pairwise.nil).2]; simp
def xsOf (l : List Rect) : List Int := l.foldl (fun xs r => with_ (with_ xs r.x0) r.x1) []
theorem xs_fold : ∀ (l : List Rect) (xs : List Int), xs.Pairwise (· < ·) → (l.foldl (fun xs r => with_ (with_ xs r.x0) r.x1) xs).Pairwise (· < ·) ∧ ∀ x, x ∈ l.foldl (fun xs r => with_ (with_ xs r.x0) r.x1) xs ↔ x ∈ xs ∨ ∃ r ∈ l, x = r.x0 ∨ x = r.x1
  | [], ys, h => ⟨h, fun x => by simp⟩
  | r :: l, ys, h => by
    obtain ⟨h1, h2⟩ := xs_fold l (with_ (with_ ys r.x0) r.x1) (with_sorted (with_sorted h))
    refine ⟨h1, fun x => ?_⟩
    rw [List.foldl_cons, h2, mem_with, mem_with]
    constructor
    · rintro ((h | h | h) | ⟨s, hs, h⟩)
      · exact .inr ⟨r, by simp, .inr h⟩
      · exact .inr ⟨r, by simp, .inl h⟩
      · exact .inl h
      · exact .inr ⟨s, by simp [hs], h⟩
    · rintro (h | ⟨s, hs, h⟩)
      · exact .inl (.inr (.inr h))
      · rcases List.mem_cons.1 hs with rfl | hs
        · rcases h with h | h
          · exact .inl (.inr (.inl h))
          · exact .inl (.inl h)
        · exact .inr ⟨s, hs, h⟩
theorem xs_sorted (l : List Rect) : (xsOf l).Pairwise (· < ·) := (xs_fold l [] List.Pairwise.nil).1
theorem mem_xs {l : List Rect} {x : Int} : x ∈ xsOf l ↔ ∃ r ∈ l, x = r.x0 ∨ x = r.x1 := by
  unfold xsOf; rw [(xs_fold l [] List.Pairwise.nil).2]; simp
theorem le_of_lt_sorted {l : List Int} (h : l.Pairwise (· < ·)) : l.Pairwise (· ≤ ·) := h.imp (fun h => Int.le_of_lt h)

/-! ### Combinations -/
/-- What has neither has nothing. -/
structure Comb (k : Bool → Bool → Bool) : Prop where
  none : k false false = false
def kJoin (a b : Bool) : Bool := a || b
def kLess (a b : Bool) : Bool := a && !b
def kMeet (a b : Bool) : Bool := a && b
theorem join_comb : Comb kJoin := ⟨rfl⟩
theorem less_comb : Comb kLess := ⟨rfl⟩
theorem meet_comb : Comb kMeet := ⟨rfl⟩
def at_ (l : List Rect) (y : Int) : List Rect := l.filter fun r => decide (r.y0 ≤ y ∧ y < r.y1)
theorem mem_at {l : List Rect} {y : Int} {r : Rect} : r ∈ at_ l y ↔ r ∈ l ∧ r.y0 ≤ y ∧ y < r.y1 := by unfold at_; simp
theorem cov_at {l : List Rect} {x y : Int} : cov (at_ l y) x y = cov l x y := by
  rw [Bool.eq_iff_iff, cov_iff, cov_iff]
  constructor
  · rintro ⟨r, hr, h⟩; exact ⟨r, (mem_at.1 hr).1, h⟩
  · rintro ⟨r, hr, h⟩; exact ⟨r, mem_at.2 ⟨hr, h.2.2⟩, h⟩
/-- The set of a combination. -/
def wit (k : Bool → Bool → Bool) (a b : List Rect) (y x : Int) : Bool := k (cov a x y) (cov b x y)
/-- The row of a combination, as the reference makes it. -/
def rowS (k : Bool → Bool → Bool) (a b : List Rect) (y : Int) : List Span := fill (wit k a b y) (xsOf (at_ a y ++ at_ b y)) []
theorem cov_flat {l : List Rect} {y x z : Int} (hxz : x ≤ z) (h : ∀ r ∈ at_ l y, ¬ (x < r.x0 ∧ r.x0 ≤ z) ∧ ¬ (x < r.x1 ∧ r.x1 ≤ z)) : cov l x y = cov l z y := by
  rw [Bool.eq_iff_iff, cov_iff, cov_iff]
  constructor
  · rintro ⟨r, hr, h1, h2, h3⟩
    have := h r (mem_at.2 ⟨hr, h3⟩)
    exact ⟨r, hr, by omega, by omega, h3⟩
  · rintro ⟨r, hr, h1, h2, h3⟩
    have := h r (mem_at.2 ⟨hr, h3⟩)
    exact ⟨r, hr, by omega, by omega, h3⟩
/-- A list of numbers that holds each end of the rows' rectangles is a list of steps. -/
theorem steps_of {k : Bool → Bool → Bool} (hk : Comb k) {a b : List Rect} {y : Int} {l : List Int} (h : ∀ r ∈ at_ a y ++ at_ b y, r.x0 ∈ l ∧ r.x1 ∈ l) : Steps (wit k a b y) l where
  flat := fun x z hxz he => by
    unfold wit
    rw [cov_flat (l := a) hxz (fun r hr => ⟨he _ (h r (by simp [hr])).1, he _ (h r (by simp [hr])).2⟩), cov_flat (l := b) hxz (fun r hr => ⟨he _ (h r (by simp [hr])).1, he _ (h r (by simp [hr])).2⟩)]
  ends := fun z hz => by
    have key : ∃ r ∈ at_ a y ++ at_ b y, r.x0 ≤ z ∧ z < r.x1 := by
      cases h1 : cov a z y
      · cases h2 : cov b z y
        · unfold wit at hz; rw [h1, h2, hk.none] at hz; cases hz
        · obtain ⟨r, hr, g⟩ := cov_iff.1 h2
          exact ⟨r, by simp [mem_at.2 ⟨hr, g.2.2⟩], g.1, g.2.1⟩
      · obtain ⟨r, hr, g⟩ := cov_iff.1 h1
        exact ⟨r, by simp [mem_at.2 ⟨hr, g.2.2⟩], g.1, g.2.1⟩
    obtain ⟨r, hr, g1, g2⟩ := key
    exact ⟨⟨r.x0, (h r hr).1, g1⟩, ⟨r.x1, (h r hr).2, g2⟩⟩
theorem rowS_spec {k : Bool → Bool → Bool} (hk : Comb k) (a b : List Rect) (y : Int) : Canon (rowS k a b y) ∧ ∀ x, Mem x (rowS k a b y) ↔ wit k a b y x = true :=
  fill_spec (steps_of hk (fun r hr => ⟨mem_xs.2 ⟨r, hr, .inl rfl⟩, mem_xs.2 ⟨r, hr, .inr rfl⟩⟩)) (le_of_lt_sorted (xs_sorted _))
/-- The row of one list, as the program makes it: whatever the order of equals. -/
theorem row_one {l : List Rect} (hl : ∀ r ∈ l, r.ok) (y : Int) {s : List Span} (hs : s.Perm ((at_ l y).map fun r => (r.x0, r.x1))) (ho : s.Pairwise (fun a b => a.1 ≤ b.1)) : Canon (s.foldl merge []) ∧ ∀ x, Mem x (s.foldl merge []) ↔ cov l x y = true := by
  have hm : ∀ t, t ∈ s ↔ ∃ r ∈ at_ l y, t = (r.x0, r.x1) := fun t => by
    rw [hs.mem_iff, List.mem_map]
    exact ⟨fun ⟨r, hr, e⟩ => ⟨r, hr, e.symm⟩, fun ⟨r, hr, e⟩ => ⟨r, hr, e.symm⟩⟩
  obtain ⟨h1, h2⟩ := merge_all s [] Canon.nil (fun t ht => by obtain ⟨r, hr, rfl⟩ := (hm t).1 ht; exact (hl r (mem_at.1 hr).1).1) ho (by simp)
  refine ⟨h1, fun x => ?_⟩
  rw [h2, cov_iff]
  constructor
  · rintro (h | ⟨t, ht, h3⟩)
    · exact absurd h (mem_nil _)
    · obtain ⟨r, hr, rfl⟩ := (hm t).1 ht
      exact ⟨r, (mem_at.1 hr).1, h3.1, h3.2, (mem_at.1 hr).2⟩
  · rintro ⟨r, hr, h3, h4, h5⟩
    exact .inr ⟨(r.x0, r.x1), (hm _).2 ⟨r, mem_at.2 ⟨hr, h5⟩, rfl⟩, h3, h4⟩
/-- The program's combination of two rows. -/
theorem comb_rows {k : Bool → Bool → Bool} (hk : Comb k) {a b : List Rect} {y : Int} {ra rb : List Span} (ha : Canon ra ∧ ∀ x, Mem x ra ↔ cov a x y = true) (hb : Canon rb ∧ ∀ x, Mem x rb ↔ cov b x y = true) {ends : List Int}
    (he : ∀ e, e ∈ ends ↔ ∃ s ∈ ra ++ rb, e = s.1 ∨ e = s.2) (ho : ends.Pairwise (· ≤ ·)) {w : Int → Bool} (hw : ∀ x ∈ ends, w x = wit k a b y x) : fill w ends [] = rowS k a b y := by
  have hst : Steps (wit k a b y) ends := by
    have flat1 : ∀ {r : List Span} {c : List Rect}, (∀ s ∈ r, s.1 ∈ ends ∧ s.2 ∈ ends) → (∀ x, Mem x r ↔ cov c x y = true) → ∀ x z, x ≤ z → (∀ e ∈ ends, ¬ (x < e ∧ e ≤ z)) → cov c x y = cov c z y := fun {r c} hr hm x z hxz hn => by
      rw [Bool.eq_iff_iff, ← hm, ← hm]
      constructor
      · rintro ⟨s, hs, h1, h2⟩
        have := hn _ (hr s hs).1; have := hn _ (hr s hs).2
        exact ⟨s, hs, by omega, by omega⟩
      · rintro ⟨s, hs, h1, h2⟩
        have := hn _ (hr s hs).1; have := hn _ (hr s hs).2
        exact ⟨s, hs, by omega, by omega⟩
    have ma : ∀ s ∈ ra, s.1 ∈ ends ∧ s.2 ∈ ends := fun s hs => ⟨(he _).2 ⟨s, by simp [hs], .inl rfl⟩, (he _).2 ⟨s, by simp [hs], .inr rfl⟩⟩
    have mb : ∀ s ∈ rb, s.1 ∈ ends ∧ s.2 ∈ ends := fun s hs => ⟨(he _).2 ⟨s, by simp [hs], .inl rfl⟩, (he _).2 ⟨s, by simp [hs], .inr rfl⟩⟩
    refine ⟨fun x z hxz hn => ?_, fun z hz => ?_⟩
    · unfold wit; rw [flat1 ma ha.2 x z hxz hn, flat1 mb hb.2 x z hxz hn]
    · cases h1 : cov a z y
      · cases h2 : cov b z y
        · unfold wit at hz; rw [h1, h2, hk.none] at hz; cases hz
        · obtain ⟨s, hs, g⟩ := (hb.2 z).2 h2
          exact ⟨⟨s.1, (mb s hs).1, g.1⟩, ⟨s.2, (mb s hs).2, g.2⟩⟩
      · obtain ⟨s, hs, g⟩ := (ha.2 z).2 h1
        exact ⟨⟨s.1, (ma s hs).1, g.1⟩, ⟨s.2, (ma s hs).2, g.2⟩⟩
  have e1 : ∀ (l : List Int) (out : List Span), (∀ x ∈ l, x ∈ ends) → fill w l out = fill (wit k a b y) l out := fun l => by
    induction l with
    | nil => intro out _; rfl
    | cons x l ih =>
      intro out h
      cases l with
      | nil => rfl
      | cons z r =>
        unfold fill
        rw [hw x (h x (by simp))]
        exact ih _ (fun u hu => h u (by simp [List.mem_cons.1 hu]))
  rw [e1 ends [] (fun _ h => h)]
  exact canon_ext (fill_spec hst ho).1 (rowS_spec hk a b y).1 fun z => by rw [(fill_spec hst ho).2, (rowS_spec hk a b y).2]
/-- Bands and rows: the rectangles of a combination. -/
def lift (out : List Rect) (n : Nat) (y : Int) : List Rect := out.take (out.length - n) ++ (out.drop (out.length - n)).map fun r => { r with y1 := y }
def bands (row : Int → List Span) : List Int → List Rect → List Span → List Rect
  | y :: z :: r, out, last => bands row (z :: r) (if row y = last then lift out (row y).length z else out ++ (row y).map fun s => ⟨s.1, y, s.2, z⟩) (row y)
  | _, out, _ => out
def comb (k : Bool → Bool → Bool) (a b : List Rect) : List Rect := bands (rowS k (set a) (set b)) (ysOf (set a ++ set b)) [] []
theorem lift_zero (out : List Rect) (y : Int) : lift out 0 y = out := by unfold lift; simp
end Go.Proofs.Ytpakiabnhdoijaa.Rc
