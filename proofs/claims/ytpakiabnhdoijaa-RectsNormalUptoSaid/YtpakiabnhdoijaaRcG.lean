/- The plain law of the rectangles: pieces. Which places of a list hang together, the roots of a union-find, what a search from a place finds. No program is in sight.
   The plain law of the rectangles: what the pieces of a set are, square by square. No program is in sight.
   The plain law of the rectangles: the pieces of a set are the set together, and are few. No program is in sight. -/
import Derived.Test.YtpakiabnhdoijaaRcD
import Derived.Test.YtpakiabnhdoijaaRcE

namespace Go.Proofs.Ytpakiabnhdoijaa.Rc

/-- Whether two rectangles have a point in common. -/
def touch (a b : Rect) : Bool := decide (a.x0 ≤ b.x1 ∧ b.x0 ≤ a.x1 ∧ a.y0 ≤ b.y1 ∧ b.y0 ≤ a.y1)
theorem touch_symm {a b : Rect} (h : touch a b = true) : touch b a = true := by
  unfold touch at *
  simp only [decide_eq_true_eq] at *
  omega
def Adj (l : List Rect) (j k : Nat) : Prop := ∃ a b, l[j]? = some a ∧ l[k]? = some b ∧ touch a b = true
theorem Adj.symm {l : List Rect} {j k : Nat} (h : Adj l j k) : Adj l k j := by
  obtain ⟨a, b, h1, h2, h3⟩ := h
  exact ⟨b, a, h2, h1, touch_symm h3⟩
theorem Adj.lt {l : List Rect} {j k : Nat} (h : Adj l j k) : j < l.length ∧ k < l.length := by
  obtain ⟨a, b, h1, h2, _⟩ := h
  exact ⟨(List.getElem?_eq_some_iff.1 h1).1, (List.getElem?_eq_some_iff.1 h2).1⟩
theorem adj_iff {l : List Rect} {j k : Nat} (hj : j < l.length) (hk : k < l.length) : Adj l j k ↔ touch l[j] l[k] = true := by
  constructor
  · rintro ⟨a, b, h1, h2, h3⟩
    rw [List.getElem?_eq_getElem hj] at h1
    rw [List.getElem?_eq_getElem hk] at h2
    injection h1 with h1; injection h2 with h2
    rw [h1, h2]; exact h3
  · intro h; exact ⟨_, _, List.getElem?_eq_getElem hj, List.getElem?_eq_getElem hk, h⟩
/-- Two places that hang together. -/
inductive Conn (l : List Rect) : Nat → Nat → Prop
  | refl (i : Nat) (h : i < l.length) : Conn l i i
  | step {i j k : Nat} (h : Conn l i j) (t : Adj l j k) : Conn l i k
theorem Conn.lt {l : List Rect} {i j : Nat} (h : Conn l i j) : i < l.length ∧ j < l.length := by
  induction h with
  | refl h => exact ⟨h, h⟩
  | step _ t ih => exact ⟨ih.1, t.lt.2⟩
theorem Conn.trans {l : List Rect} {i j k : Nat} (h : Conn l i j) (g : Conn l j k) : Conn l i k := by
  induction g with
  | refl _ => exact h
  | step _ t ih => exact .step ih t
theorem Conn.adj {l : List Rect} {i j : Nat} (h : Adj l i j) : Conn l i j := .step (.refl i h.lt.1) h
theorem Conn.symm {l : List Rect} {i j : Nat} (h : Conn l i j) : Conn l j i := by
  induction h with
  | refl h => exact .refl _ h
  | step _ t ih => exact (Conn.adj t.symm).trans ih

open Classical in
/-- The places below k that hang together with place i, in order. -/
noncomputable def compTo (l : List Rect) (i k : Nat) : List Nat := (List.range k).filter fun j => decide (Conn l i j)
open Classical in
/-- The places below k that are the first of their piece. -/
noncomputable def rootsTo (l : List Rect) (k : Nat) : List Nat := (List.range k).filter fun i => decide (∀ j, j < i → ¬ Conn l i j)
/-- The rectangles at some places. -/
def pick (l : List Rect) (ks : List Nat) : List Rect := ks.map fun k => l[k]?.getD ⟨0, 0, 0, 0⟩
noncomputable def compOf (l : List Rect) (i : Nat) : List Rect := pick l (compTo l i l.length)
noncomputable def piecesTo (l : List Rect) (k : Nat) : List (List Rect) := (rootsTo l k).map fun i => norm (compOf l i)
/-- The pieces of a list. -/
noncomputable def pieces (l : List Rect) : List (List Rect) := piecesTo (norm l) (norm l).length
def IsRoot (l : List Rect) (i : Nat) : Prop := ∀ j, j < i → ¬ Conn l i j

theorem compTo_zero (l : List Rect) (i : Nat) : compTo l i 0 = [] := rfl
theorem compTo_yes {l : List Rect} {i k : Nat} (h : Conn l i k) : compTo l i (k + 1) = compTo l i k ++ [k] := by
  unfold compTo
  rw [List.range_succ, List.filter_append]
  simp [h]
theorem compTo_no {l : List Rect} {i k : Nat} (h : ¬ Conn l i k) : compTo l i (k + 1) = compTo l i k := by
  unfold compTo
  rw [List.range_succ, List.filter_append]
  simp [h]
theorem mem_compTo {l : List Rect} {i k j : Nat} : j ∈ compTo l i k ↔ j < k ∧ Conn l i j := by
  unfold compTo
  simp [List.mem_filter]
theorem compTo_len (l : List Rect) (i k : Nat) : (compTo l i k).length ≤ k := by
  unfold compTo
  exact Nat.le_trans (List.length_filter_le _ _) (by simp)
theorem compTo_nodup (l : List Rect) (i k : Nat) : (compTo l i k).Nodup := by
  unfold compTo
  exact (List.nodup_range).filter _
theorem rootsTo_yes {l : List Rect} {i : Nat} (h : IsRoot l i) : rootsTo l (i + 1) = rootsTo l i ++ [i] := by
  unfold rootsTo
  rw [List.range_succ, List.filter_append]
  have h' : (∀ j, j < i → ¬ Conn l i j) = True := eq_true h
  simp only [List.filter_cons, List.filter_nil, h', decide_true, if_true]
theorem rootsTo_no {l : List Rect} {i : Nat} (h : ¬ IsRoot l i) : rootsTo l (i + 1) = rootsTo l i := by
  unfold rootsTo
  rw [List.range_succ, List.filter_append]
  have h' : ¬ ∀ j, j < i → ¬ Conn l i j := h
  simp only [List.filter_cons, List.filter_nil, h', decide_false, Bool.false_eq_true, if_false, List.append_nil]
theorem mem_rootsTo {l : List Rect} {i k : Nat} : i ∈ rootsTo l k ↔ i < k ∧ IsRoot l i := by
  unfold rootsTo IsRoot
  simp only [List.mem_filter, List.mem_range, decide_eq_true_eq]
theorem rootsTo_len (l : List Rect) (k : Nat) : (rootsTo l k).length ≤ k := by
  unfold rootsTo
  exact Nat.le_trans (List.length_filter_le _ _) (by simp)
theorem rootsTo_order (l : List Rect) (k : Nat) : (rootsTo l k).Pairwise (· < ·) := by
  unfold rootsTo
  exact (List.pairwise_lt_range).filter _
theorem pick_len (l : List Rect) (ks : List Nat) : (pick l ks).length = ks.length := by unfold pick; simp
theorem pick_snoc (l : List Rect) (ks : List Nat) (k : Nat) (h : k < l.length) : pick l (ks ++ [k]) = pick l ks ++ [l[k]] := by
  unfold pick; rw [List.map_append]; simp [List.getElem?_eq_getElem h]
theorem piecesTo_yes {l : List Rect} {i : Nat} (h : IsRoot l i) : piecesTo l (i + 1) = piecesTo l i ++ [norm (compOf l i)] := by
  unfold piecesTo; rw [rootsTo_yes h, List.map_append]; rfl
theorem piecesTo_no {l : List Rect} {i : Nat} (h : ¬ IsRoot l i) : piecesTo l (i + 1) = piecesTo l i := by
  unfold piecesTo; rw [rootsTo_no h]
theorem piecesTo_len (l : List Rect) (k : Nat) : (piecesTo l k).length ≤ k := by
  unfold piecesTo; rw [List.length_map]; exact rootsTo_len l k

/-! ### The order of a list plays no part -/
theorem right_perm {a b : List Rect} (h : a.Perm b) : Right a ↔ Right b := by
  unfold Right
  rw [h.length_eq]
  constructor
  · rintro ⟨h1, h2⟩; exact ⟨h1, fun r hr => h2 r (h.mem_iff.2 hr)⟩
  · rintro ⟨h1, h2⟩; exact ⟨h1, fun r hr => h2 r (h.mem_iff.1 hr)⟩
theorem cov_perm {a b : List Rect} (h : a.Perm b) (x y : Int) : cov a x y = cov b x y := by
  rw [Bool.eq_iff_iff, cov_iff, cov_iff]
  constructor
  · rintro ⟨r, hr, h2⟩; exact ⟨r, h.mem_iff.1 hr, h2⟩
  · rintro ⟨r, hr, h2⟩; exact ⟨r, h.mem_iff.2 hr, h2⟩
theorem norm_perm {a b : List Rect} (h : a.Perm b) : norm a = norm b := by
  apply norm_ext
  intro x y
  unfold set
  by_cases hr : Right a
  · rw [if_pos hr, if_pos ((right_perm h).1 hr)]; exact cov_perm h x y
  · rw [if_neg hr, if_neg fun g => hr ((right_perm h).2 g)]
theorem perm_of_mem {a b : List Nat} (ha : a.Nodup) (hb : b.Nodup) (h : ∀ x, x ∈ a ↔ x ∈ b) : a.Perm b :=
  (List.perm_ext_iff_of_nodup ha hb).2 h
theorem norm_pick {l : List Rect} {i : Nat} {ks : List Nat} (hn : ks.Nodup) (hm : ∀ j, j ∈ ks ↔ Conn l i j) : norm (pick l ks) = norm (compOf l i) := by
  apply norm_perm
  unfold compOf pick
  refine (perm_of_mem hn (compTo_nodup l i _) fun x => ?_).map _
  rw [hm, mem_compTo]
  exact ⟨fun h => ⟨h.lt.2, h⟩, fun h => h.2⟩

/-! ### Roots -/
/-- The way from i through the roots ends at r. -/
inductive Root (R : List Nat) : Nat → Nat → Prop
  | here (i : Nat) (h : i < R.length) (e : R[i] = i) : Root R i i
  | on (i r : Nat) (h : i < R.length) (hlt : R[i] < i) (e : Root R R[i] r) : Root R i r
theorem Root.lt {R : List Nat} {i r : Nat} (h : Root R i r) : i < R.length := by cases h <;> assumption
theorem root_ex (R : List Nat) (hR : ∀ k, (h : k < R.length) → R[k] ≤ k) : ∀ i, i < R.length → ∃ r, Root R i r := by
  intro i
  induction i using Nat.strongRecOn with
  | _ i ih =>
    intro hi
    by_cases e : R[i] = i
    · exact ⟨i, .here i hi e⟩
    · have := hR i hi
      obtain ⟨r, hr⟩ := ih R[i] (by omega) (by omega)
      exact ⟨r, .on i r hi (by omega) hr⟩
theorem Root.uniq {R : List Nat} {i r : Nat} (h : Root R i r) : ∀ {s : Nat}, Root R i s → r = s := by
  induction h with
  | here i hi e =>
    intro s hs
    cases hs with
    | here _ _ _ => rfl
    | on _ _ _ hlt _ => omega
  | on i r hi hlt _ ih =>
    intro s hs
    cases hs with
    | here _ _ e => omega
    | on _ _ _ _ e => exact ih e
theorem Root.root {R : List Nat} {i r : Nat} (h : Root R i r) : Root R r r := by
  induction h with
  | here i hi e => exact .here i hi e
  | on _ _ _ _ _ ih => exact ih
theorem Root.self {R : List Nat} {r : Nat} (h : Root R r r) : ∃ h : r < R.length, R[r] = r := by
  cases h with
  | here _ h e => exact ⟨h, e⟩
  | on _ _ h hlt e =>
    exfalso
    have key : ∀ {i r : Nat}, Root R i r → r ≤ i := by
      intro i r h
      induction h with
      | here => exact Nat.le_refl _
      | on i r _ hlt _ ih => omega
    have := key e
    omega
theorem Root.le {R : List Nat} {i r : Nat} (h : Root R i r) : r ≤ i := by
  induction h with
  | here => exact Nat.le_refl _
  | on i r _ hlt _ ih => omega
def Eqv (R : List Nat) (a b : Nat) : Prop := ∃ r, Root R a r ∧ Root R b r

/-- Two roots are joined, the greater one to the smaller one. -/
theorem root_union {R : List Nat} {M m : Nat} (hM : Root R M M) (hm : Root R m m) (hle : m ≤ M) {a r : Nat} (h : Root R a r) : Root (R.set M m) a (if r = M then m else r) := by
  obtain ⟨lM, eM⟩ := hM.self
  obtain ⟨lm, em⟩ := hm.self
  by_cases hMm : m = M
  · subst hMm
    have e : R.set m m = R := by
      apply List.ext_getElem (by simp)
      intro i h1 h2
      rw [List.getElem_set]
      split
      · rename_i h; subst h; exact eM.symm
      · rfl
    rw [e]
    split
    · rename_i h; subst h; exact h
    · exact h
  · have root_m : Root (R.set M m) m m := .here m (by simpa using lm) (by rw [List.getElem_set_ne (by omega)]; exact em)
    induction h with
    | here i hi e =>
      by_cases hiM : i = M
      · subst hiM
        rw [if_pos rfl]
        refine .on i m (by simpa using hi) (by rw [List.getElem_set_self]; omega) ?_
        rw [List.getElem_set_self]; exact root_m
      · rw [if_neg hiM]
        exact .here i (by simpa using hi) (by rw [List.getElem_set_ne (by omega)]; exact e)
    | on i r hi hlt e ih =>
      have hiM : M ≠ i := by intro h; subst h; omega
      have eq : (R.set M m)[i]'(by simpa using hi) = R[i] := by rw [List.getElem_set_ne hiM]
      refine .on i _ (by simpa using hi) (by rw [eq]; exact hlt) ?_
      rw [eq]; exact ih
/-- A new root above. -/
theorem root_new {R : List Nat} {i : Nat} {a r : Nat} (h : Root R a r) (ha : a < i) : Root (R.set i i) a r := by
  induction h with
  | here a hi e => exact .here a (by simpa using hi) (by rw [List.getElem_set_ne (by omega)]; exact e)
  | on a r hi hlt e ih =>
    have eq : (R.set i i)[a]'(by simpa using hi) = R[a] := by rw [List.getElem_set_ne (by omega)]
    refine .on a _ (by simpa using hi) (by rw [eq]; exact hlt) ?_
    rw [eq]; exact ih (by omega)

/-- What the roots say behind some rounds: the places below m have roots; all pairs ahead of (i, k) have been looked at. -/
structure UF (l : List Rect) (R : List Nat) (m i k : Nat) : Prop where
  len : R.length = l.length
  le : ∀ j, (h : j < R.length) → R[j] ≤ j
  sound : ∀ a r, a < m → Root R a r → Conn l a r
  done : ∀ p q, q < p → (p < i ∨ (p = i ∧ q < k)) → Adj l p q → Eqv R p q
theorem UF.start (l : List Rect) : UF l (List.replicate l.length 0) 0 0 0 where
  len := by simp
  le j h := by simp
  sound a r h := by omega
  done p q h1 h2 := by omega
theorem UF.opened {l : List Rect} {R : List Nat} {i : Nat} (h : UF l R i i 0) (hi : i < l.length) : UF l (R.set i i) (i + 1) i 0 where
  len := by rw [List.length_set, h.len]
  le j hj := by
    rw [List.getElem_set]
    split
    · omega
    · exact h.le j (by simpa using hj)
  sound a r ha hr := by
    by_cases e : a = i
    · subst e
      have : Root (R.set a a) a a := .here a (by rw [List.length_set, h.len]; exact hi) (by rw [List.getElem_set_self])
      rw [← this.uniq hr]
      exact .refl a hi
    · obtain ⟨s, hs⟩ := root_ex R h.le a (by rw [h.len]; omega)
      have := root_new (i := i) hs (by omega)
      rw [hr.uniq this]
      exact h.sound a s (by omega) hs
  done p q hqp h2 t := by
    have hp : p < i := by omega
    obtain ⟨r, h3, h4⟩ := h.done p q hqp (.inl hp) t
    exact ⟨r, root_new h3 hp, root_new h4 (by omega)⟩
theorem UF.join {l : List Rect} {R : List Nat} {i k x y : Nat} (h : UF l R (i + 1) i k) (hk : k < i) (ht : Adj l i k) (hx : Root R i x) (hy : Root R k y) : UF l (R.set (max x y) (min x y)) (i + 1) i (k + 1) := by
  have hM : Root R (max x y) (max x y) := by rcases Nat.le_total x y with g | g <;> simp [Nat.max_eq_left, Nat.max_eq_right, g] <;> first | exact hx.root | exact hy.root
  have hm : Root R (min x y) (min x y) := by rcases Nat.le_total x y with g | g <;> simp [Nat.min_eq_left, Nat.min_eq_right, g] <;> first | exact hx.root | exact hy.root
  have hle : min x y ≤ max x y := by omega
  have hxy : Conn l x y := ((h.sound i x (by omega) hx).symm.trans (Conn.adj ht)).trans (h.sound k y (by omega) hy)
  have hMm : Conn l (max x y) (min x y) := by
    rcases Nat.le_total x y with g | g
    · rw [Nat.max_eq_right g, Nat.min_eq_left g]; exact hxy.symm
    · rw [Nat.max_eq_left g, Nat.min_eq_right g]; exact hxy
  refine ⟨by rw [List.length_set, h.len], fun j hj => ?_, fun a r ha hr => ?_, fun p q hqp h2 t => ?_⟩
  · rw [List.getElem_set]
    split
    · omega
    · exact h.le j (by simpa using hj)
  · obtain ⟨s, hs⟩ := root_ex R h.le a (by have := hr.lt; simpa using this)
    rw [hr.uniq (root_union hM hm hle hs)]
    have c := h.sound a s ha hs
    split
    · rename_i e; rw [e] at c; exact c.trans hMm
    · exact c
  · have old : (p < i ∨ (p = i ∧ q < k)) ∨ (p = i ∧ q = k) := by omega
    rcases old with old | ⟨rfl, rfl⟩
    · obtain ⟨r, h3, h4⟩ := h.done p q hqp old t
      exact ⟨_, root_union hM hm hle h3, root_union hM hm hle h4⟩
    · have h3 := root_union hM hm hle hx
      have h4 := root_union hM hm hle hy
      refine ⟨min x y, ?_, ?_⟩
      · have e : (if x = max x y then min x y else x) = min x y := by split <;> omega
        rw [e] at h3; exact h3
      · have e : (if y = max x y then min x y else y) = min x y := by split <;> omega
        rw [e] at h4; exact h4
theorem UF.skip {l : List Rect} {R : List Nat} {i k : Nat} (h : UF l R (i + 1) i k) (ht : ¬ Adj l i k) : UF l R (i + 1) i (k + 1) :=
  ⟨h.len, h.le, h.sound, fun p q hqp h2 t => by
    have old : (p < i ∨ (p = i ∧ q < k)) ∨ (p = i ∧ q = k) := by omega
    rcases old with old | ⟨rfl, rfl⟩
    · exact h.done p q hqp old t
    · exact absurd t ht⟩
theorem UF.closed {l : List Rect} {R : List Nat} {i : Nat} (h : UF l R (i + 1) i i) : UF l R (i + 1) (i + 1) 0 :=
  ⟨h.len, h.le, h.sound, fun p q hqp h2 t => h.done p q hqp (by omega) t⟩
theorem UF.root_iff {l : List Rect} {R : List Nat} (h : UF l R l.length l.length 0) {i r : Nat} (hr : Root R i r) (b : Nat) : Conn l i b ↔ Root R b r := by
  constructor
  · intro c
    have key : ∀ {a b : Nat}, Conn l a b → Eqv R a b := by
      intro a b c
      induction c with
      | refl hi =>
        obtain ⟨s, hs⟩ := root_ex R h.le a (by rw [h.len]; exact hi)
        exact ⟨s, hs, hs⟩
      | step c t ih =>
        rename_i j k
        obtain ⟨s, h1, h2⟩ := ih
        have tl := t.lt
        rcases Nat.lt_trichotomy j k with g | g | g
        · obtain ⟨u, h3, h4⟩ := h.done k j g (.inl tl.2) t.symm
          have := h4.uniq h2
          subst this
          exact ⟨u, h1, h3⟩
        · subst g; exact ⟨s, h1, h2⟩
        · obtain ⟨u, h3, h4⟩ := h.done j k g (.inl tl.1) t
          have := h3.uniq h2
          subst this
          exact ⟨u, h1, h4⟩
    obtain ⟨s, h1, h2⟩ := key c
    rw [h1.uniq hr] at h2
    exact h2
  · intro hb
    have c1 := h.sound i r (by rw [← h.len]; exact hr.lt) hr
    have c2 := h.sound b r (by rw [← h.len]; exact hb.lt) hb
    exact c1.trans c2.symm
theorem UF.isRoot {l : List Rect} {R : List Nat} (h : UF l R l.length l.length 0) {i r : Nat} (hr : Root R i r) : IsRoot l i ↔ r = i := by
  constructor
  · intro g
    have c := h.sound i r (by rw [← h.len]; exact hr.lt) hr
    have := hr.le
    rcases Nat.lt_or_ge r i with q | q
    · exact absurd c (g r q)
    · omega
  · rintro rfl j hj c
    have := ((h.root_iff hr j).1 c).le
    omega

/-! ### A search from a place -/
/-- What a search from place i, the first of its piece, has seen: ks are done, ts are to do; of place k's neighbours those below j are seen. -/
structure BF (l : List Rect) (i : Nat) (P : List Nat) (ks ts : List Nat) : Prop where
  len : P.length = l.length
  nd : (ks ++ ts).Nodup
  mem : ∀ j ∈ ks ++ ts, Conn l i j
  start : i ∈ ks ++ ts
  vis : ∀ j, (h : j < P.length) → (P[j] ≠ 0 ↔ (∃ i', i' < i ∧ Conn l i' j) ∨ j ∈ ks ++ ts)
/-- All neighbours of k below j are seen. -/
def Seen (l : List Rect) (P : List Nat) (k j : Nat) : Prop := ∀ j', (h : j' < P.length) → j' < j → Adj l k j' → P[j'] ≠ 0
/-- The places of the pieces of the first i places are those that are marked. -/
def Marked (l : List Rect) (P : List Nat) (i : Nat) : Prop := P.length = l.length ∧ ∀ j, (h : j < P.length) → (P[j] ≠ 0 ↔ ∃ i', i' < i ∧ Conn l i' j)
theorem Marked.start (l : List Rect) : Marked l (List.replicate l.length 0) 0 := ⟨by simp, fun j h => by simp⟩
theorem Marked.notRoot {l : List Rect} {P : List Nat} {i : Nat} (h : Marked l P i) (hi : i < P.length) : IsRoot l i ↔ P[i] = 0 := by
  constructor
  · intro g
    by_cases e : P[i] = 0
    · exact e
    · obtain ⟨i', h1, h2⟩ := (h.2 i hi).1 e
      exact absurd h2.symm (g i' h1)
  · intro e j hj c
    exact (h.2 i hi).2 ⟨j, hj, c.symm⟩ e
theorem Marked.skip {l : List Rect} {P : List Nat} {i : Nat} (h : Marked l P i) (hi : i < P.length) (e : P[i] ≠ 0) : Marked l P (i + 1) := ⟨h.1, fun j hj => by
  rw [h.2 j hj]
  constructor
  · rintro ⟨i', h1, h2⟩; exact ⟨i', by omega, h2⟩
  · rintro ⟨i', h1, h2⟩
    by_cases g : i' = i
    · subst g
      obtain ⟨i'', h3, h4⟩ := (h.2 i' hi).1 e
      exact ⟨i'', h3, h4.trans h2⟩
    · exact ⟨i', by omega, h2⟩⟩
theorem BF.begin {l : List Rect} {P : List Nat} {i c : Nat} (h : Marked l P i) (hi : i < P.length) (hc : c ≠ 0) : BF l i (P.set i c) [] [i] where
  len := by rw [List.length_set, h.1]
  nd := by simp
  mem j hj := by
    have : j = i := by simpa using hj
    subst this
    exact .refl j (by rw [← h.1]; exact hi)
  start := by simp
  vis j hj := by
    have hj' : j < P.length := by simpa using hj
    rw [List.getElem_set]
    split
    · rename_i e; subst e; simp [hc]
    · rename_i e
      rw [h.2 j hj']
      simp
      intro g; exact absurd g.symm e
theorem BF.take {l : List Rect} {P : List Nat} {i k : Nat} {ks ts : List Nat} (h : BF l i P ks (k :: ts)) : BF l i P (ks ++ [k]) ts := by
  have e : ks ++ k :: ts = (ks ++ [k]) ++ ts := by simp
  exact ⟨h.len, e ▸ h.nd, fun j hj => h.mem j (e ▸ hj), e ▸ h.start, fun j hj => by rw [h.vis j hj, e]⟩
theorem BF.find {l : List Rect} {P : List Nat} {i k j c : Nat} {ks ts : List Nat} (h : BF l i P ks ts) (hk : k ∈ ks) (hj : j < P.length) (h0 : P[j] = 0) (ht : Adj l k j) (hc : c ≠ 0) : BF l i (P.set j c) ks (ts ++ [j]) := by
  have hn : j ∉ ks ++ ts := fun g => (h.vis j hj).2 (.inr g) h0
  have e : ks ++ (ts ++ [j]) = (ks ++ ts) ++ [j] := by simp
  refine ⟨by rw [List.length_set, h.len], ?_, fun p hp => ?_, ?_, fun p hp => ?_⟩
  · rw [e, List.nodup_append]
    refine ⟨h.nd, by simp, ?_⟩
    intro a ha b hb
    have : b = j := by simpa using hb
    subst this
    intro g; subst g; exact hn ha
  · rw [e, List.mem_append] at hp
    rcases hp with hp | hp
    · exact h.mem p hp
    · have : p = j := by simpa using hp
      subst this
      exact .step (h.mem k (List.mem_append_left _ hk)) ht
  · rw [e]; exact List.mem_append_left _ h.start
  · have hp' : p < P.length := by simpa using hp
    rw [List.getElem_set, e]
    split
    · rename_i g; subst g; simp [hc]
    · rename_i g
      rw [h.vis p hp']
      constructor
      · rintro (q | q)
        · exact .inl q
        · exact .inr (List.mem_append_left _ q)
      · rintro (q | q)
        · exact .inl q
        · rcases List.mem_append.1 q with q | q
          · exact .inr q
          · exact absurd (by simpa using q) (Ne.symm g)
theorem Seen.found {l : List Rect} {P : List Nat} {k j c : Nat} (h : Seen l P k j) (hc : c ≠ 0) : Seen l (P.set j c) k (j + 1) := fun j' hj' hlt t => by
  rw [List.getElem_set]
  split
  · exact hc
  · rename_i g; exact h j' (by simpa using hj') (by omega) t
theorem Seen.set {l : List Rect} {P : List Nat} {k m j c : Nat} (h : Seen l P k m) (hc : c ≠ 0) : Seen l (P.set j c) k m := fun j' hj' hlt t => by
  rw [List.getElem_set]
  split
  · exact hc
  · exact h j' (by simpa using hj') hlt t
theorem Seen.none {l : List Rect} {P : List Nat} {k j : Nat} (h : Seen l P k j) (hn : ∀ hj : j < P.length, P[j] ≠ 0 ∨ ¬ Adj l k j) : Seen l P k (j + 1) := fun j' hj' hlt t => by
  by_cases e : j' = j
  · subst e
    rcases hn hj' with g | g
    · exact g
    · exact absurd t g
  · exact h j' hj' (by omega) t
theorem Seen.zero (l : List Rect) (P : List Nat) (k : Nat) : Seen l P k 0 := fun _ _ h => by omega
theorem BF.ended {l : List Rect} {P : List Nat} {i : Nat} {ks : List Nat} (h : BF l i P ks []) (hi : IsRoot l i) (hs : ∀ k ∈ ks, Seen l P k l.length) : (∀ j, j ∈ ks ↔ Conn l i j) ∧ Marked l P (i + 1) := by
  have hm : ∀ j, j ∈ ks ↔ Conn l i j := by
    intro j
    constructor
    · intro g; exact h.mem j (by simpa using g)
    · intro c
      induction c with
      | refl hi => simpa using h.start
      | step c t ih =>
        rename_i a b
        have hb : b < P.length := by rw [h.len]; exact t.lt.2
        have := hs a ih b hb t.lt.2 t
        rcases (h.vis b hb).1 this with ⟨i', h1, h2⟩ | g
        · exact absurd ((c.step t).trans h2.symm) (hi i' h1)
        · simpa using g
  refine ⟨hm, h.len, fun j hj => ?_⟩
  rw [h.vis j hj]
  constructor
  · rintro (⟨i', h1, h2⟩ | g)
    · exact ⟨i', by omega, h2⟩
    · exact ⟨i, by omega, h.mem j g⟩
  · rintro ⟨i', h1, h2⟩
    by_cases g : i' = i
    · subst g; exact .inr (by simpa using (hm j).2 h2)
    · exact .inl ⟨i', by omega, h2⟩
theorem nodup_lt_len (n : Nat) (ks : List Nat) (hn : ks.Nodup) (h : ∀ k ∈ ks, k < n) : ks.length ≤ n := by
  have p : ks.Perm ((List.range n).filter fun k => decide (k ∈ ks)) := perm_of_mem hn (List.nodup_range.filter _) fun x => by
    simp only [List.mem_filter, List.mem_range, decide_eq_true_eq]
    exact ⟨fun g => ⟨h x g, g⟩, fun g => g.2⟩
  rw [p.length_eq]
  exact Nat.le_trans (List.length_filter_le _ _) (by simp)
theorem BF.few {l : List Rect} {P : List Nat} {i : Nat} {ks ts : List Nat} (h : BF l i P ks ts) : ks.length + ts.length ≤ l.length := by
  have := nodup_lt_len l.length _ h.nd fun k hk => (h.mem k hk).lt.2
  rw [List.length_append] at this
  exact this
end Go.Proofs.Ytpakiabnhdoijaa.Rc

namespace Go.Proofs.Ytpakiabnhdoijaa.Rc

/-- Squares beside each other, or the same. -/
def Near (x y x' y' : Int) : Prop := x ≤ x' + 1 ∧ x' ≤ x + 1 ∧ y ≤ y' + 1 ∧ y' ≤ y + 1
theorem has_iff {r : Rect} {x y : Int} : r.has x y = true ↔ r.x0 ≤ x ∧ x < r.x1 ∧ r.y0 ≤ y ∧ y < r.y1 := by unfold Rect.has; simp
theorem touch_iff {a b : Rect} : touch a b = true ↔ a.x0 ≤ b.x1 ∧ b.x0 ≤ a.x1 ∧ a.y0 ≤ b.y1 ∧ b.y0 ≤ a.y1 := by unfold touch; simp
theorem touch_of_near {a b : Rect} {x y x' y' : Int} (ha : a.has x y = true) (hb : b.has x' y' = true) (h : Near x y x' y') : touch a b = true := by
  rw [has_iff] at ha hb
  rw [touch_iff]
  unfold Near at h
  omega
theorem line_near {a0 a1 b0 b1 : Int} (ha : a0 < a1) (hb : b0 < b1) (h1 : a0 ≤ b1) (h2 : b0 ≤ a1) : ∃ x x', a0 ≤ x ∧ x < a1 ∧ b0 ≤ x' ∧ x' < b1 ∧ x ≤ x' + 1 ∧ x' ≤ x + 1 := by
  rcases Int.lt_or_le b0 a1 with g | g
  · rcases Int.lt_or_le a0 b1 with g2 | g2
    · rcases Int.lt_or_le a0 b0 with g3 | g3
      · exact ⟨b0, b0, by omega⟩
      · exact ⟨a0, a0, by omega⟩
    · exact ⟨a0, b1 - 1, by omega⟩
  · exact ⟨a1 - 1, b0, by omega⟩
theorem near_of_touch {a b : Rect} (ha : a.x0 < a.x1 ∧ a.y0 < a.y1) (hb : b.x0 < b.x1 ∧ b.y0 < b.y1) (h : touch a b = true) : ∃ x y x' y', a.has x y = true ∧ b.has x' y' = true ∧ Near x y x' y' := by
  rw [touch_iff] at h
  obtain ⟨x, x', g1⟩ := line_near ha.1 hb.1 h.1 h.2.1
  obtain ⟨y, y', g2⟩ := line_near ha.2 hb.2 h.2.2.1 h.2.2.2
  exact ⟨x, y, x', y', has_iff.2 (by omega), has_iff.2 (by omega), by unfold Near; omega⟩
/-- What goes from square to near square goes through a whole rectangle. -/
theorem spread_rect {r : Rect} {P : Int → Int → Prop} (hP : ∀ x y x' y', r.has x y = true → r.has x' y' = true → Near x y x' y' → P x y → P x' y') {x y : Int} (h : r.has x y = true) (p : P x y) {x' y' : Int} (h' : r.has x' y' = true) : P x' y' := by
  have line : ∀ (n : Nat) (u v u' : Int), r.has u v = true → r.has u' v = true → (u' - u).natAbs = n → P u v → P u' v := by
    intro n
    induction n with
    | zero => intro u v u' _ _ e q; have : u' = u := by omega
              rw [this]; exact q
    | succ n ih =>
      intro u v u' h1 h2 e q
      rw [has_iff] at h1 h2
      rcases Int.lt_or_le u u' with g | g
      · exact ih (u + 1) v u' (has_iff.2 (by omega)) (has_iff.2 h2) (by omega) (hP u v (u + 1) v (has_iff.2 h1) (has_iff.2 (by omega)) (by unfold Near; omega) q)
      · exact ih (u - 1) v u' (has_iff.2 (by omega)) (has_iff.2 h2) (by omega) (hP u v (u - 1) v (has_iff.2 h1) (has_iff.2 (by omega)) (by unfold Near; omega) q)
  have col : ∀ (n : Nat) (u v v' : Int), r.has u v = true → r.has u v' = true → (v' - v).natAbs = n → P u v → P u v' := by
    intro n
    induction n with
    | zero => intro u v v' _ _ e q; have : v' = v := by omega
              rw [this]; exact q
    | succ n ih =>
      intro u v v' h1 h2 e q
      rw [has_iff] at h1 h2
      rcases Int.lt_or_le v v' with g | g
      · exact ih u (v + 1) v' (has_iff.2 (by omega)) (has_iff.2 h2) (by omega) (hP u v u (v + 1) (has_iff.2 h1) (has_iff.2 (by omega)) (by unfold Near; omega) q)
      · exact ih u (v - 1) v' (has_iff.2 (by omega)) (has_iff.2 h2) (by omega) (hP u v u (v - 1) (has_iff.2 h1) (has_iff.2 (by omega)) (by unfold Near; omega) q)
  have hm : r.has x' y = true := by rw [has_iff] at *; omega
  exact col _ x' y y' hm h' rfl (line _ x y x' h hm rfl p)

/-- The squares of the places that hang together with place i. -/
def In (l : List Rect) (i : Nat) (x y : Int) : Prop := ∃ j r, Conn l i j ∧ l[j]? = some r ∧ r.has x y = true
theorem spread {l : List Rect} (hp : ∀ r ∈ l, r.x0 < r.x1 ∧ r.y0 < r.y1) {i : Nat} {P : Int → Int → Prop} (hP : ∀ x y x' y', In l i x y → In l i x' y' → Near x y x' y' → P x y → P x' y') {a b : Nat} (c : Conn l i a) (d : Conn l a b) :
    ∀ {ra rb : Rect} {x y x' y' : Int}, l[a]? = some ra → ra.has x y = true → P x y → l[b]? = some rb → rb.has x' y' = true → P x' y' := by
  induction d with
  | refl _ =>
    intro ra rb x y x' y' e h p e' h'
    rw [e] at e'
    injection e' with e'
    subst e'
    exact spread_rect (r := ra) (fun u v u' v' h1 h2 n q => hP u v u' v' ⟨a, ra, c, e, h1⟩ ⟨a, ra, c, e, h2⟩ n q) h p h'
  | step d t ih =>
    rename_i j k
    intro ra rb x y x' y' e h p e' h'
    obtain ⟨rj, rk, e1, e2, ht⟩ := t
    rw [e2] at e'
    injection e' with e'
    subst e'
    have pj := hp rj (List.mem_of_getElem? e1)
    have pk := hp rk (List.mem_of_getElem? e2)
    obtain ⟨u, v, u', v', g1, g2, g3⟩ := near_of_touch pj pk ht
    have q := ih e h p e1 g1
    have ck : Conn l i k := (c.trans d).step ⟨rj, rk, e1, e2, ht⟩
    have q2 := hP u v u' v' ⟨j, rj, c.trans d, e1, g1⟩ ⟨k, rk, ck, e2, g2⟩ g3 q
    exact spread_rect (r := rk) (fun u v u' v' h1 h2 n q => hP u v u' v' ⟨k, rk, ck, e2, h1⟩ ⟨k, rk, ck, e2, h2⟩ n q) g2 q2 h'

theorem mem_pick {l : List Rect} {ks : List Nat} {r : Rect} (h : ∀ k ∈ ks, k < l.length) : r ∈ pick l ks ↔ ∃ k ∈ ks, l[k]? = some r := by
  unfold pick
  rw [List.mem_map]
  constructor
  · rintro ⟨k, hk, rfl⟩
    refine ⟨k, hk, ?_⟩
    rw [List.getElem?_eq_getElem (h k hk)]; rfl
  · rintro ⟨k, hk, e⟩
    exact ⟨k, hk, by rw [e]; rfl⟩
theorem mem_compOf {l : List Rect} {i : Nat} {r : Rect} : r ∈ compOf l i ↔ ∃ j, Conn l i j ∧ l[j]? = some r := by
  unfold compOf
  rw [mem_pick fun k hk => (mem_compTo.1 hk).1]
  constructor
  · rintro ⟨k, hk, e⟩; exact ⟨k, (mem_compTo.1 hk).2, e⟩
  · rintro ⟨k, hk, e⟩; exact ⟨k, mem_compTo.2 ⟨hk.lt.2, hk⟩, e⟩
theorem cov_compOf {l : List Rect} {i : Nat} {x y : Int} : cov (compOf l i) x y = true ↔ In l i x y := by
  rw [cov_iff]
  constructor
  · rintro ⟨r, hr, h⟩
    obtain ⟨j, c, e⟩ := mem_compOf.1 hr
    exact ⟨j, r, c, e, has_iff.2 h⟩
  · rintro ⟨j, r, c, e, h⟩
    exact ⟨r, mem_compOf.2 ⟨j, c, e⟩, has_iff.1 h⟩
theorem compOf_len (l : List Rect) (i : Nat) : (compOf l i).length ≤ l.length := by unfold compOf; rw [pick_len]; exact compTo_len _ _ _
theorem compOf_right {l : List Rect} (h : Right l) (i : Nat) : Right (compOf l i) :=
  ⟨Nat.le_trans (compOf_len l i) h.1, fun r hr => by
    obtain ⟨j, _, e⟩ := mem_compOf.1 hr
    exact h.2 r (List.mem_of_getElem? e)⟩
theorem cov_piece {l : List Rect} (h : Right l) {i : Nat} {x y : Int} : cov (norm (compOf l i)) x y = true ↔ In l i x y := by
  rw [cov_norm, set_of_right (compOf_right h i), cov_compOf]
theorem pos_of_right {l : List Rect} (h : Right l) : ∀ r ∈ l, r.x0 < r.x1 ∧ r.y0 < r.y1 := fun r hr => ⟨(h.2 r hr).1, (h.2 r hr).2.1⟩
theorem norm_pos (l : List Rect) : ∀ r ∈ norm l, r.x0 < r.x1 ∧ r.y0 < r.y1 := comb_pos join_comb l []
theorem corner {r : Rect} (h : r.x0 < r.x1 ∧ r.y0 < r.y1) : r.has r.x0 r.y0 = true := has_iff.2 (by omega)
/-- A piece hangs together. -/
theorem piece_one {l : List Rect} (h : Right l) {i : Nat} (a b : Nat) (ha : a < (norm (compOf l i)).length) (hb : b < (norm (compOf l i)).length) : Conn (norm (compOf l i)) a b := by
  have hcov : ∀ x y, cov (norm (compOf l i)) x y = true ↔ In l i x y := fun x y => cov_piece h
  have hpos := norm_pos (compOf l i)
  generalize (norm (compOf l i) : List Rect) = N at ha hb hcov hpos ⊢
  have find : ∀ {x y : Int}, In l i x y → ∃ (q : Nat) (rq : Rect), N[q]? = some rq ∧ rq.has x y = true := by
    intro x y g
    obtain ⟨r, hr, g2⟩ := cov_iff.1 ((hcov x y).2 g)
    obtain ⟨q, hq, e⟩ := List.getElem_of_mem hr
    exact ⟨q, r, by rw [List.getElem?_eq_getElem hq, e], has_iff.2 g2⟩
  have ins : ∀ {q : Nat} {rq : Rect} {x y : Int}, N[q]? = some rq → rq.has x y = true → In l i x y := fun e g =>
    (hcov _ _).1 (cov_iff.2 ⟨_, List.mem_of_getElem? e, has_iff.1 g⟩)
  have ea := List.getElem?_eq_getElem ha
  have eb := List.getElem?_eq_getElem hb
  have ca := corner (hpos _ (List.getElem_mem ha))
  have cb := corner (hpos _ (List.getElem_mem hb))
  obtain ⟨ja, ra, c1, e1, h1⟩ := ins ea ca
  obtain ⟨jb, rb, c2, e2, h2⟩ := ins eb cb
  have key := spread (pos_of_right h) (i := i) (P := fun x y => ∃ (q : Nat) (rq : Rect), N[q]? = some rq ∧ rq.has x y = true ∧ Conn N a q) (fun x y x' y' _ g2 n ⟨q, rq, e, hq, cq⟩ => by
    obtain ⟨q', rq', e', hq'⟩ := find g2
    exact ⟨q', rq', e', hq', cq.step ⟨rq, rq', e, e', touch_of_near hq hq' n⟩⟩) c1 (c1.symm.trans c2) e1 h1 ⟨a, N[a], ea, ca, .refl a ha⟩ e2 h2
  obtain ⟨q, rq, e, hq, cq⟩ := key
  exact cq.step ⟨rq, _, e, eb, touch_of_near hq cb (by unfold Near; omega)⟩
/-- Different pieces have no point in common. -/
theorem piece_apart {l : List Rect} (h : Right l) {i k : Nat} (hn : ¬ Conn l i k) {a b : Rect} (ha : a ∈ norm (compOf l i)) (hb : b ∈ norm (compOf l k)) : touch a b = false := by
  cases ht : touch a b
  · rfl
  · exfalso
    obtain ⟨x, y, x', y', g1, g2, g3⟩ := near_of_touch (norm_pos _ a ha) (norm_pos _ b hb) ht
    obtain ⟨j, r, c1, e1, h1⟩ := (cov_piece h).1 (cov_iff.2 ⟨a, ha, has_iff.1 g1⟩)
    obtain ⟨j', r', c2, e2, h2⟩ := (cov_piece h).1 (cov_iff.2 ⟨b, hb, has_iff.1 g2⟩)
    exact hn ((c1.step ⟨r, r', e1, e2, touch_of_near h1 h2 g3⟩).trans c2.symm)
/-- The first square of a list in order. -/
theorem first_square {N : List Rect} (ho : N.Pairwise Before) (hp : ∀ r ∈ N, r.x0 < r.x1 ∧ r.y0 < r.y1) {i : Nat} (hi : i < N.length) {j : Nat} (hj : j < N.length) (hij : i ≤ j) {x y : Int} (h : N[j].has x y = true) : N[i].y0 < y ∨ (N[i].y0 = y ∧ N[i].x0 ≤ x) := by
  rw [has_iff] at h
  by_cases e : i = j
  · subst e; omega
  · have hb := List.pairwise_iff_getElem.1 ho i j hi hj (by omega)
    have := hp _ (List.getElem_mem hi)
    rcases hb with hb | hb <;> omega
theorem norm_order (l : List Rect) : (norm l).Pairwise Before := comb_order join_comb l []
theorem piece_len {l : List Rect} (h : Right l) {i : Nat} (hi : i < l.length) : 0 < (norm (compOf l i)).length := by
  rcases Nat.eq_zero_or_pos (norm (compOf l i)).length with e | e
  · have e2 : norm (compOf l i) = [] := List.length_eq_zero_iff.1 e
    have c := (cov_piece h (i := i)).2 ⟨i, l[i], .refl i hi, List.getElem?_eq_getElem hi, corner (pos_of_right h _ (List.getElem_mem hi))⟩
    rw [e2] at c
    simp [cov] at c
  · exact e
/-- The first square of a piece is that of its first place. -/
theorem piece_first {l : List Rect} (h : Right l) (ho : l.Pairwise Before) {i : Nat} (hr : IsRoot l i) (hi : i < l.length) (h0 : 0 < (norm (compOf l i)).length) : (norm (compOf l i))[0].y0 = l[i].y0 ∧ (norm (compOf l i))[0].x0 = l[i].x0 := by
  have hpN := norm_pos (compOf l i)
  have hoN := norm_order (compOf l i)
  have hcov : ∀ x y, cov (norm (compOf l i)) x y = true ↔ In l i x y := fun x y => cov_piece h
  generalize norm (compOf l i) = N at h0 hpN hoN hcov ⊢
  have c1 := corner (hpN _ (List.getElem_mem h0))
  have c2 := corner (pos_of_right h _ (List.getElem_mem hi))
  obtain ⟨j, r, cj, ej, hj⟩ := (hcov _ _).1 (cov_iff.2 ⟨_, List.getElem_mem h0, has_iff.1 c1⟩)
  obtain ⟨jl, er⟩ := List.getElem?_eq_some_iff.1 ej
  have hij : i ≤ j := Nat.le_of_not_lt fun g => hr j g cj
  have a1 := first_square ho (pos_of_right h) hi jl hij (er ▸ hj)
  obtain ⟨r2, hr2, h2⟩ := cov_iff.1 ((hcov _ _).2 ⟨i, l[i], .refl i hi, List.getElem?_eq_getElem hi, c2⟩)
  obtain ⟨q, hq, eq⟩ := List.getElem_of_mem hr2
  have a2 := first_square hoN hpN h0 hq (Nat.zero_le _) (eq ▸ has_iff.2 h2)
  omega
/-- The pieces' first squares stand in order. -/
theorem piece_order {l : List Rect} (h : Right l) (ho : l.Pairwise Before) {k i : Nat} (hk : IsRoot l k) (hi : IsRoot l i) (hki : k < i) (hil : i < l.length) (h0 : 0 < (norm (compOf l k)).length) (h1 : 0 < (norm (compOf l i)).length) :
    (norm (compOf l k))[0].y0 < (norm (compOf l i))[0].y0 ∨ ((norm (compOf l k))[0].y0 = (norm (compOf l i))[0].y0 ∧ (norm (compOf l k))[0].x0 < (norm (compOf l i))[0].x0) := by
  have hkl : k < l.length := by omega
  have e1 := piece_first h ho hk hkl h0
  have e2 := piece_first h ho hi hil h1
  have hb := List.pairwise_iff_getElem.1 ho k i hkl hil hki
  have := pos_of_right h _ (List.getElem_mem hkl)
  rcases hb with hb | hb <;> omega
/-- A list that hangs together has one piece. -/
theorem roots_one {N : List Rect} (h : ∀ a b, a < N.length → b < N.length → Conn N a b) : ∀ n, 0 < n → n ≤ N.length → rootsTo N n = [0]
  | 0, h0, _ => by omega
  | 1, _, _ => rootsTo_yes (l := N) (i := 0) (fun j hj => by omega)
  | n + 2, _, hl => by
    rw [rootsTo_no (fun g => g 0 (by omega) (h (n + 1) 0 (by omega) (by omega)))]
    exact roots_one h (n + 1) (by omega) (by omega)
end Go.Proofs.Ytpakiabnhdoijaa.Rc

namespace Go.Proofs.Ytpakiabnhdoijaa.Rc

def Small (l : List Rect) : Prop := ∀ r ∈ l, 0 ≤ r.x0 ∧ 0 ≤ r.y0 ∧ r.x1 ≤ 13 ∧ r.y1 ≤ 13
set_option maxRecDepth 10000 in
theorem count_le (w : Int → Int → Bool) : countOf w ≤ 225 := by
  unfold countOf
  refine Nat.le_trans List.countP_le_length ?_
  have : places.length = 225 := by decide
  omega
theorem len_le_area : ∀ {l : List Rect}, (∀ r ∈ l, r.x0 < r.x1 ∧ r.y0 < r.y1) → (l.length : Int) ≤ areaOf l
  | [], _ => by simp [areaOf]
  | r :: l, h => by
    have ih := len_le_area (l := l) fun u hu => h u (by simp [hu])
    have hr := h r (by simp)
    have : 1 * 1 ≤ (r.x1 - r.x0) * (r.y1 - r.y0) := Int.mul_le_mul (by omega) (by omega) (by omega) (by omega)
    have e : areaOf (r :: l) = (r.x1 - r.x0) * (r.y1 - r.y0) + areaOf l := by simp [areaOf, Rect.area]
    rw [e, List.length_cons, Int.natCast_add]
    have h1 : ((1 : Nat) : Int) = 1 := rfl
    omega
theorem cov_append (a b : List Rect) (x y : Int) : cov (a ++ b) x y = (cov a x y || cov b x y) := by unfold cov; rw [List.any_append]
theorem areaOf_append (a b : List Rect) : areaOf (a ++ b) = areaOf a + areaOf b := by unfold areaOf; rw [List.map_append, List.sum_append]
theorem count_pieces : ∀ {ps : List (List Rect)}, (∀ p ∈ ps, p.Pairwise Before ∧ (∀ r ∈ p, r.x0 < r.x1 ∧ r.y0 < r.y1) ∧ Small p) → ps.Pairwise (fun a b => ∀ x y, ¬ (cov a x y = true ∧ cov b x y = true)) → (countOf (cov ps.flatten) : Int) = areaOf ps.flatten
  | [], _, _ => count_list List.Pairwise.nil (by simp) (by simp)
  | p :: ps, h, hd => by
    obtain ⟨h1, h2⟩ := List.pairwise_cons.1 hd
    have ih := count_pieces (fun q hq => h q (by simp [hq])) h2
    obtain ⟨g1, g2, g3⟩ := h p (by simp)
    have e : countOf (cov (p :: ps).flatten) = countOf (cov p) + countOf (cov ps.flatten) := by
      unfold countOf
      have : (fun c : Int × Int => cov (p :: ps).flatten c.1 c.2) = fun c => cov p c.1 c.2 || cov ps.flatten c.1 c.2 := by funext c; rw [List.flatten_cons, cov_append]
      rw [this]
      refine count_or _ _ _ fun c _ ⟨k1, k2⟩ => ?_
      have k1' : cov p c.1 c.2 = true := k1
      have k2' : cov ps.flatten c.1 c.2 = true := k2
      obtain ⟨r, hr, k3⟩ := cov_iff.1 k2'
      obtain ⟨q, hq, hr⟩ := List.mem_flatten.1 hr
      exact h1 q hq c.1 c.2 ⟨k1', cov_iff.2 ⟨r, hr, k3⟩⟩
    rw [e, List.flatten_cons, areaOf_append, Int.natCast_add, ih, count_list g1 g2 g3]
theorem root_below {l : List Rect} : ∀ (j : Nat), j < l.length → ∃ i, i < l.length ∧ IsRoot l i ∧ Conn l i j := by
  intro j
  induction j using Nat.strongRecOn with
  | _ j ih =>
    intro hj
    by_cases h : IsRoot l j
    · exact ⟨j, hj, h, .refl j hj⟩
    · unfold IsRoot at h
      have ⟨k, hk⟩ := Classical.not_forall.1 h
      have ⟨hkj, hc⟩ := Classical.not_imp.1 hk
      have hc := Classical.not_not.1 hc
      obtain ⟨i, h1, h2, h3⟩ := ih k hkj (by omega)
      exact ⟨i, h1, h2, h3.trans hc.symm⟩
/-- What there is to say about the pieces of a normal list. -/
structure PiecesOf (l : List Rect) (ps : List (List Rect)) : Prop where
  each : ∀ p ∈ ps, 0 < p.length ∧ norm p = p ∧ Right p ∧ (pieces p).length = 1 ∧ p.length ≤ 225
  apart : ∀ i k, (hi : i < ps.length) → (hk : k < ps.length) → i ≠ k → ∀ a ∈ ps[i], ∀ b ∈ ps[k], touch a b = false
  order : ∀ k i, (hk : k < ps.length) → (hi : i < ps.length) → k < i → (h0 : 0 < ps[k].length) → (h1 : 0 < ps[i].length) → ps[k][0].y0 < ps[i][0].y0 ∨ (ps[k][0].y0 = ps[i][0].y0 ∧ ps[k][0].x0 < ps[i][0].x0)
  all : norm ps.flatten = norm l
  few : ps.flatten.length ≤ 225
theorem piecesTo_get (l : List Rect) (n i : Nat) (h : i < (piecesTo l n).length) : ∃ r, r < n ∧ IsRoot l r ∧ (piecesTo l n)[i] = norm (compOf l r) ∧ ∃ hi : i < (rootsTo l n).length, (rootsTo l n)[i] = r := by
  have hi : i < (rootsTo l n).length := by unfold piecesTo at h; simpa using h
  have hm := mem_rootsTo.1 (List.getElem_mem hi)
  exact ⟨_, hm.1, hm.2, by simp [piecesTo], hi, rfl⟩
theorem pieces_of {l : List Rect} (hl : l.length ≤ 32) (hs : Small l) : PiecesOf l (pieces l) := by
  have hR : Right (norm l) := comb_right join_comb (by simpa using hl)
  have hO := norm_order l
  have hS : Small (norm l) := fun r hr => comb_in join_comb l [] (X0 := 0) (Y0 := 0) (X1 := 13) (Y1 := 13) (fun u hu => by
    rw [set_nil, List.append_nil] at hu
    refine hs u ?_
    unfold set at hu
    split at hu
    · exact hu
    · cases hu) r hr
  have hN : norm (norm l) = norm l := norm_norm hR
  unfold pieces
  obtain ⟨L, hL⟩ : ∃ L, norm l = L := ⟨_, rfl⟩
  rw [hL] at hR hO hS hN
  have hsmall : ∀ i, Small (norm (compOf L i)) := fun i r hr => comb_in join_comb (compOf L i) [] (X0 := 0) (Y0 := 0) (X1 := 13) (Y1 := 13) (fun u hu => by
    rw [set_nil, List.append_nil, set_of_right (compOf_right hR i)] at hu
    obtain ⟨j, _, e⟩ := mem_compOf.1 hu
    exact hS u (List.mem_of_getElem? e)) r hr
  have hlen : ∀ i, (norm (compOf L i)).length ≤ 225 := fun i => by
    have h1 := len_le_area (norm_pos (compOf L i))
    have h2 := count_list (norm_order (compOf L i)) (norm_pos _) (hsmall i)
    have h3 := count_le (cov (norm (compOf L i)))
    omega
  have hright : ∀ i, Right (norm (compOf L i)) := fun i => ⟨by have := hlen i; omega, comb_ok join_comb _ _⟩
  rw [hL]
  have hpair : (piecesTo L L.length).Pairwise (fun a b => ∀ x y, ¬ (cov a x y = true ∧ cov b x y = true)) := by
    unfold piecesTo
    rw [List.pairwise_map]
    refine (rootsTo_order L L.length).imp_of_mem ?_
    intro i k hi hk hlt x y ⟨h1, h2⟩
    obtain ⟨r, hr, g1⟩ := cov_iff.1 h1
    obtain ⟨s, hs, g2⟩ := cov_iff.1 h2
    have hn : ¬ Conn L i k := fun c => (mem_rootsTo.1 hk).2 i hlt c.symm
    have := piece_apart hR hn hr hs
    rw [touch_of_near (has_iff.2 g1) (has_iff.2 g2) (by unfold Near; omega)] at this
    cases this
  have hlenall : (piecesTo L L.length).flatten.length ≤ 225 := by
    have h1 : ((piecesTo L L.length).flatten.length : Int) ≤ areaOf (piecesTo L L.length).flatten := len_le_area fun r hr => by
      obtain ⟨p, hp, hr⟩ := List.mem_flatten.1 hr
      obtain ⟨i, _, rfl⟩ := List.mem_map.1 hp
      exact norm_pos _ r hr
    have h2 := count_pieces (ps := piecesTo L L.length) (fun p hp => by
      obtain ⟨i, _, rfl⟩ := List.mem_map.1 hp
      exact ⟨norm_order _, norm_pos _, hsmall i⟩) hpair
    have h3 := count_le (cov (piecesTo L L.length).flatten)
    omega
  have hrightall : Right (piecesTo L L.length).flatten := ⟨by omega, fun r hr => by
    obtain ⟨p, hp, hr⟩ := List.mem_flatten.1 hr
    obtain ⟨i, _, rfl⟩ := List.mem_map.1 hp
    exact comb_ok join_comb _ _ r hr⟩
  refine ⟨fun p hp => ?_, fun i k hi hk hne a ha b hb => ?_, fun k i hk hi hki h0 h1 => ?_, ?_, hlenall⟩
  · obtain ⟨i, hi, rfl⟩ := List.mem_map.1 hp
    have hil := (mem_rootsTo.1 hi).1
    have h0 := piece_len hR hil
    have hn := norm_norm (l := compOf L i) (hright i)
    refine ⟨h0, hn, hright i, ?_, hlen i⟩
    unfold pieces
    rw [hn]
    unfold piecesTo
    rw [List.length_map, roots_one (fun a b ha hb => piece_one hR a b ha hb) _ h0 (Nat.le_refl _)]
    rfl
  · obtain ⟨r, hr, hir, e, h3, h4⟩ := piecesTo_get L _ i hi
    obtain ⟨s, hs', his, e2, h5, h6⟩ := piecesTo_get L _ k hk
    rw [e] at ha
    rw [e2] at hb
    have hrs : ¬ Conn L r s := by
      have hp := List.pairwise_iff_getElem.1 (rootsTo_order L L.length)
      intro c
      rcases Nat.lt_or_gt_of_ne hne with g | g
      · have := hp i k h3 h5 g
        rw [h4, h6] at this
        exact his r this c.symm
      · have := hp k i h5 h3 g
        rw [h4, h6] at this
        exact hir s this c
    exact piece_apart hR hrs ha hb
  · obtain ⟨s, hs', his, e2, h5, h6⟩ := piecesTo_get L _ k hk
    obtain ⟨r, hr, hir, e, h3, h4⟩ := piecesTo_get L _ i hi
    have hsr : s < r := by
      have := List.pairwise_iff_getElem.1 (rootsTo_order L L.length) k i h5 h3 hki
      rw [h4, h6] at this
      exact this
    have q := piece_order hR hO his hir hsr hr (piece_len hR (by omega)) (piece_len hR hr)
    simp only [e, e2]
    exact q
  · have hq : norm (piecesTo L L.length).flatten = norm L := ?_
    · rw [hq, hN, hL]
    apply norm_ext
    intro x y
    rw [set_of_right hrightall, set_of_right hR, Bool.eq_iff_iff]
    constructor
    · intro h
      obtain ⟨r, hr, g⟩ := cov_iff.1 h
      obtain ⟨p, hp, hr⟩ := List.mem_flatten.1 hr
      obtain ⟨i, hi, rfl⟩ := List.mem_map.1 hp
      obtain ⟨j, s, c, e, hh⟩ := (cov_piece hR).1 (cov_iff.2 ⟨r, hr, g⟩)
      exact cov_iff.2 ⟨s, List.mem_of_getElem? e, has_iff.1 hh⟩
    · intro h
      obtain ⟨r, hr, g⟩ := cov_iff.1 h
      obtain ⟨j, hj, e⟩ := List.getElem_of_mem hr
      obtain ⟨i, h1, h2, h3⟩ := root_below (l := L) j hj
      obtain ⟨s, hs', g2⟩ := cov_iff.1 ((cov_piece hR (i := i)).2 ⟨j, r, h3, by rw [List.getElem?_eq_getElem hj, e], has_iff.2 g⟩)
      exact cov_iff.2 ⟨s, List.mem_flatten.2 ⟨_, List.mem_map.2 ⟨i, mem_rootsTo.2 ⟨h1, h2⟩, rfl⟩, hs'⟩, g2⟩
end Go.Proofs.Ytpakiabnhdoijaa.Rc
