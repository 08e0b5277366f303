/- The plain law of the rectangles, third part: bands of equal rows; a set of squares has one normal list. No program is in sight. -/
import Derived.Test.YtpakiabnhdoijaaRcB
namespace Go.Proofs.Ytpakiabnhdoijaa.Rc

/-- A band: from lo on, below hi, the row v. -/
structure Seg where
  lo : Int
  hi : Int
  v : List Span
def On (l : List Seg) (y : Int) (v : List Span) : Prop := ∃ s ∈ l, s.lo ≤ y ∧ y < s.hi ∧ s.v = v
structure Bands (l : List Seg) : Prop where
  pos : ∀ s ∈ l, s.lo < s.hi ∧ s.v ≠ []
  ord : l.Pairwise (fun s t => s.hi ≤ t.lo ∧ (s.hi = t.lo → s.v ≠ t.v))
theorem on_nil (y : Int) (v : List Span) : ¬ On [] y v := fun ⟨_, h, _⟩ => by cases h
theorem on_cons (y : Int) (v : List Span) (s : Seg) (l : List Seg) : On (s :: l) y v ↔ (s.lo ≤ y ∧ y < s.hi ∧ s.v = v) ∨ On l y v := by
  constructor
  · rintro ⟨t, ht, h⟩
    rcases List.mem_cons.1 ht with rfl | ht
    · exact .inl h
    · exact .inr ⟨t, ht, h⟩
  · rintro (h | ⟨t, ht, h⟩)
    · exact ⟨s, by simp, h⟩
    · exact ⟨t, by simp [ht], h⟩
theorem on_append (y : Int) (v : List Span) (a b : List Seg) : On (a ++ b) y v ↔ On a y v ∨ On b y v := by
  constructor
  · rintro ⟨t, ht, h⟩
    rcases List.mem_append.1 ht with ht | ht
    · exact .inl ⟨t, ht, h⟩
    · exact .inr ⟨t, ht, h⟩
  · rintro (⟨t, ht, h⟩ | ⟨t, ht, h⟩)
    · exact ⟨t, by simp [ht], h⟩
    · exact ⟨t, by simp [ht], h⟩
theorem Bands.nil : Bands [] := ⟨by simp, List.Pairwise.nil⟩
theorem Bands.tail {s : Seg} {l : List Seg} (h : Bands (s :: l)) : Bands l := ⟨fun t ht => h.pos t (by simp [ht]), (List.pairwise_cons.1 h.ord).2⟩
theorem Bands.after {s : Seg} {l : List Seg} (h : Bands (s :: l)) : ∀ t ∈ l, s.hi ≤ t.lo ∧ (s.hi = t.lo → s.v ≠ t.v) := (List.pairwise_cons.1 h.ord).1
/-- Rows over the heights have one list of bands. -/
theorem bands_ext : ∀ {a b : List Seg}, Bands a → Bands b → (∀ y v, On a y v ↔ On b y v) → a = b
  | [], [], _, _, _ => rfl
  | [], t :: b, _, hb, h => by
    have := (h t.lo t.v).2 ((on_cons _ _ _ _).2 (.inl ⟨Int.le_refl _, (hb.pos t (by simp)).1, rfl⟩))
    exact absurd this (on_nil _ _)
  | s :: a, [], ha, _, h => by
    have := (h s.lo s.v).1 ((on_cons _ _ _ _).2 (.inl ⟨Int.le_refl _, (ha.pos s (by simp)).1, rfl⟩))
    exact absurd this (on_nil _ _)
  | s :: a, t :: b, ha, hb, h => by
    have low : ∀ {s t : Seg} {a b : List Seg}, Bands (s :: a) → Bands (t :: b) → (∀ y v, On (s :: a) y v → On (t :: b) y v) → t.lo ≤ s.lo := fun {s t a b} ha hb h => by
      rcases (on_cons _ _ _ _).1 (h s.lo s.v ((on_cons _ _ _ _).2 (.inl ⟨Int.le_refl _, (ha.pos s (by simp)).1, rfl⟩))) with h1 | ⟨u, hu, h1⟩
      · exact h1.1
      · have := (hb.after u hu).1; have := (hb.pos t (by simp)).1; omega
    have e1 : s.lo = t.lo := Int.le_antisymm (low hb ha (fun y v => (h y v).2)) (low ha hb (fun y v => (h y v).1))
    have e2 : s.v = t.v := by
      have hp := (hb.pos t (by simp)).1
      rcases (on_cons _ _ _ _).1 ((h s.lo s.v).1 ((on_cons _ _ _ _).2 (.inl ⟨Int.le_refl _, (ha.pos s (by simp)).1, rfl⟩))) with h1 | ⟨u, hu, h1⟩
      · exact h1.2.2.symm
      · have := (hb.after u hu).1; omega
    have high : ∀ {s t : Seg} {a b : List Seg}, Bands (s :: a) → Bands (t :: b) → s.lo = t.lo → s.v = t.v → (∀ y v, On (t :: b) y v → On (s :: a) y v) → t.hi ≤ s.hi := fun {s t a b} ha hb e ev h => by
      rcases Int.lt_or_le s.hi t.hi with hlt | hle
      · have hs := (ha.pos s (by simp)).1
        rcases (on_cons _ _ _ _).1 (h s.hi t.v ((on_cons _ _ _ _).2 (.inl ⟨by omega, hlt, rfl⟩))) with h1 | ⟨u, hu, h1⟩
        · omega
        · have h2 := ha.after u hu
          have h3 : s.hi = u.lo := by omega
          exact absurd (ev.trans h1.2.2.symm) (h2.2 h3)
      · exact hle
    have e3 : s.hi = t.hi := Int.le_antisymm (high hb ha e1.symm e2.symm (fun y v => (h y v).1)) (high ha hb e1 e2 (fun y v => (h y v).2))
    obtain ⟨sl, sh, sv⟩ := s
    obtain ⟨tl, th, tv⟩ := t
    simp only at e1 e2 e3
    subst e1 e2 e3
    congr 1
    refine bands_ext ha.tail hb.tail fun y v => ?_
    have key : ∀ {a b : List Seg}, Bands (⟨sl, sh, sv⟩ :: a) → (On (⟨sl, sh, sv⟩ :: a) y v → On (⟨sl, sh, sv⟩ :: b) y v) → On a y v → On b y v := fun {a b} ha h hm => by
      rcases (on_cons _ _ _ _).1 (h ((on_cons _ _ _ _).2 (.inr hm))) with h1 | h1
      · obtain ⟨u, hu, h2⟩ := hm
        have := (ha.after u hu).1
        simp only at this h1
        omega
      · exact h1
    exact ⟨key ha (h y v).1, key hb (h y v).2⟩

/-- A band behind the others. -/
def pushB (out : List Seg) (y z : Int) (v : List Span) : List Seg := if v = [] then out else match out.getLast? with
  | some l => if l.hi = y ∧ l.v = v then out.dropLast ++ [⟨l.lo, z, v⟩] else out ++ [⟨y, z, v⟩]
  | none => [⟨y, z, v⟩]
theorem pushB_spec {out : List Seg} {y z : Int} {v : List Span} (h : Bands out) (hl : ∀ s ∈ out, s.hi ≤ y) (hyz : y < z) : Bands (pushB out y z v) ∧ (∀ s ∈ pushB out y z v, s.hi ≤ z) ∧ ∀ u r, On (pushB out y z v) u r ↔ On out u r ∨ (y ≤ u ∧ u < z ∧ v = r ∧ r ≠ []) := by
  by_cases hv : v = []
  · have e : pushB out y z v = out := by unfold pushB; rw [if_pos hv]
    rw [e]
    refine ⟨h, fun s hs => by have := hl s hs; omega, fun u r => ⟨.inl, fun h => h.elim id (fun h => absurd (h.2.2.1.symm.trans hv) h.2.2.2)⟩⟩
  · have snoc : Bands out → (∀ s ∈ out, s.hi ≤ y) → (∀ s ∈ out, s.hi = y → s.v ≠ v) → Bands (out ++ [⟨y, z, v⟩]) ∧ (∀ s ∈ out ++ [(⟨y, z, v⟩ : Seg)], s.hi ≤ z) ∧ ∀ u r, On (out ++ [⟨y, z, v⟩]) u r ↔ On out u r ∨ (y ≤ u ∧ u < z ∧ v = r ∧ r ≠ []) := fun h hl hne => by
      refine ⟨⟨fun s hs => ?_, List.pairwise_append.2 ⟨h.ord, List.pairwise_singleton _ _, fun s hs t ht => ?_⟩⟩, fun s hs => ?_, fun u r => ?_⟩
      · rcases List.mem_append.1 hs with h1 | h1
        · exact h.pos s h1
        · simp at h1; subst h1; exact ⟨hyz, hv⟩
      · simp at ht; subst ht; exact ⟨hl s hs, hne s hs⟩
      · rcases List.mem_append.1 hs with h1 | h1
        · have := hl s h1; omega
        · simp at h1; subst h1; exact Int.le_refl _
      · rw [on_append, on_cons]
        constructor
        · rintro (h | h | h)
          · exact .inl h
          · exact .inr ⟨h.1, h.2.1, h.2.2, fun e => hv (h.2.2.trans e)⟩
          · exact absurd h (on_nil _ _)
        · rintro (h | h)
          · exact .inl h
          · exact .inr (.inl ⟨h.1, h.2.1, h.2.2.1⟩)
    rcases snoc_cases out with rfl | ⟨a, l, rfl⟩
    · have e : pushB [] y z v = [⟨y, z, v⟩] := by unfold pushB; rw [if_neg hv]; rfl
      rw [e]
      exact snoc Bands.nil (by simp) (by simp)
    · have e : pushB (a ++ [l]) y z v = if l.hi = y ∧ l.v = v then a ++ [⟨l.lo, z, v⟩] else a ++ [l] ++ [⟨y, z, v⟩] := by
        unfold pushB; rw [if_neg hv]; simp
      rw [e]
      have hpa := List.pairwise_append.1 h.ord
      have hpl := h.pos l (by simp)
      split
      · rename_i e2
        refine ⟨⟨fun s hs => ?_, List.pairwise_append.2 ⟨hpa.1, List.pairwise_singleton _ _, fun s hs t ht => ?_⟩⟩, fun s hs => ?_, fun u r => ?_⟩
        · rcases List.mem_append.1 hs with h1 | h1
          · exact h.pos s (by simp [h1])
          · simp at h1; subst h1; exact ⟨by show l.lo < z; have := hl l (by simp); omega, hv⟩
        · simp at ht; subst ht
          have := hpa.2.2 s hs l (by simp)
          exact ⟨this.1, fun e3 => by rw [← e2.2]; exact this.2 e3⟩
        · rcases List.mem_append.1 hs with h1 | h1
          · have := hl s (by simp [h1]); omega
          · simp at h1; subst h1; exact Int.le_refl _
        · simp only [on_append, on_cons]
          constructor
          · rintro (h | h | h)
            · exact .inl (.inl h)
            · have h2 : l.lo ≤ u := h.1
              have h3 : u < z := h.2.1
              rcases Int.lt_or_le u y with h1 | h1
              · exact .inl (.inr (.inl ⟨h2, by omega, e2.2.trans h.2.2⟩))
              · exact .inr ⟨h1, h3, h.2.2, fun e => hv (h.2.2.trans e)⟩
            · exact absurd h (on_nil _ _)
          · rintro ((h | h | h) | h)
            · exact .inl h
            · exact .inr (.inl ⟨h.1, by show u < z; omega, e2.2.symm.trans h.2.2⟩)
            · exact absurd h (on_nil _ _)
            · exact .inr (.inl ⟨by show l.lo ≤ u; omega, h.2.1, h.2.2.1⟩)
      · rename_i hne
        refine snoc h hl fun s hs e3 e4 => ?_
        rcases List.mem_append.1 hs with h1 | h1
        · have := (hpa.2.2 s h1 l (by simp)).1; have := hl l (by simp); omega
        · simp at h1; subst h1; exact hne ⟨e3, e4⟩
def fillB (row : Int → List Span) : List Int → List Seg → List Seg
  | y :: z :: r, out => fillB row (z :: r) (pushB out y z (row y))
  | _, out => out
/-- The rows do not change but at the numbers of a list, and are empty outside of them. -/
structure StepsB (row : Int → List Span) (l : List Int) : Prop where
  flat : ∀ x z, x ≤ z → (∀ e ∈ l, ¬ (x < e ∧ e ≤ z)) → row x = row z
  ends : ∀ z, row z ≠ [] → (∃ e ∈ l, e ≤ z) ∧ ∃ e ∈ l, z < e
theorem fillB_on {row : Int → List Span} {all : List Int} (hw : StepsB row all) : ∀ (l : List Int) (out : List Seg), l.Pairwise (· < ·) → (∀ e ∈ all, e ∈ l ∨ ∀ x ∈ l, e ≤ x) → Bands out → (∀ s ∈ out, ∀ x ∈ l, s.hi ≤ x) →
    Bands (fillB row l out) ∧ ∀ u v, On (fillB row l out) u v ↔ On out u v ∨ (row u = v ∧ v ≠ [] ∧ (∃ x ∈ l, x ≤ u) ∧ ∃ x ∈ l, u < x)
  | [], out, _, _, hc, _ => ⟨hc, fun u v => by simp [fillB]⟩
  | [x], out, _, _, hc, _ => ⟨hc, fun u v => by simp [fillB]; intro _ _ h1 h2; omega⟩
  | x :: y :: r, out, ho, hall, hc, hl => by
    obtain ⟨h1, h2⟩ := List.pairwise_cons.1 ho
    have hxy := h1 y (by simp)
    have hmin : ∀ u ∈ y :: r, y ≤ u := fun u hu => by
      rcases List.mem_cons.1 hu with rfl | hu
      · exact Int.le_refl _
      · exact Int.le_of_lt ((List.pairwise_cons.1 h2).1 u hu)
    have hall2 : ∀ e ∈ all, e ∈ (y :: r) ∨ ∀ u ∈ (y :: r), e ≤ u := fun e he => by
      rcases hall e he with h | h
      · rcases List.mem_cons.1 h with rfl | h
        · exact .inr fun u hu => Int.le_of_lt (h1 u hu)
        · exact .inl h
      · exact .inr fun u hu => h u (by simp [List.mem_cons.1 hu])
    have hconst : ∀ z, x ≤ z → z < y → row x = row z := fun z hz hzy => hw.flat x z hz fun e he ⟨e1, e2⟩ => by
      rcases hall e he with h | h
      · rcases List.mem_cons.1 h with rfl | h
        · omega
        · have := hmin e h; omega
      · have := h x (by simp); omega
    obtain ⟨p1, p2, p3⟩ := pushB_spec (v := row x) hc (fun s hs => hl s hs x (by simp)) hxy
    obtain ⟨g1, g2⟩ := fillB_on hw (y :: r) (pushB out x y (row x)) h2 hall2 p1 (fun s hs u hu => Int.le_trans (p2 s hs) (hmin u hu))
    refine ⟨g1, fun u v => ?_⟩
    show On (fillB row (y :: r) (pushB out x y (row x))) u v ↔ _
    rw [g2, p3]
    constructor
    · rintro ((h | ⟨h3, h4, h5, h6⟩) | ⟨h, hne, ⟨a, ha, h3⟩, ⟨b, hb, h4⟩⟩)
      · exact .inl h
      · exact .inr ⟨by rw [← hconst u h3 h4]; exact h5, h6, ⟨x, by simp, h3⟩, ⟨y, by simp, h4⟩⟩
      · exact .inr ⟨h, hne, ⟨a, by simp [List.mem_cons.1 ha], h3⟩, ⟨b, by simp [List.mem_cons.1 hb], h4⟩⟩
    · rintro (h | ⟨h, hne, ⟨a, ha, h3⟩, ⟨b, hb, h4⟩⟩)
      · exact .inl (.inl h)
      · have hxu : x ≤ u := by
          rcases List.mem_cons.1 ha with rfl | ha
          · exact h3
          · have := h1 a ha; omega
        rcases Int.lt_or_le u y with hz | hz
        · exact .inl (.inr ⟨hxu, hz, by rw [hconst u hxu hz]; exact h, hne⟩)
        · refine .inr ⟨h, hne, ⟨y, by simp, hz⟩, ?_⟩
          rcases List.mem_cons.1 hb with rfl | hb
          · omega
          · exact ⟨b, hb, h4⟩
theorem fillB_spec {row : Int → List Span} {l : List Int} (hw : StepsB row l) (ho : l.Pairwise (· < ·)) : Bands (fillB row l []) ∧ ∀ u v, On (fillB row l []) u v ↔ row u = v ∧ v ≠ [] := by
  obtain ⟨h1, h2⟩ := fillB_on hw l [] ho (fun _ h => .inl h) Bands.nil (by simp)
  refine ⟨h1, fun u v => ?_⟩
  rw [h2]
  exact ⟨fun h => h.elim (fun h => absurd h (on_nil _ _)) (fun h => ⟨h.1, h.2.1⟩), fun h => .inr ⟨h.1, h.2, hw.ends u (by rw [h.1]; exact h.2)⟩⟩
theorem fillB_same {row row' : Int → List Span} {l m : List Int} (hl : StepsB row l) (hm : StepsB row' m) (hol : l.Pairwise (· < ·)) (hom : m.Pairwise (· < ·)) (h : ∀ y, row y = row' y) : fillB row l [] = fillB row' m [] :=
  bands_ext (fillB_spec hl hol).1 (fillB_spec hm hom).1 fun y v => by rw [(fillB_spec hl hol).2, (fillB_spec hm hom).2, h]

/-- The rectangles of bands. -/
def Seg.rects (s : Seg) : List Rect := s.v.map fun t => ⟨t.1, s.lo, t.2, s.hi⟩
def flat (l : List Seg) : List Rect := l.flatMap Seg.rects
theorem flat_snoc (a : List Seg) (s : Seg) : flat (a ++ [s]) = flat a ++ s.rects := by unfold flat; rw [List.flatMap_append]; simp
theorem lift_last (a : List Rect) (s : Seg) (z : Int) : lift (a ++ s.rects) s.v.length z = a ++ (Seg.rects ⟨s.lo, z, s.v⟩) := by
  unfold lift
  have h : (a ++ s.rects).length - s.v.length = a.length := by unfold Seg.rects; rw [List.length_append, List.length_map]; omega
  rw [h, List.take_left, List.drop_left]
  unfold Seg.rects
  rw [List.map_map]
  rfl
/-- What has been drawn so far, and the row below. -/
structure Below (out : List Seg) (last : List Span) (y : Int) : Prop where
  some : last ≠ [] → ∃ a l, out = a ++ [l] ∧ l.hi = y ∧ l.v = last
  none : last = [] → ∀ s ∈ out, s.hi < y
  le : ∀ s ∈ out, s.hi ≤ y
theorem bands_fill {row : Int → List Span} : ∀ (l : List Int) (out : List Seg) (last : List Span), l.Pairwise (· < ·) → (∀ y ∈ l.head?, Below out last y) → bands row l (flat out) last = flat (fillB row l out)
  | [], out, last, _, _ => rfl
  | [x], out, last, _, _ => rfl
  | y :: z :: r, out, last, ho, hb => by
    have hB := hb y (by simp)
    obtain ⟨h1, h2⟩ := List.pairwise_cons.1 ho
    have hyz := h1 z (by simp)
    show bands row (z :: r) (if row y = last then lift (flat out) (row y).length z else flat out ++ (row y).map fun s => ⟨s.1, y, s.2, z⟩) (row y) = flat (fillB row (z :: r) (pushB out y z (row y)))
    have key : (if row y = last then lift (flat out) (row y).length z else flat out ++ (row y).map fun s => (⟨s.1, y, s.2, z⟩ : Rect)) = flat (pushB out y z (row y)) ∧ Below (pushB out y z (row y)) (row y) z := by
      by_cases hv : row y = []
      · have e : pushB out y z (row y) = out := by unfold pushB; rw [if_pos hv]
        rw [e, hv]
        refine ⟨?_, fun h => absurd rfl h, fun _ s hs => by have := hB.le s hs; omega, fun s hs => by have := hB.le s hs; omega⟩
        split
        · rw [List.length_nil, lift_zero]
        · simp
      · by_cases hl : row y = last
        · obtain ⟨a, l, rfl, hlh, hlv⟩ := hB.some (by rw [← hl]; exact hv)
          have e : pushB (a ++ [l]) y z (row y) = a ++ [⟨l.lo, z, row y⟩] := by
            unfold pushB; rw [if_neg hv]; simp [hlh, hlv, hl]
          rw [e, if_pos hl, flat_snoc, flat_snoc, ← hl] at *
          refine ⟨by rw [← hlv]; exact lift_last _ _ _, fun _ => ⟨a, _, rfl, rfl, rfl⟩, fun h => absurd h hv, fun s hs => ?_⟩
          rcases List.mem_append.1 hs with h3 | h3
          · have := hB.le s (by simp [h3]); omega
          · simp at h3; subst h3; exact Int.le_refl _
        · have e : pushB out y z (row y) = out ++ [⟨y, z, row y⟩] := by
            unfold pushB; rw [if_neg hv]
            rcases snoc_cases out with rfl | ⟨a, l, rfl⟩
            · rfl
            · simp only [List.getLast?_append, List.getLast?_singleton, Option.some_or]
              rw [if_neg]
              rintro ⟨e1, e2⟩
              by_cases hle : last = []
              · have := hB.none hle l (by simp); omega
              · obtain ⟨a', l', e3, _, e5⟩ := hB.some hle
                have := List.append_inj_right' e3 rfl
                injection this with this
                subst this
                exact hl (e2.symm.trans e5)
          rw [e, if_neg hl, flat_snoc]
          refine ⟨rfl, fun _ => ⟨out, _, rfl, rfl, rfl⟩, fun h => absurd h hv, fun s hs => ?_⟩
          rcases List.mem_append.1 hs with h3 | h3
          · have := hB.le s h3; omega
          · simp at h3; subst h3; exact Int.le_refl _
    rw [key.1]
    exact bands_fill (z :: r) _ _ h2 (fun u hu => by simp at hu; subst hu; exact key.2)
theorem rows_steps {k : Bool → Bool → Bool} (hk : Comb k) (a b : List Rect) {l : List Int} (h : ∀ r ∈ a ++ b, r.y0 ∈ l ∧ r.y1 ∈ l) : StepsB (rowS k a b) l where
  flat := fun x z hxz he => by
    have hcov : ∀ (c : List Rect), (∀ r ∈ c, r ∈ a ++ b) → ∀ u, cov c u x = cov c u z := fun c hc u => by
      rw [Bool.eq_iff_iff, cov_iff, cov_iff]
      constructor
      · rintro ⟨r, hr, h1, h2, h3⟩
        have := he _ (h r (hc r hr)).1; have := he _ (h r (hc r hr)).2
        exact ⟨r, hr, h1, h2, by omega, by omega⟩
      · rintro ⟨r, hr, h1, h2, h3⟩
        have := he _ (h r (hc r hr)).1; have := he _ (h r (hc r hr)).2
        exact ⟨r, hr, h1, h2, by omega, by omega⟩
    refine canon_ext (rowS_spec hk a b x).1 (rowS_spec hk a b z).1 fun u => ?_
    rw [(rowS_spec hk a b x).2, (rowS_spec hk a b z).2]
    unfold wit
    rw [hcov a (fun r hr => by simp [hr]) u, hcov b (fun r hr => by simp [hr]) u]
  ends := fun z hz => by
    obtain ⟨s, hs⟩ := List.exists_mem_of_ne_nil _ hz
    have hm := ((rowS_spec hk a b z).2 s.1).1 ⟨s, hs, Int.le_refl _, (rowS_spec hk a b z).1.pos s hs⟩
    have : ∃ r ∈ a ++ b, r.y0 ≤ z ∧ z < r.y1 := by
      unfold wit at hm
      cases h1 : cov a s.1 z
      · cases h2 : cov b s.1 z
        · rw [h1, h2, hk.none] at hm; cases hm
        · obtain ⟨r, hr, g⟩ := cov_iff.1 h2
          exact ⟨r, by simp [hr], g.2.2⟩
      · obtain ⟨r, hr, g⟩ := cov_iff.1 h1
        exact ⟨r, by simp [hr], g.2.2⟩
    obtain ⟨r, hr, g1, g2⟩ := this
    exact ⟨⟨r.y0, (h r hr).1, g1⟩, ⟨r.y1, (h r hr).2, g2⟩⟩
/-- The bands of a combination. -/
def combB (k : Bool → Bool → Bool) (a b : List Rect) : List Seg := fillB (rowS k a b) (ysOf (a ++ b)) []
theorem comb_flat (k : Bool → Bool → Bool) (a b : List Rect) : comb k a b = flat (combB k (set a) (set b)) := by
  unfold comb combB
  have := bands_fill (row := rowS k (set a) (set b)) (ysOf (set a ++ set b)) [] [] (ys_sorted _) (fun y _ => ⟨fun h => absurd rfl h, fun _ s hs => (by cases hs), fun s hs => (by cases hs)⟩)
  exact this
theorem combB_spec {k : Bool → Bool → Bool} (hk : Comb k) (a b : List Rect) : Bands (combB k a b) ∧ ∀ u v, On (combB k a b) u v ↔ rowS k a b u = v ∧ v ≠ [] :=
  fillB_spec (rows_steps hk a b (fun r hr => ⟨mem_ys.2 ⟨r, hr, .inl rfl⟩, mem_ys.2 ⟨r, hr, .inr rfl⟩⟩)) (ys_sorted _)
/-- A combination depends on its set alone. -/
theorem comb_ext {k k' : Bool → Bool → Bool} (hk : Comb k) (hk' : Comb k') {a b a' b' : List Rect} (h : ∀ x y, wit k (set a) (set b) y x = wit k' (set a') (set b') y x) : comb k a b = comb k' a' b' := by
  rw [comb_flat, comb_flat]
  congr 1
  refine bands_ext (combB_spec hk _ _).1 (combB_spec hk' _ _).1 fun y v => ?_
  rw [(combB_spec hk _ _).2, (combB_spec hk' _ _).2]
  have : rowS k (set a) (set b) y = rowS k' (set a') (set b') y := canon_ext (rowS_spec hk _ _ y).1 (rowS_spec hk' _ _ y).1 fun x => by
    rw [(rowS_spec hk _ _ y).2, (rowS_spec hk' _ _ y).2, h]
  rw [this]
theorem cov_flat_iff {l : List Seg} {x y : Int} : cov (flat l) x y = true ↔ ∃ v, On l y v ∧ Mem x v := by
  rw [cov_iff]
  constructor
  · rintro ⟨r, hr, h1, h2, h3, h4⟩
    obtain ⟨s, hs, hr⟩ := List.mem_flatMap.1 hr
    obtain ⟨t, ht, rfl⟩ := List.mem_map.1 hr
    exact ⟨s.v, ⟨s, hs, h3, h4, rfl⟩, t, ht, h1, h2⟩
  · rintro ⟨v, ⟨s, hs, h3, h4, rfl⟩, t, ht, h1, h2⟩
    exact ⟨⟨t.1, s.lo, t.2, s.hi⟩, List.mem_flatMap.2 ⟨s, hs, List.mem_map.2 ⟨t, ht, rfl⟩⟩, h1, h2, h3, h4⟩
/-- A combination has the squares that it should have. -/
theorem cov_comb {k : Bool → Bool → Bool} (hk : Comb k) (a b : List Rect) (x y : Int) : cov (comb k a b) x y = wit k (set a) (set b) y x := by
  rw [Bool.eq_iff_iff, comb_flat, cov_flat_iff]
  constructor
  · rintro ⟨v, hon, hm⟩
    obtain ⟨rfl, _⟩ := ((combB_spec hk _ _).2 y v).1 hon
    exact ((rowS_spec hk _ _ y).2 x).1 hm
  · intro h
    have hm := ((rowS_spec hk (set a) (set b) y).2 x).2 h
    exact ⟨_, ((combB_spec hk _ _).2 y _).2 ⟨rfl, fun e => by rw [e] at hm; exact mem_nil _ hm⟩, hm⟩
end Go.Proofs.Ytpakiabnhdoijaa.Rc
