/- The plain law of the rectangles: rows of ranges, each with one shape; what a merge of sorted ranges covers. No program is in sight. -/
namespace Go.Proofs.Ytpakiabnhdoijaa.Rc

/-- A range of x. -/
abbrev Span := Int × Int
def Mem (x : Int) (l : List Span) : Prop := ∃ s ∈ l, s.1 ≤ x ∧ x < s.2
/-- Ranges that are not empty, in order, none touching the next. -/
structure Canon (l : List Span) : Prop where
  pos : ∀ s ∈ l, s.1 < s.2
  ord : l.Pairwise (fun s t => s.2 < t.1)
theorem mem_nil (x : Int) : ¬ Mem x [] := fun ⟨_, h, _⟩ => by cases h
theorem mem_cons (x : Int) (s : Span) (l : List Span) : Mem x (s :: l) ↔ (s.1 ≤ x ∧ x < s.2) ∨ Mem x l := by
  constructor
  · rintro ⟨t, ht, h⟩
    rcases List.mem_cons.1 ht with rfl | ht
    · exact .inl h
    · exact .inr ⟨t, ht, h⟩
  · rintro (h | ⟨t, ht, h⟩)
    · exact ⟨s, by simp, h⟩
    · exact ⟨t, by simp [ht], h⟩
theorem mem_append (x : Int) (a b : List Span) : Mem x (a ++ b) ↔ Mem x a ∨ Mem x b := by
  constructor
  · rintro ⟨t, ht, h⟩
    rcases List.mem_append.1 ht with ht | ht
    · exact .inl ⟨t, ht, h⟩
    · exact .inr ⟨t, ht, h⟩
  · rintro (⟨t, ht, h⟩ | ⟨t, ht, h⟩)
    · exact ⟨t, by simp [ht], h⟩
    · exact ⟨t, by simp [ht], h⟩
theorem Canon.nil : Canon [] := ⟨by simp, List.Pairwise.nil⟩
theorem Canon.tail {s : Span} {l : List Span} (h : Canon (s :: l)) : Canon l := ⟨fun t ht => h.pos t (by simp [ht]), (List.pairwise_cons.1 h.ord).2⟩
theorem Canon.after {s : Span} {l : List Span} (h : Canon (s :: l)) : ∀ t ∈ l, s.2 < t.1 := (List.pairwise_cons.1 h.ord).1
/-- A set of numbers has one row of ranges. -/
theorem canon_ext : ∀ {a b : List Span}, Canon a → Canon b → (∀ x, Mem x a ↔ Mem x b) → a = b
  | [], [], _, _, _ => rfl
  | [], t :: b, _, hb, h => by
    have := (h t.1).2 ((mem_cons _ _ _).2 (.inl ⟨Int.le_refl _, hb.pos t (by simp)⟩))
    exact absurd this (mem_nil _)
  | s :: a, [], ha, _, h => by
    have := (h s.1).1 ((mem_cons _ _ _).2 (.inl ⟨Int.le_refl _, ha.pos s (by simp)⟩))
    exact absurd this (mem_nil _)
  | s :: a, t :: b, ha, hb, h => by
    have hs := ha.pos s (by simp)
    have ht := hb.pos t (by simp)
    have low : ∀ {s t : Span} {a b : List Span}, Canon (s :: a) → Canon (t :: b) → (∀ x, Mem x (s :: a) → Mem x (t :: b)) → t.1 ≤ s.1 := fun {s t a b} ha hb h => by
      rcases (mem_cons _ _ _).1 (h s.1 ((mem_cons _ _ _).2 (.inl ⟨Int.le_refl _, ha.pos s (by simp)⟩))) with h1 | ⟨u, hu, h1⟩
      · exact h1.1
      · have := hb.after u hu; have := hb.pos t (by simp); omega
    have e1 : s.1 = t.1 := Int.le_antisymm (low hb ha (fun x => (h x).2)) (low ha hb (fun x => (h x).1))
    have high : ∀ {s t : Span} {a b : List Span}, Canon (s :: a) → Canon (t :: b) → s.1 = t.1 → (∀ x, Mem x (t :: b) → Mem x (s :: a)) → t.2 ≤ s.2 := fun {s t a b} ha hb e h => by
      rcases Int.lt_or_le s.2 t.2 with hlt | hle
      · have hs := ha.pos s (by simp)
        rcases (mem_cons _ _ _).1 (h s.2 ((mem_cons _ _ _).2 (.inl ⟨by omega, hlt⟩))) with h1 | ⟨u, hu, h1⟩
        · omega
        · have := ha.after u hu; omega
      · exact hle
    have e2 : s.2 = t.2 := Int.le_antisymm (high hb ha e1.symm (fun x => (h x).1)) (high ha hb e1 (fun x => (h x).2))
    have est : s = t := Prod.ext e1 e2
    subst est
    congr 1
    refine canon_ext ha.tail hb.tail fun x => ?_
    have key : ∀ {a b : List Span}, Canon (s :: a) → Canon (s :: b) → (Mem x (s :: a) → Mem x (s :: b)) → Mem x a → Mem x b := fun {a b} ha hb h hm => by
      rcases (mem_cons _ _ _).1 (h ((mem_cons _ _ _).2 (.inr hm))) with h1 | h1
      · obtain ⟨u, hu, h2⟩ := hm
        have := ha.after u hu; omega
      · exact h1
    exact ⟨key ha hb (h x).1, key hb ha (h x).2⟩

/-- A range behind the others: it is put together with the last one, if they touch. -/
def push (out : List Span) (x y : Int) : List Span := match out.getLast? with
  | some l => if l.2 = x then out.dropLast ++ [(l.1, y)] else out ++ [(x, y)]
  | none => [(x, y)]
theorem canon_snoc {a : List Span} {s : Span} (h : Canon a) (hs : s.1 < s.2) (hl : ∀ t ∈ a, t.2 < s.1) : Canon (a ++ [s]) :=
  ⟨fun t ht => by rcases List.mem_append.1 ht with h1 | h1; exact h.pos t h1; simp at h1; subst h1; exact hs,
   List.pairwise_append.2 ⟨h.ord, List.pairwise_singleton _ _, fun t ht u hu => by simp at hu; subst hu; exact hl t ht⟩⟩
theorem canon_front {a : List Span} {s : Span} (h : Canon (a ++ [s])) : Canon a ∧ s.1 < s.2 ∧ ∀ t ∈ a, t.2 < s.1 := by
  have := List.pairwise_append.1 h.ord
  exact ⟨⟨fun t ht => h.pos t (by simp [ht]), this.1⟩, h.pos s (by simp), fun t ht => this.2.2 t ht s (by simp)⟩
theorem snoc_cases {α : Type} (l : List α) : l = [] ∨ ∃ a x, l = a ++ [x] := by
  rcases List.eq_nil_or_concat l with h | ⟨a, x, h⟩
  · exact .inl h
  · exact .inr ⟨a, x, by simpa using h⟩
theorem push_spec {out : List Span} {x y : Int} (h : Canon out) (hl : ∀ s ∈ out, s.2 ≤ x) (hxy : x < y) : Canon (push out x y) ∧ (∀ s ∈ push out x y, s.2 ≤ y) ∧ ∀ z, Mem z (push out x y) ↔ Mem z out ∨ (x ≤ z ∧ z < y) := by
  rcases snoc_cases out with rfl | ⟨a, s, rfl⟩
  · refine ⟨canon_snoc Canon.nil hxy (by simp), by simp [push], fun z => ?_⟩
    show Mem z [(x, y)] ↔ _
    rw [mem_cons]; constructor
    · rintro (h | h)
      · exact .inr h
      · exact absurd h (mem_nil _)
    · rintro (h | h)
      · exact absurd h (mem_nil _)
      · exact .inl h
  · obtain ⟨ha, hs, hlt⟩ := canon_front h
    have hsx := hl s (by simp)
    have e : push (a ++ [s]) x y = if s.2 = x then a ++ [(s.1, y)] else a ++ [s] ++ [(x, y)] := by
      unfold push; simp
    rw [e]
    split
    · rename_i e2
      refine ⟨canon_snoc ha (by show s.1 < y; omega) hlt, fun t ht => ?_, fun z => ?_⟩
      · rcases List.mem_append.1 ht with h1 | h1
        · have := hl t (by simp [h1]); omega
        · simp at h1; subst h1; exact Int.le_refl _
      · simp only [mem_append, mem_cons]
        constructor
        · rintro (h | h | h)
          · exact .inl (.inl h)
          · rcases Int.lt_or_le z x with h1 | h1
            · exact .inl (.inr (.inl ⟨h.1, by omega⟩))
            · exact .inr ⟨h1, h.2⟩
          · exact absurd h (mem_nil _)
        · rintro ((h | h | h) | h)
          · exact .inl h
          · exact .inr (.inl ⟨h.1, by show z < y; omega⟩)
          · exact absurd h (mem_nil _)
          · exact .inr (.inl ⟨by show s.1 ≤ z; omega, h.2⟩)
    · rename_i hne
      have hsx2 : s.2 < x := by omega
      refine ⟨canon_snoc h hxy (fun t ht => ?_), fun t ht => ?_, fun z => ?_⟩
      · rcases List.mem_append.1 ht with h1 | h1
        · have := hlt t h1; show t.2 < x; omega
        · simp at h1; subst h1; exact hsx2
      · rcases List.mem_append.1 ht with h1 | h1
        · have := hl t h1; omega
        · simp at h1; subst h1; exact Int.le_refl _
      · rw [mem_append, mem_cons]
        constructor
        · rintro (h | h | h)
          · exact .inl h
          · exact .inr h
          · exact absurd h (mem_nil _)
        · rintro (h | h)
          · exact .inl h
          · exact .inr (.inl h)

/-- A range behind the others, which may begin within the last one. -/
def merge (out : List Span) (s : Span) : List Span := match out.getLast? with
  | some l => if s.1 ≤ l.2 then out.dropLast ++ [(l.1, max l.2 s.2)] else out ++ [s]
  | none => [s]
theorem merge_spec {out : List Span} {s : Span} (h : Canon out) (hl : ∀ t ∈ out, t.1 ≤ s.1) (hs : s.1 < s.2) : Canon (merge out s) ∧ (∀ t ∈ merge out s, t.1 ≤ s.1) ∧ ∀ z, Mem z (merge out s) ↔ Mem z out ∨ (s.1 ≤ z ∧ z < s.2) := by
  rcases snoc_cases out with rfl | ⟨a, l, rfl⟩
  · refine ⟨canon_snoc Canon.nil hs (by simp), by simp [merge], fun z => ?_⟩
    show Mem z [s] ↔ _
    rw [mem_cons]; constructor
    · rintro (h | h)
      · exact .inr h
      · exact absurd h (mem_nil _)
    · rintro (h | h)
      · exact absurd h (mem_nil _)
      · exact .inl h
  · obtain ⟨ha, hll, hlt⟩ := canon_front h
    have hls := hl l (by simp)
    have e : merge (a ++ [l]) s = if s.1 ≤ l.2 then a ++ [(l.1, max l.2 s.2)] else a ++ [l] ++ [s] := by
      unfold merge; simp
    rw [e]
    split
    · rename_i e2
      refine ⟨canon_snoc ha (by show l.1 < max l.2 s.2; omega) hlt, fun t ht => ?_, fun z => ?_⟩
      · rcases List.mem_append.1 ht with h1 | h1
        · exact hl t (by simp [h1])
        · simp at h1; subst h1; exact hls
      · simp only [mem_append, mem_cons]
        constructor
        · rintro (h | h | h)
          · exact .inl (.inl h)
          · have h2 : z < max l.2 s.2 := h.2
            rcases Int.lt_or_le z l.2 with h1 | h1
            · exact .inl (.inr (.inl ⟨h.1, h1⟩))
            · exact .inr ⟨by omega, by omega⟩
          · exact absurd h (mem_nil _)
        · rintro ((h | h | h) | h)
          · exact .inl h
          · exact .inr (.inl ⟨h.1, by show z < max l.2 s.2; omega⟩)
          · exact absurd h (mem_nil _)
          · exact .inr (.inl ⟨by show l.1 ≤ z; omega, by show z < max l.2 s.2; omega⟩)
    · rename_i hne
      refine ⟨canon_snoc h hs (fun t ht => ?_), fun t ht => ?_, fun z => ?_⟩
      · rcases List.mem_append.1 ht with h1 | h1
        · have := hlt t h1; omega
        · simp at h1; subst h1; omega
      · rcases List.mem_append.1 ht with h1 | h1
        · exact hl t h1
        · simp at h1; subst h1; exact Int.le_refl _
      · rw [mem_append, mem_cons]
        constructor
        · rintro (h | h | h)
          · exact .inl h
          · exact .inr h
          · exact absurd h (mem_nil _)
        · rintro (h | h)
          · exact .inl h
          · exact .inr (.inl h)
/-- What a row of sorted ranges becomes. -/
theorem merge_all : ∀ (l : List Span) (out : List Span), Canon out → (∀ s ∈ l, s.1 < s.2) → l.Pairwise (fun s t => s.1 ≤ t.1) → (∀ t ∈ out, ∀ s ∈ l, t.1 ≤ s.1) → Canon (l.foldl merge out) ∧ ∀ z, Mem z (l.foldl merge out) ↔ Mem z out ∨ Mem z l
  | [], out, h, _, _, _ => ⟨h, fun z => ⟨.inl, fun h => h.elim id (fun h => absurd h (mem_nil _))⟩⟩
  | s :: l, out, h, hp, ho, hl => by
    obtain ⟨h1, h2, h3⟩ := merge_spec h (fun t ht => hl t ht s (by simp)) (hp s (by simp))
    obtain ⟨h4, h5⟩ := List.pairwise_cons.1 ho
    obtain ⟨h6, h7⟩ := merge_all l (merge out s) h1 (fun t ht => hp t (by simp [ht])) h5 (fun t ht u hu => Int.le_trans (h2 t ht) (h4 u hu))
    refine ⟨h6, fun z => ?_⟩
    show Mem z (l.foldl merge (merge out s)) ↔ _
    rw [h7, h3, mem_cons, or_assoc]

/-- The ranges between neighbouring numbers at which w holds. -/
def fill (w : Int → Bool) : List Int → List Span → List Span
  | x :: y :: r, out => fill w (y :: r) (if x ≠ y ∧ w x = true then push out x y else out)
  | _, out => out
/-- w does not change but at the numbers of a list, and holds between them alone. -/
structure Steps (w : Int → Bool) (l : List Int) : Prop where
  flat : ∀ x z, x ≤ z → (∀ e ∈ l, ¬ (x < e ∧ e ≤ z)) → w x = w z
  ends : ∀ z, w z = true → (∃ e ∈ l, e ≤ z) ∧ ∃ e ∈ l, z < e
theorem fill_on {w : Int → Bool} {all : List Int} (hw : Steps w all) : ∀ (l : List Int) (out : List Span), l.Pairwise (· ≤ ·) → (∀ x ∈ l, x ∈ all) → (∀ e ∈ all, e ∈ l ∨ ∀ x ∈ l, e ≤ x) → Canon out → (∀ s ∈ out, ∀ x ∈ l, s.2 ≤ x) →
    Canon (fill w l out) ∧ ∀ z, Mem z (fill w l out) ↔ Mem z out ∨ (w z = true ∧ (∃ x ∈ l, x ≤ z) ∧ ∃ x ∈ l, z < x)
  | [], out, _, _, _, hc, _ => ⟨hc, fun z => by simp [fill]⟩
  | [x], out, _, _, _, hc, _ => ⟨hc, fun z => by simp [fill]; intro _ h1 h2; omega⟩
  | x :: y :: r, out, ho, ha, hall, hc, hl => by
    obtain ⟨h1, h2⟩ := List.pairwise_cons.1 ho
    have hxy := h1 y (by simp)
    have hmin : ∀ u ∈ y :: r, y ≤ u := fun u hu => by
      rcases List.mem_cons.1 hu with rfl | hu
      · exact Int.le_refl _
      · exact (List.pairwise_cons.1 h2).1 u hu
    have hall2 : ∀ e ∈ all, e ∈ (y :: r) ∨ ∀ u ∈ (y :: r), e ≤ u := fun e he => by
      rcases hall e he with h | h
      · rcases List.mem_cons.1 h with rfl | h
        · exact .inr fun u hu => h1 u hu
        · exact .inl h
      · exact .inr fun u hu => h u (by simp [List.mem_cons.1 hu])
    have hconst : ∀ z, x ≤ z → z < y → w x = w z := fun z hz hzy => hw.flat x z hz fun e he ⟨e1, e2⟩ => by
      rcases hall e he with h | h
      · rcases List.mem_cons.1 h with rfl | h
        · omega
        · have := hmin e h; omega
      · have := h x (by simp); omega
    have go : ∀ out', Canon out' → (∀ s ∈ out', ∀ u ∈ (y :: r), s.2 ≤ u) → (∀ z, Mem z out' ↔ Mem z out ∨ (w z = true ∧ x ≤ z ∧ z < y)) →
        Canon (fill w (y :: r) out') ∧ ∀ z, Mem z (fill w (y :: r) out') ↔ Mem z out ∨ (w z = true ∧ (∃ u ∈ x :: y :: r, u ≤ z) ∧ ∃ u ∈ x :: y :: r, z < u) := fun out' hc' hl' hm' => by
      obtain ⟨g1, g2⟩ := fill_on hw (y :: r) out' h2 (fun u hu => ha u (by simp [List.mem_cons.1 hu])) hall2 hc' hl'
      refine ⟨g1, fun z => ?_⟩
      rw [g2, hm']
      constructor
      · rintro ((h | ⟨h, h3, h4⟩) | ⟨h, ⟨u, hu, h3⟩, ⟨v, hv, h4⟩⟩)
        · exact .inl h
        · exact .inr ⟨h, ⟨x, by simp, h3⟩, ⟨y, by simp, h4⟩⟩
        · exact .inr ⟨h, ⟨u, by simp [List.mem_cons.1 hu], h3⟩, ⟨v, by simp [List.mem_cons.1 hv], h4⟩⟩
      · rintro (h | ⟨h, ⟨u, hu, h3⟩, ⟨v, hv, h4⟩⟩)
        · exact .inl (.inl h)
        · have hxz : x ≤ z := by
            rcases List.mem_cons.1 hu with rfl | hu
            · exact h3
            · have := h1 u hu; omega
          rcases Int.lt_or_le z y with hz | hz
          · exact .inl (.inr ⟨h, hxz, hz⟩)
          · refine .inr ⟨h, ⟨y, by simp, hz⟩, ?_⟩
            rcases List.mem_cons.1 hv with rfl | hv
            · omega
            · exact ⟨v, hv, h4⟩
    show Canon (fill w (y :: r) (if x ≠ y ∧ w x = true then push out x y else out)) ∧ ∀ z, Mem z (fill w (y :: r) (if x ≠ y ∧ w x = true then push out x y else out)) ↔ _
    split
    · rename_i hx
      have hlt : x < y := by omega
      obtain ⟨p1, p2, p3⟩ := push_spec hc (fun s hs => hl s hs x (by simp)) hlt
      refine go _ p1 (fun s hs u hu => Int.le_trans (p2 s hs) (hmin u hu)) fun z => ?_
      rw [p3]
      constructor
      · rintro (h | h)
        · exact .inl h
        · exact .inr ⟨by rw [← hconst z h.1 h.2]; exact hx.2, h⟩
      · rintro (h | h)
        · exact .inl h
        · exact .inr h.2
    · rename_i hx
      refine go _ hc (fun s hs u hu => hl s hs u (by simp [List.mem_cons.1 hu])) fun z => ?_
      constructor
      · exact .inl
      · rintro (h | ⟨h, h3, h4⟩)
        · exact h
        · exfalso
          apply hx
          exact ⟨by omega, by rw [hconst z h3 h4]; exact h⟩
theorem fill_spec {w : Int → Bool} {l : List Int} (hw : Steps w l) (ho : l.Pairwise (· ≤ ·)) : Canon (fill w l []) ∧ ∀ z, Mem z (fill w l []) ↔ w z = true := by
  obtain ⟨h1, h2⟩ := fill_on hw l [] ho (fun _ h => h) (fun _ h => .inl h) Canon.nil (by simp)
  refine ⟨h1, fun z => ?_⟩
  rw [h2]
  exact ⟨fun h => h.elim (fun h => absurd h (mem_nil _)) (·.1), fun h => .inr ⟨h, hw.ends z h⟩⟩
/-- Whatever the list: where w has its steps in it, the row is one and the same. -/
theorem fill_same {w : Int → Bool} {l m : List Int} (hl : Steps w l) (hm : Steps w m) (hol : l.Pairwise (· ≤ ·)) (hom : m.Pairwise (· ≤ ·)) : fill w l [] = fill w m [] :=
  canon_ext (fill_spec hl hol).1 (fill_spec hm hom).1 fun z => by rw [(fill_spec hl hol).2, (fill_spec hm hom).2]
end Go.Proofs.Ytpakiabnhdoijaa.Rc
