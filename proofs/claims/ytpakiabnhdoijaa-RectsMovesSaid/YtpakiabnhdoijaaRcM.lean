/- The plain law of the rectangles: sets that are enlarged and moved. No program is in sight. -/
import Derived.Test.YtpakiabnhdoijaaRcG
namespace Go.Proofs.Ytpakiabnhdoijaa.Rc

/-- A rectangle enlarged t times and moved by x, y. -/
def mv (x y t : Int) (r : Rect) : Rect := ⟨x + t * r.x0, y + t * r.y0, x + t * r.x1, y + t * r.y1⟩
def mvSpan (x t : Int) (s : Span) : Span := (x + t * s.1, x + t * s.2)
def mvSeg (x y t : Int) (s : Seg) : Seg := ⟨y + t * s.lo, y + t * s.hi, s.v.map (mvSpan x t)⟩
theorem mul_lt {t a b : Int} (ht : 0 < t) : t * a < t * b ↔ a < b := ⟨fun h => Int.lt_of_mul_lt_mul_left h (Int.le_of_lt ht), fun h => Int.mul_lt_mul_of_pos_left h ht⟩
theorem mul_le {t a b : Int} (ht : 0 < t) : t * a ≤ t * b ↔ a ≤ b := ⟨fun h => Int.le_of_mul_le_mul_left h ht, fun h => Int.mul_le_mul_of_nonneg_left h (Int.le_of_lt ht)⟩
theorem add_lt {c a b : Int} : c + a < c + b ↔ a < b := by omega
theorem add_le {c a b : Int} : c + a ≤ c + b ↔ a ≤ b := by omega
theorem at_le {c t a u : Int} (ht : 0 < t) : c + t * a ≤ u ↔ a ≤ (u - c) / t := by
  rw [Int.le_ediv_iff_mul_le ht, Int.mul_comm a t]; omega
theorem at_lt {c t a u : Int} (ht : 0 < t) : u < c + t * a ↔ (u - c) / t < a := by
  rw [Int.ediv_lt_iff_lt_mul ht, Int.mul_comm a t]; omega
theorem cov_mv {x y t : Int} (ht : 0 < t) (l : List Rect) (u v : Int) : cov (l.map (mv x y t)) u v = cov l ((u - x) / t) ((v - y) / t) := by
  rw [Bool.eq_iff_iff, cov_iff, cov_iff]
  constructor
  · rintro ⟨r, hr, h⟩
    obtain ⟨s, hs, rfl⟩ := List.mem_map.1 hr
    unfold mv at h
    simp only [at_le ht, at_lt ht] at h
    exact ⟨s, hs, h⟩
  · rintro ⟨s, hs, h⟩
    refine ⟨mv x y t s, List.mem_map.2 ⟨s, hs, rfl⟩, ?_⟩
    unfold mv
    simp only [at_le ht, at_lt ht]
    exact h
theorem touch_mv {x y t : Int} (ht : 0 < t) (a b : Rect) : touch (mv x y t a) (mv x y t b) = touch a b := by
  rw [Bool.eq_iff_iff]
  unfold touch mv
  simp only [decide_eq_true_eq, add_le, mul_le ht]
theorem mvSpan_inj {x t : Int} (ht : 0 < t) {a b : Span} (h : mvSpan x t a = mvSpan x t b) : a = b := by
  unfold mvSpan at h
  injection h with h1 h2
  have e1 : t * a.1 = t * b.1 := by omega
  have e2 : t * a.2 = t * b.2 := by omega
  exact Prod.ext (Int.eq_of_mul_eq_mul_left (by omega) e1) (Int.eq_of_mul_eq_mul_left (by omega) e2)
theorem map_inj {α β : Type} {f : α → β} (hf : ∀ a b, f a = f b → a = b) : ∀ {l m : List α}, l.map f = m.map f → l = m
  | [], [], _ => rfl
  | [], _ :: _, h => by simp at h
  | _ :: _, [], h => by simp at h
  | a :: l, b :: m, h => by
    simp only [List.map_cons, List.cons.injEq] at h
    rw [hf a b h.1, map_inj hf h.2]
theorem canon_mv {x t : Int} (ht : 0 < t) {v : List Span} (h : Canon v) : Canon (v.map (mvSpan x t)) where
  pos s hs := by
    obtain ⟨r, hr, rfl⟩ := List.mem_map.1 hs
    exact add_lt.2 ((mul_lt ht).2 (h.pos r hr))
  ord := by
    rw [List.pairwise_map]
    exact h.ord.imp fun g => add_lt.2 ((mul_lt ht).2 g)
theorem bands_mv {x y t : Int} (ht : 0 < t) {l : List Seg} (h : Bands l) : Bands (l.map (mvSeg x y t)) where
  pos s hs := by
    obtain ⟨r, hr, rfl⟩ := List.mem_map.1 hs
    have := h.pos r hr
    refine ⟨add_lt.2 ((mul_lt ht).2 this.1), fun e => this.2 ?_⟩
    exact List.map_eq_nil_iff.1 e
  ord := by
    rw [List.pairwise_map]
    refine h.ord.imp ?_
    intro a b g
    refine ⟨add_le.2 ((mul_le ht).2 g.1), fun e e2 => ?_⟩
    have e' : y + t * a.hi = y + t * b.lo := e
    have e1 : t * a.hi = t * b.lo := by omega
    exact g.2 (Int.eq_of_mul_eq_mul_left (by omega) e1) (map_inj (fun _ _ => mvSpan_inj ht) e2)
theorem flat_mv (x y t : Int) (l : List Seg) : (flat l).map (mv x y t) = flat (l.map (mvSeg x y t)) := by
  unfold flat
  rw [List.map_flatMap, List.flatMap_map]
  congr 1
  funext s
  unfold Seg.rects mvSeg
  rw [List.map_map, List.map_map]
  rfl
theorem on_uniq : ∀ {l : List Seg}, Bands l → ∀ {y : Int} {v v' : List Span}, On l y v → On l y v' → v = v'
  | [], _, y, v, _, h, _ => absurd h (on_nil y v)
  | s :: l, hb, y, v, v', h, h' => by
    rw [on_cons] at h h'
    rcases h with ⟨h1, h2, h3⟩ | h <;> rcases h' with ⟨g1, g2, g3⟩ | h'
    · rw [← h3, ← g3]
    · obtain ⟨r, hr, q1, q2, q3⟩ := h'
      have := (hb.after r hr).1; omega
    · obtain ⟨r, hr, q1, q2, q3⟩ := h
      have := (hb.after r hr).1; omega
    · exact on_uniq hb.tail h h'
theorem on_mem {l : List Seg} (hb : Bands l) {y : Int} {v : List Span} (h : On l y v) (x : Int) : Mem x v ↔ cov (flat l) x y = true := by
  rw [cov_flat_iff]
  constructor
  · intro g; exact ⟨v, h, g⟩
  · rintro ⟨v', h', g⟩
    rw [on_uniq hb h h']; exact g
theorem on_other {a b : List Seg} (ha : Bands a) (hb : Bands b) (ca : ∀ s ∈ a, Canon s.v) (cb : ∀ s ∈ b, Canon s.v) (h : ∀ x y, cov (flat a) x y = cov (flat b) x y) {y : Int} {v : List Span} (g : On a y v) : On b y v := by
  have g0 := g
  obtain ⟨s, hs, _, _, rfl⟩ := g0
  have hc := ca s hs
  have hne := (ha.pos s hs).2
  obtain ⟨s0, r, e⟩ := List.exists_cons_of_ne_nil hne
  have hm : Mem s0.1 s.v := ⟨s0, by rw [e]; simp, Int.le_refl _, hc.pos s0 (by rw [e]; simp)⟩
  have h1 := (on_mem ha g s0.1).1 hm
  rw [h] at h1
  obtain ⟨v', h2, h3⟩ := cov_flat_iff.1 h1
  have h4 := h2
  obtain ⟨s', hs', _, _, rfl⟩ := h4
  have : s.v = s'.v := canon_ext hc (cb s' hs') fun x => by rw [on_mem ha g x, on_mem hb h2 x, h]
  rw [this]; exact h2
theorem flat_uniq {a b : List Seg} (ha : Bands a) (hb : Bands b) (ca : ∀ s ∈ a, Canon s.v) (cb : ∀ s ∈ b, Canon s.v) (h : ∀ x y, cov (flat a) x y = cov (flat b) x y) : a = b :=
  bands_ext ha hb fun _ _ => ⟨on_other ha hb ca cb h, on_other hb ha cb ca fun x y => (h x y).symm⟩
/-- Moved sets are combined in the same way. -/
theorem comb_mv {k : Bool → Bool → Bool} (hk : Comb k) {x y t : Int} (ht : 0 < t) {a b : List Rect} (ha : Right a) (hb : Right b) (ha' : Right (a.map (mv x y t))) (hb' : Right (b.map (mv x y t))) :
    comb k (a.map (mv x y t)) (b.map (mv x y t)) = (comb k a b).map (mv x y t) := by
  rw [comb_flat, comb_flat, flat_mv]
  congr 1
  refine flat_uniq (combB_spec hk _ _).1 (bands_mv ht (combB_spec hk _ _).1) (fun s hs => (combB_rows hk _ _ s hs).2) (fun s hs => ?_) fun u v => ?_
  · obtain ⟨r, hr, rfl⟩ := List.mem_map.1 hs
    exact canon_mv ht (combB_rows hk _ _ r hr).2
  · rw [← flat_mv, ← comb_flat, ← comb_flat, cov_comb hk, cov_mv ht, cov_comb hk]
    unfold wit
    rw [set_of_right ha, set_of_right hb, set_of_right ha', set_of_right hb', cov_mv ht, cov_mv ht]
theorem norm_mv {x y t : Int} (ht : 0 < t) {a : List Rect} (ha : Right a) (ha' : Right (a.map (mv x y t))) : norm (a.map (mv x y t)) = (norm a).map (mv x y t) :=
  comb_mv join_comb ht (b := []) ha ⟨by simp, by simp⟩ ha' ⟨by simp, by simp⟩
theorem area_mv (x y t : Int) : ∀ l : List Rect, areaOf (l.map (mv x y t)) = t * t * areaOf l
  | [] => by simp [areaOf]
  | r :: l => by
    have ih := area_mv x y t l
    have e : ∀ (s : Rect) (m : List Rect), areaOf (s :: m) = s.area + areaOf m := fun s m => by simp [areaOf]
    have d : ∀ (c a b : Int), c + t * b - (c + t * a) = t * (b - a) := fun c a b => by rw [Int.mul_sub]; omega
    rw [List.map_cons, e, e, ih, Int.mul_add]
    congr 1
    unfold Rect.area mv
    simp only [d]
    rw [Int.mul_assoc, Int.mul_assoc, Int.mul_left_comm (r.x1 - r.x0) t]
theorem adj_mv {x y t : Int} (ht : 0 < t) (l : List Rect) (i j : Nat) : Adj (l.map (mv x y t)) i j ↔ Adj l i j := by
  constructor
  · rintro ⟨a, b, h1, h2, h3⟩
    rw [List.getElem?_map] at h1 h2
    obtain ⟨a', g1, rfl⟩ := Option.map_eq_some_iff.1 h1
    obtain ⟨b', g2, rfl⟩ := Option.map_eq_some_iff.1 h2
    exact ⟨a', b', g1, g2, by rw [← touch_mv ht]; exact h3⟩
  · rintro ⟨a, b, h1, h2, h3⟩
    exact ⟨mv x y t a, mv x y t b, by rw [List.getElem?_map, h1]; rfl, by rw [List.getElem?_map, h2]; rfl, by rw [touch_mv ht]; exact h3⟩
theorem conn_mv {x y t : Int} (ht : 0 < t) (l : List Rect) (i j : Nat) : Conn (l.map (mv x y t)) i j ↔ Conn l i j := by
  constructor
  · intro h
    induction h with
    | refl h => exact .refl _ (by simpa using h)
    | step _ g ih => exact .step ih ((adj_mv ht l _ _).1 g)
  · intro h
    induction h with
    | refl h => exact .refl _ (by simpa using h)
    | step _ g ih => exact .step ih ((adj_mv ht l _ _).2 g)
theorem roots_mv {x y t : Int} (ht : 0 < t) (l : List Rect) : ∀ k, rootsTo (l.map (mv x y t)) k = rootsTo l k
  | 0 => rfl
  | k + 1 => by
    have ih := roots_mv (x := x) (y := y) ht l k
    have e : IsRoot (l.map (mv x y t)) k ↔ IsRoot l k := by
      unfold IsRoot
      constructor
      · intro h j hj c; exact h j hj ((conn_mv ht l k j).2 c)
      · intro h j hj c; exact h j hj ((conn_mv ht l k j).1 c)
    by_cases h : IsRoot l k
    · rw [rootsTo_yes h, rootsTo_yes (e.2 h), ih]
    · rw [rootsTo_no h, rootsTo_no (fun g => h (e.1 g)), ih]
/-- Moved sets have as many pieces. -/
theorem pieces_mv {x y t : Int} (ht : 0 < t) {a : List Rect} (ha : Right a) (ha' : Right (a.map (mv x y t))) : (pieces (a.map (mv x y t))).length = (pieces a).length := by
  unfold pieces piecesTo
  rw [List.length_map, List.length_map, norm_mv ht ha ha', roots_mv ht, List.length_map]
theorem right_small {l : List Rect} (h : Small l) (hp : ∀ r ∈ l, r.x0 < r.x1 ∧ r.y0 < r.y1) (hl : l.length ≤ 4096) {x y t : Int} (hx : -100000000 < x ∧ x < 100000000) (hy : -100000000 < y ∧ y < 100000000) (ht : 0 < t ∧ t ≤ 20) : Right (l.map (mv x y t)) := by
  refine ⟨by rw [List.length_map]; exact hl, fun r hr => ?_⟩
  obtain ⟨s, hs, rfl⟩ := List.mem_map.1 hr
  have h1 := h s hs
  have h2 := hp s hs
  have m : ∀ c : Int, 0 ≤ c → c ≤ 13 → 0 ≤ t * c ∧ t * c ≤ 260 := fun c h0 h13 => by
    have g1 : 0 ≤ t * c := Int.mul_nonneg (by omega) h0
    have g2 : t * c ≤ 20 * 13 := Int.mul_le_mul ht.2 h13 h0 (by omega)
    omega
  have m0 := m s.x0 (by omega) (by omega)
  have m1 := m s.x1 (by omega) (by omega)
  have m2 := m s.y0 (by omega) (by omega)
  have m3 := m s.y1 (by omega) (by omega)
  have l1 := (mul_lt ht.1).2 h2.1
  have l2 := (mul_lt ht.1).2 h2.2
  unfold Rect.ok mv far
  dsimp only
  omega
end Go.Proofs.Ytpakiabnhdoijaa.Rc
