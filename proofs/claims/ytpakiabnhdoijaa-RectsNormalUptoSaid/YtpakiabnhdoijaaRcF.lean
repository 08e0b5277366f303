/- The plain law of the area: it is below 2^62, and so is each sum on the way. No program is in sight. -/
import Derived.Test.YtpakiabnhdoijaaRcE
namespace Go.Proofs.Ytpakiabnhdoijaa.Rc

def widthOf (v : List Span) : Int := (v.map fun s => s.2 - s.1).sum
theorem width_nonneg : ∀ {v : List Span}, (∀ s ∈ v, s.1 < s.2) → 0 ≤ widthOf v
  | [], _ => by simp [widthOf]
  | s :: v, h => by
    have h1 := h s (by simp)
    have h2 := width_nonneg (v := v) (fun t ht => h t (by simp [ht]))
    unfold widthOf at *
    rw [List.map_cons, List.sum_cons]
    omega
theorem width_le : ∀ {v : List Span} {lo hi : Int}, Canon v → (∀ s ∈ v, lo ≤ s.1 ∧ s.2 ≤ hi) → lo ≤ hi → widthOf v ≤ hi - lo
  | [], lo, hi, _, _, h => by simp [widthOf]; omega
  | s :: v, lo, hi, hc, hb, h => by
    have h1 := hb s (by simp)
    have h2 := width_le (v := v) (lo := s.2) (hi := hi) hc.tail (fun t ht => ⟨by have := hc.after t ht; omega, (hb t (by simp [ht])).2⟩) h1.2
    unfold widthOf at *
    rw [List.map_cons, List.sum_cons]
    omega
theorem area_append (a b : List Rect) : areaOf (a ++ b) = areaOf a + areaOf b := by unfold areaOf; rw [List.map_append, List.sum_append]
theorem area_seg (s : Seg) : areaOf s.rects = widthOf s.v * (s.hi - s.lo) := by
  unfold Seg.rects areaOf widthOf
  induction s.v with
  | nil => simp
  | cons t v ih =>
    simp only [List.map_cons, List.sum_cons, ih, Rect.area, Int.add_mul]
theorem area_flat_le : ∀ {l : List Seg} {lo hi : Int} (W : Int), 0 ≤ W → Bands l → (∀ s ∈ l, lo ≤ s.lo ∧ s.hi ≤ hi ∧ 0 ≤ widthOf s.v ∧ widthOf s.v ≤ W) → lo ≤ hi → areaOf (flat l) ≤ W * (hi - lo)
  | [], lo, hi, W, hW, _, _, h => by
    have : 0 ≤ W * (hi - lo) := Int.mul_nonneg hW (by omega)
    simpa [flat, areaOf] using this
  | s :: l, lo, hi, W, hW, hb, hs, h => by
    obtain ⟨h1, h2, h3, h4⟩ := hs s (by simp)
    have hp := hb.pos s (by simp)
    have ih := area_flat_le (l := l) (lo := s.hi) (hi := hi) W hW hb.tail (fun t ht => ⟨(hb.after t ht).1, (hs t (by simp [ht])).2⟩) h2
    have e : flat (s :: l) = s.rects ++ flat l := by unfold flat; rw [List.flatMap_cons]
    rw [e, area_append, area_seg]
    have hlt : s.lo < s.hi := by have := hp; omega
    have m1 : widthOf s.v * (s.hi - s.lo) ≤ W * (s.hi - s.lo) := Int.mul_le_mul_of_nonneg_right h4 (by omega)
    have m2 : W * (s.lo - lo) ≥ 0 := Int.mul_nonneg hW (by omega)
    have m3 : W * (hi - lo) = W * (s.lo - lo) + (W * (s.hi - s.lo) + W * (hi - s.hi)) := by
      rw [← Int.mul_add, ← Int.mul_add]; congr 1; omega
    omega
/-- The area of a combination. -/
theorem area_comb_le {k : Bool → Bool → Bool} (hk : Comb k) (a b : List Rect) : areaOf (comb k a b) ≤ 4611686018427387904 := by
  rw [comb_flat]
  have hw : ∀ s ∈ combB k (set a) (set b), -far ≤ s.lo ∧ s.hi ≤ far ∧ 0 ≤ widthOf s.v ∧ widthOf s.v ≤ 2 * far := fun s hs => by
    obtain ⟨_, hc⟩ := combB_rows hk (set a) (set b) s hs
    have hne : s.v ≠ [] := by
      have := ((combB_spec hk (set a) (set b)).1.pos s hs)
      have hon : On (combB k (set a) (set b)) s.lo s.v := ⟨s, hs, Int.le_refl _, by omega, rfl⟩
      exact (((combB_spec hk (set a) (set b)).2 _ _).1 hon).2
    have hin : ∀ t ∈ s.v, (⟨t.1, s.lo, t.2, s.hi⟩ : Rect).ok := fun t ht => comb_ok hk a b _ (by
      rw [comb_flat]
      unfold flat
      rw [List.mem_flatMap]
      exact ⟨s, hs, by unfold Seg.rects; exact List.mem_map.2 ⟨t, ht, rfl⟩⟩)
    obtain ⟨t, ht⟩ := List.exists_mem_of_ne_nil _ hne
    have ho := hin t ht
    unfold Rect.ok at ho
    refine ⟨ho.2.2.2.1, ho.2.2.2.2.2, width_nonneg hc.pos, ?_⟩
    have := width_le (lo := -far) (hi := far) hc (fun u hu => by have h2 := hin u hu; unfold Rect.ok at h2; exact ⟨h2.2.2.1, h2.2.2.2.2.1⟩) (by unfold far; omega)
    omega
  have h := area_flat_le (2 * far) (by unfold far; omega) (combB_spec hk (set a) (set b)).1 hw (by unfold far; omega : -far ≤ far)
  unfold far at h
  omega
theorem area_nonneg {l : List Rect} (h : ∀ r ∈ l, r.x0 < r.x1 ∧ r.y0 < r.y1) : 0 ≤ areaOf l := by
  induction l with
  | nil => simp [areaOf]
  | cons r l ih =>
    have h1 := h r (by simp)
    have h2 := ih (fun t ht => h t (by simp [ht]))
    have h3 : 0 ≤ r.area := Int.mul_nonneg (by omega) (by omega)
    unfold areaOf at *
    rw [List.map_cons, List.sum_cons]
    omega
theorem area_take_le {l : List Rect} (h : ∀ r ∈ l, r.x0 < r.x1 ∧ r.y0 < r.y1) (k : Nat) : 0 ≤ areaOf (l.take k) ∧ areaOf (l.take k) ≤ areaOf l := by
  have e := area_append (l.take k) (l.drop k)
  rw [List.take_append_drop] at e
  have h1 := area_nonneg (l := l.take k) fun r hr => h r (List.mem_of_mem_take hr)
  have h2 := area_nonneg (l := l.drop k) fun r hr => h r (List.mem_of_mem_drop hr)
  omega

end Go.Proofs.Ytpakiabnhdoijaa.Rc
