/- Radii of paths in order, the lengths of what a file holds. No program here; no condition. -/
import Derived.Test.YtggplbenliaodaaDoorPlA
import Derived.Test.YtggplbenliaodaaDoorDq
namespace Pl

theorem mem_ins {r x : Int} : ∀ {l : List Int}, x ∈ ins r l ↔ x = r ∨ x ∈ l
  | [] => by simp [ins]
  | y :: l => by
    have ih := mem_ins (r := r) (x := x) (l := l)
    unfold ins
    split
    · simp only [List.mem_cons, ih]; constructor
      · rintro (h | h | h); exact .inr (.inl h); exact .inl h; exact .inr (.inr h)
      · rintro (h | h | h); exact .inr (.inl h); exact .inl h; exact .inr (.inr h)
    · split
      · rename_i h; subst h; simp
      · simp
theorem ins_sorted (r : Int) : ∀ {l : List Int}, l.Pairwise (· < ·) → (ins r l).Pairwise (· < ·)
  | [], _ => by simp [ins]
  | y :: l, h => by
    obtain ⟨h1, h2⟩ := List.pairwise_cons.1 h
    unfold ins
    split
    · rename_i hy
      refine List.pairwise_cons.2 ⟨fun x hx => ?_, ins_sorted r h2⟩
      rcases mem_ins.1 hx with rfl | hx
      · exact hy
      · exact h1 x hx
    · split
      · exact h
      · rename_i hy hn
        refine List.pairwise_cons.2 ⟨fun x hx => ?_, h⟩
        rcases List.mem_cons.1 hx with rfl | hx
        · omega
        · have := h1 x hx; omega
theorem ins_length (r : Int) : ∀ {l : List Int}, l.Pairwise (· < ·) → (ins r l).length = if r ∈ l then l.length else l.length + 1
  | [], _ => by simp [ins]
  | y :: l, h => by
    obtain ⟨h1, h2⟩ := List.pairwise_cons.1 h
    have ih := ins_length r h2
    unfold ins
    split
    · rename_i hy
      have : r ≠ y := by omega
      rw [List.length_cons, ih]
      by_cases hm : r ∈ l
      · rw [if_pos hm, if_pos (List.mem_cons_of_mem _ hm)]; rfl
      · rw [if_neg hm, if_neg (by simp [hm, this])]; rfl
    · split
      · rename_i hy; subst hy; rw [if_pos List.mem_cons_self]
      · rename_i hy hn
        rw [if_neg]
        · rfl
        · intro hm
          rcases List.mem_cons.1 hm with hm | hm
          · exact hn hm.symm
          · have := h1 r hm; omega
theorem addR_sorted {l : List Int} (d : Dr) (h : l.Pairwise (· < ·)) : (addR l d).Pairwise (· < ·) := by unfold addR; split; exact ins_sorted _ h; exact h
theorem foldl_sorted (ds : List Dr) : ∀ {l : List Int}, l.Pairwise (· < ·) → (ds.foldl addR l).Pairwise (· < ·) := by
  induction ds with
  | nil => exact fun h => h
  | cons d ds ih => exact fun h => ih (addR_sorted d h)
theorem radii_sorted (ds : List Dr) : (radii ds).Pairwise (· < ·) := foldl_sorted ds List.Pairwise.nil
theorem radii_nodup (ds : List Dr) : (radii ds).Nodup := (radii_sorted ds).imp (fun h => by omega)
theorem mem_foldl (ds : List Dr) : ∀ (l : List Int) (x : Int), x ∈ ds.foldl addR l ↔ x ∈ l ∨ ∃ d ∈ ds, d.s.k = 1 ∧ d.s.r = x := by
  induction ds with
  | nil => intro l x; simp
  | cons d ds ih =>
    intro l x
    rw [List.foldl_cons, ih]
    unfold addR
    by_cases hk : d.s.k = 1
    · rw [if_pos hk, mem_ins]
      constructor
      · rintro ((h | h) | ⟨e, he, h⟩)
        · exact .inr ⟨d, List.mem_cons_self, hk, h.symm⟩
        · exact .inl h
        · exact .inr ⟨e, List.mem_cons_of_mem _ he, h⟩
      · rintro (h | ⟨e, he, h⟩)
        · exact .inl (.inr h)
        · rcases List.mem_cons.1 he with rfl | he
          · exact .inl (.inl h.2.symm)
          · exact .inr ⟨e, he, h⟩
    · rw [if_neg hk]
      constructor
      · rintro (h | ⟨e, he, h⟩)
        · exact .inl h
        · exact .inr ⟨e, List.mem_cons_of_mem _ he, h⟩
      · rintro (h | ⟨e, he, h⟩)
        · exact .inl h
        · rcases List.mem_cons.1 he with rfl | he
          · exact absurd h.1 hk
          · exact .inr ⟨e, he, h⟩
theorem mem_radii (ds : List Dr) (x : Int) : x ∈ radii ds ↔ ∃ d ∈ ds, d.s.k = 1 ∧ d.s.r = x := by
  unfold radii; rw [mem_foldl]; simp
theorem radii_step (ds : List Dr) (k : Nat) (h : k < ds.length) : radii (ds.take (k + 1)) = addR (radii (ds.take k)) ds[k] := by
  unfold radii; rw [List.take_succ_eq_append_getElem h, List.foldl_append]; rfl
theorem foldl_len (ds : List Dr) : ∀ (l : List Int), l.length ≤ (ds.foldl addR l).length ∧ (l.Pairwise (· < ·) → (ds.foldl addR l).length ≤ l.length + ds.length) := by
  induction ds with
  | nil => intro l; simp
  | cons d ds ih =>
    intro l
    have h0 : l.length ≤ (addR l d).length := by
      unfold addR; split
      · generalize d.s.r = r
        induction l with
        | nil => simp [ins]
        | cons y l ihl => unfold ins; split; simpa using ihl; split; simp; simp
      · exact Nat.le_refl _
    refine ⟨Nat.le_trans h0 (ih _).1, fun hs => ?_⟩
    have h1 := (ih (addR l d)).2 (addR_sorted d hs)
    have h2 : (addR l d).length ≤ l.length + 1 := by
      unfold addR; split
      · rw [ins_length _ hs]; split <;> omega
      · omega
    rw [List.foldl_cons, List.length_cons]; omega
theorem radii_length (ds : List Dr) : (radii ds).length ≤ ds.length := by
  have := (foldl_len ds []).2 List.Pairwise.nil
  unfold radii; simpa using this
theorem idxOf_get {l : List Int} (h : l.Nodup) {i : Nat} (hi : i < l.length) : l.idxOf l[i] = i := by
  rw [List.Nodup.idxOf_getElem h]

/-! ### Lengths -/

theorem step_t (rs : List Int) (st : St) (d : Dr) : st.t.length ≤ (step rs st d).t.length := by
  unfold step; dsimp only; rw [List.length_append, List.length_append, List.length_append]; omega
theorem foldl_t (rs : List Int) (ds : List Dr) : ∀ st : St, st.t.length ≤ (ds.foldl (step rs) st).t.length := by
  induction ds with
  | nil => exact fun _ => Nat.le_refl _
  | cons d ds ih => exact fun st => Nat.le_trans (step_t rs st d) (ih _)
theorem runTo_le (rs : List Int) (ds : List Dr) (k : Nat) : (runTo rs ds k).t.length ≤ (runTo rs ds ds.length).t.length := by
  have e : runTo rs ds ds.length = (ds.drop k).foldl (step rs) (runTo rs ds k) := by
    unfold runTo
    rw [List.take_length, ← List.foldl_append, List.take_append_drop]
  rw [e]; exact foldl_t rs _ _
theorem file_le (ds : List Dr) (k : Nat) : (runTo (radii ds) ds k).t.length ≤ (fileT ds).length := by
  unfold fileT; rw [List.length_append]; have := runTo_le (radii ds) ds k; omega

end Pl
namespace Go.Proofs.YtggplbenliaodaaDoor
open Pl
theorem apT_length (k : Nat) (r : Int) (hk : k ≤ 1000000) (h0 : 0 ≤ r) (h1 : r ≤ 4194304) : (apT k r).length ≤ 49 := by
  have := itoa_length (10 + k : Nat) (by unfold Mid; omega)
  have := itoa_length (2 * r) (by unfold Mid; omega)
  unfold apT
  simp only [List.length_append, List.length_cons, List.length_nil]; omega
theorem apsTo_length (rs : List Int) (hl : rs.length ≤ 1000000) (h : ∀ r ∈ rs, 0 ≤ r ∧ r ≤ 4194304) : ∀ k, k ≤ rs.length → (apsTo rs k).length ≤ 35 + 49 * k
  | 0, _ => by show head.length ≤ _; decide
  | k + 1, hk => by
    have ih := apsTo_length rs hl h k (by omega)
    unfold apsTo
    rw [List.getElem?_eq_getElem (show k < rs.length by omega)]
    dsimp only
    have hr := h rs[k] (List.getElem_mem _)
    have := apT_length k rs[k] (by omega) hr.1 hr.2
    rw [List.length_append]; omega
theorem start_length (rs : List Int) (hl : rs.length ≤ 990) (h : ∀ r ∈ rs, 0 ≤ r ∧ r ≤ 4194304) : (Pl.start rs).length ≤ 48552 := by
  have := apsTo_length rs (by omega) h rs.length (Nat.le_refl _)
  unfold Pl.start polOf
  rw [List.length_append]
  simp only [Bool.false_eq_true, if_false, List.length_cons, List.length_nil]
  omega
theorem radii_range {ds : List Dr} (h : firstBad ds = 0) : ∀ r ∈ radii ds, 0 ≤ r ∧ r ≤ 4194304 := fun r hr => by
  obtain ⟨d, hd, _, rfl⟩ := (mem_radii ds r).1 hr
  have := chk_zero (firstBad_zero.1 h d hd)
  exact ⟨this.2.2.2.2.2.2.2.2.1, this.2.2.2.2.2.2.2.2.2⟩
theorem selT_length (rs : List Int) (ap : Nat) (s : Sh) (h : num rs s.r ≤ 1000000) : (selT rs ap s).length ≤ 23 := by
  have := itoa_length (num rs s.r : Nat) (by unfold Mid; omega)
  unfold selT
  split
  · simp
  · simp only [List.length_append, List.length_cons, List.length_nil]; omega
theorem num_le (rs : List Int) (r : Int) : num rs r ≤ 10 + rs.length := by unfold num; have : rs.idxOf r ≤ rs.length := List.idxOf_le_length; omega
theorem polT_length (c d : Bool) : (polT c d).length ≤ 7 := by unfold polT polOf; split; simp; split <;> simp
end Go.Proofs.YtggplbenliaodaaDoor
