/- Bounds of the counts of a file's lines. No program here; no condition. -/
import Derived.Test.YtggplbenliaodaaGreatDoorPlH
namespace Pl

theorem cnt_bound (ds : List Dr) : ∀ (c : Ct) (_ : ∀ d ∈ ds, d.s.es.length ≤ 8), (c.fl ≤ (ds.foldl cnt c).fl ∧ (ds.foldl cnt c).fl ≤ c.fl + ds.length) ∧ (c.mv ≤ (ds.foldl cnt c).mv ∧ (ds.foldl cnt c).mv ≤ c.mv + ds.length) ∧
    (c.dr ≤ (ds.foldl cnt c).dr ∧ (ds.foldl cnt c).dr ≤ c.dr + 8 * ds.length) ∧ (c.rg ≤ (ds.foldl cnt c).rg ∧ (ds.foldl cnt c).rg ≤ c.rg + ds.length) ∧ (ds.foldl cnt c).de = c.de := by
  induction ds with
  | nil => intro c _; simp
  | cons d ds ih =>
    intro c h
    have h1 := ih (cnt c d) (fun x hx => h x (List.mem_cons_of_mem _ hx))
    have h2 := h d List.mem_cons_self
    rw [List.foldl_cons, List.length_cons]
    generalize ds.foldl cnt (cnt c d) = Y at *
    unfold cnt at h1
    by_cases hf : isFl d = true
    · simp only [if_pos hf] at h1; refine ⟨by omega, by omega, by omega, by omega, h1.2.2.2.2⟩
    · by_cases hk : d.s.k = 2
      · simp only [if_neg hf, if_pos hk] at h1; refine ⟨by omega, by omega, by omega, by omega, h1.2.2.2.2⟩
      · simp only [if_neg hf, if_neg hk] at h1; refine ⟨by omega, by omega, by omega, by omega, h1.2.2.2.2⟩
theorem stepC_one (c : Ct) (x : Bytes) : (c.fl - 1 ≤ (stepC c x).fl ∧ (stepC c x).fl ≤ c.fl) ∧ (c.mv - 1 ≤ (stepC c x).mv ∧ (stepC c x).mv ≤ c.mv) ∧ (c.dr - 1 ≤ (stepC c x).dr ∧ (stepC c x).dr ≤ c.dr) ∧ (c.rg - 1 ≤ (stepC c x).rg ∧ (stepC c x).rg ≤ c.rg) ∧ (stepC c x).de.length ≤ c.de.length + 3 := by
  unfold stepC
  split
  case h_5 => dsimp only; refine ⟨by omega, by omega, by omega, by omega, ?_⟩; simp only [List.length_append, List.length_take, List.length_cons, List.length_nil]; omega
  all_goals (try dsimp only); refine ⟨by omega, by omega, by omega, by omega, by omega⟩
theorem step_bound (l : List Bytes) : ∀ c : Ct, (c.fl - l.length ≤ (l.foldl stepC c).fl ∧ (l.foldl stepC c).fl ≤ c.fl) ∧ (c.mv - l.length ≤ (l.foldl stepC c).mv ∧ (l.foldl stepC c).mv ≤ c.mv) ∧
    (c.dr - l.length ≤ (l.foldl stepC c).dr ∧ (l.foldl stepC c).dr ≤ c.dr) ∧ (c.rg - l.length ≤ (l.foldl stepC c).rg ∧ (l.foldl stepC c).rg ≤ c.rg) ∧ (l.foldl stepC c).de.length ≤ c.de.length + 3 * l.length := by
  induction l with
  | nil => intro c; simp
  | cons x l ih =>
    intro c
    have h1 := ih (stepC c x)
    have h2 := stepC_one c x
    rw [List.foldl_cons, List.length_cons]
    generalize l.foldl stepC (stepC c x) = Y at *
    generalize stepC c x = Z at *
    refine ⟨by omega, by omega, by omega, by omega, by omega⟩
theorem join_mem {ls : List Bytes} : ∀ {x : Bytes}, x ∈ ls → x.length ≤ (joinL ls).length := by
  induction ls with
  | nil => intro x hx; cases hx
  | cons l ls ih =>
    intro x hx
    have e : joinL (l :: ls) = l ++ [10] ++ joinL ls := by unfold joinL; simp
    rw [e, List.length_append, List.length_append]
    rcases List.mem_cons.1 hx with rfl | hx
    · omega
    · have := ih hx; omega
theorem join_count (ls : List Bytes) : ls.length ≤ (joinL ls).length := by
  induction ls with
  | nil => simp
  | cons l ls ih =>
    have e : joinL (l :: ls) = l ++ [10] ++ joinL ls := by unfold joinL; simp
    rw [e, List.length_append, List.length_append, List.length_cons, List.length_cons, List.length_nil]; omega
/-- Whether one of the first numbers of a text is a line's. -/
def usedTo (de x : Bytes) (j : Nat) : Bool := (List.range j).any fun i => (de.take (3 * i + 2)).drop (3 * i) == (x.take 3).drop 1
theorem usedTo_step (de x : Bytes) (j : Nat) : usedTo de x (j + 1) = (usedTo de x j || ((de.take (3 * j + 2)).drop (3 * j) == (x.take 3).drop 1)) := by unfold usedTo; rw [List.range_succ, List.any_append]; simp
theorem used_any {de x : Bytes} (h : Used de x) {j : Nat} (hj : de.length < 3 * j + 2) : usedTo de x j = true := by
  obtain ⟨i, h1, h2⟩ := h
  refine List.any_eq_true.2 ⟨i, List.mem_range.2 (by omega), ?_⟩
  rw [beq_iff_eq, List.drop_take, List.drop_take, show 3 * i + 2 - 3 * i = 2 by omega]
  exact h2
theorem defT_cut {n j : Nat} (h : j < n) : ((defT n).take (3 * j + 2)).drop (3 * j) = two j := by
  rw [List.drop_take, show 3 * j + 2 - 3 * j = 2 by omega]; exact defT_get h
end Pl
