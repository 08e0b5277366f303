/- The library's Compact at integers that the call owns. No condition but the contract's. -/
import Derived.Test.YtpakiabnhdoijaaIr
namespace Go.Proofs.Ytpakiabnhdoijaa
open Go.RowKit Go.Sort

theorem compactInts_own {w : World} {base : Nat} {v : Value} {xs : List Int} (h : w.ownsRow base 3 1 v xs.length (xs.flatMap intVal)) (hsz : xs.length ≤ 1000000000) (hcl : (Lib.compact xs).length ≤ xs.length) :
    Calls Try.prog 60 #[v] w fun E w' => ∃ ao cap, E = .returned (.slice ao (Lib.compact xs).length cap) ∧ Kp w w' v.ownBlock ∧ (0 < (Lib.compact xs).length → ∃ g cur, ao = some ⟨g, 0, none⟩ ∧ base ≤ g ∧ (Lib.compact xs).length ≤ cap ∧ w'.heap[g]? = some (.cells cur 3 (0, 0)) ∧ ∀ k, (hk : k < (Lib.compact xs).length) → cur[k]? = some (.int .i64 (Lib.compact xs)[k])) := by
  have hflat : ∀ l : List Int, l.flatMap intVal = l.map (Value.int .i64) := fun l => by
    induction l with
    | nil => rfl
    | cons a l ih => rw [List.flatMap_cons, List.map_cons, ih]; rfl
  rcases h.2 with ⟨rfl, h0⟩ | ⟨g, cap, cur, rfl, hbase, hg, hnc, hcm, hcs, htake⟩
  · have hx : xs = [] := List.length_eq_zero_iff.1 h0
    subst hx
    refine (Try.slices_Compact_int_empty none 0 w).mono ?_
    rintro E w' ⟨rfl, rfl⟩
    exact ⟨none, 0, rfl, Kp.refl _ _, fun h => absurd h (by have := hcl; rw [List.length_nil] at this; omega)⟩
  · rw [hflat] at h
    have hH := own_holds (Value.int .i64) h xs.toArray rfl
    refine (Try.slices_Compact_int g 0 cap xs w hH (by omega) hnc).mono ?_
    rintro E w' ⟨rfl, q, rfl⟩
    have hd : (Lib.compact xs ++ List.replicate (xs.length - (Lib.compact xs).length) (0 : Int)).toArray.size = xs.length := by simp; omega
    have e0 : putRow (Value.int .i64) (Sort.ahead w q) g 0 (Lib.compact xs ++ List.replicate (xs.length - (Lib.compact xs).length) 0).toArray = grow (putRow (Value.int .i64) (Sort.ahead w q) g 0 (Lib.compact xs ++ List.replicate (xs.length - (Lib.compact xs).length) 0).toArray) #[] := by
      unfold grow
      rw [Array.append_empty]
    rw [e0]
    refine ⟨some ⟨g, 0, none⟩, cap, rfl, grownBy_put (Value.int .i64) _, fun _ => ⟨g, _, rfl, hbase, by omega, heap_put (Value.int .i64) _ hg, fun k hk => ?_⟩⟩
    have ht := take_put (Value.int .i64) cur (Lib.compact xs ++ List.replicate (xs.length - (Lib.compact xs).length) 0).toArray (by rw [hd, hcs]; omega)
    rw [hd] at ht
    have h2 : ((putCells (Value.int .i64) 0 (Lib.compact xs ++ List.replicate (xs.length - (Lib.compact xs).length) 0).toArray cur).toList.take xs.length)[k]? = some (.int .i64 (Lib.compact xs)[k]) := by
      rw [ht, List.map_append, List.getElem?_append_left (by simpa using hk)]
      simp [hk]
    rw [List.getElem?_take_of_lt (by omega), Array.getElem?_toList] at h2
    exact h2

theorem keeps_iff (zs : List Int) (j : Nat) : Lib.keeps zs.toArray j = true ↔ j = 0 ∨ zs.toArray[j]! ≠ zs.toArray[j - 1]! := by
  unfold Lib.keeps; rw [decide_eq_true_eq]
theorem at_pos (zs : List Int) (j : Nat) (h : j < zs.length) : zs.toArray[j]! = zs[j] := by
  rw [getElem!_pos zs.toArray j (by simpa using h)]; rfl
theorem compact_lt {zs : List Int} (h : zs.Pairwise (· ≤ ·)) : (Lib.compact zs).Pairwise (· < ·) := by
  unfold Lib.compact Lib.compactUpTo
  rw [List.pairwise_map]
  refine List.Pairwise.imp_of_mem ?_ (List.pairwise_lt_range.sublist List.filter_sublist)
  intro i j hi hj hij
  have hj1 := List.mem_filter.1 hj
  have hjl : j < zs.length := List.mem_range.1 hj1.1
  have hk := (keeps_iff zs j).1 hj1.2
  rcases hk with hk | hk
  · omega
  · rw [at_pos zs i (by omega), at_pos zs j hjl]
    rw [at_pos zs j hjl, at_pos zs (j - 1) (by omega)] at hk
    have h1 := List.pairwise_iff_getElem.1 h (j - 1) j (by omega) hjl (by omega)
    by_cases e : i = j - 1
    · subst e; omega
    · have h2 := List.pairwise_iff_getElem.1 h i (j - 1) (by omega) (by omega) (by omega)
      omega
theorem mem_compact {zs : List Int} {x : Int} : x ∈ Lib.compact zs ↔ x ∈ zs := by
  unfold Lib.compact Lib.compactUpTo
  rw [List.mem_map]
  constructor
  · rintro ⟨j, hj, rfl⟩
    have hjl : j < zs.length := List.mem_range.1 (List.mem_filter.1 hj).1
    rw [at_pos zs j hjl]
    exact List.getElem_mem hjl
  · intro hx
    obtain ⟨j, hj, rfl⟩ := List.getElem_of_mem hx
    have key : ∀ j (hj : j < zs.length), ∃ i, i ∈ (List.range zs.length).filter (Lib.keeps zs.toArray) ∧ zs.toArray[i]! = zs[j] := by
      intro j
      induction j with
      | zero => exact fun hj => ⟨0, List.mem_filter.2 ⟨List.mem_range.2 hj, (keeps_iff zs 0).2 (.inl rfl)⟩, at_pos zs 0 hj⟩
      | succ j ih =>
        intro hj
        by_cases hk : Lib.keeps zs.toArray (j + 1) = true
        · exact ⟨j + 1, List.mem_filter.2 ⟨List.mem_range.2 hj, hk⟩, at_pos zs (j + 1) hj⟩
        · obtain ⟨i, hi, he⟩ := ih (by omega)
          refine ⟨i, hi, he.trans ?_⟩
          rw [keeps_iff] at hk
          have h2 : zs.toArray[j + 1]! = zs.toArray[j + 1 - 1]! := Decidable.byContradiction fun h => hk (.inr h)
          rw [at_pos zs (j + 1) hj, Nat.add_sub_cancel, at_pos zs j (by omega)] at h2
          exact h2.symm
    exact key j hj
/-- The ends of rectangles, sorted and without repetitions. -/
def yends (r : Rc.Rect) : List Int := [r.y0, r.y1]
theorem compact_ys (l : List Rc.Rect) : Lib.compact ((l.flatMap yends).mergeSort fun x y => decide (x ≤ y)) = Rc.ysOf l := by
  refine Rc.sorted_ext (compact_lt (sorted_int _)) (Rc.ys_sorted l) fun x => ?_
  rw [mem_compact, List.mem_mergeSort, List.mem_flatMap, Rc.mem_ys]
  simp [yends]

end Go.Proofs.Ytpakiabnhdoijaa
