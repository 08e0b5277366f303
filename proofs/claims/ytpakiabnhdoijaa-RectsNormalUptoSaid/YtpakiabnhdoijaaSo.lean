/- What a call owns stays owned behind the library's sorts: Sort at integers, SortFunc at ranges. Condition: what each contract asks. -/
import Derived.Test.YtpakiabnhdoijaaGw
import Derived.Test.YtpakiabnhdoijaaRr
import Derived.Shelf.SlSortCmp.NoneTotal
namespace Go.Proofs.Ytpakiabnhdoijaa
open Go.RowKit Go.Sort

section
variable {α : Type} [Inhabited α] (enc : α → Value)
theorem heap_put {w : World} {g n : Nat} {os : Array Obj} {cur : Array Value} {e : TypeId} {fr : Nat × Nat} (d : Array α) (hb : w.heap[g]? = some (.cells cur e fr)) :
    (grow (putRow enc (Sort.ahead w n) g 0 d) os).heap[g]? = some (.cells (putCells enc 0 d cur) e fr) := by
  have hg : g < w.heap.size := (Array.getElem?_eq_some_iff.1 hb).1
  rw [heap_grow_old _ _ (by simpa using hg)]
  simp [putRow, mapBlock, Sort.ahead, Array.getElem?_modify, hb, onCells]
theorem grownBy_put {w : World} {g n : Nat} {os : Array Obj} (d : Array α) : w.grownBy (grow (putRow enc (Sort.ahead w n) g 0 d) os) (some g) := by
  refine ⟨rfl, rfl, rfl, by simp, fun k hk hne => ?_⟩
  rw [heap_grow_old _ _ (by simpa using hk)]
  have : g ≠ k := fun e => hne (by rw [e])
  simp [putRow, mapBlock, Sort.ahead, Array.getElem?_modify, this]
theorem take_put (cur : Array Value) (d : Array α) (h : d.size ≤ cur.size) : (putCells enc 0 d cur).toList.take d.size = d.toList.map enc := by
  apply List.ext_getElem?
  intro j
  by_cases hj : j < d.size
  · rw [List.getElem?_take_of_lt hj, Array.getElem?_toList]
    simp [putCells, hj, show j < cur.size by omega]
  · rw [List.getElem?_take_eq_none (by omega), List.getElem?_eq_none (by simp; omega)]
theorem own_put {w : World} {base g cap n size : Nat} {e : TypeId} {os : Array Obj} {xs : List Value} {m : Nat} (h : w.ownsRow base e size (.slice (some ⟨g, 0, none⟩) n cap) n xs) (d : Array α) (hd : d.size = n * size) :
    (grow (putRow enc (Sort.ahead w m) g 0 d) os).ownsRow base e size (.slice (some ⟨g, 0, none⟩) n cap) n (d.toList.map enc) := by
  refine ⟨by simp [hd], ?_⟩
  rcases h.2 with ⟨h', _⟩ | ⟨g', cap', cur, h', hb, hg, hnc, hcm, hcs, _⟩
  · simp at h'
  · simp only [Value.slice.injEq, Option.some.injEq, Addr.mk.injEq, and_true, true_and] at h'
    obtain ⟨rfl, rfl⟩ := h'
    have hle : n * size ≤ cap * size := Nat.mul_le_mul_right _ hnc
    exact .inr ⟨g, cap, _, rfl, hb, heap_put enc d hg, hnc, hcm, by simp [putCells, hcs], by rw [← hd]; exact take_put enc cur d (by omega)⟩
theorem own_holds {w : World} {base g cap n size : Nat} {e : TypeId} {xs : List Value} (h : w.ownsRow base e size (.slice (some ⟨g, 0, none⟩) n cap) n xs) (d : Array α) (hd : d.toList.map enc = xs) : Holds enc w g 0 d := by
  intro j hj
  have hlen : xs.length = n * size := h.1
  have hj2 : j < n * size := by rw [← hlen, ← hd]; simpa using hj
  refine ⟨?_, by rw [Nat.zero_add]; exact h.frozenAt j⟩
  rw [Nat.zero_add, h.cellAt j hj2, ← hd]
  simp [hj]
end

theorem flatK_flat {α : Type} [Inhabited α] (enc : α → List Value) (k : Nat) (hk : ∀ x, (enc x).length = k) (h0 : 0 < k) (d : Array α) : (flatK enc k d).toList = d.toList.flatMap enc := by
  have hl : (d.toList.flatMap enc).length = d.size * k := by rw [flat_len (m := k) (f := enc) hk, Array.length_toList]
  apply List.ext_getElem?
  intro t
  by_cases ht : t < d.size * k
  · have hq : t / k < d.toList.length := by rw [Array.length_toList]; exact (Nat.div_lt_iff_lt_mul h0).2 ht
    have hr : t % k < (enc d.toList[t / k]).length := by rw [hk]; exact Nat.mod_lt _ h0
    have e : t / k * k + t % k = t := by rw [Nat.mul_comm]; exact Nat.div_add_mod t k
    have h1 := flat_get k enc hk d.toList (t / k) (t % k) hq hr
    rw [e] at h1
    rw [h1, List.getElem?_eq_getElem (by rw [Array.length_toList, size_flatK]; exact ht), Array.getElem_toList]
    have h2 := get_flatK enc k d t ht
    have hsz : t < (flatK enc k d).size := by rw [size_flatK]; exact ht
    rw [getElem!_pos (flatK enc k d) t hsz] at h2
    have hq2 : t / k < d.size := by rw [← Array.length_toList]; exact hq
    rw [h2, getElem!_pos d (t / k) hq2, getElem!_pos (enc d[t / k]) (t % k) (by simpa using hr)]
    simp
  · rw [List.getElem?_eq_none (by rw [Array.length_toList, size_flatK]; omega), List.getElem?_eq_none (by omega)]

/-! ### Sort at integers -/
theorem sortInts_own {w : World} {base : Nat} {v : Value} {xs : List Int} (h : w.ownsRow base 3 1 v xs.length (xs.flatMap intVal)) (hsz : xs.length < 4611686018427387904) :
    Calls Try.prog 59 #[v] w fun E w' => E = .returned (.tuple #[]) ∧ w'.ownsRow base 3 1 v (xs.mergeSort fun x y => decide (x ≤ y)).length ((xs.mergeSort fun x y => decide (x ≤ y)).flatMap intVal) ∧ Kp w w' v.ownBlock := by
  have hflat : ∀ l : List Int, l.flatMap intVal = l.map (Value.int .i64) := fun l => by
    induction l with
    | nil => rfl
    | cons a l ih => rw [List.flatMap_cons, List.map_cons, ih]; rfl
  rcases h.2 with ⟨rfl, h0⟩ | ⟨g, cap, cur, rfl, _, hg, _⟩
  · have hx : xs = [] := List.length_eq_zero_iff.1 h0
    subst hx
    refine (Try.slices_Sort_int_none none 0 w).mono ?_
    rintro E w' ⟨rfl, rfl⟩
    exact ⟨rfl, by simpa using h, (Kp.refl _ _)⟩
  · rw [hflat] at h
    have hH := own_holds (Value.int .i64) h xs.toArray rfl
    refine (Try.slices_Sort_int g 0 cap xs w hH (lt_of_block hg) hsz).mono ?_
    rintro E w' ⟨rfl, n, os, rfl⟩
    have hl : (xs.mergeSort fun x y => decide (x ≤ y)).length = xs.length := List.length_mergeSort _
    refine ⟨rfl, ?_, grownBy_put (Value.int .i64) _⟩
    rw [hflat, hl]
    exact own_put (Value.int .i64) h _ (by simp)

/-! ### SortFunc at ranges -/
/-- A range whose beginning is a coordinate. -/
abbrev BSpan := { s : Rc.Span // -1073741824 ≤ s.1 ∧ s.1 ≤ 1073741824 }
instance : Inhabited BSpan := ⟨⟨(0, 0), by simp⟩⟩
def bEnc (s : BSpan) : List Value := spanVal s.1
def bCf (x y : BSpan) : Int := x.1.1 - y.1.1
theorem bCf_lt (x y : BSpan) : Go.Proofs.ltOf bCf x y = decide (x.1.1 < y.1.1) := by
  unfold Go.Proofs.ltOf bCf
  congr 1
  apply propext
  omega
theorem bSwo : SWO (Go.Proofs.ltOf bCf) where
  irrefl x := by rw [bCf_lt]; simp
  trans x y z h1 h2 := by rw [bCf_lt] at *; simp at *; omega
  ntrans x y z h1 h2 := by rw [bCf_lt] at *; simp at *; omega

set_option maxHeartbeats 1000000 in
theorem closure64 (x0 x1 y0 y1 : Int) (h1 : -1073741824 ≤ x0) (h2 : x0 ≤ 1073741824) (h3 : -1073741824 ≤ y0) (h4 : y0 ≤ 1073741824) (W : World) :
    Calls Try.prog 64 #[.agg #[.int .i64 x0, .int .i64 x1], .agg #[.int .i64 y0, .int .i64 y1]] W fun e w' => e = .returned (.int .i64 (x0 - y0)) ∧ ∃ q os', w' = grow (W.drewN q) os' := by
  go_enter Try.func64, Try.ntmps64
  go_wp2_with fail
  go_ret
  exact ⟨rfl, 0, _, by rw [alloc_eq_grow, alloc_eq_grow, grow_grow]; rfl⟩
theorem cmpLays64 (blk off size : Nat) (w : World) : Go.Proofs.CmpLays Try.prog 64 #[] bEnc 2 bCf blk off size w := by
  intro m os dk _ x y
  exact closure64 x.1.1 x.1.2 y.1.1 y.1.2 x.2.1 x.2.2 y.2.1 y.2.2 _

theorem flat_val (ys : List BSpan) : ys.flatMap bEnc = (ys.map Subtype.val).flatMap spanVal := by
  rw [List.flatMap_map]; rfl
/-- The ranges as the contract takes them. -/
def bList (xs : List Rc.Span) (h : ∀ s ∈ xs, -1073741824 ≤ s.1 ∧ s.1 ≤ 1073741824) : List BSpan := xs.attachWith _ h
theorem bList_flat (xs : List Rc.Span) (h : ∀ s ∈ xs, -1073741824 ≤ s.1 ∧ s.1 ≤ 1073741824) : (bList xs h).flatMap bEnc = xs.flatMap spanVal := by
  unfold bList
  rw [flat_val, List.attachWith_map_subtype_val]
theorem sortSpans_own {w : World} {base : Nat} {v : Value} {xs : List Rc.Span} (h : w.ownsRow base 24 2 v xs.length (xs.flatMap spanVal)) (hsz : xs.length < 4611686018427387904) (hx : ∀ s ∈ xs, -1073741824 ≤ s.1 ∧ s.1 ≤ 1073741824) :
    Calls Try.prog 63 #[v, .func (.func 64) #[] #[]] w fun E w' => E = .returned (.tuple #[]) ∧ ∃ ys : List Rc.Span, ys.Perm xs ∧ ys.Pairwise (fun a b => a.1 ≤ b.1) ∧ w'.ownsRow base 24 2 v ys.length (ys.flatMap spanVal) ∧ Kp w w' v.ownBlock := by
  rcases h.2 with ⟨rfl, h0⟩ | ⟨g, cap, cur, rfl, _, hg, _⟩
  · have hx0 : xs = [] := List.length_eq_zero_iff.1 h0
    subst hx0
    refine (Go.Proofs.AnyF.slices_SortFunc_none Try.laysSlF06_f63 none 0 _ w).mono ?_
    rintro E w' ⟨rfl, rfl⟩
    exact ⟨rfl, [], List.Perm.refl _, List.Pairwise.nil, h, Kp.refl _ _⟩
  · have hlen : (bList xs hx).toArray.size = xs.length := by simp [bList]
    have hfl : (flatK bEnc 2 (bList xs hx).toArray).toList = xs.flatMap spanVal := by
      rw [flatK_flat bEnc 2 (fun _ => rfl) (by omega)]
      simpa using bList_flat xs hx
    have hH : HoldsK bEnc 2 w g 0 (bList xs hx).toArray := own_holds id h _ (by rw [hfl, List.map_id])
    have C := Try.slices_SortFunc 2 Try.isAgg24 Try.sizeOf24 bEnc (fun _ => rfl) (fun x v hv => span_one x.1 v hv) bCf bSwo 64 #[] g 0 cap (bList xs hx).toArray w (enters_of Try.func64 (by kernel_rfl) rfl) (cmpLays64 g 0 _ w) hH (lt_of_block hg) (by rw [hlen]; exact hsz)
    rw [hlen] at C
    refine C.mono ?_
    rintro E w' ⟨rfl, d', n, os, hp, hs, rfl⟩
    obtain ⟨hsize, _, hperm⟩ := hp
    rw [hlen] at hsize
    have e1 : (d'.extract 0 xs.length) = d' := by
      rw [← hsize]; exact Array.extract_size
    have e2 : ((bList xs hx).toArray.extract 0 xs.length) = (bList xs hx).toArray := by
      rw [← hlen]; exact Array.extract_size
    rw [e1, e2] at hperm
    have hperm2 : (d'.toList.map Subtype.val).Perm xs := by
      have := hperm.map Subtype.val
      have e : (bList xs hx).toArray.toList.map Subtype.val = xs := List.attachWith_map_subtype_val _
      rw [e] at this
      exact this
    refine ⟨rfl, d'.toList.map Subtype.val, hperm2, ?_, ?_, ?_⟩
    · rw [List.pairwise_map, List.pairwise_iff_getElem]
      intro i j hi hj hij
      have hj2 : j < d'.size := by simpa using hj
      have hi2 : i < d'.size := by omega
      have h1 := hs i j (Nat.zero_le _) hij (by omega)
      rw [bCf_lt, getElem!_pos d' j hj2, getElem!_pos d' i hi2] at h1
      simp at h1
      simpa using h1
    · have hl2 : (d'.toList.map Subtype.val).length = xs.length := hperm2.length_eq
      rw [hl2]
      have := own_put (m := n) (os := os) id h (flatK bEnc 2 d') (by rw [size_flatK, hsize])
      rw [List.map_id, flatK_flat bEnc 2 (fun _ => rfl) (by omega), flat_val] at this
      exact this
    · exact grownBy_put id _

end Go.Proofs.Ytpakiabnhdoijaa
