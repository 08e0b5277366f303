/- The reference's comparisons of lists. Condition: a list that is compared is shorter than 2^31. -/
import Derived.Test.YtfcbogoahangoaaDoorRu
namespace Go.Proofs.YtfcbogoahangoaaDoor
open Go.RowKit

set_option maxHeartbeats 1000000 in
theorem sameInts_len (a b : Value) (xs ys : List (Int)) (w : World) (ha : IsRow w a (xs.map vInt)) (hb : IsRow w b (ys.map vInt)) (hne : ((xs.length : Int) != (ys.length : Int)) = true) : Calls Tryd.prog 26 #[a, b] w fun E w' => E = .returned (.bool false) ∧ ∃ n, w.drewN n = w' := by
  rcases ha with ⟨ao, ka, rfl, ha⟩ | ⟨b1, o1, k1, rfl, hc1, hb1, hr1⟩ <;> rcases hb with ⟨bo, kb, rfl, hb⟩ | ⟨b2, o2, k2, rfl, hc2, hb2, hr2⟩
  · rw [List.map_eq_nil_iff.1 ha, List.map_eq_nil_iff.1 hb] at hne; simp at hne
  · rw [List.map_eq_nil_iff.1 ha] at hne
    have hne : ((0 : Int) != (ys.length : Int)) = true := hne
    simp only [List.length_map] at *
    clear ha hr2
    go_enter Tryd.func26, Tryd.ntmps26
    go_wp2
    go_ret
    exact ⟨rfl, 0, rfl⟩
  · rw [List.map_eq_nil_iff.1 hb] at hne
    have hne : ((xs.length : Int) != 0) = true := hne
    simp only [List.length_map] at *
    clear hb hr1
    go_enter Tryd.func26, Tryd.ntmps26
    go_wp2
    go_ret
    exact ⟨rfl, 0, rfl⟩
  · simp only [List.length_map] at *
    clear hr1 hr2
    go_enter Tryd.func26, Tryd.ntmps26
    go_wp2
    go_ret
    exact ⟨rfl, 0, rfl⟩

def SameIntsRel (xs ys : List (Int)) (w : World) (i : Value) (wr : World) : Prop := ∃ k m : Nat, w.drewN m = wr ∧ k ≤ xs.length ∧ i = .int .i64 k ∧ xs.take k = ys.take k

set_option maxHeartbeats 1000000 in
theorem sameInts_nil (c d k1 k2 : Nat) (a b : Option Addr) (w : World) (hc : c = 0) (hd : d = 0) : Calls Tryd.prog 26 #[.slice a c k1, .slice b d k2] w fun E w' => E = .returned (.bool true) ∧ ∃ n, w.drewN n = w' := by
  subst hc hd
  go_enter Tryd.func26, Tryd.ntmps26
  go_wp2
  go_loopw [5] (fun i wr => i = .int .i64 0 ∧ wr = w) (fun _ _ => 0)
  case atStart => exact ⟨rfl, rfl⟩
  case round =>
    obtain ⟨rfl, rfl⟩ := hrel
    go_wp2
    go_ret
    exact ⟨rfl, 0, rfl⟩

set_option maxHeartbeats 1000000 in
theorem sameInts_row (b1 o1 k1 b2 o2 k2 : Nat) (xs ys : List (Int)) (w : World) (hl : xs.length < 2147483648) (hn : ys.length = xs.length)
    (hr1 : ∀ i, i < xs.length → w.cell? ⟨b1, o1 + i, none⟩ = (xs.map vInt)[i]?) (hr2 : ∀ i, i < ys.length → w.cell? ⟨b2, o2 + i, none⟩ = (ys.map vInt)[i]?) (_hk1 : xs.length ≤ k1) (_hk2 : xs.length ≤ k2) :
    Calls Tryd.prog 26 #[.slice (some ⟨b1, o1, none⟩) xs.length k1, .slice (some ⟨b2, o2, none⟩) xs.length k2] w fun E w' => E = .returned (.bool (decide (xs = ys))) ∧ ∃ n, w.drewN n = w' := by
  have HR1 := Lib.hid hr1
  have HR2 := Lib.hid hr2
  have HN := Lib.hid hn
  clear hr1 hr2 hn
  go_enter Tryd.func26, Tryd.ntmps26
  go_wp2
  go_loopw [5] (fun i wr => SameIntsRel xs ys w i wr) (fun i _ => xs.length - (intOf i).toNat)
  case atStart => exact ⟨0, 0, rfl, Nat.zero_le _, rfl, by simp⟩
  case round =>
    obtain ⟨k, m, rfl, hk, rfl, ht⟩ := hrel
    have HT := Lib.hid ht
    clear ht
    by_cases hlt : k < xs.length
    · have hlt' : k < ys.length := by rw [HN.out]; exact hlt
      have hc1 : w.cell? ⟨b1, o1 + k, none⟩ = some (vInt xs[k]) := by rw [HR1.out k hlt]; simp [hlt]
      have hc2 : w.cell? ⟨b2, o2 + k, none⟩ = some (vInt ys[k]) := by rw [HR2.out k hlt']; simp [hlt']
      generalize hx : xs[k] = x at hc1
      generalize hy : ys[k] = y at hc2
      have HX := Lib.hid hx
      have HY := Lib.hid hy
      clear hx hy
      unfold vInt at hc1 hc2
      by_cases hxy : x = y
      · subst hxy
        go_wp2
        go_quiet (fail)
        go_wp2
        have hrel : ∀ n, SameIntsRel xs ys w (.int .i64 (k + 1)) (w.drewN n) := fun n => ⟨k + 1, n, rfl, hlt, by go_num, by rw [List.take_succ_eq_append_getElem hlt, List.take_succ_eq_append_getElem hlt', HT.out, HX.out, HY.out]⟩
        go_roundw
        all_goals first | exact hrel _ | exact ⟨hrel _, by simp [intOf]; omega⟩ | ((repeat apply Exists.intro); exact ⟨hrel _, rfl⟩) | (simp [intOf]; omega)
      · have hb : (x != y) = true := by simpa using hxy
        have hb1 : (x == y) = false := by simpa using hxy
        have HXY := Lib.hid hxy
        clear hxy
        go_wp2
        go_quiet (fail)
        go_wp2
        go_ret
        refine ⟨congrArg (fun b => Ending.returned (.bool b)) (decide_eq_false (fun h => HXY.out (by rw [← HX.out, ← HY.out]; simp only [h]))).symm, m + nq, ?_⟩
        first | rfl | exact dd_eq _ _ _
    · have hkn : k = xs.length := by omega
      subst hkn
      go_wp2
      go_ret
      have h := HT.out
      rw [List.take_length, ← HN.out, List.take_length] at h
      exact ⟨congrArg (fun b => Ending.returned (.bool b)) (decide_eq_true h).symm, _, rfl⟩

theorem sameInts_any (a b : Value) (xs ys : List (Int)) (w : World) (ha : IsRow w a (xs.map vInt)) (hb : IsRow w b (ys.map vInt)) (hl : xs.length < 2147483648) : Calls Tryd.prog 26 #[a, b] w fun E w' => E = .returned (.bool (decide (xs = ys))) ∧ ∃ n, w.drewN n = w' := by
  by_cases hne : ((xs.length : Int) != (ys.length : Int)) = true
  · rw [decide_eq_false (fun h => by rw [h] at hne; simp at hne)]
    exact sameInts_len a b xs ys w ha hb hne
  · have hn : ys.length = xs.length := by rw [bne_iff_ne] at hne; omega
    rcases ha with ⟨ao, ka, rfl, ha⟩ | ⟨b1, o1, k1, rfl, hc1, hb1, hr1⟩ <;> rcases hb with ⟨bo, kb, rfl, hb⟩ | ⟨b2, o2, k2, rfl, hc2, hb2, hr2⟩
    · rw [List.map_eq_nil_iff.1 ha, List.map_eq_nil_iff.1 hb]
      exact sameInts_nil _ _ _ _ _ _ w rfl rfl
    · have hx := List.map_eq_nil_iff.1 ha
      subst hx
      have hy := List.length_eq_zero_iff.1 hn
      subst hy
      exact sameInts_nil _ _ _ _ _ _ w rfl rfl
    · have hy := List.map_eq_nil_iff.1 hb
      subst hy
      have hx := List.length_eq_zero_iff.1 hn.symm
      subst hx
      exact sameInts_nil _ _ _ _ _ _ w rfl rfl
    · simp only [List.length_map] at hc1 hc2 hr1 hr2 ⊢
      rw [hn]
      exact sameInts_row b1 o1 k1 b2 o2 k2 xs ys w hl hn hr1 hr2 hc1 (by omega)

set_option maxHeartbeats 1000000 in
theorem sameTexts_len (a b : Value) (xs ys : List (List UInt8)) (w : World) (ha : IsRow w a (xs.map vStr)) (hb : IsRow w b (ys.map vStr)) (hne : ((xs.length : Int) != (ys.length : Int)) = true) : Calls Tryd.prog 29 #[a, b] w fun E w' => E = .returned (.bool false) ∧ ∃ n, w.drewN n = w' := by
  rcases ha with ⟨ao, ka, rfl, ha⟩ | ⟨b1, o1, k1, rfl, hc1, hb1, hr1⟩ <;> rcases hb with ⟨bo, kb, rfl, hb⟩ | ⟨b2, o2, k2, rfl, hc2, hb2, hr2⟩
  · rw [List.map_eq_nil_iff.1 ha, List.map_eq_nil_iff.1 hb] at hne; simp at hne
  · rw [List.map_eq_nil_iff.1 ha] at hne
    have hne : ((0 : Int) != (ys.length : Int)) = true := hne
    simp only [List.length_map] at *
    clear ha hr2
    go_enter Tryd.func29, Tryd.ntmps29
    go_wp2
    go_ret
    exact ⟨rfl, 0, rfl⟩
  · rw [List.map_eq_nil_iff.1 hb] at hne
    have hne : ((xs.length : Int) != 0) = true := hne
    simp only [List.length_map] at *
    clear hb hr1
    go_enter Tryd.func29, Tryd.ntmps29
    go_wp2
    go_ret
    exact ⟨rfl, 0, rfl⟩
  · simp only [List.length_map] at *
    clear hr1 hr2
    go_enter Tryd.func29, Tryd.ntmps29
    go_wp2
    go_ret
    exact ⟨rfl, 0, rfl⟩

def SameTextsRel (xs ys : List (List UInt8)) (w : World) (i : Value) (wr : World) : Prop := ∃ k m : Nat, w.drewN m = wr ∧ k ≤ xs.length ∧ i = .int .i64 k ∧ xs.take k = ys.take k

set_option maxHeartbeats 1000000 in
theorem sameTexts_nil (c d k1 k2 : Nat) (a b : Option Addr) (w : World) (hc : c = 0) (hd : d = 0) : Calls Tryd.prog 29 #[.slice a c k1, .slice b d k2] w fun E w' => E = .returned (.bool true) ∧ ∃ n, w.drewN n = w' := by
  subst hc hd
  go_enter Tryd.func29, Tryd.ntmps29
  go_wp2
  go_loopw [5] (fun i wr => i = .int .i64 0 ∧ wr = w) (fun _ _ => 0)
  case atStart => exact ⟨rfl, rfl⟩
  case round =>
    obtain ⟨rfl, rfl⟩ := hrel
    go_wp2
    go_ret
    exact ⟨rfl, 0, rfl⟩

set_option maxHeartbeats 1000000 in
theorem sameTexts_row (b1 o1 k1 b2 o2 k2 : Nat) (xs ys : List (List UInt8)) (w : World) (hl : xs.length < 2147483648) (hn : ys.length = xs.length)
    (hr1 : ∀ i, i < xs.length → w.cell? ⟨b1, o1 + i, none⟩ = (xs.map vStr)[i]?) (hr2 : ∀ i, i < ys.length → w.cell? ⟨b2, o2 + i, none⟩ = (ys.map vStr)[i]?) (_hk1 : xs.length ≤ k1) (_hk2 : xs.length ≤ k2) :
    Calls Tryd.prog 29 #[.slice (some ⟨b1, o1, none⟩) xs.length k1, .slice (some ⟨b2, o2, none⟩) xs.length k2] w fun E w' => E = .returned (.bool (decide (xs = ys))) ∧ ∃ n, w.drewN n = w' := by
  have HR1 := Lib.hid hr1
  have HR2 := Lib.hid hr2
  have HN := Lib.hid hn
  clear hr1 hr2 hn
  go_enter Tryd.func29, Tryd.ntmps29
  go_wp2
  go_loopw [5] (fun i wr => SameTextsRel xs ys w i wr) (fun i _ => xs.length - (intOf i).toNat)
  case atStart => exact ⟨0, 0, rfl, Nat.zero_le _, rfl, by simp⟩
  case round =>
    obtain ⟨k, m, rfl, hk, rfl, ht⟩ := hrel
    have HT := Lib.hid ht
    clear ht
    by_cases hlt : k < xs.length
    · have hlt' : k < ys.length := by rw [HN.out]; exact hlt
      have hc1 : w.cell? ⟨b1, o1 + k, none⟩ = some (vStr xs[k]) := by rw [HR1.out k hlt]; simp [hlt]
      have hc2 : w.cell? ⟨b2, o2 + k, none⟩ = some (vStr ys[k]) := by rw [HR2.out k hlt']; simp [hlt']
      generalize hx : xs[k] = x at hc1
      generalize hy : ys[k] = y at hc2
      have HX := Lib.hid hx
      have HY := Lib.hid hy
      clear hx hy
      unfold vStr at hc1 hc2
      by_cases hxy : x = y
      · subst hxy
        go_wp2
        go_quiet (fail)
        go_wp2
        have hrel : ∀ n, SameTextsRel xs ys w (.int .i64 (k + 1)) (w.drewN n) := fun n => ⟨k + 1, n, rfl, hlt, by go_num, by rw [List.take_succ_eq_append_getElem hlt, List.take_succ_eq_append_getElem hlt', HT.out, HX.out, HY.out]⟩
        go_roundw
        all_goals first | exact hrel _ | exact ⟨hrel _, by simp [intOf]; omega⟩ | ((repeat apply Exists.intro); exact ⟨hrel _, rfl⟩) | (simp [intOf]; omega)
      · have hb : (x != y) = true := by simpa using hxy
        have hb1 : (x == y) = false := by simpa using hxy
        have HXY := Lib.hid hxy
        clear hxy
        go_wp2
        go_quiet (fail)
        go_wp2
        go_ret
        refine ⟨congrArg (fun b => Ending.returned (.bool b)) (decide_eq_false (fun h => HXY.out (by rw [← HX.out, ← HY.out]; simp only [h]))).symm, m + nq, ?_⟩
        first | rfl | exact dd_eq _ _ _
    · have hkn : k = xs.length := by omega
      subst hkn
      go_wp2
      go_ret
      have h := HT.out
      rw [List.take_length, ← HN.out, List.take_length] at h
      exact ⟨congrArg (fun b => Ending.returned (.bool b)) (decide_eq_true h).symm, _, rfl⟩

theorem sameTexts_any (a b : Value) (xs ys : List (List UInt8)) (w : World) (ha : IsRow w a (xs.map vStr)) (hb : IsRow w b (ys.map vStr)) (hl : xs.length < 2147483648) : Calls Tryd.prog 29 #[a, b] w fun E w' => E = .returned (.bool (decide (xs = ys))) ∧ ∃ n, w.drewN n = w' := by
  by_cases hne : ((xs.length : Int) != (ys.length : Int)) = true
  · rw [decide_eq_false (fun h => by rw [h] at hne; simp at hne)]
    exact sameTexts_len a b xs ys w ha hb hne
  · have hn : ys.length = xs.length := by rw [bne_iff_ne] at hne; omega
    rcases ha with ⟨ao, ka, rfl, ha⟩ | ⟨b1, o1, k1, rfl, hc1, hb1, hr1⟩ <;> rcases hb with ⟨bo, kb, rfl, hb⟩ | ⟨b2, o2, k2, rfl, hc2, hb2, hr2⟩
    · rw [List.map_eq_nil_iff.1 ha, List.map_eq_nil_iff.1 hb]
      exact sameTexts_nil _ _ _ _ _ _ w rfl rfl
    · have hx := List.map_eq_nil_iff.1 ha
      subst hx
      have hy := List.length_eq_zero_iff.1 hn
      subst hy
      exact sameTexts_nil _ _ _ _ _ _ w rfl rfl
    · have hy := List.map_eq_nil_iff.1 hb
      subst hy
      have hx := List.length_eq_zero_iff.1 hn.symm
      subst hx
      exact sameTexts_nil _ _ _ _ _ _ w rfl rfl
    · simp only [List.length_map] at hc1 hc2 hr1 hr2 ⊢
      rw [hn]
      exact sameTexts_row b1 o1 k1 b2 o2 k2 xs ys w hl hn hr1 hr2 hc1 (by omega)

end Go.Proofs.YtfcbogoahangoaaDoor
