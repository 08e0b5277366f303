/- The program's names: Right, and an index. Conditions: strings of at most 2^47 bytes. -/
import Derived.Test.YtnchipahdfbliaaGreatDoorIx
import Derived.Laws.RangeAny
import Derived.Lib.AtoiErrMem
import Derived.Lib.AppendIntMem
namespace Go.Proofs.YtnchipahdfbliaaGreatDoor
open Go.RowKit

theorem size_str (s : List UInt8) : (⟨s.toArray⟩ : ByteArray).size = s.length := by show s.toArray.size = _; simp
theorem data_str (s : List UInt8) : (⟨s.toArray⟩ : ByteArray).data.toList = s := rfl

/-- strconv.Itoa in the walks' frame. -/
theorem itoa_any (n : Int) (w : World) (he : Env w) (hn : Wr.I64 n) :
    Calls Tryz.prog 40 #[.int .i64 n] w fun e w' => e = .returned (str (Lib.itoa n)) ∧ Kp w w' none := by
  refine (Tryz.strconv_Itoa n hn.1 hn.2 w he.tab).mono ?_
  rintro e w' ⟨rfl, k, os, rfl⟩
  exact ⟨rfl, Kp.of_below (Lib.below_grow _ w (Nat.le_refl _) k os)⟩

/-- strconv.Atoi: the number and whether there is an error; what it makes is new. -/
def AtoiEnds (l : List UInt8) (w : World) (e : Ending) (w' : World) : Prop :=
  ((∃ v, Lib.atoiAll l = .ok v ∧ e = .returned (.tuple #[.int .i64 v, .nilIface])) ∨ (∃ v N, (∀ v', Lib.atoiAll l ≠ .ok v') ∧ e = .returned (.tuple #[.int .i64 v, .iface 168 (.pointer (some ⟨N, 0, none⟩))]))) ∧ Kp w w' none
theorem atoi_any (s : List UInt8) (w : World) (he : Env w) (hs : s.length ≤ 281474976710656) : Calls Tryz.prog 100 #[str s] w (AtoiEnds s w) := by
  have hs' : (⟨s.toArray⟩ : ByteArray).size ≤ 281474976710656 := by rw [size_str]; exact hs
  cases h : Lib.atoiAll s
  · rename_i v
    refine (Tryz.strconv_Atoi_ok ⟨s.toArray⟩ (by omega) v h w).mono ?_
    rintro e w' ⟨rfl, hw⟩
    refine ⟨.inl ⟨v, h, rfl⟩, ?_⟩
    rcases hw with rfl | ⟨t, rfl⟩
    · exact Kp.refl _ _
    · exact Kp.of_below (Lib.bytesWorld_below _ _ _)
  · obtain ⟨tp, p, hv⟩ := he.syn
    refine (Tryz.strconv_Atoi_no_var ⟨s.toArray⟩ hs' (by rw [data_str, h]; intro v' e; cases e) (by rw [data_str, h]; intro e; cases e) tp p w hv).mono ?_
    rintro e w' ⟨N, rfl, _, _, hb⟩
    exact ⟨.inr ⟨_, N, (by rw [h]; intro v' e; cases e), rfl⟩, Kp.of_below hb⟩
  · obtain ⟨tp, p, hv⟩ := he.rng
    refine (Tryz.strconv_Atoi_range_var ⟨s.toArray⟩ hs' h tp p w hv).mono ?_
    rintro e w' ⟨N, rfl, _, _, hb⟩
    exact ⟨.inr ⟨_, N, (by rw [h]; intro v' e; cases e), rfl⟩, Kp.of_below hb⟩

/-! ### Right -/
theorem nameC_high {c : UInt8} (h : 128 ≤ c.toNat) : Ru.nameC c = false := by
  have h2 : ∀ i : Fin 256, 128 ≤ i.val → Ru.nameC (UInt8.ofNat i.val) = false := by decide +kernel
  have := h2 ⟨c.toNat, c.toNat_lt⟩ h
  simpa using this
theorem idxFrom_names (s : ByteArray) : ∀ (f pos : Nat), s.size ≤ pos + f → (Lib.idxFuncFrom notName true s f pos < 0 ↔ ∀ k, (h : k < s.size) → pos ≤ k → Ru.nameC s[k] = true)
  | 0, pos, hf => by
    constructor
    · intro _ k hk hp; omega
    · intro _; simp [Lib.idxFuncFrom]
  | f + 1, pos, hf => by
    by_cases hps : pos < s.size
    · rw [Lib.idxFuncFrom, if_pos hps]
      by_cases h128 : (s[pos]'hps).toNat < 128
      · rw [decode_ascii s pos hps h128]
        dsimp only
        have hn : notName (s[pos]'hps).toNat = !(Ru.nameC (s[pos]'hps)) := by unfold notName; rw [if_pos h128]; simp
        rw [hn]
        cases hc : Ru.nameC (s[pos]'hps) with
        | false =>
          simp only [Bool.not_false, if_true]
          constructor
          · intro h; omega
          · intro h; have := h pos hps (Nat.le_refl _); rw [hc] at this; cases this
        | true =>
          simp only [Bool.not_true, Bool.false_eq_true, if_false]
          rw [idxFrom_names s f (pos + 1) (by omega)]
          constructor
          · intro h k hk hp
            by_cases e : k = pos
            · subst e; exact hc
            · exact h k hk (by omega)
          · intro h k hk hp; exact h k hk (by omega)
      · have hd := decode_high s pos hps (by omega)
        have hn : notName (Utf8.decode s pos).1 = true := by unfold notName; rw [if_neg (by omega)]
        rw [hn]
        simp only [if_true]
        constructor
        · intro h; omega
        · intro h; have := h pos hps (Nat.le_refl _); rw [nameC_high (by omega)] at this; cases this
    · rw [Lib.idxFuncFrom_end _ _ _ _ _ hps]
      constructor
      · intro _ k hk hp; omega
      · intro _; omega
theorem idx_names (s : List UInt8) : decide (Lib.idxFunc notName true ⟨s.toArray⟩ < 0) = s.all Ru.nameC := by
  have h := idxFrom_names ⟨s.toArray⟩ (⟨s.toArray⟩ : ByteArray).size 0 (by omega)
  rw [Bool.eq_iff_iff, decide_eq_true_eq]
  unfold Lib.idxFunc
  rw [h, List.all_eq_true]
  constructor
  · intro h c hc
    obtain ⟨k, hk, rfl⟩ := List.mem_iff_getElem.1 hc
    exact h k (by rw [size_str]; exact hk) (by omega)
  · intro h k hk _
    exact h _ (List.getElem_mem (by rw [size_str] at hk; exact hk))
def firstB : List UInt8 := [97, 98, 99, 100, 101, 102, 103, 104, 105, 106, 107, 108, 109, 110, 111, 112, 113, 114, 115, 116, 117, 118, 119, 120, 121, 122, 65, 66, 67, 68, 69, 70, 71, 72, 73, 74, 75, 76, 77, 78, 79, 80, 81, 82, 83, 84, 85, 86, 87, 88, 89, 90, 43]
theorem first_mem : ∀ c : UInt8, firstB.contains c = (Ru.letter c || c == 43) := by
  have h : ∀ i : Fin 256, firstB.contains (UInt8.ofNat i.val) = (Ru.letter (UInt8.ofNat i.val) || (UInt8.ofNat i.val) == 43) := by decide +kernel
  intro c
  have := h ⟨c.toNat, c.toNat_lt⟩
  simpa using this
theorem first_any (c : UInt8) (w : World) : Calls Tryz.prog 54 #[str firstB, str [c]] w fun e w' => e = .returned (.bool (Ru.letter c || c == 43)) ∧ w' = w := by
  have h := Tryz.strings_Contains_one ⟨firstB.toArray⟩ c w
  rw [data_str, index_mem, first_mem] at h
  exact h
theorem nameR_cons (c : UInt8) (l : List UInt8) : Ru.nameR (c :: l) = (decide ((c :: l).length ≤ 16) && (c :: l).all Ru.nameC && (Ru.letter c || c == 43)) := rfl
set_option maxHeartbeats 1000000 in
set_option maxRecDepth 100000 in
theorem right_nil (w : World) : Calls Tryz.prog 33 #[str []] w fun e w' => e = .returned (.bool false) ∧ Kp w w' none := by
  go_enter Tryz.func33, Tryz.ntmps33
  go_wp2_with fail
  go_ret
  exact ⟨rfl, Kp.refl _ _⟩
set_option maxHeartbeats 1000000 in
set_option maxRecDepth 100000 in
theorem right_long (c : UInt8) (l : List UInt8) (h : 16 < (c :: l).length) (hm : (c :: l).length ≤ 140737488355328) (w : World) : Calls Tryz.prog 33 #[str (c :: l)] w fun e w' => e = .returned (.bool false) ∧ Kp w w' none := by
  have hs : (⟨(c :: l).toArray⟩ : ByteArray).size = (c :: l).length := size_str _
  have hx : (c :: l).toArray.isEmpty = false := rfl
  obtain ⟨s, he⟩ : ∃ s, (⟨(c :: l).toArray⟩ : ByteArray) = s := ⟨_, rfl⟩
  show Calls Tryz.prog 33 #[.string ⟨(c :: l).toArray⟩] w _
  rw [he] at hs ⊢
  have hne : s.toList.isEmpty = false := by rw [← he, ByteArray.toList_eq]; rfl
  have h1 : 16 < s.size := by omega
  have h2 : s.size ≤ 140737488355328 := by omega
  clear he hs hx
  go_enter Tryz.func33, Tryz.ntmps33
  go_wp2_with fail
  go_ret
  exact ⟨rfl, Kp.refl _ _⟩
set_option maxHeartbeats 1000000 in
set_option maxRecDepth 100000 in
theorem right_first (c : UInt8) (l : List UInt8) (h : (c :: l).length ≤ 16) (hc : (Ru.letter c || c == 43) = false) (w : World) : Calls Tryz.prog 33 #[str (c :: l)] w fun e w' => e = .returned (.bool false) ∧ Kp w w' none := by
  have hs : (⟨(c :: l).toArray⟩ : ByteArray).size = (c :: l).length := size_str _
  have hx : (⟨(c :: l).toArray⟩ : ByteArray).extract 0 1 = ⟨[c].toArray⟩ := by
    apply ByteArray.ext; simp
  obtain ⟨s, he⟩ : ∃ s, (⟨(c :: l).toArray⟩ : ByteArray) = s := ⟨_, rfl⟩
  show Calls Tryz.prog 33 #[.string ⟨(c :: l).toArray⟩] w _
  rw [he] at hs hx ⊢
  have hne : s.toList.isEmpty = false := by rw [← he, ByteArray.toList_eq]; rfl
  have h1 : ¬ 16 < s.size := by omega
  have h2 : 1 ≤ s.size := by simp at hs; omega
  have c1 : ∀ v, Calls Tryz.prog 54 #[str firstB, .string (s.extract 0 1)] v fun e w' => e = .returned (.bool false) ∧ w' = v := fun v => by rw [hx, ← hc]; exact first_any c v
  clear he hs hx hc
  go_enter Tryz.func33, Tryz.ntmps33
  go_wp2_with (go_at_call 54; refine (c1 _).mono ?_; rintro e w' ⟨rfl, rfl⟩)
  go_ret
  exact ⟨rfl, Kp.refl _ _⟩
set_option maxHeartbeats 1000000 in
set_option maxRecDepth 100000 in
theorem right_all (c : UInt8) (l : List UInt8) (h : (c :: l).length ≤ 16) (hc : (Ru.letter c || c == 43) = true) (w : World) : Calls Tryz.prog 33 #[str (c :: l)] w fun e w' => e = .returned (.bool ((c :: l).all Ru.nameC)) ∧ Kp w w' none := by
  have hs : (⟨(c :: l).toArray⟩ : ByteArray).size = (c :: l).length := size_str _
  have hx : (⟨(c :: l).toArray⟩ : ByteArray).extract 0 1 = ⟨[c].toArray⟩ := by
    apply ByteArray.ext; simp
  have hi := idx_names (c :: l)
  obtain ⟨t, ht⟩ : ∃ t, (c :: l).all Ru.nameC = t := ⟨_, rfl⟩
  rw [ht] at hi ⊢
  obtain ⟨s, he⟩ : ∃ s, (⟨(c :: l).toArray⟩ : ByteArray) = s := ⟨_, rfl⟩
  show Calls Tryz.prog 33 #[.string ⟨(c :: l).toArray⟩] w _
  rw [he] at hs hx hi ⊢
  have hne : s.toList.isEmpty = false := by rw [← he, ByteArray.toList_eq]; rfl
  have h1 : ¬ 16 < s.size := by omega
  have h2 : 1 ≤ s.size := by simp at hs; omega
  have c1 : ∀ v, Calls Tryz.prog 54 #[str firstB, .string (s.extract 0 1)] v fun e w' => e = .returned (.bool true) ∧ w' = v := fun v => by rw [hx, ← hc]; exact first_any c v
  have c2 : Calls Tryz.prog 55 #[.string s, .func (.func 56) #[] #[.pointer (some ⟨w.heap.size, 0, none⟩)]] (w.alloc (.cells #[.string nameB] 9)) fun e w' => e = .returned (.int .i64 (Lib.idxFunc notName true s)) ∧ Kp (w.alloc (.cells #[.string nameB] 9)) w' none :=
    (Tryz.strings_IndexFunc_grows 56 #[.pointer (some ⟨w.heap.size, 0, none⟩)] (enters_of Tryz.func56 (by kernel_rfl) rfl) notName s (w.alloc (.cells #[.string nameB] 9)) (fun W x hx hb => right1_any x hx w.heap.size W (by
      rw [hb.cell (p := ⟨w.heap.size, 0, none⟩) (by simp)]
      simp))).mono fun e w' ⟨h1, h2⟩ => ⟨h1, Kp.of_below h2⟩
  clear he hs hx hc ht
  obtain ⟨n, hn⟩ : ∃ n, Lib.idxFunc notName true s = n := ⟨_, rfl⟩
  rw [hn] at c2 hi
  have HI := Lib.hid hi
  clear hi hn
  go_enter Tryz.func33, Tryz.ntmps33
  go_wp2_with (first | (go_at_call 54; refine (c1 _).mono ?_; rintro e w' ⟨rfl, rfl⟩) | (go_at_call 55; refine c2.mono ?_; rintro e w' ⟨rfl, hk⟩))
  go_ret
  exact ⟨(by first | rfl | (show Ending.returned (.bool (decide (n < 0))) = _; rw [HI.out])), ((Kp.refl _ _).alloc _).trans hk⟩
theorem right_any (s : List UInt8) (hm : s.length ≤ 140737488355328) (w : World) : Calls Tryz.prog 33 #[str s] w fun e w' => e = .returned (.bool (Ru.nameR s)) ∧ Kp w w' none := by
  cases s with
  | nil => exact right_nil w
  | cons c l =>
    rw [nameR_cons]
    by_cases h : (c :: l).length ≤ 16
    · rw [decide_eq_true h, Bool.true_and]
      cases hc : (Ru.letter c || c == 43) with
      | false => rw [Bool.and_false]; exact right_first c l h hc w
      | true => rw [Bool.and_true]; exact right_all c l h hc w
    · rw [decide_eq_false h, Bool.false_and, Bool.false_and]
      exact right_long c l (by omega) hm w
end Go.Proofs.YtnchipahdfbliaaGreatDoor
