/- The program's names: Right, and an index. Conditions: strings of at most 2^47 bytes.
  The program's indices of buses. Condition: a string of at most 2^47 bytes.
  Helpers of the walks: owned rows as lists, cells of a block, parts of strings. No condition. -/
import Derived.Test.YtnchipahdfbliaaGreatDoorIx
import Derived.Laws.RangeAny
import Derived.Lib.AtoiErrMem
import Derived.Lib.AppendIntMem
import Derived.Deep.AppendLies

namespace Go.Proofs.YtnchipahdfbliaaGreatDoor
open Go.RowKit

theorem size_str (s : List UInt8) : (⟨s.toArray⟩ : ByteArray).size = s.length := by show s.toArray.size = _; simp
theorem data_str (s : List UInt8) : (⟨s.toArray⟩ : ByteArray).data.toList = s := rfl

/-- strconv.Itoa in the walks' frame. -/
theorem itoa_any (n : Int) (w : World) (he : Env w) (hn : Wr.I64 n) :
  Calls Tryz.prog 40 #[.int .i64 n] w fun e w' => e = .returned (str (Lib.itoa n)) ∧ Kp w w' none := by
 refine (Tryz.strconv_Itoa n hn.1 hn.2 w he.tab).mono ?_
 rintro e w' ⟨rfl, k, os, rfl⟩
 exact ⟨rfl, Kp.of_below (Lib.below_grow _ w (Nat.le_refl _) k os)⟩

/-- strconv.Atoi: the number and whether there is an error; what it makes is new. -/
def AtoiEnds (l : List UInt8) (w : World) (e : Ending) (w' : World) : Prop :=
 ((∃ v, Lib.atoiAll l = .ok v ∧ e = .returned (.tuple #[.int .i64 v, .nilIface])) ∨ (∃ v N, (∀ v', Lib.atoiAll l ≠ .ok v') ∧ e = .returned (.tuple #[.int .i64 v, .iface 168 (.pointer (some ⟨N, 0, none⟩))]))) ∧ Kp w w' none
theorem atoi_any (s : List UInt8) (w : World) (he : Env w) (hs : s.length ≤ 281474976710656) : Calls Tryz.prog 100 #[str s] w (AtoiEnds s w) := by
 have hs' : (⟨s.toArray⟩ : ByteArray).size ≤ 281474976710656 := by rw [size_str]; exact hs
 cases h : Lib.atoiAll s
 ·rename_i v
  refine (Tryz.strconv_Atoi_ok ⟨s.toArray⟩ (by omega) v h w).mono ?_
  rintro e w' ⟨rfl, hw⟩
  refine ⟨.inl ⟨v, h, rfl⟩, ?_⟩
  rcases hw with rfl | ⟨t, rfl⟩
  ·exact Kp.refl _ _
  ·exact Kp.of_below (Lib.bytesWorld_below _ _ _)
 ·obtain ⟨tp, p, hv⟩ := he.syn
  refine (Tryz.strconv_Atoi_no_var ⟨s.toArray⟩ hs' (by rw [data_str, h]; intro v' e; cases e) (by rw [data_str, h]; intro e; cases e) tp p w hv).mono ?_
  rintro e w' ⟨N, rfl, _, _, hb⟩
  exact ⟨.inr ⟨_, N, (by rw [h]; intro v' e; cases e), rfl⟩, Kp.of_below hb⟩
 ·obtain ⟨tp, p, hv⟩ := he.rng
  refine (Tryz.strconv_Atoi_range_var ⟨s.toArray⟩ hs' h tp p w hv).mono ?_
  rintro e w' ⟨N, rfl, _, _, hb⟩
  exact ⟨.inr ⟨_, N, (by rw [h]; intro v' e; cases e), rfl⟩, Kp.of_below hb⟩

/-! ### Right -/
theorem nameC_high {c : UInt8} (h : 128 ≤ c.toNat) : Ru.nameC c = false := by
 have h2 : ∀ i : Fin 256, 128 ≤ i.val → Ru.nameC (UInt8.ofNat i.val) = false := by decide +kernel
 have := h2 ⟨c.toNat, c.toNat_lt⟩ h
 simpa using this
theorem idxFrom_names (s : ByteArray) : ∀ (f pos : Nat), s.size ≤ pos + f → (Lib.idxFuncFrom notName true s f pos < 0 ↔ ∀ k, (h : k < s.size) → pos ≤ k → Ru.nameC s[k] = true)
 | 0, pos, hf => by
  constructor
  ·intro _ k hk hp; omega
  ·intro _; simp [Lib.idxFuncFrom]
 | f + 1, pos, hf => by
  by_cases hps : pos < s.size
  ·rw [Lib.idxFuncFrom, if_pos hps]
   by_cases h128 : (s[pos]'hps).toNat < 128
   ·rw [decode_ascii s pos hps h128]
    dsimp only
    have hn : notName (s[pos]'hps).toNat = !(Ru.nameC (s[pos]'hps)) := by unfold notName; rw [if_pos h128]; simp
    rw [hn]
    cases hc : Ru.nameC (s[pos]'hps) with
    | false =>
     simp only [Bool.not_false, if_true]
     constructor
     ·intro h; omega
     ·intro h; have := h pos hps (Nat.le_refl _); rw [hc] at this; cases this
    | true =>
     simp only [Bool.not_true, Bool.false_eq_true, if_false]
     rw [idxFrom_names s f (pos + 1) (by omega)]
     constructor
     ·intro h k hk hp
      by_cases e : k = pos
      ·subst e; exact hc
      ·exact h k hk (by omega)
     ·intro h k hk hp; exact h k hk (by omega)
   ·have hd := decode_high s pos hps (by omega)
    have hn : notName (Utf8.decode s pos).1 = true := by unfold notName; rw [if_neg (by omega)]
    rw [hn]
    simp only [if_true]
    constructor
    ·intro h; omega
    ·intro h; have := h pos hps (Nat.le_refl _); rw [nameC_high (by omega)] at this; cases this
  ·rw [Lib.idxFuncFrom_end _ _ _ _ _ hps]
   constructor
   ·intro _ k hk hp; omega
   ·intro _; omega
theorem idx_names (s : List UInt8) : decide (Lib.idxFunc notName true ⟨s.toArray⟩ < 0) = s.all Ru.nameC := by
 have h := idxFrom_names ⟨s.toArray⟩ (⟨s.toArray⟩ : ByteArray).size 0 (by omega)
 rw [Bool.eq_iff_iff, decide_eq_true_eq]
 unfold Lib.idxFunc
 rw [h, List.all_eq_true]
 constructor
 ·intro h c hc
  obtain ⟨k, hk, rfl⟩ := List.mem_iff_getElem.1 hc
  exact h k (by rw [size_str]; exact hk) (by omega)
 ·intro h k hk _
  exact h _ (List.getElem_mem (by rw [size_str] at hk; exact hk))
def firstB : List UInt8 := [97, 98, 99, 100, 101, 102, 103, 104, 105, 106, 107, 108, 109, 110, 111, 112, 113, 114, 115, 116, 117, 118, 119, 120, 121, 122, 65, 66, 67, 68, 69, 70, 71, 72, 73, 74, 75, 76, 77, 78, 79, 80, 81, 82, 83, 84, 85, 86, 87, 88, 89, 90, 43]
theorem first_mem : ∀ c : UInt8, firstB.contains c = (Ru.letter c || c == 43) := by
 have h : ∀ i : Fin 256, firstB.contains (UInt8.ofNat i.val) = (Ru.letter (UInt8.ofNat i.val) || (UInt8.ofNat i.val) == 43) := by decide +kernel
 intro c
 have := h ⟨c.toNat, c.toNat_lt⟩
 simpa using this
theorem first_any (c : UInt8) (w : World) : Calls Tryz.prog 54 #[str firstB, str [c]] w fun e w' => e = .returned (.bool (Ru.letter c || c == 43)) ∧ w' = w := by
 have h := Tryz.strings_Contains_one ⟨firstB.toArray⟩ c w
 rw [data_str, index_mem, first_mem] at h
 exact h
theorem nameR_cons (c : UInt8) (l : List UInt8) : Ru.nameR (c :: l) = (decide ((c :: l).length ≤ 16) && (c :: l).all Ru.nameC && (Ru.letter c || c == 43)) := rfl
set_option maxHeartbeats 1000000 in
set_option maxRecDepth 100000 in
theorem right_nil (w : World) : Calls Tryz.prog 33 #[str []] w fun e w' => e = .returned (.bool false) ∧ Kp w w' none := by
 go_enter Tryz.func33, Tryz.ntmps33
 go_wp2_with fail
 go_ret
 exact ⟨rfl, Kp.refl _ _⟩
set_option maxHeartbeats 1000000 in
set_option maxRecDepth 100000 in
theorem right_long (c : UInt8) (l : List UInt8) (h : 16 < (c :: l).length) (hm : (c :: l).length ≤ 140737488355328) (w : World) : Calls Tryz.prog 33 #[str (c :: l)] w fun e w' => e = .returned (.bool false) ∧ Kp w w' none := by
 have hs : (⟨(c :: l).toArray⟩ : ByteArray).size = (c :: l).length := size_str _
 have hx : (c :: l).toArray.isEmpty = false := rfl
 obtain ⟨s, he⟩ : ∃ s, (⟨(c :: l).toArray⟩ : ByteArray) = s := ⟨_, rfl⟩
 show Calls Tryz.prog 33 #[.string ⟨(c :: l).toArray⟩] w _
 rw [he] at hs ⊢
 have hne : s.toList.isEmpty = false := by rw [← he, ByteArray.toList_eq]; rfl
 have h1 : 16 < s.size := by omega
 have h2 : s.size ≤ 140737488355328 := by omega
 clear he hs hx
 go_enter Tryz.func33, Tryz.ntmps33
 go_wp2_with fail
 go_ret
 exact ⟨rfl, Kp.refl _ _⟩
set_option maxHeartbeats 1000000 in
set_option maxRecDepth 100000 in
theorem right_first (c : UInt8) (l : List UInt8) (h : (c :: l).length ≤ 16) (hc : (Ru.letter c || c == 43) = false) (w : World) : Calls Tryz.prog 33 #[str (c :: l)] w fun e w' => e = .returned (.bool false) ∧ Kp w w' none := by
 have hs : (⟨(c :: l).toArray⟩ : ByteArray).size = (c :: l).length := size_str _
 have hx : (⟨(c :: l).toArray⟩ : ByteArray).extract 0 1 = ⟨[c].toArray⟩ := by
  apply ByteArray.ext; simp
 obtain ⟨s, he⟩ : ∃ s, (⟨(c :: l).toArray⟩ : ByteArray) = s := ⟨_, rfl⟩
 show Calls Tryz.prog 33 #[.string ⟨(c :: l).toArray⟩] w _
 rw [he] at hs hx ⊢
 have hne : s.toList.isEmpty = false := by rw [← he, ByteArray.toList_eq]; rfl
 have h1 : ¬ 16 < s.size := by omega
 have h2 : 1 ≤ s.size := by simp at hs; omega
 have c1 : ∀ v, Calls Tryz.prog 54 #[str firstB, .string (s.extract 0 1)] v fun e w' => e = .returned (.bool false) ∧ w' = v := fun v => by rw [hx, ← hc]; exact first_any c v
 clear he hs hx hc
 go_enter Tryz.func33, Tryz.ntmps33
 go_wp2_with (go_at_call 54; refine (c1 _).mono ?_; rintro e w' ⟨rfl, rfl⟩)
 go_ret
 exact ⟨rfl, Kp.refl _ _⟩
set_option maxHeartbeats 1000000 in
set_option maxRecDepth 100000 in
theorem right_all (c : UInt8) (l : List UInt8) (h : (c :: l).length ≤ 16) (hc : (Ru.letter c || c == 43) = true) (w : World) : Calls Tryz.prog 33 #[str (c :: l)] w fun e w' => e = .returned (.bool ((c :: l).all Ru.nameC)) ∧ Kp w w' none := by
 have hs : (⟨(c :: l).toArray⟩ : ByteArray).size = (c :: l).length := size_str _
 have hx : (⟨(c :: l).toArray⟩ : ByteArray).extract 0 1 = ⟨[c].toArray⟩ := by
  apply ByteArray.ext; simp
 have hi := idx_names (c :: l)
 obtain ⟨t, ht⟩ : ∃ t, (c :: l).all Ru.nameC = t := ⟨_, rfl⟩
 rw [ht] at hi ⊢
 obtain ⟨s, he⟩ : ∃ s, (⟨(c :: l).toArray⟩ : ByteArray) = s := ⟨_, rfl⟩
 show Calls Tryz.prog 33 #[.string ⟨(c :: l).toArray⟩] w _
 rw [he] at hs hx hi ⊢
 have hne : s.toList.isEmpty = false := by rw [← he, ByteArray.toList_eq]; rfl
 have h1 : ¬ 16 < s.size := by omega
 have h2 : 1 ≤ s.size := by simp at hs; omega
 have c1 : ∀ v, Calls Tryz.prog 54 #[str firstB, .string (s.extract 0 1)] v fun e w' => e = .returned (.bool true) ∧ w' = v := fun v => by rw [hx, ← hc]; exact first_any c v
 have c2 : Calls Tryz.prog 55 #[.string s, .func (.func 56) #[] #[.pointer (some ⟨w.heap.size, 0, none⟩)]] (w.alloc (.cells #[.string nameB] 9)) fun e w' => e = .returned (.int .i64 (Lib.idxFunc notName true s)) ∧ Kp (w.alloc (.cells #[.string nameB] 9)) w' none :=
  (Tryz.strings_IndexFunc_grows 56 #[.pointer (some ⟨w.heap.size, 0, none⟩)] (enters_of Tryz.func56 (by kernel_rfl) rfl) notName s (w.alloc (.cells #[.string nameB] 9)) (fun W x hx hb => right1_any x hx w.heap.size W (by
   rw [hb.cell (p := ⟨w.heap.size, 0, none⟩) (by simp)]
   simp))).mono fun e w' ⟨h1, h2⟩ => ⟨h1, Kp.of_below h2⟩
 clear he hs hx hc ht
 obtain ⟨n, hn⟩ : ∃ n, Lib.idxFunc notName true s = n := ⟨_, rfl⟩
 rw [hn] at c2 hi
 have HI := Lib.hid hi
 clear hi hn
 go_enter Tryz.func33, Tryz.ntmps33
 go_wp2_with (first | (go_at_call 54; refine (c1 _).mono ?_; rintro e w' ⟨rfl, rfl⟩) | (go_at_call 55; refine c2.mono ?_; rintro e w' ⟨rfl, hk⟩))
 go_ret
 exact ⟨(by first | rfl | (show Ending.returned (.bool (decide (n < 0))) = _; rw [HI.out])), ((Kp.refl _ _).alloc _).trans hk⟩
theorem right_any (s : List UInt8) (hm : s.length ≤ 140737488355328) (w : World) : Calls Tryz.prog 33 #[str s] w fun e w' => e = .returned (.bool (Ru.nameR s)) ∧ Kp w w' none := by
 cases s with
 | nil => exact right_nil w
 | cons c l =>
  rw [nameR_cons]
  by_cases h : (c :: l).length ≤ 16
  ·rw [decide_eq_true h, Bool.true_and]
   cases hc : (Ru.letter c || c == 43) with
   | false => rw [Bool.and_false]; exact right_first c l h hc w
   | true => rw [Bool.and_true]; exact right_all c l h hc w
  ·rw [decide_eq_false h, Bool.false_and, Bool.false_and]
   exact right_long c l (by omega) hm w
end Go.Proofs.YtnchipahdfbliaaGreatDoor

namespace Go.Proofs.YtnchipahdfbliaaGreatDoor
open Go.RowKit

/-- What index returns. -/
def IdxIs (s : List UInt8) (w : World) (e : Ending) (w' : World) : Prop :=
 (∃ n b, e = .returned (.tuple #[.int .i64 n, .bool b]) ∧ ((b = true ∧ Ru.idx s = some n) ∨ (b = false ∧ Ru.idx s = none))) ∧ Kp w w' none
theorem parse_ok {s : List UInt8} {v : Int} (h : Lib.atoiAll s = .ok v) : Wr.parse s = if Lib.itoa v = s then some v else none := by unfold Wr.parse; rw [h]
theorem parse_no {s : List UInt8} (h : ∀ v, Lib.atoiAll s ≠ .ok v) : Wr.parse s = none := by
 unfold Wr.parse
 split
 ·rename_i v hv; exact absurd hv (h v)
 ·rfl
theorem idx_none {s : List UInt8} (h : Wr.parse s = none) : Ru.idx s = none := by unfold Ru.idx; rw [h]
theorem idx_some {s : List UInt8} {n : Int} (h : Wr.parse s = some n) : Ru.idx s = if 0 ≤ n ∧ n ≤ 999 then some n else none := by unfold Ru.idx; rw [h]

set_option maxHeartbeats 2000000 in
set_option maxRecDepth 100000 in
theorem index_any (s : List UInt8) (hs : s.length ≤ 140737488355328) (w : World) (he : Env w) : Calls Tryz.prog 114 #[str s] w (IdxIs s w) := by
 have ca := atoi_any s w he (by omega)
 have HE := Lib.hid he
 by_cases ho : ∃ v, Lib.atoiAll s = .ok v
 ·obtain ⟨v, hv⟩ := ho
  have hr := Wr.atoi_range hv
  have hp := parse_ok hv
  have ca2 : Calls Tryz.prog 100 #[str s] w fun e w' => e = .returned (.tuple #[.int .i64 v, .nilIface]) ∧ Kp w w' none := ca.mono fun e w' ⟨h, hk⟩ => by
   rcases h with ⟨v', h1, rfl⟩ | ⟨v', N, h1, _⟩
   ·rw [hv] at h1; injection h1 with h1; subst h1; exact ⟨rfl, hk⟩
   ·exact absurd hv (h1 v)
  have HV := Lib.hid hv
  have HR := Lib.hid hr
  clear ca hv he
  by_cases h0 : 0 ≤ v
  ·by_cases h9 : v ≤ 999
   ·have ci := fun u (hu : Kp w u none) => itoa_any v u (HE.out.kp0 hu) HR.out
    by_cases heq : Lib.itoa v = s
    ·rw [if_pos heq] at hp
     have hi : Ru.idx s = some v := by rw [idx_some hp, if_pos ⟨h0, h9⟩]
     have hb : (Lib.itoa v == s) = true := by rw [heq]; simp
     have HI := Lib.hid hi
     clear hi hp
     obtain ⟨t, ht⟩ : ∃ t, Lib.itoa v = t := ⟨_, rfl⟩
     rw [ht] at hb
     simp only [ht] at ci
     clear heq ht hr
     show Calls Tryz.prog 114 #[.string ⟨s.toArray⟩] w _
     go_enter Tryz.func114, Tryz.ntmps114
     go_wp2_with (first | (go_at_call 100; refine ca2.mono ?_; rintro e w1 ⟨rfl, hk1⟩) | (go_at_call 40; refine (ci _ hk1).mono ?_; rintro e w2 ⟨rfl, hk2⟩))
     go_ret2
     exact ⟨⟨v, true, rfl, .inl ⟨rfl, HI.out⟩⟩, hk1.trans hk2⟩
    ·rw [if_neg heq] at hp
     have hi : Ru.idx s = none := idx_none hp
     have hb : (Lib.itoa v == s) = false := by simpa using heq
     have HI := Lib.hid hi
     clear hi hp
     obtain ⟨t, ht⟩ : ∃ t, Lib.itoa v = t := ⟨_, rfl⟩
     rw [ht] at hb
     simp only [ht] at ci
     clear heq ht hr
     show Calls Tryz.prog 114 #[.string ⟨s.toArray⟩] w _
     go_enter Tryz.func114, Tryz.ntmps114
     go_wp2_with (first | (go_at_call 100; refine ca2.mono ?_; rintro e w1 ⟨rfl, hk1⟩) | (go_at_call 40; refine (ci _ hk1).mono ?_; rintro e w2 ⟨rfl, hk2⟩))
     go_ret2
     exact ⟨⟨v, false, rfl, .inr ⟨rfl, HI.out⟩⟩, hk1.trans hk2⟩
   ·have hi : Ru.idx s = none := by
     by_cases heq : Lib.itoa v = s
     ·rw [if_pos heq] at hp; rw [idx_some hp, if_neg (by omega)]
     ·rw [if_neg heq] at hp; exact idx_none hp
    have HI := Lib.hid hi
    clear hi hp hr
    show Calls Tryz.prog 114 #[.string ⟨s.toArray⟩] w _
    go_enter Tryz.func114, Tryz.ntmps114
    go_wp2_with (go_at_call 100; refine ca2.mono ?_; rintro e w1 ⟨rfl, hk1⟩)
    go_ret2
    exact ⟨⟨v, false, rfl, .inr ⟨rfl, HI.out⟩⟩, hk1⟩
  ·have hi : Ru.idx s = none := by
    by_cases heq : Lib.itoa v = s
    ·rw [if_pos heq] at hp; rw [idx_some hp, if_neg (by omega)]
    ·rw [if_neg heq] at hp; exact idx_none hp
   have HI := Lib.hid hi
   clear hi hp hr
   show Calls Tryz.prog 114 #[.string ⟨s.toArray⟩] w _
   go_enter Tryz.func114, Tryz.ntmps114
   go_wp2_with (go_at_call 100; refine ca2.mono ?_; rintro e w1 ⟨rfl, hk1⟩)
   go_ret2
   exact ⟨⟨v, false, rfl, .inr ⟨rfl, HI.out⟩⟩, hk1⟩
 ·have hn : ∀ v, Lib.atoiAll s ≠ .ok v := fun v hv => ho ⟨v, hv⟩
  have HI := Lib.hid (idx_none (parse_no hn))
  have ca2 : Calls Tryz.prog 100 #[str s] w fun e w' => (∃ v N, e = .returned (.tuple #[.int .i64 v, .iface 168 (.pointer (some ⟨N, 0, none⟩))])) ∧ Kp w w' none := ca.mono fun e w' ⟨h, hk⟩ => by
   rcases h with ⟨v', h1, _⟩ | ⟨v', N, _, rfl⟩
   ·exact absurd h1 (hn v')
   ·exact ⟨⟨v', N, rfl⟩, hk⟩
  clear ca ho hn he
  show Calls Tryz.prog 114 #[.string ⟨s.toArray⟩] w _
  go_enter Tryz.func114, Tryz.ntmps114
  go_wp2_with (go_at_call 100; refine ca2.mono ?_; rintro e w1 ⟨⟨v, N, rfl⟩, hk1⟩)
  go_ret2
  exact ⟨⟨v, false, rfl, .inr ⟨rfl, HI.out⟩⟩, hk1⟩
end Go.Proofs.YtnchipahdfbliaaGreatDoor

namespace Go.Proofs.YtnchipahdfbliaaGreatDoor
open Go.RowKit

theorem own_lies {α : Type} {m : Nat} {f : α → List Value} (hm : ∀ x, (f x).length = m) {w : World} {base : Nat} {e : TypeId} {ao : Option Addr} {n cap : Nat} {xs : List α} (h : w.ownsRow base e m (.slice ao n cap) xs.length (xs.flatMap f)) : n = xs.length ∧ LiesAt m f w ao cap xs := by
 obtain ⟨ao2, cap2, e2, hl⟩ := (isList_own hm h).form
 injection e2 with e1 e2 e3
 subst e1; subst e2; subst e3
 exact ⟨rfl, hl⟩
theorem own_slice {w : World} {base size n : Nat} {e : TypeId} {v : Value} {row : List Value} (h : w.ownsRow base e size v n row) : ∃ ao cap, v = .slice ao n cap := by
 rcases h.2 with ⟨rfl, rfl⟩ | ⟨g, cap, _, rfl, _⟩
 ·exact ⟨none, 0, rfl⟩
 ·exact ⟨_, _, rfl⟩
theorem hcell {w : World} {b : Nat} {T : TypeId} {cs : Array Value} (h : w.heap[b]? = some (.cells cs T (0, 0))) (i : Nat) {v : Value} (hv : cs[i]? = some v) : w.cell? ⟨b, i, none⟩ = some v := ckr h (Kp.refl w none) (by simp) i hv
theorem res_kept {w w' : World} {R : Nat} {o : Obj} {rb : Option Nat} (h : w.heap[R]? = some o) (k : Kp w w' rb) (hR : ∀ q, rb = some q → q ≠ R) : w'.heap[R]? = some o := (k.block R (lt_of_block h) (fun e => hR R e.symm rfl)).trans h
theorem res_set {w : World} {R A i : Nat} {o : Obj} {v : Value} (h : w.heap[R]? = some o) (hR : R ≠ A) : (w.setCell ⟨A, i, none⟩ v).heap[R]? = some o := (((Kp.refl w (some A)).set v).block R (lt_of_block h) (by simp; omega)).trans h
theorem ext_take (t : List UInt8) (n : Nat) : (⟨t.toArray⟩ : ByteArray).extract 0 n = ⟨(t.take n).toArray⟩ := by
 apply ByteArray.ext; rw [ByteArray.data_extract]; simp
theorem ext_mid (t : List UInt8) (a b : Nat) : (⟨t.toArray⟩ : ByteArray).extract a b = ⟨((t.take b).drop a).toArray⟩ := by
 apply ByteArray.ext; rw [ByteArray.data_extract]; simp [List.drop_take]
theorem ext_drop (t : List UInt8) (n : Nat) : (⟨t.toArray⟩ : ByteArray).extract n t.length = ⟨(t.drop n).toArray⟩ := by
 rw [ext_mid, List.take_length]
theorem info9 : (Tryz.prog.info? 9).map (fun i => (i.zero, i.size, i.bytes)) = some (some (.string ⟨#[]⟩), 1, 16) := by kernel_rfl
/-- A block of one string. -/
theorem str_list {w : World} (s : List UInt8) : IsStrs (w.alloc (.cells #[str s] 9)) (.slice (some ⟨w.heap.size, 0, none⟩) 1 1) [s] := by
 refine .inr ⟨w.heap.size, 0, 1, rfl, by simp, by simp, fun k hk j hj => ?_⟩
 have e1 : k = 0 := by simp at hk; omega
 have e2 : j = 0 := by simp [strVal] at hj; omega
 subst e1 e2
 have := Lib.cell_of_heap (heap_alloc_new w (.cells #[str s] 9)) 0
 simp [strVal]
/-- A block of strings. -/
theorem strs_list {w : World} (l : List (List UInt8)) (T : TypeId) : IsStrs (w.alloc (.cells (l.map str).toArray T)) (.slice (some ⟨w.heap.size, 0, none⟩) l.length l.length) l := by
 refine .inr ⟨w.heap.size, 0, l.length, rfl, by simp, by simp, fun k hk j hj => ?_⟩
 have e2 : j = 0 := by simp [strVal] at hj; omega
 subst e2
 have := Lib.cell_of_heap (heap_alloc_new w (.cells (l.map str).toArray T)) k
 simp only [Nat.mul_one, Nat.zero_add, Nat.add_zero]
 rw [this]
 simp [strVal, hk]
theorem LiesAt.str {w : World} {ao : Option Addr} {cap : Nat} {xs : List (List UInt8)} (h : LiesAt 1 strVal w ao cap xs) (k : Nat) (hk : k < xs.length) : ∃ b off, ao = some ⟨b, off, none⟩ ∧ b < w.heap.size ∧ xs.length ≤ cap ∧ ∀ i, (hi : i < xs.length) → w.cell? ⟨b, off + i, none⟩ = some (Go.Proofs.YtnchipahdfbliaaGreatDoor.str xs[i]) := by
 obtain ⟨b, off, rfl, hb, hc, _⟩ := h k hk
 refine ⟨b, off, rfl, hb, hc, fun i hi => ?_⟩
 obtain ⟨b', off', e, _, _, hr⟩ := h i hi
 injection e with e
 injection e with e1 e2
 subst e1; subst e2
 have := hr 0 (by simp [strVal])
 simpa [strVal] using this
theorem cmp_sign (a b : Int) (w : World) : Calls Tryz.prog 115 #[.int .i64 a, .int .i64 b] w fun e w' => e = .returned (.int .i64 (if a < b then -1 else if b < a then 1 else 0)) ∧ w' = w := Tryz.cmp_Compare_int a b w
theorem own_kp {w w' : World} {base size n : Nat} {e : TypeId} {v : Value} {xs : List Value} (h : w.ownsRow base e size v n xs) (k : Kp w w' none) : w'.ownsRow base e size v n xs := h.kept k (by cases v.ownBlock; exact .inl rfl; exact .inr (by simp))
end Go.Proofs.YtnchipahdfbliaaGreatDoor
