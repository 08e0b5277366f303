/- The chapter's examples, walked: they are as the document says. No condition but what the library's variables hold. -/
import Derived.Test.YtfcbogoahangoaaDoorDc
import Derived.Test.YtfcbogoahangoaaDoorSm
namespace Go.Proofs.YtfcbogoahangoaaDoor
open Go.RowKit

theorem wint_lit (n : Int) (l : List UInt8) (w : World) (he : Env w) (hn : Wr.I64 n) (h : Wr.wInt n = l) : Calls Tryd.prog 12 #[.int .i64 n] w fun e w' => e = .returned (.string ⟨l.toArray⟩) ∧ Kp w w' none := h ▸ wint_any n w he hn
theorem wtext_lit (s l : List UInt8) (w : World) (he : Env w) (hn : s.length < 2147483648) (h : Wr.wText s = l) : Calls Tryd.prog 14 #[.string ⟨s.toArray⟩] w fun e w' => e = .returned (.string ⟨l.toArray⟩) ∧ Kp w w' none := h ▸ wtext_any s w he hn
theorem wints_lit (v : Value) (xs : List Int) (l : List UInt8) (w : World) (he : Env w) (h : IsRow w v (xs.map vInt)) (hI : ∀ x ∈ xs, Wr.I64 x) (hl : xs.length < 65536) (hw : Wr.wInts xs = l) :
    Calls Tryd.prog 16 #[v] w (fun e w' => e = .returned (.string ⟨l.toArray⟩) ∧ Kp w w' none) := hw ▸ wints_any v xs w he h hI hl
theorem wtexts_lit (v : Value) (xs : List (List UInt8)) (l : List UInt8) (w : World) (he : Env w) (h : IsRow w v (xs.map vStr)) (hI : ∀ x ∈ xs, x.length ≤ 1048576) (hl : xs.length < 65536) (hw : Wr.wTexts xs = l) :
    Calls Tryd.prog 18 #[v] w (fun e w' => e = .returned (.string ⟨l.toArray⟩) ∧ Kp w w' none) := hw ▸ wtexts_any v xs w he h hI hl

theorem itoa25 : Lib.itoa 25 = [50, 53] := by unfold Lib.itoa; rw [if_neg (by omega), show (25 : Int).toNat = 25 from rfl, Wr.dec_big (by omega), Wr.dec_small (by omega)]; rfl
theorem e0 : Wr.wInt 0 = [48, 59] := by unfold Wr.wInt; rw [itoa_digit (n := 0) (by omega) (by omega)]; rfl
theorem e1 : Wr.wInt (-1) = [45, 49, 59] := by unfold Wr.wInt; rw [itoa_neg_small (by omega) (by omega), Int.neg_neg, itoa_digit (n := 1) (by omega) (by omega)]; rfl
theorem e2 : Wr.wInt 250 = [50, 53, 48, 59] := by unfold Wr.wInt; rw [itoa_big (by omega), show (250 : Int) / 10 = 25 by rfl, itoa25, show (250 : Int) % 10 = 0 by rfl, itoa_digit (n := 0) (by omega) (by omega)]; rfl
theorem e3 : Wr.wText [97, 98] = [50, 58, 97, 98] := by unfold Wr.wText; rw [show (([97, 98] : List UInt8).length : Int) = 2 by rfl, itoa_digit (n := 2) (by omega) (by omega)]; rfl
theorem e4 : Wr.wText [] = [48, 58] := by unfold Wr.wText; rw [show (([] : List UInt8).length : Int) = 0 by rfl, itoa_digit (n := 0) (by omega) (by omega)]; rfl
theorem f1 : Wr.wInt 1 = [49, 59] := by unfold Wr.wInt; rw [itoa_digit (n := 1) (by omega) (by omega)]; rfl
theorem f2 : Wr.wInt (-2) = [45, 50, 59] := by unfold Wr.wInt; rw [itoa_neg_small (by omega) (by omega), Int.neg_neg, itoa_digit (n := 2) (by omega) (by omega)]; rfl
theorem f3 : Wr.wInt 3 = [51, 59] := by unfold Wr.wInt; rw [itoa_digit (n := 3) (by omega) (by omega)]; rfl
theorem f4 : Wr.wText [97] = [49, 58, 97] := by unfold Wr.wText; rw [show (([97] : List UInt8).length : Int) = 1 by rfl, itoa_digit (n := 1) (by omega) (by omega)]; rfl
theorem e5 : Wr.wInts [1, -2] = [91, 49, 59, 45, 50, 59, 93] := by unfold Wr.wInts; simp only [List.flatMap_cons, List.flatMap_nil, f1, f2]; rfl
theorem e6 : Wr.wInts [] = [91, 93] := rfl
theorem e7 : Wr.wTexts [[], [97]] = [91, 48, 58, 49, 58, 97, 93] := by unfold Wr.wTexts; simp only [List.flatMap_cons, List.flatMap_nil, e4, f4]; rfl
theorem g0 : (some [91, 49, 59, 45, 50, 59, 93, 51, 59] : Option (List UInt8)).bind Wr.pInts = some ([1, -2], [51, 59]) := by
  have := Wr.ints_codec.inv [1, -2] [51, 59] (by simp [Wr.I64])
  rw [e5] at this; exact this
theorem g1 : (some [51, 59] : Option (List UInt8)).bind Wr.pInt = some (3, []) := by
  have := Wr.int_codec.inv 3 [] (by simp [Wr.I64])
  rw [f3] at this; exact this

theorem parse_no {d : List UInt8} {m : Int} (h : Lib.atoiAll d = .ok m) (h2 : Lib.itoa m ≠ d) : Wr.parse d = none := by
  unfold Wr.parse; rw [h]; exact if_neg h2
theorem p1 : Wr.parse [48, 49] = none := parse_no (m := 1) (by decide) (by rw [itoa_digit (n := 1) (by omega) (by omega)]; decide)
theorem p2 : Wr.parse [43, 49] = none := parse_no (m := 1) (by decide) (by rw [itoa_digit (n := 1) (by omega) (by omega)]; decide)
theorem p3 : Wr.parse [45, 48] = none := parse_no (m := 0) (by decide) (by rw [itoa_digit (n := 0) (by omega) (by omega)]; decide)
theorem p4 : Wr.parse [51] = some 3 := Wr.parse_some.2 ⟨(itoa_digit (n := 3) (by omega) (by omega)).symm, by unfold Wr.I64; omega⟩
theorem undec_of (c : UInt8) (l : List UInt8) (hc : c ≠ 91) (h0 : Wr.pInt (c :: l) = none) (h1 : Wr.pText (c :: l) = none) (k : Nat) : Undec k (some (c :: l)) := by
  unfold Undec
  split
  · exact h0
  · exact h1
  · simp [Wr.pInts, Wr.pList, hc]
  · simp [Wr.pTexts, Wr.pList, hc]
theorem u1 (k : Nat) : Undec k (some [48, 49, 59]) := undec_of _ _ (by decide) (by simp [Wr.pInt, Wr.pNum, Wr.cut1, p1]) (by simp [Wr.pText, Wr.pNum, Wr.cut1]) k
theorem u2 (k : Nat) : Undec k (some [43, 49, 59]) := undec_of _ _ (by decide) (by simp [Wr.pInt, Wr.pNum, Wr.cut1, p2]) (by simp [Wr.pText, Wr.pNum, Wr.cut1]) k
theorem u3 (k : Nat) : Undec k (some [45, 48, 59]) := undec_of _ _ (by decide) (by simp [Wr.pInt, Wr.pNum, Wr.cut1, p3]) (by simp [Wr.pText, Wr.pNum, Wr.cut1]) k
theorem u4 (k : Nat) : Undec k (some [49]) := undec_of _ _ (by decide) (by simp [Wr.pInt, Wr.pNum, Wr.cut1]) (by simp [Wr.pText, Wr.pNum, Wr.cut1]) k
theorem u5 (k : Nat) : Undec k (some [51, 58, 97, 98]) := undec_of _ _ (by decide) (by simp [Wr.pInt, Wr.pNum, Wr.cut1]) (by simp [Wr.pText, Wr.pNum, Wr.cut1, p4]) k

theorem own_isRow {w : World} {base : Nat} {e : TypeId} {v : Value} {n : Nat} {xs : List Value} (h : w.ownsRow base e 1 v n xs) : IsRow w v xs := by
  obtain ⟨hl, h⟩ := h
  rw [Nat.mul_one] at hl
  rcases h with ⟨rfl, h0⟩ | ⟨g, cap, cur, rfl, hg, hh, hc, hm, hs, ht⟩
  · exact .inl ⟨_, _, rfl, List.eq_nil_of_length_eq_zero (by omega)⟩
  · rw [Nat.mul_one] at hs ht
    refine .inr ⟨g, 0, cap, by rw [hl], by omega, lt_of_block hh, fun i hi => ?_⟩
    rw [Nat.zero_add, ← ht, List.getElem?_take, if_pos (by omega), Array.getElem?_toList]
    simp [World.cell?, hh]
theorem sameInts_same (a b : Value) (xs : List Int) (w : World) (ha : IsRow w a (xs.map vInt)) (hb : IsRow w b (xs.map vInt)) (hl : xs.length < 2147483648) : Calls Tryd.prog 26 #[a, b] w fun E w' => E = .returned (.bool true) ∧ ∃ n, w.drewN n = w' := by
  have := sameInts_any a b xs xs w ha hb hl
  rwa [decide_eq_true rfl] at this
theorem sameTexts_same (a b : Value) (xs : List (List UInt8)) (w : World) (ha : IsRow w a (xs.map vStr)) (hb : IsRow w b (xs.map vStr)) (hl : xs.length < 2147483648) : Calls Tryd.prog 29 #[a, b] w fun E w' => E = .returned (.bool true) ∧ ∃ n, w.drewN n = w' := by
  have := sameTexts_any a b xs xs w ha hb hl
  rwa [decide_eq_true rfl] at this
theorem two_isRow (w : World) (x y : Value) (T : TypeId) : IsRow (w.alloc (.cells #[x, y] T)) (.slice (some ⟨w.heap.size, 0, none⟩) 2 2) [x, y] := by
  refine .inr ⟨w.heap.size, 0, 2, rfl, Nat.le_refl _, by simp, fun i hi => ?_⟩
  simp only [World.cell?, heap_alloc_new]
  match i, hi with
  | 0, _ => rfl
  | 1, _ => rfl

set_option maxHeartbeats 2000000 in
set_option maxRecDepth 100000 in
theorem sanity_any (w : World) (he : Env w) : Calls Tryd.prog 10 #[] w fun E w' => E = .returned (.bool true) ∧ Kp w w' none := by
  have HE := Lib.hid he
  have K0 := Lib.hid (Kp.refl w none)
  clear he
  go_enter Tryd.func10, Tryd.ntmps10

  go_wp2_with fail
  refine (wint_lit 0 _ _ (HE.out.kp0 K0.out) (by unfold Wr.I64; omega) e0).mono ?_
  rintro e w1 ⟨rfl, k⟩
  have K1 := Lib.hid (K0.out.trans k)
  clear k
  go_wp2_with fail
  refine (wint_lit (-1) _ _ (HE.out.kp0 K1.out) (by unfold Wr.I64; omega) e1).mono ?_
  rintro e w2 ⟨rfl, k⟩
  have K2 := Lib.hid (K1.out.trans k)
  clear k
  go_wp2_with fail
  refine (wint_lit 250 _ _ (HE.out.kp0 K2.out) (by unfold Wr.I64; omega) e2).mono ?_
  rintro e w3 ⟨rfl, k⟩
  have K3 := Lib.hid (K2.out.trans k)
  clear k
  go_wp2_with fail
  refine (wtext_lit [97, 98] _ _ (HE.out.kp0 K3.out) (by simp) e3).mono ?_
  rintro e w4 ⟨rfl, k⟩
  have K4 := Lib.hid (K3.out.trans k)
  clear k
  go_wp2_with fail
  refine (wtext_lit [] _ _ (HE.out.kp0 K4.out) (by simp) e4).mono ?_
  rintro e w5 ⟨rfl, k⟩
  have K5 := Lib.hid (K4.out.trans k)
  clear k
  go_wp2_with fail
  refine (wints_lit _ [1, -2] _ _ (HE.out.kp0 (K5.out.alloc _)) (two_isRow _ _ _ _) (by simp [Wr.I64]) (by simp) e5).mono ?_
  rintro e w6 ⟨rfl, k⟩
  have K6 := Lib.hid (K5.out.alloc _ |>.trans k)
  clear k
  go_wp2_with fail
  refine (wints_lit _ [] _ _ (HE.out.kp0 K6.out) (.inl ⟨_, _, rfl, rfl⟩) (by simp) (by simp) e6).mono ?_
  rintro e w7 ⟨rfl, k⟩
  have K7 := Lib.hid (K6.out.trans k)
  clear k
  go_wp2_with fail
  refine (wtexts_lit _ [[], [97]] _ _ (HE.out.kp0 (K7.out.alloc _)) (two_isRow _ _ _ _) (by simp) (by simp) e7).mono ?_
  rintro e wa ⟨rfl, k⟩
  have KA := Lib.hid (K7.out.alloc _ |>.trans k)
  clear k
  go_wp2_with fail
  refine (new_any [91, 49, 59, 45, 50, 59, 93, 51, 59] _).mono ?_
  rintro e wb ⟨rfl, h, k⟩
  have HR := Lib.hid h
  have KR := Lib.hid k
  have hr : 6 ≤ wa.heap.size := by have := HE.out.big; have := KA.out.size; omega
  have ER := Lib.hid ((HE.out.kp0 KA.out).kp0 KR.out)
  clear h k
  go_wp2_with fail
  have hq := ints_any wa.heap.size _ wb ER.out hr (by simp) HR.out
  rw [g0] at hq
  refine hq.mono ?_
  clear hq
  rintro e wc ⟨⟨⟨v, rfl, hv⟩, h⟩, k⟩
  have HV := Lib.hid hv
  have HR2 := Lib.hid h
  have KR2 := Lib.hid (Kp.of_own KR.out k (Nat.le_refl _))
  have ER2 := Lib.hid ((HE.out.kp0 KA.out).kp0 KR2.out)
  clear hv h k
  go_wp2_with fail
  refine (left_any _ _ _ HR2.out).mono ?_
  rintro e w' ⟨rfl, rfl⟩
  go_wp2_with fail
  have hq := int_any wa.heap.size _ wc ER2.out hr (by simp) HR2.out
  rw [g1] at hq
  refine hq.mono ?_
  clear hq
  rintro e wd ⟨⟨rfl, h⟩, k⟩
  have HV3 := Lib.hid (own_isRow ((HV.out.kept k (.inr (own_ne HV.out HR.out.lt))).alloc (.cells #[.int .i64 1, .int .i64 (-2)] 3)))
  have HR3 := Lib.hid h
  have KR3 := Lib.hid (Kp.of_own KR2.out k (Nat.le_refl _))
  clear h k
  go_wp2_with fail

  refine (sameInts_same _ _ [1, -2] _ HV3.out (two_isRow _ _ _ _) (by simp)).mono ?_
  rintro e w4 ⟨rfl, n1, rfl⟩
  have HR4 := Lib.hid (HR3.out.keep (((Kp.refl wd none).alloc (.cells #[.int .i64 1, .int .i64 (-2)] 3)).drewN n1) (by simp))
  have K4 := Lib.hid ((KA.out.trans KR3.out).trans (((Kp.refl wd none).alloc (.cells #[.int .i64 1, .int .i64 (-2)] 3)).drewN n1))
  go_wp2_with fail
  refine (left_any _ _ _ HR4.out).mono ?_
  rintro e w' ⟨rfl, rfl⟩
  go_wp2_with fail
  refine (bad_any _ _ _ HR4.out).mono ?_
  rintro e w' ⟨rfl, rfl⟩
  go_wp2_with fail
  have hq := int_any wa.heap.size _ _ (HE.out.kp0 K4.out) hr (by simp) HR4.out
  rw [show (some [] : Option (List UInt8)).bind Wr.pInt = none from rfl] at hq
  refine hq.mono ?_
  clear hq
  rintro e w5 ⟨⟨rfl, h⟩, k⟩
  have HR5 := Lib.hid h
  have K5 := Lib.hid (Kp.of_own K4.out k (by have := KA.out.size; omega))
  clear h k
  go_wp2_with fail
  refine (bad_any _ _ _ HR5.out).mono ?_
  rintro e w' ⟨rfl, rfl⟩
  go_wp2_with fail
  refine (malformed_any [48, 49, 59] _ (HE.out.kp0 K5.out) (by simp) (fun k _ => u1 k)).mono ?_
  rintro e w6 ⟨rfl, k⟩
  have K6 := Lib.hid (K5.out.trans k)
  clear k
  go_wp2_with fail
  refine (malformed_any [43, 49, 59] _ (HE.out.kp0 K6.out) (by simp) (fun k _ => u2 k)).mono ?_
  rintro e w7 ⟨rfl, k⟩
  have K7 := Lib.hid (K6.out.trans k)
  clear k
  go_wp2_with fail
  refine (malformed_any [45, 48, 59] _ (HE.out.kp0 K7.out) (by simp) (fun k _ => u3 k)).mono ?_
  rintro e wa ⟨rfl, k⟩
  have KA := Lib.hid (K7.out.trans k)
  clear k
  go_wp2_with fail
  refine (malformed_any [49] _ (HE.out.kp0 KA.out) (by simp) (fun k _ => u4 k)).mono ?_
  rintro e wb ⟨rfl, k⟩
  have K9 := Lib.hid (KA.out.trans k)
  clear k
  go_wp2_with fail
  refine (malformed_any [51, 58, 97, 98] _ (HE.out.kp0 K9.out) (by simp) (fun k _ => u5 k)).mono ?_
  rintro e wc ⟨rfl, k⟩
  have K10 := Lib.hid (K9.out.trans k)
  clear k
  go_wp2_with fail
  go_ret
  exact ⟨rfl, K10.out⟩
end Go.Proofs.YtfcbogoahangoaaDoor
