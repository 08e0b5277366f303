/- The reference's Norm, Join, Less, Meet, Has. Condition: at most 2^16 rectangles in each list. -/
import Derived.Test.YtpakiabnhdoijaaCo
namespace Go.Proofs.Ytpakiabnhdoijaa
open Go.RowKit

theorem isRects_nil (w : World) : IsRects w (.slice none 0 0) [] := .inl ⟨none, 0, rfl, rfl⟩
theorem OwnRects.is {w w' : World} {E : Ending} {xs : List Rc.Rect} (h : OwnRects w E w' xs) : ∃ u, E = .returned u ∧ IsRects w' u xs ∧ Kp w w' none := by
  obtain ⟨u, rfl, ho, hk⟩ := h
  exact ⟨u, rfl, isList_own (m := 4) (f := recVal) (fun _ => rfl) ho, hk⟩

set_option maxHeartbeats 1000000 in
theorem normR_any (v : Value) (a : List Rc.Rect) (w : World) (ha : IsRects w v a) (hl : a.length ≤ 65536) :
    Calls Try.prog 16 #[v] w fun E w' => OwnRects w E w' (Rc.norm a) := by
  have C := combineR_any 1 (.inl rfl) v (.slice none 0 0) a [] w ha (isRects_nil w) hl (by simp)
  have e : kindOf 1 = Rc.kJoin := rfl
  rw [e] at C
  clear ha
  go_enter Try.func16, Try.ntmps16
  go_wp2_with fail
  refine C.mono ?_
  rintro E w1 ⟨u, rfl, h⟩
  have H := Lib.hid h
  clear h
  go_wp2_with fail
  go_ret
  exact ⟨u, rfl, H.out⟩

set_option maxHeartbeats 1000000 in
theorem joinR_any (va vb : Value) (a b : List Rc.Rect) (w : World) (ha : IsRects w va a) (hb : IsRects w vb b) (hla : a.length ≤ 65536) (hlb : b.length ≤ 65536) :
    Calls Try.prog 25 #[va, vb] w fun E w' => OwnRects w E w' (Rc.comb Rc.kJoin a b) := by
  have C := combineR_any 1 (.inl rfl) va vb a b w ha hb hla hlb
  have e : kindOf 1 = Rc.kJoin := rfl
  rw [e] at C
  clear ha hb
  go_enter Try.func25, Try.ntmps25
  go_wp2_with fail
  refine C.mono ?_
  rintro E w1 ⟨u, rfl, h⟩
  have H := Lib.hid h
  clear h
  go_wp2_with fail
  go_ret
  exact ⟨u, rfl, H.out⟩

set_option maxHeartbeats 1000000 in
theorem meetR_any (va vb : Value) (a b : List Rc.Rect) (w : World) (ha : IsRects w va a) (hb : IsRects w vb b) (hla : a.length ≤ 65536) (hlb : b.length ≤ 65536) :
    Calls Try.prog 27 #[va, vb] w fun E w' => OwnRects w E w' (Rc.comb Rc.kMeet a b) := by
  have C := combineR_any 3 (.inr (.inr rfl)) va vb a b w ha hb hla hlb
  have e : kindOf 3 = Rc.kMeet := rfl
  rw [e] at C
  clear ha hb
  go_enter Try.func27, Try.ntmps27
  go_wp2_with fail
  refine C.mono ?_
  rintro E w1 ⟨u, rfl, h⟩
  have H := Lib.hid h
  clear h
  go_wp2_with fail
  go_ret
  exact ⟨u, rfl, H.out⟩

set_option maxHeartbeats 1000000 in
theorem lessR_any (va vb : Value) (a b : List Rc.Rect) (w : World) (ha : IsRects w va a) (hb : IsRects w vb b) (hla : a.length ≤ 65536) (hlb : b.length ≤ 65536) :
    Calls Try.prog 29 #[va, vb] w fun E w' => OwnRects w E w' (Rc.comb Rc.kLess a b) := by
  have C := combineR_any 2 (.inr (.inl rfl)) va vb a b w ha hb hla hlb
  have e : kindOf 2 = Rc.kLess := rfl
  rw [e] at C
  clear ha hb
  go_enter Try.func29, Try.ntmps29
  go_wp2_with fail
  refine C.mono ?_
  rintro E w1 ⟨u, rfl, h⟩
  have H := Lib.hid h
  clear h
  go_wp2_with fail
  go_ret
  exact ⟨u, rfl, H.out⟩

set_option maxHeartbeats 1000000 in
theorem hasR_any (v : Value) (a : List Rc.Rect) (x y : Int) (w : World) (ha : IsRects w v a) (hl : a.length ≤ 65536) :
    Calls Try.prog 20 #[v, .int .i64 x, .int .i64 y] w fun E w' => E = .returned (.bool (Rc.cov (Rc.set a) x y)) ∧ Kp w w' none := by
  have C := rset_any v a w ha hl
  have hs := set_many a
  clear ha
  obtain ⟨s, hse⟩ : ∃ s, Rc.set a = s := ⟨_, rfl⟩
  rw [hse] at C hs ⊢
  clear hse
  go_enter Try.func20, Try.ntmps20
  go_wp2_with fail
  refine C.mono ?_
  rintro E w1 ⟨u, rfl, h, k1⟩
  have H := Lib.hid h
  have K1 := Lib.hid k1
  clear h k1
  go_wp2_with fail
  refine (covers_any u s x y w1 H.out (by omega)).mono ?_
  rintro E w2 ⟨rfl, rfl⟩
  go_wp2_with fail
  go_ret
  exact ⟨rfl, K1.out⟩

end Go.Proofs.Ytpakiabnhdoijaa
