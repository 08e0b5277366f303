/- The program's Norm, Join, Less, Meet. Condition: at most 2^16 rectangles in each list. -/
import Derived.Test.YtpakiabnhdoijaaOf
import Derived.Test.YtpakiabnhdoijaaNr
namespace Go.Proofs.Ytpakiabnhdoijaa
open Go.RowKit

set_option maxHeartbeats 1000000 in
theorem joinP_any (va vb : Value) (a b : List Rc.Rect) (w : World) (ha : IsRects w va a) (hb : IsRects w vb b) (hla : a.length ≤ 65536) (hlb : b.length ≤ 65536) :
    Calls Try.prog 24 #[va, vb] w fun E w' => OwnRects w E w' (Rc.comb Rc.kJoin a b) := by
  have C := ofP_any 43 (.inl rfl) va vb a b w ha hb hla hlb
  have e : kFun 43 = Rc.kJoin := rfl
  rw [e] at C
  clear ha hb
  go_enter Try.func24, Try.ntmps24
  go_wp2_with fail
  refine C.mono ?_
  rintro E w1 ⟨u, rfl, h⟩
  have H := Lib.hid h
  clear h
  go_wp2_with fail
  go_ret
  exact ⟨u, rfl, H.out⟩

set_option maxHeartbeats 1000000 in
theorem meetP_any (va vb : Value) (a b : List Rc.Rect) (w : World) (ha : IsRects w va a) (hb : IsRects w vb b) (hla : a.length ≤ 65536) (hlb : b.length ≤ 65536) :
    Calls Try.prog 26 #[va, vb] w fun E w' => OwnRects w E w' (Rc.comb Rc.kMeet a b) := by
  have C := ofP_any 45 (.inr (.inl rfl)) va vb a b w ha hb hla hlb
  have e : kFun 45 = Rc.kMeet := rfl
  rw [e] at C
  clear ha hb
  go_enter Try.func26, Try.ntmps26
  go_wp2_with fail
  refine C.mono ?_
  rintro E w1 ⟨u, rfl, h⟩
  have H := Lib.hid h
  clear h
  go_wp2_with fail
  go_ret
  exact ⟨u, rfl, H.out⟩

set_option maxHeartbeats 1000000 in
theorem lessP_any (va vb : Value) (a b : List Rc.Rect) (w : World) (ha : IsRects w va a) (hb : IsRects w vb b) (hla : a.length ≤ 65536) (hlb : b.length ≤ 65536) :
    Calls Try.prog 28 #[va, vb] w fun E w' => OwnRects w E w' (Rc.comb Rc.kLess a b) := by
  have C := ofP_any 46 (.inr (.inr rfl)) va vb a b w ha hb hla hlb
  have e : kFun 46 = Rc.kLess := rfl
  rw [e] at C
  clear ha hb
  go_enter Try.func28, Try.ntmps28
  go_wp2_with fail
  refine C.mono ?_
  rintro E w1 ⟨u, rfl, h⟩
  have H := Lib.hid h
  clear h
  go_wp2_with fail
  go_ret
  exact ⟨u, rfl, H.out⟩

set_option maxHeartbeats 1000000 in
theorem normP_any (v : Value) (a : List Rc.Rect) (w : World) (ha : IsRects w v a) (hl : a.length ≤ 65536) :
    Calls Try.prog 15 #[v] w fun E w' => OwnRects w E w' (Rc.norm a) := by
  have C := joinP_any v (.slice none 0 0) a [] w ha (isRects_nil w) hl (by simp)
  have e : Rc.comb Rc.kJoin a [] = Rc.norm a := rfl
  rw [e] at C
  clear ha
  go_enter Try.func15, Try.ntmps15
  go_wp2_with fail
  refine C.mono ?_
  rintro E w1 ⟨u, rfl, h⟩
  have H := Lib.hid h
  clear h
  go_wp2_with fail
  go_ret
  exact ⟨u, rfl, H.out⟩

end Go.Proofs.Ytpakiabnhdoijaa
