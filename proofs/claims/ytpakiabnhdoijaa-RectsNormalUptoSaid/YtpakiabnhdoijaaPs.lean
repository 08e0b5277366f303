/- The program's Right and set. Condition: at most 2^16 elements. -/
import Derived.Test.YtpakiabnhdoijaaPr
namespace Go.Proofs.Ytpakiabnhdoijaa
open Go.RowKit

set_option maxHeartbeats 1000000 in
theorem index35_nil (ao : Option Addr) (c : Nat) (w : World) : Calls Try.prog 47 #[.slice ao 0 c, .func (.func 35) #[] #[]] w fun E w' => E = .returned (.int .i64 (-1)) ∧ w = w' := by
  go_enter Try.func47, Try.ntmps47
  go_wp2_with fail
  go_loopw [8] (fun i wr => i = .int .i64 0 ∧ w = wr) (fun _ _ => 0)
  case atStart => exact ⟨rfl, rfl⟩
  case round =>
    obtain ⟨rfl, rfl⟩ := hrel
    go_wp2_with fail
    go_ret
    exact ⟨rfl, rfl⟩

theorem index35_any (v : Value) (xs : List Rc.Rect) (w : World) (h : IsRects w v xs) (hl : xs.length ≤ 65536) :
    Calls Try.prog 47 #[v, .func (.func 35) #[] #[]] w fun E w' => ∃ n : Int, E = .returned (.int .i64 n) ∧ Kp w w' none ∧ decide (0 ≤ n) = xs.any (fun r => decide (¬ r.ok)) := by
  rcases h with ⟨ao, cap, rfl, rfl⟩ | ⟨b, off, cap, rfl, hc, hb, hr⟩
  · refine (index35_nil ao cap w).mono ?_
    rintro E w' ⟨rfl, rfl⟩
    exact ⟨-1, rfl, Kp.refl _ _, rfl⟩
  · exact index35_row b off cap xs w hc hl hb hr

set_option maxHeartbeats 1000000 in
theorem contains35_any (v : Value) (xs : List Rc.Rect) (w : World) (h : IsRects w v xs) (hl : xs.length ≤ 65536) :
    Calls Try.prog 34 #[v, .func (.func 35) #[] #[]] w fun E w' => E = .returned (.bool (xs.any (fun r => decide (¬ r.ok)))) ∧ Kp w w' none := by
  have A := index35_any v xs w h hl
  generalize xs.any (fun r => decide (¬ r.ok)) = t at A ⊢
  clear h hl
  go_enter Try.func34, Try.ntmps34
  go_wp2_with fail
  refine A.mono ?_
  rintro E w1 ⟨n, rfl, k1, ht⟩
  have K1 := Lib.hid k1
  have HT := Lib.hid ht
  clear k1 ht
  go_wp2_with fail
  go_ret
  refine ⟨?_, K1.out⟩
  show Ending.returned (.bool (decide (0 ≤ n))) = _
  rw [HT.out]

theorem right_any_eq (xs : List Rc.Rect) (h : xs.length ≤ 4096) : decide (Rc.Right xs) = !(xs.any fun r => decide (¬ r.ok)) := by
  cases e : xs.any fun r => decide (¬ r.ok) with
  | true =>
    obtain ⟨r, hr, hb⟩ := List.any_eq_true.1 e
    exact decide_eq_false fun ⟨_, h2⟩ => (of_decide_eq_true hb) (h2 r hr)
  | false =>
    refine decide_eq_true ⟨h, fun r hr => ?_⟩
    have := List.any_eq_false.1 e r hr
    simpa using this

set_option maxHeartbeats 1000000 in
theorem right_any (v : Value) (xs : List Rc.Rect) (w : World) (h : IsRects w v xs) (hl : xs.length ≤ 65536) :
    Calls Try.prog 12 #[v] w fun E w' => E = .returned (.bool (decide (Rc.Right xs))) ∧ Kp w w' none := by
  have A := contains35_any v xs w h hl
  obtain ⟨ao, cap, rfl⟩ : ∃ ao cap, v = .slice ao xs.length cap := by
    rcases h with ⟨ao, cap, rfl, rfl⟩ | ⟨b, off, cap, rfl, _⟩
    · exact ⟨ao, cap, rfl⟩
    · exact ⟨_, cap, rfl⟩
  clear h
  by_cases hlong : xs.length ≤ 4096
  · have HQ := Lib.hid (right_any_eq xs hlong)
    generalize decide (Rc.Right xs) = q at HQ ⊢
    generalize xs.any (fun r => decide (¬ r.ok)) = t at A HQ
    have e := HQ.out
    subst e
    clear HQ
    have hlong' : (xs.length : Int) ≤ 4096 := by omega
    go_enter Try.func12, Try.ntmps12
    go_wp2_with fail
    refine A.mono ?_
    rintro E w1 ⟨rfl, k1⟩
    have K1 := Lib.hid k1
    clear k1
    go_wp2_with fail
    go_ret
    exact ⟨rfl, K1.out⟩
  · have e : decide (Rc.Right xs) = false := decide_eq_false fun ⟨h1, _⟩ => hlong h1
    rw [e]
    clear e A
    have hlong' : ¬ (xs.length : Int) ≤ 4096 := by omega
    go_enter Try.func12, Try.ntmps12
    go_wp2_with fail
    go_ret
    exact ⟨rfl, Kp.refl _ _⟩

set_option maxHeartbeats 1000000 in
theorem set_any (v : Value) (xs : List Rc.Rect) (w : World) (h : IsRects w v xs) (hl : xs.length ≤ 65536) :
    Calls Try.prog 37 #[v] w fun E w' => ∃ u, E = .returned u ∧ IsRects w' u (Rc.set xs) ∧ Kp w w' none := by
  have H := Lib.hid h
  have A := right_any v xs w h hl
  clear h
  by_cases hR : Rc.Right xs
  · have hs : Rc.set xs = xs := by unfold Rc.set; rw [if_pos hR]
    rw [hs]
    rw [decide_eq_true hR] at A
    clear hs
    go_enter Try.func37, Try.ntmps37
    go_wp2_with fail
    refine A.mono ?_
    rintro e w1 ⟨rfl, k1⟩
    have K1 := Lib.hid k1
    clear k1
    go_wp2_with fail
    go_ret
    exact ⟨_, rfl, H.out.keep K1.out, K1.out⟩
  · have hs : Rc.set xs = [] := by unfold Rc.set; rw [if_neg hR]
    rw [hs]
    rw [decide_eq_false hR] at A
    clear hs
    go_enter Try.func37, Try.ntmps37
    go_wp2_with fail
    refine A.mono ?_
    rintro e w1 ⟨rfl, k1⟩
    have K1 := Lib.hid k1
    clear k1
    go_wp2_with fail
    go_ret
    exact ⟨_, rfl, .inl ⟨none, 0, rfl, rfl⟩, K1.out⟩

end Go.Proofs.Ytpakiabnhdoijaa
