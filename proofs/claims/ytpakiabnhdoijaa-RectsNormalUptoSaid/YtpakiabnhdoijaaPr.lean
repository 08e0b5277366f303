/- The program's test of right lists. Condition: at most 2^16 elements. -/
import Derived.Test.YtpakiabnhdoijaaRd
namespace Go.Proofs.Ytpakiabnhdoijaa
open Go.RowKit

set_option maxHeartbeats 4000000 in
theorem bad_any (r : Rc.Rect) (w : World) : Calls Try.prog 35 #[recAgg r] w fun E w' => E = .returned (.bool (decide (¬ r.ok))) ∧ Kp w w' none := by
  obtain ⟨v, hv⟩ : ∃ v, decide (¬ r.ok) = v := ⟨_, rfl⟩
  rw [hv]
  obtain ⟨x0, y0, x1, y1⟩ := r
  unfold Rc.Rect.ok Rc.far at hv
  simp only [] at hv
  have HV := Lib.hid hv
  clear hv
  show Calls Try.prog 35 #[.agg #[.int .i64 x0, .int .i64 y0, .int .i64 x1, .int .i64 y1]] w _
  have K0 : Hid (Kp w (w.alloc (.cells #[.int .i64 x0, .int .i64 y0, .int .i64 x1, .int .i64 y1] 44)) none) := Lib.hid ((Kp.refl _ _).alloc _)
  by_cases h0 : x1 ≤ x0
  · have e : v = true := by rw [← HV.out]; exact decide_eq_true (by omega)
    subst e
    go_enter Try.func35, Try.ntmps35
    go_wp2_with fail
    go_ret
    exact ⟨rfl, K0.out⟩
  by_cases h1 : y1 ≤ y0
  · have e : v = true := by rw [← HV.out]; exact decide_eq_true (by omega)
    subst e
    go_enter Try.func35, Try.ntmps35
    go_wp2_with fail
    go_ret
    exact ⟨rfl, K0.out⟩
  by_cases m0 : x0 ≤ y0
  · by_cases m1 : x1 ≤ y1
    · by_cases h2 : x0 < -1073741824
      · have F0 : Hid (x0 < -1073741824) := Lib.hid (by omega)
        have e : v = true := by rw [← HV.out]; exact decide_eq_true (by omega)
        subst e
        go_enter Try.func35, Try.ntmps35
        go_wp2_with fail
        all_goals
          go_ret
          first
            | exact ⟨rfl, K0.out⟩
            | (refine ⟨?_, K0.out⟩
               have g0 := F0.out
               simp [g0]
               try omega)
      by_cases h3 : 1073741824 < y1
      · have F0 : Hid (1073741824 < y1) := Lib.hid (by omega)
        have e : v = true := by rw [← HV.out]; exact decide_eq_true (by omega)
        subst e
        go_enter Try.func35, Try.ntmps35
        go_wp2_with fail
        all_goals
          go_ret
          first
            | exact ⟨rfl, K0.out⟩
            | (refine ⟨?_, K0.out⟩
               have g0 := F0.out
               simp []
               try omega)
      have F0 : Hid (¬ x0 < -1073741824) := Lib.hid (by omega)
      have F1 : Hid (¬ y0 < -1073741824) := Lib.hid (by omega)
      have F2 : Hid (¬ 1073741824 < x1) := Lib.hid (by omega)
      have F3 : Hid (¬ 1073741824 < y1) := Lib.hid (by omega)
      have e : v = false := by rw [← HV.out]; exact decide_eq_false (by omega)
      subst e
      go_enter Try.func35, Try.ntmps35
      go_wp2_with fail
      all_goals
        go_ret
        first
          | exact ⟨rfl, K0.out⟩
          | (refine ⟨?_, K0.out⟩
             have g0 := F0.out
             have g1 := F1.out
             have g2 := F2.out
             have g3 := F3.out
             simp [g2, g3]
             try omega)
    · by_cases h2 : x0 < -1073741824
      · have F0 : Hid (x0 < -1073741824) := Lib.hid (by omega)
        have e : v = true := by rw [← HV.out]; exact decide_eq_true (by omega)
        subst e
        go_enter Try.func35, Try.ntmps35
        go_wp2_with fail
        all_goals
          go_ret
          first
            | exact ⟨rfl, K0.out⟩
            | (refine ⟨?_, K0.out⟩
               have g0 := F0.out
               simp [g0]
               try omega)
      by_cases h3 : 1073741824 < x1
      · have F0 : Hid (1073741824 < x1) := Lib.hid (by omega)
        have e : v = true := by rw [← HV.out]; exact decide_eq_true (by omega)
        subst e
        go_enter Try.func35, Try.ntmps35
        go_wp2_with fail
        all_goals
          go_ret
          first
            | exact ⟨rfl, K0.out⟩
            | (refine ⟨?_, K0.out⟩
               have g0 := F0.out
               simp [g0]
               try omega)
      have F0 : Hid (¬ x0 < -1073741824) := Lib.hid (by omega)
      have F1 : Hid (¬ y0 < -1073741824) := Lib.hid (by omega)
      have F2 : Hid (¬ 1073741824 < x1) := Lib.hid (by omega)
      have F3 : Hid (¬ 1073741824 < y1) := Lib.hid (by omega)
      have e : v = false := by rw [← HV.out]; exact decide_eq_false (by omega)
      subst e
      go_enter Try.func35, Try.ntmps35
      go_wp2_with fail
      all_goals
        go_ret
        first
          | exact ⟨rfl, K0.out⟩
          | (refine ⟨?_, K0.out⟩
             have g0 := F0.out
             have g1 := F1.out
             have g2 := F2.out
             have g3 := F3.out
             simp [g2]
             try omega)
  · by_cases m1 : x1 ≤ y1
    · by_cases h2 : y0 < -1073741824
      · have F0 : Hid (y0 < -1073741824) := Lib.hid (by omega)
        have e : v = true := by rw [← HV.out]; exact decide_eq_true (by omega)
        subst e
        go_enter Try.func35, Try.ntmps35
        go_wp2_with fail
        all_goals
          go_ret
          first
            | exact ⟨rfl, K0.out⟩
            | (refine ⟨?_, K0.out⟩
               have g0 := F0.out
               simp [g0]
               try omega)
      by_cases h3 : 1073741824 < y1
      · have F0 : Hid (1073741824 < y1) := Lib.hid (by omega)
        have e : v = true := by rw [← HV.out]; exact decide_eq_true (by omega)
        subst e
        go_enter Try.func35, Try.ntmps35
        go_wp2_with fail
        all_goals
          go_ret
          first
            | exact ⟨rfl, K0.out⟩
            | (refine ⟨?_, K0.out⟩
               have g0 := F0.out
               simp []
               try omega)
      have F0 : Hid (¬ x0 < -1073741824) := Lib.hid (by omega)
      have F1 : Hid (¬ y0 < -1073741824) := Lib.hid (by omega)
      have F2 : Hid (¬ 1073741824 < x1) := Lib.hid (by omega)
      have F3 : Hid (¬ 1073741824 < y1) := Lib.hid (by omega)
      have e : v = false := by rw [← HV.out]; exact decide_eq_false (by omega)
      subst e
      go_enter Try.func35, Try.ntmps35
      go_wp2_with fail
      all_goals
        go_ret
        first
          | exact ⟨rfl, K0.out⟩
          | (refine ⟨?_, K0.out⟩
             have g0 := F0.out
             have g1 := F1.out
             have g2 := F2.out
             have g3 := F3.out
             simp [g2, g3]
             try omega)
    · by_cases h2 : y0 < -1073741824
      · have F0 : Hid (y0 < -1073741824) := Lib.hid (by omega)
        have e : v = true := by rw [← HV.out]; exact decide_eq_true (by omega)
        subst e
        go_enter Try.func35, Try.ntmps35
        go_wp2_with fail
        all_goals
          go_ret
          first
            | exact ⟨rfl, K0.out⟩
            | (refine ⟨?_, K0.out⟩
               have g0 := F0.out
               simp [g0]
               try omega)
      by_cases h3 : 1073741824 < x1
      · have F0 : Hid (1073741824 < x1) := Lib.hid (by omega)
        have e : v = true := by rw [← HV.out]; exact decide_eq_true (by omega)
        subst e
        go_enter Try.func35, Try.ntmps35
        go_wp2_with fail
        all_goals
          go_ret
          first
            | exact ⟨rfl, K0.out⟩
            | (refine ⟨?_, K0.out⟩
               have g0 := F0.out
               simp [g0]
               try omega)
      have F0 : Hid (¬ x0 < -1073741824) := Lib.hid (by omega)
      have F1 : Hid (¬ y0 < -1073741824) := Lib.hid (by omega)
      have F2 : Hid (¬ 1073741824 < x1) := Lib.hid (by omega)
      have F3 : Hid (¬ 1073741824 < y1) := Lib.hid (by omega)
      have e : v = false := by rw [← HV.out]; exact decide_eq_false (by omega)
      subst e
      go_enter Try.func35, Try.ntmps35
      go_wp2_with fail
      all_goals
        go_ret
        first
          | exact ⟨rfl, K0.out⟩
          | (refine ⟨?_, K0.out⟩
             have g0 := F0.out
             have g1 := F1.out
             have g2 := F2.out
             have g3 := F3.out
             simp [g2]
             try omega)

/-- The first element that a test takes, or −1. -/
def firstIdx (p : Rc.Rect → Bool) (xs : List Rc.Rect) (k : Nat) : Prop := ∀ r ∈ xs.take k, p r = false

set_option maxHeartbeats 4000000 in
set_option maxRecDepth 100000 in
theorem index35_row (b off cap : Nat) (xs : List Rc.Rect) (w : World) (_hc : xs.length ≤ cap) (hl : xs.length ≤ 65536) (hb : b < w.heap.size)
    (hr : ∀ k, (h : k < xs.length) → ∀ j, (h2 : j < (recVal xs[k]).length) → w.cell? ⟨b, off + k * 4 + j, none⟩ = some (recVal xs[k])[j]) :
    Calls Try.prog 47 #[.slice (some ⟨b, off, none⟩) xs.length cap, .func (.func 35) #[] #[]] w fun E w' => ∃ n : Int, E = .returned (.int .i64 n) ∧ Kp w w' none ∧ decide (0 ≤ n) = xs.any (fun r => decide (¬ r.ok)) := by
  have HR := Lib.hid hr
  clear hr
  go_enter Try.func47, Try.ntmps47
  go_wp2_with fail
  go_loopw [8] (fun i wr => ∃ k : Nat, k ≤ xs.length ∧ i = .int .i64 k ∧ firstIdx (fun r => decide (¬ r.ok)) xs k ∧ Kp w wr none) (fun i _ => xs.length - (intOf i).toNat)
  case atStart => exact ⟨0, Nat.zero_le _, rfl, fun _ h => (by cases h), Kp.refl _ _⟩
  case round =>
    obtain ⟨k, hk, rfl, hcv, hkp⟩ := hrel
    have HC := Lib.hid hcv
    have HK := Lib.hid hkp
    clear hcv hkp
    by_cases hlt : k < xs.length
    · obtain ⟨r, hx⟩ : ∃ r, xs[k] = r := ⟨_, rfl⟩
      have cc : ∀ j, wr.cell? ⟨b, off + k * 4 + j, none⟩ = w.cell? ⟨b, off + k * 4 + j, none⟩ := fun j => HK.out.below.cell (p := ⟨b, off + k * 4 + j, none⟩) hb
      have c0 : wr.cell? ⟨b, off + k * 4, none⟩ = some (.int .i64 r.x0) := (cc 0).trans (by subst hx; exact HR.out k hlt 0 (by simp [recVal]))
      have c1 : wr.cell? ⟨b, off + k * 4 + 1, none⟩ = some (.int .i64 r.y0) := (cc 1).trans (by subst hx; exact HR.out k hlt 1 (by simp [recVal]))
      have c2 : wr.cell? ⟨b, off + k * 4 + 2, none⟩ = some (.int .i64 r.x1) := (cc 2).trans (by subst hx; exact HR.out k hlt 2 (by simp [recVal]))
      have c3 : wr.cell? ⟨b, off + k * 4 + 3, none⟩ = some (.int .i64 r.y1) := (cc 3).trans (by subst hx; exact HR.out k hlt 3 (by simp [recVal]))
      clear cc
      have A := bad_any r wr
      have HN : Hid (decide (¬ r.ok) = false → firstIdx (fun r => decide (¬ r.ok)) xs (k + 1)) := Lib.hid (fun h q hq => by
        rw [List.take_succ_eq_append_getElem hlt, List.mem_append] at hq
        rcases hq with hq | hq
        · exact HC.out q hq
        · rw [List.mem_singleton] at hq; rw [hq, hx]; exact h)
      have HY : Hid (decide (¬ r.ok) = true → decide ((0 : Int) ≤ (k : Int)) = xs.any (fun r => decide (¬ r.ok))) := Lib.hid (fun h => by
        rw [List.any_eq_true.2 ⟨r, by rw [← hx]; exact List.getElem_mem hlt, h⟩]; exact decide_eq_true (by omega))
      clear hx
      generalize decide (¬ r.ok) = v at A HN HY
      obtain ⟨x0, y0, x1, y1⟩ := r
      simp only [] at c0 c1 c2 c3
      unfold recAgg recVal at A
      simp only [] at A
      have hk0 : (0 : Int) ≤ (k : Int) := Int.natCast_nonneg _
      have hk1 : (k : Int) < (xs.length : Int) := by omega
      cases v
      · have HN1 := Lib.hid (HN.out rfl)
        clear HN HY
        go_wp2_with fail
        refine A.mono ?_
        rintro E w1 ⟨rfl, k1⟩
        have K1 := Lib.hid (HK.out.trans k1)
        clear k1
        go_wp2_with fail
        go_roundw
        case rel => exact ⟨k + 1, hlt, by go_num, HN1.out, K1.out⟩
        case measure => simp [intOf]; omega
      · have HY1 := Lib.hid (HY.out rfl)
        clear HN HY
        go_wp2_with fail
        refine A.mono ?_
        rintro E w1 ⟨rfl, k1⟩
        have K1 := Lib.hid (HK.out.trans k1)
        clear k1
        go_wp2_with fail
        go_ret
        exact ⟨_, rfl, K1.out, HY1.out⟩
    · have HE : Hid (decide ((0 : Int) ≤ (-1 : Int)) = xs.any (fun r => decide (¬ r.ok))) := Lib.hid (by
        symm
        rw [show decide ((0 : Int) ≤ -1) = false by decide, List.any_eq_false]
        intro q hq h
        have h2 : decide (¬ q.ok) = false := HC.out q (by rw [List.take_of_length_le (by omega)]; exact hq)
        exact absurd (h.symm.trans h2) (by decide))
      have hkn1 : ¬ (k : Int) < (xs.length : Int) := by omega
      go_wp2_with fail
      go_ret
      exact ⟨-1, rfl, HK.out, by have h := HE.out; simpa using h⟩

end Go.Proofs.Ytpakiabnhdoijaa
