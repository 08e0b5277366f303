/- The library's Equal at ranges (55). Condition: at most 2^16 elements. -/
import Derived.Test.YtpakiabnhdoijaaRe
namespace Go.Proofs.Ytpakiabnhdoijaa
open Go.RowKit

set_option maxHeartbeats 4000000 in
set_option maxRecDepth 100000 in
theorem equalP_row (b off cap b2 off2 cap2 : Nat) (xs ys : List Rc.Span) (w : World) (_hc : xs.length ≤ cap) (_hc2 : ys.length ≤ cap2) (hl : xs.length ≤ 65536) (he : xs.length = ys.length)
    (hr : ∀ k, (h : k < xs.length) → ∀ j, (h2 : j < (spanVal xs[k]).length) → w.cell? ⟨b, off + k * 2 + j, none⟩ = some (spanVal xs[k])[j])
    (hr2 : ∀ k, (h : k < ys.length) → ∀ j, (h2 : j < (spanVal ys[k]).length) → w.cell? ⟨b2, off2 + k * 2 + j, none⟩ = some (spanVal ys[k])[j]) :
    Calls Try.prog 55 #[.slice (some ⟨b, off, none⟩) xs.length cap, .slice (some ⟨b2, off2, none⟩) ys.length cap2] w fun E w' => E = .returned (.bool (decide (xs = ys))) ∧ ∃ n, w.drewN n = w' := by
  have HR := Lib.hid hr
  have HR2 := Lib.hid hr2
  clear hr hr2
  obtain ⟨v, hv⟩ : ∃ v, decide (xs = ys) = v := ⟨_, rfl⟩
  rw [hv]
  have HV := Lib.hid hv
  clear hv
  obtain ⟨n, hn⟩ : ∃ n, n = xs.length := ⟨_, rfl⟩
  have HE : Hid (xs.length = n) := Lib.hid hn.symm
  have HE2 : Hid (ys.length = n) := Lib.hid (by rw [hn, he])
  rw [← he, ← hn]
  rw [← hn] at hl _hc
  rw [← he, ← hn] at _hc2
  clear hn he
  go_enter Try.func55, Try.ntmps55
  go_wp2_with fail
  go_loopw [13] (fun i wr => ∃ k m : Nat, k ≤ n ∧ i = .int .i64 k ∧ xs.take k = ys.take k ∧ w.drewN m = wr) (fun i _ => n - (intOf i).toNat)
  case atStart => exact ⟨0, 0, Nat.zero_le _, rfl, rfl, rfl⟩
  case round =>
    obtain ⟨k, m, hk, rfl, ht, hw⟩ := hrel
    subst hw
    have HT := Lib.hid ht
    clear ht
    by_cases hlt : k < n
    · have h1 : k < xs.length := by rw [HE.out]; exact hlt
      have h2 : k < ys.length := by rw [HE2.out]; exact hlt
      obtain ⟨s, hs⟩ : ∃ s, xs[k] = s := ⟨_, rfl⟩
      obtain ⟨t, ht⟩ : ∃ t, ys[k] = t := ⟨_, rfl⟩
      have c0 : w.cell? ⟨b, off + k * 2, none⟩ = some (.int .i64 s.1) := by subst hs; exact HR.out k h1 0 (by simp [spanVal])
      have c1 : w.cell? ⟨b, off + k * 2 + 1, none⟩ = some (.int .i64 s.2) := by subst hs; exact HR.out k h1 1 (by simp [spanVal])
      have d0 : w.cell? ⟨b2, off2 + k * 2, none⟩ = some (.int .i64 t.1) := by subst ht; exact HR2.out k h2 0 (by simp [spanVal])
      have d1 : w.cell? ⟨b2, off2 + k * 2 + 1, none⟩ = some (.int .i64 t.2) := by subst ht; exact HR2.out k h2 1 (by simp [spanVal])
      have hk0 : (0 : Int) ≤ (k : Int) := Int.natCast_nonneg _
      have hk1 : (k : Int) < (n : Int) := by omega
      have hF : Hid (s ≠ t → v = false) := Lib.hid (fun h => by
        rw [← HV.out]; refine decide_eq_false fun e => h ?_; subst e; rw [← hs, ← ht])
      have hT : Hid (s = t → xs.take (k + 1) = ys.take (k + 1)) := Lib.hid (fun h => by
        rw [List.take_succ_eq_append_getElem h1, List.take_succ_eq_append_getElem h2, HT.out, hs, ht, h])
      clear hs ht h1 h2
      obtain ⟨s0, s1⟩ := s
      obtain ⟨t0, t1⟩ := t
      simp only [] at c0 c1 d0 d1
      by_cases e0 : s0 = t0
      · by_cases e1 : s1 = t1
        · have hT2 := hT.out (by rw [e0, e1])
          have HT2 := Lib.hid hT2
          clear hT2 hF hT
          subst e0 e1
          go_wp2_with fail
          go_quiet ((simp only [eq_span, Result.andThen_ok, beq_self_eq_true, Bool.and_self, Bool.not_true]; exact ⟨trivial, rfl⟩))
          go_wp2_with fail
          go_roundw
          case rel => exact ⟨k + 1, _, hlt, by go_num, HT2.out, rfl⟩
          case measure => simp [intOf]; omega
        · have e := hF.out (fun h => e1 (by injection h))
          subst e
          have f1 : (s1 == t1) = false := by simpa using e1
          go_wp2_with fail
          go_quiet ((simp only [eq_span, Result.andThen_ok, f1, Bool.and_false, Bool.not_false]; exact ⟨trivial, rfl⟩))
          go_wp2_with fail
          go_ret
          exact ⟨rfl, m + nq, (World.drewN_drewN _ _ _).symm⟩
      · have e := hF.out (fun h => e0 (by injection h))
        subst e
        have f0 : (s0 == t0) = false := by simpa using e0
        go_wp2_with fail
        go_quiet ((simp only [eq_span, Result.andThen_ok, f0, Bool.false_and, Bool.not_false]; exact ⟨trivial, rfl⟩))
        go_wp2_with fail
        go_ret
        exact ⟨rfl, m + nq, (World.drewN_drewN _ _ _).symm⟩
    · have e : k = n := by omega
      subst e
      have e : v = true := by
        rw [← HV.out]; refine decide_eq_true ?_
        have := HT.out
        rw [List.take_of_length_le (Nat.le_of_eq HE.out), List.take_of_length_le (Nat.le_of_eq HE2.out)] at this
        exact this
      subst e
      go_wp2_with fail
      go_ret
      exact ⟨rfl, m, rfl⟩

set_option maxHeartbeats 1000000 in
theorem equalP_nil (a b : Option Addr) (c d : Nat) (w : World) : Calls Try.prog 55 #[.slice a 0 c, .slice b 0 d] w fun E w' => E = .returned (.bool true) ∧ ∃ n, w.drewN n = w' := by
  go_enter Try.func55, Try.ntmps55
  go_wp2_with fail
  go_loopw [13] (fun i wr => i = .int .i64 0 ∧ w = wr) (fun _ _ => 0)
  case atStart => exact ⟨rfl, rfl⟩
  case round =>
    obtain ⟨rfl, rfl⟩ := hrel
    go_wp2_with fail
    go_ret
    exact ⟨rfl, 0, rfl⟩

set_option maxHeartbeats 1000000 in
theorem equalP_differ (a b : Option Addr) (n m c d : Nat) (hne : n ≠ m) (w : World) : Calls Try.prog 55 #[.slice a n c, .slice b m d] w fun E w' => E = .returned (.bool false) ∧ ∃ n, w.drewN n = w' := by
  have e1 : ((n : Int) == (m : Int)) = false := by simpa using fun h : (n : Int) = m => hne (by omega)
  go_enter Try.func55, Try.ntmps55
  go_wp2_with fail
  go_ret
  exact ⟨rfl, 0, rfl⟩

theorem equalP_any (a b : Value) (xs ys : List Rc.Span) (w : World) (ha : IsSpans w a xs) (hb : IsSpans w b ys) (hl : xs.length ≤ 65536) :
    Calls Try.prog 55 #[a, b] w fun E w' => E = .returned (.bool (decide (xs = ys))) ∧ ∃ n, w.drewN n = w' := by
  by_cases he : xs.length = ys.length
  · rcases ha with ⟨ao, cap, rfl, rfl⟩ | ⟨b1, off, cap, rfl, hc, _, hr⟩
    · cases ys with
      | cons y ys => cases he
      | nil =>
        rcases hb with ⟨ao2, cap2, rfl, _⟩ | ⟨b2, off2, cap2, rfl, hc2, _, _⟩
        · exact equalP_nil _ _ _ _ w
        · exact equalP_nil _ _ _ _ w
    · rcases hb with ⟨ao2, cap2, rfl, rfl⟩ | ⟨b2, off2, cap2, rfl, hc2, _, hr2⟩
      · cases xs with
        | cons x xs => cases he
        | nil => exact equalP_nil _ _ _ _ w
      · exact equalP_row b1 off cap b2 off2 cap2 xs ys w hc hc2 hl he hr hr2
  · rw [decide_eq_false fun e : xs = ys => he (by rw [e])]
    rcases ha with ⟨ao, cap, rfl, rfl⟩ | ⟨b1, off, cap, rfl, hc, _, hr⟩ <;> rcases hb with ⟨ao2, cap2, rfl, rfl⟩ | ⟨b2, off2, cap2, rfl, hc2, _, hr2⟩ <;> exact equalP_differ _ _ _ _ _ _ he w

end Go.Proofs.Ytpakiabnhdoijaa
