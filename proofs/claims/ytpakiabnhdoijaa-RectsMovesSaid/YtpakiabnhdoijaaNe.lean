/- Rectangles of two lists that have no point in common (near). Condition: at most 2^16 rectangles. -/
import Derived.Test.YtpakiabnhdoijaaPi
namespace Go.Proofs.Ytpakiabnhdoijaa
open Go.RowKit

set_option maxHeartbeats 8000000 in
set_option maxRecDepth 100000 in
theorem near_any (va vb : Value) (a b : List Rc.Rect) (w : World) (ha : IsRects w va a) (hb : IsRects w vb b) (hla : a.length ≤ 65536) (hlb : b.length ≤ 65536) (hno : ∀ r ∈ a, ∀ s ∈ b, Rc.touch r s = false) :
    Calls Try.prog 30 #[va, vb] w fun E w' => E = .returned (.bool false) ∧ Kp w w' none := by
  obtain ⟨aoa, capa, rfl, fa⟩ := ha.form
  obtain ⟨aob, capb, rfl, fb⟩ := hb.form
  have FA : Hid (∀ V, Kp w V none → LiesAt 4 recVal V aoa capa a) := Lib.hid fun V k => fa.keep k
  have FB : Hid (∀ V, Kp w V none → LiesAt 4 recVal V aob capb b) := Lib.hid fun V k => fb.keep k
  have HNA := Lib.hid hno
  clear ha hb fa fb hno
  have hn0 : (0 : Int) ≤ (a.length : Int) := Int.natCast_nonneg _
  have hm0 : (0 : Int) ≤ (b.length : Int) := Int.natCast_nonneg _
  go_enter Try.func30, Try.ntmps30
  go_wp2_with fail
  go_loopw [5] (fun vi wr => ∃ i : Nat, i ≤ a.length ∧ vi = .int .i64 i ∧ Kp w wr none) (fun vi _ => a.length - (intOf vi).toNat)
  case atStart => exact ⟨0, Nat.zero_le _, rfl, Kp.refl _ _⟩
  case round =>
    obtain ⟨wa, hwa⟩ : ∃ x, x = wr := ⟨_, rfl⟩
    subst hwa
    obtain ⟨i, hi, rfl, hK⟩ := hrel
    have HKA := Lib.hid hK
    clear hK
    have hi0 : (0 : Int) ≤ (i : Int) := Int.natCast_nonneg _
    by_cases hlt : i < a.length
    · have hi1 : (i : Int) < (a.length : Int) := by omega
      go_wp2_with fail
      go_loopw [6] (fun vk wr => ∃ k : Nat, k ≤ b.length ∧ vk = .int .i64 k ∧ Kp w wr none) (fun vk _ => b.length - (intOf vk).toNat)
      case atStart => exact ⟨0, Nat.zero_le _, rfl, HKA.out⟩
      case round =>
        obtain ⟨wq, hwq⟩ : ∃ x, x = wr := ⟨_, rfl⟩
        subst hwq
        obtain ⟨k, hk, rfl, hK⟩ := hrel
        have HK := Lib.hid hK
        clear hK
        have hk0 : (0 : Int) ≤ (k : Int) := Int.natCast_nonneg _
        by_cases hlk : k < b.length
        · have hk1 : (k : Int) < (b.length : Int) := by omega
          obtain ⟨ba, oa, e1, hca, _, x0, x1, x2, x3⟩ := (FA.out wq HK.out).rect hlt
          obtain ⟨bb, ob, e2, hcb, _, y0, y1, y2, y3⟩ := (FB.out wq HK.out).rect hlk
          have HNO : Hid (Rc.touch a[i] b[k] = false) := Lib.hid (HNA.out _ (List.getElem_mem hlt) _ (List.getElem_mem hlk))
          subst e1
          subst e2
          obtain ⟨r, hr⟩ : ∃ r, a[i] = r := ⟨_, rfl⟩
          obtain ⟨s, hs⟩ : ∃ r, b[k] = r := ⟨_, rfl⟩
          rw [hr] at x0 x1 x2 x3 HNO
          rw [hs] at y0 y1 y2 y3 HNO
          clear hr hs
          obtain ⟨a0, a1, a2, a3⟩ := r
          obtain ⟨b0, b1, b2, b3⟩ := s
          simp only [] at x0 x1 x2 x3 y0 y1 y2 y3
          by_cases q0 : a0 ≤ b2
          · by_cases q1 : b0 ≤ a2
            · by_cases q2 : a1 ≤ b3
              · by_cases q3 : b1 ≤ a3
                · exact absurd ((Rc.touch_iff (a := ⟨a0, a1, a2, a3⟩) (b := ⟨b0, b1, b2, b3⟩)).2 ⟨q0, q1, q2, q3⟩) (by rw [HNO.out]; decide)
                · have dq3 : decide (b1 ≤ a3) = false := decide_eq_false q3
                  have HREL : Hid (∀ n, Kp w (wq.drewN n) none) := Lib.hid fun n => HK.out.drewN n
                  go_wp2_with fail
                  go_quiet (fail)
                  go_wp2_with fail
                  go_roundw
                  case rel => exact ⟨k + 1, by omega, by simp, HREL.out _⟩
                  case measure => simp [intOf]; omega
              · have dq2 : decide (a1 ≤ b3) = false := decide_eq_false q2
                have HREL : Hid (∀ n, Kp w (wq.drewN n) none) := Lib.hid fun n => HK.out.drewN n
                go_wp2_with fail
                go_quiet (fail)
                go_wp2_with fail
                go_roundw
                case rel => exact ⟨k + 1, by omega, by simp, HREL.out _⟩
                case measure => simp [intOf]; omega
            · have dq1 : decide (b0 ≤ a2) = false := decide_eq_false q1
              have HREL : Hid (∀ n, Kp w (wq.drewN n) none) := Lib.hid fun n => HK.out.drewN n
              go_wp2_with fail
              go_quiet (fail)
              go_wp2_with fail
              go_roundw
              case rel => exact ⟨k + 1, by omega, by simp, HREL.out _⟩
              case measure => simp [intOf]; omega
          · have dq0 : decide (a0 ≤ b2) = false := decide_eq_false q0
            have HREL : Hid (∀ n, Kp w (wq.drewN n) none) := Lib.hid fun n => HK.out.drewN n
            go_wp2_with fail
            go_quiet (fail)
            go_wp2_with fail
            go_roundw
            case rel => exact ⟨k + 1, by omega, by simp, HREL.out _⟩
            case measure => simp [intOf]; omega
        · have hk1 : ¬ (k : Int) < (b.length : Int) := by omega
          go_wp2_with fail
          go_roundw
          case rel => exact ⟨i + 1, by omega, by simp, HK.out⟩
          case measure => simp [intOf]; omega
    · have hi1 : ¬ (i : Int) < (a.length : Int) := by omega
      go_wp2_with fail
      go_ret
      exact ⟨rfl, HKA.out⟩

end Go.Proofs.Ytpakiabnhdoijaa
