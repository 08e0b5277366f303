/- The reference's comparison of lists of rectangles, at equal ones. Condition: at most 2^16 elements. -/
import Derived.Test.YtpakiabnhdoijaaRd
namespace Go.Proofs.Ytpakiabnhdoijaa
open Go.RowKit

set_option maxHeartbeats 4000000 in
set_option maxRecDepth 100000 in
theorem sameR_row (b off cap b2 off2 cap2 : Nat) (xs : List Rc.Rect) (w : World) (_hc : xs.length ≤ cap) (_hc2 : xs.length ≤ cap2) (hl : xs.length ≤ 1000000000)
    (hr : ∀ k, (h : k < xs.length) → ∀ j, (h2 : j < (recVal xs[k]).length) → w.cell? ⟨b, off + k * 4 + j, none⟩ = some (recVal xs[k])[j])
    (hr2 : ∀ k, (h : k < xs.length) → ∀ j, (h2 : j < (recVal xs[k]).length) → w.cell? ⟨b2, off2 + k * 4 + j, none⟩ = some (recVal xs[k])[j]) :
    Calls Try.prog 14 #[.slice (some ⟨b, off, none⟩) xs.length cap, .slice (some ⟨b2, off2, none⟩) xs.length cap2] w fun E w' => E = .returned (.bool true) ∧ ∃ n, w.drewN n = w' := by
  have HR := Lib.hid hr
  have HR2 := Lib.hid hr2
  clear hr hr2
  go_enter Try.func14, Try.ntmps14
  go_wp2_with fail
  go_loopw [5] (fun i wr => ∃ k m : Nat, k ≤ xs.length ∧ i = .int .i64 k ∧ w.drewN m = wr) (fun i _ => xs.length - (intOf i).toNat)
  case atStart => exact ⟨0, 0, Nat.zero_le _, rfl, rfl⟩
  case round =>
    obtain ⟨k, m, hk, rfl, hw⟩ := hrel
    subst hw
    by_cases hlt : k < xs.length
    · obtain ⟨r, hx⟩ : ∃ r, xs[k] = r := ⟨_, rfl⟩
      have c0 : w.cell? ⟨b, off + k * 4, none⟩ = some (.int .i64 r.x0) := by subst hx; exact HR.out k hlt 0 (by simp [recVal])
      have c1 : w.cell? ⟨b, off + k * 4 + 1, none⟩ = some (.int .i64 r.y0) := by subst hx; exact HR.out k hlt 1 (by simp [recVal])
      have c2 : w.cell? ⟨b, off + k * 4 + 2, none⟩ = some (.int .i64 r.x1) := by subst hx; exact HR.out k hlt 2 (by simp [recVal])
      have c3 : w.cell? ⟨b, off + k * 4 + 3, none⟩ = some (.int .i64 r.y1) := by subst hx; exact HR.out k hlt 3 (by simp [recVal])
      have d0 : w.cell? ⟨b2, off2 + k * 4, none⟩ = some (.int .i64 r.x0) := by subst hx; exact HR2.out k hlt 0 (by simp [recVal])
      have d1 : w.cell? ⟨b2, off2 + k * 4 + 1, none⟩ = some (.int .i64 r.y0) := by subst hx; exact HR2.out k hlt 1 (by simp [recVal])
      have d2 : w.cell? ⟨b2, off2 + k * 4 + 2, none⟩ = some (.int .i64 r.x1) := by subst hx; exact HR2.out k hlt 2 (by simp [recVal])
      have d3 : w.cell? ⟨b2, off2 + k * 4 + 3, none⟩ = some (.int .i64 r.y1) := by subst hx; exact HR2.out k hlt 3 (by simp [recVal])
      clear hx
      have hk0 : (0 : Int) ≤ (k : Int) := Int.natCast_nonneg _
      have hk1 : (k : Int) < (xs.length : Int) := by omega
      obtain ⟨x0, y0, x1, y1⟩ := r
      simp only [] at c0 c1 c2 c3 d0 d1 d2 d3
      go_wp2_with fail
      go_quiet (fail)
      go_wp2_with fail
      go_roundw
      case rel => exact ⟨k + 1, _, hlt, by go_num, rfl⟩
      case measure => simp [intOf]; omega
    · go_wp2_with fail
      go_ret
      exact ⟨rfl, m, rfl⟩

set_option maxHeartbeats 1000000 in
theorem sameR_nil (a b : Option Addr) (c d : Nat) (w : World) : Calls Try.prog 14 #[.slice a 0 c, .slice b 0 d] w fun E w' => E = .returned (.bool true) ∧ ∃ n, w.drewN n = w' := by
  go_enter Try.func14, Try.ntmps14
  go_wp2_with fail
  go_loopw [5] (fun i wr => i = .int .i64 0 ∧ w = wr) (fun _ _ => 0)
  case atStart => exact ⟨rfl, rfl⟩
  case round =>
    obtain ⟨rfl, rfl⟩ := hrel
    go_wp2_with fail
    go_ret
    exact ⟨rfl, 0, rfl⟩

theorem sameR_any (a b : Value) (xs : List Rc.Rect) (w : World) (ha : IsRects w a xs) (hb : IsRects w b xs) (hl : xs.length ≤ 1000000000) :
    Calls Try.prog 14 #[a, b] w fun E w' => E = .returned (.bool true) ∧ ∃ n, w.drewN n = w' := by
  rcases ha with ⟨ao, cap, rfl, rfl⟩ | ⟨b1, off, cap, rfl, hc, _, hr⟩
  · rcases hb with ⟨ao2, cap2, rfl, _⟩ | ⟨b2, off2, cap2, rfl, hc2, _, _⟩ <;> exact sameR_nil _ _ _ _ w
  · rcases hb with ⟨ao2, cap2, rfl, rfl⟩ | ⟨b2, off2, cap2, rfl, hc2, _, hr2⟩
    · exact sameR_nil _ _ _ _ w
    · exact sameR_row b1 off cap b2 off2 cap2 xs w hc hc2 hl hr hr2

end Go.Proofs.Ytpakiabnhdoijaa
