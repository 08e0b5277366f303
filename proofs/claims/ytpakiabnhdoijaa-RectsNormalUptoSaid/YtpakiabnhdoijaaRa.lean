/- The reference's small functions: covers, touch. Condition: at most 2^16 elements. -/
import Derived.Test.YtpakiabnhdoijaaBase
namespace Go.Proofs.Ytpakiabnhdoijaa
open Go.RowKit

theorem cov_step (xs : List Rc.Rect) (k : Nat) (h : k < xs.length) (x y : Int) : Rc.cov (xs.take (k + 1)) x y = (Rc.cov (xs.take k) x y || xs[k].has x y) := by
  unfold Rc.cov; rw [List.take_succ_eq_append_getElem h, List.any_append]; simp
theorem cov_at (xs : List Rc.Rect) (k : Nat) (h : k < xs.length) (x y : Int) (hh : xs[k].has x y = true) : Rc.cov xs x y = true := by
  unfold Rc.cov; exact List.any_eq_true.2 ⟨_, List.getElem_mem h, hh⟩
theorem has_true {r : Rc.Rect} {x y : Int} (h0 : r.x0 ≤ x) (h1 : x < r.x1) (h2 : r.y0 ≤ y) (h3 : y < r.y1) : r.has x y = true := by
  unfold Rc.Rect.has; exact decide_eq_true ⟨h0, h1, h2, h3⟩
theorem has_false {r : Rc.Rect} {x y : Int} (h : ¬ r.x0 ≤ x ∨ ¬ x < r.x1 ∨ ¬ r.y0 ≤ y ∨ ¬ y < r.y1) : r.has x y = false := by
  unfold Rc.Rect.has; exact decide_eq_false (fun ⟨a, b, c, d⟩ => by rcases h with h | h | h | h <;> exact h (by assumption))

set_option maxHeartbeats 4000000 in
set_option maxRecDepth 100000 in
theorem covers_row (b off cap : Nat) (xs : List Rc.Rect) (x y : Int) (w : World) (_hc : xs.length ≤ cap) (hl : xs.length ≤ 65536)
    (hr : ∀ k, (h : k < xs.length) → ∀ j, (h2 : j < (recVal xs[k]).length) → w.cell? ⟨b, off + k * 4 + j, none⟩ = some (recVal xs[k])[j]) :
    Calls Try.prog 39 #[.slice (some ⟨b, off, none⟩) xs.length cap, .int .i64 x, .int .i64 y] w fun E w' => E = .returned (.bool (Rc.cov xs x y)) ∧ w = w' := by
  have HR := Lib.hid hr
  clear hr
  obtain ⟨v, hv⟩ : ∃ v, Rc.cov xs x y = v := ⟨_, rfl⟩
  rw [hv]
  have HV := Lib.hid hv
  clear hv
  go_enter Try.func39, Try.ntmps39
  go_wp2_with fail
  go_loopw [7] (fun i wr => (∃ k : Nat, k ≤ xs.length ∧ i = .int .i64 k ∧ Rc.cov (xs.take k) x y = false) ∧ w = wr) (fun i _ => xs.length - (intOf i).toNat)
  case atStart => exact ⟨⟨0, Nat.zero_le _, rfl, rfl⟩, rfl⟩
  case round =>
    obtain ⟨⟨k, hk, rfl, hcv⟩, rfl⟩ := hrel
    have HC := Lib.hid hcv
    clear hcv
    by_cases hlt : k < xs.length
    · obtain ⟨r, hx⟩ : ∃ r, xs[k] = r := ⟨_, rfl⟩
      have c0 : w.cell? ⟨b, off + k * 4, none⟩ = some (.int .i64 r.x0) := by subst hx; exact HR.out k hlt 0 (by simp [recVal])
      have c1 : w.cell? ⟨b, off + k * 4 + 1, none⟩ = some (.int .i64 r.y0) := by subst hx; exact HR.out k hlt 1 (by simp [recVal])
      have c2 : w.cell? ⟨b, off + k * 4 + 2, none⟩ = some (.int .i64 r.x1) := by subst hx; exact HR.out k hlt 2 (by simp [recVal])
      have c3 : w.cell? ⟨b, off + k * 4 + 3, none⟩ = some (.int .i64 r.y1) := by subst hx; exact HR.out k hlt 3 (by simp [recVal])
      have HX := Lib.hid hx
      clear hx
      have hk0 : (0 : Int) ≤ (k : Int) := Int.natCast_nonneg _
      have hk1 : (k : Int) < (xs.length : Int) := by omega
      obtain ⟨x0, y0, x1, y1⟩ := r
      simp only [] at c0 c1 c2 c3
      have hF : Hid ((¬ x0 ≤ x ∨ ¬ x < x1 ∨ ¬ y0 ≤ y ∨ ¬ y < y1) → Rc.cov (xs.take (k + 1)) x y = false) := Lib.hid (fun h => by rw [cov_step xs k hlt, HC.out, HX.out]; exact has_false h)
      have hT : Hid (x0 ≤ x → x < x1 → y0 ≤ y → y < y1 → v = true) := Lib.hid (fun a1 a2 a3 a4 => by rw [← HV.out]; exact cov_at xs k hlt x y (by rw [HX.out]; exact has_true a1 a2 a3 a4))
      clear HX
      by_cases h0 : x0 ≤ x
      · by_cases h1 : x < x1
        · by_cases h2 : y0 ≤ y
          · by_cases h3 : y < y1
            · have e := hT.out h0 h1 h2 h3
              subst e
              go_wp2_with fail
              go_ret
              exact ⟨rfl, rfl⟩
            · go_wp2_with fail
              go_roundw
              case rel => exact ⟨⟨k + 1, hlt, by go_num, hF.out (.inr (.inr (.inr h3)))⟩, trivial⟩
              case measure => simp [intOf]; omega
          · go_wp2_with fail
            go_roundw
            case rel => exact ⟨⟨k + 1, hlt, by go_num, hF.out (.inr (.inr (.inl h2)))⟩, trivial⟩
            case measure => simp [intOf]; omega
        · go_wp2_with fail
          go_roundw
          case rel => exact ⟨⟨k + 1, hlt, by go_num, hF.out (.inr (.inl h1))⟩, trivial⟩
          case measure => simp [intOf]; omega
      · go_wp2_with fail
        go_roundw
        case rel => exact ⟨⟨k + 1, hlt, by go_num, hF.out (.inl h0)⟩, trivial⟩
        case measure => simp [intOf]; omega
    · have e : v = false := by rw [← HV.out, ← HC.out, List.take_of_length_le (by omega)]
      subst e
      go_wp2_with fail
      go_ret
      exact ⟨rfl, rfl⟩

set_option maxHeartbeats 1000000 in
theorem covers_nil (ao : Option Addr) (c : Nat) (x y : Int) (w : World) : Calls Try.prog 39 #[.slice ao 0 c, .int .i64 x, .int .i64 y] w fun E w' => E = .returned (.bool false) ∧ w = w' := by
  go_enter Try.func39, Try.ntmps39
  go_wp2_with fail
  go_loopw [7] (fun i wr => i = .int .i64 0 ∧ w = wr) (fun _ _ => 0)
  case atStart => exact ⟨rfl, rfl⟩
  case round =>
    obtain ⟨rfl, rfl⟩ := hrel
    go_wp2_with fail
    go_ret
    exact ⟨rfl, rfl⟩

theorem covers_any (v : Value) (xs : List Rc.Rect) (x y : Int) (w : World) (h : IsRects w v xs) (hl : xs.length ≤ 65536) :
    Calls Try.prog 39 #[v, .int .i64 x, .int .i64 y] w fun E w' => E = .returned (.bool (Rc.cov xs x y)) ∧ w = w' := by
  rcases h with ⟨ao, cap, rfl, rfl⟩ | ⟨b, off, cap, rfl, hc, _, hr⟩
  · exact covers_nil ao cap x y w
  · exact covers_row b off cap xs x y w hc hl hr

/-- What a combination of the reference is told by. -/
def kindOf : Int → Bool → Bool → Bool := fun n => if n = 1 then Rc.kJoin else if n = 2 then Rc.kLess else Rc.kMeet

set_option maxHeartbeats 4000000 in
theorem within_any (n : Int) (hn : n = 1 ∨ n = 2 ∨ n = 3) (a b : Value) (xs ys : List Rc.Rect) (x y : Int) (w : World) (ha : IsRects w a xs) (hb : IsRects w b ys) (hl : xs.length ≤ 65536) (hl2 : ys.length ≤ 65536) :
    Calls Try.prog 57 #[.int .i64 n, a, b, .int .i64 x, .int .i64 y] w fun E w' => E = .returned (.bool (Rc.wit (kindOf n) xs ys y x)) ∧ w = w' := by
  have A := covers_any a xs x y w ha hl
  have B := covers_any b ys x y w hb hl2
  unfold Rc.wit
  generalize Rc.cov xs x y = one at A ⊢
  generalize Rc.cov ys x y = two at B ⊢
  rcases hn with rfl | rfl | rfl <;> cases one <;> cases two
  all_goals
    go_enter Try.func57, Try.ntmps57
    go_wp2_with fail
    refine A.mono ?_
    rintro e w1 ⟨rfl, rfl⟩
    go_wp2_with fail
    refine B.mono ?_
    rintro e w1 ⟨rfl, rfl⟩
    go_wp2_with fail
    go_ret
    exact ⟨rfl, rfl⟩

end Go.Proofs.Ytpakiabnhdoijaa
