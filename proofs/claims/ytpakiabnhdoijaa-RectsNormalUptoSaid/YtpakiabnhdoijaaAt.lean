/- The rectangles of a row, as the reference takes them (at). Condition: at most 2^16 elements. -/
import Derived.Test.YtpakiabnhdoijaaOw
namespace Go.Proofs.Ytpakiabnhdoijaa
open Go.RowKit

theorem at_take_in (xs : List Rc.Rect) (k : Nat) (h : k < xs.length) (y : Int) (hy : xs[k].y0 ≤ y ∧ y < xs[k].y1) : Rc.at_ (xs.take (k + 1)) y = Rc.at_ (xs.take k) y ++ [xs[k]] := by
  unfold Rc.at_; rw [List.take_succ_eq_append_getElem h, List.filter_append]; simp [hy.1, hy.2]
theorem at_take_out (xs : List Rc.Rect) (k : Nat) (h : k < xs.length) (y : Int) (hy : ¬ (xs[k].y0 ≤ y ∧ y < xs[k].y1)) : Rc.at_ (xs.take (k + 1)) y = Rc.at_ (xs.take k) y := by
  unfold Rc.at_; rw [List.take_succ_eq_append_getElem h, List.filter_append, List.filter_cons_of_neg (by rw [decide_eq_true_eq]; exact hy)]; simp
theorem at_length (xs : List Rc.Rect) (k : Nat) (y : Int) (h : k ≤ xs.length) : (Rc.at_ (xs.take k) y).length ≤ k := by
  unfold Rc.at_; refine Nat.le_trans (List.length_filter_le _ _) ?_; simp; omega
def AtRel (w : World) (xs : List Rc.Rect) (y : Int) (v i : Value) (wr : World) : Prop :=
  ∃ k : Nat, k ≤ xs.length ∧ i = .int .i64 k ∧ wr.ownsRow w.heap.size 44 4 v (Rc.at_ (xs.take k) y).length ((Rc.at_ (xs.take k) y).flatMap recVal) ∧ Kp w wr none
theorem at_rel_in {w _wr w4 : World} {xs : List Rc.Rect} {y : Int} {k : Nat} (h : k < xs.length) (hy : xs[k].y0 ≤ y ∧ y < xs[k].y1) {u : Value} (hown : w4.ownsRow w.heap.size 44 4 u ((Rc.at_ (xs.take k) y).length + 1) ((Rc.at_ (xs.take k) y).flatMap recVal ++ recVal xs[k])) (hk : Kp w w4 none) : AtRel w xs y u (.int .i64 (k + 1)) w4 :=
  ⟨k + 1, h, by go_num, by rw [at_take_in xs k h y hy, List.length_append, List.flatMap_append]; simpa using hown, hk⟩
theorem at_rel_out {w wr : World} {xs : List Rc.Rect} {y : Int} {k : Nat} (h : k < xs.length) (hy : ¬ (xs[k].y0 ≤ y ∧ y < xs[k].y1)) {u : Value} (hown : wr.ownsRow w.heap.size 44 4 u (Rc.at_ (xs.take k) y).length ((Rc.at_ (xs.take k) y).flatMap recVal)) (hk : Kp w wr none) : AtRel w xs y u (.int .i64 (k + 1)) wr :=
  ⟨k + 1, h, by go_num, by rw [at_take_out xs k h y hy]; exact hown, hk⟩

set_option maxHeartbeats 8000000 in
set_option maxRecDepth 100000 in
theorem at_row (b off cap : Nat) (xs : List Rc.Rect) (y : Int) (w : World) (hb : b < w.heap.size) (_hc : xs.length ≤ cap) (hl : xs.length ≤ 65536)
    (hr : ∀ k, (h : k < xs.length) → ∀ j, (h2 : j < (recVal xs[k]).length) → w.cell? ⟨b, off + k * 4 + j, none⟩ = some (recVal xs[k])[j]) :
    Calls Try.prog 56 #[.slice (some ⟨b, off, none⟩) xs.length cap, .int .i64 y] w fun E w' => ∃ v, E = .returned v ∧ w'.ownsRow w.heap.size 44 4 v (Rc.at_ xs y).length ((Rc.at_ xs y).flatMap recVal) ∧ Kp w w' none := by
  have HR := Lib.hid hr
  clear hr
  go_enter Try.func56, Try.ntmps56
  go_wp2_with fail
  go_loopw [5, 6] (fun v i wr => AtRel w xs y v i wr) (fun _ i _ => xs.length - (intOf i).toNat)
  case atStart => exact ⟨0, Nat.zero_le _, rfl, World.ownsRow_nil _ _ _ _, Kp.refl _ _⟩
  case round =>
    obtain ⟨k, hk, rfl, hown, hK⟩ := hrel
    have HO := Lib.hid hown
    have HK := Lib.hid hK
    have hbz := HK.out.size
    clear hown hK
    have hk0 : (0 : Int) ≤ (k : Int) := Int.natCast_nonneg _
    by_cases hlt : k < xs.length
    · obtain ⟨r, hx⟩ : ∃ r, xs[k] = r := ⟨_, rfl⟩
      have cc : ∀ j, wr.cell? ⟨b, off + k * 4 + j, none⟩ = w.cell? ⟨b, off + k * 4 + j, none⟩ := fun j => HK.out.below.cell (p := ⟨b, off + k * 4 + j, none⟩) hb
      have c0 : wr.cell? ⟨b, off + k * 4, none⟩ = some (.int .i64 r.x0) := (cc 0).trans (by subst hx; exact HR.out k hlt 0 (by simp [recVal]))
      have c1 : wr.cell? ⟨b, off + k * 4 + 1, none⟩ = some (.int .i64 r.y0) := (cc 1).trans (by subst hx; exact HR.out k hlt 1 (by simp [recVal]))
      have c2 : wr.cell? ⟨b, off + k * 4 + 2, none⟩ = some (.int .i64 r.x1) := (cc 2).trans (by subst hx; exact HR.out k hlt 2 (by simp [recVal]))
      have c3 : wr.cell? ⟨b, off + k * 4 + 3, none⟩ = some (.int .i64 r.y1) := (cc 3).trans (by subst hx; exact HR.out k hlt 3 (by simp [recVal]))
      clear cc
      have hk1 : (k : Int) < (xs.length : Int) := by omega
      have HOUT : Hid (¬ (r.y0 ≤ y ∧ y < r.y1) → AtRel w xs y u5 (.int .i64 (k + 1)) wr) := Lib.hid fun h => at_rel_out (wr := wr) hlt (by rw [hx]; exact h) HO.out HK.out
      have HIN : Hid (r.y0 ≤ y ∧ y < r.y1 → ∀ u w4, w4.ownsRow w.heap.size 44 4 u ((Rc.at_ (xs.take k) y).length + 1) ((Rc.at_ (xs.take k) y).flatMap recVal ++ recVal r) → Kp w w4 none → AtRel w xs y u (.int .i64 (k + 1)) w4) := Lib.hid fun h u w4 h1 h2 => at_rel_in (_wr := wr) hlt (by rw [hx]; exact h) (by rw [hx]; exact h1) h2
      have hal := at_length xs k y hk
      have HM : Hid ((xs.length - (k + 1)) < xs.length - k) := Lib.hid (by omega)
      clear hx
      obtain ⟨x0, y0, x1, y1⟩ := r
      simp only [] at c0 c1 c2 c3
      generalize Rc.at_ (xs.take k) y = out at *
      by_cases h0 : y0 ≤ y
      · by_cases h1 : y < y1
        · have hcm : out.length + 1 ≤ maxLen := by unfold maxLen; omega
          have hcb : (out.length + 1) * 32 ≤ 140737488355328 := by omega
          obtain ⟨i0, hi, hz0, hz1, hz2⟩ := info_parts infoRect
          go_wp2_with (at_builtin; go_must (refine wpList_append_lies _ (by rfl) _ _ _ (by rfl) w.heap.size 44 i0 _ 4 32 Try.underlying22 hi hz0 hz1 hz2 rfl (by omega) u5 out.length (out.flatMap recVal) (by rfl) (HO.out.kept ((Kp.refl wr none).alloc (.cells #[.int .i64 x0, .int .i64 y0, .int .i64 x1, .int .i64 y1] 44)) (by cases u5.ownBlock <;> simp)) ⟨wr.heap.size, 0, none⟩ 1 1 [.int .i64 x0, .int .i64 y0, .int .i64 x1, .int .i64 y1] (by rfl) (by rfl) (World.news_of_block (cs := #[.int .i64 x0, .int .i64 y0, .int .i64 x1, .int .i64 y1]) (t := 44) (fr := (0, 0)) (heap_alloc_new wr _)) (by simp [Value.oneCell']) (by omega) hcm hcb (by simp; omega) (wr.heap.size + 1) (by simp) ?_))
          intro gg capg w4 hown4 hgrow4 _ _
          have HREL : Hid (AtRel w xs y (.slice (some ⟨gg, 0, none⟩) (out.length + 1) capg) (.int .i64 (k + 1)) w4) := Lib.hid (HIN.out ⟨h0, h1⟩ _ _ hown4 (Kp.row (HK.out.alloc _) hgrow4 (fun j hj => (HO.out.lt j hj).1)))
          clear hown4 hgrow4
          go_wp2_with fail
          go_roundw
          case rel => exact HREL.out
          case measure => simp [intOf]; omega
        · have HREL := Lib.hid (HOUT.out (fun h => h1 h.2))
          go_wp2_with fail
          go_roundw
          case rel => exact HREL.out
          case measure => simp [intOf]; omega
      · have HREL := Lib.hid (HOUT.out (fun h => h0 h.1))
        go_wp2_with fail
        go_roundw
        case rel => exact HREL.out
        case measure => simp [intOf]; omega
    · have hkx : k = xs.length := by omega
      have HE : Hid (∃ v, Ending.returned u5 = .returned v ∧ wr.ownsRow w.heap.size 44 4 v (Rc.at_ xs y).length ((Rc.at_ xs y).flatMap recVal) ∧ Kp w wr none) := Lib.hid ⟨u5, rfl, by have := HO.out; rw [hkx, List.take_length] at this; exact this, HK.out⟩
      have hkn1 : ¬ (k : Int) < (xs.length : Int) := by omega
      clear hkx
      go_wp2_with fail
      go_ret
      exact HE.out

set_option maxHeartbeats 1000000 in
theorem at_nil (ao : Option Addr) (c : Nat) (y : Int) (w : World) : Calls Try.prog 56 #[.slice ao 0 c, .int .i64 y] w fun E w' => E = .returned (.slice none 0 0) ∧ w = w' := by
  go_enter Try.func56, Try.ntmps56
  go_wp2_with fail
  go_loopw [5, 6] (fun v i wr => v = .slice none 0 0 ∧ i = .int .i64 0 ∧ w = wr) (fun _ _ _ => 0)
  case atStart => exact ⟨rfl, rfl, rfl⟩
  case round =>
    obtain ⟨rfl, rfl, rfl⟩ := hrel
    go_wp2_with fail
    go_ret
    exact ⟨rfl, rfl⟩

theorem at_any (v : Value) (xs : List Rc.Rect) (y : Int) (w : World) (h : IsRects w v xs) (hl : xs.length ≤ 65536) :
    Calls Try.prog 56 #[v, .int .i64 y] w fun E w' => ∃ u, E = .returned u ∧ IsRects w' u (Rc.at_ xs y) ∧ Kp w w' none := by
  rcases h with ⟨ao, cap, rfl, rfl⟩ | ⟨b, off, cap, rfl, hc, hb, hr⟩
  · refine (at_nil ao cap y w).mono ?_
    rintro E w' ⟨rfl, rfl⟩
    exact ⟨_, rfl, .inl ⟨none, 0, rfl, rfl⟩, Kp.refl _ _⟩
  · refine (at_row b off cap xs y w hb hc hl hr).mono ?_
    rintro E w' ⟨u, rfl, hown, hk⟩
    exact ⟨u, rfl, isList_own (m := 4) (f := recVal) (fun _ => rfl) hown, hk⟩

end Go.Proofs.Ytpakiabnhdoijaa
