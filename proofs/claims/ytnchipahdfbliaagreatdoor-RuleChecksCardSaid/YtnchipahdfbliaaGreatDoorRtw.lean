/- The program's conditions: sizes, and which are right. Conditions: trees in memory whose strings have at most 10^9 bytes. -/
import Derived.Test.YtnchipahdfbliaaGreatDoorEy
import Derived.RegionTactic
import Derived.ChangeAlike
namespace Go.Proofs.YtnchipahdfbliaaGreatDoor
open Go.RowKit

theorem ret_b {a b : Bool} (h : a = b) : Ending.returned (.bool a) = .returned (.bool b) := by rw [h]
theorem bcell {W w1 : World} (hb : Kp W w1 none) : (∀ b o, b < W.heap.size → w1.cell? ⟨b, o, none⟩ = W.cell? ⟨b, o, none⟩) ∧ (∀ b o, b < W.heap.size → w1.frozen? ⟨b, o, none⟩ = W.frozen? ⟨b, o, none⟩) :=
 ⟨fun b o h => hb.below.cell (p := ⟨b, o, none⟩) h, fun b o h => hb.below.frozen (p := ⟨b, o, none⟩) h⟩
theorem within_any (n lo hi : Int) (w : World) : Calls Tryz.prog 36 #[.int .i64 n, .int .i64 lo, .int .i64 hi] w fun e w' => e = .returned (.bool (decide (lo ≤ n ∧ n ≤ hi))) ∧ w' = w := by
 by_cases h1 : lo ≤ n
 ·by_cases h2 : n ≤ hi
  ·rw [decide_eq_true ⟨h1, h2⟩]
   go_enter Tryz.func36, Tryz.ntmps36
   go_wp2
   go_ret
   exact ⟨rfl, rfl⟩
  ·rw [decide_eq_false (fun h => h2 h.2)]
   go_enter Tryz.func36, Tryz.ntmps36
   go_wp2
   go_ret
   exact ⟨rfl, rfl⟩
 ·rw [decide_eq_false (fun h => h1 h.1)]
  go_enter Tryz.func36, Tryz.ntmps36
  go_wp2
  go_ret
  exact ⟨rfl, rfl⟩
set_option maxRecDepth 100000 in
theorem vecRight_any (x y : Int) (w : World) : Calls Tryz.prog 60 #[.agg #[.int .i64 x, .int .i64 y]] w fun e w' => e = .returned (.bool (Ru.coordR x && Ru.coordR y)) ∧ Kp w w' none := by
 have he : (Ru.coordR x && Ru.coordR y) = decide ((-67108864 ≤ x ∧ x ≤ 67108864) ∧ (-67108864 ≤ y ∧ y ≤ 67108864)) := by
  unfold Ru.coordR; rw [Bool.eq_iff_iff]; simp
 obtain ⟨r, hr⟩ : ∃ r, (Ru.coordR x && Ru.coordR y) = r := ⟨_, rfl⟩
 rw [hr] at he ⊢
 have HR := Lib.hid he
 clear he hr
 by_cases h1 : max x y ≤ 67108864
 ·by_cases h2 : -67108864 ≤ min x y
  ·have H3 : Hid (r = true) := Lib.hid (by rw [HR.out, decide_eq_true_iff]; omega)
   go_enter Tryz.func60, Tryz.ntmps60
   go_wp2
   go_ret
   exact ⟨by rw [H3.out]; rfl, (Kp.refl w none).alloc _⟩
  ·have H3 : Hid (r = false) := Lib.hid (by rw [HR.out, decide_eq_false_iff_not]; omega)
   go_enter Tryz.func60, Tryz.ntmps60
   go_wp2
   go_ret
   exact ⟨by rw [H3.out]; rfl, (Kp.refl w none).alloc _⟩
 ·have H3 : Hid (r = false) := Lib.hid (by rw [HR.out, decide_eq_false_iff_not]; omega)
  go_enter Tryz.func60, Tryz.ntmps60
  go_wp2
  go_ret
  exact ⟨by rw [H3.out]; rfl, (Kp.refl w none).alloc _⟩
set_option maxHeartbeats 8000000 in
set_option maxRecDepth 100000 in
theorem right_op1 (t : List UInt8) (n : Int) (x0 y0 x1 y1 : Int) (l : List Ru.Cond) (w : World) (he : Env w) (_ht : t.length ≤ 1000000000) (ao : Option Addr) (cap m : Nat) (hm : l.length = m) (_hm2 : m ≤ 1000000000000)
  (hc : ∀ u, Kp w u none → Calls Tryz.prog 61 #[.slice ao m cap, .func (.func 62) #[] #[]] u fun e w' => e = .returned (.bool (!Ru.rights l)) ∧ Kp u w' none) : Calls Tryz.prog 37 #[.agg #[.int .i64 1, str t, .int .i64 n, .int .i64 x0, .int .i64 y0, .int .i64 x1, .int .i64 y1, .slice ao m cap]] w fun e w' => e = .returned (.bool (Ru.right (.mk 1 t n ⟨x0, y0, x1, y1⟩ l))) ∧ Kp w w' none := by
 obtain ⟨r, hr⟩ : ∃ r, Ru.right (.mk 1 t n ⟨x0, y0, x1, y1⟩ l) = r := ⟨_, rfl⟩
 rw [hr]
 obtain ⟨g, hg⟩ : ∃ g, Ru.rights l = g := ⟨_, rfl⟩
 rw [Ru.right_mk, hm, hg] at hr
 rw [hg] at hc
 have hc0 : m = 0 → ∀ u, Kp w u none → Calls Tryz.prog 61 #[.slice ao 0 cap, .func (.func 62) #[] #[]] u fun e w' => e = .returned (.bool (!g)) ∧ Kp u w' none := fun h => by rw [← h]; exact hc
 have HC := Lib.hid hc
 have HC0 := Lib.hid hc0
 have HE := Lib.hid he
 have HM := Lib.hid hm
 have HG := Lib.hid hg
 clear hc hc0 he hm hg
 simp [Ru.fine, Ru.rest, Ru.Box.none] at hr
 have HR := Lib.hid hr
 clear hr
 go_enter Tryz.func37, Tryz.ntmps37
 go_wp2_with (first | (go_at_call 61; first | ((with_reducible refine (HC.out _ (((Kp.refl w none).alloc _).alloc _)).mono ?_); rintro e w9 ⟨rfl, hk9⟩; have hz9 := Lib.hid hk9; clear hk9) | ((with_reducible refine (HC0.out (by assumption) _ (((Kp.refl w none).alloc _).alloc _)).mono ?_); rintro e w9 ⟨rfl, hk9⟩; have hz9 := Lib.hid hk9; clear hk9)))
 all_goals
  go_ret
  refine ⟨?_, by first | exact (((Kp.refl w none).alloc _).alloc _) | exact ((((Kp.refl w none).alloc _).alloc _).trans hz9.out)⟩
  refine ret_b ?_
  rw [← HR.out] <;> (clear HC HC0 HE HM HG HR; simp [*])

set_option maxHeartbeats 8000000 in
set_option maxRecDepth 100000 in
theorem right_op3 (t : List UInt8) (n : Int) (x0 y0 x1 y1 : Int) (l : List Ru.Cond) (w : World) (he : Env w) (ht : t.length ≤ 1000000000) (ao : Option Addr) (cap m : Nat) (hm : l.length = m) (_hm2 : m ≤ 1000000000000)
  (hc : ∀ u, Kp w u none → Calls Tryz.prog 61 #[.slice ao m cap, .func (.func 62) #[] #[]] u fun e w' => e = .returned (.bool (!Ru.rights l)) ∧ Kp u w' none) : Calls Tryz.prog 37 #[.agg #[.int .i64 3, str t, .int .i64 n, .int .i64 x0, .int .i64 y0, .int .i64 x1, .int .i64 y1, .slice ao m cap]] w fun e w' => e = .returned (.bool (Ru.right (.mk 3 t n ⟨x0, y0, x1, y1⟩ l))) ∧ Kp w w' none := by
 obtain ⟨r, hr⟩ : ∃ r, Ru.right (.mk 3 t n ⟨x0, y0, x1, y1⟩ l) = r := ⟨_, rfl⟩
 rw [hr]
 obtain ⟨g, hg⟩ : ∃ g, Ru.rights l = g := ⟨_, rfl⟩
 rw [Ru.right_mk, hm, hg] at hr
 rw [hg] at hc
 have hc0 : m = 0 → ∀ u, Kp w u none → Calls Tryz.prog 61 #[.slice ao 0 cap, .func (.func 62) #[] #[]] u fun e w' => e = .returned (.bool (!g)) ∧ Kp u w' none := fun h => by rw [← h]; exact hc
 have HC := Lib.hid hc
 have HC0 := Lib.hid hc0
 have HE := Lib.hid he
 have HM := Lib.hid hm
 have HG := Lib.hid hg
 clear hc hc0 he hm hg
 simp [Ru.fine, Ru.rest, Ru.Box.none] at hr
 obtain ⟨q, hq⟩ : ∃ q, Ru.nameR t = q := ⟨_, rfl⟩
 rw [hq] at hr
 have c1 := rightB hq ht
 clear hq
 have HR := Lib.hid hr
 clear hr
 go_enter Tryz.func37, Tryz.ntmps37
 go_wp2_with (first | (go_at_call 33; refine (c1 _).mono ?_; rintro e w1 ⟨rfl, hk1⟩; have hz1 := Lib.hid hk1; have hsz1 := hk1.size; obtain ⟨hcc1, hff1⟩ := bcell hk1; clear hk1) | (go_at_call 61; first | ((with_reducible refine (HC.out _ (((((Kp.refl w none).alloc _).alloc _).trans hz1.out).of_own ((Kp.refl _ (some (w.heap.size + 1))).set _) (by omega))).mono ?_); rintro e w9 ⟨rfl, hk9⟩; have hz9 := Lib.hid hk9; clear hk9) | ((with_reducible refine (HC0.out (by assumption) _ (((((Kp.refl w none).alloc _).alloc _).trans hz1.out).of_own ((Kp.refl _ (some (w.heap.size + 1))).set _) (by omega))).mono ?_); rintro e w9 ⟨rfl, hk9⟩; have hz9 := Lib.hid hk9; clear hk9)))
 all_goals
  go_ret
  refine ⟨?_, by first | exact (((((Kp.refl w none).alloc _).alloc _).trans hz1.out).of_own ((Kp.refl _ (some (w.heap.size + 1))).set _) (by omega)) | exact ((((((Kp.refl w none).alloc _).alloc _).trans hz1.out).of_own ((Kp.refl _ (some (w.heap.size + 1))).set _) (by omega)).trans hz9.out)⟩
  refine ret_b ?_
  rw [← HR.out] <;> (clear HC HC0 HE HM HG HR; simp [*])

set_option maxHeartbeats 8000000 in
set_option maxRecDepth 100000 in
theorem right_op2 (t : List UInt8) (n : Int) (x0 y0 x1 y1 : Int) (l : List Ru.Cond) (w : World) (he : Env w) (ht : t.length ≤ 1000000000) (ao : Option Addr) (cap m : Nat) (hm : l.length = m) (_hm2 : m ≤ 1000000000000)
  (hc : ∀ u, Kp w u none → Calls Tryz.prog 61 #[.slice ao m cap, .func (.func 62) #[] #[]] u fun e w' => e = .returned (.bool (!Ru.rights l)) ∧ Kp u w' none) : Calls Tryz.prog 37 #[.agg #[.int .i64 2, str t, .int .i64 n, .int .i64 x0, .int .i64 y0, .int .i64 x1, .int .i64 y1, .slice ao m cap]] w fun e w' => e = .returned (.bool (Ru.right (.mk 2 t n ⟨x0, y0, x1, y1⟩ l))) ∧ Kp w w' none := by
 obtain ⟨r, hr⟩ : ∃ r, Ru.right (.mk 2 t n ⟨x0, y0, x1, y1⟩ l) = r := ⟨_, rfl⟩
 rw [hr]
 obtain ⟨g, hg⟩ : ∃ g, Ru.rights l = g := ⟨_, rfl⟩
 rw [Ru.right_mk, hm, hg] at hr
 rw [hg] at hc
 have hc0 : m = 0 → ∀ u, Kp w u none → Calls Tryz.prog 61 #[.slice ao 0 cap, .func (.func 62) #[] #[]] u fun e w' => e = .returned (.bool (!g)) ∧ Kp u w' none := fun h => by rw [← h]; exact hc
 have HC := Lib.hid hc
 have HC0 := Lib.hid hc0
 have HE := Lib.hid he
 have HM := Lib.hid hm
 have HG := Lib.hid hg
 clear hc hc0 he hm hg
 simp [Ru.fine, Ru.rest, Ru.Box.none] at hr
 have c0 := fun u hu => split12_any t ht u (HE.out.kp0 hu)
 unfold Ru.splitR at hr
 cases hsp : Ru.split t with
 | none =>
  rw [hsp] at hr
  have c1 : ∀ u, Kp w u none → Calls Tryz.prog 59 #[str t] u fun e w' => e = .returned (.tuple #[.slice none 0 0, .bool false]) ∧ Kp u w' none := fun u hu => (c0 u hu).mono fun e w' h => by rw [hsp] at h; exact h
  clear c0 hsp
  simp at hr
  have HR := Lib.hid hr
  clear hr
  go_enter Tryz.func37, Tryz.ntmps37
  go_wp2_with (first | (go_at_call 59; refine (c1 _ (((Kp.refl w none).alloc _).alloc _)).mono ?_; rintro e w1 ⟨rfl, hk1⟩; have hz1 := Lib.hid hk1; have hsz1 := hk1.size; obtain ⟨hcc1, hff1⟩ := bcell hk1; clear hk1) | (go_at_call 61; first | ((with_reducible refine (HC.out _ (((((Kp.refl w none).alloc _).alloc _).trans hz1.out).of_own ((Kp.refl _ (some (w.heap.size + 1))).set _) (by omega))).mono ?_); rintro e w9 ⟨rfl, hk9⟩; have hz9 := Lib.hid hk9; clear hk9) | ((with_reducible refine (HC0.out (by assumption) _ (((((Kp.refl w none).alloc _).alloc _).trans hz1.out).of_own ((Kp.refl _ (some (w.heap.size + 1))).set _) (by omega))).mono ?_); rintro e w9 ⟨rfl, hk9⟩; have hz9 := Lib.hid hk9; clear hk9)))
  all_goals
   go_ret
   refine ⟨?_, by first | exact (((((Kp.refl w none).alloc _).alloc _).trans hz1.out).of_own ((Kp.refl _ (some (w.heap.size + 1))).set _) (by omega)) | exact ((((((Kp.refl w none).alloc _).alloc _).trans hz1.out).of_own ((Kp.refl _ (some (w.heap.size + 1))).set _) (by omega)).trans hz9.out)⟩
   refine ret_b ?_
   rw [← HR.out] <;> (clear HC HC0 HE HM HG HR; simp [*])
 | some ls =>
  rw [hsp] at hr
  have c1 : ∀ u, Kp w u none → Calls Tryz.prog 59 #[str t] u fun e w' => ∃ a2 c2, e = .returned (.tuple #[.slice a2 ls.length c2, .bool true]) ∧ Kp u w' none := fun u hu => (c0 u hu).mono fun e w' h => by
   rw [hsp] at h
   obtain ⟨⟨v, h1, h2⟩, h3⟩ := h
   obtain ⟨a2, c2, rfl, _⟩ := h2.form
   exact ⟨a2, c2, h1, h3⟩
  obtain ⟨k, hk⟩ : ∃ k, ls.length = k := ⟨_, rfl⟩
  simp only [hk] at hr c1
  clear c0 hsp hk
  by_cases h5 : k ≤ 5
  ·simp [h5] at hr
   have HR := Lib.hid hr
   clear hr
   go_enter Tryz.func37, Tryz.ntmps37
   go_wp2_with (first | (go_at_call 59; refine (c1 _ (((Kp.refl w none).alloc _).alloc _)).mono ?_; rintro e w1 ⟨a2, c2, rfl, hk1⟩; have hz1 := Lib.hid hk1; have hsz1 := hk1.size; obtain ⟨hcc1, hff1⟩ := bcell hk1; clear hk1) | (go_at_call 61; first | ((with_reducible refine (HC.out _ (((((Kp.refl w none).alloc _).alloc _).trans hz1.out).of_own ((Kp.refl _ (some (w.heap.size + 1))).set _) (by omega))).mono ?_); rintro e w9 ⟨rfl, hk9⟩; have hz9 := Lib.hid hk9; clear hk9) | ((with_reducible refine (HC0.out (by assumption) _ (((((Kp.refl w none).alloc _).alloc _).trans hz1.out).of_own ((Kp.refl _ (some (w.heap.size + 1))).set _) (by omega))).mono ?_); rintro e w9 ⟨rfl, hk9⟩; have hz9 := Lib.hid hk9; clear hk9)))
   all_goals
    go_ret
    refine ⟨?_, by first | exact (((((Kp.refl w none).alloc _).alloc _).trans hz1.out).of_own ((Kp.refl _ (some (w.heap.size + 1))).set _) (by omega)) | exact ((((((Kp.refl w none).alloc _).alloc _).trans hz1.out).of_own ((Kp.refl _ (some (w.heap.size + 1))).set _) (by omega)).trans hz9.out)⟩
    refine ret_b ?_
    rw [← HR.out] <;> (clear HC HC0 HE HM HG HR; simp [*])
  ·simp [h5] at hr
   have HR := Lib.hid hr
   clear hr
   go_enter Tryz.func37, Tryz.ntmps37
   go_wp2_with (first | (go_at_call 59; refine (c1 _ (((Kp.refl w none).alloc _).alloc _)).mono ?_; rintro e w1 ⟨a2, c2, rfl, hk1⟩; have hz1 := Lib.hid hk1; have hsz1 := hk1.size; obtain ⟨hcc1, hff1⟩ := bcell hk1; clear hk1) | (go_at_call 61; first | ((with_reducible refine (HC.out _ (((((Kp.refl w none).alloc _).alloc _).trans hz1.out).of_own ((Kp.refl _ (some (w.heap.size + 1))).set _) (by omega))).mono ?_); rintro e w9 ⟨rfl, hk9⟩; have hz9 := Lib.hid hk9; clear hk9) | ((with_reducible refine (HC0.out (by assumption) _ (((((Kp.refl w none).alloc _).alloc _).trans hz1.out).of_own ((Kp.refl _ (some (w.heap.size + 1))).set _) (by omega))).mono ?_); rintro e w9 ⟨rfl, hk9⟩; have hz9 := Lib.hid hk9; clear hk9)))
   all_goals
    go_ret
    refine ⟨?_, by first | exact (((((Kp.refl w none).alloc _).alloc _).trans hz1.out).of_own ((Kp.refl _ (some (w.heap.size + 1))).set _) (by omega)) | exact ((((((Kp.refl w none).alloc _).alloc _).trans hz1.out).of_own ((Kp.refl _ (some (w.heap.size + 1))).set _) (by omega)).trans hz9.out)⟩
    refine ret_b ?_
    rw [← HR.out] <;> (clear HC HC0 HE HM HG HR; simp [*])

set_option maxHeartbeats 8000000 in
set_option maxRecDepth 100000 in
theorem right_op4 (t : List UInt8) (n : Int) (x0 y0 x1 y1 : Int) (l : List Ru.Cond) (w : World) (he : Env w) (_ht : t.length ≤ 1000000000) (ao : Option Addr) (cap m : Nat) (hm : l.length = m) (_hm2 : m ≤ 1000000000000)
  (hc : ∀ u, Kp w u none → Calls Tryz.prog 61 #[.slice ao m cap, .func (.func 62) #[] #[]] u fun e w' => e = .returned (.bool (!Ru.rights l)) ∧ Kp u w' none) : Calls Tryz.prog 37 #[.agg #[.int .i64 4, str t, .int .i64 n, .int .i64 x0, .int .i64 y0, .int .i64 x1, .int .i64 y1, .slice ao m cap]] w fun e w' => e = .returned (.bool (Ru.right (.mk 4 t n ⟨x0, y0, x1, y1⟩ l))) ∧ Kp w w' none := by
 obtain ⟨r, hr⟩ : ∃ r, Ru.right (.mk 4 t n ⟨x0, y0, x1, y1⟩ l) = r := ⟨_, rfl⟩
 rw [hr]
 obtain ⟨g, hg⟩ : ∃ g, Ru.rights l = g := ⟨_, rfl⟩
 rw [Ru.right_mk, hm, hg] at hr
 rw [hg] at hc
 have hc0 : m = 0 → ∀ u, Kp w u none → Calls Tryz.prog 61 #[.slice ao 0 cap, .func (.func 62) #[] #[]] u fun e w' => e = .returned (.bool (!g)) ∧ Kp u w' none := fun h => by rw [← h]; exact hc
 have HC := Lib.hid hc
 have HC0 := Lib.hid hc0
 have HE := Lib.hid he
 have HM := Lib.hid hm
 have HG := Lib.hid hg
 clear hc hc0 he hm hg
 simp [Ru.fine, Ru.rest, Ru.Box.none] at hr
 have c1 := within_any n 1 5
 obtain ⟨q, hq⟩ : ∃ q, decide (1 ≤ n ∧ n ≤ 5) = q := ⟨_, rfl⟩
 simp only [hq] at c1
 have hq2 : (decide (1 ≤ n) && decide (n ≤ 5)) = q := by rw [← hq, Bool.eq_iff_iff]; simp
 rw [hq2] at hr
 clear hq hq2
 have HR := Lib.hid hr
 clear hr
 go_enter Tryz.func37, Tryz.ntmps37
 go_wp2_with (first | (go_at_call 36; refine (c1 _).mono ?_; rintro e w1 ⟨rfl, rfl⟩) | (go_at_call 61; first | ((with_reducible refine (HC.out _ (((Kp.refl w none).alloc _).alloc _)).mono ?_); rintro e w9 ⟨rfl, hk9⟩; have hz9 := Lib.hid hk9; clear hk9) | ((with_reducible refine (HC0.out (by assumption) _ (((Kp.refl w none).alloc _).alloc _)).mono ?_); rintro e w9 ⟨rfl, hk9⟩; have hz9 := Lib.hid hk9; clear hk9)))
 all_goals
  go_ret
  refine ⟨?_, by first | exact (((Kp.refl w none).alloc _).alloc _) | exact ((((Kp.refl w none).alloc _).alloc _).trans hz9.out)⟩
  refine ret_b ?_
  rw [← HR.out] <;> (clear HC HC0 HE HM HG HR; simp [*])

set_option maxHeartbeats 8000000 in
set_option maxRecDepth 100000 in
theorem right_op5 (t : List UInt8) (n : Int) (x0 y0 x1 y1 : Int) (l : List Ru.Cond) (w : World) (he : Env w) (_ht : t.length ≤ 1000000000) (ao : Option Addr) (cap m : Nat) (hm : l.length = m) (_hm2 : m ≤ 1000000000000)
  (hc : ∀ u, Kp w u none → Calls Tryz.prog 61 #[.slice ao m cap, .func (.func 62) #[] #[]] u fun e w' => e = .returned (.bool (!Ru.rights l)) ∧ Kp u w' none) : Calls Tryz.prog 37 #[.agg #[.int .i64 5, str t, .int .i64 n, .int .i64 x0, .int .i64 y0, .int .i64 x1, .int .i64 y1, .slice ao m cap]] w fun e w' => e = .returned (.bool (Ru.right (.mk 5 t n ⟨x0, y0, x1, y1⟩ l))) ∧ Kp w w' none := by
 obtain ⟨r, hr⟩ : ∃ r, Ru.right (.mk 5 t n ⟨x0, y0, x1, y1⟩ l) = r := ⟨_, rfl⟩
 rw [hr]
 obtain ⟨g, hg⟩ : ∃ g, Ru.rights l = g := ⟨_, rfl⟩
 rw [Ru.right_mk, hm, hg] at hr
 rw [hg] at hc
 have hc0 : m = 0 → ∀ u, Kp w u none → Calls Tryz.prog 61 #[.slice ao 0 cap, .func (.func 62) #[] #[]] u fun e w' => e = .returned (.bool (!g)) ∧ Kp u w' none := fun h => by rw [← h]; exact hc
 have HC := Lib.hid hc
 have HC0 := Lib.hid hc0
 have HE := Lib.hid he
 have HM := Lib.hid hm
 have HG := Lib.hid hg
 clear hc hc0 he hm hg
 simp [Ru.fine, Ru.rest, Ru.Box.none] at hr
 have c1 := within_any n 1 4
 obtain ⟨q, hq⟩ : ∃ q, decide (1 ≤ n ∧ n ≤ 4) = q := ⟨_, rfl⟩
 simp only [hq] at c1
 have hq2 : (decide (1 ≤ n) && decide (n ≤ 4)) = q := by rw [← hq, Bool.eq_iff_iff]; simp
 rw [hq2] at hr
 clear hq hq2
 have HR := Lib.hid hr
 clear hr
 go_enter Tryz.func37, Tryz.ntmps37
 go_wp2_with (first | (go_at_call 36; refine (c1 _).mono ?_; rintro e w1 ⟨rfl, rfl⟩) | (go_at_call 61; first | ((with_reducible refine (HC.out _ (((Kp.refl w none).alloc _).alloc _)).mono ?_); rintro e w9 ⟨rfl, hk9⟩; have hz9 := Lib.hid hk9; clear hk9) | ((with_reducible refine (HC0.out (by assumption) _ (((Kp.refl w none).alloc _).alloc _)).mono ?_); rintro e w9 ⟨rfl, hk9⟩; have hz9 := Lib.hid hk9; clear hk9)))
 all_goals
  go_ret
  refine ⟨?_, by first | exact (((Kp.refl w none).alloc _).alloc _) | exact ((((Kp.refl w none).alloc _).alloc _).trans hz9.out)⟩
  refine ret_b ?_
  rw [← HR.out] <;> (clear HC HC0 HE HM HG HR; simp [*])

set_option maxHeartbeats 8000000 in
set_option maxRecDepth 100000 in
theorem right_op6 (t : List UInt8) (n : Int) (x0 y0 x1 y1 : Int) (l : List Ru.Cond) (w : World) (he : Env w) (_ht : t.length ≤ 1000000000) (ao : Option Addr) (cap m : Nat) (hm : l.length = m) (_hm2 : m ≤ 1000000000000)
  (hc : ∀ u, Kp w u none → Calls Tryz.prog 61 #[.slice ao m cap, .func (.func 62) #[] #[]] u fun e w' => e = .returned (.bool (!Ru.rights l)) ∧ Kp u w' none) : Calls Tryz.prog 37 #[.agg #[.int .i64 6, str t, .int .i64 n, .int .i64 x0, .int .i64 y0, .int .i64 x1, .int .i64 y1, .slice ao m cap]] w fun e w' => e = .returned (.bool (Ru.right (.mk 6 t n ⟨x0, y0, x1, y1⟩ l))) ∧ Kp w w' none := by
 obtain ⟨r, hr⟩ : ∃ r, Ru.right (.mk 6 t n ⟨x0, y0, x1, y1⟩ l) = r := ⟨_, rfl⟩
 rw [hr]
 obtain ⟨g, hg⟩ : ∃ g, Ru.rights l = g := ⟨_, rfl⟩
 rw [Ru.right_mk, hm, hg] at hr
 rw [hg] at hc
 have hc0 : m = 0 → ∀ u, Kp w u none → Calls Tryz.prog 61 #[.slice ao 0 cap, .func (.func 62) #[] #[]] u fun e w' => e = .returned (.bool (!g)) ∧ Kp u w' none := fun h => by rw [← h]; exact hc
 have HC := Lib.hid hc
 have HC0 := Lib.hid hc0
 have HE := Lib.hid he
 have HM := Lib.hid hm
 have HG := Lib.hid hg
 clear hc hc0 he hm hg
 simp [Ru.fine, Ru.rest, Ru.Box.none] at hr
 have c1 := within_any n 1 1000000000
 obtain ⟨q, hq⟩ : ∃ q, decide (1 ≤ n ∧ n ≤ 1000000000) = q := ⟨_, rfl⟩
 simp only [hq] at c1
 have hq2 : (decide (1 ≤ n) && decide (n ≤ 1000000000)) = q := by rw [← hq, Bool.eq_iff_iff]; simp
 rw [hq2] at hr
 clear hq hq2
 have HR := Lib.hid hr
 clear hr
 go_enter Tryz.func37, Tryz.ntmps37
 go_wp2_with (first | (go_at_call 36; refine (c1 _).mono ?_; rintro e w1 ⟨rfl, rfl⟩) | (go_at_call 61; first | ((with_reducible refine (HC.out _ (((Kp.refl w none).alloc _).alloc _)).mono ?_); rintro e w9 ⟨rfl, hk9⟩; have hz9 := Lib.hid hk9; clear hk9) | ((with_reducible refine (HC0.out (by assumption) _ (((Kp.refl w none).alloc _).alloc _)).mono ?_); rintro e w9 ⟨rfl, hk9⟩; have hz9 := Lib.hid hk9; clear hk9)))
 all_goals
  go_ret
  refine ⟨?_, by first | exact (((Kp.refl w none).alloc _).alloc _) | exact ((((Kp.refl w none).alloc _).alloc _).trans hz9.out)⟩
  refine ret_b ?_
  rw [← HR.out] <;> (clear HC HC0 HE HM HG HR; simp [*])

set_option maxHeartbeats 8000000 in
set_option maxRecDepth 100000 in
theorem right_op7 (t : List UInt8) (n : Int) (x0 y0 x1 y1 : Int) (l : List Ru.Cond) (w : World) (he : Env w) (_ht : t.length ≤ 1000000000) (ao : Option Addr) (cap m : Nat) (hm : l.length = m) (_hm2 : m ≤ 1000000000000)
  (hc : ∀ u, Kp w u none → Calls Tryz.prog 61 #[.slice ao m cap, .func (.func 62) #[] #[]] u fun e w' => e = .returned (.bool (!Ru.rights l)) ∧ Kp u w' none) : Calls Tryz.prog 37 #[.agg #[.int .i64 7, str t, .int .i64 n, .int .i64 x0, .int .i64 y0, .int .i64 x1, .int .i64 y1, .slice ao m cap]] w fun e w' => e = .returned (.bool (Ru.right (.mk 7 t n ⟨x0, y0, x1, y1⟩ l))) ∧ Kp w w' none := by
 obtain ⟨r, hr⟩ : ∃ r, Ru.right (.mk 7 t n ⟨x0, y0, x1, y1⟩ l) = r := ⟨_, rfl⟩
 rw [hr]
 obtain ⟨g, hg⟩ : ∃ g, Ru.rights l = g := ⟨_, rfl⟩
 rw [Ru.right_mk, hm, hg] at hr
 rw [hg] at hc
 have hc0 : m = 0 → ∀ u, Kp w u none → Calls Tryz.prog 61 #[.slice ao 0 cap, .func (.func 62) #[] #[]] u fun e w' => e = .returned (.bool (!g)) ∧ Kp u w' none := fun h => by rw [← h]; exact hc
 have HC := Lib.hid hc
 have HC0 := Lib.hid hc0
 have HE := Lib.hid he
 have HM := Lib.hid hm
 have HG := Lib.hid hg
 clear hc hc0 he hm hg
 simp [Ru.fine, Ru.rest, Ru.Box.none] at hr
 have c1 := vecRight_any x0 y0
 have c2 := vecRight_any x1 y1
 obtain ⟨p, hp⟩ : ∃ p, (Ru.coordR x0 && Ru.coordR y0) = p := ⟨_, rfl⟩
 obtain ⟨q, hq⟩ : ∃ q, (Ru.coordR x1 && Ru.coordR y1) = q := ⟨_, rfl⟩
 simp only [hp] at c1
 simp only [hq] at c2
 simp [Ru.boxR] at hr
 simp only [hp, hq] at hr
 clear hp hq
 by_cases hx : x0 ≤ x1
 ·by_cases hy : y0 ≤ y1
  ·cases p
   ·simp [hx, hy] at hr
    have HR := Lib.hid hr
    clear hr
    go_enter Tryz.func37, Tryz.ntmps37
    go_wp2_with (first | (go_at_call 60; refine (c1 _).mono ?_; rintro e w1 ⟨rfl, hk1⟩; have hz1 := Lib.hid hk1; have hl1 : w.heap.size + 1 < w1.heap.size := (by have hh := hk1.size; (try simp at hh); omega); have hb1 : w.heap.size < w1.heap.size := (by omega); have hsz1 := hk1.size; obtain ⟨hcc1, hff1⟩ := bcell hk1; clear hk1) | (go_at_call 61; first | ((with_reducible refine (HC.out _ (by assumption)).mono ?_); rintro e w9 ⟨rfl, hk9⟩; have hz9 := Lib.hid hk9; clear hk9) | ((with_reducible refine (HC0.out (by assumption) _ (by assumption)).mono ?_); rintro e w9 ⟨rfl, hk9⟩; have hz9 := Lib.hid hk9; clear hk9)))
    all_goals
     go_ret
     refine ⟨?_, by first | exact ((((((Kp.refl w none).alloc _).alloc _).alloc _).trans hz1.out).of_own (((((Kp.refl _ (some (w.heap.size + 1))).set _).set _).set _).set _) (by omega))⟩
     refine ret_b ?_
     rw [← HR.out] <;> (clear HC HC0 HE HM HG HR; simp [*])
   ·simp [hx, hy] at hr
    have HR := Lib.hid hr
    clear hr
    go_enter Tryz.func37, Tryz.ntmps37
    go_wp2_with (first | (go_at_call 60; (with_reducible refine (c1 _).mono ?_); rintro e w1 ⟨rfl, hk1⟩; have hz1 := Lib.hid hk1; have hl1 : w.heap.size + 1 < w1.heap.size := (by have hh := hk1.size; (try simp at hh); omega); have hb1 : w.heap.size < w1.heap.size := (by omega); have hsz1 := hk1.size; obtain ⟨hcc1, hff1⟩ := bcell hk1; clear hk1) | (go_at_call 60; (with_reducible refine (c2 _).mono ?_); rintro e w2 ⟨rfl, hk2⟩; have hz2 := Lib.hid hk2; have hl2 : w.heap.size + 1 < w2.heap.size := (by have hh := hk2.size; (try simp at hh); omega); have hb2 : w.heap.size < w2.heap.size := (by omega); have hsz2 := hk2.size; obtain ⟨hcc2, hff2⟩ := bcell hk2; clear hk2) | (go_at_call 61; first | ((with_reducible refine (HC.out _ (((((((Kp.refl w none).alloc _).alloc _).alloc _).trans hz1.out).trans hz2.out).of_own (((((Kp.refl _ (some (w.heap.size + 1))).set _).set _).set _).set _) (by omega))).mono ?_); rintro e w9 ⟨rfl, hk9⟩; have hz9 := Lib.hid hk9; clear hk9) | ((with_reducible refine (HC0.out (by assumption) _ (((((((Kp.refl w none).alloc _).alloc _).alloc _).trans hz1.out).trans hz2.out).of_own (((((Kp.refl _ (some (w.heap.size + 1))).set _).set _).set _).set _) (by omega))).mono ?_); rintro e w9 ⟨rfl, hk9⟩; have hz9 := Lib.hid hk9; clear hk9)))
    all_goals
     go_ret
     refine ⟨?_, by first | exact (((((((Kp.refl w none).alloc _).alloc _).alloc _).trans hz1.out).trans hz2.out).of_own (((((Kp.refl _ (some (w.heap.size + 1))).set _).set _).set _).set _) (by omega)) | exact ((((((((Kp.refl w none).alloc _).alloc _).alloc _).trans hz1.out).trans hz2.out).of_own (((((Kp.refl _ (some (w.heap.size + 1))).set _).set _).set _).set _) (by omega)).trans hz9.out)⟩
     refine ret_b ?_
     rw [← HR.out] <;> (clear HC HC0 HE HM HG HR; simp [*])
  ·simp [hx, hy] at hr
   have HR := Lib.hid hr
   clear hr
   go_enter Tryz.func37, Tryz.ntmps37
   go_wp2_with (first | (go_at_call 60; refine (c1 _).mono ?_; rintro e w1 ⟨rfl, hk1⟩; have hz1 := Lib.hid hk1; have hl1 : w.heap.size + 1 < w1.heap.size := (by have hh := hk1.size; (try simp at hh); omega); have hb1 : w.heap.size < w1.heap.size := (by omega); have hsz1 := hk1.size; obtain ⟨hcc1, hff1⟩ := bcell hk1; clear hk1))
   all_goals
    go_ret
    refine ⟨?_, by first | exact (((Kp.refl w none).alloc _).alloc _).alloc _⟩
    refine ret_b ?_
    rw [← HR.out] <;> (clear HC HC0 HE HM HG HR; simp [*])
 ·simp [hx] at hr
  have HR := Lib.hid hr
  clear hr
  go_enter Tryz.func37, Tryz.ntmps37
  go_wp2_with (first | (go_at_call 60; refine (c1 _).mono ?_; rintro e w1 ⟨rfl, hk1⟩; have hz1 := Lib.hid hk1; have hl1 : w.heap.size + 1 < w1.heap.size := (by have hh := hk1.size; (try simp at hh); omega); have hb1 : w.heap.size < w1.heap.size := (by omega); have hsz1 := hk1.size; obtain ⟨hcc1, hff1⟩ := bcell hk1; clear hk1))
  all_goals
   go_ret
   refine ⟨?_, by first | exact (((Kp.refl w none).alloc _).alloc _).alloc _⟩
   refine ret_b ?_
   rw [← HR.out] <;> (clear HC HC0 HE HM HG HR; simp [*])

set_option maxHeartbeats 8000000 in
set_option maxRecDepth 100000 in
theorem right_op8 (t : List UInt8) (n : Int) (x0 y0 x1 y1 : Int) (l : List Ru.Cond) (w : World) (he : Env w) (_ht : t.length ≤ 1000000000) (ao : Option Addr) (cap m : Nat) (hm : l.length = m) (_hm2 : m ≤ 1000000000000)
  (hc : ∀ u, Kp w u none → Calls Tryz.prog 61 #[.slice ao m cap, .func (.func 62) #[] #[]] u fun e w' => e = .returned (.bool (!Ru.rights l)) ∧ Kp u w' none) : Calls Tryz.prog 37 #[.agg #[.int .i64 8, str t, .int .i64 n, .int .i64 x0, .int .i64 y0, .int .i64 x1, .int .i64 y1, .slice ao m cap]] w fun e w' => e = .returned (.bool (Ru.right (.mk 8 t n ⟨x0, y0, x1, y1⟩ l))) ∧ Kp w w' none := by
 obtain ⟨r, hr⟩ : ∃ r, Ru.right (.mk 8 t n ⟨x0, y0, x1, y1⟩ l) = r := ⟨_, rfl⟩
 rw [hr]
 obtain ⟨g, hg⟩ : ∃ g, Ru.rights l = g := ⟨_, rfl⟩
 rw [Ru.right_mk, hm, hg] at hr
 rw [hg] at hc
 have hc0 : m = 0 → ∀ u, Kp w u none → Calls Tryz.prog 61 #[.slice ao 0 cap, .func (.func 62) #[] #[]] u fun e w' => e = .returned (.bool (!g)) ∧ Kp u w' none := fun h => by rw [← h]; exact hc
 have HC := Lib.hid hc
 have HC0 := Lib.hid hc0
 have HE := Lib.hid he
 have HM := Lib.hid hm
 have HG := Lib.hid hg
 clear hc hc0 he hm hg
 simp [Ru.fine, Ru.rest, Ru.Box.none] at hr
 by_cases hcase : m = 1
 ·have hi : ((m : Int) == 1) = true := by simp; omega
  simp [hcase] at hr
  have HR := Lib.hid hr
  clear hr hcase
  go_enter Tryz.func37, Tryz.ntmps37
  go_wp2_with fail
  go_region
  go_wp2_with (first | (go_at_call 61; first | ((with_reducible refine (HC.out _ ((((Kp.refl w none).alloc _).alloc _).drew)).mono ?_); rintro e w9 ⟨rfl, hk9⟩; have hz9 := Lib.hid hk9; clear hk9) | ((with_reducible refine (HC0.out (by assumption) _ ((((Kp.refl w none).alloc _).alloc _).drew)).mono ?_); rintro e w9 ⟨rfl, hk9⟩; have hz9 := Lib.hid hk9; clear hk9)))
  all_goals
   go_ret
   refine ⟨?_, by first | exact ((((Kp.refl w none).alloc _).alloc _).drew) | exact (((((Kp.refl w none).alloc _).alloc _).drew).trans hz9.out)⟩
   refine ret_b ?_
   rw [← HR.out] <;> (clear HC HC0 HE HM HG HR; simp [*])
 ·have hi : ((m : Int) == 1) = false := by simp; omega
  simp [show (m == 1) = false by simpa using hcase] at hr
  have HR := Lib.hid hr
  clear hr hcase
  go_enter Tryz.func37, Tryz.ntmps37
  go_wp2_with fail
  go_region
  go_wp2_with (first | (go_at_call 61; first | ((with_reducible refine (HC.out _ ((((Kp.refl w none).alloc _).alloc _).drew)).mono ?_); rintro e w9 ⟨rfl, hk9⟩; have hz9 := Lib.hid hk9; clear hk9) | ((with_reducible refine (HC0.out (by assumption) _ ((((Kp.refl w none).alloc _).alloc _).drew)).mono ?_); rintro e w9 ⟨rfl, hk9⟩; have hz9 := Lib.hid hk9; clear hk9)))
  all_goals
   go_ret
   refine ⟨?_, by first | exact ((((Kp.refl w none).alloc _).alloc _).drew) | exact (((((Kp.refl w none).alloc _).alloc _).drew).trans hz9.out)⟩
   refine ret_b ?_
   rw [← HR.out] <;> (clear HC HC0 HE HM HG HR; simp [*])

set_option maxHeartbeats 8000000 in
set_option maxRecDepth 100000 in
theorem right_op9 (t : List UInt8) (n : Int) (x0 y0 x1 y1 : Int) (l : List Ru.Cond) (w : World) (he : Env w) (_ht : t.length ≤ 1000000000) (ao : Option Addr) (cap m : Nat) (hm : l.length = m) (hm2 : m ≤ 1000000000000)
  (hc : ∀ u, Kp w u none → Calls Tryz.prog 61 #[.slice ao m cap, .func (.func 62) #[] #[]] u fun e w' => e = .returned (.bool (!Ru.rights l)) ∧ Kp u w' none) : Calls Tryz.prog 37 #[.agg #[.int .i64 9, str t, .int .i64 n, .int .i64 x0, .int .i64 y0, .int .i64 x1, .int .i64 y1, .slice ao m cap]] w fun e w' => e = .returned (.bool (Ru.right (.mk 9 t n ⟨x0, y0, x1, y1⟩ l))) ∧ Kp w w' none := by
 obtain ⟨r, hr⟩ : ∃ r, Ru.right (.mk 9 t n ⟨x0, y0, x1, y1⟩ l) = r := ⟨_, rfl⟩
 rw [hr]
 obtain ⟨g, hg⟩ : ∃ g, Ru.rights l = g := ⟨_, rfl⟩
 rw [Ru.right_mk, hm, hg] at hr
 rw [hg] at hc
 have hc0 : m = 0 → ∀ u, Kp w u none → Calls Tryz.prog 61 #[.slice ao 0 cap, .func (.func 62) #[] #[]] u fun e w' => e = .returned (.bool (!g)) ∧ Kp u w' none := fun h => by rw [← h]; exact hc
 have HC := Lib.hid hc
 have HC0 := Lib.hid hc0
 have HE := Lib.hid he
 have HM := Lib.hid hm
 have HG := Lib.hid hg
 clear hc hc0 he hm hg
 simp [Ru.fine, Ru.rest, Ru.Box.none] at hr
 by_cases hcase : 2 ≤ m
 ·have hi : (2 : Int) ≤ (m : Int) := by omega
  simp [hcase] at hr
  have HR := Lib.hid hr
  clear hr hcase
  go_enter Tryz.func37, Tryz.ntmps37
  go_wp2_with fail
  go_region
  go_wp2_with (first | (go_at_call 61; first | ((with_reducible refine (HC.out _ ((((Kp.refl w none).alloc _).alloc _).drew)).mono ?_); rintro e w9 ⟨rfl, hk9⟩; have hz9 := Lib.hid hk9; clear hk9) | ((with_reducible refine (HC0.out (by assumption) _ ((((Kp.refl w none).alloc _).alloc _).drew)).mono ?_); rintro e w9 ⟨rfl, hk9⟩; have hz9 := Lib.hid hk9; clear hk9)))
  all_goals
   go_ret
   refine ⟨?_, by first | exact ((((Kp.refl w none).alloc _).alloc _).drew) | exact (((((Kp.refl w none).alloc _).alloc _).drew).trans hz9.out)⟩
   refine ret_b ?_
   rw [← HR.out] <;> (clear HC HC0 HE HM HG HR; simp [*])
 ·have hi : ¬ (2 : Int) ≤ (m : Int) := by omega
  simp [hcase] at hr
  have HR := Lib.hid hr
  clear hr hcase
  go_enter Tryz.func37, Tryz.ntmps37
  go_wp2_with fail
  go_region
  go_wp2_with (first | (go_at_call 61; first | ((with_reducible refine (HC.out _ ((((Kp.refl w none).alloc _).alloc _).drew)).mono ?_); rintro e w9 ⟨rfl, hk9⟩; have hz9 := Lib.hid hk9; clear hk9) | ((with_reducible refine (HC0.out (by assumption) _ ((((Kp.refl w none).alloc _).alloc _).drew)).mono ?_); rintro e w9 ⟨rfl, hk9⟩; have hz9 := Lib.hid hk9; clear hk9)))
  all_goals
   go_ret
   refine ⟨?_, by first | exact ((((Kp.refl w none).alloc _).alloc _).drew) | exact (((((Kp.refl w none).alloc _).alloc _).drew).trans hz9.out)⟩
   refine ret_b ?_
   rw [← HR.out] <;> (clear HC HC0 HE HM HG HR; simp [*])

set_option maxHeartbeats 8000000 in
set_option maxRecDepth 100000 in
theorem right_op10 (t : List UInt8) (n : Int) (x0 y0 x1 y1 : Int) (l : List Ru.Cond) (w : World) (he : Env w) (_ht : t.length ≤ 1000000000) (ao : Option Addr) (cap m : Nat) (hm : l.length = m) (hm2 : m ≤ 1000000000000)
  (hc : ∀ u, Kp w u none → Calls Tryz.prog 61 #[.slice ao m cap, .func (.func 62) #[] #[]] u fun e w' => e = .returned (.bool (!Ru.rights l)) ∧ Kp u w' none) : Calls Tryz.prog 37 #[.agg #[.int .i64 10, str t, .int .i64 n, .int .i64 x0, .int .i64 y0, .int .i64 x1, .int .i64 y1, .slice ao m cap]] w fun e w' => e = .returned (.bool (Ru.right (.mk 10 t n ⟨x0, y0, x1, y1⟩ l))) ∧ Kp w w' none := by
 obtain ⟨r, hr⟩ : ∃ r, Ru.right (.mk 10 t n ⟨x0, y0, x1, y1⟩ l) = r := ⟨_, rfl⟩
 rw [hr]
 obtain ⟨g, hg⟩ : ∃ g, Ru.rights l = g := ⟨_, rfl⟩
 rw [Ru.right_mk, hm, hg] at hr
 rw [hg] at hc
 have hc0 : m = 0 → ∀ u, Kp w u none → Calls Tryz.prog 61 #[.slice ao 0 cap, .func (.func 62) #[] #[]] u fun e w' => e = .returned (.bool (!g)) ∧ Kp u w' none := fun h => by rw [← h]; exact hc
 have HC := Lib.hid hc
 have HC0 := Lib.hid hc0
 have HE := Lib.hid he
 have HM := Lib.hid hm
 have HG := Lib.hid hg
 clear hc hc0 he hm hg
 simp [Ru.fine, Ru.rest, Ru.Box.none] at hr
 by_cases hcase : 2 ≤ m
 ·have hi : (2 : Int) ≤ (m : Int) := by omega
  simp [hcase] at hr
  have HR := Lib.hid hr
  clear hr hcase
  go_enter Tryz.func37, Tryz.ntmps37
  go_wp2_with fail
  go_region
  go_wp2_with (first | (go_at_call 61; first | ((with_reducible refine (HC.out _ ((((Kp.refl w none).alloc _).alloc _).drew)).mono ?_); rintro e w9 ⟨rfl, hk9⟩; have hz9 := Lib.hid hk9; clear hk9) | ((with_reducible refine (HC0.out (by assumption) _ ((((Kp.refl w none).alloc _).alloc _).drew)).mono ?_); rintro e w9 ⟨rfl, hk9⟩; have hz9 := Lib.hid hk9; clear hk9)))
  all_goals
   go_ret
   refine ⟨?_, by first | exact ((((Kp.refl w none).alloc _).alloc _).drew) | exact (((((Kp.refl w none).alloc _).alloc _).drew).trans hz9.out)⟩
   refine ret_b ?_
   rw [← HR.out] <;> (clear HC HC0 HE HM HG HR; simp [*])
 ·have hi : ¬ (2 : Int) ≤ (m : Int) := by omega
  simp [hcase] at hr
  have HR := Lib.hid hr
  clear hr hcase
  go_enter Tryz.func37, Tryz.ntmps37
  go_wp2_with fail
  go_region
  go_wp2_with (first | (go_at_call 61; first | ((with_reducible refine (HC.out _ ((((Kp.refl w none).alloc _).alloc _).drew)).mono ?_); rintro e w9 ⟨rfl, hk9⟩; have hz9 := Lib.hid hk9; clear hk9) | ((with_reducible refine (HC0.out (by assumption) _ ((((Kp.refl w none).alloc _).alloc _).drew)).mono ?_); rintro e w9 ⟨rfl, hk9⟩; have hz9 := Lib.hid hk9; clear hk9)))
  all_goals
   go_ret
   refine ⟨?_, by first | exact ((((Kp.refl w none).alloc _).alloc _).drew) | exact (((((Kp.refl w none).alloc _).alloc _).drew).trans hz9.out)⟩
   refine ret_b ?_
   rw [← HR.out] <;> (clear HC HC0 HE HM HG HR; simp [*])

set_option maxHeartbeats 8000000 in
set_option maxRecDepth 100000 in
theorem right_op0 (op : Int) (hop : op < 1 ∨ 10 < op) (t : List UInt8) (n : Int) (x0 y0 x1 y1 : Int) (l : List Ru.Cond) (w : World) (he : Env w) (_ht : t.length ≤ 1000000000) (ao : Option Addr) (cap m : Nat) (hm : l.length = m) (_hm2 : m ≤ 1000000000000)
  (hc : ∀ u, Kp w u none → Calls Tryz.prog 61 #[.slice ao m cap, .func (.func 62) #[] #[]] u fun e w' => e = .returned (.bool (!Ru.rights l)) ∧ Kp u w' none) : Calls Tryz.prog 37 #[.agg #[.int .i64 op, str t, .int .i64 n, .int .i64 x0, .int .i64 y0, .int .i64 x1, .int .i64 y1, .slice ao m cap]] w fun e w' => e = .returned (.bool (Ru.right (.mk op t n ⟨x0, y0, x1, y1⟩ l))) ∧ Kp w w' none := by
 obtain ⟨r, hr⟩ : ∃ r, Ru.right (.mk op t n ⟨x0, y0, x1, y1⟩ l) = r := ⟨_, rfl⟩
 rw [hr]
 obtain ⟨g, hg⟩ : ∃ g, Ru.rights l = g := ⟨_, rfl⟩
 rw [Ru.right_mk, hm, hg] at hr
 rw [hg] at hc
 have hc0 : m = 0 → ∀ u, Kp w u none → Calls Tryz.prog 61 #[.slice ao 0 cap, .func (.func 62) #[] #[]] u fun e w' => e = .returned (.bool (!g)) ∧ Kp u w' none := fun h => by rw [← h]; exact hc
 have HC := Lib.hid hc
 have HC0 := Lib.hid hc0
 have HE := Lib.hid he
 have HM := Lib.hid hm
 have HG := Lib.hid hg
 clear hc hc0 he hm hg
 have hfz : Ru.fine op t n ⟨x0, y0, x1, y1⟩ m = false := by
  unfold Ru.fine
  rw [if_neg (by omega), if_neg (by omega), if_neg (by omega), if_neg (by omega), if_neg (by omega), if_neg (by omega), if_neg (by omega), if_neg (by omega), if_neg (by omega)]
 rw [hfz, Bool.false_and, Bool.false_and] at hr
 subst hr
 have o1 : (op == 1) = false := by simp; omega
 have o2 : (op == 2) = false := by simp; omega
 have o3 : (op == 3) = false := by simp; omega
 have o4 : (op == 4) = false := by simp; omega
 have o5 : (op == 5) = false := by simp; omega
 have o6 : (op == 6) = false := by simp; omega
 have o7 : (op == 7) = false := by simp; omega
 have o8 : (op == 8) = false := by simp; omega
 have o9 : (op == 9) = false := by simp; omega
 have o10 : (op == 10) = false := by simp; omega
 clear hfz hop
 go_enter Tryz.func37, Tryz.ntmps37
 go_wp2_with fail
 go_ret
 exact ⟨rfl, (((Kp.refl w none).alloc _).alloc _)⟩

end Go.Proofs.YtnchipahdfbliaaGreatDoor
