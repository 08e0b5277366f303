/- The program's Has. Condition: at most 2^16 rectangles. -/
import Derived.Test.YtpakiabnhdoijaaAr
namespace Go.Proofs.Ytpakiabnhdoijaa
open Go.RowKit

set_option maxHeartbeats 4000000 in
theorem has38_any (x y : Int) (B1 B2 : Nat) (r : Rc.Rect) (w : World) (hbx : w.cell? ⟨B1, 0, none⟩ = some (.int .i64 x) ∧ w.cell? ⟨B2, 0, none⟩ = some (.int .i64 y)) :
    Calls Try.prog 38 #[recAgg r, .pointer (some ⟨B1, 0, none⟩), .pointer (some ⟨B2, 0, none⟩)] w fun E w' => E = .returned (.bool (r.has x y)) ∧ Kp w w' none := by
  obtain ⟨v, hv⟩ : ∃ v, r.has x y = v := ⟨_, rfl⟩
  rw [hv]
  unfold Rc.Rect.has at hv
  obtain ⟨x0, y0, x1, y1⟩ := r
  simp only [] at hv
  have HV := Lib.hid hv
  clear hv
  show Calls Try.prog 38 #[.agg #[.int .i64 x0, .int .i64 y0, .int .i64 x1, .int .i64 y1], .pointer (some ⟨B1, 0, none⟩), .pointer (some ⟨B2, 0, none⟩)] w _
  have K0 : Hid (Kp w (w.alloc (.cells #[.int .i64 x0, .int .i64 y0, .int .i64 x1, .int .i64 y1] 44)) none) := Lib.hid ((Kp.refl _ _).alloc _)
  have cx : (w.alloc (.cells #[.int .i64 x0, .int .i64 y0, .int .i64 x1, .int .i64 y1] 44)).cell? ⟨B1, 0, none⟩ = some (.int .i64 x) := (K0.out.below.cell (p := ⟨B1, 0, none⟩) (cell_lt hbx.1)).trans hbx.1
  have cy : (w.alloc (.cells #[.int .i64 x0, .int .i64 y0, .int .i64 x1, .int .i64 y1] 44)).cell? ⟨B2, 0, none⟩ = some (.int .i64 y) := (K0.out.below.cell (p := ⟨B2, 0, none⟩) (cell_lt hbx.2)).trans hbx.2
  obtain ⟨hb1, hb2⟩ := hbx
  by_cases h0 : x0 ≤ x
  · by_cases h1 : x < x1
    · by_cases h2 : y0 ≤ y
      · by_cases h3 : y < y1
        · have e : v = true := by rw [← HV.out]; exact decide_eq_true (by omega)
          subst e
          clear HV
          go_enter Try.func38, Try.ntmps38
          go_wp2_with fail
          go_ret
          exact ⟨rfl, K0.out⟩
        · have e : v = false := by rw [← HV.out]; exact decide_eq_false (by omega)
          subst e
          clear HV
          go_enter Try.func38, Try.ntmps38
          go_wp2_with fail
          go_ret
          exact ⟨rfl, K0.out⟩
      · have e : v = false := by rw [← HV.out]; exact decide_eq_false (by omega)
        subst e
        clear HV
        go_enter Try.func38, Try.ntmps38
        go_wp2_with fail
        go_ret
        exact ⟨rfl, K0.out⟩
    · have e : v = false := by rw [← HV.out]; exact decide_eq_false (by omega)
      subst e
      clear HV
      go_enter Try.func38, Try.ntmps38
      go_wp2_with fail
      go_ret
      exact ⟨rfl, K0.out⟩
  · have e : v = false := by rw [← HV.out]; exact decide_eq_false (by omega)
    subst e
    clear HV
    go_enter Try.func38, Try.ntmps38
    go_wp2_with fail
    go_ret
    exact ⟨rfl, K0.out⟩


set_option maxHeartbeats 4000000 in
set_option maxRecDepth 100000 in
theorem index38_row (x y : Int) (B1 B2 : Nat) (b off cap : Nat) (xs : List Rc.Rect) (w : World) (hbx : ∀ W, Kp w W none → W.cell? ⟨B1, 0, none⟩ = some (.int .i64 x) ∧ W.cell? ⟨B2, 0, none⟩ = some (.int .i64 y)) (_hc : xs.length ≤ cap) (hl : xs.length ≤ 65536) (hb : b < w.heap.size)
    (hr : ∀ k, (h : k < xs.length) → ∀ j, (h2 : j < (recVal xs[k]).length) → w.cell? ⟨b, off + k * 4 + j, none⟩ = some (recVal xs[k])[j]) :
    Calls Try.prog 47 #[.slice (some ⟨b, off, none⟩) xs.length cap, .func (.func 38) #[] #[.pointer (some ⟨B1, 0, none⟩), .pointer (some ⟨B2, 0, none⟩)]] w fun E w' => ∃ n : Int, E = .returned (.int .i64 n) ∧ Kp w w' none ∧ decide (0 ≤ n) = xs.any (fun r => r.has x y) := by
  have HR := Lib.hid hr
  have HBX := Lib.hid hbx
  clear hr hbx
  go_enter Try.func47, Try.ntmps47
  go_wp2_with fail
  go_loopw [8] (fun i wr => ∃ k : Nat, k ≤ xs.length ∧ i = .int .i64 k ∧ firstIdx (fun r => r.has x y) xs k ∧ Kp w wr none) (fun i _ => xs.length - (intOf i).toNat)
  case atStart => exact ⟨0, Nat.zero_le _, rfl, fun _ h => (by cases h), Kp.refl _ _⟩
  case round =>
    obtain ⟨k, hk, rfl, hcv, hkp⟩ := hrel
    have HC := Lib.hid hcv
    have HK := Lib.hid hkp
    clear hcv hkp
    by_cases hlt : k < xs.length
    · obtain ⟨r, hx⟩ : ∃ r, xs[k] = r := ⟨_, rfl⟩
      have cc : ∀ j, wr.cell? ⟨b, off + k * 4 + j, none⟩ = w.cell? ⟨b, off + k * 4 + j, none⟩ := fun j => HK.out.below.cell (p := ⟨b, off + k * 4 + j, none⟩) hb
      have c0 : wr.cell? ⟨b, off + k * 4, none⟩ = some (.int .i64 r.x0) := (cc 0).trans (by subst hx; exact HR.out k hlt 0 (by simp [recVal]))
      have c1 : wr.cell? ⟨b, off + k * 4 + 1, none⟩ = some (.int .i64 r.y0) := (cc 1).trans (by subst hx; exact HR.out k hlt 1 (by simp [recVal]))
      have c2 : wr.cell? ⟨b, off + k * 4 + 2, none⟩ = some (.int .i64 r.x1) := (cc 2).trans (by subst hx; exact HR.out k hlt 2 (by simp [recVal]))
      have c3 : wr.cell? ⟨b, off + k * 4 + 3, none⟩ = some (.int .i64 r.y1) := (cc 3).trans (by subst hx; exact HR.out k hlt 3 (by simp [recVal]))
      clear cc
      have A := has38_any x y B1 B2 r wr (HBX.out wr HK.out)
      have HN : Hid (r.has x y = false → firstIdx (fun r => r.has x y) xs (k + 1)) := Lib.hid (fun h q hq => by
        rw [List.take_succ_eq_append_getElem hlt, List.mem_append] at hq
        rcases hq with hq | hq
        · exact HC.out q hq
        · rw [List.mem_singleton] at hq; rw [hq, hx]; exact h)
      have HY : Hid (r.has x y = true → decide ((0 : Int) ≤ (k : Int)) = xs.any (fun r => r.has x y)) := Lib.hid (fun h => by
        rw [List.any_eq_true.2 ⟨r, by rw [← hx]; exact List.getElem_mem hlt, h⟩]; exact decide_eq_true (by omega))
      clear hx
      generalize r.has x y = v at A HN HY
      obtain ⟨x0, y0, x1, y1⟩ := r
      simp only [] at c0 c1 c2 c3
      unfold recAgg recVal at A
      simp only [] at A
      have hk0 : (0 : Int) ≤ (k : Int) := Int.natCast_nonneg _
      have hk1 : (k : Int) < (xs.length : Int) := by omega
      cases v
      · have HN1 := Lib.hid (HN.out rfl)
        clear HN HY
        go_wp2_with fail
        refine A.mono ?_
        rintro E w1 ⟨rfl, k1⟩
        have K1 := Lib.hid (HK.out.trans k1)
        clear k1
        go_wp2_with fail
        go_roundw
        case rel => exact ⟨k + 1, hlt, by go_num, HN1.out, K1.out⟩
        case measure => simp [intOf]; omega
      · have HY1 := Lib.hid (HY.out rfl)
        clear HN HY
        go_wp2_with fail
        refine A.mono ?_
        rintro E w1 ⟨rfl, k1⟩
        have K1 := Lib.hid (HK.out.trans k1)
        clear k1
        go_wp2_with fail
        go_ret
        exact ⟨_, rfl, K1.out, HY1.out⟩
    · have HE : Hid (decide ((0 : Int) ≤ (-1 : Int)) = xs.any (fun r => r.has x y)) := Lib.hid (by
        symm
        rw [show decide ((0 : Int) ≤ -1) = false by decide, List.any_eq_false]
        intro q hq h
        have h2 : q.has x y = false := HC.out q (by rw [List.take_of_length_le (by omega)]; exact hq)
        exact absurd (h.symm.trans h2) (by decide))
      have hkn1 : ¬ (k : Int) < (xs.length : Int) := by omega
      go_wp2_with fail
      go_ret
      exact ⟨-1, rfl, HK.out, by have h := HE.out; simpa using h⟩


set_option maxHeartbeats 1000000 in
theorem index38_nil (B1 B2 : Nat) (ao : Option Addr) (c : Nat) (w : World) : Calls Try.prog 47 #[.slice ao 0 c, .func (.func 38) #[] #[.pointer (some ⟨B1, 0, none⟩), .pointer (some ⟨B2, 0, none⟩)]] w fun E w' => E = .returned (.int .i64 (-1)) ∧ w = w' := by
  go_enter Try.func47, Try.ntmps47
  go_wp2_with fail
  go_loopw [8] (fun i wr => i = .int .i64 0 ∧ w = wr) (fun _ _ => 0)
  case atStart => exact ⟨rfl, rfl⟩
  case round =>
    obtain ⟨rfl, rfl⟩ := hrel
    go_wp2_with fail
    go_ret
    exact ⟨rfl, rfl⟩

theorem index38_any (x y : Int) (B1 B2 : Nat) (v : Value) (xs : List Rc.Rect) (w : World) (hbx : ∀ W, Kp w W none → W.cell? ⟨B1, 0, none⟩ = some (.int .i64 x) ∧ W.cell? ⟨B2, 0, none⟩ = some (.int .i64 y)) (h : IsRects w v xs) (hl : xs.length ≤ 65536) :
    Calls Try.prog 47 #[v, .func (.func 38) #[] #[.pointer (some ⟨B1, 0, none⟩), .pointer (some ⟨B2, 0, none⟩)]] w fun E w' => ∃ n : Int, E = .returned (.int .i64 n) ∧ Kp w w' none ∧ decide (0 ≤ n) = xs.any (fun r => r.has x y) := by
  rcases h with ⟨ao, cap, rfl, rfl⟩ | ⟨b, off, cap, rfl, hc, hb, hr⟩
  · refine (index38_nil B1 B2 ao cap w).mono ?_
    rintro E w' ⟨rfl, rfl⟩
    exact ⟨-1, rfl, Kp.refl _ _, rfl⟩
  · exact index38_row x y B1 B2 b off cap xs w hbx hc hl hb hr

set_option maxHeartbeats 1000000 in
theorem contains38_any (x y : Int) (B1 B2 : Nat) (v : Value) (xs : List Rc.Rect) (w : World) (hbx : ∀ W, Kp w W none → W.cell? ⟨B1, 0, none⟩ = some (.int .i64 x) ∧ W.cell? ⟨B2, 0, none⟩ = some (.int .i64 y)) (h : IsRects w v xs) (hl : xs.length ≤ 65536) :
    Calls Try.prog 34 #[v, .func (.func 38) #[] #[.pointer (some ⟨B1, 0, none⟩), .pointer (some ⟨B2, 0, none⟩)]] w fun E w' => E = .returned (.bool (xs.any (fun r => r.has x y))) ∧ Kp w w' none := by
  have A := index38_any x y B1 B2 v xs w hbx h hl
  generalize xs.any (fun r => r.has x y) = t at A ⊢
  clear h hl hbx
  go_enter Try.func34, Try.ntmps34
  go_wp2_with fail
  refine A.mono ?_
  rintro E w1 ⟨n, rfl, k1, ht⟩
  have K1 := Lib.hid k1
  have HT := Lib.hid ht
  clear k1 ht
  go_wp2_with fail
  go_ret
  refine ⟨?_, K1.out⟩
  show Ending.returned (.bool (decide (0 ≤ n))) = _
  rw [HT.out]


set_option maxHeartbeats 2000000 in
theorem hasP_any (v : Value) (a : List Rc.Rect) (x y : Int) (w : World) (ha : IsRects w v a) (hl : a.length ≤ 65536) :
    Calls Try.prog 19 #[v, .int .i64 x, .int .i64 y] w fun E w' => E = .returned (.bool (Rc.cov (Rc.set a) x y)) ∧ Kp w w' none := by
  have KW : Hid (Kp w ((w.alloc (Obj.cells #[.int .i64 x] 3)).alloc (Obj.cells #[.int .i64 y] 3)) none) := Lib.hid (((Kp.refl w none).alloc _).alloc _)
  have C := set_any v a ((w.alloc (Obj.cells #[.int .i64 x] 3)).alloc (Obj.cells #[.int .i64 y] 3)) (ha.keep KW.out) hl
  have hs := set_many a
  have HB : Hid (∀ W, Kp ((w.alloc (Obj.cells #[.int .i64 x] 3)).alloc (Obj.cells #[.int .i64 y] 3)) W none → W.cell? ⟨w.heap.size, 0, none⟩ = some (.int .i64 x) ∧ W.cell? ⟨w.heap.size + 1, 0, none⟩ = some (.int .i64 y)) := Lib.hid fun W k => by
    have s1 : (w.alloc (Obj.cells #[.int .i64 x] 3)).heap.size = w.heap.size + 1 := by simp
    have h0 := heap_alloc_new w (Obj.cells #[.int .i64 x] 3)
    have h1 := heap_alloc_new (w.alloc (Obj.cells #[.int .i64 x] 3)) (Obj.cells #[.int .i64 y] 3)
    rw [s1] at h1
    have h2 := ((World.grownBy_alloc (w.alloc (Obj.cells #[.int .i64 x] 3)) (Obj.cells #[.int .i64 y] 3) none).block w.heap.size (by rw [s1]; omega) (by simp)).trans h0
    constructor
    · simp only [World.cell?, (k.block _ (lt_of_block h2) (by simp)).trans h2]; rfl
    · simp only [World.cell?, (k.block _ (lt_of_block h1) (by simp)).trans h1]; rfl
  clear ha
  obtain ⟨s, hse⟩ : ∃ s, Rc.set a = s := ⟨_, rfl⟩
  rw [hse] at C hs ⊢
  clear hse
  go_enter Try.func19, Try.ntmps19
  go_wp2_with fail
  refine C.mono ?_
  rintro E w1 ⟨u, rfl, h, k1⟩
  have D := contains38_any x y w.heap.size (w.heap.size + 1) u s w1 (fun W k => HB.out W (k1.trans k)) h (by omega)
  have K1 := Lib.hid (KW.out.trans k1)
  clear h k1 HB
  go_wp2_with fail
  refine D.mono ?_
  rintro E w2 ⟨rfl, k2⟩
  have K2 := Lib.hid (K1.out.trans k2)
  clear k2
  go_wp2_with fail
  go_ret
  exact ⟨rfl, K2.out⟩

end Go.Proofs.Ytpakiabnhdoijaa
