/- The reference's order of two holes (before, start): as ltH says. Condition: where both holes' edges lie. -/
import Derived.Test.YtljjbdbgedmadaaGreatDoorKb
set_option maxRecDepth 100000
set_option maxHeartbeats 16000000
namespace Go.Proofs.YtljjbdbgedmadaaGreatDoor
open Go.RowKit Go.Sort
theorem rstart_any (t : HT) (W : World) (h : At W t) : Calls Tryz.prog 109 #[hV t] W fun E w' => E = .returned (.agg #[I6 (Dl.startH t.h).x, I6 (Dl.startH t.h).y]) ∧ Gr W w' := by
 obtain ⟨⟨⟨sk, es, sr⟩, f, tt, pl⟩, ea, ec⟩ := t; unfold hV Dl.startH; unfold At at h
 dsimp only at h ⊢
 cases es with
 | nil =>
  clear h
  simp only [List.length_nil]
  go_enter Tryz.func109, Tryz.ntmps109
  go_wp2
  go_returns
  exact ⟨rfl, ((Gr.refl W).alloc _).alloc _⟩
 | cons e l =>
  obtain ⟨n, hn⟩ : ∃ n, (e :: l).length = n := ⟨_, rfl⟩
  have hn0 : (0 : Int) < (n : Int) := by rw [← hn, List.length_cons]; omega
  have hz : ((n : Int) == 0) = false := by simp; omega
  obtain ⟨bo, off, rfl, hcap, hbo, hc⟩ := h.ed (k := 0) (by simp)
  rw [hn] at hcap ⊢
  have k2 : Kp W ((W.alloc (.cells #[I6 sk, .slice (some ⟨bo, off, none⟩) n ec, I6 sr, I6 f, I6 tt, .bool pl] 52)).alloc (.cells #[I6 0, I6 0] 42)) none := ((Kp.refl W none).alloc _).alloc _
  obtain ⟨_, c1, c2, _⟩ := hc _ k2
  simp only [Nat.zero_mul, Nat.add_zero, List.getElem_cons_zero] at c1 c2
  clear hn hc h k2
  go_enter Tryz.func109, Tryz.ntmps109
  go_wp2
  go_returns
  exact ⟨rfl, ((Gr.refl W).alloc _).alloc _⟩
theorem before_raw (xk xr xf xt yk yr yf yt px py qx qy : Int) (xp yp : Bool) (xa ya : Option Addr) (xn xc yn yc : Nat) (W : World)
  (sx : ∀ V, Gr W V → Calls Tryz.prog 109 #[.agg #[I6 xk, .slice xa xn xc, I6 xr, I6 xf, I6 xt, .bool xp]] V fun E w' => E = .returned (.agg #[I6 px, I6 py]) ∧ Gr V w')
  (sy : ∀ V, Gr W V → Calls Tryz.prog 109 #[.agg #[I6 yk, .slice ya yn yc, I6 yr, I6 yf, I6 yt, .bool yp]] V fun E w' => E = .returned (.agg #[I6 qx, I6 qy]) ∧ Gr V w') :
  Calls Tryz.prog 70 #[.agg #[I6 xk, .slice xa xn xc, I6 xr, I6 xf, I6 xt, .bool xp], .agg #[I6 yk, .slice ya yn yc, I6 yr, I6 yf, I6 yt, .bool yp]] W fun E w' => E = .returned (.bool (Dl.lexLt [xf, xt, if xp then 0 else 1, xr, px, py] [yf, yt, if yp then 0 else 1, yr, qx, qy])) ∧ Gr W w' := by
 have mixed := mixedT
 obtain ⟨res, hres⟩ : ∃ r, Dl.lexLt [xf, xt, if xp then 0 else 1, xr, px, py] [yf, yt, if yp then 0 else 1, yr, qx, qy] = r := ⟨_, rfl⟩
 rw [hres]
 have HR : Hid (Dl.lexLt [xf, xt, if xp then 0 else 1, xr, px, py] [yf, yt, if yp then 0 else 1, yr, qx, qy] = res) := oh hres
 have G2 : Hid (Gr W ((W.alloc (.cells #[I6 xk, .slice xa xn xc, I6 xr, I6 xf, I6 xt, .bool xp] 52)).alloc (.cells #[I6 yk, .slice ya yn yc, I6 yr, I6 yf, I6 yt, .bool yp] 52))) := oh (((Gr.refl W).alloc _).alloc _)
 have HBX : Hid (((W.alloc (.cells #[I6 xk, .slice xa xn xc, I6 xr, I6 xf, I6 xt, .bool xp] 52)).alloc (.cells #[I6 yk, .slice ya yn yc, I6 yr, I6 yf, I6 yt, .bool yp] 52)).heap[W.heap.size]? = some (.cells #[I6 xk, .slice xa xn xc, I6 xr, I6 xf, I6 xt, .bool xp] 52 (0, 0))) := oh (blk (heap_alloc_new W _) ((Kp.refl _ none).alloc _))
 have HBY : Hid (((W.alloc (.cells #[I6 xk, .slice xa xn xc, I6 xr, I6 xf, I6 xt, .bool xp] 52)).alloc (.cells #[I6 yk, .slice ya yn yc, I6 yr, I6 yf, I6 yt, .bool yp] 52)).heap[W.heap.size + 1]? = some (.cells #[I6 yk, .slice ya yn yc, I6 yr, I6 yf, I6 yt, .bool yp] 52 (0, 0))) := oh (by have h := heap_alloc_new (W.alloc (.cells #[I6 xk, .slice xa xn xc, I6 xr, I6 xf, I6 xt, .bool xp] 52)) (.cells #[I6 yk, .slice ya yn yc, I6 yr, I6 yf, I6 yt, .bool yp] 52); simpa using h)
 have SX := oh sx; have SY := oh sy; clear hres sx sy
 go_enter Tryz.func70, Tryz.ntmps70
 go_upto_region 1 with fail
 generalize hV0 : (W.alloc (.cells #[I6 xk, .slice xa xn xc, I6 xr, I6 xf, I6 xt, .bool xp] 52)).alloc (.cells #[I6 yk, .slice ya yn yc, I6 yr, I6 yf, I6 yt, .bool yp] 52) = V0 at *
 clear hV0
 by_cases h3 : xf = yf
 rotate_left
 ·have n3 : (xf != yf) = true := by simpa using h3
  have x3 := hcell HBX.out 3 rfl
  have y3 := hcell HBY.out 3 rfl
  go_wp2_with fail
  go_ret
  exact ⟨by rw [← HR.out]; simp [Dl.lexLt, h3] <;> omega, G2.out⟩
 subst h3
 have n3 : (xf != xf) = false := by simp
 have x3 := hcell HBX.out 3 rfl
 have y3 := hcell HBY.out 3 rfl
 go_upto_region 3 with fail
 clear x3 y3; clear n3
 by_cases h4 : xt = yt
 rotate_left
 ·have n4 : (xt != yt) = true := by simpa using h4
  have x4 := hcell HBX.out 4 rfl
  have y4 := hcell HBY.out 4 rfl
  go_wp2_with fail
  go_ret
  exact ⟨by rw [← HR.out]; simp [Dl.lexLt, h4] <;> omega, G2.out⟩
 subst h4
 have n4 : (xt != xt) = false := by simp
 have x4 := hcell HBX.out 4 rfl
 have y4 := hcell HBY.out 4 rfl
 go_upto_region 5 with fail
 clear x4 y4; clear n4
 by_cases h5 : xp = yp
 rotate_left
 ·cases xp <;> cases yp
  all_goals try (exact absurd rfl h5)
  all_goals
   clear h5
   have x5 := hcell HBX.out 5 rfl
   have y5 := hcell HBY.out 5 rfl
   go_wp2_with fail
   go_ret
   exact ⟨by rw [← HR.out]; simp [Dl.lexLt], G2.out⟩
 subst h5
 have n5 : (xp != xp) = false := by simp
 have x5 := hcell HBX.out 5 rfl
 have y5 := hcell HBY.out 5 rfl
 go_upto_region 7 with fail
 clear x5 y5; clear n5
 by_cases h2 : xr = yr
 rotate_left
 ·have n2 : (xr != yr) = true := by simpa using h2
  have x2 := hcell HBX.out 2 rfl
  have y2 := hcell HBY.out 2 rfl
  go_wp2_with fail
  go_ret
  exact ⟨by rw [← HR.out]; simp [Dl.lexLt, h2] <;> omega, G2.out⟩
 subst h2
 have n2 : (xr != xr) = false := by simp
 have x2 := hcell HBX.out 2 rfl
 have y2 := hcell HBY.out 2 rfl
 go_upto_region 9 with fail
 clear x2 y2; clear n2
 by_cases hx : px = qx
 ·have HHX := oh hx
  have nx : (px != qx) = false := by simpa using hx
  clear hx
  have kx := fun n os => SX.out _ (G2.out.more n os)
  have ky := fun n os => SY.out _ (G2.out.more n os)
  unfold Gr at kx ky
  have fX0 := fun n os => cell_grown (n := n) (os := os) (lt_of_block HBX.out) (hcell HBX.out 0 rfl)
  have fX1 := fun n os => cell_grown (n := n) (os := os) (lt_of_block HBX.out) (hcell HBX.out 1 rfl)
  have fX2 := fun n os => cell_grown (n := n) (os := os) (lt_of_block HBX.out) (hcell HBX.out 2 rfl)
  have fX3 := fun n os => cell_grown (n := n) (os := os) (lt_of_block HBX.out) (hcell HBX.out 3 rfl)
  have fX4 := fun n os => cell_grown (n := n) (os := os) (lt_of_block HBX.out) (hcell HBX.out 4 rfl)
  have fX5 := fun n os => cell_grown (n := n) (os := os) (lt_of_block HBX.out) (hcell HBX.out 5 rfl)
  have fY0 := fun n os => cell_grown (n := n) (os := os) (lt_of_block HBY.out) (hcell HBY.out 0 rfl)
  have fY1 := fun n os => cell_grown (n := n) (os := os) (lt_of_block HBY.out) (hcell HBY.out 1 rfl)
  have fY2 := fun n os => cell_grown (n := n) (os := os) (lt_of_block HBY.out) (hcell HBY.out 2 rfl)
  have fY3 := fun n os => cell_grown (n := n) (os := os) (lt_of_block HBY.out) (hcell HBY.out 3 rfl)
  have fY4 := fun n os => cell_grown (n := n) (os := os) (lt_of_block HBY.out) (hcell HBY.out 4 rfl)
  have fY5 := fun n os => cell_grown (n := n) (os := os) (lt_of_block HBY.out) (hcell HBY.out 5 rfl)
  have g0 := field42_0 px py
  have g1 := field42_1 px py
  have g2 := field42_0 qx qy
  have g3 := field42_1 qx qy
  go_quiet_grown (first | (go_at_call 109; with_reducible refine Calls.grown_of (kx _ _)) | (go_at_call 109; with_reducible refine Calls.grown_of (ky _ _)))
  clear kx ky g0 g1 g2 g3 fX0 fX1 fX2 fX3 fX4 fX5 fY0 fY1 fY2 fY3 fY4 fY5; have G3 := oh (G2.out.more nq osq)
  have HX3 := oh (blk HBX.out ((Gr.refl _).more nq osq).kp)
  have HY3 := oh (blk HBY.out ((Gr.refl _).more nq osq).kp)
  clear G2 HBX HBY; have G2 := G3; have HBX := HX3; have HBY := HY3; clear G3 HX3 HY3
  generalize hV9 : grow (V0.drewN nq) osq = V9 at *
  clear hV9; go_upto_region 11 with fail
  clear nx
  have kx := fun n os => SX.out _ (G2.out.more n os)
  have ky := fun n os => SY.out _ (G2.out.more n os)
  unfold Gr at kx ky
  have fX0 := fun n os => cell_grown (n := n) (os := os) (lt_of_block HBX.out) (hcell HBX.out 0 rfl)
  have fX1 := fun n os => cell_grown (n := n) (os := os) (lt_of_block HBX.out) (hcell HBX.out 1 rfl)
  have fX2 := fun n os => cell_grown (n := n) (os := os) (lt_of_block HBX.out) (hcell HBX.out 2 rfl)
  have fX3 := fun n os => cell_grown (n := n) (os := os) (lt_of_block HBX.out) (hcell HBX.out 3 rfl)
  have fX4 := fun n os => cell_grown (n := n) (os := os) (lt_of_block HBX.out) (hcell HBX.out 4 rfl)
  have fX5 := fun n os => cell_grown (n := n) (os := os) (lt_of_block HBX.out) (hcell HBX.out 5 rfl)
  have fY0 := fun n os => cell_grown (n := n) (os := os) (lt_of_block HBY.out) (hcell HBY.out 0 rfl)
  have fY1 := fun n os => cell_grown (n := n) (os := os) (lt_of_block HBY.out) (hcell HBY.out 1 rfl)
  have fY2 := fun n os => cell_grown (n := n) (os := os) (lt_of_block HBY.out) (hcell HBY.out 2 rfl)
  have fY3 := fun n os => cell_grown (n := n) (os := os) (lt_of_block HBY.out) (hcell HBY.out 3 rfl)
  have fY4 := fun n os => cell_grown (n := n) (os := os) (lt_of_block HBY.out) (hcell HBY.out 4 rfl)
  have fY5 := fun n os => cell_grown (n := n) (os := os) (lt_of_block HBY.out) (hcell HBY.out 5 rfl)
  have g0 := field42_0 px py
  have g1 := field42_1 px py
  have g2 := field42_0 qx qy
  have g3 := field42_1 qx qy
  go_quiet_grown (first | (go_at_call 109; with_reducible refine Calls.grown_of (kx _ _)) | (go_at_call 109; with_reducible refine Calls.grown_of (ky _ _)))
  clear kx ky g0 g1 g2 g3 fX0 fX1 fX2 fX3 fX4 fX5 fY0 fY1 fY2 fY3 fY4 fY5; have G3 := oh (G2.out.more nq osq)
  have HX3 := oh (blk HBX.out ((Gr.refl _).more nq osq).kp)
  have HY3 := oh (blk HBY.out ((Gr.refl _).more nq osq).kp)
  clear G2 HBX HBY; have G2 := G3; have HBX := HX3; have HBY := HY3; clear G3 HX3 HY3
  generalize hV1 : grow (V9.drewN nq) osq = V1 at *
  clear hV1; go_wp2_with fail
  go_ret
  exact ⟨by rw [← HR.out]; simp [Dl.lexLt, HHX.out] <;> omega, G2.out⟩
 ·have nx : (px != qx) = true := by simpa using hx
  have HHX := oh hx; clear hx
  have kx := fun n os => SX.out _ (G2.out.more n os)
  have ky := fun n os => SY.out _ (G2.out.more n os)
  unfold Gr at kx ky
  have fX0 := fun n os => cell_grown (n := n) (os := os) (lt_of_block HBX.out) (hcell HBX.out 0 rfl)
  have fX1 := fun n os => cell_grown (n := n) (os := os) (lt_of_block HBX.out) (hcell HBX.out 1 rfl)
  have fX2 := fun n os => cell_grown (n := n) (os := os) (lt_of_block HBX.out) (hcell HBX.out 2 rfl)
  have fX3 := fun n os => cell_grown (n := n) (os := os) (lt_of_block HBX.out) (hcell HBX.out 3 rfl)
  have fX4 := fun n os => cell_grown (n := n) (os := os) (lt_of_block HBX.out) (hcell HBX.out 4 rfl)
  have fX5 := fun n os => cell_grown (n := n) (os := os) (lt_of_block HBX.out) (hcell HBX.out 5 rfl)
  have fY0 := fun n os => cell_grown (n := n) (os := os) (lt_of_block HBY.out) (hcell HBY.out 0 rfl)
  have fY1 := fun n os => cell_grown (n := n) (os := os) (lt_of_block HBY.out) (hcell HBY.out 1 rfl)
  have fY2 := fun n os => cell_grown (n := n) (os := os) (lt_of_block HBY.out) (hcell HBY.out 2 rfl)
  have fY3 := fun n os => cell_grown (n := n) (os := os) (lt_of_block HBY.out) (hcell HBY.out 3 rfl)
  have fY4 := fun n os => cell_grown (n := n) (os := os) (lt_of_block HBY.out) (hcell HBY.out 4 rfl)
  have fY5 := fun n os => cell_grown (n := n) (os := os) (lt_of_block HBY.out) (hcell HBY.out 5 rfl)
  have g0 := field42_0 px py
  have g1 := field42_1 px py
  have g2 := field42_0 qx qy
  have g3 := field42_1 qx qy
  go_quiet_grown (first | (go_at_call 109; with_reducible refine Calls.grown_of (kx _ _)) | (go_at_call 109; with_reducible refine Calls.grown_of (ky _ _)))
  clear kx ky g0 g1 g2 g3 fX0 fX1 fX2 fX3 fX4 fX5 fY0 fY1 fY2 fY3 fY4 fY5; have G3 := oh (G2.out.more nq osq)
  have HX3 := oh (blk HBX.out ((Gr.refl _).more nq osq).kp)
  have HY3 := oh (blk HBY.out ((Gr.refl _).more nq osq).kp)
  clear G2 HBX HBY; have G2 := G3; have HBX := HX3; have HBY := HY3; clear G3 HX3 HY3
  generalize hV9 : grow (V0.drewN nq) osq = V9 at *
  clear hV9; go_upto_region 10 with fail
  clear nx
  have kx := fun n os => SX.out _ (G2.out.more n os)
  have ky := fun n os => SY.out _ (G2.out.more n os)
  unfold Gr at kx ky
  have fX0 := fun n os => cell_grown (n := n) (os := os) (lt_of_block HBX.out) (hcell HBX.out 0 rfl)
  have fX1 := fun n os => cell_grown (n := n) (os := os) (lt_of_block HBX.out) (hcell HBX.out 1 rfl)
  have fX2 := fun n os => cell_grown (n := n) (os := os) (lt_of_block HBX.out) (hcell HBX.out 2 rfl)
  have fX3 := fun n os => cell_grown (n := n) (os := os) (lt_of_block HBX.out) (hcell HBX.out 3 rfl)
  have fX4 := fun n os => cell_grown (n := n) (os := os) (lt_of_block HBX.out) (hcell HBX.out 4 rfl)
  have fX5 := fun n os => cell_grown (n := n) (os := os) (lt_of_block HBX.out) (hcell HBX.out 5 rfl)
  have fY0 := fun n os => cell_grown (n := n) (os := os) (lt_of_block HBY.out) (hcell HBY.out 0 rfl)
  have fY1 := fun n os => cell_grown (n := n) (os := os) (lt_of_block HBY.out) (hcell HBY.out 1 rfl)
  have fY2 := fun n os => cell_grown (n := n) (os := os) (lt_of_block HBY.out) (hcell HBY.out 2 rfl)
  have fY3 := fun n os => cell_grown (n := n) (os := os) (lt_of_block HBY.out) (hcell HBY.out 3 rfl)
  have fY4 := fun n os => cell_grown (n := n) (os := os) (lt_of_block HBY.out) (hcell HBY.out 4 rfl)
  have fY5 := fun n os => cell_grown (n := n) (os := os) (lt_of_block HBY.out) (hcell HBY.out 5 rfl)
  have g0 := field42_0 px py
  have g1 := field42_1 px py
  have g2 := field42_0 qx qy
  have g3 := field42_1 qx qy
  go_quiet_grown (first | (go_at_call 109; with_reducible refine Calls.grown_of (kx _ _)) | (go_at_call 109; with_reducible refine Calls.grown_of (ky _ _)))
  clear kx ky g0 g1 g2 g3 fX0 fX1 fX2 fX3 fX4 fX5 fY0 fY1 fY2 fY3 fY4 fY5; have G3 := oh (G2.out.more nq osq)
  have HX3 := oh (blk HBX.out ((Gr.refl _).more nq osq).kp)
  have HY3 := oh (blk HBY.out ((Gr.refl _).more nq osq).kp)
  clear G2 HBX HBY; have G2 := G3; have HBX := HX3; have HBY := HY3; clear G3 HX3 HY3
  generalize hV1 : grow (V9.drewN nq) osq = V1 at *
  clear hV1; go_wp2_with fail
  go_ret
  exact ⟨by rw [← HR.out]; simp [Dl.lexLt, HHX.out] <;> omega, G2.out⟩
theorem before_any (x y : HT) (W : World) (hx : At W x) (hy : At W y) : Calls Tryz.prog 70 #[hV x, hV y] W fun E w' => E = .returned (.bool (Dl.ltH x.h y.h)) ∧ Gr W w' :=
 before_raw _ _ _ _ _ _ _ _ _ _ _ _ _ _ _ _ _ _ _ _ W (fun V g => rstart_any x V (hx.keep g.kp)) (fun V g => rstart_any y V (hy.keep g.kp))
end Go.Proofs.YtljjbdbgedmadaaGreatDoor
