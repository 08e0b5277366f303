/- The comparison of two holes by their keys (by's closure): it hands back what the first key that is not alike says; it only lays blocks and draws. Conditions: where its keys lie, where both holes' edges lie. -/
import Derived.Test.YtljjbdbgedmadaaGreatDoorKy
import Derived.Test.YtljjbdbgedmadaaGreatDoorShelf
import Derived.Shelf.SlSortCmp.QuietGrown
import Derived.Test.YtljjbdbgedmadaaGreatDoorKq
set_option maxRecDepth 100000
set_option maxHeartbeats 16000000
namespace Go.Proofs.YtljjbdbgedmadaaGreatDoor
open Go.RowKit Go.Sort
theorem Gr.size {W w : World} (h : Gr W w) : W.heap.size ≤ w.heap.size := h.kp.size
theorem Gr.cell {W w : World} (h : Gr W w) {b o : Nat} {v : Value} (hb : b < W.heap.size) (hc : W.cell? ⟨b, o, none⟩ = some v) : w.cell? ⟨b, o, none⟩ = some v := by
 rw [h.kp.below.cell (p := ⟨b, o, none⟩) hb]; exact hc
theorem Gr.more {W w : World} (h : Gr W w) (n : Nat) (os : Array Obj) : Gr W (grow (w.drewN n) os) := h.trans ⟨n, os, rfl⟩
def cmpL : List Int → List Int → Int
 | a :: xs, b :: ys => if Lib.compareInt a b = 0 then cmpL xs ys else Lib.compareInt a b
 | _, _ => 0
theorem cmpI_zero {a b : Int} : Lib.compareInt a b = 0 ↔ a = b := by unfold Lib.compareInt; split <;> (try split) <;> omega
theorem cmpI_neg {a b : Int} : Lib.compareInt a b < 0 ↔ a < b := by unfold Lib.compareInt; split <;> (try split) <;> omega
theorem cmpL_lt : ∀ xs ys : List Int, decide (cmpL xs ys < 0) = Dl.lexLt xs ys
 | [], _ => by simp [cmpL, Dl.lexLt]
 | _ :: _, [] => by simp [cmpL, Dl.lexLt]
 | a :: xs, b :: ys => by
  unfold cmpL Dl.lexLt
  by_cases h : a = b
  ·rw [if_pos (cmpI_zero.2 h), if_neg (by simpa using h)]; exact cmpL_lt xs ys
  ·rw [if_neg (fun e => h (cmpI_zero.1 e)), if_pos h]
   exact decide_eq_decide.2 cmpI_neg
def KeyIs (f : Nat) (t : HT) (a : Int) (W : World) : Prop := ∀ V, Gr W V → Calls Tryz.prog f #[hV t] V fun E w' => E = .returned (I6 a) ∧ Gr V w'
def KeyIn (f : Nat) (t : HT) (a : Int) (W : World) : Prop := ∀ n os, Calls Tryz.prog f #[hV t] (grow (W.drewN n) os) fun E w' => E = .returned (I6 a) ∧ ∃ q os', w' = grow ((grow (W.drewN n) os).drewN q) os'
theorem KeyIs.at {f : Nat} {t : HT} {a : Int} {W V : World} (h : KeyIs f t a W) (g : Gr W V) : KeyIn f t a V := fun n os => h _ (g.more n os)
theorem field42_0 (a b : Int) (V : World) : Sem.run Tryz.prog (Instr.field 42 (.agg #[I6 a, I6 b]) 0) V = .ok (I6 a) V := by rfl
theorem field42_1 (a b : Int) (V : World) : Sem.run Tryz.prog (Instr.field 42 (.agg #[I6 a, I6 b]) 1) V = .ok (I6 b) V := by rfl
theorem mixedT : Tryz.prog.follows .mixedOrders = true := by kernel_rfl
theorem key67 (t : HT) (W : World) (h : At W t) : Calls Tryz.prog 67 #[hV t] W fun E w' => E = .returned (I6 (Dl.startH t.h).x) ∧ Gr W w' := by
 have hs := fun V (g : Gr W V) => start_any t V (h.keep g.kp)
 clear h
 obtain ⟨p, hp⟩ : ∃ p, Dl.startH t.h = p := ⟨_, rfl⟩
 rw [hp] at hs ⊢; clear hp; have HS := oh hs; clear hs; obtain ⟨⟨⟨sk, es, sr⟩, f, tt, pl⟩, ea, ec⟩ := t
 unfold hV at HS ⊢
 dsimp only at HS ⊢
 generalize es.length = n at *
 go_enter Tryz.func67, Tryz.ntmps67
 go_wp2_with fail
 refine (HS.out _ ((Gr.refl W).alloc _)).mono ?_
 rintro E w' ⟨rfl, g⟩
 have HG := oh (((Gr.refl W).alloc _).trans g)
 clear g
 have hf := field42_0 p.x p.y w'
 go_wp2
 go_ret
 exact ⟨rfl, HG.out⟩
theorem key69 (t : HT) (W : World) (h : At W t) : Calls Tryz.prog 69 #[hV t] W fun E w' => E = .returned (I6 (Dl.startH t.h).y) ∧ Gr W w' := by
 have hs := fun V (g : Gr W V) => start_any t V (h.keep g.kp)
 clear h
 obtain ⟨p, hp⟩ : ∃ p, Dl.startH t.h = p := ⟨_, rfl⟩
 rw [hp] at hs ⊢; clear hp; have HS := oh hs; clear hs; obtain ⟨⟨⟨sk, es, sr⟩, f, tt, pl⟩, ea, ec⟩ := t
 unfold hV at HS ⊢
 dsimp only at HS ⊢
 generalize es.length = n at *
 go_enter Tryz.func69, Tryz.ntmps69
 go_wp2_with fail
 refine (HS.out _ ((Gr.refl W).alloc _)).mono ?_
 rintro E w' ⟨rfl, g⟩
 have HG := oh (((Gr.refl W).alloc _).trans g)
 clear g
 have hf := field42_1 p.x p.y w'
 go_wp2
 go_ret
 exact ⟨rfl, HG.out⟩
def KeysAt (W : World) (KB KS : Nat) : Prop := KB < W.heap.size ∧ KS < W.heap.size ∧ W.cell? ⟨KB, 0, none⟩ = some (.slice (some ⟨KS, 0, none⟩) 6 6) ∧ W.cell? ⟨KS, 0, none⟩ = some (.func (.func 64) #[] #[]) ∧ W.cell? ⟨KS, 1, none⟩ = some (.func (.func 65) #[] #[]) ∧ W.cell? ⟨KS, 2, none⟩ = some (.func (.func 61) #[] #[]) ∧ W.cell? ⟨KS, 3, none⟩ = some (.func (.func 66) #[] #[]) ∧ W.cell? ⟨KS, 4, none⟩ = some (.func (.func 67) #[] #[]) ∧ W.cell? ⟨KS, 5, none⟩ = some (.func (.func 69) #[] #[])
theorem by107_keys (x y : HT) (a0 a1 a2 a3 a4 a5 b0 b1 b2 b3 b4 b5 : Int) (KB KS : Nat) (W : World) (hk : KeysAt W KB KS) (x0 : KeyIs 64 x a0 W) (y0 : KeyIs 64 y b0 W) (x1 : KeyIs 65 x a1 W) (y1 : KeyIs 65 y b1 W) (x2 : KeyIs 61 x a2 W) (y2 : KeyIs 61 y b2 W) (x3 : KeyIs 66 x a3 W) (y3 : KeyIs 66 y b3 W) (x4 : KeyIs 67 x a4 W) (y4 : KeyIs 67 y b4 W) (x5 : KeyIs 69 x a5 W) (y5 : KeyIs 69 y b5 W) :
  Calls Tryz.prog 107 #[hV x, hV y, .pointer (some ⟨KB, 0, none⟩)] W fun E w' => E = .returned (I6 (cmpL [a0, a1, a2, a3, a4, a5] [b0, b1, b2, b3, b4, b5])) ∧ Gr W w' := by
 have mixed := mixedT
 have hcmp := fun (p q : Int) (V : World) => AnyG.cmp_Compare_int Tryz.cmpInt p q V
 change ∀ p q V, Calls Tryz.prog 108 _ _ _ at hcmp
 obtain ⟨r, hr⟩ : ∃ r, cmpL [a0, a1, a2, a3, a4, a5] [b0, b1, b2, b3, b4, b5] = r := ⟨_, rfl⟩
 rw [hr]; have HR := oh hr; obtain ⟨hb1, hb2, hc, q0, q1, q2, q3, q4, q5⟩ := hk
 have HX : Hid (x = x) := rfl
 obtain ⟨⟨⟨xk, xes, xr⟩, xf, xt, xp⟩, xa, xc⟩ := x; obtain ⟨⟨⟨yk, yes, yr⟩, yf, yt, yp⟩, ya, yc⟩ := y
 have G2 : Hid (Gr W ((W.alloc (.cells #[I6 xk, .slice xa xes.length xc, I6 xr, I6 xf, I6 xt, .bool xp] 52)).alloc (.cells #[I6 yk, .slice ya yes.length yc, I6 yr, I6 yf, I6 yt, .bool yp] 52))) := oh (((Gr.refl W).alloc _).alloc _)
 have HBX : Hid ((((W.alloc (.cells #[I6 xk, .slice xa xes.length xc, I6 xr, I6 xf, I6 xt, .bool xp] 52)).alloc (.cells #[I6 yk, .slice ya yes.length yc, I6 yr, I6 yf, I6 yt, .bool yp] 52))).heap[W.heap.size]? = some (.cells #[I6 xk, .slice xa xes.length xc, I6 xr, I6 xf, I6 xt, .bool xp] 52 (0, 0))) := oh (blk (heap_alloc_new W _) ((Kp.refl _ none).alloc _))
 have HBY : Hid ((((W.alloc (.cells #[I6 xk, .slice xa xes.length xc, I6 xr, I6 xf, I6 xt, .bool xp] 52)).alloc (.cells #[I6 yk, .slice ya yes.length yc, I6 yr, I6 yf, I6 yt, .bool yp] 52))).heap[W.heap.size + 1]? = some (.cells #[I6 yk, .slice ya yes.length yc, I6 yr, I6 yf, I6 yt, .bool yp] 52 (0, 0))) := oh (by have h := heap_alloc_new (W.alloc (.cells #[I6 xk, .slice xa xes.length xc, I6 xr, I6 xf, I6 xt, .bool xp] 52)) (.cells #[I6 yk, .slice ya yes.length yc, I6 yr, I6 yf, I6 yt, .bool yp] 52); simpa using h)
 have CQ : Hid (∀ V, Gr W V → V.cell? ⟨KB, 0, none⟩ = some (.slice (some ⟨KS, 0, none⟩) 6 6) ∧ V.cell? ⟨KS, 0, none⟩ = some (.func (.func 64) #[] #[]) ∧ V.cell? ⟨KS, 1, none⟩ = some (.func (.func 65) #[] #[]) ∧ V.cell? ⟨KS, 2, none⟩ = some (.func (.func 61) #[] #[]) ∧ V.cell? ⟨KS, 3, none⟩ = some (.func (.func 66) #[] #[]) ∧ V.cell? ⟨KS, 4, none⟩ = some (.func (.func 67) #[] #[]) ∧ V.cell? ⟨KS, 5, none⟩ = some (.func (.func 69) #[] #[])) := oh fun V g => ⟨g.cell hb1 hc, g.cell hb2 q0, g.cell hb2 q1, g.cell hb2 q2, g.cell hb2 q3, g.cell hb2 q4, g.cell hb2 q5⟩
 unfold hV at *
 dsimp only at *
 obtain ⟨xn, hxn⟩ : ∃ n, xes.length = n := ⟨_, rfl⟩
 obtain ⟨yn, hyn⟩ : ∃ n, yes.length = n := ⟨_, rfl⟩
 rw [hxn, hyn] at G2 HBX HBY ⊢; have HXN := oh hxn; have HYN := oh hyn; have X0 := oh x0; have Y0 := oh y0; have X1 := oh x1; have Y1 := oh y1; have X2 := oh x2; have Y2 := oh y2; have X3 := oh x3; have Y3 := oh y3; have X4 := oh x4; have Y4 := oh y4; have X5 := oh x5; have Y5 := oh y5; clear hxn hyn hr hb1 hb2 hc q0 q1 q2 q3 q4 q5 HX x0 y0 x1 y1 x2 y2 x3 y3 x4 y4 x5 y5
 go_enter Tryz.func107, Tryz.ntmps107
 go_upto_region 1 with fail
 generalize (W.alloc (.cells #[I6 xk, .slice xa xn xc, I6 xr, I6 xf, I6 xt, .bool xp] 52)).alloc (.cells #[I6 yk, .slice ya yn yc, I6 yr, I6 yf, I6 yt, .bool yp] 52) = V0 at *
 have c0 := (CQ.out _ G2.out).1
 go_wp2_with fail
 clear c0
 refine wp_loop_rounds 7 ?_
 rw [rounds_succ]
 have c0 := (CQ.out _ G2.out).2.1
 go_upto_region 4 with fail
 clear c0
 have kx := X0.out.at G2.out
 have ky := Y0.out.at G2.out
 unfold KeyIn at kx ky; unfold hV at kx ky
 simp only [HXN.out] at kx
 simp only [HYN.out] at ky
 have fX0 := fun n os => cell_grown (n := n) (os := os) (lt_of_block HBX.out) (hcell HBX.out 0 rfl)
 have fX1 := fun n os => cell_grown (n := n) (os := os) (lt_of_block HBX.out) (hcell HBX.out 1 rfl)
 have fX2 := fun n os => cell_grown (n := n) (os := os) (lt_of_block HBX.out) (hcell HBX.out 2 rfl)
 have fX3 := fun n os => cell_grown (n := n) (os := os) (lt_of_block HBX.out) (hcell HBX.out 3 rfl)
 have fX4 := fun n os => cell_grown (n := n) (os := os) (lt_of_block HBX.out) (hcell HBX.out 4 rfl)
 have fX5 := fun n os => cell_grown (n := n) (os := os) (lt_of_block HBX.out) (hcell HBX.out 5 rfl)
 have fY0 := fun n os => cell_grown (n := n) (os := os) (lt_of_block HBY.out) (hcell HBY.out 0 rfl)
 have fY1 := fun n os => cell_grown (n := n) (os := os) (lt_of_block HBY.out) (hcell HBY.out 1 rfl)
 have fY2 := fun n os => cell_grown (n := n) (os := os) (lt_of_block HBY.out) (hcell HBY.out 2 rfl)
 have fY3 := fun n os => cell_grown (n := n) (os := os) (lt_of_block HBY.out) (hcell HBY.out 3 rfl)
 have fY4 := fun n os => cell_grown (n := n) (os := os) (lt_of_block HBY.out) (hcell HBY.out 4 rfl)
 have fY5 := fun n os => cell_grown (n := n) (os := os) (lt_of_block HBY.out) (hcell HBY.out 5 rfl)
 obtain ⟨cc, hcc⟩ : ∃ c, Lib.compareInt a0 b0 = c := ⟨_, rfl⟩
 have hc9 := fun V => hcmp a0 b0 V
 rw [hcc] at hc9; have HCC := oh hcc; clear hcc
 go_quiet_grown (first | (go_at_call 64; refine Calls.grown_of (kx _ _)) | (go_at_call 64; refine Calls.grown_of (ky _ _)) | (go_at_call 108; refine (hc9 _).mono ?_; rintro e w2 ⟨rfl, rfl⟩; exact ⟨rfl, _, rfl⟩))
 clear kx ky hc9 fX0 fX1 fX2 fX3 fX4 fX5 fY0 fY1 fY2 fY3 fY4 fY5; have G3 := oh (G2.out.more nq osq)
 have HX3 := oh (blk HBX.out ((Gr.refl _).more nq osq).kp)
 have HY3 := oh (blk HBY.out ((Gr.refl _).more nq osq).kp)
 clear G2 HBX HBY; have G2 := G3; have HBX := HX3; have HBY := HY3; clear G3 HX3 HY3
 generalize grow (V0.drewN nq) osq = V1 at *
 by_cases hz : cc = 0
 ·have e0 : Lib.compareInt a0 b0 = 0 := HCC.out.trans hz
  subst hz; clear HCC; go_wp2_with fail
  rw [rounds_succ]
  have c0 := (CQ.out _ G2.out).2.2.1
  go_upto_region 4 with fail
  clear c0
  have kx := X1.out.at G2.out
  have ky := Y1.out.at G2.out
  unfold KeyIn at kx ky; unfold hV at kx ky
  simp only [HXN.out] at kx
  simp only [HYN.out] at ky
  have fX0 := fun n os => cell_grown (n := n) (os := os) (lt_of_block HBX.out) (hcell HBX.out 0 rfl)
  have fX1 := fun n os => cell_grown (n := n) (os := os) (lt_of_block HBX.out) (hcell HBX.out 1 rfl)
  have fX2 := fun n os => cell_grown (n := n) (os := os) (lt_of_block HBX.out) (hcell HBX.out 2 rfl)
  have fX3 := fun n os => cell_grown (n := n) (os := os) (lt_of_block HBX.out) (hcell HBX.out 3 rfl)
  have fX4 := fun n os => cell_grown (n := n) (os := os) (lt_of_block HBX.out) (hcell HBX.out 4 rfl)
  have fX5 := fun n os => cell_grown (n := n) (os := os) (lt_of_block HBX.out) (hcell HBX.out 5 rfl)
  have fY0 := fun n os => cell_grown (n := n) (os := os) (lt_of_block HBY.out) (hcell HBY.out 0 rfl)
  have fY1 := fun n os => cell_grown (n := n) (os := os) (lt_of_block HBY.out) (hcell HBY.out 1 rfl)
  have fY2 := fun n os => cell_grown (n := n) (os := os) (lt_of_block HBY.out) (hcell HBY.out 2 rfl)
  have fY3 := fun n os => cell_grown (n := n) (os := os) (lt_of_block HBY.out) (hcell HBY.out 3 rfl)
  have fY4 := fun n os => cell_grown (n := n) (os := os) (lt_of_block HBY.out) (hcell HBY.out 4 rfl)
  have fY5 := fun n os => cell_grown (n := n) (os := os) (lt_of_block HBY.out) (hcell HBY.out 5 rfl)
  obtain ⟨cc, hcc⟩ : ∃ c, Lib.compareInt a1 b1 = c := ⟨_, rfl⟩
  have hc9 := fun V => hcmp a1 b1 V
  rw [hcc] at hc9; have HCC := oh hcc; clear hcc
  go_quiet_grown (first | (go_at_call 65; refine Calls.grown_of (kx _ _)) | (go_at_call 65; refine Calls.grown_of (ky _ _)) | (go_at_call 108; refine (hc9 _).mono ?_; rintro e w2 ⟨rfl, rfl⟩; exact ⟨rfl, _, rfl⟩))
  clear kx ky hc9 fX0 fX1 fX2 fX3 fX4 fX5 fY0 fY1 fY2 fY3 fY4 fY5; have G3 := oh (G2.out.more nq osq)
  have HX3 := oh (blk HBX.out ((Gr.refl _).more nq osq).kp)
  have HY3 := oh (blk HBY.out ((Gr.refl _).more nq osq).kp)
  clear G2 HBX HBY; have G2 := G3; have HBX := HX3; have HBY := HY3; clear G3 HX3 HY3
  generalize grow (V1.drewN nq) osq = V2 at *
  by_cases hz : cc = 0
  ·have e1 : Lib.compareInt a1 b1 = 0 := HCC.out.trans hz
   subst hz; clear HCC; go_wp2_with fail
   rw [rounds_succ]
   have c0 := (CQ.out _ G2.out).2.2.2.1
   go_upto_region 4 with fail
   clear c0
   have kx := X2.out.at G2.out
   have ky := Y2.out.at G2.out
   unfold KeyIn at kx ky; unfold hV at kx ky
   simp only [HXN.out] at kx
   simp only [HYN.out] at ky
   have fX0 := fun n os => cell_grown (n := n) (os := os) (lt_of_block HBX.out) (hcell HBX.out 0 rfl)
   have fX1 := fun n os => cell_grown (n := n) (os := os) (lt_of_block HBX.out) (hcell HBX.out 1 rfl)
   have fX2 := fun n os => cell_grown (n := n) (os := os) (lt_of_block HBX.out) (hcell HBX.out 2 rfl)
   have fX3 := fun n os => cell_grown (n := n) (os := os) (lt_of_block HBX.out) (hcell HBX.out 3 rfl)
   have fX4 := fun n os => cell_grown (n := n) (os := os) (lt_of_block HBX.out) (hcell HBX.out 4 rfl)
   have fX5 := fun n os => cell_grown (n := n) (os := os) (lt_of_block HBX.out) (hcell HBX.out 5 rfl)
   have fY0 := fun n os => cell_grown (n := n) (os := os) (lt_of_block HBY.out) (hcell HBY.out 0 rfl)
   have fY1 := fun n os => cell_grown (n := n) (os := os) (lt_of_block HBY.out) (hcell HBY.out 1 rfl)
   have fY2 := fun n os => cell_grown (n := n) (os := os) (lt_of_block HBY.out) (hcell HBY.out 2 rfl)
   have fY3 := fun n os => cell_grown (n := n) (os := os) (lt_of_block HBY.out) (hcell HBY.out 3 rfl)
   have fY4 := fun n os => cell_grown (n := n) (os := os) (lt_of_block HBY.out) (hcell HBY.out 4 rfl)
   have fY5 := fun n os => cell_grown (n := n) (os := os) (lt_of_block HBY.out) (hcell HBY.out 5 rfl)
   obtain ⟨cc, hcc⟩ : ∃ c, Lib.compareInt a2 b2 = c := ⟨_, rfl⟩
   have hc9 := fun V => hcmp a2 b2 V
   rw [hcc] at hc9; have HCC := oh hcc; clear hcc
   go_quiet_grown (first | (go_at_call 61; refine Calls.grown_of (kx _ _)) | (go_at_call 61; refine Calls.grown_of (ky _ _)) | (go_at_call 108; refine (hc9 _).mono ?_; rintro e w2 ⟨rfl, rfl⟩; exact ⟨rfl, _, rfl⟩))
   clear kx ky hc9 fX0 fX1 fX2 fX3 fX4 fX5 fY0 fY1 fY2 fY3 fY4 fY5; have G3 := oh (G2.out.more nq osq)
   have HX3 := oh (blk HBX.out ((Gr.refl _).more nq osq).kp)
   have HY3 := oh (blk HBY.out ((Gr.refl _).more nq osq).kp)
   clear G2 HBX HBY; have G2 := G3; have HBX := HX3; have HBY := HY3; clear G3 HX3 HY3
   generalize grow (V2.drewN nq) osq = V3 at *
   by_cases hz : cc = 0
   ·have e2 : Lib.compareInt a2 b2 = 0 := HCC.out.trans hz
    subst hz; clear HCC; go_wp2_with fail
    rw [rounds_succ]
    have c0 := (CQ.out _ G2.out).2.2.2.2.1
    go_upto_region 4 with fail
    clear c0
    have kx := X3.out.at G2.out
    have ky := Y3.out.at G2.out
    unfold KeyIn at kx ky; unfold hV at kx ky
    simp only [HXN.out] at kx
    simp only [HYN.out] at ky
    have fX0 := fun n os => cell_grown (n := n) (os := os) (lt_of_block HBX.out) (hcell HBX.out 0 rfl)
    have fX1 := fun n os => cell_grown (n := n) (os := os) (lt_of_block HBX.out) (hcell HBX.out 1 rfl)
    have fX2 := fun n os => cell_grown (n := n) (os := os) (lt_of_block HBX.out) (hcell HBX.out 2 rfl)
    have fX3 := fun n os => cell_grown (n := n) (os := os) (lt_of_block HBX.out) (hcell HBX.out 3 rfl)
    have fX4 := fun n os => cell_grown (n := n) (os := os) (lt_of_block HBX.out) (hcell HBX.out 4 rfl)
    have fX5 := fun n os => cell_grown (n := n) (os := os) (lt_of_block HBX.out) (hcell HBX.out 5 rfl)
    have fY0 := fun n os => cell_grown (n := n) (os := os) (lt_of_block HBY.out) (hcell HBY.out 0 rfl)
    have fY1 := fun n os => cell_grown (n := n) (os := os) (lt_of_block HBY.out) (hcell HBY.out 1 rfl)
    have fY2 := fun n os => cell_grown (n := n) (os := os) (lt_of_block HBY.out) (hcell HBY.out 2 rfl)
    have fY3 := fun n os => cell_grown (n := n) (os := os) (lt_of_block HBY.out) (hcell HBY.out 3 rfl)
    have fY4 := fun n os => cell_grown (n := n) (os := os) (lt_of_block HBY.out) (hcell HBY.out 4 rfl)
    have fY5 := fun n os => cell_grown (n := n) (os := os) (lt_of_block HBY.out) (hcell HBY.out 5 rfl)
    obtain ⟨cc, hcc⟩ : ∃ c, Lib.compareInt a3 b3 = c := ⟨_, rfl⟩
    have hc9 := fun V => hcmp a3 b3 V
    rw [hcc] at hc9; have HCC := oh hcc; clear hcc
    go_quiet_grown (first | (go_at_call 66; refine Calls.grown_of (kx _ _)) | (go_at_call 66; refine Calls.grown_of (ky _ _)) | (go_at_call 108; refine (hc9 _).mono ?_; rintro e w2 ⟨rfl, rfl⟩; exact ⟨rfl, _, rfl⟩))
    clear kx ky hc9 fX0 fX1 fX2 fX3 fX4 fX5 fY0 fY1 fY2 fY3 fY4 fY5; have G3 := oh (G2.out.more nq osq)
    have HX3 := oh (blk HBX.out ((Gr.refl _).more nq osq).kp)
    have HY3 := oh (blk HBY.out ((Gr.refl _).more nq osq).kp)
    clear G2 HBX HBY; have G2 := G3; have HBX := HX3; have HBY := HY3; clear G3 HX3 HY3
    generalize grow (V3.drewN nq) osq = V4 at *
    by_cases hz : cc = 0
    ·have e3 : Lib.compareInt a3 b3 = 0 := HCC.out.trans hz
     subst hz; clear HCC; go_wp2_with fail
     rw [rounds_succ]
     have c0 := (CQ.out _ G2.out).2.2.2.2.2.1
     go_upto_region 4 with fail
     clear c0
     have kx := X4.out.at G2.out
     have ky := Y4.out.at G2.out
     unfold KeyIn at kx ky; unfold hV at kx ky
     simp only [HXN.out] at kx
     simp only [HYN.out] at ky
     have fX0 := fun n os => cell_grown (n := n) (os := os) (lt_of_block HBX.out) (hcell HBX.out 0 rfl)
     have fX1 := fun n os => cell_grown (n := n) (os := os) (lt_of_block HBX.out) (hcell HBX.out 1 rfl)
     have fX2 := fun n os => cell_grown (n := n) (os := os) (lt_of_block HBX.out) (hcell HBX.out 2 rfl)
     have fX3 := fun n os => cell_grown (n := n) (os := os) (lt_of_block HBX.out) (hcell HBX.out 3 rfl)
     have fX4 := fun n os => cell_grown (n := n) (os := os) (lt_of_block HBX.out) (hcell HBX.out 4 rfl)
     have fX5 := fun n os => cell_grown (n := n) (os := os) (lt_of_block HBX.out) (hcell HBX.out 5 rfl)
     have fY0 := fun n os => cell_grown (n := n) (os := os) (lt_of_block HBY.out) (hcell HBY.out 0 rfl)
     have fY1 := fun n os => cell_grown (n := n) (os := os) (lt_of_block HBY.out) (hcell HBY.out 1 rfl)
     have fY2 := fun n os => cell_grown (n := n) (os := os) (lt_of_block HBY.out) (hcell HBY.out 2 rfl)
     have fY3 := fun n os => cell_grown (n := n) (os := os) (lt_of_block HBY.out) (hcell HBY.out 3 rfl)
     have fY4 := fun n os => cell_grown (n := n) (os := os) (lt_of_block HBY.out) (hcell HBY.out 4 rfl)
     have fY5 := fun n os => cell_grown (n := n) (os := os) (lt_of_block HBY.out) (hcell HBY.out 5 rfl)
     obtain ⟨cc, hcc⟩ : ∃ c, Lib.compareInt a4 b4 = c := ⟨_, rfl⟩
     have hc9 := fun V => hcmp a4 b4 V
     rw [hcc] at hc9; have HCC := oh hcc; clear hcc
     go_quiet_grown (first | (go_at_call 67; refine Calls.grown_of (kx _ _)) | (go_at_call 67; refine Calls.grown_of (ky _ _)) | (go_at_call 108; refine (hc9 _).mono ?_; rintro e w2 ⟨rfl, rfl⟩; exact ⟨rfl, _, rfl⟩))
     clear kx ky hc9 fX0 fX1 fX2 fX3 fX4 fX5 fY0 fY1 fY2 fY3 fY4 fY5; have G3 := oh (G2.out.more nq osq)
     have HX3 := oh (blk HBX.out ((Gr.refl _).more nq osq).kp)
     have HY3 := oh (blk HBY.out ((Gr.refl _).more nq osq).kp)
     clear G2 HBX HBY; have G2 := G3; have HBX := HX3; have HBY := HY3; clear G3 HX3 HY3
     generalize grow (V4.drewN nq) osq = V5 at *
     by_cases hz : cc = 0
     ·have e4 : Lib.compareInt a4 b4 = 0 := HCC.out.trans hz
      subst hz; clear HCC; go_wp2_with fail
      rw [rounds_succ]
      have c0 := (CQ.out _ G2.out).2.2.2.2.2.2
      go_upto_region 4 with fail
      clear c0
      have kx := X5.out.at G2.out
      have ky := Y5.out.at G2.out
      unfold KeyIn at kx ky; unfold hV at kx ky
      simp only [HXN.out] at kx
      simp only [HYN.out] at ky
      have fX0 := fun n os => cell_grown (n := n) (os := os) (lt_of_block HBX.out) (hcell HBX.out 0 rfl)
      have fX1 := fun n os => cell_grown (n := n) (os := os) (lt_of_block HBX.out) (hcell HBX.out 1 rfl)
      have fX2 := fun n os => cell_grown (n := n) (os := os) (lt_of_block HBX.out) (hcell HBX.out 2 rfl)
      have fX3 := fun n os => cell_grown (n := n) (os := os) (lt_of_block HBX.out) (hcell HBX.out 3 rfl)
      have fX4 := fun n os => cell_grown (n := n) (os := os) (lt_of_block HBX.out) (hcell HBX.out 4 rfl)
      have fX5 := fun n os => cell_grown (n := n) (os := os) (lt_of_block HBX.out) (hcell HBX.out 5 rfl)
      have fY0 := fun n os => cell_grown (n := n) (os := os) (lt_of_block HBY.out) (hcell HBY.out 0 rfl)
      have fY1 := fun n os => cell_grown (n := n) (os := os) (lt_of_block HBY.out) (hcell HBY.out 1 rfl)
      have fY2 := fun n os => cell_grown (n := n) (os := os) (lt_of_block HBY.out) (hcell HBY.out 2 rfl)
      have fY3 := fun n os => cell_grown (n := n) (os := os) (lt_of_block HBY.out) (hcell HBY.out 3 rfl)
      have fY4 := fun n os => cell_grown (n := n) (os := os) (lt_of_block HBY.out) (hcell HBY.out 4 rfl)
      have fY5 := fun n os => cell_grown (n := n) (os := os) (lt_of_block HBY.out) (hcell HBY.out 5 rfl)
      obtain ⟨cc, hcc⟩ : ∃ c, Lib.compareInt a5 b5 = c := ⟨_, rfl⟩
      have hc9 := fun V => hcmp a5 b5 V
      rw [hcc] at hc9; have HCC := oh hcc; clear hcc
      go_quiet_grown (first | (go_at_call 69; refine Calls.grown_of (kx _ _)) | (go_at_call 69; refine Calls.grown_of (ky _ _)) | (go_at_call 108; refine (hc9 _).mono ?_; rintro e w2 ⟨rfl, rfl⟩; exact ⟨rfl, _, rfl⟩))
      clear kx ky hc9 fX0 fX1 fX2 fX3 fX4 fX5 fY0 fY1 fY2 fY3 fY4 fY5; have G3 := oh (G2.out.more nq osq)
      have HX3 := oh (blk HBX.out ((Gr.refl _).more nq osq).kp)
      have HY3 := oh (blk HBY.out ((Gr.refl _).more nq osq).kp)
      clear G2 HBX HBY; have G2 := G3; have HBX := HX3; have HBY := HY3; clear G3 HX3 HY3
      generalize grow (V5.drewN nq) osq = V6 at *
      by_cases hz : cc = 0
      ·have e5 : Lib.compareInt a5 b5 = 0 := HCC.out.trans hz
       subst hz; clear HCC; go_wp2_with fail
       rw [rounds_succ]; go_wp2_with fail
       go_ret
       exact ⟨by rw [← HR.out]; simp [cmpL, e0, e1, e2, e3, e4, e5], G2.out⟩
      ·have hz9 : (cc != 0) = true := by simpa using hz
       go_wp2_with fail
       go_ret
       exact ⟨by rw [← HR.out]; simp [cmpL, e0, e1, e2, e3, e4, HCC.out, hz], G2.out⟩
     ·have hz9 : (cc != 0) = true := by simpa using hz
      go_wp2_with fail
      go_ret
      exact ⟨by rw [← HR.out]; simp [cmpL, e0, e1, e2, e3, HCC.out, hz], G2.out⟩
    ·have hz9 : (cc != 0) = true := by simpa using hz
     go_wp2_with fail
     go_ret
     exact ⟨by rw [← HR.out]; simp [cmpL, e0, e1, e2, HCC.out, hz], G2.out⟩
   ·have hz9 : (cc != 0) = true := by simpa using hz
    go_wp2_with fail
    go_ret
    exact ⟨by rw [← HR.out]; simp [cmpL, e0, e1, HCC.out, hz], G2.out⟩
  ·have hz9 : (cc != 0) = true := by simpa using hz
   go_wp2_with fail
   go_ret
   exact ⟨by rw [← HR.out]; simp [cmpL, e0, HCC.out, hz], G2.out⟩
 ·have hz9 : (cc != 0) = true := by simpa using hz
  go_wp2_with fail
  go_ret
  exact ⟨by rw [← HR.out]; simp [cmpL, HCC.out, hz], G2.out⟩
theorem by107 (x y : HT) (KB KS : Nat) (W : World) (hk : KeysAt W KB KS) (hx : At W x) (hy : At W y) :
  Calls Tryz.prog 107 #[hV x, hV y, .pointer (some ⟨KB, 0, none⟩)] W fun E w' => E = .returned (I6 (cmpL (Dl.keyH x.h) (Dl.keyH y.h))) ∧ Gr W w' :=
 by107_keys x y _ _ _ _ _ _ _ _ _ _ _ _ KB KS W hk (fun V _ => key64 x V) (fun V _ => key64 y V) (fun V _ => key65 x V) (fun V _ => key65 y V) (fun V _ => key61 x V) (fun V _ => key61 y V) (fun V _ => key66 x V) (fun V _ => key66 y V) (fun V g => key67 x V (hx.keep g.kp)) (fun V g => key67 y V (hy.keep g.kp)) (fun V g => key69 x V (hx.keep g.kp)) (fun V g => key69 y V (hy.keep g.kp))
end Go.Proofs.YtljjbdbgedmadaaGreatDoor
