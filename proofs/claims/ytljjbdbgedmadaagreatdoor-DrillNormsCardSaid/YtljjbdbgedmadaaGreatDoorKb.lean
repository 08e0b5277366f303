/- The keys by which holes are put in order (the closures of Norm, start): what they hand back, and that they only lay blocks and draw. No condition.
   cmp.Compare at int and the insertion sort at holes, as the library has them, laid at this program (printed by the kit's lay-plain). No condition but each contract's own.
   The comparison of two holes by their keys (by's closure): it hands back what the first key that is not alike says; it only lays blocks and draws. Conditions: where its keys lie, where both holes' edges lie. -/
import Derived.Test.YtljjbdbgedmadaaGreatDoorHs
import Derived.Sort.Grow
import Derived.Handy
import Derived.Shelf.SlSortCmp.InsertionK
import Derived.Shelf.SlicesG.Cmp
import Derived.Test.YtljjbdbgedmadaaGreatDoorProg
import Derived.Test.YtljjbdbgedmadaaGreatDoorShelf
import Derived.Shelf.SlSortCmp.QuietGrown

namespace Go.Proofs.YtljjbdbgedmadaaGreatDoor
open Go.RowKit

/-- Draws, and blocks laid behind. -/
def Gr (W w : World) : Prop := ∃ (q : Nat) (os : Array Obj), w = Sort.grow (W.drewN q) os
theorem Gr.refl (W : World) : Gr W W := ⟨0, #[], (Sort.grow_empty _).symm⟩
theorem Gr.trans {a b c : World} (h : Gr a b) (k : Gr b c) : Gr a c := by
  obtain ⟨q, os, rfl⟩ := h
  obtain ⟨r, os2, rfl⟩ := k
  exact ⟨q + r, os ++ os2, by simp [Sort.grow, World.drewN, Nat.add_assoc, Array.append_assoc]⟩
theorem Gr.alloc {W w : World} (h : Gr W w) (o : Obj) : Gr W (w.alloc o) := h.trans ⟨0, #[o], by rw [Sort.alloc_eq_grow]; rfl⟩
theorem Gr.drew {W w : World} (h : Gr W w) : Gr W w.drew := h.trans ⟨1, #[], (Sort.grow_empty _).symm⟩
theorem Gr.drewN {W w : World} (h : Gr W w) (n : Nat) : Gr W (w.drewN n) := h.trans ⟨n, #[], (Sort.grow_empty _).symm⟩
theorem Gr.kp {W w : World} (h : Gr W w) : Kp W w none := by
  obtain ⟨q, os, rfl⟩ := h
  refine ⟨rfl, rfl, rfl, by simp [Sort.grow], fun k hk _ => ?_⟩
  show (W.heap ++ os)[k]? = W.heap[k]?
  exact Array.getElem?_append_left hk
/-- The value of a hole. -/
def hV (t : HT) : Value := .agg #[.int .i64 t.h.s.k, .slice t.ea t.h.s.es.length t.ec, .int .i64 t.h.s.r, .int .i64 t.h.f, .int .i64 t.h.t, .bool t.h.pl]
theorem key61 (t : HT) (W : World) : Calls Tryz.prog 61 #[hV t] W fun E w' => E = .returned (.int .i64 (if t.h.pl then 0 else 1)) ∧ Gr W w' := by
  unfold hV
  obtain ⟨b, hb⟩ : ∃ b, t.h.pl = b := ⟨_, rfl⟩
  rw [hb]
  cases b
  all_goals
    go_enter Tryz.func61, Tryz.ntmps61
    go_wp2
    go_ret
    exact ⟨rfl, (Gr.refl W).alloc _⟩
theorem key64 (t : HT) (W : World) : Calls Tryz.prog 64 #[hV t] W fun E w' => E = .returned (.int .i64 t.h.f) ∧ Gr W w' := by
  unfold hV
  go_enter Tryz.func64, Tryz.ntmps64
  go_wp2
  go_ret
  exact ⟨rfl, (Gr.refl W).alloc _⟩
theorem key65 (t : HT) (W : World) : Calls Tryz.prog 65 #[hV t] W fun E w' => E = .returned (.int .i64 t.h.t) ∧ Gr W w' := by
  unfold hV
  go_enter Tryz.func65, Tryz.ntmps65
  go_wp2
  go_ret
  exact ⟨rfl, (Gr.refl W).alloc _⟩
theorem key66 (t : HT) (W : World) : Calls Tryz.prog 66 #[hV t] W fun E w' => E = .returned (.int .i64 t.h.s.r) ∧ Gr W w' := by
  unfold hV
  go_enter Tryz.func66, Tryz.ntmps66
  go_wp2
  go_ret
  exact ⟨rfl, (Gr.refl W).alloc _⟩
/-- Where a hole's edges lie. -/
def At (W : World) (t : HT) : Prop := LiesAt 7 edC W t.ea t.ec t.h.s.es
set_option maxRecDepth 100000 in
theorem start_any (t : HT) (W : World) (h : At W t) : Calls Tryz.prog 68 #[hV t] W fun E w' => E = .returned (.agg #[.int .i64 (Dl.startH t.h).x, .int .i64 (Dl.startH t.h).y]) ∧ Gr W w' := by
  obtain ⟨⟨⟨sk, es, sr⟩, f, tt, pl⟩, ea, ec⟩ := t
  unfold hV Dl.startH
  unfold At at h
  dsimp only at h ⊢
  cases es with
  | nil =>
    clear h
    simp only [List.length_nil]
    go_enter Tryz.func68, Tryz.ntmps68
    go_wp2
    go_returns
    exact ⟨rfl, ((Gr.refl W).alloc _).alloc _⟩
  | cons e l =>
    obtain ⟨n, hn⟩ : ∃ n, (e :: l).length = n := ⟨_, rfl⟩
    have hn0 : (0 : Int) < (n : Int) := by rw [← hn, List.length_cons]; omega
    have hz : ((n : Int) == 0) = false := by simp; omega
    obtain ⟨bo, off, rfl, hcap, hbo, hc⟩ := h.ed (k := 0) (by simp)
    rw [hn] at hcap ⊢
    have k2 : Kp W ((W.alloc (.cells #[.int .i64 sk, .slice (some ⟨bo, off, none⟩) n ec, .int .i64 sr, .int .i64 f, .int .i64 tt, .bool pl] 52)).alloc (.cells #[.int .i64 0, .int .i64 0] 42)) none := ((Kp.refl W none).alloc _).alloc _
    obtain ⟨_, c1, c2, _⟩ := hc _ k2
    simp only [Nat.zero_mul, Nat.add_zero, List.getElem_cons_zero] at c1 c2
    clear hn hc h k2
    go_enter Tryz.func68, Tryz.ntmps68
    go_wp2
    go_returns
    exact ⟨rfl, ((Gr.refl W).alloc _).alloc _⟩
end Go.Proofs.YtljjbdbgedmadaaGreatDoor

namespace Go.Proofs
open Go.Shelf
def Tryz.cmpInt_ren : Go.Shelf.Ren := ⟨fun | 5 => 108 | 7 => 165 | n => n, fun | 22 => 3 | 3 => 3 | 4 => 4 | n => n, fun | n => n⟩
theorem Tryz.cmpInt : Go.Proofs.SlLaysC2.n5 Tryz.prog Tryz.cmpInt_ren := {
  mixed := by kernel_rfl
  f5 := ⟨Tryz.f108.name, by decide, Tryz.func108.trans (congrArg some (by kernel_rfl))⟩
  f7 := ⟨Tryz.f165.name, by decide, Tryz.func165.trans (congrArg some (by kernel_rfl))⟩
  t3 := Tryz.underlying3
  a3 := Tryz.isAgg3
  z3 := Tryz.sizeOf3
  v3 := Tryz.zeroValue3
  t4 := Tryz.underlying4
  a4 := Tryz.isAgg4
  z4 := Tryz.sizeOf4
  v4 := Tryz.zeroValue4
  t22 := Tryz.underlying3
  a22 := Tryz.isAgg3
  z22 := Tryz.sizeOf3
  v22 := Tryz.zeroValue3 }
def Tryz.holeSort_ren : Go.Shelf.Ren := ⟨fun | 20 => 163 | n => n, fun | 24 => 52 | 22 => 30 | 3 => 3 | 25 => 131 | 4 => 4 | 0 => 0 | n => n, fun | n => n⟩
theorem Tryz.holeSort : Go.Proofs.SlLaysF0.n20 Tryz.prog Tryz.holeSort_ren := {
  mixed := by kernel_rfl
  f20 := ⟨Tryz.f163.name, by decide, Tryz.func163.trans (congrArg some (by kernel_rfl))⟩
  t0 := Tryz.underlying0
  a0 := Tryz.isAgg0
  z0 := Tryz.sizeOf0
  v0 := Tryz.zeroValue0
  t3 := Tryz.underlying3
  a3 := Tryz.isAgg3
  z3 := Tryz.sizeOf3
  v3 := Tryz.zeroValue3
  t4 := Tryz.underlying4
  a4 := Tryz.isAgg4
  z4 := Tryz.sizeOf4
  v4 := Tryz.zeroValue4
  t22 := Tryz.underlying30
  a22 := Tryz.isAgg30
  z22 := Tryz.sizeOf30
  v22 := Tryz.zeroValue30
  t25 := Tryz.underlying131
  a25 := Tryz.isAgg131
  z25 := Tryz.sizeOf131
  v25 := Tryz.zeroValue131 }
end Go.Proofs

namespace Go.Proofs.YtljjbdbgedmadaaGreatDoor
open Go.RowKit Go.Sort

theorem Gr.size {W w : World} (h : Gr W w) : W.heap.size ≤ w.heap.size := h.kp.size
theorem Gr.cell {W w : World} (h : Gr W w) {b o : Nat} {v : Value} (hb : b < W.heap.size) (hc : W.cell? ⟨b, o, none⟩ = some v) : w.cell? ⟨b, o, none⟩ = some v := by
  rw [h.kp.below.cell (p := ⟨b, o, none⟩) hb]; exact hc
theorem Gr.more {W w : World} (h : Gr W w) (n : Nat) (os : Array Obj) : Gr W (grow (w.drewN n) os) := h.trans ⟨n, os, rfl⟩
/-- The numbers that are compared, one after the other. -/
def cmpL : List Int → List Int → Int
  | a :: xs, b :: ys => if Lib.compareInt a b = 0 then cmpL xs ys else Lib.compareInt a b
  | _, _ => 0
theorem cmpI_zero {a b : Int} : Lib.compareInt a b = 0 ↔ a = b := by unfold Lib.compareInt; split <;> (try split) <;> omega
theorem cmpI_neg {a b : Int} : Lib.compareInt a b < 0 ↔ a < b := by unfold Lib.compareInt; split <;> (try split) <;> omega
theorem cmpL_lt : ∀ xs ys : List Int, decide (cmpL xs ys < 0) = Dl.lexLt xs ys
  | [], _ => by simp [cmpL, Dl.lexLt]
  | _ :: _, [] => by simp [cmpL, Dl.lexLt]
  | a :: xs, b :: ys => by
    unfold cmpL Dl.lexLt
    by_cases h : a = b
    · rw [if_pos (cmpI_zero.2 h), if_neg (by simpa using h)]; exact cmpL_lt xs ys
    · rw [if_neg (fun e => h (cmpI_zero.1 e)), if_pos h]
      exact decide_eq_decide.2 cmpI_neg
/-- A key's answer, behind whatever is laid and drawn. -/
def KeyIs (f : Nat) (t : HT) (a : Int) (W : World) : Prop := ∀ V, Gr W V → Calls Tryz.prog f #[hV t] V fun E w' => E = .returned (.int .i64 a) ∧ Gr V w'
def KeyIn (f : Nat) (t : HT) (a : Int) (W : World) : Prop := ∀ n os, Calls Tryz.prog f #[hV t] (grow (W.drewN n) os) fun E w' => E = .returned (.int .i64 a) ∧ ∃ q os', w' = grow ((grow (W.drewN n) os).drewN q) os'
theorem KeyIs.at {f : Nat} {t : HT} {a : Int} {W V : World} (h : KeyIs f t a W) (g : Gr W V) : KeyIn f t a V := fun n os => h _ (g.more n os)
set_option maxRecDepth 100000 in
theorem field42_0 (a b : Int) (V : World) : Sem.run Tryz.prog (Instr.field 42 (.agg #[.int .i64 a, .int .i64 b]) 0) V = .ok (.int .i64 a) V := by rfl
set_option maxRecDepth 100000 in
theorem field42_1 (a b : Int) (V : World) : Sem.run Tryz.prog (Instr.field 42 (.agg #[.int .i64 a, .int .i64 b]) 1) V = .ok (.int .i64 b) V := by rfl
theorem mixedT : Tryz.prog.follows .mixedOrders = true := by kernel_rfl

set_option maxRecDepth 100000 in
theorem key67 (t : HT) (W : World) (h : At W t) : Calls Tryz.prog 67 #[hV t] W fun E w' => E = .returned (.int .i64 (Dl.startH t.h).x) ∧ Gr W w' := by
  have hs := fun V (g : Gr W V) => start_any t V (h.keep g.kp)
  clear h
  obtain ⟨p, hp⟩ : ∃ p, Dl.startH t.h = p := ⟨_, rfl⟩
  rw [hp] at hs ⊢
  clear hp
  have HS := Lib.hid hs
  clear hs
  obtain ⟨⟨⟨sk, es, sr⟩, f, tt, pl⟩, ea, ec⟩ := t
  unfold hV at HS ⊢
  dsimp only at HS ⊢
  generalize es.length = n at *
  go_enter Tryz.func67, Tryz.ntmps67
  go_wp2_with fail
  refine (HS.out _ ((Gr.refl W).alloc _)).mono ?_
  rintro E w' ⟨rfl, g⟩
  have HG := Lib.hid (((Gr.refl W).alloc _).trans g)
  clear g
  have hf := field42_0 p.x p.y w'
  go_wp2
  go_ret
  exact ⟨rfl, HG.out⟩
set_option maxRecDepth 100000 in
theorem key69 (t : HT) (W : World) (h : At W t) : Calls Tryz.prog 69 #[hV t] W fun E w' => E = .returned (.int .i64 (Dl.startH t.h).y) ∧ Gr W w' := by
  have hs := fun V (g : Gr W V) => start_any t V (h.keep g.kp)
  clear h
  obtain ⟨p, hp⟩ : ∃ p, Dl.startH t.h = p := ⟨_, rfl⟩
  rw [hp] at hs ⊢
  clear hp
  have HS := Lib.hid hs
  clear hs
  obtain ⟨⟨⟨sk, es, sr⟩, f, tt, pl⟩, ea, ec⟩ := t
  unfold hV at HS ⊢
  dsimp only at HS ⊢
  generalize es.length = n at *
  go_enter Tryz.func69, Tryz.ntmps69
  go_wp2_with fail
  refine (HS.out _ ((Gr.refl W).alloc _)).mono ?_
  rintro E w' ⟨rfl, g⟩
  have HG := Lib.hid (((Gr.refl W).alloc _).trans g)
  clear g
  have hf := field42_1 p.x p.y w'
  go_wp2
  go_ret
  exact ⟨rfl, HG.out⟩
/-- Where the keys lie: the row's place in block KB, the row in block KS. -/
def KeysAt (W : World) (KB KS : Nat) : Prop := KB < W.heap.size ∧ KS < W.heap.size ∧ W.cell? ⟨KB, 0, none⟩ = some (.slice (some ⟨KS, 0, none⟩) 6 6) ∧ W.cell? ⟨KS, 0, none⟩ = some (.func (.func 64) #[] #[]) ∧ W.cell? ⟨KS, 1, none⟩ = some (.func (.func 65) #[] #[]) ∧ W.cell? ⟨KS, 2, none⟩ = some (.func (.func 61) #[] #[]) ∧ W.cell? ⟨KS, 3, none⟩ = some (.func (.func 66) #[] #[]) ∧ W.cell? ⟨KS, 4, none⟩ = some (.func (.func 67) #[] #[]) ∧ W.cell? ⟨KS, 5, none⟩ = some (.func (.func 69) #[] #[])
set_option maxHeartbeats 16000000 in
set_option maxRecDepth 100000 in
theorem by107_keys (x y : HT) (a0 a1 a2 a3 a4 a5 b0 b1 b2 b3 b4 b5 : Int) (KB KS : Nat) (W : World) (hk : KeysAt W KB KS) (x0 : KeyIs 64 x a0 W) (y0 : KeyIs 64 y b0 W) (x1 : KeyIs 65 x a1 W) (y1 : KeyIs 65 y b1 W) (x2 : KeyIs 61 x a2 W) (y2 : KeyIs 61 y b2 W) (x3 : KeyIs 66 x a3 W) (y3 : KeyIs 66 y b3 W) (x4 : KeyIs 67 x a4 W) (y4 : KeyIs 67 y b4 W) (x5 : KeyIs 69 x a5 W) (y5 : KeyIs 69 y b5 W) :
    Calls Tryz.prog 107 #[hV x, hV y, .pointer (some ⟨KB, 0, none⟩)] W fun E w' => E = .returned (.int .i64 (cmpL [a0, a1, a2, a3, a4, a5] [b0, b1, b2, b3, b4, b5])) ∧ Gr W w' := by
  have mixed := mixedT
  have hcmp := fun (p q : Int) (V : World) => AnyG.cmp_Compare_int Tryz.cmpInt p q V
  change ∀ p q V, Calls Tryz.prog 108 _ _ _ at hcmp
  obtain ⟨r, hr⟩ : ∃ r, cmpL [a0, a1, a2, a3, a4, a5] [b0, b1, b2, b3, b4, b5] = r := ⟨_, rfl⟩
  rw [hr]
  have HR := Lib.hid hr
  obtain ⟨hb1, hb2, hc, q0, q1, q2, q3, q4, q5⟩ := hk
  have HX : Hid (x = x) := rfl
  obtain ⟨⟨⟨xk, xes, xr⟩, xf, xt, xp⟩, xa, xc⟩ := x
  obtain ⟨⟨⟨yk, yes, yr⟩, yf, yt, yp⟩, ya, yc⟩ := y
  have G2 : Hid (Gr W ((W.alloc (.cells #[.int .i64 xk, .slice xa xes.length xc, .int .i64 xr, .int .i64 xf, .int .i64 xt, .bool xp] 52)).alloc (.cells #[.int .i64 yk, .slice ya yes.length yc, .int .i64 yr, .int .i64 yf, .int .i64 yt, .bool yp] 52))) := Lib.hid (((Gr.refl W).alloc _).alloc _)
  have HBX : Hid ((((W.alloc (.cells #[.int .i64 xk, .slice xa xes.length xc, .int .i64 xr, .int .i64 xf, .int .i64 xt, .bool xp] 52)).alloc (.cells #[.int .i64 yk, .slice ya yes.length yc, .int .i64 yr, .int .i64 yf, .int .i64 yt, .bool yp] 52))).heap[W.heap.size]? = some (.cells #[.int .i64 xk, .slice xa xes.length xc, .int .i64 xr, .int .i64 xf, .int .i64 xt, .bool xp] 52 (0, 0))) := Lib.hid (blk (heap_alloc_new W _) ((Kp.refl _ none).alloc _))
  have HBY : Hid ((((W.alloc (.cells #[.int .i64 xk, .slice xa xes.length xc, .int .i64 xr, .int .i64 xf, .int .i64 xt, .bool xp] 52)).alloc (.cells #[.int .i64 yk, .slice ya yes.length yc, .int .i64 yr, .int .i64 yf, .int .i64 yt, .bool yp] 52))).heap[W.heap.size + 1]? = some (.cells #[.int .i64 yk, .slice ya yes.length yc, .int .i64 yr, .int .i64 yf, .int .i64 yt, .bool yp] 52 (0, 0))) := Lib.hid (by have h := heap_alloc_new (W.alloc (.cells #[.int .i64 xk, .slice xa xes.length xc, .int .i64 xr, .int .i64 xf, .int .i64 xt, .bool xp] 52)) (.cells #[.int .i64 yk, .slice ya yes.length yc, .int .i64 yr, .int .i64 yf, .int .i64 yt, .bool yp] 52); simpa using h)
  have CQ : Hid (∀ V, Gr W V → V.cell? ⟨KB, 0, none⟩ = some (.slice (some ⟨KS, 0, none⟩) 6 6) ∧ V.cell? ⟨KS, 0, none⟩ = some (.func (.func 64) #[] #[]) ∧ V.cell? ⟨KS, 1, none⟩ = some (.func (.func 65) #[] #[]) ∧ V.cell? ⟨KS, 2, none⟩ = some (.func (.func 61) #[] #[]) ∧ V.cell? ⟨KS, 3, none⟩ = some (.func (.func 66) #[] #[]) ∧ V.cell? ⟨KS, 4, none⟩ = some (.func (.func 67) #[] #[]) ∧ V.cell? ⟨KS, 5, none⟩ = some (.func (.func 69) #[] #[])) := Lib.hid fun V g => ⟨g.cell hb1 hc, g.cell hb2 q0, g.cell hb2 q1, g.cell hb2 q2, g.cell hb2 q3, g.cell hb2 q4, g.cell hb2 q5⟩
  unfold hV at *
  dsimp only at *
  obtain ⟨xn, hxn⟩ : ∃ n, xes.length = n := ⟨_, rfl⟩
  obtain ⟨yn, hyn⟩ : ∃ n, yes.length = n := ⟨_, rfl⟩
  rw [hxn, hyn] at G2 HBX HBY ⊢
  have HXN := Lib.hid hxn
  have HYN := Lib.hid hyn
  have X0 := Lib.hid x0
  have Y0 := Lib.hid y0
  have X1 := Lib.hid x1
  have Y1 := Lib.hid y1
  have X2 := Lib.hid x2
  have Y2 := Lib.hid y2
  have X3 := Lib.hid x3
  have Y3 := Lib.hid y3
  have X4 := Lib.hid x4
  have Y4 := Lib.hid y4
  have X5 := Lib.hid x5
  have Y5 := Lib.hid y5
  clear hxn hyn hr hb1 hb2 hc q0 q1 q2 q3 q4 q5 HX x0 y0 x1 y1 x2 y2 x3 y3 x4 y4 x5 y5
  go_enter Tryz.func107, Tryz.ntmps107
  go_upto_region 1 with fail
  generalize (W.alloc (.cells #[.int .i64 xk, .slice xa xn xc, .int .i64 xr, .int .i64 xf, .int .i64 xt, .bool xp] 52)).alloc (.cells #[.int .i64 yk, .slice ya yn yc, .int .i64 yr, .int .i64 yf, .int .i64 yt, .bool yp] 52) = V0 at *
  have c0 := (CQ.out _ G2.out).1
  go_wp2_with fail
  clear c0
  refine wp_loop_rounds 7 ?_
  rw [rounds_succ]
  have c0 := (CQ.out _ G2.out).2.1
  go_upto_region 4 with fail
  clear c0
  have kx := X0.out.at G2.out
  have ky := Y0.out.at G2.out
  unfold KeyIn at kx ky
  unfold hV at kx ky
  simp only [HXN.out] at kx
  simp only [HYN.out] at ky
  have fX0 := fun n os => cell_grown (n := n) (os := os) (lt_of_block HBX.out) (hcell HBX.out 0 rfl)
  have fX1 := fun n os => cell_grown (n := n) (os := os) (lt_of_block HBX.out) (hcell HBX.out 1 rfl)
  have fX2 := fun n os => cell_grown (n := n) (os := os) (lt_of_block HBX.out) (hcell HBX.out 2 rfl)
  have fX3 := fun n os => cell_grown (n := n) (os := os) (lt_of_block HBX.out) (hcell HBX.out 3 rfl)
  have fX4 := fun n os => cell_grown (n := n) (os := os) (lt_of_block HBX.out) (hcell HBX.out 4 rfl)
  have fX5 := fun n os => cell_grown (n := n) (os := os) (lt_of_block HBX.out) (hcell HBX.out 5 rfl)
  have fY0 := fun n os => cell_grown (n := n) (os := os) (lt_of_block HBY.out) (hcell HBY.out 0 rfl)
  have fY1 := fun n os => cell_grown (n := n) (os := os) (lt_of_block HBY.out) (hcell HBY.out 1 rfl)
  have fY2 := fun n os => cell_grown (n := n) (os := os) (lt_of_block HBY.out) (hcell HBY.out 2 rfl)
  have fY3 := fun n os => cell_grown (n := n) (os := os) (lt_of_block HBY.out) (hcell HBY.out 3 rfl)
  have fY4 := fun n os => cell_grown (n := n) (os := os) (lt_of_block HBY.out) (hcell HBY.out 4 rfl)
  have fY5 := fun n os => cell_grown (n := n) (os := os) (lt_of_block HBY.out) (hcell HBY.out 5 rfl)
  obtain ⟨cc, hcc⟩ : ∃ c, Lib.compareInt a0 b0 = c := ⟨_, rfl⟩
  have hc9 := fun V => hcmp a0 b0 V
  rw [hcc] at hc9
  have HCC := Lib.hid hcc
  clear hcc
  go_quiet_grown (first | (go_at_call 64; refine Calls.grown_of (kx _ _)) | (go_at_call 64; refine Calls.grown_of (ky _ _)) | (go_at_call 108; refine (hc9 _).mono ?_; rintro e w2 ⟨rfl, rfl⟩; exact ⟨rfl, _, rfl⟩))
  clear kx ky hc9 fX0 fX1 fX2 fX3 fX4 fX5 fY0 fY1 fY2 fY3 fY4 fY5
  have G3 := Lib.hid (G2.out.more nq osq)
  have HX3 := Lib.hid (blk HBX.out ((Gr.refl _).more nq osq).kp)
  have HY3 := Lib.hid (blk HBY.out ((Gr.refl _).more nq osq).kp)
  clear G2 HBX HBY
  have G2 := G3
  have HBX := HX3
  have HBY := HY3
  clear G3 HX3 HY3
  generalize grow (V0.drewN nq) osq = V1 at *
  by_cases hz : cc = 0
  · have e0 : Lib.compareInt a0 b0 = 0 := HCC.out.trans hz
    subst hz
    clear HCC
    go_wp2_with fail
    rw [rounds_succ]
    have c0 := (CQ.out _ G2.out).2.2.1
    go_upto_region 4 with fail
    clear c0
    have kx := X1.out.at G2.out
    have ky := Y1.out.at G2.out
    unfold KeyIn at kx ky
    unfold hV at kx ky
    simp only [HXN.out] at kx
    simp only [HYN.out] at ky
    have fX0 := fun n os => cell_grown (n := n) (os := os) (lt_of_block HBX.out) (hcell HBX.out 0 rfl)
    have fX1 := fun n os => cell_grown (n := n) (os := os) (lt_of_block HBX.out) (hcell HBX.out 1 rfl)
    have fX2 := fun n os => cell_grown (n := n) (os := os) (lt_of_block HBX.out) (hcell HBX.out 2 rfl)
    have fX3 := fun n os => cell_grown (n := n) (os := os) (lt_of_block HBX.out) (hcell HBX.out 3 rfl)
    have fX4 := fun n os => cell_grown (n := n) (os := os) (lt_of_block HBX.out) (hcell HBX.out 4 rfl)
    have fX5 := fun n os => cell_grown (n := n) (os := os) (lt_of_block HBX.out) (hcell HBX.out 5 rfl)
    have fY0 := fun n os => cell_grown (n := n) (os := os) (lt_of_block HBY.out) (hcell HBY.out 0 rfl)
    have fY1 := fun n os => cell_grown (n := n) (os := os) (lt_of_block HBY.out) (hcell HBY.out 1 rfl)
    have fY2 := fun n os => cell_grown (n := n) (os := os) (lt_of_block HBY.out) (hcell HBY.out 2 rfl)
    have fY3 := fun n os => cell_grown (n := n) (os := os) (lt_of_block HBY.out) (hcell HBY.out 3 rfl)
    have fY4 := fun n os => cell_grown (n := n) (os := os) (lt_of_block HBY.out) (hcell HBY.out 4 rfl)
    have fY5 := fun n os => cell_grown (n := n) (os := os) (lt_of_block HBY.out) (hcell HBY.out 5 rfl)
    obtain ⟨cc, hcc⟩ : ∃ c, Lib.compareInt a1 b1 = c := ⟨_, rfl⟩
    have hc9 := fun V => hcmp a1 b1 V
    rw [hcc] at hc9
    have HCC := Lib.hid hcc
    clear hcc
    go_quiet_grown (first | (go_at_call 65; refine Calls.grown_of (kx _ _)) | (go_at_call 65; refine Calls.grown_of (ky _ _)) | (go_at_call 108; refine (hc9 _).mono ?_; rintro e w2 ⟨rfl, rfl⟩; exact ⟨rfl, _, rfl⟩))
    clear kx ky hc9 fX0 fX1 fX2 fX3 fX4 fX5 fY0 fY1 fY2 fY3 fY4 fY5
    have G3 := Lib.hid (G2.out.more nq osq)
    have HX3 := Lib.hid (blk HBX.out ((Gr.refl _).more nq osq).kp)
    have HY3 := Lib.hid (blk HBY.out ((Gr.refl _).more nq osq).kp)
    clear G2 HBX HBY
    have G2 := G3
    have HBX := HX3
    have HBY := HY3
    clear G3 HX3 HY3
    generalize grow (V1.drewN nq) osq = V2 at *
    by_cases hz : cc = 0
    · have e1 : Lib.compareInt a1 b1 = 0 := HCC.out.trans hz
      subst hz
      clear HCC
      go_wp2_with fail
      rw [rounds_succ]
      have c0 := (CQ.out _ G2.out).2.2.2.1
      go_upto_region 4 with fail
      clear c0
      have kx := X2.out.at G2.out
      have ky := Y2.out.at G2.out
      unfold KeyIn at kx ky
      unfold hV at kx ky
      simp only [HXN.out] at kx
      simp only [HYN.out] at ky
      have fX0 := fun n os => cell_grown (n := n) (os := os) (lt_of_block HBX.out) (hcell HBX.out 0 rfl)
      have fX1 := fun n os => cell_grown (n := n) (os := os) (lt_of_block HBX.out) (hcell HBX.out 1 rfl)
      have fX2 := fun n os => cell_grown (n := n) (os := os) (lt_of_block HBX.out) (hcell HBX.out 2 rfl)
      have fX3 := fun n os => cell_grown (n := n) (os := os) (lt_of_block HBX.out) (hcell HBX.out 3 rfl)
      have fX4 := fun n os => cell_grown (n := n) (os := os) (lt_of_block HBX.out) (hcell HBX.out 4 rfl)
      have fX5 := fun n os => cell_grown (n := n) (os := os) (lt_of_block HBX.out) (hcell HBX.out 5 rfl)
      have fY0 := fun n os => cell_grown (n := n) (os := os) (lt_of_block HBY.out) (hcell HBY.out 0 rfl)
      have fY1 := fun n os => cell_grown (n := n) (os := os) (lt_of_block HBY.out) (hcell HBY.out 1 rfl)
      have fY2 := fun n os => cell_grown (n := n) (os := os) (lt_of_block HBY.out) (hcell HBY.out 2 rfl)
      have fY3 := fun n os => cell_grown (n := n) (os := os) (lt_of_block HBY.out) (hcell HBY.out 3 rfl)
      have fY4 := fun n os => cell_grown (n := n) (os := os) (lt_of_block HBY.out) (hcell HBY.out 4 rfl)
      have fY5 := fun n os => cell_grown (n := n) (os := os) (lt_of_block HBY.out) (hcell HBY.out 5 rfl)
      obtain ⟨cc, hcc⟩ : ∃ c, Lib.compareInt a2 b2 = c := ⟨_, rfl⟩
      have hc9 := fun V => hcmp a2 b2 V
      rw [hcc] at hc9
      have HCC := Lib.hid hcc
      clear hcc
      go_quiet_grown (first | (go_at_call 61; refine Calls.grown_of (kx _ _)) | (go_at_call 61; refine Calls.grown_of (ky _ _)) | (go_at_call 108; refine (hc9 _).mono ?_; rintro e w2 ⟨rfl, rfl⟩; exact ⟨rfl, _, rfl⟩))
      clear kx ky hc9 fX0 fX1 fX2 fX3 fX4 fX5 fY0 fY1 fY2 fY3 fY4 fY5
      have G3 := Lib.hid (G2.out.more nq osq)
      have HX3 := Lib.hid (blk HBX.out ((Gr.refl _).more nq osq).kp)
      have HY3 := Lib.hid (blk HBY.out ((Gr.refl _).more nq osq).kp)
      clear G2 HBX HBY
      have G2 := G3
      have HBX := HX3
      have HBY := HY3
      clear G3 HX3 HY3
      generalize grow (V2.drewN nq) osq = V3 at *
      by_cases hz : cc = 0
      · have e2 : Lib.compareInt a2 b2 = 0 := HCC.out.trans hz
        subst hz
        clear HCC
        go_wp2_with fail
        rw [rounds_succ]
        have c0 := (CQ.out _ G2.out).2.2.2.2.1
        go_upto_region 4 with fail
        clear c0
        have kx := X3.out.at G2.out
        have ky := Y3.out.at G2.out
        unfold KeyIn at kx ky
        unfold hV at kx ky
        simp only [HXN.out] at kx
        simp only [HYN.out] at ky
        have fX0 := fun n os => cell_grown (n := n) (os := os) (lt_of_block HBX.out) (hcell HBX.out 0 rfl)
        have fX1 := fun n os => cell_grown (n := n) (os := os) (lt_of_block HBX.out) (hcell HBX.out 1 rfl)
        have fX2 := fun n os => cell_grown (n := n) (os := os) (lt_of_block HBX.out) (hcell HBX.out 2 rfl)
        have fX3 := fun n os => cell_grown (n := n) (os := os) (lt_of_block HBX.out) (hcell HBX.out 3 rfl)
        have fX4 := fun n os => cell_grown (n := n) (os := os) (lt_of_block HBX.out) (hcell HBX.out 4 rfl)
        have fX5 := fun n os => cell_grown (n := n) (os := os) (lt_of_block HBX.out) (hcell HBX.out 5 rfl)
        have fY0 := fun n os => cell_grown (n := n) (os := os) (lt_of_block HBY.out) (hcell HBY.out 0 rfl)
        have fY1 := fun n os => cell_grown (n := n) (os := os) (lt_of_block HBY.out) (hcell HBY.out 1 rfl)
        have fY2 := fun n os => cell_grown (n := n) (os := os) (lt_of_block HBY.out) (hcell HBY.out 2 rfl)
        have fY3 := fun n os => cell_grown (n := n) (os := os) (lt_of_block HBY.out) (hcell HBY.out 3 rfl)
        have fY4 := fun n os => cell_grown (n := n) (os := os) (lt_of_block HBY.out) (hcell HBY.out 4 rfl)
        have fY5 := fun n os => cell_grown (n := n) (os := os) (lt_of_block HBY.out) (hcell HBY.out 5 rfl)
        obtain ⟨cc, hcc⟩ : ∃ c, Lib.compareInt a3 b3 = c := ⟨_, rfl⟩
        have hc9 := fun V => hcmp a3 b3 V
        rw [hcc] at hc9
        have HCC := Lib.hid hcc
        clear hcc
        go_quiet_grown (first | (go_at_call 66; refine Calls.grown_of (kx _ _)) | (go_at_call 66; refine Calls.grown_of (ky _ _)) | (go_at_call 108; refine (hc9 _).mono ?_; rintro e w2 ⟨rfl, rfl⟩; exact ⟨rfl, _, rfl⟩))
        clear kx ky hc9 fX0 fX1 fX2 fX3 fX4 fX5 fY0 fY1 fY2 fY3 fY4 fY5
        have G3 := Lib.hid (G2.out.more nq osq)
        have HX3 := Lib.hid (blk HBX.out ((Gr.refl _).more nq osq).kp)
        have HY3 := Lib.hid (blk HBY.out ((Gr.refl _).more nq osq).kp)
        clear G2 HBX HBY
        have G2 := G3
        have HBX := HX3
        have HBY := HY3
        clear G3 HX3 HY3
        generalize grow (V3.drewN nq) osq = V4 at *
        by_cases hz : cc = 0
        · have e3 : Lib.compareInt a3 b3 = 0 := HCC.out.trans hz
          subst hz
          clear HCC
          go_wp2_with fail
          rw [rounds_succ]
          have c0 := (CQ.out _ G2.out).2.2.2.2.2.1
          go_upto_region 4 with fail
          clear c0
          have kx := X4.out.at G2.out
          have ky := Y4.out.at G2.out
          unfold KeyIn at kx ky
          unfold hV at kx ky
          simp only [HXN.out] at kx
          simp only [HYN.out] at ky
          have fX0 := fun n os => cell_grown (n := n) (os := os) (lt_of_block HBX.out) (hcell HBX.out 0 rfl)
          have fX1 := fun n os => cell_grown (n := n) (os := os) (lt_of_block HBX.out) (hcell HBX.out 1 rfl)
          have fX2 := fun n os => cell_grown (n := n) (os := os) (lt_of_block HBX.out) (hcell HBX.out 2 rfl)
          have fX3 := fun n os => cell_grown (n := n) (os := os) (lt_of_block HBX.out) (hcell HBX.out 3 rfl)
          have fX4 := fun n os => cell_grown (n := n) (os := os) (lt_of_block HBX.out) (hcell HBX.out 4 rfl)
          have fX5 := fun n os => cell_grown (n := n) (os := os) (lt_of_block HBX.out) (hcell HBX.out 5 rfl)
          have fY0 := fun n os => cell_grown (n := n) (os := os) (lt_of_block HBY.out) (hcell HBY.out 0 rfl)
          have fY1 := fun n os => cell_grown (n := n) (os := os) (lt_of_block HBY.out) (hcell HBY.out 1 rfl)
          have fY2 := fun n os => cell_grown (n := n) (os := os) (lt_of_block HBY.out) (hcell HBY.out 2 rfl)
          have fY3 := fun n os => cell_grown (n := n) (os := os) (lt_of_block HBY.out) (hcell HBY.out 3 rfl)
          have fY4 := fun n os => cell_grown (n := n) (os := os) (lt_of_block HBY.out) (hcell HBY.out 4 rfl)
          have fY5 := fun n os => cell_grown (n := n) (os := os) (lt_of_block HBY.out) (hcell HBY.out 5 rfl)
          obtain ⟨cc, hcc⟩ : ∃ c, Lib.compareInt a4 b4 = c := ⟨_, rfl⟩
          have hc9 := fun V => hcmp a4 b4 V
          rw [hcc] at hc9
          have HCC := Lib.hid hcc
          clear hcc
          go_quiet_grown (first | (go_at_call 67; refine Calls.grown_of (kx _ _)) | (go_at_call 67; refine Calls.grown_of (ky _ _)) | (go_at_call 108; refine (hc9 _).mono ?_; rintro e w2 ⟨rfl, rfl⟩; exact ⟨rfl, _, rfl⟩))
          clear kx ky hc9 fX0 fX1 fX2 fX3 fX4 fX5 fY0 fY1 fY2 fY3 fY4 fY5
          have G3 := Lib.hid (G2.out.more nq osq)
          have HX3 := Lib.hid (blk HBX.out ((Gr.refl _).more nq osq).kp)
          have HY3 := Lib.hid (blk HBY.out ((Gr.refl _).more nq osq).kp)
          clear G2 HBX HBY
          have G2 := G3
          have HBX := HX3
          have HBY := HY3
          clear G3 HX3 HY3
          generalize grow (V4.drewN nq) osq = V5 at *
          by_cases hz : cc = 0
          · have e4 : Lib.compareInt a4 b4 = 0 := HCC.out.trans hz
            subst hz
            clear HCC
            go_wp2_with fail
            rw [rounds_succ]
            have c0 := (CQ.out _ G2.out).2.2.2.2.2.2
            go_upto_region 4 with fail
            clear c0
            have kx := X5.out.at G2.out
            have ky := Y5.out.at G2.out
            unfold KeyIn at kx ky
            unfold hV at kx ky
            simp only [HXN.out] at kx
            simp only [HYN.out] at ky
            have fX0 := fun n os => cell_grown (n := n) (os := os) (lt_of_block HBX.out) (hcell HBX.out 0 rfl)
            have fX1 := fun n os => cell_grown (n := n) (os := os) (lt_of_block HBX.out) (hcell HBX.out 1 rfl)
            have fX2 := fun n os => cell_grown (n := n) (os := os) (lt_of_block HBX.out) (hcell HBX.out 2 rfl)
            have fX3 := fun n os => cell_grown (n := n) (os := os) (lt_of_block HBX.out) (hcell HBX.out 3 rfl)
            have fX4 := fun n os => cell_grown (n := n) (os := os) (lt_of_block HBX.out) (hcell HBX.out 4 rfl)
            have fX5 := fun n os => cell_grown (n := n) (os := os) (lt_of_block HBX.out) (hcell HBX.out 5 rfl)
            have fY0 := fun n os => cell_grown (n := n) (os := os) (lt_of_block HBY.out) (hcell HBY.out 0 rfl)
            have fY1 := fun n os => cell_grown (n := n) (os := os) (lt_of_block HBY.out) (hcell HBY.out 1 rfl)
            have fY2 := fun n os => cell_grown (n := n) (os := os) (lt_of_block HBY.out) (hcell HBY.out 2 rfl)
            have fY3 := fun n os => cell_grown (n := n) (os := os) (lt_of_block HBY.out) (hcell HBY.out 3 rfl)
            have fY4 := fun n os => cell_grown (n := n) (os := os) (lt_of_block HBY.out) (hcell HBY.out 4 rfl)
            have fY5 := fun n os => cell_grown (n := n) (os := os) (lt_of_block HBY.out) (hcell HBY.out 5 rfl)
            obtain ⟨cc, hcc⟩ : ∃ c, Lib.compareInt a5 b5 = c := ⟨_, rfl⟩
            have hc9 := fun V => hcmp a5 b5 V
            rw [hcc] at hc9
            have HCC := Lib.hid hcc
            clear hcc
            go_quiet_grown (first | (go_at_call 69; refine Calls.grown_of (kx _ _)) | (go_at_call 69; refine Calls.grown_of (ky _ _)) | (go_at_call 108; refine (hc9 _).mono ?_; rintro e w2 ⟨rfl, rfl⟩; exact ⟨rfl, _, rfl⟩))
            clear kx ky hc9 fX0 fX1 fX2 fX3 fX4 fX5 fY0 fY1 fY2 fY3 fY4 fY5
            have G3 := Lib.hid (G2.out.more nq osq)
            have HX3 := Lib.hid (blk HBX.out ((Gr.refl _).more nq osq).kp)
            have HY3 := Lib.hid (blk HBY.out ((Gr.refl _).more nq osq).kp)
            clear G2 HBX HBY
            have G2 := G3
            have HBX := HX3
            have HBY := HY3
            clear G3 HX3 HY3
            generalize grow (V5.drewN nq) osq = V6 at *
            by_cases hz : cc = 0
            · have e5 : Lib.compareInt a5 b5 = 0 := HCC.out.trans hz
              subst hz
              clear HCC
              go_wp2_with fail
              rw [rounds_succ]
              go_wp2_with fail
              go_ret
              exact ⟨by rw [← HR.out]; simp [cmpL, e0, e1, e2, e3, e4, e5], G2.out⟩
            · have hz9 : (cc != 0) = true := by simpa using hz
              go_wp2_with fail
              go_ret
              exact ⟨by rw [← HR.out]; simp [cmpL, e0, e1, e2, e3, e4, HCC.out, hz], G2.out⟩
          · have hz9 : (cc != 0) = true := by simpa using hz
            go_wp2_with fail
            go_ret
            exact ⟨by rw [← HR.out]; simp [cmpL, e0, e1, e2, e3, HCC.out, hz], G2.out⟩
        · have hz9 : (cc != 0) = true := by simpa using hz
          go_wp2_with fail
          go_ret
          exact ⟨by rw [← HR.out]; simp [cmpL, e0, e1, e2, HCC.out, hz], G2.out⟩
      · have hz9 : (cc != 0) = true := by simpa using hz
        go_wp2_with fail
        go_ret
        exact ⟨by rw [← HR.out]; simp [cmpL, e0, e1, HCC.out, hz], G2.out⟩
    · have hz9 : (cc != 0) = true := by simpa using hz
      go_wp2_with fail
      go_ret
      exact ⟨by rw [← HR.out]; simp [cmpL, e0, HCC.out, hz], G2.out⟩
  · have hz9 : (cc != 0) = true := by simpa using hz
    go_wp2_with fail
    go_ret
    exact ⟨by rw [← HR.out]; simp [cmpL, HCC.out, hz], G2.out⟩
theorem by107 (x y : HT) (KB KS : Nat) (W : World) (hk : KeysAt W KB KS) (hx : At W x) (hy : At W y) :
    Calls Tryz.prog 107 #[hV x, hV y, .pointer (some ⟨KB, 0, none⟩)] W fun E w' => E = .returned (.int .i64 (cmpL (Dl.keyH x.h) (Dl.keyH y.h))) ∧ Gr W w' :=
  by107_keys x y _ _ _ _ _ _ _ _ _ _ _ _ KB KS W hk (fun V _ => key64 x V) (fun V _ => key64 y V) (fun V _ => key65 x V) (fun V _ => key65 y V) (fun V _ => key61 x V) (fun V _ => key61 y V) (fun V _ => key66 x V) (fun V _ => key66 y V) (fun V g => key67 x V (hx.keep g.kp)) (fun V g => key67 y V (hy.keep g.kp)) (fun V g => key69 x V (hx.keep g.kp)) (fun V g => key69 y V (hy.keep g.kp))
end Go.Proofs.YtljjbdbgedmadaaGreatDoor
