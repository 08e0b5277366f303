/- Edges, shapes and holes moved by the motion that is zero: the same, on rows of their own. Conditions: at most 1000 edges a hole, at most 1000 holes; coordinates of 64 bits. -/
import Derived.Test.YtljjbdbgedmadaaGreatDoorSh
import Derived.Test.YtljjbdbgedmadaaGreatDoorMy
import Derived.Test.YtljjbdbgedmadaaGreatDoorMk
import Derived.Test.YtljjbdbgedmadaaGreatDoorQa
import Derived.Deep.CutBlock
import Derived.Deep.CutRange
import Derived.Test.YtljjbdbgedmadaaGreatDoorCk
set_option maxRecDepth 100000
set_option maxHeartbeats 16000000
namespace Go.Proofs.YtljjbdbgedmadaaGreatDoor
open Go.RowKit
def Fits (x : Int) : Prop := wrap64 x = x
def FitsE (e : Pl.Ed) : Prop := Fits e.a.x ∧ Fits e.a.y ∧ Fits e.b.x ∧ Fits e.b.y ∧ Fits e.c.x ∧ Fits e.c.y
def ZAp (x y : Int) (V : World) : Prop := Calls Tryz.prog 60 #[.agg #[I6 0, I6 0, I6 0, .bool false], .agg #[I6 x, I6 y]] V fun E w' => E = .returned (.agg #[I6 x, I6 y]) ∧ Kp V w' none
theorem zadd (x y : Int) (w : World) (h1 : Fits x) (h2 : Fits y) : Calls Tryz.prog 105 #[.agg #[I6 x, I6 y], .agg #[I6 0, I6 0]] w fun E w' => E = .returned (.agg #[I6 x, I6 y]) ∧ w' = ((w.alloc (.cells #[I6 x, I6 y] 42)).alloc (.cells #[I6 0, I6 0] 42)).alloc (.cells #[I6 x, I6 y] 42) := by
 have n5 : wrap64 x = x := h1
 have n6 : wrap64 y = y := h2
 have n7 : wrap64 (x + 0) = x := by rw [Int.add_zero]; exact h1
 have n8 : wrap64 (y + 0) = y := by rw [Int.add_zero]; exact h2
 clear h1 h2
 go_enter Tryz.func105, Tryz.ntmps105
 go_wp2
 go_returns
 exact ⟨rfl, rfl⟩
theorem zap (x y : Int) (w : World) (h1 : Fits x) (h2 : Fits y) : ZAp x y w := by
 unfold ZAp; have H1 := oh h1; have H2 := oh h2
 have hc := turns_any 0 0 0 false
 rw [show (0 : Int) % 4 = 0 from rfl] at hc; clear h1 h2
 go_enter Tryz.func60, Tryz.ntmps60
 go_wp2_with (go_at_call 58; refine (hc _).mono ?_; rintro e w1 ⟨rfl, rfl⟩)
 refine wp_loop_rounds 1 ?_
 rw [rounds_succ]; go_wp2_with fail
 refine (zadd x y _ H1.out H2.out).mono ?_
 rintro e w2 ⟨rfl, rfl⟩; go_wp2_with fail
 go_returns
 exact ⟨rfl, by repeat first | exact Kp.refl _ _ | refine Kp.alloc ?_ _⟩
theorem zmove_1 (ax ay bx bY cx cy : Int) (fb : Bool) (w : World) (hof : ∀ V, Calls Tryz.prog 104 #[.agg #[I6 1, I6 ax, I6 ay, I6 bx, I6 bY, I6 cx, I6 cy]] V fun E w' => E = .returned (.tuple #[.agg #[.func (.func 191) #[] #[], .func (.func 192) #[] #[], .func (.func 193) #[] #[], I6 1], .bool fb]) ∧ Kp V w' none)
  (ha : ∀ V, ZAp ax ay V) (hb : ∀ V, ZAp bx bY V) (hc : ∀ V, ZAp cx cy V) :
  Calls Tryz.prog 57 #[.agg #[I6 1, I6 ax, I6 ay, I6 bx, I6 bY, I6 cx, I6 cy], .agg #[I6 0, I6 0, I6 0, .bool false]] w fun E w' => E = .returned (.agg #[I6 1, I6 ax, I6 ay, I6 bx, I6 bY, I6 cx, I6 cy]) ∧ Kp w w' none := by
 have HOF := oh hof; have HA := oh ha; have HB := oh hb; have HC := oh hc; unfold ZAp at HA HB HC; clear hof ha hb hc
 go_enter Tryz.func57, Tryz.ntmps57
 go_wp2_with fail
 have HE0 : Hid ((((w.alloc (.cells #[I6 1, I6 ax, I6 ay, I6 bx, I6 bY, I6 cx, I6 cy] 123)).alloc (.cells #[I6 0, I6 0, I6 0, .bool false] 44)).alloc (.cells #[I6 0, I6 0, I6 0, I6 0, I6 0, I6 0, I6 0] 123)).heap[w.heap.size]? = some (.cells #[I6 1, I6 ax, I6 ay, I6 bx, I6 bY, I6 cx, I6 cy] 123 (0, 0))) := oh (blk (heap_alloc_new w _) (((Kp.refl _ none).alloc _).alloc _))
 have HM0 : Hid ((((w.alloc (.cells #[I6 1, I6 ax, I6 ay, I6 bx, I6 bY, I6 cx, I6 cy] 123)).alloc (.cells #[I6 0, I6 0, I6 0, .bool false] 44)).alloc (.cells #[I6 0, I6 0, I6 0, I6 0, I6 0, I6 0, I6 0] 123)).heap[w.heap.size + 1]? = some (.cells #[I6 0, I6 0, I6 0, .bool false] 44 (0, 0))) := oh (blk (w := (w.alloc (.cells #[I6 1, I6 ax, I6 ay, I6 bx, I6 bY, I6 cx, I6 cy] 123)).alloc (.cells #[I6 0, I6 0, I6 0, .bool false] 44)) (by have h := heap_alloc_new (w.alloc (.cells #[I6 1, I6 ax, I6 ay, I6 bx, I6 bY, I6 cx, I6 cy] 123)) (.cells #[I6 0, I6 0, I6 0, .bool false] 44); simpa using h) ((Kp.refl _ none).alloc _))
 have HR0 : Hid ((((w.alloc (.cells #[I6 1, I6 ax, I6 ay, I6 bx, I6 bY, I6 cx, I6 cy] 123)).alloc (.cells #[I6 0, I6 0, I6 0, .bool false] 44)).alloc (.cells #[I6 0, I6 0, I6 0, I6 0, I6 0, I6 0, I6 0] 123)).heap[w.heap.size + 1 + 1]? = some (.cells #[I6 0, I6 0, I6 0, I6 0, I6 0, I6 0, I6 0] 123 (0, 0))) := oh (by have h := heap_alloc_new ((w.alloc (.cells #[I6 1, I6 ax, I6 ay, I6 bx, I6 bY, I6 cx, I6 cy] 123)).alloc (.cells #[I6 0, I6 0, I6 0, .bool false] 44)) (.cells #[I6 0, I6 0, I6 0, I6 0, I6 0, I6 0, I6 0] 123); simpa using h)
 have KA0 : Hid (Kp w (((w.alloc (.cells #[I6 1, I6 ax, I6 ay, I6 bx, I6 bY, I6 cx, I6 cy] 123)).alloc (.cells #[I6 0, I6 0, I6 0, .bool false] 44)).alloc (.cells #[I6 0, I6 0, I6 0, I6 0, I6 0, I6 0, I6 0] 123)) none) := oh ((((Kp.refl w none).alloc _).alloc _).alloc _)
 refine (HOF.out _).mono ?_
 rintro E w1 ⟨rfl, k1⟩; have KA1 := oh (KA0.out.trans k1); have HE1 := oh (blk HE0.out k1); have HM1 := oh (blk HM0.out k1); have HR1 := oh (blk HR0.out k1); clear k1 HE0 HM0 HR0 KA0
 have kf : Kp w1 (w1.alloc (.cells #[.func (.func 191) #[] #[], .func (.func 192) #[] #[], .func (.func 193) #[] #[], I6 1] 201)) none := (Kp.refl w1 none).alloc _
 have m3 := hcell (blk HM1.out kf) 3 rfl
 have e0 := hcell (blk HE1.out kf) 0 rfl
 have HFB := hcell (heap_alloc_new w1 (.cells #[.func (.func 191) #[] #[], .func (.func 192) #[] #[], .func (.func 193) #[] #[], I6 1] 201)) 3 rfl
 go_upto_region 4 with fail
 have HE2 := oh (blk HE1.out kf); have HM2 := oh (blk HM1.out kf); have HR2 := oh (blk HR1.out kf); have KA2 := oh (KA1.out.trans kf); clear kf m3 e0 HFB HE1 HM1 HR1 KA1
 generalize w1.alloc (.cells #[.func (.func 191) #[] #[], .func (.func 192) #[] #[], .func (.func 193) #[] #[], I6 1] 201) = w2 at *
 have e0 := hcell HE2.out 0 rfl
 go_upto_region 6 with fail
 clear e0; have HE := HE2; have HM := HM2; have HR := HR2; have KA := KA2; clear HE2 HM2 HR2 KA2
 have hw4 : ∃ w4, w4 = w2 := ⟨_, rfl⟩
 obtain ⟨w4, rfl⟩ := hw4
 have HE_ := oh (blk HE.out (Kp.refl w4 none).drew)
 have HM_ := oh (blk HM.out (Kp.refl w4 none).drew)
 have HR_ := oh (blk HR.out (Kp.refl w4 none).drew)
 have KA_ := oh (KA.out.trans (Kp.refl w4 none).drew)
 clear HE HM HR KA
 refine wp_region_last (fun V => V.cell? ⟨w.heap.size + 1, 0, none⟩ = some (I6 0) ∧ V.cell? ⟨w.heap.size + 1, 1, none⟩ = some (I6 0) ∧ V.cell? ⟨w.heap.size + 1, 2, none⟩ = some (I6 0) ∧ V.cell? ⟨w.heap.size + 1, 3, none⟩ = some (.bool false) ∧ V.cell? ⟨w.heap.size, 3, none⟩ = some (I6 bx) ∧ V.cell? ⟨w.heap.size, 4, none⟩ = some (I6 bY) ∧ True) 11 (by kernel_rfl) ?_ (fun eh => ?_)
 ·exact ⟨hcell HM_.out 0 rfl, hcell HM_.out 1 rfl, hcell HM_.out 2 rfl, hcell HM_.out 3 rfl, hcell HE_.out 3 rfl, hcell HE_.out 4 rfl, trivial⟩
 refine tjL 0 rfl ?_; refine tjL 1 rfl ?_; refine tjL 4 rfl ?_; refine tjL 5 rfl ?_; refine tjL 6 rfl ?_; refine rdL 2 rfl (fun K hK => ?_); have gK := eh; clear eh; clear gK
 have e1 := hcell HE_.out 1 rfl
 have e2 := hcell HE_.out 2 rfl
 go_simp; clear e1 e2; try go_wp2_with fail
 refine hK.out _ _ ?_ (fun eh => ?_)
 ·exact ⟨hcell HM_.out 0 rfl, hcell HM_.out 1 rfl, hcell HM_.out 2 rfl, hcell HM_.out 3 rfl, hcell HE_.out 3 rfl, hcell HE_.out 4 rfl, trivial⟩
 clear hK K; try simp only [Act.put, sm]
 refine rdL 3 rfl (fun K hK => ?_); have gK := eh; clear eh; clear gK; go_simp
 refine (HA.out _).mono ?_
 rintro E w5 ⟨rfl, kk⟩; have HE_n := oh (blk HE_.out kk); have HM_n := oh (blk HM_.out kk); have HR_n := oh (blk HR_.out kk); have KA_n := oh (KA_.out.trans kk); clear kk HE_ HM_ HR_ KA_; have HE_ := HE_n; have HM_ := HM_n; have HR_ := HR_n; have KA_ := KA_n; clear HE_n HM_n HR_n KA_n; try go_wp2_with fail
 refine hK.out _ _ ?_ (fun eh => ?_)
 ·exact ⟨hcell HM_.out 0 rfl, hcell HM_.out 1 rfl, hcell HM_.out 2 rfl, hcell HM_.out 3 rfl, hcell HE_.out 3 rfl, hcell HE_.out 4 rfl, trivial⟩
 clear hK K; try simp only [Act.put, sm]
 refine tjL 8 rfl ?_; refine rdL 7 rfl (fun K hK => ?_); have gK := eh; clear eh; clear gK; go_simp
 refine (HB.out _).mono ?_
 rintro E w6 ⟨rfl, kk⟩; have HE_n := oh (blk HE_.out kk); have HM_n := oh (blk HM_.out kk); have HR_n := oh (blk HR_.out kk); have KA_n := oh (KA_.out.trans kk); clear kk HE_ HM_ HR_ KA_; have HE_ := HE_n; have HM_ := HM_n; have HR_ := HR_n; have KA_ := KA_n; clear HE_n HM_n HR_n KA_n; try go_wp2_with fail
 refine hK.out _ _ ?_ (fun eh => ?_)
 ·exact ⟨hcell HM_.out 0 rfl, hcell HM_.out 1 rfl, hcell HM_.out 2 rfl, hcell HM_.out 3 rfl, hcell HE_.out 3 rfl, hcell HE_.out 4 rfl, trivial⟩
 clear hK K; try simp only [Act.put, sm]
 refine rdL 9 rfl (fun K hK => ?_); have gK := eh; clear eh; clear gK
 have e1 := hcell HE_.out 1 rfl
 have e2 := hcell HE_.out 2 rfl
 have f1 := fz HE_.out 1
 have f2 := fz HE_.out 2
 go_simp; try go_wp2_with fail
 clear e1 e2 f1 f2
 have hs := heap_set (o := 2) (v := I6 ay) (heap_set (o := 1) (v := I6 ax) HE_.out)
 simp at hs
 have kz := ((Kp.refl w6 (some (w.heap.size))).set (o := 1) (I6 ax)).set (o := 2) (I6 ay)
 have HEn := oh hs
 have HMn := oh ((kz.block _ (lt_of_block HM_.out) (by intro q; have := Option.some.inj q; omega)).trans HM_.out)
 have HRn := oh ((kz.block _ (lt_of_block HR_.out) (by intro q; have := Option.some.inj q; omega)).trans HR_.out)
 have KAn := oh (KA_.out.of_own kz (Nat.le_refl _))
 clear hs kz HE_ HM_ HR_ KA_; try go_wp2_with fail
 refine hK.out _ _ ?_ (fun eh => ?_)
 ·exact ⟨hcell HMn.out 0 rfl, hcell HMn.out 1 rfl, hcell HMn.out 2 rfl, hcell HMn.out 3 rfl, hcell HEn.out 3 rfl, hcell HEn.out 4 rfl, trivial⟩
 clear hK K; try simp only [Act.put, sm]
 refine tjL 10 rfl ?_
 generalize hw7 : (w6.setCell ⟨w.heap.size, 1, none⟩ (I6 ax)).setCell ⟨w.heap.size, 2, none⟩ (I6 ay) = w7 at *
 clear hw7; refine rdE rfl (fun K hK => ?_)
 have e3 := hcell HEn.out 3 rfl
 have e4 := hcell HEn.out 4 rfl
 have f3 := fz HEn.out 3
 have f4 := fz HEn.out 4
 clear eh; go_simp; try go_wp2_with fail
 refine hK.out _ _ ?_
 clear hK K; try simp only [Act.put, sm]
 clear e3 e4 f3 f4
 have hs := heap_set (o := 4) (v := I6 bY) (heap_set (o := 3) (v := I6 bx) HEn.out)
 simp at hs
 have kz := ((Kp.refl w7 (some (w.heap.size))).set (o := 3) (I6 bx)).set (o := 4) (I6 bY)
 have HEz := oh hs
 have HRz := oh ((kz.block _ (lt_of_block HRn.out) (by intro q; have := Option.some.inj q; omega)).trans HRn.out)
 have KAz := oh (KAn.out.of_own kz (Nat.le_refl _))
 clear hs kz HEn HMn HRn KAn
 generalize (w7.setCell ⟨w.heap.size, 3, none⟩ (I6 bx)).setCell ⟨w.heap.size, 4, none⟩ (I6 bY) = w8 at *
 refine wpAnyL_done (by kernel_rfl) ?_ _
 have e0 := hcell HEz.out 0 rfl
 have e1 := hcell HEz.out 1 rfl
 have e2 := hcell HEz.out 2 rfl
 have e3 := hcell HEz.out 3 rfl
 have e4 := hcell HEz.out 4 rfl
 have e5 := hcell HEz.out 5 rfl
 have e6 := hcell HEz.out 6 rfl
 have x0 := hcell HRz.out 0 rfl
 have x1 := hcell HRz.out 1 rfl
 have x2 := hcell HRz.out 2 rfl
 have x3 := hcell HRz.out 3 rfl
 have x4 := hcell HRz.out 4 rfl
 have x5 := hcell HRz.out 5 rfl
 have x6 := hcell HRz.out 6 rfl
 have f0 := fz HRz.out 0
 have f1 := fz HRz.out 1
 have f2 := fz HRz.out 2
 have f3 := fz HRz.out 3
 have f4 := fz HRz.out 4
 have f5 := fz HRz.out 5
 have f6 := fz HRz.out 6
 go_wp2_with fail
 have hst := heap_seven2 HRz.out (I6 1) (I6 ax) (I6 ay) (I6 bx) (I6 bY) (I6 cx) (I6 cy)
 have KF := oh (KAz.out.of_own hst.2 (by omega))
 have q0 := hcell hst.1 0 rfl
 have q1 := hcell hst.1 1 rfl
 have q2 := hcell hst.1 2 rfl
 have q3 := hcell hst.1 3 rfl
 have q4 := hcell hst.1 4 rfl
 have q5 := hcell hst.1 5 rfl
 have q6 := hcell hst.1 6 rfl
 clear hst e0 x0 f0 e1 x1 f1 e2 x2 f2 e3 x3 f3 e4 x4 f4 e5 x5 f5 e6 x6 f6 HEz HRz KAz
 generalize (((((((w8.setCell ⟨w.heap.size + 1 + 1, 0, none⟩ (I6 1)).setCell ⟨w.heap.size + 1 + 1, 1, none⟩ (I6 ax)).setCell ⟨w.heap.size + 1 + 1, 2, none⟩ (I6 ay)).setCell ⟨w.heap.size + 1 + 1, 3, none⟩ (I6 bx)).setCell ⟨w.heap.size + 1 + 1, 4, none⟩ (I6 bY)).setCell ⟨w.heap.size + 1 + 1, 5, none⟩ (I6 cx)).setCell ⟨w.heap.size + 1 + 1, 6, none⟩ (I6 cy)) = wf at *
 exact bodyPost_ret (v := .agg #[I6 1, I6 ax, I6 ay, I6 bx, I6 bY, I6 cx, I6 cy]) (by simp [results, Tryz.results57, go_sem, q0, q1, q2, q3, q4, q5, q6]) rfl ⟨rfl, KF.out⟩
theorem zmove_c (k fk : Int) (f1 f2 f3 : Nat) (ax ay bx bY cx cy : Int) (fb : Bool) (w : World) (hk : (k != 1) = true) (hof : ∀ V, Calls Tryz.prog 104 #[.agg #[I6 k, I6 ax, I6 ay, I6 bx, I6 bY, I6 cx, I6 cy]] V fun E w' => E = .returned (.tuple #[.agg #[.func (.func f1) #[] #[], .func (.func f2) #[] #[], .func (.func f3) #[] #[], I6 fk], .bool fb]) ∧ Kp V w' none)
  (ha : ∀ V, ZAp ax ay V) (hb : ∀ V, ZAp bx bY V) (hc : ∀ V, ZAp cx cy V) :
  Calls Tryz.prog 57 #[.agg #[I6 k, I6 ax, I6 ay, I6 bx, I6 bY, I6 cx, I6 cy], .agg #[I6 0, I6 0, I6 0, .bool false]] w fun E w' => E = .returned (.agg #[I6 k, I6 ax, I6 ay, I6 bx, I6 bY, I6 cx, I6 cy]) ∧ Kp w w' none := by
 have HOF := oh hof; have HA := oh ha; have HB := oh hb; have HC := oh hc; unfold ZAp at HA HB HC; clear hof ha hb hc
 go_enter Tryz.func57, Tryz.ntmps57
 go_wp2_with fail
 have HE0 : Hid ((((w.alloc (.cells #[I6 k, I6 ax, I6 ay, I6 bx, I6 bY, I6 cx, I6 cy] 123)).alloc (.cells #[I6 0, I6 0, I6 0, .bool false] 44)).alloc (.cells #[I6 0, I6 0, I6 0, I6 0, I6 0, I6 0, I6 0] 123)).heap[w.heap.size]? = some (.cells #[I6 k, I6 ax, I6 ay, I6 bx, I6 bY, I6 cx, I6 cy] 123 (0, 0))) := oh (blk (heap_alloc_new w _) (((Kp.refl _ none).alloc _).alloc _))
 have HM0 : Hid ((((w.alloc (.cells #[I6 k, I6 ax, I6 ay, I6 bx, I6 bY, I6 cx, I6 cy] 123)).alloc (.cells #[I6 0, I6 0, I6 0, .bool false] 44)).alloc (.cells #[I6 0, I6 0, I6 0, I6 0, I6 0, I6 0, I6 0] 123)).heap[w.heap.size + 1]? = some (.cells #[I6 0, I6 0, I6 0, .bool false] 44 (0, 0))) := oh (blk (w := (w.alloc (.cells #[I6 k, I6 ax, I6 ay, I6 bx, I6 bY, I6 cx, I6 cy] 123)).alloc (.cells #[I6 0, I6 0, I6 0, .bool false] 44)) (by have h := heap_alloc_new (w.alloc (.cells #[I6 k, I6 ax, I6 ay, I6 bx, I6 bY, I6 cx, I6 cy] 123)) (.cells #[I6 0, I6 0, I6 0, .bool false] 44); simpa using h) ((Kp.refl _ none).alloc _))
 have HR0 : Hid ((((w.alloc (.cells #[I6 k, I6 ax, I6 ay, I6 bx, I6 bY, I6 cx, I6 cy] 123)).alloc (.cells #[I6 0, I6 0, I6 0, .bool false] 44)).alloc (.cells #[I6 0, I6 0, I6 0, I6 0, I6 0, I6 0, I6 0] 123)).heap[w.heap.size + 1 + 1]? = some (.cells #[I6 0, I6 0, I6 0, I6 0, I6 0, I6 0, I6 0] 123 (0, 0))) := oh (by have h := heap_alloc_new ((w.alloc (.cells #[I6 k, I6 ax, I6 ay, I6 bx, I6 bY, I6 cx, I6 cy] 123)).alloc (.cells #[I6 0, I6 0, I6 0, .bool false] 44)) (.cells #[I6 0, I6 0, I6 0, I6 0, I6 0, I6 0, I6 0] 123); simpa using h)
 have KA0 : Hid (Kp w (((w.alloc (.cells #[I6 k, I6 ax, I6 ay, I6 bx, I6 bY, I6 cx, I6 cy] 123)).alloc (.cells #[I6 0, I6 0, I6 0, .bool false] 44)).alloc (.cells #[I6 0, I6 0, I6 0, I6 0, I6 0, I6 0, I6 0] 123)) none) := oh ((((Kp.refl w none).alloc _).alloc _).alloc _)
 refine (HOF.out _).mono ?_
 rintro E w1 ⟨rfl, k1⟩; have KA1 := oh (KA0.out.trans k1); have HE1 := oh (blk HE0.out k1); have HM1 := oh (blk HM0.out k1); have HR1 := oh (blk HR0.out k1); clear k1 HE0 HM0 HR0 KA0
 have kf : Kp w1 (w1.alloc (.cells #[.func (.func f1) #[] #[], .func (.func f2) #[] #[], .func (.func f3) #[] #[], I6 fk] 201)) none := (Kp.refl w1 none).alloc _
 have m3 := hcell (blk HM1.out kf) 3 rfl
 have e0 := hcell (blk HE1.out kf) 0 rfl
 have HFB := hcell (heap_alloc_new w1 (.cells #[.func (.func f1) #[] #[], .func (.func f2) #[] #[], .func (.func f3) #[] #[], I6 fk] 201)) 3 rfl
 go_upto_region 4 with fail
 have HE2 := oh (blk HE1.out kf); have HM2 := oh (blk HM1.out kf); have HR2 := oh (blk HR1.out kf); have KA2 := oh (KA1.out.trans kf); clear kf m3 e0 HFB HE1 HM1 HR1 KA1
 generalize w1.alloc (.cells #[.func (.func f1) #[] #[], .func (.func f2) #[] #[], .func (.func f3) #[] #[], I6 fk] 201) = w2 at *
 have e0 := hcell HE2.out 0 rfl
 have e5 := hcell HE2.out 5 rfl
 have e6 := hcell HE2.out 6 rfl
 have m0 := hcell HM2.out 0 rfl
 have m1 := hcell HM2.out 1 rfl
 have m2 := hcell HM2.out 2 rfl
 have m3 := hcell HM2.out 3 rfl
 go_wp2_with fail
 refine (HC.out _).mono ?_
 rintro E w3 ⟨rfl, k3⟩; have HE3 := oh (blk HE2.out k3); have HM3 := oh (blk HM2.out k3); have HR3 := oh (blk HR2.out k3); have KA3 := oh (KA2.out.trans k3); clear k3 e0 e5 e6 m0 m1 m2 m3 HE2 HM2 HR2 KA2
 have f5 := fz HE3.out 5
 have f6 := fz HE3.out 6
 have e5 := hcell HE3.out 5 rfl
 have e6 := hcell HE3.out 6 rfl
 go_upto_region 6 with fail
 have hs := heap_set (o := 6) (v := I6 cy) (heap_set (o := 5) (v := I6 cx) HE3.out)
 simp at hs
 have kz := ((Kp.refl w3 (some (w.heap.size))).set (o := 5) (I6 cx)).set (o := 6) (I6 cy)
 have HE := oh hs
 have HM := oh ((kz.block _ (lt_of_block HM3.out) (by intro q; have := Option.some.inj q; omega)).trans HM3.out)
 have HR := oh ((kz.block _ (lt_of_block HR3.out) (by intro q; have := Option.some.inj q; omega)).trans HR3.out)
 have KA := oh (KA3.out.of_own kz (Nat.le_refl _))
 clear hs kz f5 f6 e5 e6 HE3 HM3 HR3 KA3
 generalize (w3.setCell ⟨w.heap.size, 5, none⟩ (I6 cx)).setCell ⟨w.heap.size, 6, none⟩ (I6 cy) = w4 at *
 have HE_ := oh (blk HE.out (Kp.refl w4 none).drew)
 have HM_ := oh (blk HM.out (Kp.refl w4 none).drew)
 have HR_ := oh (blk HR.out (Kp.refl w4 none).drew)
 have KA_ := oh (KA.out.trans (Kp.refl w4 none).drew)
 clear HE HM HR KA
 refine wp_region_last (fun V => V.cell? ⟨w.heap.size + 1, 0, none⟩ = some (I6 0) ∧ V.cell? ⟨w.heap.size + 1, 1, none⟩ = some (I6 0) ∧ V.cell? ⟨w.heap.size + 1, 2, none⟩ = some (I6 0) ∧ V.cell? ⟨w.heap.size + 1, 3, none⟩ = some (.bool false) ∧ V.cell? ⟨w.heap.size, 3, none⟩ = some (I6 bx) ∧ V.cell? ⟨w.heap.size, 4, none⟩ = some (I6 bY) ∧ True) 11 (by kernel_rfl) ?_ (fun eh => ?_)
 ·exact ⟨hcell HM_.out 0 rfl, hcell HM_.out 1 rfl, hcell HM_.out 2 rfl, hcell HM_.out 3 rfl, hcell HE_.out 3 rfl, hcell HE_.out 4 rfl, trivial⟩
 refine tjL 0 rfl ?_; refine tjL 1 rfl ?_; refine tjL 4 rfl ?_; refine tjL 5 rfl ?_; refine tjL 6 rfl ?_; refine rdL 2 rfl (fun K hK => ?_); have gK := eh; clear eh; clear gK
 have e1 := hcell HE_.out 1 rfl
 have e2 := hcell HE_.out 2 rfl
 go_simp; clear e1 e2; try go_wp2_with fail
 refine hK.out _ _ ?_ (fun eh => ?_)
 ·exact ⟨hcell HM_.out 0 rfl, hcell HM_.out 1 rfl, hcell HM_.out 2 rfl, hcell HM_.out 3 rfl, hcell HE_.out 3 rfl, hcell HE_.out 4 rfl, trivial⟩
 clear hK K; try simp only [Act.put, sm]
 refine rdL 3 rfl (fun K hK => ?_); have gK := eh; clear eh; clear gK; go_simp
 refine (HA.out _).mono ?_
 rintro E w5 ⟨rfl, kk⟩; have HE_n := oh (blk HE_.out kk); have HM_n := oh (blk HM_.out kk); have HR_n := oh (blk HR_.out kk); have KA_n := oh (KA_.out.trans kk); clear kk HE_ HM_ HR_ KA_; have HE_ := HE_n; have HM_ := HM_n; have HR_ := HR_n; have KA_ := KA_n; clear HE_n HM_n HR_n KA_n; try go_wp2_with fail
 refine hK.out _ _ ?_ (fun eh => ?_)
 ·exact ⟨hcell HM_.out 0 rfl, hcell HM_.out 1 rfl, hcell HM_.out 2 rfl, hcell HM_.out 3 rfl, hcell HE_.out 3 rfl, hcell HE_.out 4 rfl, trivial⟩
 clear hK K; try simp only [Act.put, sm]
 refine tjL 8 rfl ?_; refine rdL 7 rfl (fun K hK => ?_); have gK := eh; clear eh; clear gK; go_simp
 refine (HB.out _).mono ?_
 rintro E w6 ⟨rfl, kk⟩; have HE_n := oh (blk HE_.out kk); have HM_n := oh (blk HM_.out kk); have HR_n := oh (blk HR_.out kk); have KA_n := oh (KA_.out.trans kk); clear kk HE_ HM_ HR_ KA_; have HE_ := HE_n; have HM_ := HM_n; have HR_ := HR_n; have KA_ := KA_n; clear HE_n HM_n HR_n KA_n; try go_wp2_with fail
 refine hK.out _ _ ?_ (fun eh => ?_)
 ·exact ⟨hcell HM_.out 0 rfl, hcell HM_.out 1 rfl, hcell HM_.out 2 rfl, hcell HM_.out 3 rfl, hcell HE_.out 3 rfl, hcell HE_.out 4 rfl, trivial⟩
 clear hK K; try simp only [Act.put, sm]
 refine rdL 9 rfl (fun K hK => ?_); have gK := eh; clear eh; clear gK
 have e1 := hcell HE_.out 1 rfl
 have e2 := hcell HE_.out 2 rfl
 have f1 := fz HE_.out 1
 have f2 := fz HE_.out 2
 go_simp; try go_wp2_with fail
 clear e1 e2 f1 f2
 have hs := heap_set (o := 2) (v := I6 ay) (heap_set (o := 1) (v := I6 ax) HE_.out)
 simp at hs
 have kz := ((Kp.refl w6 (some (w.heap.size))).set (o := 1) (I6 ax)).set (o := 2) (I6 ay)
 have HEn := oh hs
 have HMn := oh ((kz.block _ (lt_of_block HM_.out) (by intro q; have := Option.some.inj q; omega)).trans HM_.out)
 have HRn := oh ((kz.block _ (lt_of_block HR_.out) (by intro q; have := Option.some.inj q; omega)).trans HR_.out)
 have KAn := oh (KA_.out.of_own kz (Nat.le_refl _))
 clear hs kz HE_ HM_ HR_ KA_; try go_wp2_with fail
 refine hK.out _ _ ?_ (fun eh => ?_)
 ·exact ⟨hcell HMn.out 0 rfl, hcell HMn.out 1 rfl, hcell HMn.out 2 rfl, hcell HMn.out 3 rfl, hcell HEn.out 3 rfl, hcell HEn.out 4 rfl, trivial⟩
 clear hK K; try simp only [Act.put, sm]
 refine tjL 10 rfl ?_
 generalize hw7 : (w6.setCell ⟨w.heap.size, 1, none⟩ (I6 ax)).setCell ⟨w.heap.size, 2, none⟩ (I6 ay) = w7 at *
 clear hw7; refine rdE rfl (fun K hK => ?_)
 have e3 := hcell HEn.out 3 rfl
 have e4 := hcell HEn.out 4 rfl
 have f3 := fz HEn.out 3
 have f4 := fz HEn.out 4
 clear eh; go_simp; try go_wp2_with fail
 refine hK.out _ _ ?_
 clear hK K; try simp only [Act.put, sm]
 clear e3 e4 f3 f4
 have hs := heap_set (o := 4) (v := I6 bY) (heap_set (o := 3) (v := I6 bx) HEn.out)
 simp at hs
 have kz := ((Kp.refl w7 (some (w.heap.size))).set (o := 3) (I6 bx)).set (o := 4) (I6 bY)
 have HEz := oh hs
 have HRz := oh ((kz.block _ (lt_of_block HRn.out) (by intro q; have := Option.some.inj q; omega)).trans HRn.out)
 have KAz := oh (KAn.out.of_own kz (Nat.le_refl _))
 clear hs kz HEn HMn HRn KAn
 generalize (w7.setCell ⟨w.heap.size, 3, none⟩ (I6 bx)).setCell ⟨w.heap.size, 4, none⟩ (I6 bY) = w8 at *
 refine wpAnyL_done (by kernel_rfl) ?_ _
 have e0 := hcell HEz.out 0 rfl
 have e1 := hcell HEz.out 1 rfl
 have e2 := hcell HEz.out 2 rfl
 have e3 := hcell HEz.out 3 rfl
 have e4 := hcell HEz.out 4 rfl
 have e5 := hcell HEz.out 5 rfl
 have e6 := hcell HEz.out 6 rfl
 have x0 := hcell HRz.out 0 rfl
 have x1 := hcell HRz.out 1 rfl
 have x2 := hcell HRz.out 2 rfl
 have x3 := hcell HRz.out 3 rfl
 have x4 := hcell HRz.out 4 rfl
 have x5 := hcell HRz.out 5 rfl
 have x6 := hcell HRz.out 6 rfl
 have f0 := fz HRz.out 0
 have f1 := fz HRz.out 1
 have f2 := fz HRz.out 2
 have f3 := fz HRz.out 3
 have f4 := fz HRz.out 4
 have f5 := fz HRz.out 5
 have f6 := fz HRz.out 6
 go_wp2_with fail
 have hst := heap_seven2 HRz.out (I6 k) (I6 ax) (I6 ay) (I6 bx) (I6 bY) (I6 cx) (I6 cy)
 have KF := oh (KAz.out.of_own hst.2 (by omega))
 have q0 := hcell hst.1 0 rfl
 have q1 := hcell hst.1 1 rfl
 have q2 := hcell hst.1 2 rfl
 have q3 := hcell hst.1 3 rfl
 have q4 := hcell hst.1 4 rfl
 have q5 := hcell hst.1 5 rfl
 have q6 := hcell hst.1 6 rfl
 clear hst e0 x0 f0 e1 x1 f1 e2 x2 f2 e3 x3 f3 e4 x4 f4 e5 x5 f5 e6 x6 f6 HEz HRz KAz
 generalize (((((((w8.setCell ⟨w.heap.size + 1 + 1, 0, none⟩ (I6 k)).setCell ⟨w.heap.size + 1 + 1, 1, none⟩ (I6 ax)).setCell ⟨w.heap.size + 1 + 1, 2, none⟩ (I6 ay)).setCell ⟨w.heap.size + 1 + 1, 3, none⟩ (I6 bx)).setCell ⟨w.heap.size + 1 + 1, 4, none⟩ (I6 bY)).setCell ⟨w.heap.size + 1 + 1, 5, none⟩ (I6 cx)).setCell ⟨w.heap.size + 1 + 1, 6, none⟩ (I6 cy)) = wf at *
 exact bodyPost_ret (v := .agg #[I6 k, I6 ax, I6 ay, I6 bx, I6 bY, I6 cx, I6 cy]) (by simp [results, Tryz.results57, go_sem, q0, q1, q2, q3, q4, q5, q6]) rfl ⟨rfl, KF.out⟩
theorem zmove_n (k : Int) (ax ay bx bY cx cy : Int) (fb : Bool) (w : World) (hk : (k != 1) = true) (hof : ∀ V, Calls Tryz.prog 104 #[.agg #[I6 k, I6 ax, I6 ay, I6 bx, I6 bY, I6 cx, I6 cy]] V fun E w' => E = .returned (.tuple #[.agg #[.nilFunc, .nilFunc, .nilFunc, I6 k], .bool fb]) ∧ Kp V w' none)
  (ha : ∀ V, ZAp ax ay V) (hb : ∀ V, ZAp bx bY V) (hc : ∀ V, ZAp cx cy V) :
  Calls Tryz.prog 57 #[.agg #[I6 k, I6 ax, I6 ay, I6 bx, I6 bY, I6 cx, I6 cy], .agg #[I6 0, I6 0, I6 0, .bool false]] w fun E w' => E = .returned (.agg #[I6 k, I6 ax, I6 ay, I6 bx, I6 bY, I6 cx, I6 cy]) ∧ Kp w w' none := by
 have HOF := oh hof; have HA := oh ha; have HB := oh hb; have HC := oh hc; unfold ZAp at HA HB HC; clear hof ha hb hc
 go_enter Tryz.func57, Tryz.ntmps57
 go_wp2_with fail
 have HE0 : Hid ((((w.alloc (.cells #[I6 k, I6 ax, I6 ay, I6 bx, I6 bY, I6 cx, I6 cy] 123)).alloc (.cells #[I6 0, I6 0, I6 0, .bool false] 44)).alloc (.cells #[I6 0, I6 0, I6 0, I6 0, I6 0, I6 0, I6 0] 123)).heap[w.heap.size]? = some (.cells #[I6 k, I6 ax, I6 ay, I6 bx, I6 bY, I6 cx, I6 cy] 123 (0, 0))) := oh (blk (heap_alloc_new w _) (((Kp.refl _ none).alloc _).alloc _))
 have HM0 : Hid ((((w.alloc (.cells #[I6 k, I6 ax, I6 ay, I6 bx, I6 bY, I6 cx, I6 cy] 123)).alloc (.cells #[I6 0, I6 0, I6 0, .bool false] 44)).alloc (.cells #[I6 0, I6 0, I6 0, I6 0, I6 0, I6 0, I6 0] 123)).heap[w.heap.size + 1]? = some (.cells #[I6 0, I6 0, I6 0, .bool false] 44 (0, 0))) := oh (blk (w := (w.alloc (.cells #[I6 k, I6 ax, I6 ay, I6 bx, I6 bY, I6 cx, I6 cy] 123)).alloc (.cells #[I6 0, I6 0, I6 0, .bool false] 44)) (by have h := heap_alloc_new (w.alloc (.cells #[I6 k, I6 ax, I6 ay, I6 bx, I6 bY, I6 cx, I6 cy] 123)) (.cells #[I6 0, I6 0, I6 0, .bool false] 44); simpa using h) ((Kp.refl _ none).alloc _))
 have HR0 : Hid ((((w.alloc (.cells #[I6 k, I6 ax, I6 ay, I6 bx, I6 bY, I6 cx, I6 cy] 123)).alloc (.cells #[I6 0, I6 0, I6 0, .bool false] 44)).alloc (.cells #[I6 0, I6 0, I6 0, I6 0, I6 0, I6 0, I6 0] 123)).heap[w.heap.size + 1 + 1]? = some (.cells #[I6 0, I6 0, I6 0, I6 0, I6 0, I6 0, I6 0] 123 (0, 0))) := oh (by have h := heap_alloc_new ((w.alloc (.cells #[I6 k, I6 ax, I6 ay, I6 bx, I6 bY, I6 cx, I6 cy] 123)).alloc (.cells #[I6 0, I6 0, I6 0, .bool false] 44)) (.cells #[I6 0, I6 0, I6 0, I6 0, I6 0, I6 0, I6 0] 123); simpa using h)
 have KA0 : Hid (Kp w (((w.alloc (.cells #[I6 k, I6 ax, I6 ay, I6 bx, I6 bY, I6 cx, I6 cy] 123)).alloc (.cells #[I6 0, I6 0, I6 0, .bool false] 44)).alloc (.cells #[I6 0, I6 0, I6 0, I6 0, I6 0, I6 0, I6 0] 123)) none) := oh ((((Kp.refl w none).alloc _).alloc _).alloc _)
 refine (HOF.out _).mono ?_
 rintro E w1 ⟨rfl, k1⟩; have KA1 := oh (KA0.out.trans k1); have HE1 := oh (blk HE0.out k1); have HM1 := oh (blk HM0.out k1); have HR1 := oh (blk HR0.out k1); clear k1 HE0 HM0 HR0 KA0
 have kf : Kp w1 (w1.alloc (.cells #[.nilFunc, .nilFunc, .nilFunc, I6 k] 201)) none := (Kp.refl w1 none).alloc _
 have m3 := hcell (blk HM1.out kf) 3 rfl
 have e0 := hcell (blk HE1.out kf) 0 rfl
 have HFB := hcell (heap_alloc_new w1 (.cells #[.nilFunc, .nilFunc, .nilFunc, I6 k] 201)) 3 rfl
 go_upto_region 4 with fail
 have HE2 := oh (blk HE1.out kf); have HM2 := oh (blk HM1.out kf); have HR2 := oh (blk HR1.out kf); have KA2 := oh (KA1.out.trans kf); clear kf m3 e0 HFB HE1 HM1 HR1 KA1
 generalize w1.alloc (.cells #[.nilFunc, .nilFunc, .nilFunc, I6 k] 201) = w2 at *
 have e0 := hcell HE2.out 0 rfl
 have e5 := hcell HE2.out 5 rfl
 have e6 := hcell HE2.out 6 rfl
 have m0 := hcell HM2.out 0 rfl
 have m1 := hcell HM2.out 1 rfl
 have m2 := hcell HM2.out 2 rfl
 have m3 := hcell HM2.out 3 rfl
 go_wp2_with fail
 refine (HC.out _).mono ?_
 rintro E w3 ⟨rfl, k3⟩; have HE3 := oh (blk HE2.out k3); have HM3 := oh (blk HM2.out k3); have HR3 := oh (blk HR2.out k3); have KA3 := oh (KA2.out.trans k3); clear k3 e0 e5 e6 m0 m1 m2 m3 HE2 HM2 HR2 KA2
 have f5 := fz HE3.out 5
 have f6 := fz HE3.out 6
 have e5 := hcell HE3.out 5 rfl
 have e6 := hcell HE3.out 6 rfl
 go_upto_region 6 with fail
 have hs := heap_set (o := 6) (v := I6 cy) (heap_set (o := 5) (v := I6 cx) HE3.out)
 simp at hs
 have kz := ((Kp.refl w3 (some (w.heap.size))).set (o := 5) (I6 cx)).set (o := 6) (I6 cy)
 have HE := oh hs
 have HM := oh ((kz.block _ (lt_of_block HM3.out) (by intro q; have := Option.some.inj q; omega)).trans HM3.out)
 have HR := oh ((kz.block _ (lt_of_block HR3.out) (by intro q; have := Option.some.inj q; omega)).trans HR3.out)
 have KA := oh (KA3.out.of_own kz (Nat.le_refl _))
 clear hs kz f5 f6 e5 e6 HE3 HM3 HR3 KA3
 generalize (w3.setCell ⟨w.heap.size, 5, none⟩ (I6 cx)).setCell ⟨w.heap.size, 6, none⟩ (I6 cy) = w4 at *
 have HE_ := oh (blk HE.out (Kp.refl w4 none).drew)
 have HM_ := oh (blk HM.out (Kp.refl w4 none).drew)
 have HR_ := oh (blk HR.out (Kp.refl w4 none).drew)
 have KA_ := oh (KA.out.trans (Kp.refl w4 none).drew)
 clear HE HM HR KA
 refine wp_region_last (fun V => V.cell? ⟨w.heap.size + 1, 0, none⟩ = some (I6 0) ∧ V.cell? ⟨w.heap.size + 1, 1, none⟩ = some (I6 0) ∧ V.cell? ⟨w.heap.size + 1, 2, none⟩ = some (I6 0) ∧ V.cell? ⟨w.heap.size + 1, 3, none⟩ = some (.bool false) ∧ V.cell? ⟨w.heap.size, 3, none⟩ = some (I6 bx) ∧ V.cell? ⟨w.heap.size, 4, none⟩ = some (I6 bY) ∧ True) 11 (by kernel_rfl) ?_ (fun eh => ?_)
 ·exact ⟨hcell HM_.out 0 rfl, hcell HM_.out 1 rfl, hcell HM_.out 2 rfl, hcell HM_.out 3 rfl, hcell HE_.out 3 rfl, hcell HE_.out 4 rfl, trivial⟩
 refine tjL 0 rfl ?_; refine tjL 1 rfl ?_; refine tjL 4 rfl ?_; refine tjL 5 rfl ?_; refine tjL 6 rfl ?_; refine rdL 2 rfl (fun K hK => ?_); have gK := eh; clear eh; clear gK
 have e1 := hcell HE_.out 1 rfl
 have e2 := hcell HE_.out 2 rfl
 go_simp; clear e1 e2; try go_wp2_with fail
 refine hK.out _ _ ?_ (fun eh => ?_)
 ·exact ⟨hcell HM_.out 0 rfl, hcell HM_.out 1 rfl, hcell HM_.out 2 rfl, hcell HM_.out 3 rfl, hcell HE_.out 3 rfl, hcell HE_.out 4 rfl, trivial⟩
 clear hK K; try simp only [Act.put, sm]
 refine rdL 3 rfl (fun K hK => ?_); have gK := eh; clear eh; clear gK; go_simp
 refine (HA.out _).mono ?_
 rintro E w5 ⟨rfl, kk⟩; have HE_n := oh (blk HE_.out kk); have HM_n := oh (blk HM_.out kk); have HR_n := oh (blk HR_.out kk); have KA_n := oh (KA_.out.trans kk); clear kk HE_ HM_ HR_ KA_; have HE_ := HE_n; have HM_ := HM_n; have HR_ := HR_n; have KA_ := KA_n; clear HE_n HM_n HR_n KA_n; try go_wp2_with fail
 refine hK.out _ _ ?_ (fun eh => ?_)
 ·exact ⟨hcell HM_.out 0 rfl, hcell HM_.out 1 rfl, hcell HM_.out 2 rfl, hcell HM_.out 3 rfl, hcell HE_.out 3 rfl, hcell HE_.out 4 rfl, trivial⟩
 clear hK K; try simp only [Act.put, sm]
 refine tjL 8 rfl ?_; refine rdL 7 rfl (fun K hK => ?_); have gK := eh; clear eh; clear gK; go_simp
 refine (HB.out _).mono ?_
 rintro E w6 ⟨rfl, kk⟩; have HE_n := oh (blk HE_.out kk); have HM_n := oh (blk HM_.out kk); have HR_n := oh (blk HR_.out kk); have KA_n := oh (KA_.out.trans kk); clear kk HE_ HM_ HR_ KA_; have HE_ := HE_n; have HM_ := HM_n; have HR_ := HR_n; have KA_ := KA_n; clear HE_n HM_n HR_n KA_n; try go_wp2_with fail
 refine hK.out _ _ ?_ (fun eh => ?_)
 ·exact ⟨hcell HM_.out 0 rfl, hcell HM_.out 1 rfl, hcell HM_.out 2 rfl, hcell HM_.out 3 rfl, hcell HE_.out 3 rfl, hcell HE_.out 4 rfl, trivial⟩
 clear hK K; try simp only [Act.put, sm]
 refine rdL 9 rfl (fun K hK => ?_); have gK := eh; clear eh; clear gK
 have e1 := hcell HE_.out 1 rfl
 have e2 := hcell HE_.out 2 rfl
 have f1 := fz HE_.out 1
 have f2 := fz HE_.out 2
 go_simp; try go_wp2_with fail
 clear e1 e2 f1 f2
 have hs := heap_set (o := 2) (v := I6 ay) (heap_set (o := 1) (v := I6 ax) HE_.out)
 simp at hs
 have kz := ((Kp.refl w6 (some (w.heap.size))).set (o := 1) (I6 ax)).set (o := 2) (I6 ay)
 have HEn := oh hs
 have HMn := oh ((kz.block _ (lt_of_block HM_.out) (by intro q; have := Option.some.inj q; omega)).trans HM_.out)
 have HRn := oh ((kz.block _ (lt_of_block HR_.out) (by intro q; have := Option.some.inj q; omega)).trans HR_.out)
 have KAn := oh (KA_.out.of_own kz (Nat.le_refl _))
 clear hs kz HE_ HM_ HR_ KA_; try go_wp2_with fail
 refine hK.out _ _ ?_ (fun eh => ?_)
 ·exact ⟨hcell HMn.out 0 rfl, hcell HMn.out 1 rfl, hcell HMn.out 2 rfl, hcell HMn.out 3 rfl, hcell HEn.out 3 rfl, hcell HEn.out 4 rfl, trivial⟩
 clear hK K; try simp only [Act.put, sm]
 refine tjL 10 rfl ?_
 generalize hw7 : (w6.setCell ⟨w.heap.size, 1, none⟩ (I6 ax)).setCell ⟨w.heap.size, 2, none⟩ (I6 ay) = w7 at *
 clear hw7; refine rdE rfl (fun K hK => ?_)
 have e3 := hcell HEn.out 3 rfl
 have e4 := hcell HEn.out 4 rfl
 have f3 := fz HEn.out 3
 have f4 := fz HEn.out 4
 clear eh; go_simp; try go_wp2_with fail
 refine hK.out _ _ ?_
 clear hK K; try simp only [Act.put, sm]
 clear e3 e4 f3 f4
 have hs := heap_set (o := 4) (v := I6 bY) (heap_set (o := 3) (v := I6 bx) HEn.out)
 simp at hs
 have kz := ((Kp.refl w7 (some (w.heap.size))).set (o := 3) (I6 bx)).set (o := 4) (I6 bY)
 have HEz := oh hs
 have HRz := oh ((kz.block _ (lt_of_block HRn.out) (by intro q; have := Option.some.inj q; omega)).trans HRn.out)
 have KAz := oh (KAn.out.of_own kz (Nat.le_refl _))
 clear hs kz HEn HMn HRn KAn
 generalize (w7.setCell ⟨w.heap.size, 3, none⟩ (I6 bx)).setCell ⟨w.heap.size, 4, none⟩ (I6 bY) = w8 at *
 refine wpAnyL_done (by kernel_rfl) ?_ _
 have e0 := hcell HEz.out 0 rfl
 have e1 := hcell HEz.out 1 rfl
 have e2 := hcell HEz.out 2 rfl
 have e3 := hcell HEz.out 3 rfl
 have e4 := hcell HEz.out 4 rfl
 have e5 := hcell HEz.out 5 rfl
 have e6 := hcell HEz.out 6 rfl
 have x0 := hcell HRz.out 0 rfl
 have x1 := hcell HRz.out 1 rfl
 have x2 := hcell HRz.out 2 rfl
 have x3 := hcell HRz.out 3 rfl
 have x4 := hcell HRz.out 4 rfl
 have x5 := hcell HRz.out 5 rfl
 have x6 := hcell HRz.out 6 rfl
 have f0 := fz HRz.out 0
 have f1 := fz HRz.out 1
 have f2 := fz HRz.out 2
 have f3 := fz HRz.out 3
 have f4 := fz HRz.out 4
 have f5 := fz HRz.out 5
 have f6 := fz HRz.out 6
 go_wp2_with fail
 have hst := heap_seven2 HRz.out (I6 k) (I6 ax) (I6 ay) (I6 bx) (I6 bY) (I6 cx) (I6 cy)
 have KF := oh (KAz.out.of_own hst.2 (by omega))
 have q0 := hcell hst.1 0 rfl
 have q1 := hcell hst.1 1 rfl
 have q2 := hcell hst.1 2 rfl
 have q3 := hcell hst.1 3 rfl
 have q4 := hcell hst.1 4 rfl
 have q5 := hcell hst.1 5 rfl
 have q6 := hcell hst.1 6 rfl
 clear hst e0 x0 f0 e1 x1 f1 e2 x2 f2 e3 x3 f3 e4 x4 f4 e5 x5 f5 e6 x6 f6 HEz HRz KAz
 generalize (((((((w8.setCell ⟨w.heap.size + 1 + 1, 0, none⟩ (I6 k)).setCell ⟨w.heap.size + 1 + 1, 1, none⟩ (I6 ax)).setCell ⟨w.heap.size + 1 + 1, 2, none⟩ (I6 ay)).setCell ⟨w.heap.size + 1 + 1, 3, none⟩ (I6 bx)).setCell ⟨w.heap.size + 1 + 1, 4, none⟩ (I6 bY)).setCell ⟨w.heap.size + 1 + 1, 5, none⟩ (I6 cx)).setCell ⟨w.heap.size + 1 + 1, 6, none⟩ (I6 cy)) = wf at *
 exact bodyPost_ret (v := .agg #[I6 k, I6 ax, I6 ay, I6 bx, I6 bY, I6 cx, I6 cy]) (by simp [results, Tryz.results57, go_sem, q0, q1, q2, q3, q4, q5, q6]) rfl ⟨rfl, KF.out⟩
theorem zmove_any (e : Pl.Ed) (w : World) (he : FitsE e) : Calls Tryz.prog 57 #[.agg #[I6 e.k, I6 e.a.x, I6 e.a.y, I6 e.b.x, I6 e.b.y, I6 e.c.x, I6 e.c.y], .agg #[I6 0, I6 0, I6 0, .bool false]] w fun E w' => E = .returned (.agg #[I6 e.k, I6 e.a.x, I6 e.a.y, I6 e.b.x, I6 e.b.y, I6 e.c.x, I6 e.c.y]) ∧ Kp w w' none := by
 obtain ⟨k, ⟨ax, ay⟩, ⟨bx, bY⟩, ⟨cx, cy⟩⟩ := e; obtain ⟨h1, h2, h3, h4, h5, h6⟩ := he
 dsimp only at h1 h2 h3 h4 h5 h6 ⊢
 obtain ⟨fb, hfb⟩ : ∃ fb, decide (Pl.chkE ⟨k, ⟨ax, ay⟩, ⟨bx, bY⟩, ⟨cx, cy⟩⟩ = 0) = fb := ⟨_, rfl⟩
 have hof := fun V => of_any ⟨k, ⟨ax, ay⟩, ⟨bx, bY⟩, ⟨cx, cy⟩⟩ V
 rw [hfb] at hof; clear hfb; unfold famV edV at hof
 dsimp only at hof
 by_cases k1 : k = 1
 ·subst k1
  exact zmove_1 ax ay bx bY cx cy fb w hof (fun V => zap _ _ V h1 h2) (fun V => zap _ _ V h3 h4) (fun V => zap _ _ V h5 h6)
 ·have hk : (k != 1) = true := by simpa using k1
  rw [if_neg k1] at hof
  by_cases k2 : k = 2
  ·rw [if_pos k2] at hof
   exact zmove_c k 3 194 195 196 ax ay bx bY cx cy fb w hk hof (fun V => zap _ _ V h1 h2) (fun V => zap _ _ V h3 h4) (fun V => zap _ _ V h5 h6)
  ·rw [if_neg k2] at hof
   by_cases k3 : k = 3
   ·rw [if_pos k3] at hof
    exact zmove_c k 2 197 195 196 ax ay bx bY cx cy fb w hk hof (fun V => zap _ _ V h1 h2) (fun V => zap _ _ V h3 h4) (fun V => zap _ _ V h5 h6)
   ·rw [if_neg k3] at hof
    exact zmove_n k ax ay bx bY cx cy fb w hk hof (fun V => zap _ _ V h1 h2) (fun V => zap _ _ V h3 h4) (fun V => zap _ _ V h5 h6)
theorem eq_nil48 (a : Addr) (n cap : Nat) (V : World) : Sem.run Tryz.prog (binOp BinOp.eql 48 (.slice (some a) n cap) (.slice none 0 0)) V = .ok (.bool false) V := by rfl
theorem eq_nil48' (V : World) : Sem.run Tryz.prog (binOp BinOp.eql 48 (.slice none 0 0) (.slice none 0 0)) V = .ok (.bool true) V := by rfl
theorem cloneE_any (es : List Pl.Ed) (n : Nat) (hn : es.length = n) (ao : Option Addr) (cap : Nat) (w : World) (hes : LiesAt 7 edC w ao cap es) (h00 : ao = none → cap = 0) (hl : n ≤ 1000000) :
  Calls Tryz.prog 56 #[.slice ao n cap] w fun E w' => ∃ v, E = .returned v ∧ w'.ownsRow w.heap.size 123 7 v n (es.flatMap edC) ∧ Kp w w' none := by
 obtain ⟨i0, hi, hz0, hz1, hz2⟩ := info_parts infoEd
 have FE := oh hes; have HN := oh hn; clear hes hn
 cases ao with
 | none =>
  have h0 : es = [] := by
   rcases Nat.eq_zero_or_pos es.length with h | h
   ·exact List.length_eq_zero_iff.1 h
   ·obtain ⟨b, off, e, _⟩ := FE.out 0 h
    cases e
  have hn0 : n = 0 := by rw [← HN.out, h0]; rfl
  subst h0; subst hn0
  have hc0 : cap = 0 := h00 rfl
  subst hc0
  have hq := eq_nil48'
  go_enter Tryz.func56, Tryz.ntmps56
  go_wp2_with fail
  go_ret
  exact ⟨_, rfl, ⟨by rfl, .inl ⟨rfl, rfl⟩⟩, Kp.refl _ _⟩
 | some a =>
  have hq := eq_nil48 a n cap
  go_enter Tryz.func56, Tryz.ntmps56
  go_wp2_with (at_builtin; go_must (refine wpList_app (f := edC) (by rfl) _ _ w.heap.size 48 123 (by rfl) i0 _ 7 56 Tryz.underlying48 hi hz0 hz1 hz2 rfl (by omega) (fun _ => rfl) ed_one (.slice (some ⟨w.heap.size, 0, none⟩) 0 0) 0 [] (by rfl) (World.ownsRow_made w #[] 0 (Nat.le_refl _) (by unfold maxLen; omega) rfl) (.slice (some a) n cap) es (by rfl) (by have h := (FE.out.keep ((Kp.refl w none).alloc (.cells #[] 123))).list; rw [HN.out] at h; exact h) (by have := HN.out; unfold maxLen; omega) (by have := HN.out; omega) (by simp) ?_))
  intro v3 w3 ho hg hbb
  have HO : Hid (w3.ownsRow w.heap.size 123 7 v3 n (es.flatMap edC)) := oh (by have h := ho; rw [HN.out] at h; simpa using h)
  have KF : Hid (Kp w w3 none) := oh (Kp.row ((Kp.refl w none).alloc (.cells #[] 123)) hg (fun q hq => by
   simp [Value.ownBlock] at hq; omega))
  clear ho hg hbb; go_wp2_with fail
  go_ret
  exact ⟨v3, rfl, HO.out, KF.out⟩
theorem flat_set7 (x : Pl.Ed) : ∀ (es : List Pl.Ed) (k : Nat) (_ : k < es.length), (((((((es.flatMap edC).set (k * 7) (I6 x.k)).set (k * 7 + 1) (I6 x.a.x)).set (k * 7 + 2) (I6 x.a.y)).set (k * 7 + 3) (I6 x.b.x)).set (k * 7 + 4) (I6 x.b.y)).set (k * 7 + 5) (I6 x.c.x)).set (k * 7 + 6) (I6 x.c.y) = (es.set k x).flatMap edC
 | [], _, h => by simp at h
 | y :: es, 0, _ => by simp [edC]
 | y :: es, k + 1, h => by
  have ih := flat_set7 x es k (by simpa using h)
  have e : ∀ (L : List Value) (i : Nat) (u : Value), (edC y ++ L).set (7 + i) u = edC y ++ L.set i u := fun L i u => by
   rw [List.set_append_right _ _ (by simp [edC])]
   simp [edC]
  have h0 : (k + 1) * 7 = 7 + k * 7 := by omega
  have hj : ∀ j, (k + 1) * 7 + j = 7 + (k * 7 + j) := fun j => by omega
  rw [List.set_cons_succ, List.flatMap_cons, List.flatMap_cons, hj, hj, hj, hj, hj, hj, h0, e, e, e, e, e, e, e, ih]
theorem row_set7 {w : World} {base n k : Nat} {v : Value} {es fs : List Pl.Ed} {x : Pl.Ed} (h : w.ownsRow base 123 7 v n ((((((((es.flatMap edC).set (k * 7) (I6 x.k)).set (k * 7 + 1) (I6 x.a.x)).set (k * 7 + 2) (I6 x.a.y)).set (k * 7 + 3) (I6 x.b.x)).set (k * 7 + 4) (I6 x.b.y)).set (k * 7 + 5) (I6 x.c.x)).set (k * 7 + 6) (I6 x.c.y))) (hk : k < es.length ∧ es.set k x = fs) : w.ownsRow base 123 7 v n (fs.flatMap edC) := by
 rw [flat_set7 x es k hk.1, hk.2] at h
 exact h
def SzRel (sk sr : Int) (es : List Pl.Ed) (n g cp : Nat) (w : World) (i : Value) (wr : World) : Prop := ∃ k : Nat, k ≤ n ∧ i = I6 k ∧ Kp w wr none ∧ wr.heap[w.heap.size]? = some (.cells #[I6 sk, (.slice (some ⟨g, 0, none⟩) n cp), I6 sr] 50 (0, 0)) ∧ wr.heap[w.heap.size + 1]? = some (.cells #[I6 0, I6 0, I6 0, .bool false] 44 (0, 0)) ∧ wr.heap[w.heap.size + 1 + 1]? = some (.cells #[I6 0, .slice none 0 0, I6 0] 50 (0, 0)) ∧ wr.ownsRow (w.heap.size + 1 + 1 + 1) 123 7 (.slice (some ⟨g, 0, none⟩) n cp) n (es.flatMap edC)
theorem zshape_pos (sk sr : Int) (es : List Pl.Ed) (n : Nat) (hn : es.length = n) (ea : Option Addr) (ec : Nat) (w : World) (hes : LiesAt 7 edC w ea ec es) (h0 : 0 < n) (hn1 : n ≤ 1000) (he : ∀ e ∈ es, FitsE e) :
  Calls Tryz.prog 21 #[.agg #[I6 sk, .slice ea n ec, I6 sr], .agg #[I6 0, I6 0, I6 0, .bool false]] w (ShapeIs w ⟨sk, es, sr⟩) := by
 have HME : Hid (∀ e ∈ es, ∀ V, Calls Tryz.prog 57 #[.agg #[I6 e.k, I6 e.a.x, I6 e.a.y, I6 e.b.x, I6 e.b.y, I6 e.c.x, I6 e.c.y], .agg #[I6 0, I6 0, I6 0, .bool false]] V fun E w' => E = .returned (.agg #[I6 e.k, I6 e.a.x, I6 e.a.y, I6 e.b.x, I6 e.b.y, I6 e.c.x, I6 e.c.y]) ∧ Kp V w' none) := oh (fun e h V => zmove_any e V (he e h))
 have HN := oh hn
 have HCL : Hid (∀ V, Kp w V none → Calls Tryz.prog 56 #[.slice ea n ec] V fun E w' => ∃ v, E = .returned v ∧ w'.ownsRow V.heap.size 123 7 v n (es.flatMap edC) ∧ Kp V w' none) := oh (fun V kv => cloneE_any es n hn ea ec V (hes.keep kv) (fun h => by obtain ⟨b, off, e, _⟩ := hes 0 (by omega); rw [h] at e; cases e) (by omega))
 clear hn hes he
 have hnz : (0 : Int) < (n : Int) := by omega
 go_enter Tryz.func21, Tryz.ntmps21
 go_wp2_with fail
 have HS0 : Hid ((((w.alloc (.cells #[I6 sk, (.slice ea n ec), I6 sr] 50)).alloc (.cells #[I6 0, I6 0, I6 0, .bool false] 44)).alloc (.cells #[I6 0, .slice none 0 0, I6 0] 50)).heap[w.heap.size]? = some (.cells #[I6 sk, (.slice ea n ec), I6 sr] 50 (0, 0))) := oh (blk (heap_alloc_new w _) (((Kp.refl _ none).alloc _).alloc _))
 have HM0 : Hid ((((w.alloc (.cells #[I6 sk, (.slice ea n ec), I6 sr] 50)).alloc (.cells #[I6 0, I6 0, I6 0, .bool false] 44)).alloc (.cells #[I6 0, .slice none 0 0, I6 0] 50)).heap[w.heap.size + 1]? = some (.cells #[I6 0, I6 0, I6 0, .bool false] 44 (0, 0))) := oh (blk (w := (w.alloc (.cells #[I6 sk, (.slice ea n ec), I6 sr] 50)).alloc (.cells #[I6 0, I6 0, I6 0, .bool false] 44)) (by have h := heap_alloc_new (w.alloc (.cells #[I6 sk, (.slice ea n ec), I6 sr] 50)) (.cells #[I6 0, I6 0, I6 0, .bool false] 44); simpa using h) ((Kp.refl _ none).alloc _))
 have HR0 : Hid ((((w.alloc (.cells #[I6 sk, (.slice ea n ec), I6 sr] 50)).alloc (.cells #[I6 0, I6 0, I6 0, .bool false] 44)).alloc (.cells #[I6 0, .slice none 0 0, I6 0] 50)).heap[w.heap.size + 1 + 1]? = some (.cells #[I6 0, .slice none 0 0, I6 0] 50 (0, 0))) := oh (by have h := heap_alloc_new ((w.alloc (.cells #[I6 sk, (.slice ea n ec), I6 sr] 50)).alloc (.cells #[I6 0, I6 0, I6 0, .bool false] 44)) (.cells #[I6 0, .slice none 0 0, I6 0] 50); simpa using h)
 have KA0 : Hid (Kp w (((w.alloc (.cells #[I6 sk, (.slice ea n ec), I6 sr] 50)).alloc (.cells #[I6 0, I6 0, I6 0, .bool false] 44)).alloc (.cells #[I6 0, .slice none 0 0, I6 0] 50)) none) := oh ((((Kp.refl w none).alloc _).alloc _).alloc _)
 have hsz : (((w.alloc (.cells #[I6 sk, (.slice ea n ec), I6 sr] 50)).alloc (.cells #[I6 0, I6 0, I6 0, .bool false] 44)).alloc (.cells #[I6 0, .slice none 0 0, I6 0] 50)).heap.size = w.heap.size + 1 + 1 + 1 := by simp
 refine (HCL.out _ KA0.out).mono ?_
 rintro E w1 ⟨v, rfl, ho, k1⟩; rw [hsz] at ho
 rcases ho.2 with ⟨_, hz⟩ | ⟨g, cp, _, rfl, _⟩
 ·omega
 have HO := oh ho
 have HG : Hid (w.heap.size + 1 + 1 + 1 ≤ g) := oh (ho.lt g rfl).1
 have HK := oh (KA0.out.trans k1); have HS := oh (blk HS0.out k1); have HM := oh (blk HM0.out k1); have HR := oh (blk HR0.out k1); clear ho k1 HS0 HM0 HR0 KA0 hsz
 have c1 := hcell HS.out 1 rfl
 have f1 := fz HS.out 1
 go_upto_region 2 with fail
 have hs := heap_set (o := 1) (v := .slice (some ⟨g, 0, none⟩) n cp) HS.out
 simp at hs
 have kz : Kp w1 (w1.setCell ⟨w.heap.size, 1, none⟩ (.slice (some ⟨g, 0, none⟩) n cp)) (some (w.heap.size)) := (Kp.refl w1 (some (w.heap.size))).set _
 have HS1 := oh hs
 have HM1 := oh ((kz.block _ (lt_of_block HM.out) (by intro q; have := Option.some.inj q; omega)).trans HM.out)
 have HR1 := oh ((kz.block _ (lt_of_block HR.out) (by intro q; have := Option.some.inj q; omega)).trans HR.out)
 have HO1 := oh (HO.out.kept kz (own_ne HO.out (by omega)))
 have HK1 := oh (HK.out.of_own kz (Nat.le_refl _))
 clear hs kz c1 f1 HS HM HR HO HK
 generalize w1.setCell ⟨w.heap.size, 1, none⟩ (.slice (some ⟨g, 0, none⟩) n cp) = wq at *
 have c1 := hcell HS1.out 1 rfl
 go_wp2_with fail
 clear c1
 go_loopw [13] (fun i wr => SzRel sk sr es n g cp w i wr) (fun i _ => n - (intOf i).toNat)
 case atStart => exact ⟨0, Nat.zero_le _, rfl, HK1.out, HS1.out, HM1.out, HR1.out, by simpa using HO1.out⟩
 case round =>
  obtain ⟨k, hk, rfl, hK, hS, hM, hR, hO⟩ := hrel; have HK := oh hK; have HS := oh hS; have HM := oh hM; have HR := oh hR; have HO := oh hO; clear hK hS hM hR hO HK1 HS1 HM1 HR1 HO1
  have hk0 := nn k
  by_cases hlt : k < n
  ·have hk1 : (k : Int) < (n : Int) := by omega
   have hcp : n ≤ cp := own_cap HO.out
   have hlt2 : k < es.length := by rw [HN.out]; exact hlt
   have HLR : Hid (k < es.length ∧ es.set k es[k] = es) := oh ⟨hlt2, by rw [List.set_getElem_self]⟩
   have HC := oh (HME.out es[k] (List.getElem_mem hlt2))
   obtain ⟨e, hx⟩ : ∃ e, es[k] = e := ⟨_, rfl⟩
   have hge : ∃ h, es[k]'h = e := ⟨hlt2, hx⟩
   rw [hx] at HLR HC
   have HEL : Hid (∀ V : World, V.ownsRow (w.heap.size + 1 + 1 + 1) 123 7 (.slice (some ⟨g, 0, none⟩) n cp) n (es.flatMap edC) → V.cell? ⟨g, k * 7, none⟩ = some (I6 e.k) ∧ V.cell? ⟨g, k * 7 + 1, none⟩ = some (I6 e.a.x) ∧ V.cell? ⟨g, k * 7 + 2, none⟩ = some (I6 e.a.y) ∧ V.cell? ⟨g, k * 7 + 3, none⟩ = some (I6 e.b.x) ∧ V.cell? ⟨g, k * 7 + 4, none⟩ = some (I6 e.b.y) ∧ V.cell? ⟨g, k * 7 + 5, none⟩ = some (I6 e.c.x) ∧ V.cell? ⟨g, k * 7 + 6, none⟩ = some (I6 e.c.y)) := oh (fun V h => by
    obtain ⟨hk9, hge⟩ := hge
    have key : ∀ j (hj : j < 7), V.cell? ⟨g, k * 7 + j, none⟩ = some ((edC e)[j]'(by simpa [edC] using hj)) := fun j hj => by
     have h9 := flat_get 7 edC (fun _ => rfl) es k j hk9 (by simpa [edC] using hj)
     have := h.cells rfl (k * 7 + j) _ h9
     rw [show ((⟨g, 0, none⟩ : Addr).add (k * 7 + j)) = ⟨g, k * 7 + j, none⟩ by unfold Addr.add; split <;> simp_all] at this
     rw [this]
     simp only [hge]
    exact ⟨key 0 (by omega), key 1 (by omega), key 2 (by omega), key 3 (by omega), key 4 (by omega), key 5 (by omega), key 6 (by omega)⟩)
   clear hx hge hlt2
   have HS1 := oh (blk HS.out (Kp.refl wr none).drew)
   have HM1 := oh (blk HM.out (Kp.refl wr none).drew)
   have HR1 := oh (blk HR.out (Kp.refl wr none).drew)
   have HO1 := oh (HO.out.kept (Kp.refl wr none).drew (by cases (Value.slice (some ⟨g, 0, none⟩) n cp).ownBlock <;> simp))
   have K1 := oh (HK.out.trans (Kp.refl wr none).drew)
   go_wp2_with fail
   refine wp_region_last (fun V => V.cell? ⟨w.heap.size, 1, none⟩ = some (.slice (some ⟨g, 0, none⟩) n cp) ∧ V.cell? ⟨w.heap.size + 1, 0, none⟩ = some (I6 0) ∧ V.cell? ⟨w.heap.size + 1, 1, none⟩ = some (I6 0) ∧ V.cell? ⟨w.heap.size + 1, 2, none⟩ = some (I6 0) ∧ V.cell? ⟨w.heap.size + 1, 3, none⟩ = some (.bool false) ∧ V.cell? ⟨g, k * 7, none⟩ = some (I6 e.k) ∧ V.cell? ⟨g, k * 7 + 1, none⟩ = some (I6 e.a.x) ∧ V.cell? ⟨g, k * 7 + 2, none⟩ = some (I6 e.a.y) ∧ V.cell? ⟨g, k * 7 + 3, none⟩ = some (I6 e.b.x) ∧ V.cell? ⟨g, k * 7 + 4, none⟩ = some (I6 e.b.y) ∧ V.cell? ⟨g, k * 7 + 5, none⟩ = some (I6 e.c.x) ∧ V.cell? ⟨g, k * 7 + 6, none⟩ = some (I6 e.c.y) ∧ True) 11 (by kernel_rfl) ?_ (fun eh => ?_)
   ·exact ⟨hcell HS1.out 1 rfl, hcell HM1.out 0 rfl, hcell HM1.out 1 rfl, hcell HM1.out 2 rfl, hcell HM1.out 3 rfl, (HEL.out _ HO1.out).1, (HEL.out _ HO1.out).2.1, (HEL.out _ HO1.out).2.2.1, (HEL.out _ HO1.out).2.2.2.1, (HEL.out _ HO1.out).2.2.2.2.1, (HEL.out _ HO1.out).2.2.2.2.2.1, (HEL.out _ HO1.out).2.2.2.2.2.2, trivial⟩
   refine tjL 0 rfl ?_; refine tjL 1 rfl ?_; refine tjL 2 rfl ?_; refine tjL 3 rfl ?_; refine tjL 4 rfl ?_; refine tjL 5 rfl ?_; refine tjL 6 rfl ?_; refine tjL 7 rfl ?_; refine tjL 8 rfl ?_; refine rdL 9 rfl (fun K hK => ?_); have gK := eh; clear eh; clear gK; go_simp
   refine (HC.out _).mono ?_
   rintro E w2 ⟨rfl, kk⟩; have HS2 := oh (blk HS1.out kk); have HM2 := oh (blk HM1.out kk); have HR2 := oh (blk HR1.out kk)
   have HO2 := oh (HO1.out.kept kk (by cases (Value.slice (some ⟨g, 0, none⟩) n cp).ownBlock <;> simp))
   have K2 := oh (K1.out.trans kk); clear kk HS1 HM1 HR1 HO1 K1; try go_wp2_with fail
   refine hK.out _ _ ?_ (fun eh => ?_)
   ·exact ⟨hcell HS2.out 1 rfl, hcell HM2.out 0 rfl, hcell HM2.out 1 rfl, hcell HM2.out 2 rfl, hcell HM2.out 3 rfl, (HEL.out _ HO2.out).1, (HEL.out _ HO2.out).2.1, (HEL.out _ HO2.out).2.2.1, (HEL.out _ HO2.out).2.2.2.1, (HEL.out _ HO2.out).2.2.2.2.1, (HEL.out _ HO2.out).2.2.2.2.2.1, (HEL.out _ HO2.out).2.2.2.2.2.2, trivial⟩
   clear hK K; try simp only [Act.put, sm]
   refine tjL 10 rfl ?_; refine rdE rfl (fun K hK => ?_)
   have f0 := HO2.out.frozenAt (k * 7)
   have f1 := HO2.out.frozenAt (k * 7 + 1)
   have f2 := HO2.out.frozenAt (k * 7 + 2)
   have f3 := HO2.out.frozenAt (k * 7 + 3)
   have f4 := HO2.out.frozenAt (k * 7 + 4)
   have f5 := HO2.out.frozenAt (k * 7 + 5)
   have f6 := HO2.out.frozenAt (k * 7 + 6)
   have hel := HEL.out _ HO2.out
   obtain ⟨c0, c1, c2, c3, c4, c5, c6⟩ := hel; clear eh; go_simp; try go_wp2_with fail
   refine hK.out _ _ ?_
   clear hK K; try simp only [Act.put, sm]
   clear c0 c1 c2 c3 c4 c5 c6 f0 f1 f2 f3 f4 f5 f6
   have o1 := HO2.out.stored (k * 7) (I6 e.k)
   have o2 := o1.1.stored (k * 7 + 1) (I6 e.a.x)
   have o3 := o2.1.stored (k * 7 + 2) (I6 e.a.y)
   have o4 := o3.1.stored (k * 7 + 3) (I6 e.b.x)
   have o5 := o4.1.stored (k * 7 + 4) (I6 e.b.y)
   have o6 := o5.1.stored (k * 7 + 5) (I6 e.c.x)
   have o7 := o6.1.stored (k * 7 + 6) (I6 e.c.y)
   have kz := ((((((o1.2.trans o2.2).trans o3.2).trans o4.2).trans o5.2).trans o6.2).trans o7.2)
   have HO3 := oh (row_set7 (x := e) o7.1 HLR.out)
   have HS3 := oh (res_kept HS2.out kz (fun q hq => by have := Option.some.inj hq; have := HG.out; omega))
   have HM3 := oh (res_kept HM2.out kz (fun q hq => by have := Option.some.inj hq; have := HG.out; omega))
   have HR3 := oh (res_kept HR2.out kz (fun q hq => by have := Option.some.inj hq; have := HG.out; omega))
   have K3 := oh (K2.out.of_own kz (by have := HG.out; omega))
   clear o1 o2 o3 o4 o5 o6 o7 kz HO2 HS2 HM2 HR2 K2
   generalize (((((((w2.setCell ⟨g, k * 7, none⟩ (I6 e.k)).setCell ⟨g, k * 7 + 1, none⟩ (I6 e.a.x)).setCell ⟨g, k * 7 + 2, none⟩ (I6 e.a.y)).setCell ⟨g, k * 7 + 3, none⟩ (I6 e.b.x)).setCell ⟨g, k * 7 + 4, none⟩ (I6 e.b.y)).setCell ⟨g, k * 7 + 5, none⟩ (I6 e.c.x)).setCell ⟨g, k * 7 + 6, none⟩ (I6 e.c.y)) = w3 at *
   refine wpAnyL_done (by kernel_rfl) ?_ _
   have HREL : Hid (SzRel sk sr es n g cp w (I6 (k + 1)) w3) := oh ⟨k + 1, hlt, by go_num, K3.out, HS3.out, HM3.out, HR3.out, HO3.out⟩
   clear HO3 HS3 HM3 HR3 K3; go_wp2_with fail
   first | exact ⟨HREL.out, by simp [intOf]; omega⟩ | (go_roundw; all_goals first | exact HREL.out | (simp [intOf]; omega))
  ·have hk1 : ¬ (k : Int) < (n : Int) := by omega
   have hkn : k = n := by omega
   subst hkn
   have a0 := hcell HS.out 0 rfl
   have a1 := hcell HS.out 1 rfl
   have a2 := hcell HS.out 2 rfl
   have g0 := fz HR.out 0
   have g1 := fz HR.out 1
   have g2 := fz HR.out 2
   have x0' := hcell HR.out 0 rfl
   have x1' := hcell HR.out 1 rfl
   have x2' := hcell HR.out 2 rfl
   have HOE : Hid (wr.ownsRow (w.heap.size + 1 + 1 + 1) 123 7 (.slice (some ⟨g, 0, none⟩) k cp) es.length (es.flatMap edC)) := oh (by
    have h := HO.out; have hl := HN.out; rw [hl]
    exact h)
   have HLI := oh (own_lies (m := 7) (f := edC) (fun _ => rfl) HOE.out).2
   have FRX : Hid (∀ p, (some ⟨g, 0, none⟩ : Option Addr) = some p → w.heap.size ≤ p.block ∧ p.block ≠ w.heap.size + 1 + 1) := oh (fun p hp => by have := Option.some.inj hp; subst this; have := HG.out; dsimp only; omega)
   have HRQ := HR; go_wp2_with fail
   clear a0 a1 a2 x0' x1' x2' g0 g1 g2; have HR := HRQ
   have HLE : Hid (k = es.length) := oh (by rw [HN.out])
   have hs0 := heap_set (o := 0) (v := I6 sk) HR.out
   have hs1 := heap_set (o := 1) (v := .slice (some ⟨g, 0, none⟩) k cp) hs0
   have hs2 := heap_set (o := 2) (v := I6 sr) hs1
   have q0 := Lib.cell_of_heap hs2 0
   have q1 := Lib.cell_of_heap hs2 1
   have q2 := Lib.cell_of_heap hs2 2
   simp at q0 q1 q2
   have HO : Hid (LiesAt 7 edC (((wr.setCell ⟨w.heap.size + 1 + 1, 0, none⟩ (I6 sk)).setCell ⟨w.heap.size + 1 + 1, 1, none⟩ (.slice (some ⟨g, 0, none⟩) k cp)).setCell ⟨w.heap.size + 1 + 1, 2, none⟩ (I6 sr)) (some ⟨g, 0, none⟩) cp _) := oh (HLI.out.keepRow ((((Kp.refl wr (some (w.heap.size + 1 + 1))).set (I6 sk)).set (.slice (some ⟨g, 0, none⟩) k cp)).set (I6 sr)) (fun p hp => (FRX.out p hp).2))
   have KF : Hid (Kp w (((wr.setCell ⟨w.heap.size + 1 + 1, 0, none⟩ (I6 sk)).setCell ⟨w.heap.size + 1 + 1, 1, none⟩ (.slice (some ⟨g, 0, none⟩) k cp)).setCell ⟨w.heap.size + 1 + 1, 2, none⟩ (I6 sr)) none) := oh (HK.out.of_own ((((Kp.refl wr (some (w.heap.size + 1 + 1))).set (I6 sk)).set (.slice (some ⟨g, 0, none⟩) k cp)).set (I6 sr)) (by omega))
   clear hs0 hs1 hs2
   generalize (((wr.setCell ⟨w.heap.size + 1 + 1, 0, none⟩ (I6 sk)).setCell ⟨w.heap.size + 1 + 1, 1, none⟩ (.slice (some ⟨g, 0, none⟩) k cp)).setCell ⟨w.heap.size + 1 + 1, 2, none⟩ (I6 sr)) = wf at *
   exact bodyPost_ret (v := .agg #[I6 sk, .slice (some ⟨g, 0, none⟩) k cp, I6 sr]) (by simp [results, Tryz.results21, go_sem, q0, q1, q2]) rfl ⟨some ⟨g, 0, none⟩, cp, by show _ = Ending.returned (.agg #[I6 sk, .slice (some ⟨g, 0, none⟩) es.length cp, I6 sr]); rw [← HLE.out], HO.out, fun p hp => (FRX.out p hp).1, KF.out⟩
theorem zshape_nil (sk sr : Int) (ea : Option Addr) (ec : Nat) (w : World) (hec : ea = none → ec = 0) :
  Calls Tryz.prog 21 #[.agg #[I6 sk, .slice ea 0 ec, I6 sr], .agg #[I6 0, I6 0, I6 0, .bool false]] w (ShapeIs w ⟨sk, [], sr⟩) := by
 have HCL : Hid (∀ V, Calls Tryz.prog 56 #[.slice ea 0 ec] V fun E w' => ∃ v, E = .returned v ∧ w'.ownsRow V.heap.size 123 7 v 0 [] ∧ Kp V w' none) := oh (fun V => cloneE_any [] 0 rfl ea ec V (fun i hi => absurd hi (by simp)) hec (by omega))
 clear hec
 go_enter Tryz.func21, Tryz.ntmps21
 go_wp2_with fail
 have HS0 : Hid ((((w.alloc (.cells #[I6 sk, (.slice ea 0 ec), I6 sr] 50)).alloc (.cells #[I6 0, I6 0, I6 0, .bool false] 44)).alloc (.cells #[I6 0, .slice none 0 0, I6 0] 50)).heap[w.heap.size]? = some (.cells #[I6 sk, (.slice ea 0 ec), I6 sr] 50 (0, 0))) := oh (blk (heap_alloc_new w _) (((Kp.refl _ none).alloc _).alloc _))
 have HM0 : Hid ((((w.alloc (.cells #[I6 sk, (.slice ea 0 ec), I6 sr] 50)).alloc (.cells #[I6 0, I6 0, I6 0, .bool false] 44)).alloc (.cells #[I6 0, .slice none 0 0, I6 0] 50)).heap[w.heap.size + 1]? = some (.cells #[I6 0, I6 0, I6 0, .bool false] 44 (0, 0))) := oh (blk (w := (w.alloc (.cells #[I6 sk, (.slice ea 0 ec), I6 sr] 50)).alloc (.cells #[I6 0, I6 0, I6 0, .bool false] 44)) (by have h := heap_alloc_new (w.alloc (.cells #[I6 sk, (.slice ea 0 ec), I6 sr] 50)) (.cells #[I6 0, I6 0, I6 0, .bool false] 44); simpa using h) ((Kp.refl _ none).alloc _))
 have HR0 : Hid ((((w.alloc (.cells #[I6 sk, (.slice ea 0 ec), I6 sr] 50)).alloc (.cells #[I6 0, I6 0, I6 0, .bool false] 44)).alloc (.cells #[I6 0, .slice none 0 0, I6 0] 50)).heap[w.heap.size + 1 + 1]? = some (.cells #[I6 0, .slice none 0 0, I6 0] 50 (0, 0))) := oh (by have h := heap_alloc_new ((w.alloc (.cells #[I6 sk, (.slice ea 0 ec), I6 sr] 50)).alloc (.cells #[I6 0, I6 0, I6 0, .bool false] 44)) (.cells #[I6 0, .slice none 0 0, I6 0] 50); simpa using h)
 have KA0 : Hid (Kp w (((w.alloc (.cells #[I6 sk, (.slice ea 0 ec), I6 sr] 50)).alloc (.cells #[I6 0, I6 0, I6 0, .bool false] 44)).alloc (.cells #[I6 0, .slice none 0 0, I6 0] 50)) none) := oh ((((Kp.refl w none).alloc _).alloc _).alloc _)
 have hsz : (((w.alloc (.cells #[I6 sk, (.slice ea 0 ec), I6 sr] 50)).alloc (.cells #[I6 0, I6 0, I6 0, .bool false] 44)).alloc (.cells #[I6 0, .slice none 0 0, I6 0] 50)).heap.size = w.heap.size + 1 + 1 + 1 := by simp
 refine (HCL.out _).mono ?_
 rintro E w1 ⟨v, rfl, ho, k1⟩; rw [hsz] at ho
 obtain ⟨ga, cp, rfl⟩ := own_slice ho
 have HO := oh ho; have HK := oh (KA0.out.trans k1); have HS := oh (blk HS0.out k1); have HM := oh (blk HM0.out k1); have HR := oh (blk HR0.out k1); clear ho k1 HS0 HM0 HR0 KA0 hsz
 have c1 := hcell HS.out 1 rfl
 have f1 := fz HS.out 1
 go_upto_region 2 with fail
 have hs := heap_set (o := 1) (v := .slice ga 0 cp) HS.out
 simp at hs
 have kz : Kp w1 (w1.setCell ⟨w.heap.size, 1, none⟩ (.slice ga 0 cp)) (some (w.heap.size)) := (Kp.refl w1 (some (w.heap.size))).set _
 have HS1 := oh hs
 have HM1 := oh ((kz.block _ (lt_of_block HM.out) (by intro q; have := Option.some.inj q; omega)).trans HM.out)
 have HR1 := oh ((kz.block _ (lt_of_block HR.out) (by intro q; have := Option.some.inj q; omega)).trans HR.out)
 have HO1 := oh (HO.out.kept kz (own_ne HO.out (by omega)))
 have HK1 := oh (HK.out.of_own kz (Nat.le_refl _))
 clear hs kz c1 f1 HS HM HR HO HK
 generalize w1.setCell ⟨w.heap.size, 1, none⟩ (.slice ga 0 cp) = wr at *
 have c1 := hcell HS1.out 1 rfl
 go_wp2_with fail
 clear c1
 refine wp_loop_rounds 1 ?_
 rw [rounds_succ]
 have a0 := hcell HS1.out 0 rfl
 have a1 := hcell HS1.out 1 rfl
 have a2 := hcell HS1.out 2 rfl
 have g0 := fz HR1.out 0
 have g1 := fz HR1.out 1
 have g2 := fz HR1.out 2
 have x0' := hcell HR1.out 0 rfl
 have x1' := hcell HR1.out 1 rfl
 have x2' := hcell HR1.out 2 rfl
 have HLI : Hid (LiesAt 7 edC wr ga cp []) := oh (fun i hi => absurd hi (by simp))
 have FRX : Hid (∀ p, ga = some p → w.heap.size ≤ p.block ∧ p.block ≠ w.heap.size + 1 + 1) := oh (fun p hp => by have h := (HO1.out.lt p.block (by rw [hp]; rfl)).1; omega)
 have HRQ := HR1; go_wp2_with fail
 clear a0 a1 a2 x0' x1' x2' g0 g1 g2; have HR1 := HRQ
 have hs0 := heap_set (o := 0) (v := I6 sk) HR1.out
 have hs1 := heap_set (o := 1) (v := .slice ga 0 cp) hs0
 have hs2 := heap_set (o := 2) (v := I6 sr) hs1
 have q0 := Lib.cell_of_heap hs2 0
 have q1 := Lib.cell_of_heap hs2 1
 have q2 := Lib.cell_of_heap hs2 2
 simp at q0 q1 q2
 have HOZ : Hid (LiesAt 7 edC (((wr.setCell ⟨w.heap.size + 1 + 1, 0, none⟩ (I6 sk)).setCell ⟨w.heap.size + 1 + 1, 1, none⟩ (.slice ga 0 cp)).setCell ⟨w.heap.size + 1 + 1, 2, none⟩ (I6 sr)) ga cp _) := oh (HLI.out.keepRow ((((Kp.refl wr (some (w.heap.size + 1 + 1))).set (I6 sk)).set (.slice ga 0 cp)).set (I6 sr)) (fun p hp => (FRX.out p hp).2))
 have KF : Hid (Kp w (((wr.setCell ⟨w.heap.size + 1 + 1, 0, none⟩ (I6 sk)).setCell ⟨w.heap.size + 1 + 1, 1, none⟩ (.slice ga 0 cp)).setCell ⟨w.heap.size + 1 + 1, 2, none⟩ (I6 sr)) none) := oh (HK1.out.of_own ((((Kp.refl wr (some (w.heap.size + 1 + 1))).set (I6 sk)).set (.slice ga 0 cp)).set (I6 sr)) (by omega))
 clear hs0 hs1 hs2
 generalize (((wr.setCell ⟨w.heap.size + 1 + 1, 0, none⟩ (I6 sk)).setCell ⟨w.heap.size + 1 + 1, 1, none⟩ (.slice ga 0 cp)).setCell ⟨w.heap.size + 1 + 1, 2, none⟩ (I6 sr)) = wf at *
 exact bodyPost_ret (v := .agg #[I6 sk, .slice ga 0 cp, I6 sr]) (by simp [results, Tryz.results21, go_sem, q0, q1, q2]) rfl ⟨ga, cp, by show _ = Ending.returned (.agg #[I6 sk, .slice ga 0 cp, I6 sr]); rfl, HOZ.out, fun p hp => (FRX.out p hp).1, KF.out⟩
theorem zshape_any (sk sr : Int) (es : List Pl.Ed) (n : Nat) (hn : es.length = n) (ea : Option Addr) (ec : Nat) (w : World) (hes : LiesAt 7 edC w ea ec es) (hec : ea = none → ec = 0) (hn1 : n ≤ 1000) (he : ∀ e ∈ es, FitsE e) :
  Calls Tryz.prog 21 #[.agg #[I6 sk, .slice ea n ec, I6 sr], .agg #[I6 0, I6 0, I6 0, .bool false]] w (ShapeIs w ⟨sk, es, sr⟩) := by
 rcases Nat.eq_zero_or_pos n with rfl | h
 ·obtain rfl := List.length_eq_zero_iff.1 hn
  exact zshape_nil sk sr ea ec w hec
 ·exact zshape_pos sk sr es n hn ea ec w hes h hn1 he
def ZH (t : HT) : Prop := (t.ea = none → t.ec = 0) ∧ t.h.s.es.length ≤ 1000 ∧ ∀ e ∈ t.h.s.es, FitsE e
def ZMoved (w : World) (l : List Dl.Ho) (E : Ending) (w' : World) : Prop := ∃ (us : List HT) (v : Value), us.map (·.h) = l ∧ E = .returned v ∧ w'.ownsRow w.heap.size 52 6 v us.length (us.flatMap htC) ∧ (∀ t ∈ us, LiesOff 7 edC w' t.ea t.ec t.h.s.es v) ∧ Kp w w' none
def MzRel (ts : List HT) (n : Nat) (w : World) (v i : Value) (wr : World) : Prop := ∃ (k : Nat) (us : List HT), k ≤ n ∧ i = I6 (k : Int) ∧ us.length = k ∧ us.map (·.h) = (ts.take k).map (·.h) ∧ Kp w wr none ∧ wr.heap[w.heap.size]? = some (.cells #[I6 0, I6 0, I6 0, .bool false] 44 (0, 0)) ∧ wr.ownsRow w.heap.size 52 6 v k (us.flatMap htC) ∧ ∀ t ∈ us, LiesOff 7 edC wr t.ea t.ec t.h.s.es v
theorem zmove19 (ts : List HT) (n : Nat) (hn : ts.length = n) (ao : Option Addr) (cap : Nat) (w : World) (hl : HolesAt w ao cap ts) (hg : ∀ t ∈ ts, ZH t) (hn9 : n ≤ 1000) : Calls Tryz.prog 19 #[.slice ao n cap, .agg #[I6 0, I6 0, I6 0, .bool false]] w (ZMoved w (ts.map (·.h))) := by
 have FA := oh hl; have HN := oh hn; have HGG := oh hg
 obtain ⟨i0, hi, hz0, hz1, hz2⟩ := info_parts infoHole
 have HM0 := oh (heap_alloc_new w (.cells #[I6 0, I6 0, I6 0, .bool false] 44))
 have K0 := oh ((Kp.refl w none).alloc (.cells #[I6 0, I6 0, I6 0, .bool false] 44))
 clear hl hn hg
 go_enter Tryz.func19, Tryz.ntmps19
 go_wp2_with fail
 generalize w.alloc (.cells #[I6 0, I6 0, I6 0, .bool false] 44) = w0 at *
 go_loopw [5, 10] (fun v i wr => MzRel ts n w v i wr) (fun _ i _ => n - (intOf i).toNat)
 case atStart => exact ⟨0, [], Nat.zero_le _, rfl, rfl, by simp, K0.out, HM0.out, ⟨by rfl, .inl ⟨rfl, rfl⟩⟩, (fun t (h : t ∈ ([] : List HT)) => absurd h (by simp))⟩
 case round =>
  obtain ⟨k, us, hk, rfl, hlen, hmap, hK, hM, hO, hoff⟩ := hrel
  obtain ⟨ua, uc, rfl⟩ := own_slice hO
  have HK := oh hK; have HM := oh hM; have HOW := oh hO; have HLEN := oh hlen; have HMAP := oh hmap; have HOFF := oh hoff; clear hK hM hO hlen hmap hoff HM0 K0
  have hk0 := nn k
  have hn0 := nn n
  by_cases hlt : k < n
  ·have hk1 : (k : Int) < (n : Int) := by omega
   have hkl : k < ts.length := by rw [HN.out]; exact hlt
   obtain ⟨b, off, rfl, hcap, hbs, hcx⟩ := FA.out.ho (k := k) hkl
   have hca : n ≤ cap := by have := HN.out; omega
   have hle := FA.out.2 _ (List.getElem_mem hkl)
   have hgg := HGG.out _ (List.getElem_mem hkl)
   have hxx := hcx wr HK.out
   obtain ⟨x, hx⟩ : ∃ e, ts[k] = e := ⟨_, rfl⟩
   have HTK : Hid (ts.take (k + 1) = ts.take k ++ [x]) := oh (by rw [List.take_add_one, List.getElem?_eq_getElem hkl, hx]; rfl)
   rw [hx] at hle hgg hxx; obtain ⟨⟨⟨sk, es, sr⟩, f, tt, pl⟩, xa, xc⟩ := x
   dsimp only at hle hgg hxx
   unfold ZH at hgg
   try dsimp only at hgg
   obtain ⟨xn, hxn⟩ : ∃ q, es.length = q := ⟨_, rfl⟩
   rw [hxn] at hxx hgg
   have HSMV : Hid (∀ V, Kp w V none → Calls Tryz.prog 21 #[.agg #[I6 sk, .slice xa xn xc, I6 sr], .agg #[I6 0, I6 0, I6 0, .bool false]] V (ShapeIs V ⟨sk, es, sr⟩)) := oh fun V kv => zshape_any sk sr es xn hxn xa xc V (hle.keep kv) hgg.1 hgg.2.1 hgg.2.2
   obtain ⟨x0, x1, x2, x3, x4, x5⟩ := hxx; clear hle hgg hx hcx hxn hkl hcap; go_upto_region 5 with fail
   clear x0 x1 x2 x3 x4 x5
   have ka := (Kp.refl wr none).alloc (.cells #[I6 sk, .slice xa xn xc, I6 sr, I6 f, I6 tt, .bool pl] 52)
   have HH := oh (heap_alloc_new wr (.cells #[I6 sk, .slice xa xn xc, I6 sr, I6 f, I6 tt, .bool pl] 52))
   have K1 : Hid (Kp wr (wr.alloc (.cells #[I6 sk, .slice xa xn xc, I6 sr, I6 f, I6 tt, .bool pl] 52)) none) := oh ka
   have HM1 := oh (blk HM.out ka)
   obtain ⟨H, hH⟩ : ∃ z, wr.heap.size = z := ⟨_, rfl⟩
   have HHW : Hid (wr.heap.size ≤ H) := oh (by omega)
   have HHM : Hid (w.heap.size < H) := oh (by have := lt_of_block HM.out; omega)
   generalize wr.alloc (.cells #[I6 sk, .slice xa xn xc, I6 sr, I6 f, I6 tt, .bool pl] 52) = w1 at *
   rw [hH] at HH ⊢; clear hH ka
   have x0 := hcell HH.out 0 rfl
   have x1 := hcell HH.out 1 rfl
   have x2 := hcell HH.out 2 rfl
   have m0 := hcell HM1.out 0 rfl
   have m1 := hcell HM1.out 1 rfl
   have m2 := hcell HM1.out 2 rfl
   have m3 := hcell HM1.out 3 rfl
   go_wp2_with fail
   refine (HSMV.out _ (HK.out.trans K1.out)).mono ?_
   rintro E w2 ⟨ea, ec, rfl, hles, hfre, k2⟩; clear x0 x1 x2 m0 m1 m2 m3
   have HFR : Hid (∀ p, ea = some p → H < p.block) := oh (fun p hp => by have h1 := hfre p hp; have h2 := lt_of_block HH.out; omega)
   have HL0 := oh hles; have HH2 := oh (blk HH.out k2); have K2 := oh (K1.out.trans k2)
   try dsimp only at HL0 ⊢
   clear hles hfre k2 HH K1 HSMV
   have f0 := fz HH2.out 0
   have f1 := fz HH2.out 1
   have f2 := fz HH2.out 2
   have z0 := hcell HH2.out 0 rfl
   have z1 := hcell HH2.out 1 rfl
   have z2 := hcell HH2.out 2 rfl
   go_upto_region 6 with fail
   have HS : Hid ((((w2.setCell ⟨H, 0, none⟩ (I6 sk)).setCell ⟨H, 1, none⟩ (.slice ea es.length ec)).setCell ⟨H, 2, none⟩ (I6 sr)).heap[H]? = some (.cells #[I6 sk, .slice ea es.length ec, I6 sr, I6 f, I6 tt, .bool pl] 52 (0, 0))) := oh (heap_set (o := 2) (v := I6 sr) (heap_set (o := 1) (v := .slice ea es.length ec) (heap_set (o := 0) (v := I6 sk) HH2.out)))
   have ks : Kp w2 (((w2.setCell ⟨H, 0, none⟩ (I6 sk)).setCell ⟨H, 1, none⟩ (.slice ea es.length ec)).setCell ⟨H, 2, none⟩ (I6 sr)) (some H) := (((Kp.refl w2 (some H)).set _).set _).set _
   have KS := oh (Kp.of_own K2.out ks HHW.out)
   have HLS := oh (HL0.out.keepRow ks (fun p hp => by have := HFR.out p hp; omega))
   clear f0 f1 f2 z0 z1 z2 ks HH2 HL0 K2
   generalize ((w2.setCell ⟨H, 0, none⟩ (I6 sk)).setCell ⟨H, 1, none⟩ (.slice ea es.length ec)).setCell ⟨H, 2, none⟩ (I6 sr) = Y at *
   have x0 := hcell HS.out 0 rfl
   have x1 := hcell HS.out 1 rfl
   have x2 := hcell HS.out 2 rfl
   have x3 := hcell HS.out 3 rfl
   have x4 := hcell HS.out 4 rfl
   have x5 := hcell HS.out 5 rfl
   have ka := (Kp.refl Y none).alloc (.cells #[I6 sk, .slice ea es.length ec, I6 sr, I6 f, I6 tt, .bool pl] 52)
   have KA := oh (KS.out.trans ka)
   have HLO : Hid (LiesOff 7 edC (Y.alloc (.cells #[I6 sk, .slice ea es.length ec, I6 sr, I6 f, I6 tt, .bool pl] 52)) ea ec es (.slice ua k uc)) := oh (lies_off_fresh (w := wr) (HLS.out.keep ka) (fun q hq => (HOW.out.lt q hq).2) (fun p hp => by have h1 := HFR.out p hp; have h2 := HHW.out; omega))
   have HDL : Hid (IsList 6 htC (Y.alloc (.cells #[I6 sk, .slice ea es.length ec, I6 sr, I6 f, I6 tt, .bool pl] 52)) (.slice (some ⟨Y.heap.size, 0, none⟩) 1 1) [(⟨⟨⟨sk, es, sr⟩, f, tt, pl⟩, ea, ec⟩ : HT)]) := oh (hole_list (w := Y) (⟨⟨⟨sk, es, sr⟩, f, tt, pl⟩, ea, ec⟩ : HT))
   clear ka; have HOWA := oh (own_kp HOW.out KA.out)
   go_wp2_with (at_builtin; go_must (refine wpList_app (f := htC) (by rfl) (.tmp 19) (.tmp 21) w.heap.size 30 52 (by rfl) i0 _ 6 64 Tryz.underlying30 hi hz0 hz1 hz2 rfl (by omega) (fun _ => rfl) ht_one (.slice ua k uc) k (us.flatMap htC) (by rfl) HOWA.out _ [(⟨⟨⟨sk, es, sr⟩, f, tt, pl⟩, ea, ec⟩ : HT)] (by rfl) HDL.out (by unfold maxLen; simp; omega) (by simp; omega) (HK.out.trans KA.out).size ?_))
   intro v3 w3 ho hg hbb
   obtain ⟨ea3, ec3, rfl⟩ := own_slice ho
   have HO3 := oh ho
   have K3 : Hid (Kp w w3 none) := oh (Kp.row (HK.out.trans KA.out) hg (fun q hq => (HOWA.out.lt q hq).1))
   have HM3 := oh (res_kept (blk HM.out KA.out) hg (fun q hq e => own_not HOWA.out (blk HM.out KA.out) (by decide) (by rw [hq, e])))
   have HT3 : Hid (∀ t ∈ us ++ [(⟨⟨⟨sk, es, sr⟩, f, tt, pl⟩, ea, ec⟩ : HT)], LiesOff 7 edC w3 t.ea t.ec t.h.s.es (.slice ea3 (k + 1) ec3)) := oh (fun t ht => by
    have hv : (Value.slice ea3 (k + 1) ec3).ownBlock = (Value.slice ua k uc).ownBlock ∨ ∃ n, (Y.alloc (.cells #[I6 sk, .slice ea es.length ec, I6 sr, I6 f, I6 tt, .bool pl] 52)).heap.size ≤ n ∧ (Value.slice ea3 (k + 1) ec3).ownBlock = some n := by
     rcases hbb with hbb | hbb
     ·exact .inl hbb
     ·exact .inr ⟨Y.heap.size + 1, by simp, hbb⟩
    rcases List.mem_append.1 ht with ht | ht
    ·exact ((HOFF.out t ht).keep (KA.out.weak _)).turn hg hv
    ·rw [List.mem_singleton.1 ht]; exact HLO.out.turn hg hv)
   have HREL : Hid (MzRel ts n w (.slice ea3 (k + 1) ec3) (I6 ((k : Int) + 1)) w3) := oh ⟨k + 1, us ++ [(⟨⟨⟨sk, es, sr⟩, f, tt, pl⟩, ea, ec⟩ : HT)], hlt, by push_cast; rfl, by rw [List.length_append, HLEN.out]; rfl, by rw [List.map_append, HMAP.out, HTK.out, List.map_append, List.map_cons, List.map_nil, List.map_cons, List.map_nil], K3.out, HM3.out, (by have h := HO3.out; rw [List.flatMap_append]; exact h), HT3.out⟩
   have HME : Hid (n - (intOf (I6 ((k : Int) + 1))).toNat < n - (intOf (I6 (k : Int))).toNat) := oh (by simp [intOf]; omega)
   clear ho hg hbb HO3 HT3 K3 KA HOWA HLO HDL x0 x1 x2 x3 x4 x5 HM3; go_wp2_with fail
   try rw [wrap_mid (n := (k : Int) + 1) (by omega) (by omega)]
   first | exact ⟨HREL.out, HME.out⟩ | (go_roundw; all_goals first | exact HREL.out | exact HME.out)
  ·have hkn : k = n := by omega
   subst hkn
   have HF : Hid (us.map (·.h) = ts.map (·.h)) := oh (by rw [HMAP.out, List.take_of_length_le (by have := HN.out; omega)])
   go_wp2_with fail
   go_ret
   exact ⟨us, _, HF.out, rfl, by rw [HLEN.out]; exact HOW.out, HOFF.out, HK.out⟩
end Go.Proofs.YtljjbdbgedmadaaGreatDoor
