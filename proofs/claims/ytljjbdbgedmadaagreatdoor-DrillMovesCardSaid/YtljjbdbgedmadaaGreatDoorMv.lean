/- Edges moved (edge.Move). Condition: coordinates of at most 2^61. -/
import Derived.Test.YtljjbdbgedmadaaGreatDoorMk
import Derived.Deep.CutBlock
import Derived.Deep.CutRange
import Derived.Test.YtljjbdbgedmadaaGreatDoorCk
namespace Go.Proofs.YtljjbdbgedmadaaGreatDoor
open Go.RowKit

set_option maxHeartbeats 8000000 in
set_option maxRecDepth 100000 in
theorem emove_1false (ax ay bx bY cx cy mx my t : Int) (w : World) (h1 : Mid ax) (h2 : Mid ay) (h3 : Mid bx) (h4 : Mid bY) (h5 : Mid cx) (h6 : Mid cy) (h7 : Mid mx) (h8 : Mid my) :
  Calls Tryz.prog 57 #[.agg #[.int .i64 1, .int .i64 ax, .int .i64 ay, .int .i64 bx, .int .i64 bY, .int .i64 cx, .int .i64 cy], .agg #[.int .i64 mx, .int .i64 my, .int .i64 t, .bool false]] w fun E w' => E = .returned (.agg #[.int .i64 1, .int .i64 (Pl.apply ⟨⟨mx, my⟩, t, false⟩ ⟨ax, ay⟩).x, .int .i64 (Pl.apply ⟨⟨mx, my⟩, t, false⟩ ⟨ax, ay⟩).y, .int .i64 (Pl.apply ⟨⟨mx, my⟩, t, false⟩ ⟨bx, bY⟩).x, .int .i64 (Pl.apply ⟨⟨mx, my⟩, t, false⟩ ⟨bx, bY⟩).y, .int .i64 cx, .int .i64 cy]) ∧ Kp w w' none := by
 obtain ⟨fb, hfb⟩ : ∃ fb, decide (Pl.chkE ⟨1, ⟨ax, ay⟩, ⟨bx, bY⟩, ⟨cx, cy⟩⟩ = 0) = fb := ⟨_, rfl⟩
 have HOF : Hid (∀ V, Calls Tryz.prog 104 #[.agg #[.int .i64 1, .int .i64 ax, .int .i64 ay, .int .i64 bx, .int .i64 bY, .int .i64 cx, .int .i64 cy]] V fun E w' => E = .returned (.tuple #[.agg #[.func (.func 191) #[] #[], .func (.func 192) #[] #[], .func (.func 193) #[] #[], .int .i64 1], .bool fb]) ∧ Kp V w' none) := Lib.hid (fun V => by rw [← hfb]; exact of_any ⟨1, ⟨ax, ay⟩, ⟨bx, bY⟩, ⟨cx, cy⟩⟩ V)
 have HA := Lib.hid (fun V => apply_any ⟨⟨mx, my⟩, t, false⟩ ⟨ax, ay⟩ V h1 h2 h7 h8)
 have HB := Lib.hid (fun V => apply_any ⟨⟨mx, my⟩, t, false⟩ ⟨bx, bY⟩ V h3 h4 h7 h8)
 have HC := Lib.hid (fun V => apply_any ⟨⟨mx, my⟩, t, false⟩ ⟨cx, cy⟩ V h5 h6 h7 h8)
 dsimp only at HA HB HC
 clear hfb h1 h2 h3 h4 h5 h6 h7 h8
 generalize (Pl.apply ⟨⟨mx, my⟩, t, false⟩ ⟨ax, ay⟩).x = qx at *
 generalize (Pl.apply ⟨⟨mx, my⟩, t, false⟩ ⟨ax, ay⟩).y = qy at *
 generalize (Pl.apply ⟨⟨mx, my⟩, t, false⟩ ⟨bx, bY⟩).x = rx at *
 generalize (Pl.apply ⟨⟨mx, my⟩, t, false⟩ ⟨bx, bY⟩).y = ry at *
 generalize (Pl.apply ⟨⟨mx, my⟩, t, false⟩ ⟨cx, cy⟩).x = px at *
 generalize (Pl.apply ⟨⟨mx, my⟩, t, false⟩ ⟨cx, cy⟩).y = py at *
 go_enter Tryz.func57, Tryz.ntmps57
 go_wp2_with fail
 have HE0 : Hid ((((w.alloc (Obj.cells #[.int .i64 1, .int .i64 ax, .int .i64 ay, .int .i64 bx, .int .i64 bY, .int .i64 cx, .int .i64 cy] 123)).alloc (Obj.cells #[.int .i64 mx, .int .i64 my, .int .i64 t, .bool false] 44)).alloc (Obj.cells #[.int .i64 0, .int .i64 0, .int .i64 0, .int .i64 0, .int .i64 0, .int .i64 0, .int .i64 0] 123)).heap[w.heap.size]? = some (Obj.cells #[.int .i64 1, .int .i64 ax, .int .i64 ay, .int .i64 bx, .int .i64 bY, .int .i64 cx, .int .i64 cy] 123 (0, 0))) := Lib.hid (blk (heap_alloc_new w _) (((Kp.refl _ none).alloc _).alloc _))
 have HM0 : Hid ((((w.alloc (Obj.cells #[.int .i64 1, .int .i64 ax, .int .i64 ay, .int .i64 bx, .int .i64 bY, .int .i64 cx, .int .i64 cy] 123)).alloc (Obj.cells #[.int .i64 mx, .int .i64 my, .int .i64 t, .bool false] 44)).alloc (Obj.cells #[.int .i64 0, .int .i64 0, .int .i64 0, .int .i64 0, .int .i64 0, .int .i64 0, .int .i64 0] 123)).heap[w.heap.size + 1]? = some (Obj.cells #[.int .i64 mx, .int .i64 my, .int .i64 t, .bool false] 44 (0, 0))) := Lib.hid (blk (w := (w.alloc (Obj.cells #[.int .i64 1, .int .i64 ax, .int .i64 ay, .int .i64 bx, .int .i64 bY, .int .i64 cx, .int .i64 cy] 123)).alloc (Obj.cells #[.int .i64 mx, .int .i64 my, .int .i64 t, .bool false] 44)) (by have h := heap_alloc_new (w.alloc (Obj.cells #[.int .i64 1, .int .i64 ax, .int .i64 ay, .int .i64 bx, .int .i64 bY, .int .i64 cx, .int .i64 cy] 123)) (Obj.cells #[.int .i64 mx, .int .i64 my, .int .i64 t, .bool false] 44); simpa using h) ((Kp.refl _ none).alloc _))
 have HR0 : Hid ((((w.alloc (Obj.cells #[.int .i64 1, .int .i64 ax, .int .i64 ay, .int .i64 bx, .int .i64 bY, .int .i64 cx, .int .i64 cy] 123)).alloc (Obj.cells #[.int .i64 mx, .int .i64 my, .int .i64 t, .bool false] 44)).alloc (Obj.cells #[.int .i64 0, .int .i64 0, .int .i64 0, .int .i64 0, .int .i64 0, .int .i64 0, .int .i64 0] 123)).heap[w.heap.size + 1 + 1]? = some (Obj.cells #[.int .i64 0, .int .i64 0, .int .i64 0, .int .i64 0, .int .i64 0, .int .i64 0, .int .i64 0] 123 (0, 0))) := Lib.hid (by have h := heap_alloc_new ((w.alloc (Obj.cells #[.int .i64 1, .int .i64 ax, .int .i64 ay, .int .i64 bx, .int .i64 bY, .int .i64 cx, .int .i64 cy] 123)).alloc (Obj.cells #[.int .i64 mx, .int .i64 my, .int .i64 t, .bool false] 44)) (Obj.cells #[.int .i64 0, .int .i64 0, .int .i64 0, .int .i64 0, .int .i64 0, .int .i64 0, .int .i64 0] 123); simpa using h)
 have KA0 : Hid (Kp w (((w.alloc (Obj.cells #[.int .i64 1, .int .i64 ax, .int .i64 ay, .int .i64 bx, .int .i64 bY, .int .i64 cx, .int .i64 cy] 123)).alloc (Obj.cells #[.int .i64 mx, .int .i64 my, .int .i64 t, .bool false] 44)).alloc (Obj.cells #[.int .i64 0, .int .i64 0, .int .i64 0, .int .i64 0, .int .i64 0, .int .i64 0, .int .i64 0] 123)) none) := Lib.hid ((((Kp.refl w none).alloc _).alloc _).alloc _)
 refine (HOF.out _).mono ?_
 rintro E w1 ⟨rfl, k1⟩
 have KA1 := Lib.hid (KA0.out.trans k1)
 have HE1 := Lib.hid (blk HE0.out k1)
 have HM1 := Lib.hid (blk HM0.out k1)
 have HR1 := Lib.hid (blk HR0.out k1)
 clear k1 HE0 HM0 HR0 KA0
 have kf : Kp w1 (w1.alloc (Obj.cells #[.func (.func 191) #[] #[], .func (.func 192) #[] #[], .func (.func 193) #[] #[], .int .i64 1] 201)) none := (Kp.refl w1 none).alloc _
 have m3 := hcell (blk HM1.out kf) 3 rfl
 have e0 := hcell (blk HE1.out kf) 0 rfl
 have HFB := hcell (heap_alloc_new w1 (Obj.cells #[.func (.func 191) #[] #[], .func (.func 192) #[] #[], .func (.func 193) #[] #[], .int .i64 1] 201)) 3 rfl
 go_upto_region 4 with fail
 have HE2 := Lib.hid (blk HE1.out kf)
 have HM2 := Lib.hid (blk HM1.out kf)
 have HR2 := Lib.hid (blk HR1.out kf)
 have KA2 := Lib.hid (KA1.out.trans kf)
 clear kf m3 e0 HFB HE1 HM1 HR1 KA1
 generalize w1.alloc (Obj.cells #[.func (.func 191) #[] #[], .func (.func 192) #[] #[], .func (.func 193) #[] #[], .int .i64 1] 201) = w2 at *
 have e0 := hcell HE2.out 0 rfl
 go_upto_region 6 with fail
 clear e0
 have HE := HE2
 have HM := HM2
 have HR := HR2
 have KA := KA2
 clear HE2 HM2 HR2 KA2
 have hw4 : ∃ w4, w4 = w2 := ⟨_, rfl⟩
 obtain ⟨w4, rfl⟩ := hw4
 have HE_ := Lib.hid (blk HE.out (Kp.refl w4 none).drew)
 have HM_ := Lib.hid (blk HM.out (Kp.refl w4 none).drew)
 have HR_ := Lib.hid (blk HR.out (Kp.refl w4 none).drew)
 have KA_ := Lib.hid (KA.out.trans (Kp.refl w4 none).drew)
 clear HE HM HR KA
 refine wp_region_last (fun V => V.cell? ⟨w.heap.size + 1, 0, none⟩ = some (.int .i64 mx) ∧ V.cell? ⟨w.heap.size + 1, 1, none⟩ = some (.int .i64 my) ∧ V.cell? ⟨w.heap.size + 1, 2, none⟩ = some (.int .i64 t) ∧ V.cell? ⟨w.heap.size + 1, 3, none⟩ = some (.bool false) ∧ V.cell? ⟨w.heap.size, 3, none⟩ = some (.int .i64 bx) ∧ V.cell? ⟨w.heap.size, 4, none⟩ = some (.int .i64 bY) ∧ True) 11 (by kernel_rfl) ?_ (fun hHeld => ?_)
 ·exact ⟨hcell HM_.out 0 rfl, hcell HM_.out 1 rfl, hcell HM_.out 2 rfl, hcell HM_.out 3 rfl, hcell HE_.out 3 rfl, hcell HE_.out 4 rfl, trivial⟩
 refine tkL 0 rfl ?_
 try simp only [Act.put, sm]
 refine tkL 1 rfl ?_
 try simp only [Act.put, sm]
 refine tkL 4 rfl ?_
 try simp only [Act.put, sm]
 refine tkL 5 rfl ?_
 try simp only [Act.put, sm]
 refine tkL 6 rfl ?_
 try simp only [Act.put, sm]
 refine wpAnyL_ready (rs := [2]) (by kernel_rfl) (by simp) ?_
 refine AllReadyL.cons (o := _) rfl (fun K hK => ?_) AllReadyL.nil
 have gK := hHeld
 clear hHeld
 clear gK
 have e1 := hcell HE_.out 1 rfl
 have e2 := hcell HE_.out 2 rfl
 go_simp
 clear e1 e2
 try go_wp2_with fail
 refine hK.out _ _ ?_ (fun hHeld => ?_)
 ·exact ⟨hcell HM_.out 0 rfl, hcell HM_.out 1 rfl, hcell HM_.out 2 rfl, hcell HM_.out 3 rfl, hcell HE_.out 3 rfl, hcell HE_.out 4 rfl, trivial⟩
 clear hK K
 try simp only [Act.put, sm]
 refine wpAnyL_ready (rs := [3]) (by kernel_rfl) (by simp) ?_
 refine AllReadyL.cons (o := _) rfl (fun K hK => ?_) AllReadyL.nil
 have gK := hHeld
 clear hHeld
 clear gK
 go_simp
 refine (HA.out _).mono ?_
 rintro E w5 ⟨rfl, kk⟩
 have HE_n := Lib.hid (blk HE_.out kk)
 have HM_n := Lib.hid (blk HM_.out kk)
 have HR_n := Lib.hid (blk HR_.out kk)
 have KA_n := Lib.hid (KA_.out.trans kk)
 clear kk HE_ HM_ HR_ KA_
 have HE_ := HE_n
 have HM_ := HM_n
 have HR_ := HR_n
 have KA_ := KA_n
 clear HE_n HM_n HR_n KA_n
 try go_wp2_with fail
 refine hK.out _ _ ?_ (fun hHeld => ?_)
 ·exact ⟨hcell HM_.out 0 rfl, hcell HM_.out 1 rfl, hcell HM_.out 2 rfl, hcell HM_.out 3 rfl, hcell HE_.out 3 rfl, hcell HE_.out 4 rfl, trivial⟩
 clear hK K
 try simp only [Act.put, sm]
 refine tkL 8 rfl ?_
 try simp only [Act.put, sm]
 refine wpAnyL_ready (rs := [7]) (by kernel_rfl) (by simp) ?_
 refine AllReadyL.cons (o := _) rfl (fun K hK => ?_) AllReadyL.nil
 have gK := hHeld
 clear hHeld
 clear gK
 go_simp
 refine (HB.out _).mono ?_
 rintro E w6 ⟨rfl, kk⟩
 have HE_n := Lib.hid (blk HE_.out kk)
 have HM_n := Lib.hid (blk HM_.out kk)
 have HR_n := Lib.hid (blk HR_.out kk)
 have KA_n := Lib.hid (KA_.out.trans kk)
 clear kk HE_ HM_ HR_ KA_
 have HE_ := HE_n
 have HM_ := HM_n
 have HR_ := HR_n
 have KA_ := KA_n
 clear HE_n HM_n HR_n KA_n
 try go_wp2_with fail
 refine hK.out _ _ ?_ (fun hHeld => ?_)
 ·exact ⟨hcell HM_.out 0 rfl, hcell HM_.out 1 rfl, hcell HM_.out 2 rfl, hcell HM_.out 3 rfl, hcell HE_.out 3 rfl, hcell HE_.out 4 rfl, trivial⟩
 clear hK K
 try simp only [Act.put, sm]
 refine wpAnyL_ready (rs := [9]) (by kernel_rfl) (by simp) ?_
 refine AllReadyL.cons (o := _) rfl (fun K hK => ?_) AllReadyL.nil
 have gK := hHeld
 clear hHeld
 clear gK
 have e1 := hcell HE_.out 1 rfl
 have e2 := hcell HE_.out 2 rfl
 have f1 := Lib.frozen_of_heap HE_.out 1
 have f2 := Lib.frozen_of_heap HE_.out 2
 go_simp
 try go_wp2_with fail
 clear e1 e2 f1 f2
 have hs := heap_set (o := 2) (v := .int .i64 qy) (heap_set (o := 1) (v := .int .i64 qx) HE_.out)
 simp at hs
 have kz := ((Kp.refl w6 (some (w.heap.size))).set (o := 1) (.int .i64 qx)).set (o := 2) (.int .i64 qy)
 have HEn := Lib.hid hs
 have HMn := Lib.hid ((kz.block _ (lt_of_block HM_.out) (by intro q; have := Option.some.inj q; omega)).trans HM_.out)
 have HRn := Lib.hid ((kz.block _ (lt_of_block HR_.out) (by intro q; have := Option.some.inj q; omega)).trans HR_.out)
 have KAn := Lib.hid (KA_.out.of_own kz (Nat.le_refl _))
 clear hs kz HE_ HM_ HR_ KA_
 try go_wp2_with fail
 refine hK.out _ _ ?_ (fun hHeld => ?_)
 ·exact ⟨hcell HMn.out 0 rfl, hcell HMn.out 1 rfl, hcell HMn.out 2 rfl, hcell HMn.out 3 rfl, hcell HEn.out 3 rfl, hcell HEn.out 4 rfl, trivial⟩
 clear hK K
 try simp only [Act.put, sm]
 refine tkL 10 rfl ?_
 try simp only [Act.put, sm]
 generalize hw7 : (w6.setCell ⟨w.heap.size, 1, none⟩ (.int .i64 qx)).setCell ⟨w.heap.size, 2, none⟩ (.int .i64 qy) = w7 at *
 clear hw7
 refine wpAnyL_ready (rs := [11]) (by kernel_rfl) (by simp) ?_
 refine AllReadyL.last (o := _) rfl (fun K hK => ?_)
 have e3 := hcell HEn.out 3 rfl
 have e4 := hcell HEn.out 4 rfl
 have f3 := Lib.frozen_of_heap HEn.out 3
 have f4 := Lib.frozen_of_heap HEn.out 4
 clear hHeld
 go_simp
 try go_wp2_with fail
 refine hK.out _ _ ?_
 clear hK K
 try simp only [Act.put, sm]
 clear e3 e4 f3 f4
 have hs := heap_set (o := 4) (v := .int .i64 ry) (heap_set (o := 3) (v := .int .i64 rx) HEn.out)
 simp at hs
 have kz := ((Kp.refl w7 (some (w.heap.size))).set (o := 3) (.int .i64 rx)).set (o := 4) (.int .i64 ry)
 have HEz := Lib.hid hs
 have HRz := Lib.hid ((kz.block _ (lt_of_block HRn.out) (by intro q; have := Option.some.inj q; omega)).trans HRn.out)
 have KAz := Lib.hid (KAn.out.of_own kz (Nat.le_refl _))
 clear hs kz HEn HMn HRn KAn
 generalize (w7.setCell ⟨w.heap.size, 3, none⟩ (.int .i64 rx)).setCell ⟨w.heap.size, 4, none⟩ (.int .i64 ry) = w8 at *
 refine wpAnyL_done (by kernel_rfl) ?_ _
 have e0 := hcell HEz.out 0 rfl
 have e1 := hcell HEz.out 1 rfl
 have e2 := hcell HEz.out 2 rfl
 have e3 := hcell HEz.out 3 rfl
 have e4 := hcell HEz.out 4 rfl
 have e5 := hcell HEz.out 5 rfl
 have e6 := hcell HEz.out 6 rfl
 have x0 := hcell HRz.out 0 rfl
 have x1 := hcell HRz.out 1 rfl
 have x2 := hcell HRz.out 2 rfl
 have x3 := hcell HRz.out 3 rfl
 have x4 := hcell HRz.out 4 rfl
 have x5 := hcell HRz.out 5 rfl
 have x6 := hcell HRz.out 6 rfl
 have f0 := Lib.frozen_of_heap HRz.out 0
 have f1 := Lib.frozen_of_heap HRz.out 1
 have f2 := Lib.frozen_of_heap HRz.out 2
 have f3 := Lib.frozen_of_heap HRz.out 3
 have f4 := Lib.frozen_of_heap HRz.out 4
 have f5 := Lib.frozen_of_heap HRz.out 5
 have f6 := Lib.frozen_of_heap HRz.out 6
 go_wp2_with fail
 have hst := heap_seven2 HRz.out (.int .i64 1) (.int .i64 qx) (.int .i64 qy) (.int .i64 rx) (.int .i64 ry) (.int .i64 cx) (.int .i64 cy)
 have KF := Lib.hid (KAz.out.of_own hst.2 (by omega))
 have q0 := hcell hst.1 0 rfl
 have q1 := hcell hst.1 1 rfl
 have q2 := hcell hst.1 2 rfl
 have q3 := hcell hst.1 3 rfl
 have q4 := hcell hst.1 4 rfl
 have q5 := hcell hst.1 5 rfl
 have q6 := hcell hst.1 6 rfl
 clear hst e0 x0 f0 e1 x1 f1 e2 x2 f2 e3 x3 f3 e4 x4 f4 e5 x5 f5 e6 x6 f6 HEz HRz KAz
 generalize (((((((w8.setCell ⟨w.heap.size + 1 + 1, 0, none⟩ (.int .i64 1)).setCell ⟨w.heap.size + 1 + 1, 1, none⟩ (.int .i64 qx)).setCell ⟨w.heap.size + 1 + 1, 2, none⟩ (.int .i64 qy)).setCell ⟨w.heap.size + 1 + 1, 3, none⟩ (.int .i64 rx)).setCell ⟨w.heap.size + 1 + 1, 4, none⟩ (.int .i64 ry)).setCell ⟨w.heap.size + 1 + 1, 5, none⟩ (.int .i64 cx)).setCell ⟨w.heap.size + 1 + 1, 6, none⟩ (.int .i64 cy)) = wf at *
 exact bodyPost_ret (v := .agg #[.int .i64 1, .int .i64 qx, .int .i64 qy, .int .i64 rx, .int .i64 ry, .int .i64 cx, .int .i64 cy]) (by simp [results, Tryz.results57, go_sem, q0, q1, q2, q3, q4, q5, q6]) rfl ⟨rfl, KF.out⟩

set_option maxHeartbeats 8000000 in
set_option maxRecDepth 100000 in
theorem emove_1true (ax ay bx bY cx cy mx my t : Int) (w : World) (h1 : Mid ax) (h2 : Mid ay) (h3 : Mid bx) (h4 : Mid bY) (h5 : Mid cx) (h6 : Mid cy) (h7 : Mid mx) (h8 : Mid my) :
  Calls Tryz.prog 57 #[.agg #[.int .i64 1, .int .i64 ax, .int .i64 ay, .int .i64 bx, .int .i64 bY, .int .i64 cx, .int .i64 cy], .agg #[.int .i64 mx, .int .i64 my, .int .i64 t, .bool true]] w fun E w' => E = .returned (.agg #[.int .i64 1, .int .i64 (Pl.apply ⟨⟨mx, my⟩, t, true⟩ ⟨ax, ay⟩).x, .int .i64 (Pl.apply ⟨⟨mx, my⟩, t, true⟩ ⟨ax, ay⟩).y, .int .i64 (Pl.apply ⟨⟨mx, my⟩, t, true⟩ ⟨bx, bY⟩).x, .int .i64 (Pl.apply ⟨⟨mx, my⟩, t, true⟩ ⟨bx, bY⟩).y, .int .i64 cx, .int .i64 cy]) ∧ Kp w w' none := by
 obtain ⟨fb, hfb⟩ : ∃ fb, decide (Pl.chkE ⟨1, ⟨ax, ay⟩, ⟨bx, bY⟩, ⟨cx, cy⟩⟩ = 0) = fb := ⟨_, rfl⟩
 have HOF : Hid (∀ V, Calls Tryz.prog 104 #[.agg #[.int .i64 1, .int .i64 ax, .int .i64 ay, .int .i64 bx, .int .i64 bY, .int .i64 cx, .int .i64 cy]] V fun E w' => E = .returned (.tuple #[.agg #[.func (.func 191) #[] #[], .func (.func 192) #[] #[], .func (.func 193) #[] #[], .int .i64 1], .bool fb]) ∧ Kp V w' none) := Lib.hid (fun V => by rw [← hfb]; exact of_any ⟨1, ⟨ax, ay⟩, ⟨bx, bY⟩, ⟨cx, cy⟩⟩ V)
 have HA := Lib.hid (fun V => apply_any ⟨⟨mx, my⟩, t, true⟩ ⟨ax, ay⟩ V h1 h2 h7 h8)
 have HB := Lib.hid (fun V => apply_any ⟨⟨mx, my⟩, t, true⟩ ⟨bx, bY⟩ V h3 h4 h7 h8)
 have HC := Lib.hid (fun V => apply_any ⟨⟨mx, my⟩, t, true⟩ ⟨cx, cy⟩ V h5 h6 h7 h8)
 dsimp only at HA HB HC
 clear hfb h1 h2 h3 h4 h5 h6 h7 h8
 generalize (Pl.apply ⟨⟨mx, my⟩, t, true⟩ ⟨ax, ay⟩).x = qx at *
 generalize (Pl.apply ⟨⟨mx, my⟩, t, true⟩ ⟨ax, ay⟩).y = qy at *
 generalize (Pl.apply ⟨⟨mx, my⟩, t, true⟩ ⟨bx, bY⟩).x = rx at *
 generalize (Pl.apply ⟨⟨mx, my⟩, t, true⟩ ⟨bx, bY⟩).y = ry at *
 generalize (Pl.apply ⟨⟨mx, my⟩, t, true⟩ ⟨cx, cy⟩).x = px at *
 generalize (Pl.apply ⟨⟨mx, my⟩, t, true⟩ ⟨cx, cy⟩).y = py at *
 go_enter Tryz.func57, Tryz.ntmps57
 go_wp2_with fail
 have HE0 : Hid ((((w.alloc (Obj.cells #[.int .i64 1, .int .i64 ax, .int .i64 ay, .int .i64 bx, .int .i64 bY, .int .i64 cx, .int .i64 cy] 123)).alloc (Obj.cells #[.int .i64 mx, .int .i64 my, .int .i64 t, .bool true] 44)).alloc (Obj.cells #[.int .i64 0, .int .i64 0, .int .i64 0, .int .i64 0, .int .i64 0, .int .i64 0, .int .i64 0] 123)).heap[w.heap.size]? = some (Obj.cells #[.int .i64 1, .int .i64 ax, .int .i64 ay, .int .i64 bx, .int .i64 bY, .int .i64 cx, .int .i64 cy] 123 (0, 0))) := Lib.hid (blk (heap_alloc_new w _) (((Kp.refl _ none).alloc _).alloc _))
 have HM0 : Hid ((((w.alloc (Obj.cells #[.int .i64 1, .int .i64 ax, .int .i64 ay, .int .i64 bx, .int .i64 bY, .int .i64 cx, .int .i64 cy] 123)).alloc (Obj.cells #[.int .i64 mx, .int .i64 my, .int .i64 t, .bool true] 44)).alloc (Obj.cells #[.int .i64 0, .int .i64 0, .int .i64 0, .int .i64 0, .int .i64 0, .int .i64 0, .int .i64 0] 123)).heap[w.heap.size + 1]? = some (Obj.cells #[.int .i64 mx, .int .i64 my, .int .i64 t, .bool true] 44 (0, 0))) := Lib.hid (blk (w := (w.alloc (Obj.cells #[.int .i64 1, .int .i64 ax, .int .i64 ay, .int .i64 bx, .int .i64 bY, .int .i64 cx, .int .i64 cy] 123)).alloc (Obj.cells #[.int .i64 mx, .int .i64 my, .int .i64 t, .bool true] 44)) (by have h := heap_alloc_new (w.alloc (Obj.cells #[.int .i64 1, .int .i64 ax, .int .i64 ay, .int .i64 bx, .int .i64 bY, .int .i64 cx, .int .i64 cy] 123)) (Obj.cells #[.int .i64 mx, .int .i64 my, .int .i64 t, .bool true] 44); simpa using h) ((Kp.refl _ none).alloc _))
 have HR0 : Hid ((((w.alloc (Obj.cells #[.int .i64 1, .int .i64 ax, .int .i64 ay, .int .i64 bx, .int .i64 bY, .int .i64 cx, .int .i64 cy] 123)).alloc (Obj.cells #[.int .i64 mx, .int .i64 my, .int .i64 t, .bool true] 44)).alloc (Obj.cells #[.int .i64 0, .int .i64 0, .int .i64 0, .int .i64 0, .int .i64 0, .int .i64 0, .int .i64 0] 123)).heap[w.heap.size + 1 + 1]? = some (Obj.cells #[.int .i64 0, .int .i64 0, .int .i64 0, .int .i64 0, .int .i64 0, .int .i64 0, .int .i64 0] 123 (0, 0))) := Lib.hid (by have h := heap_alloc_new ((w.alloc (Obj.cells #[.int .i64 1, .int .i64 ax, .int .i64 ay, .int .i64 bx, .int .i64 bY, .int .i64 cx, .int .i64 cy] 123)).alloc (Obj.cells #[.int .i64 mx, .int .i64 my, .int .i64 t, .bool true] 44)) (Obj.cells #[.int .i64 0, .int .i64 0, .int .i64 0, .int .i64 0, .int .i64 0, .int .i64 0, .int .i64 0] 123); simpa using h)
 have KA0 : Hid (Kp w (((w.alloc (Obj.cells #[.int .i64 1, .int .i64 ax, .int .i64 ay, .int .i64 bx, .int .i64 bY, .int .i64 cx, .int .i64 cy] 123)).alloc (Obj.cells #[.int .i64 mx, .int .i64 my, .int .i64 t, .bool true] 44)).alloc (Obj.cells #[.int .i64 0, .int .i64 0, .int .i64 0, .int .i64 0, .int .i64 0, .int .i64 0, .int .i64 0] 123)) none) := Lib.hid ((((Kp.refl w none).alloc _).alloc _).alloc _)
 refine (HOF.out _).mono ?_
 rintro E w1 ⟨rfl, k1⟩
 have KA1 := Lib.hid (KA0.out.trans k1)
 have HE1 := Lib.hid (blk HE0.out k1)
 have HM1 := Lib.hid (blk HM0.out k1)
 have HR1 := Lib.hid (blk HR0.out k1)
 clear k1 HE0 HM0 HR0 KA0
 have kf : Kp w1 (w1.alloc (Obj.cells #[.func (.func 191) #[] #[], .func (.func 192) #[] #[], .func (.func 193) #[] #[], .int .i64 1] 201)) none := (Kp.refl w1 none).alloc _
 have m3 := hcell (blk HM1.out kf) 3 rfl
 have e0 := hcell (blk HE1.out kf) 0 rfl
 have ff := Lib.frozen_of_heap (blk HE1.out kf) 0
 have HFB := hcell (heap_alloc_new w1 (Obj.cells #[.func (.func 191) #[] #[], .func (.func 192) #[] #[], .func (.func 193) #[] #[], .int .i64 1] 201)) 3 rfl
 go_upto_region 4 with fail
 have hs := heap_set (o := 0) (v := .int .i64 1) (blk HE1.out kf)
 simp at hs
 have kz : Kp (w1.alloc (Obj.cells #[.func (.func 191) #[] #[], .func (.func 192) #[] #[], .func (.func 193) #[] #[], .int .i64 1] 201)) _ (some (w.heap.size)) := (Kp.refl (w1.alloc (Obj.cells #[.func (.func 191) #[] #[], .func (.func 192) #[] #[], .func (.func 193) #[] #[], .int .i64 1] 201)) (some (w.heap.size))).set (o := 0) (.int .i64 1)
 have HE2 := Lib.hid hs
 have HM2 := Lib.hid ((kz.block _ (lt_of_block (blk HM1.out kf)) (by intro q; have := Option.some.inj q; omega)).trans (blk HM1.out kf))
 have HR2 := Lib.hid ((kz.block _ (lt_of_block (blk HR1.out kf)) (by intro q; have := Option.some.inj q; omega)).trans (blk HR1.out kf))
 have KA2 := Lib.hid ((KA1.out.trans kf).of_own kz (Nat.le_refl _))
 clear hs kz kf m3 e0 ff HFB HE1 HM1 HR1 KA1
 generalize (w1.alloc (Obj.cells #[.func (.func 191) #[] #[], .func (.func 192) #[] #[], .func (.func 193) #[] #[], .int .i64 1] 201)).setCell ⟨w.heap.size, 0, none⟩ (.int .i64 1) = w2 at *
 have e0 := hcell HE2.out 0 rfl
 go_upto_region 6 with fail
 clear e0
 have HE := HE2
 have HM := HM2
 have HR := HR2
 have KA := KA2
 clear HE2 HM2 HR2 KA2
 have hw4 : ∃ w4, w4 = w2 := ⟨_, rfl⟩
 obtain ⟨w4, rfl⟩ := hw4
 have HE_ := Lib.hid (blk HE.out (Kp.refl w4 none).drew)
 have HM_ := Lib.hid (blk HM.out (Kp.refl w4 none).drew)
 have HR_ := Lib.hid (blk HR.out (Kp.refl w4 none).drew)
 have KA_ := Lib.hid (KA.out.trans (Kp.refl w4 none).drew)
 clear HE HM HR KA
 refine wp_region_last (fun V => V.cell? ⟨w.heap.size + 1, 0, none⟩ = some (.int .i64 mx) ∧ V.cell? ⟨w.heap.size + 1, 1, none⟩ = some (.int .i64 my) ∧ V.cell? ⟨w.heap.size + 1, 2, none⟩ = some (.int .i64 t) ∧ V.cell? ⟨w.heap.size + 1, 3, none⟩ = some (.bool true) ∧ V.cell? ⟨w.heap.size, 3, none⟩ = some (.int .i64 bx) ∧ V.cell? ⟨w.heap.size, 4, none⟩ = some (.int .i64 bY) ∧ True) 11 (by kernel_rfl) ?_ (fun hHeld => ?_)
 ·exact ⟨hcell HM_.out 0 rfl, hcell HM_.out 1 rfl, hcell HM_.out 2 rfl, hcell HM_.out 3 rfl, hcell HE_.out 3 rfl, hcell HE_.out 4 rfl, trivial⟩
 refine tkL 0 rfl ?_
 try simp only [Act.put, sm]
 refine tkL 1 rfl ?_
 try simp only [Act.put, sm]
 refine tkL 4 rfl ?_
 try simp only [Act.put, sm]
 refine tkL 5 rfl ?_
 try simp only [Act.put, sm]
 refine tkL 6 rfl ?_
 try simp only [Act.put, sm]
 refine wpAnyL_ready (rs := [2]) (by kernel_rfl) (by simp) ?_
 refine AllReadyL.cons (o := _) rfl (fun K hK => ?_) AllReadyL.nil
 have gK := hHeld
 clear hHeld
 clear gK
 have e1 := hcell HE_.out 1 rfl
 have e2 := hcell HE_.out 2 rfl
 go_simp
 clear e1 e2
 try go_wp2_with fail
 refine hK.out _ _ ?_ (fun hHeld => ?_)
 ·exact ⟨hcell HM_.out 0 rfl, hcell HM_.out 1 rfl, hcell HM_.out 2 rfl, hcell HM_.out 3 rfl, hcell HE_.out 3 rfl, hcell HE_.out 4 rfl, trivial⟩
 clear hK K
 try simp only [Act.put, sm]
 refine wpAnyL_ready (rs := [3]) (by kernel_rfl) (by simp) ?_
 refine AllReadyL.cons (o := _) rfl (fun K hK => ?_) AllReadyL.nil
 have gK := hHeld
 clear hHeld
 clear gK
 go_simp
 refine (HA.out _).mono ?_
 rintro E w5 ⟨rfl, kk⟩
 have HE_n := Lib.hid (blk HE_.out kk)
 have HM_n := Lib.hid (blk HM_.out kk)
 have HR_n := Lib.hid (blk HR_.out kk)
 have KA_n := Lib.hid (KA_.out.trans kk)
 clear kk HE_ HM_ HR_ KA_
 have HE_ := HE_n
 have HM_ := HM_n
 have HR_ := HR_n
 have KA_ := KA_n
 clear HE_n HM_n HR_n KA_n
 try go_wp2_with fail
 refine hK.out _ _ ?_ (fun hHeld => ?_)
 ·exact ⟨hcell HM_.out 0 rfl, hcell HM_.out 1 rfl, hcell HM_.out 2 rfl, hcell HM_.out 3 rfl, hcell HE_.out 3 rfl, hcell HE_.out 4 rfl, trivial⟩
 clear hK K
 try simp only [Act.put, sm]
 refine tkL 8 rfl ?_
 try simp only [Act.put, sm]
 refine wpAnyL_ready (rs := [7]) (by kernel_rfl) (by simp) ?_
 refine AllReadyL.cons (o := _) rfl (fun K hK => ?_) AllReadyL.nil
 have gK := hHeld
 clear hHeld
 clear gK
 go_simp
 refine (HB.out _).mono ?_
 rintro E w6 ⟨rfl, kk⟩
 have HE_n := Lib.hid (blk HE_.out kk)
 have HM_n := Lib.hid (blk HM_.out kk)
 have HR_n := Lib.hid (blk HR_.out kk)
 have KA_n := Lib.hid (KA_.out.trans kk)
 clear kk HE_ HM_ HR_ KA_
 have HE_ := HE_n
 have HM_ := HM_n
 have HR_ := HR_n
 have KA_ := KA_n
 clear HE_n HM_n HR_n KA_n
 try go_wp2_with fail
 refine hK.out _ _ ?_ (fun hHeld => ?_)
 ·exact ⟨hcell HM_.out 0 rfl, hcell HM_.out 1 rfl, hcell HM_.out 2 rfl, hcell HM_.out 3 rfl, hcell HE_.out 3 rfl, hcell HE_.out 4 rfl, trivial⟩
 clear hK K
 try simp only [Act.put, sm]
 refine wpAnyL_ready (rs := [9]) (by kernel_rfl) (by simp) ?_
 refine AllReadyL.cons (o := _) rfl (fun K hK => ?_) AllReadyL.nil
 have gK := hHeld
 clear hHeld
 clear gK
 have e1 := hcell HE_.out 1 rfl
 have e2 := hcell HE_.out 2 rfl
 have f1 := Lib.frozen_of_heap HE_.out 1
 have f2 := Lib.frozen_of_heap HE_.out 2
 go_simp
 try go_wp2_with fail
 clear e1 e2 f1 f2
 have hs := heap_set (o := 2) (v := .int .i64 qy) (heap_set (o := 1) (v := .int .i64 qx) HE_.out)
 simp at hs
 have kz := ((Kp.refl w6 (some (w.heap.size))).set (o := 1) (.int .i64 qx)).set (o := 2) (.int .i64 qy)
 have HEn := Lib.hid hs
 have HMn := Lib.hid ((kz.block _ (lt_of_block HM_.out) (by intro q; have := Option.some.inj q; omega)).trans HM_.out)
 have HRn := Lib.hid ((kz.block _ (lt_of_block HR_.out) (by intro q; have := Option.some.inj q; omega)).trans HR_.out)
 have KAn := Lib.hid (KA_.out.of_own kz (Nat.le_refl _))
 clear hs kz HE_ HM_ HR_ KA_
 try go_wp2_with fail
 refine hK.out _ _ ?_ (fun hHeld => ?_)
 ·exact ⟨hcell HMn.out 0 rfl, hcell HMn.out 1 rfl, hcell HMn.out 2 rfl, hcell HMn.out 3 rfl, hcell HEn.out 3 rfl, hcell HEn.out 4 rfl, trivial⟩
 clear hK K
 try simp only [Act.put, sm]
 refine tkL 10 rfl ?_
 try simp only [Act.put, sm]
 generalize hw7 : (w6.setCell ⟨w.heap.size, 1, none⟩ (.int .i64 qx)).setCell ⟨w.heap.size, 2, none⟩ (.int .i64 qy) = w7 at *
 clear hw7
 refine wpAnyL_ready (rs := [11]) (by kernel_rfl) (by simp) ?_
 refine AllReadyL.last (o := _) rfl (fun K hK => ?_)
 have e3 := hcell HEn.out 3 rfl
 have e4 := hcell HEn.out 4 rfl
 have f3 := Lib.frozen_of_heap HEn.out 3
 have f4 := Lib.frozen_of_heap HEn.out 4
 clear hHeld
 go_simp
 try go_wp2_with fail
 refine hK.out _ _ ?_
 clear hK K
 try simp only [Act.put, sm]
 clear e3 e4 f3 f4
 have hs := heap_set (o := 4) (v := .int .i64 ry) (heap_set (o := 3) (v := .int .i64 rx) HEn.out)
 simp at hs
 have kz := ((Kp.refl w7 (some (w.heap.size))).set (o := 3) (.int .i64 rx)).set (o := 4) (.int .i64 ry)
 have HEz := Lib.hid hs
 have HRz := Lib.hid ((kz.block _ (lt_of_block HRn.out) (by intro q; have := Option.some.inj q; omega)).trans HRn.out)
 have KAz := Lib.hid (KAn.out.of_own kz (Nat.le_refl _))
 clear hs kz HEn HMn HRn KAn
 generalize (w7.setCell ⟨w.heap.size, 3, none⟩ (.int .i64 rx)).setCell ⟨w.heap.size, 4, none⟩ (.int .i64 ry) = w8 at *
 refine wpAnyL_done (by kernel_rfl) ?_ _
 have e0 := hcell HEz.out 0 rfl
 have e1 := hcell HEz.out 1 rfl
 have e2 := hcell HEz.out 2 rfl
 have e3 := hcell HEz.out 3 rfl
 have e4 := hcell HEz.out 4 rfl
 have e5 := hcell HEz.out 5 rfl
 have e6 := hcell HEz.out 6 rfl
 have x0 := hcell HRz.out 0 rfl
 have x1 := hcell HRz.out 1 rfl
 have x2 := hcell HRz.out 2 rfl
 have x3 := hcell HRz.out 3 rfl
 have x4 := hcell HRz.out 4 rfl
 have x5 := hcell HRz.out 5 rfl
 have x6 := hcell HRz.out 6 rfl
 have f0 := Lib.frozen_of_heap HRz.out 0
 have f1 := Lib.frozen_of_heap HRz.out 1
 have f2 := Lib.frozen_of_heap HRz.out 2
 have f3 := Lib.frozen_of_heap HRz.out 3
 have f4 := Lib.frozen_of_heap HRz.out 4
 have f5 := Lib.frozen_of_heap HRz.out 5
 have f6 := Lib.frozen_of_heap HRz.out 6
 go_wp2_with fail
 have hst := heap_seven2 HRz.out (.int .i64 1) (.int .i64 qx) (.int .i64 qy) (.int .i64 rx) (.int .i64 ry) (.int .i64 cx) (.int .i64 cy)
 have KF := Lib.hid (KAz.out.of_own hst.2 (by omega))
 have q0 := hcell hst.1 0 rfl
 have q1 := hcell hst.1 1 rfl
 have q2 := hcell hst.1 2 rfl
 have q3 := hcell hst.1 3 rfl
 have q4 := hcell hst.1 4 rfl
 have q5 := hcell hst.1 5 rfl
 have q6 := hcell hst.1 6 rfl
 clear hst e0 x0 f0 e1 x1 f1 e2 x2 f2 e3 x3 f3 e4 x4 f4 e5 x5 f5 e6 x6 f6 HEz HRz KAz
 generalize (((((((w8.setCell ⟨w.heap.size + 1 + 1, 0, none⟩ (.int .i64 1)).setCell ⟨w.heap.size + 1 + 1, 1, none⟩ (.int .i64 qx)).setCell ⟨w.heap.size + 1 + 1, 2, none⟩ (.int .i64 qy)).setCell ⟨w.heap.size + 1 + 1, 3, none⟩ (.int .i64 rx)).setCell ⟨w.heap.size + 1 + 1, 4, none⟩ (.int .i64 ry)).setCell ⟨w.heap.size + 1 + 1, 5, none⟩ (.int .i64 cx)).setCell ⟨w.heap.size + 1 + 1, 6, none⟩ (.int .i64 cy)) = wf at *
 exact bodyPost_ret (v := .agg #[.int .i64 1, .int .i64 qx, .int .i64 qy, .int .i64 rx, .int .i64 ry, .int .i64 cx, .int .i64 cy]) (by simp [results, Tryz.results57, go_sem, q0, q1, q2, q3, q4, q5, q6]) rfl ⟨rfl, KF.out⟩

set_option maxHeartbeats 8000000 in
set_option maxRecDepth 100000 in
theorem emove_2false (ax ay bx bY cx cy mx my t : Int) (w : World) (h1 : Mid ax) (h2 : Mid ay) (h3 : Mid bx) (h4 : Mid bY) (h5 : Mid cx) (h6 : Mid cy) (h7 : Mid mx) (h8 : Mid my) :
  Calls Tryz.prog 57 #[.agg #[.int .i64 2, .int .i64 ax, .int .i64 ay, .int .i64 bx, .int .i64 bY, .int .i64 cx, .int .i64 cy], .agg #[.int .i64 mx, .int .i64 my, .int .i64 t, .bool false]] w fun E w' => E = .returned (.agg #[.int .i64 2, .int .i64 (Pl.apply ⟨⟨mx, my⟩, t, false⟩ ⟨ax, ay⟩).x, .int .i64 (Pl.apply ⟨⟨mx, my⟩, t, false⟩ ⟨ax, ay⟩).y, .int .i64 (Pl.apply ⟨⟨mx, my⟩, t, false⟩ ⟨bx, bY⟩).x, .int .i64 (Pl.apply ⟨⟨mx, my⟩, t, false⟩ ⟨bx, bY⟩).y, .int .i64 (Pl.apply ⟨⟨mx, my⟩, t, false⟩ ⟨cx, cy⟩).x, .int .i64 (Pl.apply ⟨⟨mx, my⟩, t, false⟩ ⟨cx, cy⟩).y]) ∧ Kp w w' none := by
 obtain ⟨fb, hfb⟩ : ∃ fb, decide (Pl.chkE ⟨2, ⟨ax, ay⟩, ⟨bx, bY⟩, ⟨cx, cy⟩⟩ = 0) = fb := ⟨_, rfl⟩
 have HOF : Hid (∀ V, Calls Tryz.prog 104 #[.agg #[.int .i64 2, .int .i64 ax, .int .i64 ay, .int .i64 bx, .int .i64 bY, .int .i64 cx, .int .i64 cy]] V fun E w' => E = .returned (.tuple #[.agg #[.func (.func 194) #[] #[], .func (.func 195) #[] #[], .func (.func 196) #[] #[], .int .i64 3], .bool fb]) ∧ Kp V w' none) := Lib.hid (fun V => by rw [← hfb]; exact of_any ⟨2, ⟨ax, ay⟩, ⟨bx, bY⟩, ⟨cx, cy⟩⟩ V)
 have HA := Lib.hid (fun V => apply_any ⟨⟨mx, my⟩, t, false⟩ ⟨ax, ay⟩ V h1 h2 h7 h8)
 have HB := Lib.hid (fun V => apply_any ⟨⟨mx, my⟩, t, false⟩ ⟨bx, bY⟩ V h3 h4 h7 h8)
 have HC := Lib.hid (fun V => apply_any ⟨⟨mx, my⟩, t, false⟩ ⟨cx, cy⟩ V h5 h6 h7 h8)
 dsimp only at HA HB HC
 clear hfb h1 h2 h3 h4 h5 h6 h7 h8
 generalize (Pl.apply ⟨⟨mx, my⟩, t, false⟩ ⟨ax, ay⟩).x = qx at *
 generalize (Pl.apply ⟨⟨mx, my⟩, t, false⟩ ⟨ax, ay⟩).y = qy at *
 generalize (Pl.apply ⟨⟨mx, my⟩, t, false⟩ ⟨bx, bY⟩).x = rx at *
 generalize (Pl.apply ⟨⟨mx, my⟩, t, false⟩ ⟨bx, bY⟩).y = ry at *
 generalize (Pl.apply ⟨⟨mx, my⟩, t, false⟩ ⟨cx, cy⟩).x = px at *
 generalize (Pl.apply ⟨⟨mx, my⟩, t, false⟩ ⟨cx, cy⟩).y = py at *
 go_enter Tryz.func57, Tryz.ntmps57
 go_wp2_with fail
 have HE0 : Hid ((((w.alloc (Obj.cells #[.int .i64 2, .int .i64 ax, .int .i64 ay, .int .i64 bx, .int .i64 bY, .int .i64 cx, .int .i64 cy] 123)).alloc (Obj.cells #[.int .i64 mx, .int .i64 my, .int .i64 t, .bool false] 44)).alloc (Obj.cells #[.int .i64 0, .int .i64 0, .int .i64 0, .int .i64 0, .int .i64 0, .int .i64 0, .int .i64 0] 123)).heap[w.heap.size]? = some (Obj.cells #[.int .i64 2, .int .i64 ax, .int .i64 ay, .int .i64 bx, .int .i64 bY, .int .i64 cx, .int .i64 cy] 123 (0, 0))) := Lib.hid (blk (heap_alloc_new w _) (((Kp.refl _ none).alloc _).alloc _))
 have HM0 : Hid ((((w.alloc (Obj.cells #[.int .i64 2, .int .i64 ax, .int .i64 ay, .int .i64 bx, .int .i64 bY, .int .i64 cx, .int .i64 cy] 123)).alloc (Obj.cells #[.int .i64 mx, .int .i64 my, .int .i64 t, .bool false] 44)).alloc (Obj.cells #[.int .i64 0, .int .i64 0, .int .i64 0, .int .i64 0, .int .i64 0, .int .i64 0, .int .i64 0] 123)).heap[w.heap.size + 1]? = some (Obj.cells #[.int .i64 mx, .int .i64 my, .int .i64 t, .bool false] 44 (0, 0))) := Lib.hid (blk (w := (w.alloc (Obj.cells #[.int .i64 2, .int .i64 ax, .int .i64 ay, .int .i64 bx, .int .i64 bY, .int .i64 cx, .int .i64 cy] 123)).alloc (Obj.cells #[.int .i64 mx, .int .i64 my, .int .i64 t, .bool false] 44)) (by have h := heap_alloc_new (w.alloc (Obj.cells #[.int .i64 2, .int .i64 ax, .int .i64 ay, .int .i64 bx, .int .i64 bY, .int .i64 cx, .int .i64 cy] 123)) (Obj.cells #[.int .i64 mx, .int .i64 my, .int .i64 t, .bool false] 44); simpa using h) ((Kp.refl _ none).alloc _))
 have HR0 : Hid ((((w.alloc (Obj.cells #[.int .i64 2, .int .i64 ax, .int .i64 ay, .int .i64 bx, .int .i64 bY, .int .i64 cx, .int .i64 cy] 123)).alloc (Obj.cells #[.int .i64 mx, .int .i64 my, .int .i64 t, .bool false] 44)).alloc (Obj.cells #[.int .i64 0, .int .i64 0, .int .i64 0, .int .i64 0, .int .i64 0, .int .i64 0, .int .i64 0] 123)).heap[w.heap.size + 1 + 1]? = some (Obj.cells #[.int .i64 0, .int .i64 0, .int .i64 0, .int .i64 0, .int .i64 0, .int .i64 0, .int .i64 0] 123 (0, 0))) := Lib.hid (by have h := heap_alloc_new ((w.alloc (Obj.cells #[.int .i64 2, .int .i64 ax, .int .i64 ay, .int .i64 bx, .int .i64 bY, .int .i64 cx, .int .i64 cy] 123)).alloc (Obj.cells #[.int .i64 mx, .int .i64 my, .int .i64 t, .bool false] 44)) (Obj.cells #[.int .i64 0, .int .i64 0, .int .i64 0, .int .i64 0, .int .i64 0, .int .i64 0, .int .i64 0] 123); simpa using h)
 have KA0 : Hid (Kp w (((w.alloc (Obj.cells #[.int .i64 2, .int .i64 ax, .int .i64 ay, .int .i64 bx, .int .i64 bY, .int .i64 cx, .int .i64 cy] 123)).alloc (Obj.cells #[.int .i64 mx, .int .i64 my, .int .i64 t, .bool false] 44)).alloc (Obj.cells #[.int .i64 0, .int .i64 0, .int .i64 0, .int .i64 0, .int .i64 0, .int .i64 0, .int .i64 0] 123)) none) := Lib.hid ((((Kp.refl w none).alloc _).alloc _).alloc _)
 refine (HOF.out _).mono ?_
 rintro E w1 ⟨rfl, k1⟩
 have KA1 := Lib.hid (KA0.out.trans k1)
 have HE1 := Lib.hid (blk HE0.out k1)
 have HM1 := Lib.hid (blk HM0.out k1)
 have HR1 := Lib.hid (blk HR0.out k1)
 clear k1 HE0 HM0 HR0 KA0
 have kf : Kp w1 (w1.alloc (Obj.cells #[.func (.func 194) #[] #[], .func (.func 195) #[] #[], .func (.func 196) #[] #[], .int .i64 3] 201)) none := (Kp.refl w1 none).alloc _
 have m3 := hcell (blk HM1.out kf) 3 rfl
 have e0 := hcell (blk HE1.out kf) 0 rfl
 have HFB := hcell (heap_alloc_new w1 (Obj.cells #[.func (.func 194) #[] #[], .func (.func 195) #[] #[], .func (.func 196) #[] #[], .int .i64 3] 201)) 3 rfl
 go_upto_region 4 with fail
 have HE2 := Lib.hid (blk HE1.out kf)
 have HM2 := Lib.hid (blk HM1.out kf)
 have HR2 := Lib.hid (blk HR1.out kf)
 have KA2 := Lib.hid (KA1.out.trans kf)
 clear kf m3 e0 HFB HE1 HM1 HR1 KA1
 generalize w1.alloc (Obj.cells #[.func (.func 194) #[] #[], .func (.func 195) #[] #[], .func (.func 196) #[] #[], .int .i64 3] 201) = w2 at *
 have e0 := hcell HE2.out 0 rfl
 have e5 := hcell HE2.out 5 rfl
 have e6 := hcell HE2.out 6 rfl
 have m0 := hcell HM2.out 0 rfl
 have m1 := hcell HM2.out 1 rfl
 have m2 := hcell HM2.out 2 rfl
 have m3 := hcell HM2.out 3 rfl
 go_wp2_with fail
 refine (HC.out _).mono ?_
 rintro E w3 ⟨rfl, k3⟩
 have HE3 := Lib.hid (blk HE2.out k3)
 have HM3 := Lib.hid (blk HM2.out k3)
 have HR3 := Lib.hid (blk HR2.out k3)
 have KA3 := Lib.hid (KA2.out.trans k3)
 clear k3 e0 e5 e6 m0 m1 m2 m3 HE2 HM2 HR2 KA2
 have f5 := Lib.frozen_of_heap HE3.out 5
 have f6 := Lib.frozen_of_heap HE3.out 6
 have e5 := hcell HE3.out 5 rfl
 have e6 := hcell HE3.out 6 rfl
 go_upto_region 6 with fail
 have hs := heap_set (o := 6) (v := .int .i64 py) (heap_set (o := 5) (v := .int .i64 px) HE3.out)
 simp at hs
 have kz := ((Kp.refl w3 (some (w.heap.size))).set (o := 5) (.int .i64 px)).set (o := 6) (.int .i64 py)
 have HE := Lib.hid hs
 have HM := Lib.hid ((kz.block _ (lt_of_block HM3.out) (by intro q; have := Option.some.inj q; omega)).trans HM3.out)
 have HR := Lib.hid ((kz.block _ (lt_of_block HR3.out) (by intro q; have := Option.some.inj q; omega)).trans HR3.out)
 have KA := Lib.hid (KA3.out.of_own kz (Nat.le_refl _))
 clear hs kz f5 f6 e5 e6 HE3 HM3 HR3 KA3
 generalize (w3.setCell ⟨w.heap.size, 5, none⟩ (.int .i64 px)).setCell ⟨w.heap.size, 6, none⟩ (.int .i64 py) = w4 at *
 have HE_ := Lib.hid (blk HE.out (Kp.refl w4 none).drew)
 have HM_ := Lib.hid (blk HM.out (Kp.refl w4 none).drew)
 have HR_ := Lib.hid (blk HR.out (Kp.refl w4 none).drew)
 have KA_ := Lib.hid (KA.out.trans (Kp.refl w4 none).drew)
 clear HE HM HR KA
 refine wp_region_last (fun V => V.cell? ⟨w.heap.size + 1, 0, none⟩ = some (.int .i64 mx) ∧ V.cell? ⟨w.heap.size + 1, 1, none⟩ = some (.int .i64 my) ∧ V.cell? ⟨w.heap.size + 1, 2, none⟩ = some (.int .i64 t) ∧ V.cell? ⟨w.heap.size + 1, 3, none⟩ = some (.bool false) ∧ V.cell? ⟨w.heap.size, 3, none⟩ = some (.int .i64 bx) ∧ V.cell? ⟨w.heap.size, 4, none⟩ = some (.int .i64 bY) ∧ True) 11 (by kernel_rfl) ?_ (fun hHeld => ?_)
 ·exact ⟨hcell HM_.out 0 rfl, hcell HM_.out 1 rfl, hcell HM_.out 2 rfl, hcell HM_.out 3 rfl, hcell HE_.out 3 rfl, hcell HE_.out 4 rfl, trivial⟩
 refine tkL 0 rfl ?_
 try simp only [Act.put, sm]
 refine tkL 1 rfl ?_
 try simp only [Act.put, sm]
 refine tkL 4 rfl ?_
 try simp only [Act.put, sm]
 refine tkL 5 rfl ?_
 try simp only [Act.put, sm]
 refine tkL 6 rfl ?_
 try simp only [Act.put, sm]
 refine wpAnyL_ready (rs := [2]) (by kernel_rfl) (by simp) ?_
 refine AllReadyL.cons (o := _) rfl (fun K hK => ?_) AllReadyL.nil
 have gK := hHeld
 clear hHeld
 clear gK
 have e1 := hcell HE_.out 1 rfl
 have e2 := hcell HE_.out 2 rfl
 go_simp
 clear e1 e2
 try go_wp2_with fail
 refine hK.out _ _ ?_ (fun hHeld => ?_)
 ·exact ⟨hcell HM_.out 0 rfl, hcell HM_.out 1 rfl, hcell HM_.out 2 rfl, hcell HM_.out 3 rfl, hcell HE_.out 3 rfl, hcell HE_.out 4 rfl, trivial⟩
 clear hK K
 try simp only [Act.put, sm]
 refine wpAnyL_ready (rs := [3]) (by kernel_rfl) (by simp) ?_
 refine AllReadyL.cons (o := _) rfl (fun K hK => ?_) AllReadyL.nil
 have gK := hHeld
 clear hHeld
 clear gK
 go_simp
 refine (HA.out _).mono ?_
 rintro E w5 ⟨rfl, kk⟩
 have HE_n := Lib.hid (blk HE_.out kk)
 have HM_n := Lib.hid (blk HM_.out kk)
 have HR_n := Lib.hid (blk HR_.out kk)
 have KA_n := Lib.hid (KA_.out.trans kk)
 clear kk HE_ HM_ HR_ KA_
 have HE_ := HE_n
 have HM_ := HM_n
 have HR_ := HR_n
 have KA_ := KA_n
 clear HE_n HM_n HR_n KA_n
 try go_wp2_with fail
 refine hK.out _ _ ?_ (fun hHeld => ?_)
 ·exact ⟨hcell HM_.out 0 rfl, hcell HM_.out 1 rfl, hcell HM_.out 2 rfl, hcell HM_.out 3 rfl, hcell HE_.out 3 rfl, hcell HE_.out 4 rfl, trivial⟩
 clear hK K
 try simp only [Act.put, sm]
 refine tkL 8 rfl ?_
 try simp only [Act.put, sm]
 refine wpAnyL_ready (rs := [7]) (by kernel_rfl) (by simp) ?_
 refine AllReadyL.cons (o := _) rfl (fun K hK => ?_) AllReadyL.nil
 have gK := hHeld
 clear hHeld
 clear gK
 go_simp
 refine (HB.out _).mono ?_
 rintro E w6 ⟨rfl, kk⟩
 have HE_n := Lib.hid (blk HE_.out kk)
 have HM_n := Lib.hid (blk HM_.out kk)
 have HR_n := Lib.hid (blk HR_.out kk)
 have KA_n := Lib.hid (KA_.out.trans kk)
 clear kk HE_ HM_ HR_ KA_
 have HE_ := HE_n
 have HM_ := HM_n
 have HR_ := HR_n
 have KA_ := KA_n
 clear HE_n HM_n HR_n KA_n
 try go_wp2_with fail
 refine hK.out _ _ ?_ (fun hHeld => ?_)
 ·exact ⟨hcell HM_.out 0 rfl, hcell HM_.out 1 rfl, hcell HM_.out 2 rfl, hcell HM_.out 3 rfl, hcell HE_.out 3 rfl, hcell HE_.out 4 rfl, trivial⟩
 clear hK K
 try simp only [Act.put, sm]
 refine wpAnyL_ready (rs := [9]) (by kernel_rfl) (by simp) ?_
 refine AllReadyL.cons (o := _) rfl (fun K hK => ?_) AllReadyL.nil
 have gK := hHeld
 clear hHeld
 clear gK
 have e1 := hcell HE_.out 1 rfl
 have e2 := hcell HE_.out 2 rfl
 have f1 := Lib.frozen_of_heap HE_.out 1
 have f2 := Lib.frozen_of_heap HE_.out 2
 go_simp
 try go_wp2_with fail
 clear e1 e2 f1 f2
 have hs := heap_set (o := 2) (v := .int .i64 qy) (heap_set (o := 1) (v := .int .i64 qx) HE_.out)
 simp at hs
 have kz := ((Kp.refl w6 (some (w.heap.size))).set (o := 1) (.int .i64 qx)).set (o := 2) (.int .i64 qy)
 have HEn := Lib.hid hs
 have HMn := Lib.hid ((kz.block _ (lt_of_block HM_.out) (by intro q; have := Option.some.inj q; omega)).trans HM_.out)
 have HRn := Lib.hid ((kz.block _ (lt_of_block HR_.out) (by intro q; have := Option.some.inj q; omega)).trans HR_.out)
 have KAn := Lib.hid (KA_.out.of_own kz (Nat.le_refl _))
 clear hs kz HE_ HM_ HR_ KA_
 try go_wp2_with fail
 refine hK.out _ _ ?_ (fun hHeld => ?_)
 ·exact ⟨hcell HMn.out 0 rfl, hcell HMn.out 1 rfl, hcell HMn.out 2 rfl, hcell HMn.out 3 rfl, hcell HEn.out 3 rfl, hcell HEn.out 4 rfl, trivial⟩
 clear hK K
 try simp only [Act.put, sm]
 refine tkL 10 rfl ?_
 try simp only [Act.put, sm]
 generalize hw7 : (w6.setCell ⟨w.heap.size, 1, none⟩ (.int .i64 qx)).setCell ⟨w.heap.size, 2, none⟩ (.int .i64 qy) = w7 at *
 clear hw7
 refine wpAnyL_ready (rs := [11]) (by kernel_rfl) (by simp) ?_
 refine AllReadyL.last (o := _) rfl (fun K hK => ?_)
 have e3 := hcell HEn.out 3 rfl
 have e4 := hcell HEn.out 4 rfl
 have f3 := Lib.frozen_of_heap HEn.out 3
 have f4 := Lib.frozen_of_heap HEn.out 4
 clear hHeld
 go_simp
 try go_wp2_with fail
 refine hK.out _ _ ?_
 clear hK K
 try simp only [Act.put, sm]
 clear e3 e4 f3 f4
 have hs := heap_set (o := 4) (v := .int .i64 ry) (heap_set (o := 3) (v := .int .i64 rx) HEn.out)
 simp at hs
 have kz := ((Kp.refl w7 (some (w.heap.size))).set (o := 3) (.int .i64 rx)).set (o := 4) (.int .i64 ry)
 have HEz := Lib.hid hs
 have HRz := Lib.hid ((kz.block _ (lt_of_block HRn.out) (by intro q; have := Option.some.inj q; omega)).trans HRn.out)
 have KAz := Lib.hid (KAn.out.of_own kz (Nat.le_refl _))
 clear hs kz HEn HMn HRn KAn
 generalize (w7.setCell ⟨w.heap.size, 3, none⟩ (.int .i64 rx)).setCell ⟨w.heap.size, 4, none⟩ (.int .i64 ry) = w8 at *
 refine wpAnyL_done (by kernel_rfl) ?_ _
 have e0 := hcell HEz.out 0 rfl
 have e1 := hcell HEz.out 1 rfl
 have e2 := hcell HEz.out 2 rfl
 have e3 := hcell HEz.out 3 rfl
 have e4 := hcell HEz.out 4 rfl
 have e5 := hcell HEz.out 5 rfl
 have e6 := hcell HEz.out 6 rfl
 have x0 := hcell HRz.out 0 rfl
 have x1 := hcell HRz.out 1 rfl
 have x2 := hcell HRz.out 2 rfl
 have x3 := hcell HRz.out 3 rfl
 have x4 := hcell HRz.out 4 rfl
 have x5 := hcell HRz.out 5 rfl
 have x6 := hcell HRz.out 6 rfl
 have f0 := Lib.frozen_of_heap HRz.out 0
 have f1 := Lib.frozen_of_heap HRz.out 1
 have f2 := Lib.frozen_of_heap HRz.out 2
 have f3 := Lib.frozen_of_heap HRz.out 3
 have f4 := Lib.frozen_of_heap HRz.out 4
 have f5 := Lib.frozen_of_heap HRz.out 5
 have f6 := Lib.frozen_of_heap HRz.out 6
 go_wp2_with fail
 have hst := heap_seven2 HRz.out (.int .i64 2) (.int .i64 qx) (.int .i64 qy) (.int .i64 rx) (.int .i64 ry) (.int .i64 px) (.int .i64 py)
 have KF := Lib.hid (KAz.out.of_own hst.2 (by omega))
 have q0 := hcell hst.1 0 rfl
 have q1 := hcell hst.1 1 rfl
 have q2 := hcell hst.1 2 rfl
 have q3 := hcell hst.1 3 rfl
 have q4 := hcell hst.1 4 rfl
 have q5 := hcell hst.1 5 rfl
 have q6 := hcell hst.1 6 rfl
 clear hst e0 x0 f0 e1 x1 f1 e2 x2 f2 e3 x3 f3 e4 x4 f4 e5 x5 f5 e6 x6 f6 HEz HRz KAz
 generalize (((((((w8.setCell ⟨w.heap.size + 1 + 1, 0, none⟩ (.int .i64 2)).setCell ⟨w.heap.size + 1 + 1, 1, none⟩ (.int .i64 qx)).setCell ⟨w.heap.size + 1 + 1, 2, none⟩ (.int .i64 qy)).setCell ⟨w.heap.size + 1 + 1, 3, none⟩ (.int .i64 rx)).setCell ⟨w.heap.size + 1 + 1, 4, none⟩ (.int .i64 ry)).setCell ⟨w.heap.size + 1 + 1, 5, none⟩ (.int .i64 px)).setCell ⟨w.heap.size + 1 + 1, 6, none⟩ (.int .i64 py)) = wf at *
 exact bodyPost_ret (v := .agg #[.int .i64 2, .int .i64 qx, .int .i64 qy, .int .i64 rx, .int .i64 ry, .int .i64 px, .int .i64 py]) (by simp [results, Tryz.results57, go_sem, q0, q1, q2, q3, q4, q5, q6]) rfl ⟨rfl, KF.out⟩

set_option maxHeartbeats 8000000 in
set_option maxRecDepth 100000 in
theorem emove_2true (ax ay bx bY cx cy mx my t : Int) (w : World) (h1 : Mid ax) (h2 : Mid ay) (h3 : Mid bx) (h4 : Mid bY) (h5 : Mid cx) (h6 : Mid cy) (h7 : Mid mx) (h8 : Mid my) :
  Calls Tryz.prog 57 #[.agg #[.int .i64 2, .int .i64 ax, .int .i64 ay, .int .i64 bx, .int .i64 bY, .int .i64 cx, .int .i64 cy], .agg #[.int .i64 mx, .int .i64 my, .int .i64 t, .bool true]] w fun E w' => E = .returned (.agg #[.int .i64 3, .int .i64 (Pl.apply ⟨⟨mx, my⟩, t, true⟩ ⟨ax, ay⟩).x, .int .i64 (Pl.apply ⟨⟨mx, my⟩, t, true⟩ ⟨ax, ay⟩).y, .int .i64 (Pl.apply ⟨⟨mx, my⟩, t, true⟩ ⟨bx, bY⟩).x, .int .i64 (Pl.apply ⟨⟨mx, my⟩, t, true⟩ ⟨bx, bY⟩).y, .int .i64 (Pl.apply ⟨⟨mx, my⟩, t, true⟩ ⟨cx, cy⟩).x, .int .i64 (Pl.apply ⟨⟨mx, my⟩, t, true⟩ ⟨cx, cy⟩).y]) ∧ Kp w w' none := by
 obtain ⟨fb, hfb⟩ : ∃ fb, decide (Pl.chkE ⟨2, ⟨ax, ay⟩, ⟨bx, bY⟩, ⟨cx, cy⟩⟩ = 0) = fb := ⟨_, rfl⟩
 have HOF : Hid (∀ V, Calls Tryz.prog 104 #[.agg #[.int .i64 2, .int .i64 ax, .int .i64 ay, .int .i64 bx, .int .i64 bY, .int .i64 cx, .int .i64 cy]] V fun E w' => E = .returned (.tuple #[.agg #[.func (.func 194) #[] #[], .func (.func 195) #[] #[], .func (.func 196) #[] #[], .int .i64 3], .bool fb]) ∧ Kp V w' none) := Lib.hid (fun V => by rw [← hfb]; exact of_any ⟨2, ⟨ax, ay⟩, ⟨bx, bY⟩, ⟨cx, cy⟩⟩ V)
 have HA := Lib.hid (fun V => apply_any ⟨⟨mx, my⟩, t, true⟩ ⟨ax, ay⟩ V h1 h2 h7 h8)
 have HB := Lib.hid (fun V => apply_any ⟨⟨mx, my⟩, t, true⟩ ⟨bx, bY⟩ V h3 h4 h7 h8)
 have HC := Lib.hid (fun V => apply_any ⟨⟨mx, my⟩, t, true⟩ ⟨cx, cy⟩ V h5 h6 h7 h8)
 dsimp only at HA HB HC
 clear hfb h1 h2 h3 h4 h5 h6 h7 h8
 generalize (Pl.apply ⟨⟨mx, my⟩, t, true⟩ ⟨ax, ay⟩).x = qx at *
 generalize (Pl.apply ⟨⟨mx, my⟩, t, true⟩ ⟨ax, ay⟩).y = qy at *
 generalize (Pl.apply ⟨⟨mx, my⟩, t, true⟩ ⟨bx, bY⟩).x = rx at *
 generalize (Pl.apply ⟨⟨mx, my⟩, t, true⟩ ⟨bx, bY⟩).y = ry at *
 generalize (Pl.apply ⟨⟨mx, my⟩, t, true⟩ ⟨cx, cy⟩).x = px at *
 generalize (Pl.apply ⟨⟨mx, my⟩, t, true⟩ ⟨cx, cy⟩).y = py at *
 go_enter Tryz.func57, Tryz.ntmps57
 go_wp2_with fail
 have HE0 : Hid ((((w.alloc (Obj.cells #[.int .i64 2, .int .i64 ax, .int .i64 ay, .int .i64 bx, .int .i64 bY, .int .i64 cx, .int .i64 cy] 123)).alloc (Obj.cells #[.int .i64 mx, .int .i64 my, .int .i64 t, .bool true] 44)).alloc (Obj.cells #[.int .i64 0, .int .i64 0, .int .i64 0, .int .i64 0, .int .i64 0, .int .i64 0, .int .i64 0] 123)).heap[w.heap.size]? = some (Obj.cells #[.int .i64 2, .int .i64 ax, .int .i64 ay, .int .i64 bx, .int .i64 bY, .int .i64 cx, .int .i64 cy] 123 (0, 0))) := Lib.hid (blk (heap_alloc_new w _) (((Kp.refl _ none).alloc _).alloc _))
 have HM0 : Hid ((((w.alloc (Obj.cells #[.int .i64 2, .int .i64 ax, .int .i64 ay, .int .i64 bx, .int .i64 bY, .int .i64 cx, .int .i64 cy] 123)).alloc (Obj.cells #[.int .i64 mx, .int .i64 my, .int .i64 t, .bool true] 44)).alloc (Obj.cells #[.int .i64 0, .int .i64 0, .int .i64 0, .int .i64 0, .int .i64 0, .int .i64 0, .int .i64 0] 123)).heap[w.heap.size + 1]? = some (Obj.cells #[.int .i64 mx, .int .i64 my, .int .i64 t, .bool true] 44 (0, 0))) := Lib.hid (blk (w := (w.alloc (Obj.cells #[.int .i64 2, .int .i64 ax, .int .i64 ay, .int .i64 bx, .int .i64 bY, .int .i64 cx, .int .i64 cy] 123)).alloc (Obj.cells #[.int .i64 mx, .int .i64 my, .int .i64 t, .bool true] 44)) (by have h := heap_alloc_new (w.alloc (Obj.cells #[.int .i64 2, .int .i64 ax, .int .i64 ay, .int .i64 bx, .int .i64 bY, .int .i64 cx, .int .i64 cy] 123)) (Obj.cells #[.int .i64 mx, .int .i64 my, .int .i64 t, .bool true] 44); simpa using h) ((Kp.refl _ none).alloc _))
 have HR0 : Hid ((((w.alloc (Obj.cells #[.int .i64 2, .int .i64 ax, .int .i64 ay, .int .i64 bx, .int .i64 bY, .int .i64 cx, .int .i64 cy] 123)).alloc (Obj.cells #[.int .i64 mx, .int .i64 my, .int .i64 t, .bool true] 44)).alloc (Obj.cells #[.int .i64 0, .int .i64 0, .int .i64 0, .int .i64 0, .int .i64 0, .int .i64 0, .int .i64 0] 123)).heap[w.heap.size + 1 + 1]? = some (Obj.cells #[.int .i64 0, .int .i64 0, .int .i64 0, .int .i64 0, .int .i64 0, .int .i64 0, .int .i64 0] 123 (0, 0))) := Lib.hid (by have h := heap_alloc_new ((w.alloc (Obj.cells #[.int .i64 2, .int .i64 ax, .int .i64 ay, .int .i64 bx, .int .i64 bY, .int .i64 cx, .int .i64 cy] 123)).alloc (Obj.cells #[.int .i64 mx, .int .i64 my, .int .i64 t, .bool true] 44)) (Obj.cells #[.int .i64 0, .int .i64 0, .int .i64 0, .int .i64 0, .int .i64 0, .int .i64 0, .int .i64 0] 123); simpa using h)
 have KA0 : Hid (Kp w (((w.alloc (Obj.cells #[.int .i64 2, .int .i64 ax, .int .i64 ay, .int .i64 bx, .int .i64 bY, .int .i64 cx, .int .i64 cy] 123)).alloc (Obj.cells #[.int .i64 mx, .int .i64 my, .int .i64 t, .bool true] 44)).alloc (Obj.cells #[.int .i64 0, .int .i64 0, .int .i64 0, .int .i64 0, .int .i64 0, .int .i64 0, .int .i64 0] 123)) none) := Lib.hid ((((Kp.refl w none).alloc _).alloc _).alloc _)
 refine (HOF.out _).mono ?_
 rintro E w1 ⟨rfl, k1⟩
 have KA1 := Lib.hid (KA0.out.trans k1)
 have HE1 := Lib.hid (blk HE0.out k1)
 have HM1 := Lib.hid (blk HM0.out k1)
 have HR1 := Lib.hid (blk HR0.out k1)
 clear k1 HE0 HM0 HR0 KA0
 have kf : Kp w1 (w1.alloc (Obj.cells #[.func (.func 194) #[] #[], .func (.func 195) #[] #[], .func (.func 196) #[] #[], .int .i64 3] 201)) none := (Kp.refl w1 none).alloc _
 have m3 := hcell (blk HM1.out kf) 3 rfl
 have e0 := hcell (blk HE1.out kf) 0 rfl
 have ff := Lib.frozen_of_heap (blk HE1.out kf) 0
 have HFB := hcell (heap_alloc_new w1 (Obj.cells #[.func (.func 194) #[] #[], .func (.func 195) #[] #[], .func (.func 196) #[] #[], .int .i64 3] 201)) 3 rfl
 go_upto_region 4 with fail
 have hs := heap_set (o := 0) (v := .int .i64 3) (blk HE1.out kf)
 simp at hs
 have kz : Kp (w1.alloc (Obj.cells #[.func (.func 194) #[] #[], .func (.func 195) #[] #[], .func (.func 196) #[] #[], .int .i64 3] 201)) _ (some (w.heap.size)) := (Kp.refl (w1.alloc (Obj.cells #[.func (.func 194) #[] #[], .func (.func 195) #[] #[], .func (.func 196) #[] #[], .int .i64 3] 201)) (some (w.heap.size))).set (o := 0) (.int .i64 3)
 have HE2 := Lib.hid hs
 have HM2 := Lib.hid ((kz.block _ (lt_of_block (blk HM1.out kf)) (by intro q; have := Option.some.inj q; omega)).trans (blk HM1.out kf))
 have HR2 := Lib.hid ((kz.block _ (lt_of_block (blk HR1.out kf)) (by intro q; have := Option.some.inj q; omega)).trans (blk HR1.out kf))
 have KA2 := Lib.hid ((KA1.out.trans kf).of_own kz (Nat.le_refl _))
 clear hs kz kf m3 e0 ff HFB HE1 HM1 HR1 KA1
 generalize (w1.alloc (Obj.cells #[.func (.func 194) #[] #[], .func (.func 195) #[] #[], .func (.func 196) #[] #[], .int .i64 3] 201)).setCell ⟨w.heap.size, 0, none⟩ (.int .i64 3) = w2 at *
 have e0 := hcell HE2.out 0 rfl
 have e5 := hcell HE2.out 5 rfl
 have e6 := hcell HE2.out 6 rfl
 have m0 := hcell HM2.out 0 rfl
 have m1 := hcell HM2.out 1 rfl
 have m2 := hcell HM2.out 2 rfl
 have m3 := hcell HM2.out 3 rfl
 go_wp2_with fail
 refine (HC.out _).mono ?_
 rintro E w3 ⟨rfl, k3⟩
 have HE3 := Lib.hid (blk HE2.out k3)
 have HM3 := Lib.hid (blk HM2.out k3)
 have HR3 := Lib.hid (blk HR2.out k3)
 have KA3 := Lib.hid (KA2.out.trans k3)
 clear k3 e0 e5 e6 m0 m1 m2 m3 HE2 HM2 HR2 KA2
 have f5 := Lib.frozen_of_heap HE3.out 5
 have f6 := Lib.frozen_of_heap HE3.out 6
 have e5 := hcell HE3.out 5 rfl
 have e6 := hcell HE3.out 6 rfl
 go_upto_region 6 with fail
 have hs := heap_set (o := 6) (v := .int .i64 py) (heap_set (o := 5) (v := .int .i64 px) HE3.out)
 simp at hs
 have kz := ((Kp.refl w3 (some (w.heap.size))).set (o := 5) (.int .i64 px)).set (o := 6) (.int .i64 py)
 have HE := Lib.hid hs
 have HM := Lib.hid ((kz.block _ (lt_of_block HM3.out) (by intro q; have := Option.some.inj q; omega)).trans HM3.out)
 have HR := Lib.hid ((kz.block _ (lt_of_block HR3.out) (by intro q; have := Option.some.inj q; omega)).trans HR3.out)
 have KA := Lib.hid (KA3.out.of_own kz (Nat.le_refl _))
 clear hs kz f5 f6 e5 e6 HE3 HM3 HR3 KA3
 generalize (w3.setCell ⟨w.heap.size, 5, none⟩ (.int .i64 px)).setCell ⟨w.heap.size, 6, none⟩ (.int .i64 py) = w4 at *
 have HE_ := Lib.hid (blk HE.out (Kp.refl w4 none).drew)
 have HM_ := Lib.hid (blk HM.out (Kp.refl w4 none).drew)
 have HR_ := Lib.hid (blk HR.out (Kp.refl w4 none).drew)
 have KA_ := Lib.hid (KA.out.trans (Kp.refl w4 none).drew)
 clear HE HM HR KA
 refine wp_region_last (fun V => V.cell? ⟨w.heap.size + 1, 0, none⟩ = some (.int .i64 mx) ∧ V.cell? ⟨w.heap.size + 1, 1, none⟩ = some (.int .i64 my) ∧ V.cell? ⟨w.heap.size + 1, 2, none⟩ = some (.int .i64 t) ∧ V.cell? ⟨w.heap.size + 1, 3, none⟩ = some (.bool true) ∧ V.cell? ⟨w.heap.size, 3, none⟩ = some (.int .i64 bx) ∧ V.cell? ⟨w.heap.size, 4, none⟩ = some (.int .i64 bY) ∧ True) 11 (by kernel_rfl) ?_ (fun hHeld => ?_)
 ·exact ⟨hcell HM_.out 0 rfl, hcell HM_.out 1 rfl, hcell HM_.out 2 rfl, hcell HM_.out 3 rfl, hcell HE_.out 3 rfl, hcell HE_.out 4 rfl, trivial⟩
 refine tkL 0 rfl ?_
 try simp only [Act.put, sm]
 refine tkL 1 rfl ?_
 try simp only [Act.put, sm]
 refine tkL 4 rfl ?_
 try simp only [Act.put, sm]
 refine tkL 5 rfl ?_
 try simp only [Act.put, sm]
 refine tkL 6 rfl ?_
 try simp only [Act.put, sm]
 refine wpAnyL_ready (rs := [2]) (by kernel_rfl) (by simp) ?_
 refine AllReadyL.cons (o := _) rfl (fun K hK => ?_) AllReadyL.nil
 have gK := hHeld
 clear hHeld
 clear gK
 have e1 := hcell HE_.out 1 rfl
 have e2 := hcell HE_.out 2 rfl
 go_simp
 clear e1 e2
 try go_wp2_with fail
 refine hK.out _ _ ?_ (fun hHeld => ?_)
 ·exact ⟨hcell HM_.out 0 rfl, hcell HM_.out 1 rfl, hcell HM_.out 2 rfl, hcell HM_.out 3 rfl, hcell HE_.out 3 rfl, hcell HE_.out 4 rfl, trivial⟩
 clear hK K
 try simp only [Act.put, sm]
 refine wpAnyL_ready (rs := [3]) (by kernel_rfl) (by simp) ?_
 refine AllReadyL.cons (o := _) rfl (fun K hK => ?_) AllReadyL.nil
 have gK := hHeld
 clear hHeld
 clear gK
 go_simp
 refine (HA.out _).mono ?_
 rintro E w5 ⟨rfl, kk⟩
 have HE_n := Lib.hid (blk HE_.out kk)
 have HM_n := Lib.hid (blk HM_.out kk)
 have HR_n := Lib.hid (blk HR_.out kk)
 have KA_n := Lib.hid (KA_.out.trans kk)
 clear kk HE_ HM_ HR_ KA_
 have HE_ := HE_n
 have HM_ := HM_n
 have HR_ := HR_n
 have KA_ := KA_n
 clear HE_n HM_n HR_n KA_n
 try go_wp2_with fail
 refine hK.out _ _ ?_ (fun hHeld => ?_)
 ·exact ⟨hcell HM_.out 0 rfl, hcell HM_.out 1 rfl, hcell HM_.out 2 rfl, hcell HM_.out 3 rfl, hcell HE_.out 3 rfl, hcell HE_.out 4 rfl, trivial⟩
 clear hK K
 try simp only [Act.put, sm]
 refine tkL 8 rfl ?_
 try simp only [Act.put, sm]
 refine wpAnyL_ready (rs := [7]) (by kernel_rfl) (by simp) ?_
 refine AllReadyL.cons (o := _) rfl (fun K hK => ?_) AllReadyL.nil
 have gK := hHeld
 clear hHeld
 clear gK
 go_simp
 refine (HB.out _).mono ?_
 rintro E w6 ⟨rfl, kk⟩
 have HE_n := Lib.hid (blk HE_.out kk)
 have HM_n := Lib.hid (blk HM_.out kk)
 have HR_n := Lib.hid (blk HR_.out kk)
 have KA_n := Lib.hid (KA_.out.trans kk)
 clear kk HE_ HM_ HR_ KA_
 have HE_ := HE_n
 have HM_ := HM_n
 have HR_ := HR_n
 have KA_ := KA_n
 clear HE_n HM_n HR_n KA_n
 try go_wp2_with fail
 refine hK.out _ _ ?_ (fun hHeld => ?_)
 ·exact ⟨hcell HM_.out 0 rfl, hcell HM_.out 1 rfl, hcell HM_.out 2 rfl, hcell HM_.out 3 rfl, hcell HE_.out 3 rfl, hcell HE_.out 4 rfl, trivial⟩
 clear hK K
 try simp only [Act.put, sm]
 refine wpAnyL_ready (rs := [9]) (by kernel_rfl) (by simp) ?_
 refine AllReadyL.cons (o := _) rfl (fun K hK => ?_) AllReadyL.nil
 have gK := hHeld
 clear hHeld
 clear gK
 have e1 := hcell HE_.out 1 rfl
 have e2 := hcell HE_.out 2 rfl
 have f1 := Lib.frozen_of_heap HE_.out 1
 have f2 := Lib.frozen_of_heap HE_.out 2
 go_simp
 try go_wp2_with fail
 clear e1 e2 f1 f2
 have hs := heap_set (o := 2) (v := .int .i64 qy) (heap_set (o := 1) (v := .int .i64 qx) HE_.out)
 simp at hs
 have kz := ((Kp.refl w6 (some (w.heap.size))).set (o := 1) (.int .i64 qx)).set (o := 2) (.int .i64 qy)
 have HEn := Lib.hid hs
 have HMn := Lib.hid ((kz.block _ (lt_of_block HM_.out) (by intro q; have := Option.some.inj q; omega)).trans HM_.out)
 have HRn := Lib.hid ((kz.block _ (lt_of_block HR_.out) (by intro q; have := Option.some.inj q; omega)).trans HR_.out)
 have KAn := Lib.hid (KA_.out.of_own kz (Nat.le_refl _))
 clear hs kz HE_ HM_ HR_ KA_
 try go_wp2_with fail
 refine hK.out _ _ ?_ (fun hHeld => ?_)
 ·exact ⟨hcell HMn.out 0 rfl, hcell HMn.out 1 rfl, hcell HMn.out 2 rfl, hcell HMn.out 3 rfl, hcell HEn.out 3 rfl, hcell HEn.out 4 rfl, trivial⟩
 clear hK K
 try simp only [Act.put, sm]
 refine tkL 10 rfl ?_
 try simp only [Act.put, sm]
 generalize hw7 : (w6.setCell ⟨w.heap.size, 1, none⟩ (.int .i64 qx)).setCell ⟨w.heap.size, 2, none⟩ (.int .i64 qy) = w7 at *
 clear hw7
 refine wpAnyL_ready (rs := [11]) (by kernel_rfl) (by simp) ?_
 refine AllReadyL.last (o := _) rfl (fun K hK => ?_)
 have e3 := hcell HEn.out 3 rfl
 have e4 := hcell HEn.out 4 rfl
 have f3 := Lib.frozen_of_heap HEn.out 3
 have f4 := Lib.frozen_of_heap HEn.out 4
 clear hHeld
 go_simp
 try go_wp2_with fail
 refine hK.out _ _ ?_
 clear hK K
 try simp only [Act.put, sm]
 clear e3 e4 f3 f4
 have hs := heap_set (o := 4) (v := .int .i64 ry) (heap_set (o := 3) (v := .int .i64 rx) HEn.out)
 simp at hs
 have kz := ((Kp.refl w7 (some (w.heap.size))).set (o := 3) (.int .i64 rx)).set (o := 4) (.int .i64 ry)
 have HEz := Lib.hid hs
 have HRz := Lib.hid ((kz.block _ (lt_of_block HRn.out) (by intro q; have := Option.some.inj q; omega)).trans HRn.out)
 have KAz := Lib.hid (KAn.out.of_own kz (Nat.le_refl _))
 clear hs kz HEn HMn HRn KAn
 generalize (w7.setCell ⟨w.heap.size, 3, none⟩ (.int .i64 rx)).setCell ⟨w.heap.size, 4, none⟩ (.int .i64 ry) = w8 at *
 refine wpAnyL_done (by kernel_rfl) ?_ _
 have e0 := hcell HEz.out 0 rfl
 have e1 := hcell HEz.out 1 rfl
 have e2 := hcell HEz.out 2 rfl
 have e3 := hcell HEz.out 3 rfl
 have e4 := hcell HEz.out 4 rfl
 have e5 := hcell HEz.out 5 rfl
 have e6 := hcell HEz.out 6 rfl
 have x0 := hcell HRz.out 0 rfl
 have x1 := hcell HRz.out 1 rfl
 have x2 := hcell HRz.out 2 rfl
 have x3 := hcell HRz.out 3 rfl
 have x4 := hcell HRz.out 4 rfl
 have x5 := hcell HRz.out 5 rfl
 have x6 := hcell HRz.out 6 rfl
 have f0 := Lib.frozen_of_heap HRz.out 0
 have f1 := Lib.frozen_of_heap HRz.out 1
 have f2 := Lib.frozen_of_heap HRz.out 2
 have f3 := Lib.frozen_of_heap HRz.out 3
 have f4 := Lib.frozen_of_heap HRz.out 4
 have f5 := Lib.frozen_of_heap HRz.out 5
 have f6 := Lib.frozen_of_heap HRz.out 6
 go_wp2_with fail
 have hst := heap_seven2 HRz.out (.int .i64 3) (.int .i64 qx) (.int .i64 qy) (.int .i64 rx) (.int .i64 ry) (.int .i64 px) (.int .i64 py)
 have KF := Lib.hid (KAz.out.of_own hst.2 (by omega))
 have q0 := hcell hst.1 0 rfl
 have q1 := hcell hst.1 1 rfl
 have q2 := hcell hst.1 2 rfl
 have q3 := hcell hst.1 3 rfl
 have q4 := hcell hst.1 4 rfl
 have q5 := hcell hst.1 5 rfl
 have q6 := hcell hst.1 6 rfl
 clear hst e0 x0 f0 e1 x1 f1 e2 x2 f2 e3 x3 f3 e4 x4 f4 e5 x5 f5 e6 x6 f6 HEz HRz KAz
 generalize (((((((w8.setCell ⟨w.heap.size + 1 + 1, 0, none⟩ (.int .i64 3)).setCell ⟨w.heap.size + 1 + 1, 1, none⟩ (.int .i64 qx)).setCell ⟨w.heap.size + 1 + 1, 2, none⟩ (.int .i64 qy)).setCell ⟨w.heap.size + 1 + 1, 3, none⟩ (.int .i64 rx)).setCell ⟨w.heap.size + 1 + 1, 4, none⟩ (.int .i64 ry)).setCell ⟨w.heap.size + 1 + 1, 5, none⟩ (.int .i64 px)).setCell ⟨w.heap.size + 1 + 1, 6, none⟩ (.int .i64 py)) = wf at *
 exact bodyPost_ret (v := .agg #[.int .i64 3, .int .i64 qx, .int .i64 qy, .int .i64 rx, .int .i64 ry, .int .i64 px, .int .i64 py]) (by simp [results, Tryz.results57, go_sem, q0, q1, q2, q3, q4, q5, q6]) rfl ⟨rfl, KF.out⟩

set_option maxHeartbeats 8000000 in
set_option maxRecDepth 100000 in
theorem emove_3false (ax ay bx bY cx cy mx my t : Int) (w : World) (h1 : Mid ax) (h2 : Mid ay) (h3 : Mid bx) (h4 : Mid bY) (h5 : Mid cx) (h6 : Mid cy) (h7 : Mid mx) (h8 : Mid my) :
  Calls Tryz.prog 57 #[.agg #[.int .i64 3, .int .i64 ax, .int .i64 ay, .int .i64 bx, .int .i64 bY, .int .i64 cx, .int .i64 cy], .agg #[.int .i64 mx, .int .i64 my, .int .i64 t, .bool false]] w fun E w' => E = .returned (.agg #[.int .i64 3, .int .i64 (Pl.apply ⟨⟨mx, my⟩, t, false⟩ ⟨ax, ay⟩).x, .int .i64 (Pl.apply ⟨⟨mx, my⟩, t, false⟩ ⟨ax, ay⟩).y, .int .i64 (Pl.apply ⟨⟨mx, my⟩, t, false⟩ ⟨bx, bY⟩).x, .int .i64 (Pl.apply ⟨⟨mx, my⟩, t, false⟩ ⟨bx, bY⟩).y, .int .i64 (Pl.apply ⟨⟨mx, my⟩, t, false⟩ ⟨cx, cy⟩).x, .int .i64 (Pl.apply ⟨⟨mx, my⟩, t, false⟩ ⟨cx, cy⟩).y]) ∧ Kp w w' none := by
 obtain ⟨fb, hfb⟩ : ∃ fb, decide (Pl.chkE ⟨3, ⟨ax, ay⟩, ⟨bx, bY⟩, ⟨cx, cy⟩⟩ = 0) = fb := ⟨_, rfl⟩
 have HOF : Hid (∀ V, Calls Tryz.prog 104 #[.agg #[.int .i64 3, .int .i64 ax, .int .i64 ay, .int .i64 bx, .int .i64 bY, .int .i64 cx, .int .i64 cy]] V fun E w' => E = .returned (.tuple #[.agg #[.func (.func 197) #[] #[], .func (.func 195) #[] #[], .func (.func 196) #[] #[], .int .i64 2], .bool fb]) ∧ Kp V w' none) := Lib.hid (fun V => by rw [← hfb]; exact of_any ⟨3, ⟨ax, ay⟩, ⟨bx, bY⟩, ⟨cx, cy⟩⟩ V)
 have HA := Lib.hid (fun V => apply_any ⟨⟨mx, my⟩, t, false⟩ ⟨ax, ay⟩ V h1 h2 h7 h8)
 have HB := Lib.hid (fun V => apply_any ⟨⟨mx, my⟩, t, false⟩ ⟨bx, bY⟩ V h3 h4 h7 h8)
 have HC := Lib.hid (fun V => apply_any ⟨⟨mx, my⟩, t, false⟩ ⟨cx, cy⟩ V h5 h6 h7 h8)
 dsimp only at HA HB HC
 clear hfb h1 h2 h3 h4 h5 h6 h7 h8
 generalize (Pl.apply ⟨⟨mx, my⟩, t, false⟩ ⟨ax, ay⟩).x = qx at *
 generalize (Pl.apply ⟨⟨mx, my⟩, t, false⟩ ⟨ax, ay⟩).y = qy at *
 generalize (Pl.apply ⟨⟨mx, my⟩, t, false⟩ ⟨bx, bY⟩).x = rx at *
 generalize (Pl.apply ⟨⟨mx, my⟩, t, false⟩ ⟨bx, bY⟩).y = ry at *
 generalize (Pl.apply ⟨⟨mx, my⟩, t, false⟩ ⟨cx, cy⟩).x = px at *
 generalize (Pl.apply ⟨⟨mx, my⟩, t, false⟩ ⟨cx, cy⟩).y = py at *
 go_enter Tryz.func57, Tryz.ntmps57
 go_wp2_with fail
 have HE0 : Hid ((((w.alloc (Obj.cells #[.int .i64 3, .int .i64 ax, .int .i64 ay, .int .i64 bx, .int .i64 bY, .int .i64 cx, .int .i64 cy] 123)).alloc (Obj.cells #[.int .i64 mx, .int .i64 my, .int .i64 t, .bool false] 44)).alloc (Obj.cells #[.int .i64 0, .int .i64 0, .int .i64 0, .int .i64 0, .int .i64 0, .int .i64 0, .int .i64 0] 123)).heap[w.heap.size]? = some (Obj.cells #[.int .i64 3, .int .i64 ax, .int .i64 ay, .int .i64 bx, .int .i64 bY, .int .i64 cx, .int .i64 cy] 123 (0, 0))) := Lib.hid (blk (heap_alloc_new w _) (((Kp.refl _ none).alloc _).alloc _))
 have HM0 : Hid ((((w.alloc (Obj.cells #[.int .i64 3, .int .i64 ax, .int .i64 ay, .int .i64 bx, .int .i64 bY, .int .i64 cx, .int .i64 cy] 123)).alloc (Obj.cells #[.int .i64 mx, .int .i64 my, .int .i64 t, .bool false] 44)).alloc (Obj.cells #[.int .i64 0, .int .i64 0, .int .i64 0, .int .i64 0, .int .i64 0, .int .i64 0, .int .i64 0] 123)).heap[w.heap.size + 1]? = some (Obj.cells #[.int .i64 mx, .int .i64 my, .int .i64 t, .bool false] 44 (0, 0))) := Lib.hid (blk (w := (w.alloc (Obj.cells #[.int .i64 3, .int .i64 ax, .int .i64 ay, .int .i64 bx, .int .i64 bY, .int .i64 cx, .int .i64 cy] 123)).alloc (Obj.cells #[.int .i64 mx, .int .i64 my, .int .i64 t, .bool false] 44)) (by have h := heap_alloc_new (w.alloc (Obj.cells #[.int .i64 3, .int .i64 ax, .int .i64 ay, .int .i64 bx, .int .i64 bY, .int .i64 cx, .int .i64 cy] 123)) (Obj.cells #[.int .i64 mx, .int .i64 my, .int .i64 t, .bool false] 44); simpa using h) ((Kp.refl _ none).alloc _))
 have HR0 : Hid ((((w.alloc (Obj.cells #[.int .i64 3, .int .i64 ax, .int .i64 ay, .int .i64 bx, .int .i64 bY, .int .i64 cx, .int .i64 cy] 123)).alloc (Obj.cells #[.int .i64 mx, .int .i64 my, .int .i64 t, .bool false] 44)).alloc (Obj.cells #[.int .i64 0, .int .i64 0, .int .i64 0, .int .i64 0, .int .i64 0, .int .i64 0, .int .i64 0] 123)).heap[w.heap.size + 1 + 1]? = some (Obj.cells #[.int .i64 0, .int .i64 0, .int .i64 0, .int .i64 0, .int .i64 0, .int .i64 0, .int .i64 0] 123 (0, 0))) := Lib.hid (by have h := heap_alloc_new ((w.alloc (Obj.cells #[.int .i64 3, .int .i64 ax, .int .i64 ay, .int .i64 bx, .int .i64 bY, .int .i64 cx, .int .i64 cy] 123)).alloc (Obj.cells #[.int .i64 mx, .int .i64 my, .int .i64 t, .bool false] 44)) (Obj.cells #[.int .i64 0, .int .i64 0, .int .i64 0, .int .i64 0, .int .i64 0, .int .i64 0, .int .i64 0] 123); simpa using h)
 have KA0 : Hid (Kp w (((w.alloc (Obj.cells #[.int .i64 3, .int .i64 ax, .int .i64 ay, .int .i64 bx, .int .i64 bY, .int .i64 cx, .int .i64 cy] 123)).alloc (Obj.cells #[.int .i64 mx, .int .i64 my, .int .i64 t, .bool false] 44)).alloc (Obj.cells #[.int .i64 0, .int .i64 0, .int .i64 0, .int .i64 0, .int .i64 0, .int .i64 0, .int .i64 0] 123)) none) := Lib.hid ((((Kp.refl w none).alloc _).alloc _).alloc _)
 refine (HOF.out _).mono ?_
 rintro E w1 ⟨rfl, k1⟩
 have KA1 := Lib.hid (KA0.out.trans k1)
 have HE1 := Lib.hid (blk HE0.out k1)
 have HM1 := Lib.hid (blk HM0.out k1)
 have HR1 := Lib.hid (blk HR0.out k1)
 clear k1 HE0 HM0 HR0 KA0
 have kf : Kp w1 (w1.alloc (Obj.cells #[.func (.func 197) #[] #[], .func (.func 195) #[] #[], .func (.func 196) #[] #[], .int .i64 2] 201)) none := (Kp.refl w1 none).alloc _
 have m3 := hcell (blk HM1.out kf) 3 rfl
 have e0 := hcell (blk HE1.out kf) 0 rfl
 have HFB := hcell (heap_alloc_new w1 (Obj.cells #[.func (.func 197) #[] #[], .func (.func 195) #[] #[], .func (.func 196) #[] #[], .int .i64 2] 201)) 3 rfl
 go_upto_region 4 with fail
 have HE2 := Lib.hid (blk HE1.out kf)
 have HM2 := Lib.hid (blk HM1.out kf)
 have HR2 := Lib.hid (blk HR1.out kf)
 have KA2 := Lib.hid (KA1.out.trans kf)
 clear kf m3 e0 HFB HE1 HM1 HR1 KA1
 generalize w1.alloc (Obj.cells #[.func (.func 197) #[] #[], .func (.func 195) #[] #[], .func (.func 196) #[] #[], .int .i64 2] 201) = w2 at *
 have e0 := hcell HE2.out 0 rfl
 have e5 := hcell HE2.out 5 rfl
 have e6 := hcell HE2.out 6 rfl
 have m0 := hcell HM2.out 0 rfl
 have m1 := hcell HM2.out 1 rfl
 have m2 := hcell HM2.out 2 rfl
 have m3 := hcell HM2.out 3 rfl
 go_wp2_with fail
 refine (HC.out _).mono ?_
 rintro E w3 ⟨rfl, k3⟩
 have HE3 := Lib.hid (blk HE2.out k3)
 have HM3 := Lib.hid (blk HM2.out k3)
 have HR3 := Lib.hid (blk HR2.out k3)
 have KA3 := Lib.hid (KA2.out.trans k3)
 clear k3 e0 e5 e6 m0 m1 m2 m3 HE2 HM2 HR2 KA2
 have f5 := Lib.frozen_of_heap HE3.out 5
 have f6 := Lib.frozen_of_heap HE3.out 6
 have e5 := hcell HE3.out 5 rfl
 have e6 := hcell HE3.out 6 rfl
 go_upto_region 6 with fail
 have hs := heap_set (o := 6) (v := .int .i64 py) (heap_set (o := 5) (v := .int .i64 px) HE3.out)
 simp at hs
 have kz := ((Kp.refl w3 (some (w.heap.size))).set (o := 5) (.int .i64 px)).set (o := 6) (.int .i64 py)
 have HE := Lib.hid hs
 have HM := Lib.hid ((kz.block _ (lt_of_block HM3.out) (by intro q; have := Option.some.inj q; omega)).trans HM3.out)
 have HR := Lib.hid ((kz.block _ (lt_of_block HR3.out) (by intro q; have := Option.some.inj q; omega)).trans HR3.out)
 have KA := Lib.hid (KA3.out.of_own kz (Nat.le_refl _))
 clear hs kz f5 f6 e5 e6 HE3 HM3 HR3 KA3
 generalize (w3.setCell ⟨w.heap.size, 5, none⟩ (.int .i64 px)).setCell ⟨w.heap.size, 6, none⟩ (.int .i64 py) = w4 at *
 have HE_ := Lib.hid (blk HE.out (Kp.refl w4 none).drew)
 have HM_ := Lib.hid (blk HM.out (Kp.refl w4 none).drew)
 have HR_ := Lib.hid (blk HR.out (Kp.refl w4 none).drew)
 have KA_ := Lib.hid (KA.out.trans (Kp.refl w4 none).drew)
 clear HE HM HR KA
 refine wp_region_last (fun V => V.cell? ⟨w.heap.size + 1, 0, none⟩ = some (.int .i64 mx) ∧ V.cell? ⟨w.heap.size + 1, 1, none⟩ = some (.int .i64 my) ∧ V.cell? ⟨w.heap.size + 1, 2, none⟩ = some (.int .i64 t) ∧ V.cell? ⟨w.heap.size + 1, 3, none⟩ = some (.bool false) ∧ V.cell? ⟨w.heap.size, 3, none⟩ = some (.int .i64 bx) ∧ V.cell? ⟨w.heap.size, 4, none⟩ = some (.int .i64 bY) ∧ True) 11 (by kernel_rfl) ?_ (fun hHeld => ?_)
 ·exact ⟨hcell HM_.out 0 rfl, hcell HM_.out 1 rfl, hcell HM_.out 2 rfl, hcell HM_.out 3 rfl, hcell HE_.out 3 rfl, hcell HE_.out 4 rfl, trivial⟩
 refine tkL 0 rfl ?_
 try simp only [Act.put, sm]
 refine tkL 1 rfl ?_
 try simp only [Act.put, sm]
 refine tkL 4 rfl ?_
 try simp only [Act.put, sm]
 refine tkL 5 rfl ?_
 try simp only [Act.put, sm]
 refine tkL 6 rfl ?_
 try simp only [Act.put, sm]
 refine wpAnyL_ready (rs := [2]) (by kernel_rfl) (by simp) ?_
 refine AllReadyL.cons (o := _) rfl (fun K hK => ?_) AllReadyL.nil
 have gK := hHeld
 clear hHeld
 clear gK
 have e1 := hcell HE_.out 1 rfl
 have e2 := hcell HE_.out 2 rfl
 go_simp
 clear e1 e2
 try go_wp2_with fail
 refine hK.out _ _ ?_ (fun hHeld => ?_)
 ·exact ⟨hcell HM_.out 0 rfl, hcell HM_.out 1 rfl, hcell HM_.out 2 rfl, hcell HM_.out 3 rfl, hcell HE_.out 3 rfl, hcell HE_.out 4 rfl, trivial⟩
 clear hK K
 try simp only [Act.put, sm]
 refine wpAnyL_ready (rs := [3]) (by kernel_rfl) (by simp) ?_
 refine AllReadyL.cons (o := _) rfl (fun K hK => ?_) AllReadyL.nil
 have gK := hHeld
 clear hHeld
 clear gK
 go_simp
 refine (HA.out _).mono ?_
 rintro E w5 ⟨rfl, kk⟩
 have HE_n := Lib.hid (blk HE_.out kk)
 have HM_n := Lib.hid (blk HM_.out kk)
 have HR_n := Lib.hid (blk HR_.out kk)
 have KA_n := Lib.hid (KA_.out.trans kk)
 clear kk HE_ HM_ HR_ KA_
 have HE_ := HE_n
 have HM_ := HM_n
 have HR_ := HR_n
 have KA_ := KA_n
 clear HE_n HM_n HR_n KA_n
 try go_wp2_with fail
 refine hK.out _ _ ?_ (fun hHeld => ?_)
 ·exact ⟨hcell HM_.out 0 rfl, hcell HM_.out 1 rfl, hcell HM_.out 2 rfl, hcell HM_.out 3 rfl, hcell HE_.out 3 rfl, hcell HE_.out 4 rfl, trivial⟩
 clear hK K
 try simp only [Act.put, sm]
 refine tkL 8 rfl ?_
 try simp only [Act.put, sm]
 refine wpAnyL_ready (rs := [7]) (by kernel_rfl) (by simp) ?_
 refine AllReadyL.cons (o := _) rfl (fun K hK => ?_) AllReadyL.nil
 have gK := hHeld
 clear hHeld
 clear gK
 go_simp
 refine (HB.out _).mono ?_
 rintro E w6 ⟨rfl, kk⟩
 have HE_n := Lib.hid (blk HE_.out kk)
 have HM_n := Lib.hid (blk HM_.out kk)
 have HR_n := Lib.hid (blk HR_.out kk)
 have KA_n := Lib.hid (KA_.out.trans kk)
 clear kk HE_ HM_ HR_ KA_
 have HE_ := HE_n
 have HM_ := HM_n
 have HR_ := HR_n
 have KA_ := KA_n
 clear HE_n HM_n HR_n KA_n
 try go_wp2_with fail
 refine hK.out _ _ ?_ (fun hHeld => ?_)
 ·exact ⟨hcell HM_.out 0 rfl, hcell HM_.out 1 rfl, hcell HM_.out 2 rfl, hcell HM_.out 3 rfl, hcell HE_.out 3 rfl, hcell HE_.out 4 rfl, trivial⟩
 clear hK K
 try simp only [Act.put, sm]
 refine wpAnyL_ready (rs := [9]) (by kernel_rfl) (by simp) ?_
 refine AllReadyL.cons (o := _) rfl (fun K hK => ?_) AllReadyL.nil
 have gK := hHeld
 clear hHeld
 clear gK
 have e1 := hcell HE_.out 1 rfl
 have e2 := hcell HE_.out 2 rfl
 have f1 := Lib.frozen_of_heap HE_.out 1
 have f2 := Lib.frozen_of_heap HE_.out 2
 go_simp
 try go_wp2_with fail
 clear e1 e2 f1 f2
 have hs := heap_set (o := 2) (v := .int .i64 qy) (heap_set (o := 1) (v := .int .i64 qx) HE_.out)
 simp at hs
 have kz := ((Kp.refl w6 (some (w.heap.size))).set (o := 1) (.int .i64 qx)).set (o := 2) (.int .i64 qy)
 have HEn := Lib.hid hs
 have HMn := Lib.hid ((kz.block _ (lt_of_block HM_.out) (by intro q; have := Option.some.inj q; omega)).trans HM_.out)
 have HRn := Lib.hid ((kz.block _ (lt_of_block HR_.out) (by intro q; have := Option.some.inj q; omega)).trans HR_.out)
 have KAn := Lib.hid (KA_.out.of_own kz (Nat.le_refl _))
 clear hs kz HE_ HM_ HR_ KA_
 try go_wp2_with fail
 refine hK.out _ _ ?_ (fun hHeld => ?_)
 ·exact ⟨hcell HMn.out 0 rfl, hcell HMn.out 1 rfl, hcell HMn.out 2 rfl, hcell HMn.out 3 rfl, hcell HEn.out 3 rfl, hcell HEn.out 4 rfl, trivial⟩
 clear hK K
 try simp only [Act.put, sm]
 refine tkL 10 rfl ?_
 try simp only [Act.put, sm]
 generalize hw7 : (w6.setCell ⟨w.heap.size, 1, none⟩ (.int .i64 qx)).setCell ⟨w.heap.size, 2, none⟩ (.int .i64 qy) = w7 at *
 clear hw7
 refine wpAnyL_ready (rs := [11]) (by kernel_rfl) (by simp) ?_
 refine AllReadyL.last (o := _) rfl (fun K hK => ?_)
 have e3 := hcell HEn.out 3 rfl
 have e4 := hcell HEn.out 4 rfl
 have f3 := Lib.frozen_of_heap HEn.out 3
 have f4 := Lib.frozen_of_heap HEn.out 4
 clear hHeld
 go_simp
 try go_wp2_with fail
 refine hK.out _ _ ?_
 clear hK K
 try simp only [Act.put, sm]
 clear e3 e4 f3 f4
 have hs := heap_set (o := 4) (v := .int .i64 ry) (heap_set (o := 3) (v := .int .i64 rx) HEn.out)
 simp at hs
 have kz := ((Kp.refl w7 (some (w.heap.size))).set (o := 3) (.int .i64 rx)).set (o := 4) (.int .i64 ry)
 have HEz := Lib.hid hs
 have HRz := Lib.hid ((kz.block _ (lt_of_block HRn.out) (by intro q; have := Option.some.inj q; omega)).trans HRn.out)
 have KAz := Lib.hid (KAn.out.of_own kz (Nat.le_refl _))
 clear hs kz HEn HMn HRn KAn
 generalize (w7.setCell ⟨w.heap.size, 3, none⟩ (.int .i64 rx)).setCell ⟨w.heap.size, 4, none⟩ (.int .i64 ry) = w8 at *
 refine wpAnyL_done (by kernel_rfl) ?_ _
 have e0 := hcell HEz.out 0 rfl
 have e1 := hcell HEz.out 1 rfl
 have e2 := hcell HEz.out 2 rfl
 have e3 := hcell HEz.out 3 rfl
 have e4 := hcell HEz.out 4 rfl
 have e5 := hcell HEz.out 5 rfl
 have e6 := hcell HEz.out 6 rfl
 have x0 := hcell HRz.out 0 rfl
 have x1 := hcell HRz.out 1 rfl
 have x2 := hcell HRz.out 2 rfl
 have x3 := hcell HRz.out 3 rfl
 have x4 := hcell HRz.out 4 rfl
 have x5 := hcell HRz.out 5 rfl
 have x6 := hcell HRz.out 6 rfl
 have f0 := Lib.frozen_of_heap HRz.out 0
 have f1 := Lib.frozen_of_heap HRz.out 1
 have f2 := Lib.frozen_of_heap HRz.out 2
 have f3 := Lib.frozen_of_heap HRz.out 3
 have f4 := Lib.frozen_of_heap HRz.out 4
 have f5 := Lib.frozen_of_heap HRz.out 5
 have f6 := Lib.frozen_of_heap HRz.out 6
 go_wp2_with fail
 have hst := heap_seven2 HRz.out (.int .i64 3) (.int .i64 qx) (.int .i64 qy) (.int .i64 rx) (.int .i64 ry) (.int .i64 px) (.int .i64 py)
 have KF := Lib.hid (KAz.out.of_own hst.2 (by omega))
 have q0 := hcell hst.1 0 rfl
 have q1 := hcell hst.1 1 rfl
 have q2 := hcell hst.1 2 rfl
 have q3 := hcell hst.1 3 rfl
 have q4 := hcell hst.1 4 rfl
 have q5 := hcell hst.1 5 rfl
 have q6 := hcell hst.1 6 rfl
 clear hst e0 x0 f0 e1 x1 f1 e2 x2 f2 e3 x3 f3 e4 x4 f4 e5 x5 f5 e6 x6 f6 HEz HRz KAz
 generalize (((((((w8.setCell ⟨w.heap.size + 1 + 1, 0, none⟩ (.int .i64 3)).setCell ⟨w.heap.size + 1 + 1, 1, none⟩ (.int .i64 qx)).setCell ⟨w.heap.size + 1 + 1, 2, none⟩ (.int .i64 qy)).setCell ⟨w.heap.size + 1 + 1, 3, none⟩ (.int .i64 rx)).setCell ⟨w.heap.size + 1 + 1, 4, none⟩ (.int .i64 ry)).setCell ⟨w.heap.size + 1 + 1, 5, none⟩ (.int .i64 px)).setCell ⟨w.heap.size + 1 + 1, 6, none⟩ (.int .i64 py)) = wf at *
 exact bodyPost_ret (v := .agg #[.int .i64 3, .int .i64 qx, .int .i64 qy, .int .i64 rx, .int .i64 ry, .int .i64 px, .int .i64 py]) (by simp [results, Tryz.results57, go_sem, q0, q1, q2, q3, q4, q5, q6]) rfl ⟨rfl, KF.out⟩

set_option maxHeartbeats 8000000 in
set_option maxRecDepth 100000 in
theorem emove_3true (ax ay bx bY cx cy mx my t : Int) (w : World) (h1 : Mid ax) (h2 : Mid ay) (h3 : Mid bx) (h4 : Mid bY) (h5 : Mid cx) (h6 : Mid cy) (h7 : Mid mx) (h8 : Mid my) :
  Calls Tryz.prog 57 #[.agg #[.int .i64 3, .int .i64 ax, .int .i64 ay, .int .i64 bx, .int .i64 bY, .int .i64 cx, .int .i64 cy], .agg #[.int .i64 mx, .int .i64 my, .int .i64 t, .bool true]] w fun E w' => E = .returned (.agg #[.int .i64 2, .int .i64 (Pl.apply ⟨⟨mx, my⟩, t, true⟩ ⟨ax, ay⟩).x, .int .i64 (Pl.apply ⟨⟨mx, my⟩, t, true⟩ ⟨ax, ay⟩).y, .int .i64 (Pl.apply ⟨⟨mx, my⟩, t, true⟩ ⟨bx, bY⟩).x, .int .i64 (Pl.apply ⟨⟨mx, my⟩, t, true⟩ ⟨bx, bY⟩).y, .int .i64 (Pl.apply ⟨⟨mx, my⟩, t, true⟩ ⟨cx, cy⟩).x, .int .i64 (Pl.apply ⟨⟨mx, my⟩, t, true⟩ ⟨cx, cy⟩).y]) ∧ Kp w w' none := by
 obtain ⟨fb, hfb⟩ : ∃ fb, decide (Pl.chkE ⟨3, ⟨ax, ay⟩, ⟨bx, bY⟩, ⟨cx, cy⟩⟩ = 0) = fb := ⟨_, rfl⟩
 have HOF : Hid (∀ V, Calls Tryz.prog 104 #[.agg #[.int .i64 3, .int .i64 ax, .int .i64 ay, .int .i64 bx, .int .i64 bY, .int .i64 cx, .int .i64 cy]] V fun E w' => E = .returned (.tuple #[.agg #[.func (.func 197) #[] #[], .func (.func 195) #[] #[], .func (.func 196) #[] #[], .int .i64 2], .bool fb]) ∧ Kp V w' none) := Lib.hid (fun V => by rw [← hfb]; exact of_any ⟨3, ⟨ax, ay⟩, ⟨bx, bY⟩, ⟨cx, cy⟩⟩ V)
 have HA := Lib.hid (fun V => apply_any ⟨⟨mx, my⟩, t, true⟩ ⟨ax, ay⟩ V h1 h2 h7 h8)
 have HB := Lib.hid (fun V => apply_any ⟨⟨mx, my⟩, t, true⟩ ⟨bx, bY⟩ V h3 h4 h7 h8)
 have HC := Lib.hid (fun V => apply_any ⟨⟨mx, my⟩, t, true⟩ ⟨cx, cy⟩ V h5 h6 h7 h8)
 dsimp only at HA HB HC
 clear hfb h1 h2 h3 h4 h5 h6 h7 h8
 generalize (Pl.apply ⟨⟨mx, my⟩, t, true⟩ ⟨ax, ay⟩).x = qx at *
 generalize (Pl.apply ⟨⟨mx, my⟩, t, true⟩ ⟨ax, ay⟩).y = qy at *
 generalize (Pl.apply ⟨⟨mx, my⟩, t, true⟩ ⟨bx, bY⟩).x = rx at *
 generalize (Pl.apply ⟨⟨mx, my⟩, t, true⟩ ⟨bx, bY⟩).y = ry at *
 generalize (Pl.apply ⟨⟨mx, my⟩, t, true⟩ ⟨cx, cy⟩).x = px at *
 generalize (Pl.apply ⟨⟨mx, my⟩, t, true⟩ ⟨cx, cy⟩).y = py at *
 go_enter Tryz.func57, Tryz.ntmps57
 go_wp2_with fail
 have HE0 : Hid ((((w.alloc (Obj.cells #[.int .i64 3, .int .i64 ax, .int .i64 ay, .int .i64 bx, .int .i64 bY, .int .i64 cx, .int .i64 cy] 123)).alloc (Obj.cells #[.int .i64 mx, .int .i64 my, .int .i64 t, .bool true] 44)).alloc (Obj.cells #[.int .i64 0, .int .i64 0, .int .i64 0, .int .i64 0, .int .i64 0, .int .i64 0, .int .i64 0] 123)).heap[w.heap.size]? = some (Obj.cells #[.int .i64 3, .int .i64 ax, .int .i64 ay, .int .i64 bx, .int .i64 bY, .int .i64 cx, .int .i64 cy] 123 (0, 0))) := Lib.hid (blk (heap_alloc_new w _) (((Kp.refl _ none).alloc _).alloc _))
 have HM0 : Hid ((((w.alloc (Obj.cells #[.int .i64 3, .int .i64 ax, .int .i64 ay, .int .i64 bx, .int .i64 bY, .int .i64 cx, .int .i64 cy] 123)).alloc (Obj.cells #[.int .i64 mx, .int .i64 my, .int .i64 t, .bool true] 44)).alloc (Obj.cells #[.int .i64 0, .int .i64 0, .int .i64 0, .int .i64 0, .int .i64 0, .int .i64 0, .int .i64 0] 123)).heap[w.heap.size + 1]? = some (Obj.cells #[.int .i64 mx, .int .i64 my, .int .i64 t, .bool true] 44 (0, 0))) := Lib.hid (blk (w := (w.alloc (Obj.cells #[.int .i64 3, .int .i64 ax, .int .i64 ay, .int .i64 bx, .int .i64 bY, .int .i64 cx, .int .i64 cy] 123)).alloc (Obj.cells #[.int .i64 mx, .int .i64 my, .int .i64 t, .bool true] 44)) (by have h := heap_alloc_new (w.alloc (Obj.cells #[.int .i64 3, .int .i64 ax, .int .i64 ay, .int .i64 bx, .int .i64 bY, .int .i64 cx, .int .i64 cy] 123)) (Obj.cells #[.int .i64 mx, .int .i64 my, .int .i64 t, .bool true] 44); simpa using h) ((Kp.refl _ none).alloc _))
 have HR0 : Hid ((((w.alloc (Obj.cells #[.int .i64 3, .int .i64 ax, .int .i64 ay, .int .i64 bx, .int .i64 bY, .int .i64 cx, .int .i64 cy] 123)).alloc (Obj.cells #[.int .i64 mx, .int .i64 my, .int .i64 t, .bool true] 44)).alloc (Obj.cells #[.int .i64 0, .int .i64 0, .int .i64 0, .int .i64 0, .int .i64 0, .int .i64 0, .int .i64 0] 123)).heap[w.heap.size + 1 + 1]? = some (Obj.cells #[.int .i64 0, .int .i64 0, .int .i64 0, .int .i64 0, .int .i64 0, .int .i64 0, .int .i64 0] 123 (0, 0))) := Lib.hid (by have h := heap_alloc_new ((w.alloc (Obj.cells #[.int .i64 3, .int .i64 ax, .int .i64 ay, .int .i64 bx, .int .i64 bY, .int .i64 cx, .int .i64 cy] 123)).alloc (Obj.cells #[.int .i64 mx, .int .i64 my, .int .i64 t, .bool true] 44)) (Obj.cells #[.int .i64 0, .int .i64 0, .int .i64 0, .int .i64 0, .int .i64 0, .int .i64 0, .int .i64 0] 123); simpa using h)
 have KA0 : Hid (Kp w (((w.alloc (Obj.cells #[.int .i64 3, .int .i64 ax, .int .i64 ay, .int .i64 bx, .int .i64 bY, .int .i64 cx, .int .i64 cy] 123)).alloc (Obj.cells #[.int .i64 mx, .int .i64 my, .int .i64 t, .bool true] 44)).alloc (Obj.cells #[.int .i64 0, .int .i64 0, .int .i64 0, .int .i64 0, .int .i64 0, .int .i64 0, .int .i64 0] 123)) none) := Lib.hid ((((Kp.refl w none).alloc _).alloc _).alloc _)
 refine (HOF.out _).mono ?_
 rintro E w1 ⟨rfl, k1⟩
 have KA1 := Lib.hid (KA0.out.trans k1)
 have HE1 := Lib.hid (blk HE0.out k1)
 have HM1 := Lib.hid (blk HM0.out k1)
 have HR1 := Lib.hid (blk HR0.out k1)
 clear k1 HE0 HM0 HR0 KA0
 have kf : Kp w1 (w1.alloc (Obj.cells #[.func (.func 197) #[] #[], .func (.func 195) #[] #[], .func (.func 196) #[] #[], .int .i64 2] 201)) none := (Kp.refl w1 none).alloc _
 have m3 := hcell (blk HM1.out kf) 3 rfl
 have e0 := hcell (blk HE1.out kf) 0 rfl
 have ff := Lib.frozen_of_heap (blk HE1.out kf) 0
 have HFB := hcell (heap_alloc_new w1 (Obj.cells #[.func (.func 197) #[] #[], .func (.func 195) #[] #[], .func (.func 196) #[] #[], .int .i64 2] 201)) 3 rfl
 go_upto_region 4 with fail
 have hs := heap_set (o := 0) (v := .int .i64 2) (blk HE1.out kf)
 simp at hs
 have kz : Kp (w1.alloc (Obj.cells #[.func (.func 197) #[] #[], .func (.func 195) #[] #[], .func (.func 196) #[] #[], .int .i64 2] 201)) _ (some (w.heap.size)) := (Kp.refl (w1.alloc (Obj.cells #[.func (.func 197) #[] #[], .func (.func 195) #[] #[], .func (.func 196) #[] #[], .int .i64 2] 201)) (some (w.heap.size))).set (o := 0) (.int .i64 2)
 have HE2 := Lib.hid hs
 have HM2 := Lib.hid ((kz.block _ (lt_of_block (blk HM1.out kf)) (by intro q; have := Option.some.inj q; omega)).trans (blk HM1.out kf))
 have HR2 := Lib.hid ((kz.block _ (lt_of_block (blk HR1.out kf)) (by intro q; have := Option.some.inj q; omega)).trans (blk HR1.out kf))
 have KA2 := Lib.hid ((KA1.out.trans kf).of_own kz (Nat.le_refl _))
 clear hs kz kf m3 e0 ff HFB HE1 HM1 HR1 KA1
 generalize (w1.alloc (Obj.cells #[.func (.func 197) #[] #[], .func (.func 195) #[] #[], .func (.func 196) #[] #[], .int .i64 2] 201)).setCell ⟨w.heap.size, 0, none⟩ (.int .i64 2) = w2 at *
 have e0 := hcell HE2.out 0 rfl
 have e5 := hcell HE2.out 5 rfl
 have e6 := hcell HE2.out 6 rfl
 have m0 := hcell HM2.out 0 rfl
 have m1 := hcell HM2.out 1 rfl
 have m2 := hcell HM2.out 2 rfl
 have m3 := hcell HM2.out 3 rfl
 go_wp2_with fail
 refine (HC.out _).mono ?_
 rintro E w3 ⟨rfl, k3⟩
 have HE3 := Lib.hid (blk HE2.out k3)
 have HM3 := Lib.hid (blk HM2.out k3)
 have HR3 := Lib.hid (blk HR2.out k3)
 have KA3 := Lib.hid (KA2.out.trans k3)
 clear k3 e0 e5 e6 m0 m1 m2 m3 HE2 HM2 HR2 KA2
 have f5 := Lib.frozen_of_heap HE3.out 5
 have f6 := Lib.frozen_of_heap HE3.out 6
 have e5 := hcell HE3.out 5 rfl
 have e6 := hcell HE3.out 6 rfl
 go_upto_region 6 with fail
 have hs := heap_set (o := 6) (v := .int .i64 py) (heap_set (o := 5) (v := .int .i64 px) HE3.out)
 simp at hs
 have kz := ((Kp.refl w3 (some (w.heap.size))).set (o := 5) (.int .i64 px)).set (o := 6) (.int .i64 py)
 have HE := Lib.hid hs
 have HM := Lib.hid ((kz.block _ (lt_of_block HM3.out) (by intro q; have := Option.some.inj q; omega)).trans HM3.out)
 have HR := Lib.hid ((kz.block _ (lt_of_block HR3.out) (by intro q; have := Option.some.inj q; omega)).trans HR3.out)
 have KA := Lib.hid (KA3.out.of_own kz (Nat.le_refl _))
 clear hs kz f5 f6 e5 e6 HE3 HM3 HR3 KA3
 generalize (w3.setCell ⟨w.heap.size, 5, none⟩ (.int .i64 px)).setCell ⟨w.heap.size, 6, none⟩ (.int .i64 py) = w4 at *
 have HE_ := Lib.hid (blk HE.out (Kp.refl w4 none).drew)
 have HM_ := Lib.hid (blk HM.out (Kp.refl w4 none).drew)
 have HR_ := Lib.hid (blk HR.out (Kp.refl w4 none).drew)
 have KA_ := Lib.hid (KA.out.trans (Kp.refl w4 none).drew)
 clear HE HM HR KA
 refine wp_region_last (fun V => V.cell? ⟨w.heap.size + 1, 0, none⟩ = some (.int .i64 mx) ∧ V.cell? ⟨w.heap.size + 1, 1, none⟩ = some (.int .i64 my) ∧ V.cell? ⟨w.heap.size + 1, 2, none⟩ = some (.int .i64 t) ∧ V.cell? ⟨w.heap.size + 1, 3, none⟩ = some (.bool true) ∧ V.cell? ⟨w.heap.size, 3, none⟩ = some (.int .i64 bx) ∧ V.cell? ⟨w.heap.size, 4, none⟩ = some (.int .i64 bY) ∧ True) 11 (by kernel_rfl) ?_ (fun hHeld => ?_)
 ·exact ⟨hcell HM_.out 0 rfl, hcell HM_.out 1 rfl, hcell HM_.out 2 rfl, hcell HM_.out 3 rfl, hcell HE_.out 3 rfl, hcell HE_.out 4 rfl, trivial⟩
 refine tkL 0 rfl ?_
 try simp only [Act.put, sm]
 refine tkL 1 rfl ?_
 try simp only [Act.put, sm]
 refine tkL 4 rfl ?_
 try simp only [Act.put, sm]
 refine tkL 5 rfl ?_
 try simp only [Act.put, sm]
 refine tkL 6 rfl ?_
 try simp only [Act.put, sm]
 refine wpAnyL_ready (rs := [2]) (by kernel_rfl) (by simp) ?_
 refine AllReadyL.cons (o := _) rfl (fun K hK => ?_) AllReadyL.nil
 have gK := hHeld
 clear hHeld
 clear gK
 have e1 := hcell HE_.out 1 rfl
 have e2 := hcell HE_.out 2 rfl
 go_simp
 clear e1 e2
 try go_wp2_with fail
 refine hK.out _ _ ?_ (fun hHeld => ?_)
 ·exact ⟨hcell HM_.out 0 rfl, hcell HM_.out 1 rfl, hcell HM_.out 2 rfl, hcell HM_.out 3 rfl, hcell HE_.out 3 rfl, hcell HE_.out 4 rfl, trivial⟩
 clear hK K
 try simp only [Act.put, sm]
 refine wpAnyL_ready (rs := [3]) (by kernel_rfl) (by simp) ?_
 refine AllReadyL.cons (o := _) rfl (fun K hK => ?_) AllReadyL.nil
 have gK := hHeld
 clear hHeld
 clear gK
 go_simp
 refine (HA.out _).mono ?_
 rintro E w5 ⟨rfl, kk⟩
 have HE_n := Lib.hid (blk HE_.out kk)
 have HM_n := Lib.hid (blk HM_.out kk)
 have HR_n := Lib.hid (blk HR_.out kk)
 have KA_n := Lib.hid (KA_.out.trans kk)
 clear kk HE_ HM_ HR_ KA_
 have HE_ := HE_n
 have HM_ := HM_n
 have HR_ := HR_n
 have KA_ := KA_n
 clear HE_n HM_n HR_n KA_n
 try go_wp2_with fail
 refine hK.out _ _ ?_ (fun hHeld => ?_)
 ·exact ⟨hcell HM_.out 0 rfl, hcell HM_.out 1 rfl, hcell HM_.out 2 rfl, hcell HM_.out 3 rfl, hcell HE_.out 3 rfl, hcell HE_.out 4 rfl, trivial⟩
 clear hK K
 try simp only [Act.put, sm]
 refine tkL 8 rfl ?_
 try simp only [Act.put, sm]
 refine wpAnyL_ready (rs := [7]) (by kernel_rfl) (by simp) ?_
 refine AllReadyL.cons (o := _) rfl (fun K hK => ?_) AllReadyL.nil
 have gK := hHeld
 clear hHeld
 clear gK
 go_simp
 refine (HB.out _).mono ?_
 rintro E w6 ⟨rfl, kk⟩
 have HE_n := Lib.hid (blk HE_.out kk)
 have HM_n := Lib.hid (blk HM_.out kk)
 have HR_n := Lib.hid (blk HR_.out kk)
 have KA_n := Lib.hid (KA_.out.trans kk)
 clear kk HE_ HM_ HR_ KA_
 have HE_ := HE_n
 have HM_ := HM_n
 have HR_ := HR_n
 have KA_ := KA_n
 clear HE_n HM_n HR_n KA_n
 try go_wp2_with fail
 refine hK.out _ _ ?_ (fun hHeld => ?_)
 ·exact ⟨hcell HM_.out 0 rfl, hcell HM_.out 1 rfl, hcell HM_.out 2 rfl, hcell HM_.out 3 rfl, hcell HE_.out 3 rfl, hcell HE_.out 4 rfl, trivial⟩
 clear hK K
 try simp only [Act.put, sm]
 refine wpAnyL_ready (rs := [9]) (by kernel_rfl) (by simp) ?_
 refine AllReadyL.cons (o := _) rfl (fun K hK => ?_) AllReadyL.nil
 have gK := hHeld
 clear hHeld
 clear gK
 have e1 := hcell HE_.out 1 rfl
 have e2 := hcell HE_.out 2 rfl
 have f1 := Lib.frozen_of_heap HE_.out 1
 have f2 := Lib.frozen_of_heap HE_.out 2
 go_simp
 try go_wp2_with fail
 clear e1 e2 f1 f2
 have hs := heap_set (o := 2) (v := .int .i64 qy) (heap_set (o := 1) (v := .int .i64 qx) HE_.out)
 simp at hs
 have kz := ((Kp.refl w6 (some (w.heap.size))).set (o := 1) (.int .i64 qx)).set (o := 2) (.int .i64 qy)
 have HEn := Lib.hid hs
 have HMn := Lib.hid ((kz.block _ (lt_of_block HM_.out) (by intro q; have := Option.some.inj q; omega)).trans HM_.out)
 have HRn := Lib.hid ((kz.block _ (lt_of_block HR_.out) (by intro q; have := Option.some.inj q; omega)).trans HR_.out)
 have KAn := Lib.hid (KA_.out.of_own kz (Nat.le_refl _))
 clear hs kz HE_ HM_ HR_ KA_
 try go_wp2_with fail
 refine hK.out _ _ ?_ (fun hHeld => ?_)
 ·exact ⟨hcell HMn.out 0 rfl, hcell HMn.out 1 rfl, hcell HMn.out 2 rfl, hcell HMn.out 3 rfl, hcell HEn.out 3 rfl, hcell HEn.out 4 rfl, trivial⟩
 clear hK K
 try simp only [Act.put, sm]
 refine tkL 10 rfl ?_
 try simp only [Act.put, sm]
 generalize hw7 : (w6.setCell ⟨w.heap.size, 1, none⟩ (.int .i64 qx)).setCell ⟨w.heap.size, 2, none⟩ (.int .i64 qy) = w7 at *
 clear hw7
 refine wpAnyL_ready (rs := [11]) (by kernel_rfl) (by simp) ?_
 refine AllReadyL.last (o := _) rfl (fun K hK => ?_)
 have e3 := hcell HEn.out 3 rfl
 have e4 := hcell HEn.out 4 rfl
 have f3 := Lib.frozen_of_heap HEn.out 3
 have f4 := Lib.frozen_of_heap HEn.out 4
 clear hHeld
 go_simp
 try go_wp2_with fail
 refine hK.out _ _ ?_
 clear hK K
 try simp only [Act.put, sm]
 clear e3 e4 f3 f4
 have hs := heap_set (o := 4) (v := .int .i64 ry) (heap_set (o := 3) (v := .int .i64 rx) HEn.out)
 simp at hs
 have kz := ((Kp.refl w7 (some (w.heap.size))).set (o := 3) (.int .i64 rx)).set (o := 4) (.int .i64 ry)
 have HEz := Lib.hid hs
 have HRz := Lib.hid ((kz.block _ (lt_of_block HRn.out) (by intro q; have := Option.some.inj q; omega)).trans HRn.out)
 have KAz := Lib.hid (KAn.out.of_own kz (Nat.le_refl _))
 clear hs kz HEn HMn HRn KAn
 generalize (w7.setCell ⟨w.heap.size, 3, none⟩ (.int .i64 rx)).setCell ⟨w.heap.size, 4, none⟩ (.int .i64 ry) = w8 at *
 refine wpAnyL_done (by kernel_rfl) ?_ _
 have e0 := hcell HEz.out 0 rfl
 have e1 := hcell HEz.out 1 rfl
 have e2 := hcell HEz.out 2 rfl
 have e3 := hcell HEz.out 3 rfl
 have e4 := hcell HEz.out 4 rfl
 have e5 := hcell HEz.out 5 rfl
 have e6 := hcell HEz.out 6 rfl
 have x0 := hcell HRz.out 0 rfl
 have x1 := hcell HRz.out 1 rfl
 have x2 := hcell HRz.out 2 rfl
 have x3 := hcell HRz.out 3 rfl
 have x4 := hcell HRz.out 4 rfl
 have x5 := hcell HRz.out 5 rfl
 have x6 := hcell HRz.out 6 rfl
 have f0 := Lib.frozen_of_heap HRz.out 0
 have f1 := Lib.frozen_of_heap HRz.out 1
 have f2 := Lib.frozen_of_heap HRz.out 2
 have f3 := Lib.frozen_of_heap HRz.out 3
 have f4 := Lib.frozen_of_heap HRz.out 4
 have f5 := Lib.frozen_of_heap HRz.out 5
 have f6 := Lib.frozen_of_heap HRz.out 6
 go_wp2_with fail
 have hst := heap_seven2 HRz.out (.int .i64 2) (.int .i64 qx) (.int .i64 qy) (.int .i64 rx) (.int .i64 ry) (.int .i64 px) (.int .i64 py)
 have KF := Lib.hid (KAz.out.of_own hst.2 (by omega))
 have q0 := hcell hst.1 0 rfl
 have q1 := hcell hst.1 1 rfl
 have q2 := hcell hst.1 2 rfl
 have q3 := hcell hst.1 3 rfl
 have q4 := hcell hst.1 4 rfl
 have q5 := hcell hst.1 5 rfl
 have q6 := hcell hst.1 6 rfl
 clear hst e0 x0 f0 e1 x1 f1 e2 x2 f2 e3 x3 f3 e4 x4 f4 e5 x5 f5 e6 x6 f6 HEz HRz KAz
 generalize (((((((w8.setCell ⟨w.heap.size + 1 + 1, 0, none⟩ (.int .i64 2)).setCell ⟨w.heap.size + 1 + 1, 1, none⟩ (.int .i64 qx)).setCell ⟨w.heap.size + 1 + 1, 2, none⟩ (.int .i64 qy)).setCell ⟨w.heap.size + 1 + 1, 3, none⟩ (.int .i64 rx)).setCell ⟨w.heap.size + 1 + 1, 4, none⟩ (.int .i64 ry)).setCell ⟨w.heap.size + 1 + 1, 5, none⟩ (.int .i64 px)).setCell ⟨w.heap.size + 1 + 1, 6, none⟩ (.int .i64 py)) = wf at *
 exact bodyPost_ret (v := .agg #[.int .i64 2, .int .i64 qx, .int .i64 qy, .int .i64 rx, .int .i64 ry, .int .i64 px, .int .i64 py]) (by simp [results, Tryz.results57, go_sem, q0, q1, q2, q3, q4, q5, q6]) rfl ⟨rfl, KF.out⟩

end Go.Proofs.YtljjbdbgedmadaaGreatDoor
