/- Whether an edge is valid, on the program's side (edge.Check). No condition.
  An edge's family and error, on the program's side. No condition. -/
import Derived.Test.YtljjbdbgedmadaaGreatDoorOg
set_option maxHeartbeats 4000000
set_option maxRecDepth 100000
namespace Go.Proofs.YtljjbdbgedmadaaGreatDoor
open Go.RowKit
theorem check_0low (ek ax ay bx bY cx cy : Int) (w : World) (hof : ∀ V, Calls Tryz.prog 104 #[.agg #[I6 ek, I6 ax, I6 ay, I6 bx, I6 bY, I6 cx, I6 cy]] V fun E w' => E = .returned (.tuple #[.agg #[.nilFunc, .nilFunc, .nilFunc, I6 ek], .bool false]) ∧ Kp V w' none) (hek : ek < 1) :
  Calls Tryz.prog 144 #[.agg #[I6 ek, I6 ax, I6 ay, I6 bx, I6 bY, I6 cx, I6 cy]] w fun E w' => E = .returned (I6 11) ∧ Kp w w' none := by
 have HB := oh (heap_alloc_new w (.cells #[I6 ek, I6 ax, I6 ay, I6 bx, I6 bY, I6 cx, I6 cy] 123))
 have HOF := oh hof; clear hof; go_enter Tryz.func144, Tryz.ntmps144
 go_wp2_with fail
 refine (HOF.out _).mono ?_
 rintro e w1 ⟨rfl, k1⟩; have K1 := oh (((Kp.refl w none).alloc _).trans k1)
 have KF : Hid (Kp w (w1.alloc (.cells #[.nilFunc, .nilFunc, .nilFunc, I6 ek] 201)) none) := oh (K1.out.alloc _)
 have k2 : Kp (w.alloc (.cells #[I6 ek, I6 ax, I6 ay, I6 bx, I6 bY, I6 cx, I6 cy] 123)) (w1.alloc (.cells #[.nilFunc, .nilFunc, .nilFunc, I6 ek] 201)) none := k1.alloc _
 have z0 : (w1.alloc (.cells #[.nilFunc, .nilFunc, .nilFunc, I6 ek] 201)).cell? ⟨w.heap.size, 0, none⟩ = _ := ck HB.out k2 0 rfl
 have z1 : (w1.alloc (.cells #[.nilFunc, .nilFunc, .nilFunc, I6 ek] 201)).cell? ⟨w.heap.size, 1, none⟩ = _ := ck HB.out k2 1 rfl
 have z2 : (w1.alloc (.cells #[.nilFunc, .nilFunc, .nilFunc, I6 ek] 201)).cell? ⟨w.heap.size, 2, none⟩ = _ := ck HB.out k2 2 rfl
 have z3 : (w1.alloc (.cells #[.nilFunc, .nilFunc, .nilFunc, I6 ek] 201)).cell? ⟨w.heap.size, 3, none⟩ = _ := ck HB.out k2 3 rfl
 have z4 : (w1.alloc (.cells #[.nilFunc, .nilFunc, .nilFunc, I6 ek] 201)).cell? ⟨w.heap.size, 4, none⟩ = _ := ck HB.out k2 4 rfl
 have z5 : (w1.alloc (.cells #[.nilFunc, .nilFunc, .nilFunc, I6 ek] 201)).cell? ⟨w.heap.size, 5, none⟩ = _ := ck HB.out k2 5 rfl
 have z6 : (w1.alloc (.cells #[.nilFunc, .nilFunc, .nilFunc, I6 ek] 201)).cell? ⟨w.heap.size, 6, none⟩ = _ := ck HB.out k2 6 rfl
 clear k2; clear k1; go_wp2_with fail
 go_ret
 exact ⟨rfl, KF.out⟩
theorem check_0high (ek ax ay bx bY cx cy : Int) (w : World) (hof : ∀ V, Calls Tryz.prog 104 #[.agg #[I6 ek, I6 ax, I6 ay, I6 bx, I6 bY, I6 cx, I6 cy]] V fun E w' => E = .returned (.tuple #[.agg #[.nilFunc, .nilFunc, .nilFunc, I6 ek], .bool false]) ∧ Kp V w' none) (hek : 3 < ek) :
  Calls Tryz.prog 144 #[.agg #[I6 ek, I6 ax, I6 ay, I6 bx, I6 bY, I6 cx, I6 cy]] w fun E w' => E = .returned (I6 11) ∧ Kp w w' none := by
 have HB := oh (heap_alloc_new w (.cells #[I6 ek, I6 ax, I6 ay, I6 bx, I6 bY, I6 cx, I6 cy] 123))
 have HOF := oh hof; clear hof; have h0 : 1 ≤ ek := by omega
 go_enter Tryz.func144, Tryz.ntmps144
 go_wp2_with fail
 refine (HOF.out _).mono ?_
 rintro e w1 ⟨rfl, k1⟩; have K1 := oh (((Kp.refl w none).alloc _).trans k1)
 have KF : Hid (Kp w (w1.alloc (.cells #[.nilFunc, .nilFunc, .nilFunc, I6 ek] 201)) none) := oh (K1.out.alloc _)
 have k2 : Kp (w.alloc (.cells #[I6 ek, I6 ax, I6 ay, I6 bx, I6 bY, I6 cx, I6 cy] 123)) (w1.alloc (.cells #[.nilFunc, .nilFunc, .nilFunc, I6 ek] 201)) none := k1.alloc _
 have z0 : (w1.alloc (.cells #[.nilFunc, .nilFunc, .nilFunc, I6 ek] 201)).cell? ⟨w.heap.size, 0, none⟩ = _ := ck HB.out k2 0 rfl
 have z1 : (w1.alloc (.cells #[.nilFunc, .nilFunc, .nilFunc, I6 ek] 201)).cell? ⟨w.heap.size, 1, none⟩ = _ := ck HB.out k2 1 rfl
 have z2 : (w1.alloc (.cells #[.nilFunc, .nilFunc, .nilFunc, I6 ek] 201)).cell? ⟨w.heap.size, 2, none⟩ = _ := ck HB.out k2 2 rfl
 have z3 : (w1.alloc (.cells #[.nilFunc, .nilFunc, .nilFunc, I6 ek] 201)).cell? ⟨w.heap.size, 3, none⟩ = _ := ck HB.out k2 3 rfl
 have z4 : (w1.alloc (.cells #[.nilFunc, .nilFunc, .nilFunc, I6 ek] 201)).cell? ⟨w.heap.size, 4, none⟩ = _ := ck HB.out k2 4 rfl
 have z5 : (w1.alloc (.cells #[.nilFunc, .nilFunc, .nilFunc, I6 ek] 201)).cell? ⟨w.heap.size, 5, none⟩ = _ := ck HB.out k2 5 rfl
 have z6 : (w1.alloc (.cells #[.nilFunc, .nilFunc, .nilFunc, I6 ek] 201)).cell? ⟨w.heap.size, 6, none⟩ = _ := ck HB.out k2 6 rfl
 clear k2; clear k1; go_wp2_with fail
 go_ret
 exact ⟨rfl, KF.out⟩
theorem check_gok (ek fk ax ay bx bY cx cy : Int) (fa fb fc : Nat) (w : World) (hof : ∀ V, Calls Tryz.prog 104 #[.agg #[I6 ek, I6 ax, I6 ay, I6 bx, I6 bY, I6 cx, I6 cy]] V fun E w' => E = .returned (.tuple #[.agg #[.func (.func fa) #[] #[], .func (.func fb) #[] #[], .func (.func fc) #[] #[], I6 fk], .bool true]) ∧ Kp V w' none) :
  Calls Tryz.prog 144 #[.agg #[I6 ek, I6 ax, I6 ay, I6 bx, I6 bY, I6 cx, I6 cy]] w fun E w' => E = .returned (I6 0) ∧ Kp w w' none := by
 have HB := oh (heap_alloc_new w (.cells #[I6 ek, I6 ax, I6 ay, I6 bx, I6 bY, I6 cx, I6 cy] 123))
 have HOF := oh hof; clear hof; go_enter Tryz.func144, Tryz.ntmps144
 go_wp2_with fail
 refine (HOF.out _).mono ?_
 rintro e w1 ⟨rfl, k1⟩; have K1 := oh (((Kp.refl w none).alloc _).trans k1)
 have KF : Hid (Kp w (w1.alloc (.cells #[.func (.func fa) #[] #[], .func (.func fb) #[] #[], .func (.func fc) #[] #[], I6 fk] 201)) none) := oh (K1.out.alloc _)
 clear k1; go_wp2_with fail
 go_ret
 exact ⟨rfl, KF.out⟩
theorem check_gall (ek fk ax ay bx bY cx cy : Int) (fa fb fc : Nat) (w : World) (hof : ∀ V, Calls Tryz.prog 104 #[.agg #[I6 ek, I6 ax, I6 ay, I6 bx, I6 bY, I6 cx, I6 cy]] V fun E w' => E = .returned (.tuple #[.agg #[.func (.func fa) #[] #[], .func (.func fb) #[] #[], .func (.func fc) #[] #[], I6 fk], .bool false]) ∧ Kp V w' none) (hp0 : ∀ V, Calls Tryz.prog 162 #[.agg #[I6 ax, I6 ay]] V fun E w' => E = .returned (.bool true) ∧ Kp V w' none) (hp1 : ∀ V, Calls Tryz.prog 162 #[.agg #[I6 bx, I6 bY]] V fun E w' => E = .returned (.bool true) ∧ Kp V w' none) (hp2 : ∀ V, Calls Tryz.prog 162 #[.agg #[I6 cx, I6 cy]] V fun E w' => E = .returned (.bool true) ∧ Kp V w' none) (hk1 : 1 ≤ ek) (hk3 : ek ≤ 3) :
  Calls Tryz.prog 144 #[.agg #[I6 ek, I6 ax, I6 ay, I6 bx, I6 bY, I6 cx, I6 cy]] w fun E w' => E = .returned (I6 11) ∧ Kp w w' none := by
 have HB := oh (heap_alloc_new w (.cells #[I6 ek, I6 ax, I6 ay, I6 bx, I6 bY, I6 cx, I6 cy] 123))
 have HOF := oh hof; clear hof; have HP0 := oh hp0; clear hp0; have HP1 := oh hp1; clear hp1; have HP2 := oh hp2; clear hp2; go_enter Tryz.func144, Tryz.ntmps144
 go_wp2_with fail
 refine (HOF.out _).mono ?_
 rintro e w1 ⟨rfl, k1⟩; have K1 := oh (((Kp.refl w none).alloc _).trans k1)
 have KF : Hid (Kp w (w1.alloc (.cells #[.func (.func fa) #[] #[], .func (.func fb) #[] #[], .func (.func fc) #[] #[], I6 fk] 201)) none) := oh (K1.out.alloc _)
 have k2 : Kp (w.alloc (.cells #[I6 ek, I6 ax, I6 ay, I6 bx, I6 bY, I6 cx, I6 cy] 123)) (w1.alloc (.cells #[.func (.func fa) #[] #[], .func (.func fb) #[] #[], .func (.func fc) #[] #[], I6 fk] 201)) none := k1.alloc _
 have z0 : (w1.alloc (.cells #[.func (.func fa) #[] #[], .func (.func fb) #[] #[], .func (.func fc) #[] #[], I6 fk] 201)).cell? ⟨w.heap.size, 0, none⟩ = _ := ck HB.out k2 0 rfl
 have z1 : (w1.alloc (.cells #[.func (.func fa) #[] #[], .func (.func fb) #[] #[], .func (.func fc) #[] #[], I6 fk] 201)).cell? ⟨w.heap.size, 1, none⟩ = _ := ck HB.out k2 1 rfl
 have z2 : (w1.alloc (.cells #[.func (.func fa) #[] #[], .func (.func fb) #[] #[], .func (.func fc) #[] #[], I6 fk] 201)).cell? ⟨w.heap.size, 2, none⟩ = _ := ck HB.out k2 2 rfl
 have z3 : (w1.alloc (.cells #[.func (.func fa) #[] #[], .func (.func fb) #[] #[], .func (.func fc) #[] #[], I6 fk] 201)).cell? ⟨w.heap.size, 3, none⟩ = _ := ck HB.out k2 3 rfl
 have z4 : (w1.alloc (.cells #[.func (.func fa) #[] #[], .func (.func fb) #[] #[], .func (.func fc) #[] #[], I6 fk] 201)).cell? ⟨w.heap.size, 4, none⟩ = _ := ck HB.out k2 4 rfl
 have z5 : (w1.alloc (.cells #[.func (.func fa) #[] #[], .func (.func fb) #[] #[], .func (.func fc) #[] #[], I6 fk] 201)).cell? ⟨w.heap.size, 5, none⟩ = _ := ck HB.out k2 5 rfl
 have z6 : (w1.alloc (.cells #[.func (.func fa) #[] #[], .func (.func fb) #[] #[], .func (.func fc) #[] #[], I6 fk] 201)).cell? ⟨w.heap.size, 6, none⟩ = _ := ck HB.out k2 6 rfl
 clear k2; clear k1; go_wp2_with fail
 refine (HP0.out _).mono ?_
 rintro e v0 ⟨rfl, k3⟩; have y00 := (k3.below.cell (p := ⟨w.heap.size, 0, none⟩) (World.block_lt_of_cell? _ _ z0)).trans z0
 have y01 := (k3.below.cell (p := ⟨w.heap.size, 1, none⟩) (World.block_lt_of_cell? _ _ z1)).trans z1
 have y02 := (k3.below.cell (p := ⟨w.heap.size, 2, none⟩) (World.block_lt_of_cell? _ _ z2)).trans z2
 have y03 := (k3.below.cell (p := ⟨w.heap.size, 3, none⟩) (World.block_lt_of_cell? _ _ z3)).trans z3
 have y04 := (k3.below.cell (p := ⟨w.heap.size, 4, none⟩) (World.block_lt_of_cell? _ _ z4)).trans z4
 have y05 := (k3.below.cell (p := ⟨w.heap.size, 5, none⟩) (World.block_lt_of_cell? _ _ z5)).trans z5
 have y06 := (k3.below.cell (p := ⟨w.heap.size, 6, none⟩) (World.block_lt_of_cell? _ _ z6)).trans z6
 have KF := oh (KF.out.trans k3); clear k3; go_wp2_with fail
 refine (HP1.out _).mono ?_
 rintro e v1 ⟨rfl, k4⟩; have y10 := (k4.below.cell (p := ⟨w.heap.size, 0, none⟩) (World.block_lt_of_cell? _ _ y00)).trans y00
 have y11 := (k4.below.cell (p := ⟨w.heap.size, 1, none⟩) (World.block_lt_of_cell? _ _ y01)).trans y01
 have y12 := (k4.below.cell (p := ⟨w.heap.size, 2, none⟩) (World.block_lt_of_cell? _ _ y02)).trans y02
 have y13 := (k4.below.cell (p := ⟨w.heap.size, 3, none⟩) (World.block_lt_of_cell? _ _ y03)).trans y03
 have y14 := (k4.below.cell (p := ⟨w.heap.size, 4, none⟩) (World.block_lt_of_cell? _ _ y04)).trans y04
 have y15 := (k4.below.cell (p := ⟨w.heap.size, 5, none⟩) (World.block_lt_of_cell? _ _ y05)).trans y05
 have y16 := (k4.below.cell (p := ⟨w.heap.size, 6, none⟩) (World.block_lt_of_cell? _ _ y06)).trans y06
 have KF := oh (KF.out.trans k4); clear k4; go_wp2_with fail
 refine (HP2.out _).mono ?_
 rintro e v2 ⟨rfl, k5⟩; have y20 := (k5.below.cell (p := ⟨w.heap.size, 0, none⟩) (World.block_lt_of_cell? _ _ y10)).trans y10
 have y21 := (k5.below.cell (p := ⟨w.heap.size, 1, none⟩) (World.block_lt_of_cell? _ _ y11)).trans y11
 have y22 := (k5.below.cell (p := ⟨w.heap.size, 2, none⟩) (World.block_lt_of_cell? _ _ y12)).trans y12
 have y23 := (k5.below.cell (p := ⟨w.heap.size, 3, none⟩) (World.block_lt_of_cell? _ _ y13)).trans y13
 have y24 := (k5.below.cell (p := ⟨w.heap.size, 4, none⟩) (World.block_lt_of_cell? _ _ y14)).trans y14
 have y25 := (k5.below.cell (p := ⟨w.heap.size, 5, none⟩) (World.block_lt_of_cell? _ _ y15)).trans y15
 have y26 := (k5.below.cell (p := ⟨w.heap.size, 6, none⟩) (World.block_lt_of_cell? _ _ y16)).trans y16
 have KF := oh (KF.out.trans k5); clear k5; go_wp2_with fail
 go_ret
 exact ⟨rfl, KF.out⟩
theorem check_ga (ek fk ax ay bx bY cx cy : Int) (fa fb fc : Nat) (w : World) (hof : ∀ V, Calls Tryz.prog 104 #[.agg #[I6 ek, I6 ax, I6 ay, I6 bx, I6 bY, I6 cx, I6 cy]] V fun E w' => E = .returned (.tuple #[.agg #[.func (.func fa) #[] #[], .func (.func fb) #[] #[], .func (.func fc) #[] #[], I6 fk], .bool false]) ∧ Kp V w' none) (hp0 : ∀ V, Calls Tryz.prog 162 #[.agg #[I6 ax, I6 ay]] V fun E w' => E = .returned (.bool false) ∧ Kp V w' none) (hk1 : 1 ≤ ek) (hk3 : ek ≤ 3) :
  Calls Tryz.prog 144 #[.agg #[I6 ek, I6 ax, I6 ay, I6 bx, I6 bY, I6 cx, I6 cy]] w fun E w' => E = .returned (I6 10) ∧ Kp w w' none := by
 have HB := oh (heap_alloc_new w (.cells #[I6 ek, I6 ax, I6 ay, I6 bx, I6 bY, I6 cx, I6 cy] 123))
 have HOF := oh hof; clear hof; have HP0 := oh hp0; clear hp0; go_enter Tryz.func144, Tryz.ntmps144
 go_wp2_with fail
 refine (HOF.out _).mono ?_
 rintro e w1 ⟨rfl, k1⟩; have K1 := oh (((Kp.refl w none).alloc _).trans k1)
 have KF : Hid (Kp w (w1.alloc (.cells #[.func (.func fa) #[] #[], .func (.func fb) #[] #[], .func (.func fc) #[] #[], I6 fk] 201)) none) := oh (K1.out.alloc _)
 have k2 : Kp (w.alloc (.cells #[I6 ek, I6 ax, I6 ay, I6 bx, I6 bY, I6 cx, I6 cy] 123)) (w1.alloc (.cells #[.func (.func fa) #[] #[], .func (.func fb) #[] #[], .func (.func fc) #[] #[], I6 fk] 201)) none := k1.alloc _
 have z0 : (w1.alloc (.cells #[.func (.func fa) #[] #[], .func (.func fb) #[] #[], .func (.func fc) #[] #[], I6 fk] 201)).cell? ⟨w.heap.size, 0, none⟩ = _ := ck HB.out k2 0 rfl
 have z1 : (w1.alloc (.cells #[.func (.func fa) #[] #[], .func (.func fb) #[] #[], .func (.func fc) #[] #[], I6 fk] 201)).cell? ⟨w.heap.size, 1, none⟩ = _ := ck HB.out k2 1 rfl
 have z2 : (w1.alloc (.cells #[.func (.func fa) #[] #[], .func (.func fb) #[] #[], .func (.func fc) #[] #[], I6 fk] 201)).cell? ⟨w.heap.size, 2, none⟩ = _ := ck HB.out k2 2 rfl
 have z3 : (w1.alloc (.cells #[.func (.func fa) #[] #[], .func (.func fb) #[] #[], .func (.func fc) #[] #[], I6 fk] 201)).cell? ⟨w.heap.size, 3, none⟩ = _ := ck HB.out k2 3 rfl
 have z4 : (w1.alloc (.cells #[.func (.func fa) #[] #[], .func (.func fb) #[] #[], .func (.func fc) #[] #[], I6 fk] 201)).cell? ⟨w.heap.size, 4, none⟩ = _ := ck HB.out k2 4 rfl
 have z5 : (w1.alloc (.cells #[.func (.func fa) #[] #[], .func (.func fb) #[] #[], .func (.func fc) #[] #[], I6 fk] 201)).cell? ⟨w.heap.size, 5, none⟩ = _ := ck HB.out k2 5 rfl
 have z6 : (w1.alloc (.cells #[.func (.func fa) #[] #[], .func (.func fb) #[] #[], .func (.func fc) #[] #[], I6 fk] 201)).cell? ⟨w.heap.size, 6, none⟩ = _ := ck HB.out k2 6 rfl
 clear k2; clear k1; go_wp2_with fail
 refine (HP0.out _).mono ?_
 rintro e v0 ⟨rfl, k3⟩; have y00 := (k3.below.cell (p := ⟨w.heap.size, 0, none⟩) (World.block_lt_of_cell? _ _ z0)).trans z0
 have y01 := (k3.below.cell (p := ⟨w.heap.size, 1, none⟩) (World.block_lt_of_cell? _ _ z1)).trans z1
 have y02 := (k3.below.cell (p := ⟨w.heap.size, 2, none⟩) (World.block_lt_of_cell? _ _ z2)).trans z2
 have y03 := (k3.below.cell (p := ⟨w.heap.size, 3, none⟩) (World.block_lt_of_cell? _ _ z3)).trans z3
 have y04 := (k3.below.cell (p := ⟨w.heap.size, 4, none⟩) (World.block_lt_of_cell? _ _ z4)).trans z4
 have y05 := (k3.below.cell (p := ⟨w.heap.size, 5, none⟩) (World.block_lt_of_cell? _ _ z5)).trans z5
 have y06 := (k3.below.cell (p := ⟨w.heap.size, 6, none⟩) (World.block_lt_of_cell? _ _ z6)).trans z6
 have KF := oh (KF.out.trans k3); clear k3; go_wp2_with fail
 go_ret
 exact ⟨rfl, KF.out⟩
theorem check_gb (ek fk ax ay bx bY cx cy : Int) (fa fb fc : Nat) (w : World) (hof : ∀ V, Calls Tryz.prog 104 #[.agg #[I6 ek, I6 ax, I6 ay, I6 bx, I6 bY, I6 cx, I6 cy]] V fun E w' => E = .returned (.tuple #[.agg #[.func (.func fa) #[] #[], .func (.func fb) #[] #[], .func (.func fc) #[] #[], I6 fk], .bool false]) ∧ Kp V w' none) (hp0 : ∀ V, Calls Tryz.prog 162 #[.agg #[I6 ax, I6 ay]] V fun E w' => E = .returned (.bool true) ∧ Kp V w' none) (hp1 : ∀ V, Calls Tryz.prog 162 #[.agg #[I6 bx, I6 bY]] V fun E w' => E = .returned (.bool false) ∧ Kp V w' none) (hk1 : 1 ≤ ek) (hk3 : ek ≤ 3) :
  Calls Tryz.prog 144 #[.agg #[I6 ek, I6 ax, I6 ay, I6 bx, I6 bY, I6 cx, I6 cy]] w fun E w' => E = .returned (I6 10) ∧ Kp w w' none := by
 have HB := oh (heap_alloc_new w (.cells #[I6 ek, I6 ax, I6 ay, I6 bx, I6 bY, I6 cx, I6 cy] 123))
 have HOF := oh hof; clear hof; have HP0 := oh hp0; clear hp0; have HP1 := oh hp1; clear hp1; go_enter Tryz.func144, Tryz.ntmps144
 go_wp2_with fail
 refine (HOF.out _).mono ?_
 rintro e w1 ⟨rfl, k1⟩; have K1 := oh (((Kp.refl w none).alloc _).trans k1)
 have KF : Hid (Kp w (w1.alloc (.cells #[.func (.func fa) #[] #[], .func (.func fb) #[] #[], .func (.func fc) #[] #[], I6 fk] 201)) none) := oh (K1.out.alloc _)
 have k2 : Kp (w.alloc (.cells #[I6 ek, I6 ax, I6 ay, I6 bx, I6 bY, I6 cx, I6 cy] 123)) (w1.alloc (.cells #[.func (.func fa) #[] #[], .func (.func fb) #[] #[], .func (.func fc) #[] #[], I6 fk] 201)) none := k1.alloc _
 have z0 : (w1.alloc (.cells #[.func (.func fa) #[] #[], .func (.func fb) #[] #[], .func (.func fc) #[] #[], I6 fk] 201)).cell? ⟨w.heap.size, 0, none⟩ = _ := ck HB.out k2 0 rfl
 have z1 : (w1.alloc (.cells #[.func (.func fa) #[] #[], .func (.func fb) #[] #[], .func (.func fc) #[] #[], I6 fk] 201)).cell? ⟨w.heap.size, 1, none⟩ = _ := ck HB.out k2 1 rfl
 have z2 : (w1.alloc (.cells #[.func (.func fa) #[] #[], .func (.func fb) #[] #[], .func (.func fc) #[] #[], I6 fk] 201)).cell? ⟨w.heap.size, 2, none⟩ = _ := ck HB.out k2 2 rfl
 have z3 : (w1.alloc (.cells #[.func (.func fa) #[] #[], .func (.func fb) #[] #[], .func (.func fc) #[] #[], I6 fk] 201)).cell? ⟨w.heap.size, 3, none⟩ = _ := ck HB.out k2 3 rfl
 have z4 : (w1.alloc (.cells #[.func (.func fa) #[] #[], .func (.func fb) #[] #[], .func (.func fc) #[] #[], I6 fk] 201)).cell? ⟨w.heap.size, 4, none⟩ = _ := ck HB.out k2 4 rfl
 have z5 : (w1.alloc (.cells #[.func (.func fa) #[] #[], .func (.func fb) #[] #[], .func (.func fc) #[] #[], I6 fk] 201)).cell? ⟨w.heap.size, 5, none⟩ = _ := ck HB.out k2 5 rfl
 have z6 : (w1.alloc (.cells #[.func (.func fa) #[] #[], .func (.func fb) #[] #[], .func (.func fc) #[] #[], I6 fk] 201)).cell? ⟨w.heap.size, 6, none⟩ = _ := ck HB.out k2 6 rfl
 clear k2; clear k1; go_wp2_with fail
 refine (HP0.out _).mono ?_
 rintro e v0 ⟨rfl, k3⟩; have y00 := (k3.below.cell (p := ⟨w.heap.size, 0, none⟩) (World.block_lt_of_cell? _ _ z0)).trans z0
 have y01 := (k3.below.cell (p := ⟨w.heap.size, 1, none⟩) (World.block_lt_of_cell? _ _ z1)).trans z1
 have y02 := (k3.below.cell (p := ⟨w.heap.size, 2, none⟩) (World.block_lt_of_cell? _ _ z2)).trans z2
 have y03 := (k3.below.cell (p := ⟨w.heap.size, 3, none⟩) (World.block_lt_of_cell? _ _ z3)).trans z3
 have y04 := (k3.below.cell (p := ⟨w.heap.size, 4, none⟩) (World.block_lt_of_cell? _ _ z4)).trans z4
 have y05 := (k3.below.cell (p := ⟨w.heap.size, 5, none⟩) (World.block_lt_of_cell? _ _ z5)).trans z5
 have y06 := (k3.below.cell (p := ⟨w.heap.size, 6, none⟩) (World.block_lt_of_cell? _ _ z6)).trans z6
 have KF := oh (KF.out.trans k3); clear k3; go_wp2_with fail
 refine (HP1.out _).mono ?_
 rintro e v1 ⟨rfl, k4⟩; have y10 := (k4.below.cell (p := ⟨w.heap.size, 0, none⟩) (World.block_lt_of_cell? _ _ y00)).trans y00
 have y11 := (k4.below.cell (p := ⟨w.heap.size, 1, none⟩) (World.block_lt_of_cell? _ _ y01)).trans y01
 have y12 := (k4.below.cell (p := ⟨w.heap.size, 2, none⟩) (World.block_lt_of_cell? _ _ y02)).trans y02
 have y13 := (k4.below.cell (p := ⟨w.heap.size, 3, none⟩) (World.block_lt_of_cell? _ _ y03)).trans y03
 have y14 := (k4.below.cell (p := ⟨w.heap.size, 4, none⟩) (World.block_lt_of_cell? _ _ y04)).trans y04
 have y15 := (k4.below.cell (p := ⟨w.heap.size, 5, none⟩) (World.block_lt_of_cell? _ _ y05)).trans y05
 have y16 := (k4.below.cell (p := ⟨w.heap.size, 6, none⟩) (World.block_lt_of_cell? _ _ y06)).trans y06
 have KF := oh (KF.out.trans k4); clear k4; go_wp2_with fail
 go_ret
 exact ⟨rfl, KF.out⟩
theorem check_gc (ek fk ax ay bx bY cx cy : Int) (fa fb fc : Nat) (w : World) (hof : ∀ V, Calls Tryz.prog 104 #[.agg #[I6 ek, I6 ax, I6 ay, I6 bx, I6 bY, I6 cx, I6 cy]] V fun E w' => E = .returned (.tuple #[.agg #[.func (.func fa) #[] #[], .func (.func fb) #[] #[], .func (.func fc) #[] #[], I6 fk], .bool false]) ∧ Kp V w' none) (hp0 : ∀ V, Calls Tryz.prog 162 #[.agg #[I6 ax, I6 ay]] V fun E w' => E = .returned (.bool true) ∧ Kp V w' none) (hp1 : ∀ V, Calls Tryz.prog 162 #[.agg #[I6 bx, I6 bY]] V fun E w' => E = .returned (.bool true) ∧ Kp V w' none) (hp2 : ∀ V, Calls Tryz.prog 162 #[.agg #[I6 cx, I6 cy]] V fun E w' => E = .returned (.bool false) ∧ Kp V w' none) (hk1 : 1 ≤ ek) (hk3 : ek ≤ 3) :
  Calls Tryz.prog 144 #[.agg #[I6 ek, I6 ax, I6 ay, I6 bx, I6 bY, I6 cx, I6 cy]] w fun E w' => E = .returned (I6 10) ∧ Kp w w' none := by
 have HB := oh (heap_alloc_new w (.cells #[I6 ek, I6 ax, I6 ay, I6 bx, I6 bY, I6 cx, I6 cy] 123))
 have HOF := oh hof; clear hof; have HP0 := oh hp0; clear hp0; have HP1 := oh hp1; clear hp1; have HP2 := oh hp2; clear hp2; go_enter Tryz.func144, Tryz.ntmps144
 go_wp2_with fail
 refine (HOF.out _).mono ?_
 rintro e w1 ⟨rfl, k1⟩; have K1 := oh (((Kp.refl w none).alloc _).trans k1)
 have KF : Hid (Kp w (w1.alloc (.cells #[.func (.func fa) #[] #[], .func (.func fb) #[] #[], .func (.func fc) #[] #[], I6 fk] 201)) none) := oh (K1.out.alloc _)
 have k2 : Kp (w.alloc (.cells #[I6 ek, I6 ax, I6 ay, I6 bx, I6 bY, I6 cx, I6 cy] 123)) (w1.alloc (.cells #[.func (.func fa) #[] #[], .func (.func fb) #[] #[], .func (.func fc) #[] #[], I6 fk] 201)) none := k1.alloc _
 have z0 : (w1.alloc (.cells #[.func (.func fa) #[] #[], .func (.func fb) #[] #[], .func (.func fc) #[] #[], I6 fk] 201)).cell? ⟨w.heap.size, 0, none⟩ = _ := ck HB.out k2 0 rfl
 have z1 : (w1.alloc (.cells #[.func (.func fa) #[] #[], .func (.func fb) #[] #[], .func (.func fc) #[] #[], I6 fk] 201)).cell? ⟨w.heap.size, 1, none⟩ = _ := ck HB.out k2 1 rfl
 have z2 : (w1.alloc (.cells #[.func (.func fa) #[] #[], .func (.func fb) #[] #[], .func (.func fc) #[] #[], I6 fk] 201)).cell? ⟨w.heap.size, 2, none⟩ = _ := ck HB.out k2 2 rfl
 have z3 : (w1.alloc (.cells #[.func (.func fa) #[] #[], .func (.func fb) #[] #[], .func (.func fc) #[] #[], I6 fk] 201)).cell? ⟨w.heap.size, 3, none⟩ = _ := ck HB.out k2 3 rfl
 have z4 : (w1.alloc (.cells #[.func (.func fa) #[] #[], .func (.func fb) #[] #[], .func (.func fc) #[] #[], I6 fk] 201)).cell? ⟨w.heap.size, 4, none⟩ = _ := ck HB.out k2 4 rfl
 have z5 : (w1.alloc (.cells #[.func (.func fa) #[] #[], .func (.func fb) #[] #[], .func (.func fc) #[] #[], I6 fk] 201)).cell? ⟨w.heap.size, 5, none⟩ = _ := ck HB.out k2 5 rfl
 have z6 : (w1.alloc (.cells #[.func (.func fa) #[] #[], .func (.func fb) #[] #[], .func (.func fc) #[] #[], I6 fk] 201)).cell? ⟨w.heap.size, 6, none⟩ = _ := ck HB.out k2 6 rfl
 clear k2; clear k1; go_wp2_with fail
 refine (HP0.out _).mono ?_
 rintro e v0 ⟨rfl, k3⟩; have y00 := (k3.below.cell (p := ⟨w.heap.size, 0, none⟩) (World.block_lt_of_cell? _ _ z0)).trans z0
 have y01 := (k3.below.cell (p := ⟨w.heap.size, 1, none⟩) (World.block_lt_of_cell? _ _ z1)).trans z1
 have y02 := (k3.below.cell (p := ⟨w.heap.size, 2, none⟩) (World.block_lt_of_cell? _ _ z2)).trans z2
 have y03 := (k3.below.cell (p := ⟨w.heap.size, 3, none⟩) (World.block_lt_of_cell? _ _ z3)).trans z3
 have y04 := (k3.below.cell (p := ⟨w.heap.size, 4, none⟩) (World.block_lt_of_cell? _ _ z4)).trans z4
 have y05 := (k3.below.cell (p := ⟨w.heap.size, 5, none⟩) (World.block_lt_of_cell? _ _ z5)).trans z5
 have y06 := (k3.below.cell (p := ⟨w.heap.size, 6, none⟩) (World.block_lt_of_cell? _ _ z6)).trans z6
 have KF := oh (KF.out.trans k3); clear k3; go_wp2_with fail
 refine (HP1.out _).mono ?_
 rintro e v1 ⟨rfl, k4⟩; have y10 := (k4.below.cell (p := ⟨w.heap.size, 0, none⟩) (World.block_lt_of_cell? _ _ y00)).trans y00
 have y11 := (k4.below.cell (p := ⟨w.heap.size, 1, none⟩) (World.block_lt_of_cell? _ _ y01)).trans y01
 have y12 := (k4.below.cell (p := ⟨w.heap.size, 2, none⟩) (World.block_lt_of_cell? _ _ y02)).trans y02
 have y13 := (k4.below.cell (p := ⟨w.heap.size, 3, none⟩) (World.block_lt_of_cell? _ _ y03)).trans y03
 have y14 := (k4.below.cell (p := ⟨w.heap.size, 4, none⟩) (World.block_lt_of_cell? _ _ y04)).trans y04
 have y15 := (k4.below.cell (p := ⟨w.heap.size, 5, none⟩) (World.block_lt_of_cell? _ _ y05)).trans y05
 have y16 := (k4.below.cell (p := ⟨w.heap.size, 6, none⟩) (World.block_lt_of_cell? _ _ y06)).trans y06
 have KF := oh (KF.out.trans k4); clear k4; go_wp2_with fail
 refine (HP2.out _).mono ?_
 rintro e v2 ⟨rfl, k5⟩; have y20 := (k5.below.cell (p := ⟨w.heap.size, 0, none⟩) (World.block_lt_of_cell? _ _ y10)).trans y10
 have y21 := (k5.below.cell (p := ⟨w.heap.size, 1, none⟩) (World.block_lt_of_cell? _ _ y11)).trans y11
 have y22 := (k5.below.cell (p := ⟨w.heap.size, 2, none⟩) (World.block_lt_of_cell? _ _ y12)).trans y12
 have y23 := (k5.below.cell (p := ⟨w.heap.size, 3, none⟩) (World.block_lt_of_cell? _ _ y13)).trans y13
 have y24 := (k5.below.cell (p := ⟨w.heap.size, 4, none⟩) (World.block_lt_of_cell? _ _ y14)).trans y14
 have y25 := (k5.below.cell (p := ⟨w.heap.size, 5, none⟩) (World.block_lt_of_cell? _ _ y15)).trans y15
 have y26 := (k5.below.cell (p := ⟨w.heap.size, 6, none⟩) (World.block_lt_of_cell? _ _ y16)).trans y16
 have KF := oh (KF.out.trans k5); clear k5; go_wp2_with fail
 go_ret
 exact ⟨rfl, KF.out⟩
def edV (e : Pl.Ed) : Array Value := #[I6 e.k, I6 e.a.x, I6 e.a.y, I6 e.b.x, I6 e.b.y, I6 e.c.x, I6 e.c.y]
theorem rightB {p : Pl.Pt} {b : Bool} (h : decide p.ok = b) : ∀ V, Calls Tryz.prog 162 #[.agg #[I6 p.x, I6 p.y]] V fun E w' => E = .returned (.bool b) ∧ Kp V w' none := fun V => by
 have := vright_any p.x p.y V
 rw [show decide (Pl.Pt.ok ⟨p.x, p.y⟩) = b from h] at this; exact this
theorem fam0 {k : Int} (h : ¬ (1 ≤ k ∧ k ≤ 3)) : famV k = #[.nilFunc, .nilFunc, .nilFunc, I6 k] := by
 unfold famV; rw [if_neg (by omega), if_neg (by omega), if_neg (by omega)]
theorem chkE_kind {e : Pl.Ed} (h : ¬ (1 ≤ e.k ∧ e.k ≤ 3)) : Pl.chkE e = 11 := by unfold Pl.chkE; rw [if_pos (by omega)]
theorem chkE_pt {e : Pl.Ed} (h : 1 ≤ e.k ∧ e.k ≤ 3) (h2 : ¬ (e.a.ok ∧ e.b.ok ∧ e.c.ok)) : Pl.chkE e = 10 := by unfold Pl.chkE; rw [if_neg (by omega), if_pos h2]
theorem chkE_line {e : Pl.Ed} (h : e.k = 1) (h2 : e.a.ok ∧ e.b.ok ∧ e.c.ok) : Pl.chkE e = if e.c = ⟨0, 0⟩ then 0 else 11 := by unfold Pl.chkE; rw [if_neg (by omega), if_neg (fun h => h h2), if_pos h]
theorem chkE_arc {e : Pl.Ed} (h : e.k = 2 ∨ e.k = 3) (h2 : e.a.ok ∧ e.b.ok ∧ e.c.ok) : Pl.chkE e = if Pl.Arc e then 0 else 11 := by unfold Pl.chkE; rw [if_neg (by omega), if_neg (fun h => h h2), if_neg (by omega)]
theorem of_any (e : Pl.Ed) (w : World) : Calls Tryz.prog 104 #[.agg (edV e)] w fun E w' => E = .returned (.tuple #[.agg (famV e.k), .bool (decide (Pl.chkE e = 0))]) ∧ Kp w w' none := by
 obtain ⟨k, a, b, c⟩ := e
 by_cases hk : 1 ≤ k ∧ k ≤ 3
 ·have h3 : k = 1 ∨ k = 2 ∨ k = 3 := by omega
  by_cases ha : a.ok
  ·have ha' := rightB (decide_eq_true ha)
   by_cases hb : b.ok
   ·have hb' := rightB (decide_eq_true hb)
    by_cases hc : c.ok
    ·have hc' := rightB (decide_eq_true hc)
     rcases h3 with rfl | rfl | rfl
     ·have e1 : decide (Pl.chkE ⟨1, a, b, c⟩ = 0) = decide (c = ⟨0, 0⟩) := by
       rw [chkE_line rfl ⟨ha, hb, hc⟩]; dsimp only; by_cases h : c = ⟨0, 0⟩ <;> simp [h]
      rw [e1]; exact of_g_4 1 1 a.x a.y b.x b.y c.x c.y 191 192 193 w (families_any 1) ha' hb' hc' (fun _ _ => by kernel_rfl) _ (fun V => lone_any 1 a.x a.y b.x b.y c.x c.y V)
     ·have e1 : decide (Pl.chkE ⟨2, a, b, c⟩ = 0) = decide (Pl.Arc ⟨2, a, b, c⟩) := by
       rw [chkE_arc (.inl rfl) ⟨ha, hb, hc⟩]; by_cases h : Pl.Arc ⟨2, a, b, c⟩ <;> simp [h]
      rw [e1]; exact of_g_4 2 3 a.x a.y b.x b.y c.x c.y 194 195 196 w (families_any 2) ha' hb' hc' (fun _ _ => by kernel_rfl) _ (fun V => left_any a.x a.y b.x b.y c.x c.y V ha hb hc)
     ·have e1 : decide (Pl.chkE ⟨3, a, b, c⟩ = 0) = decide (Pl.Arc ⟨3, a, b, c⟩) := by
       rw [chkE_arc (.inr rfl) ⟨ha, hb, hc⟩]; by_cases h : Pl.Arc ⟨3, a, b, c⟩ <;> simp [h]
      rw [e1]; exact of_g_4 3 2 a.x a.y b.x b.y c.x c.y 197 195 196 w (families_any 3) ha' hb' hc' (fun _ _ => by kernel_rfl) _ (fun V => rightw_any a.x a.y b.x b.y c.x c.y V ha hb hc)
    ·have hc' := rightB (decide_eq_false hc)
     rw [chkE_pt hk (fun h => hc h.2.2)]
     rcases h3 with rfl | rfl | rfl
     ·exact of_g_3 1 1 a.x a.y b.x b.y c.x c.y 191 192 193 w (families_any 1) ha' hb' hc'
     ·exact of_g_3 2 3 a.x a.y b.x b.y c.x c.y 194 195 196 w (families_any 2) ha' hb' hc'
     ·exact of_g_3 3 2 a.x a.y b.x b.y c.x c.y 197 195 196 w (families_any 3) ha' hb' hc'
   ·have hb' := rightB (decide_eq_false hb)
    rw [chkE_pt hk (fun h => hb h.2.1)]
    rcases h3 with rfl | rfl | rfl
    ·exact of_g_2 1 1 a.x a.y b.x b.y c.x c.y 191 192 193 w (families_any 1) ha' hb'
    ·exact of_g_2 2 3 a.x a.y b.x b.y c.x c.y 194 195 196 w (families_any 2) ha' hb'
    ·exact of_g_2 3 2 a.x a.y b.x b.y c.x c.y 197 195 196 w (families_any 3) ha' hb'
  ·have ha' := rightB (decide_eq_false ha)
   rw [chkE_pt hk (fun h => ha h.1)]
   rcases h3 with rfl | rfl | rfl
   ·exact of_g_1 1 1 a.x a.y b.x b.y c.x c.y 191 192 193 w (families_any 1) ha'
   ·exact of_g_1 2 3 a.x a.y b.x b.y c.x c.y 194 195 196 w (families_any 2) ha'
   ·exact of_g_1 3 2 a.x a.y b.x b.y c.x c.y 197 195 196 w (families_any 3) ha'
 ·rw [chkE_kind hk, fam0 hk]; exact of_0_0 k a.x a.y b.x b.y c.x c.y w hk
theorem ofB (e : Pl.Ed) (b : Bool) (h : decide (Pl.chkE e = 0) = b) : ∀ V, Calls Tryz.prog 104 #[.agg (edV e)] V fun E w' => E = .returned (.tuple #[.agg (famV e.k), .bool b]) ∧ Kp V w' none := fun V => h ▸ of_any e V
theorem check_any (e : Pl.Ed) (w : World) : Calls Tryz.prog 144 #[.agg (edV e)] w fun E w' => E = .returned (I6 (Pl.chkE e)) ∧ Kp w w' none := by
 obtain ⟨k, a, b, c⟩ := e
 by_cases hk : 1 ≤ k ∧ k ≤ 3
 ·have h3 : k = 1 ∨ k = 2 ∨ k = 3 := by omega
  by_cases h0 : Pl.chkE ⟨k, a, b, c⟩ = 0
  ·have hof := ofB ⟨k, a, b, c⟩ true (decide_eq_true h0)
   rw [h0]
   rcases h3 with rfl | rfl | rfl
   ·exact check_gok 1 1 a.x a.y b.x b.y c.x c.y 191 192 193 w hof
   ·exact check_gok 2 3 a.x a.y b.x b.y c.x c.y 194 195 196 w hof
   ·exact check_gok 3 2 a.x a.y b.x b.y c.x c.y 197 195 196 w hof
  ·have hof := ofB ⟨k, a, b, c⟩ false (decide_eq_false h0)
   by_cases ha : a.ok
   ·have ha' := rightB (decide_eq_true ha)
    by_cases hb : b.ok
    ·have hb' := rightB (decide_eq_true hb)
     by_cases hc : c.ok
     ·have hc' := rightB (decide_eq_true hc)
      have h11 : Pl.chkE ⟨k, a, b, c⟩ = 11 := by
       rcases h3 with h3 | h3
       ·rw [chkE_line h3 ⟨ha, hb, hc⟩] at h0 ⊢; split at h0; exact absurd rfl h0; rename_i h; rw [if_neg h]
       ·rw [chkE_arc h3 ⟨ha, hb, hc⟩] at h0 ⊢; split at h0; exact absurd rfl h0; rename_i h; rw [if_neg h]
      rw [h11]
      rcases h3 with rfl | rfl | rfl
      ·exact check_gall 1 1 a.x a.y b.x b.y c.x c.y 191 192 193 w hof ha' hb' hc' (by decide) (by decide)
      ·exact check_gall 2 3 a.x a.y b.x b.y c.x c.y 194 195 196 w hof ha' hb' hc' (by decide) (by decide)
      ·exact check_gall 3 2 a.x a.y b.x b.y c.x c.y 197 195 196 w hof ha' hb' hc' (by decide) (by decide)
     ·have hc' := rightB (decide_eq_false hc)
      rw [chkE_pt hk (fun h => hc h.2.2)]
      rcases h3 with rfl | rfl | rfl
      ·exact check_gc 1 1 a.x a.y b.x b.y c.x c.y 191 192 193 w hof ha' hb' hc' (by decide) (by decide)
      ·exact check_gc 2 3 a.x a.y b.x b.y c.x c.y 194 195 196 w hof ha' hb' hc' (by decide) (by decide)
      ·exact check_gc 3 2 a.x a.y b.x b.y c.x c.y 197 195 196 w hof ha' hb' hc' (by decide) (by decide)
    ·have hb' := rightB (decide_eq_false hb)
     rw [chkE_pt hk (fun h => hb h.2.1)]
     rcases h3 with rfl | rfl | rfl
     ·exact check_gb 1 1 a.x a.y b.x b.y c.x c.y 191 192 193 w hof ha' hb' (by decide) (by decide)
     ·exact check_gb 2 3 a.x a.y b.x b.y c.x c.y 194 195 196 w hof ha' hb' (by decide) (by decide)
     ·exact check_gb 3 2 a.x a.y b.x b.y c.x c.y 197 195 196 w hof ha' hb' (by decide) (by decide)
   ·have ha' := rightB (decide_eq_false ha)
    rw [chkE_pt hk (fun h => ha h.1)]
    rcases h3 with rfl | rfl | rfl
    ·exact check_ga 1 1 a.x a.y b.x b.y c.x c.y 191 192 193 w hof ha' (by decide) (by decide)
    ·exact check_ga 2 3 a.x a.y b.x b.y c.x c.y 194 195 196 w hof ha' (by decide) (by decide)
    ·exact check_ga 3 2 a.x a.y b.x b.y c.x c.y 197 195 196 w hof ha' (by decide) (by decide)
 ·have hof := ofB ⟨k, a, b, c⟩ false (decide_eq_false (by rw [chkE_kind hk]; decide))
  rw [show famV (Pl.Ed.k ⟨k, a, b, c⟩) = _ from fam0 hk] at hof; rw [chkE_kind hk]
  rcases Int.lt_or_le k 1 with h | h
  ·exact check_0low k a.x a.y b.x b.y c.x c.y w hof h
  ·exact check_0high k a.x a.y b.x b.y c.x c.y w hof (by omega)
end Go.Proofs.YtljjbdbgedmadaaGreatDoor
