/- Sanity: the chapter's examples hold. Conditions: what a machine holds. -/
import Derived.Test.YtnchipahdfbliaaGreatDoorSd
namespace Go.Proofs.YtnchipahdfbliaaGreatDoor
open Go.RowKit

set_option maxHeartbeats 16000000 in
set_option maxRecDepth 100000 in
theorem sanity_any (w : World) (he : Env w) : Calls Tryz.prog 9 #[] w (SameIs true w) := by
 have HE := Lib.hid he
 clear he
 go_enter Tryz.func9, Tryz.ntmps9
 go_wp2_with fail
 refine (anything_any _).mono ?_
 rintro e w1 ⟨rfl, k1⟩
 have K1 := Lib.hid k1
 clear k1
 go_wp2_with fail
 refine (anything_any _).mono ?_
 rintro e w2 ⟨rfl, k2⟩
 have K2 := Lib.hid (K1.out.trans k2)
 clear k2
 go_wp2_with (refine wpList_store_new (by rfl) 42 _ _ (by rfl) #[.string ⟨#[]⟩, .int .i64 0, .int .i64 0, .int .i64 0, .string ⟨#[]⟩, .int .i64 0, .int .i64 0, .int .i64 0, .int .i64 0, .int .i64 0, .slice none 0 0, .int .i64 0, .string ⟨#[]⟩, .int .i64 0, .int .i64 0, .int .i64 0, .int .i64 0, .int .i64 0, .slice none 0 0, .int .i64 0] #[.string ⟨#[99, 49]⟩, .int .i64 1, .int .i64 1, .int .i64 1, .string ⟨#[]⟩, .int .i64 0, .int .i64 0, .int .i64 0, .int .i64 0, .int .i64 0, .slice none 0 0, .int .i64 1, .string ⟨#[]⟩, .int .i64 0, .int .i64 0, .int .i64 0, .int .i64 0, .int .i64 0, .slice none 0 0, .int .i64 10] 42 (by rfl) (by rfl) rfl info42 (by rfl) (by simp [Value.oneCell']) ?_)
 refine (anything_any _).mono ?_
 rintro e w3 ⟨rfl, k3⟩
 have B1 := Lib.hid (res_kept (heap_alloc_new w2 (.cells #[.string ⟨#[99, 49]⟩, .int .i64 1, .int .i64 1, .int .i64 1, .string ⟨#[]⟩, .int .i64 0, .int .i64 0, .int .i64 0, .int .i64 0, .int .i64 0, .slice none 0 0, .int .i64 1, .string ⟨#[]⟩, .int .i64 0, .int .i64 0, .int .i64 0, .int .i64 0, .int .i64 0, .slice none 0 0, .int .i64 10] 42)) k3 (by simp))
 have K3 := Lib.hid ((K2.out.alloc _).trans k3)
 have z3 := k3.size
 have z3 : w2.heap.size + 1 ≤ w3.heap.size := by simpa using z3
 clear k3
 go_wp2_with fail
 refine (anything_any _).mono ?_
 rintro e w4 ⟨rfl, k4⟩
 have B1 := Lib.hid (res_kept B1.out k4 (by simp))
 have K4 := Lib.hid (K3.out.trans k4)
 have z4 := k4.size
 clear k4
 have B1 := Lib.hid (res_kept B1.out ((Kp.refl w4 none).alloc (.cells #[.string ⟨#[101]⟩, .int .i64 0, .int .i64 3, .int .i64 1, .string ⟨#[]⟩, .int .i64 0, .int .i64 0, .int .i64 0, .int .i64 0, .int .i64 0, .slice none 0 0, .int .i64 1, .string ⟨#[]⟩, .int .i64 0, .int .i64 0, .int .i64 0, .int .i64 0, .int .i64 0, .slice none 0 0, .int .i64 5] 42)) (by simp))
 have B2 := Lib.hid (heap_alloc_new w4 (.cells #[.string ⟨#[101]⟩, .int .i64 0, .int .i64 3, .int .i64 1, .string ⟨#[]⟩, .int .i64 0, .int .i64 0, .int .i64 0, .int .i64 0, .int .i64 0, .slice none 0 0, .int .i64 1, .string ⟨#[]⟩, .int .i64 0, .int .i64 0, .int .i64 0, .int .i64 0, .int .i64 0, .slice none 0 0, .int .i64 5] 42))
 have K5 : Hid (Kp w (w4.alloc (.cells #[.string ⟨#[101]⟩, .int .i64 0, .int .i64 3, .int .i64 1, .string ⟨#[]⟩, .int .i64 0, .int .i64 0, .int .i64 0, .int .i64 0, .int .i64 0, .slice none 0 0, .int .i64 1, .string ⟨#[]⟩, .int .i64 0, .int .i64 0, .int .i64 0, .int .i64 0, .int .i64 0, .slice none 0 0, .int .i64 5] 42)) none) := Lib.hid (K4.out.alloc _)
 have R1 := Lib.hid (range_blk B1.out)
 have cS : Calls Tryz.prog 26 #[str Ru.s1, .agg #[.string ⟨#[99, 49]⟩, .int .i64 1, .int .i64 1, .int .i64 1, .string ⟨#[]⟩, .int .i64 0, .int .i64 0, .int .i64 0, .int .i64 0, .int .i64 0, .slice none 0 0, .int .i64 1, .string ⟨#[]⟩, .int .i64 0, .int .i64 0, .int .i64 0, .int .i64 0, .int .i64 0, .slice none 0 0, .int .i64 10]] (w4.alloc (.cells #[.string ⟨#[101]⟩, .int .i64 0, .int .i64 3, .int .i64 1, .string ⟨#[]⟩, .int .i64 0, .int .i64 0, .int .i64 0, .int .i64 0, .int .i64 0, .slice none 0 0, .int .i64 1, .string ⟨#[]⟩, .int .i64 0, .int .i64 0, .int .i64 0, .int .i64 0, .int .i64 0, .slice none 0 0, .int .i64 5] 42)) (SameIs true (w4.alloc (.cells #[.string ⟨#[101]⟩, .int .i64 0, .int .i64 3, .int .i64 1, .string ⟨#[]⟩, .int .i64 0, .int .i64 0, .int .i64 0, .int .i64 0, .int .i64 0, .slice none 0 0, .int .i64 1, .string ⟨#[]⟩, .int .i64 0, .int .i64 0, .int .i64 0, .int .i64 0, .int .i64 0, .slice none 0 0, .int .i64 5] 42))) := says_t Ru.s1 Ru.qC _ _ _ _ _ _ (w4.alloc (.cells #[.string ⟨#[101]⟩, .int .i64 0, .int .i64 3, .int .i64 1, .string ⟨#[]⟩, .int .i64 0, .int .i64 0, .int .i64 0, .int .i64 0, .int .i64 0, .slice none 0 0, .int .i64 1, .string ⟨#[]⟩, .int .i64 0, .int .i64 0, .int .i64 0, .int .i64 0, .int .i64 0, .slice none 0 0, .int .i64 5] 42)) (HE.out.kp0 K5.out) Ru.p_s1 (good_fit ((Ru.check_good (by kernel_rfl : Ru.check [Ru.qC] = 0)).2 _ (by simp))) (by decide) ⟨Tree.leaf rfl, Tree.leaf rfl⟩
 go_wp2_with (first | (refine wpList_store_new (by rfl) 42 _ _ (by rfl) #[.string ⟨#[]⟩, .int .i64 0, .int .i64 0, .int .i64 0, .string ⟨#[]⟩, .int .i64 0, .int .i64 0, .int .i64 0, .int .i64 0, .int .i64 0, .slice none 0 0, .int .i64 0, .string ⟨#[]⟩, .int .i64 0, .int .i64 0, .int .i64 0, .int .i64 0, .int .i64 0, .slice none 0 0, .int .i64 0] #[.string ⟨#[101]⟩, .int .i64 0, .int .i64 3, .int .i64 1, .string ⟨#[]⟩, .int .i64 0, .int .i64 0, .int .i64 0, .int .i64 0, .int .i64 0, .slice none 0 0, .int .i64 1, .string ⟨#[]⟩, .int .i64 0, .int .i64 0, .int .i64 0, .int .i64 0, .int .i64 0, .slice none 0 0, .int .i64 5] 42 (by rfl) (by rfl) rfl info42 (by rfl) (by simp [Value.oneCell']) ?_) | (refine wpList_load_mid (by rfl) 42 _ (by rfl) w2.heap.size 0 (by rfl) #[.string ⟨#[99, 49]⟩, .int .i64 1, .int .i64 1, .int .i64 1, .string ⟨#[]⟩, .int .i64 0, .int .i64 0, .int .i64 0, .int .i64 0, .int .i64 0, .slice none 0 0, .int .i64 1, .string ⟨#[]⟩, .int .i64 0, .int .i64 0, .int .i64 0, .int .i64 0, .int .i64 0, .slice none 0 0, .int .i64 10].toList _ R1.out Tryz.underlying42 (by rfl) info42 ?_))
 refine cS.mono ?_
 clear cS R1
 rintro e w6 ⟨rfl, k6⟩
 have B1 := Lib.hid (res_kept B1.out k6 (by simp))
 have B2 := Lib.hid (res_kept B2.out k6 (by simp))
 have K6 := Lib.hid (K5.out.trans k6)
 have z6 : w4.heap.size + 1 ≤ w6.heap.size := by have := k6.size; simpa using this
 clear k6 K5
 have R2 := Lib.hid (range_blk B2.out)
 have cS : Calls Tryz.prog 26 #[str Ru.s2, .agg #[.string ⟨#[101]⟩, .int .i64 0, .int .i64 3, .int .i64 1, .string ⟨#[]⟩, .int .i64 0, .int .i64 0, .int .i64 0, .int .i64 0, .int .i64 0, .slice none 0 0, .int .i64 1, .string ⟨#[]⟩, .int .i64 0, .int .i64 0, .int .i64 0, .int .i64 0, .int .i64 0, .slice none 0 0, .int .i64 5]] w6 (SameIs true w6) := says_t Ru.s2 (Ru.qE Ru.cAny) _ _ _ _ _ _ w6 (HE.out.kp0 K6.out) Ru.p_s2 (good_fit ((Ru.check_good (by kernel_rfl : Ru.check [(Ru.qE Ru.cAny)] = 0)).2 _ (by simp))) (by decide) ⟨Tree.leaf rfl, Tree.leaf rfl⟩
 go_wp2_with (refine wpList_load_want (by rfl) 42 _ (by rfl) w4.heap.size 0 (by rfl) #[.string ⟨#[101]⟩, .int .i64 0, .int .i64 3, .int .i64 1, .string ⟨#[]⟩, .int .i64 0, .int .i64 0, .int .i64 0, .int .i64 0, .int .i64 0, .slice none 0 0, .int .i64 1, .string ⟨#[]⟩, .int .i64 0, .int .i64 0, .int .i64 0, .int .i64 0, .int .i64 0, .slice none 0 0, .int .i64 5].toList _ R2.out Tryz.underlying42 (by rfl) info42 ?_)
 refine cS.mono ?_
 clear cS R2
 rintro e w7 ⟨rfl, k7⟩
 have B1 := Lib.hid (res_kept B1.out k7 (by simp))
 have B2 := Lib.hid (res_kept B2.out k7 (by simp))
 have K7 := Lib.hid (K6.out.trans k7)
 have z7 := k7.size
 clear k7
 go_wp2_with fail
 refine (with_any 8 (some ⟨w7.heap.size, 0, none⟩) 1 1 _).mono ?_
 rintro e w8 ⟨rfl, k8⟩
 have B1 := Lib.hid (res_kept (res_kept B1.out ((Kp.refl w7 none).alloc _) (by simp)) k8 (by simp))
 have B2 := Lib.hid (res_kept (res_kept B2.out ((Kp.refl w7 none).alloc _) (by simp)) k8 (by simp))
 have BL := Lib.hid (res_kept (heap_alloc_new w7 (.cells #[.int .i64 5, .string ⟨#[]⟩, .int .i64 2, .int .i64 0, .int .i64 0, .int .i64 0, .int .i64 0, .slice none 0 0] 40)) k8 (by simp))
 have K8 := Lib.hid (((K7.out.alloc _)).trans k8)
 have z8 : w7.heap.size + 1 ≤ w8.heap.size := by have := k8.size; simpa using this
 clear k8
 go_wp2_with fail
 refine (with_any 9 (some ⟨w8.heap.size, 0, none⟩) 2 2 _).mono ?_
 rintro e w9 ⟨rfl, k9⟩
 have B1 := Lib.hid (res_kept (res_kept B1.out ((Kp.refl w8 none).alloc _) (by simp)) k9 (by simp))
 have B2 := Lib.hid (res_kept (res_kept B2.out ((Kp.refl w8 none).alloc _) (by simp)) k9 (by simp))
 have BL := Lib.hid (res_kept (res_kept BL.out ((Kp.refl w8 none).alloc _) (by simp)) k9 (by simp))
 have BN := Lib.hid (res_kept (heap_alloc_new w8 (.cells #[.int .i64 2, .string ⟨#[71, 78, 68]⟩, .int .i64 0, .int .i64 0, .int .i64 0, .int .i64 0, .int .i64 0, .slice none 0 0, .int .i64 8, .string ⟨#[]⟩, .int .i64 0, .int .i64 0, .int .i64 0, .int .i64 0, .int .i64 0, .slice (some ⟨w7.heap.size, 0, none⟩) 1 1] 40)) k9 (by simp))
 have K9 := Lib.hid (((K8.out.alloc _)).trans k9)
 have z9 : w8.heap.size + 1 ≤ w9.heap.size := by have := k9.size; simpa using this
 clear k9
 go_wp2_with fail
 refine (anything_any _).mono ?_
 rintro e w10 ⟨rfl, k10⟩
 have B1 := Lib.hid (res_kept B1.out k10 (by simp))
 have B2 := Lib.hid (res_kept B2.out k10 (by simp))
 have BL := Lib.hid (res_kept BL.out k10 (by simp))
 have BN := Lib.hid (res_kept BN.out k10 (by simp))
 have K10 := Lib.hid ((K9.out).trans k10)
 have z10 := k10.size
 clear k10
 have B1 := Lib.hid (res_kept B1.out ((Kp.refl w10 none).alloc (.cells #[.string ⟨#[119]⟩, .int .i64 2, .int .i64 2, .int .i64 9, .string ⟨#[]⟩, .int .i64 0, .int .i64 0, .int .i64 0, .int .i64 0, .int .i64 0, .slice (some ⟨w8.heap.size, 0, none⟩) 2 2, .int .i64 1, .string ⟨#[]⟩, .int .i64 0, .int .i64 0, .int .i64 0, .int .i64 0, .int .i64 0, .slice none 0 0, .int .i64 8] 42)) (by simp))
 have B2 := Lib.hid (res_kept B2.out ((Kp.refl w10 none).alloc (.cells #[.string ⟨#[119]⟩, .int .i64 2, .int .i64 2, .int .i64 9, .string ⟨#[]⟩, .int .i64 0, .int .i64 0, .int .i64 0, .int .i64 0, .int .i64 0, .slice (some ⟨w8.heap.size, 0, none⟩) 2 2, .int .i64 1, .string ⟨#[]⟩, .int .i64 0, .int .i64 0, .int .i64 0, .int .i64 0, .int .i64 0, .slice none 0 0, .int .i64 8] 42)) (by simp))
 have BL := Lib.hid (res_kept BL.out ((Kp.refl w10 none).alloc (.cells #[.string ⟨#[119]⟩, .int .i64 2, .int .i64 2, .int .i64 9, .string ⟨#[]⟩, .int .i64 0, .int .i64 0, .int .i64 0, .int .i64 0, .int .i64 0, .slice (some ⟨w8.heap.size, 0, none⟩) 2 2, .int .i64 1, .string ⟨#[]⟩, .int .i64 0, .int .i64 0, .int .i64 0, .int .i64 0, .int .i64 0, .slice none 0 0, .int .i64 8] 42)) (by simp))
 have BN := Lib.hid (res_kept BN.out ((Kp.refl w10 none).alloc (.cells #[.string ⟨#[119]⟩, .int .i64 2, .int .i64 2, .int .i64 9, .string ⟨#[]⟩, .int .i64 0, .int .i64 0, .int .i64 0, .int .i64 0, .int .i64 0, .slice (some ⟨w8.heap.size, 0, none⟩) 2 2, .int .i64 1, .string ⟨#[]⟩, .int .i64 0, .int .i64 0, .int .i64 0, .int .i64 0, .int .i64 0, .slice none 0 0, .int .i64 8] 42)) (by simp))
 have R4 := Lib.hid (range_blk (heap_alloc_new w10 (.cells #[.string ⟨#[119]⟩, .int .i64 2, .int .i64 2, .int .i64 9, .string ⟨#[]⟩, .int .i64 0, .int .i64 0, .int .i64 0, .int .i64 0, .int .i64 0, .slice (some ⟨w8.heap.size, 0, none⟩) 2 2, .int .i64 1, .string ⟨#[]⟩, .int .i64 0, .int .i64 0, .int .i64 0, .int .i64 0, .int .i64 0, .slice none 0 0, .int .i64 8] 42)))
 have K11 : Hid (Kp w (w10.alloc (.cells #[.string ⟨#[119]⟩, .int .i64 2, .int .i64 2, .int .i64 9, .string ⟨#[]⟩, .int .i64 0, .int .i64 0, .int .i64 0, .int .i64 0, .int .i64 0, .slice (some ⟨w8.heap.size, 0, none⟩) 2 2, .int .i64 1, .string ⟨#[]⟩, .int .i64 0, .int .i64 0, .int .i64 0, .int .i64 0, .int .i64 0, .slice none 0 0, .int .i64 8] 42)) none) := Lib.hid (K10.out.alloc _)
 have cS : Calls Tryz.prog 26 #[str Ru.s3, .agg #[.string ⟨#[119]⟩, .int .i64 2, .int .i64 2, .int .i64 9, .string ⟨#[]⟩, .int .i64 0, .int .i64 0, .int .i64 0, .int .i64 0, .int .i64 0, .slice (some ⟨w8.heap.size, 0, none⟩) 2 2, .int .i64 1, .string ⟨#[]⟩, .int .i64 0, .int .i64 0, .int .i64 0, .int .i64 0, .int .i64 0, .slice none 0 0, .int .i64 8]] (w10.alloc (.cells #[.string ⟨#[119]⟩, .int .i64 2, .int .i64 2, .int .i64 9, .string ⟨#[]⟩, .int .i64 0, .int .i64 0, .int .i64 0, .int .i64 0, .int .i64 0, .slice (some ⟨w8.heap.size, 0, none⟩) 2 2, .int .i64 1, .string ⟨#[]⟩, .int .i64 0, .int .i64 0, .int .i64 0, .int .i64 0, .int .i64 0, .slice none 0 0, .int .i64 8] 42)) (SameIs true (w10.alloc (.cells #[.string ⟨#[119]⟩, .int .i64 2, .int .i64 2, .int .i64 9, .string ⟨#[]⟩, .int .i64 0, .int .i64 0, .int .i64 0, .int .i64 0, .int .i64 0, .slice (some ⟨w8.heap.size, 0, none⟩) 2 2, .int .i64 1, .string ⟨#[]⟩, .int .i64 0, .int .i64 0, .int .i64 0, .int .i64 0, .int .i64 0, .slice none 0 0, .int .i64 8] 42))) := says_t Ru.s3 Ru.qW _ _ _ _ _ _ (w10.alloc (.cells #[.string ⟨#[119]⟩, .int .i64 2, .int .i64 2, .int .i64 9, .string ⟨#[]⟩, .int .i64 0, .int .i64 0, .int .i64 0, .int .i64 0, .int .i64 0, .slice (some ⟨w8.heap.size, 0, none⟩) 2 2, .int .i64 1, .string ⟨#[]⟩, .int .i64 0, .int .i64 0, .int .i64 0, .int .i64 0, .int .i64 0, .slice none 0 0, .int .i64 8] 42)) (HE.out.kp0 K11.out) Ru.p_s3 (good_fit ((Ru.check_good (by kernel_rfl : Ru.check [Ru.qW] = 0)).2 _ (by simp))) (by decide) ⟨tree_two (p := (Ru.netG, .slice none 0 0)) (q := (Ru.notL, .slice (some ⟨w7.heap.size, 0, none⟩) 1 1)) BN.out (Tree.leaf rfl) (tree_one (p := (.mk 5 [] 2 .none [], .slice none 0 0)) BL.out (Tree.leaf rfl)), Tree.leaf rfl⟩
 go_wp2_with (first | (refine wpList_store_new (by rfl) 42 _ _ (by rfl) #[.string ⟨#[]⟩, .int .i64 0, .int .i64 0, .int .i64 0, .string ⟨#[]⟩, .int .i64 0, .int .i64 0, .int .i64 0, .int .i64 0, .int .i64 0, .slice none 0 0, .int .i64 0, .string ⟨#[]⟩, .int .i64 0, .int .i64 0, .int .i64 0, .int .i64 0, .int .i64 0, .slice none 0 0, .int .i64 0] #[.string ⟨#[119]⟩, .int .i64 2, .int .i64 2, .int .i64 9, .string ⟨#[]⟩, .int .i64 0, .int .i64 0, .int .i64 0, .int .i64 0, .int .i64 0, .slice (some ⟨w8.heap.size, 0, none⟩) 2 2, .int .i64 1, .string ⟨#[]⟩, .int .i64 0, .int .i64 0, .int .i64 0, .int .i64 0, .int .i64 0, .slice none 0 0, .int .i64 8] 42 (by rfl) (by rfl) rfl info42 (by rfl) (by simp [Value.oneCell']) ?_) | (refine wpList_load_mid (by rfl) 42 _ (by rfl) w10.heap.size 0 (by rfl) #[.string ⟨#[119]⟩, .int .i64 2, .int .i64 2, .int .i64 9, .string ⟨#[]⟩, .int .i64 0, .int .i64 0, .int .i64 0, .int .i64 0, .int .i64 0, .slice (some ⟨w8.heap.size, 0, none⟩) 2 2, .int .i64 1, .string ⟨#[]⟩, .int .i64 0, .int .i64 0, .int .i64 0, .int .i64 0, .int .i64 0, .slice none 0 0, .int .i64 8].toList _ R4.out Tryz.underlying42 (by rfl) info42 ?_))
 refine cS.mono ?_
 clear cS R4 BL BN
 rintro e w12 ⟨rfl, k12⟩
 have B1 := Lib.hid (res_kept B1.out k12 (by simp))
 have B2 := Lib.hid (res_kept B2.out k12 (by simp))
 have K12 := Lib.hid (K11.out.trans k12)
 have z12 : w10.heap.size + 1 ≤ w12.heap.size := by have := k12.size; simpa using this
 clear k12 K11
 go_upto_region 7 with (refine wpList_store_new (by rfl) 40 _ _ (by rfl) #[.int .i64 0, .string ⟨#[]⟩, .int .i64 0, .int .i64 0, .int .i64 0, .int .i64 0, .int .i64 0, .slice none 0 0] #[.int .i64 3, .string ⟨#[112]⟩, .int .i64 0, .int .i64 0, .int .i64 0, .int .i64 0, .int .i64 0, .slice none 0 0] 40 (by rfl) (by rfl) rfl info40s (by rfl) (by simp [Value.oneCell']) ?_)
 simp only [Act.put]
 have k13 : Kp w12 (w12.alloc (.cells #[.int .i64 3, .string ⟨#[112]⟩, .int .i64 0, .int .i64 0, .int .i64 0, .int .i64 0, .int .i64 0, .slice none 0 0] 40)).drew none := ((Kp.refl _ _).alloc _).drew
 have B6 : Hid ((w12.alloc (.cells #[.int .i64 3, .string ⟨#[112]⟩, .int .i64 0, .int .i64 0, .int .i64 0, .int .i64 0, .int .i64 0, .slice none 0 0] 40)).drew.heap[w12.heap.size]? = some (.cells #[.int .i64 3, .string ⟨#[112]⟩, .int .i64 0, .int .i64 0, .int .i64 0, .int .i64 0, .int .i64 0, .slice none 0 0] 40 (0, 0))) := Lib.hid (res_kept (heap_alloc_new w12 (.cells #[.int .i64 3, .string ⟨#[112]⟩, .int .i64 0, .int .i64 0, .int .i64 0, .int .i64 0, .int .i64 0, .slice none 0 0] 40)) ((Kp.refl _ none).drew) (by simp))
 have B1 := Lib.hid (res_kept B1.out k13 (by simp))
 have B2 := Lib.hid (res_kept B2.out k13 (by simp))
 have K13 := Lib.hid ((K12.out).trans k13)
 have z13 : w12.heap.size + 1 ≤ (w12.alloc (.cells #[.int .i64 3, .string ⟨#[112]⟩, .int .i64 0, .int .i64 0, .int .i64 0, .int .i64 0, .int .i64 0, .slice none 0 0] 40)).drew.heap.size := by simp
 clear k13
 refine wp_region_held_drew (S := fun V => V.rangeAt w12.heap.size 0 #[.int .i64 3, .string ⟨#[112]⟩, .int .i64 0, .int .i64 0, .int .i64 0, .int .i64 0, .int .i64 0, .slice none 0 0].toList ∧ Hid (Kp w V none)) (by kernel_rfl) ⟨range_blk B6.out, K13⟩ (fun hHeld => ?_)
 generalize (w12.alloc (.cells #[.int .i64 3, .string ⟨#[112]⟩, .int .i64 0, .int .i64 0, .int .i64 0, .int .i64 0, .int .i64 0, .slice none 0 0] 40)).drew = v0 at *
 have KV := K13
 clear K13
 refine wpAnyH_take (i := 2) rfl (by kernel_rfl) (by kernel_rfl) (by kernel_rfl) (fun _ _ _ h => h) (yieldsIf_load_mid (by rfl) _ _ rfl w12.heap.size 0 rfl #[.int .i64 3, .string ⟨#[112]⟩, .int .i64 0, .int .i64 0, .int .i64 0, .int .i64 0, .int .i64 0, .slice none 0 0].toList _ (fun _ h => h.1) Tryz.underlying40 rfl info40s) (by assumption) ?_
 try simp only [Act.put, sm]
 refine wpAnyH_ready (rs := [0]) (by kernel_rfl) (by simp) ?_
 refine AllReadyH.cons (o := _) rfl (fun K hK => ?_) AllReadyH.nil
 clear hHeld
 go_simp
 refine (kind_any 1 _).mono ?_
 rintro e v1 ⟨rfl, kk⟩
 have B1 := Lib.hid (res_kept B1.out kk (by simp))
 have B2 := Lib.hid (res_kept B2.out kk (by simp))
 have B6 := Lib.hid (res_kept B6.out kk (by simp))
 have KV := Lib.hid ((KV.out).trans kk)
 have zzv1 := kk.size
 clear kk
 try go_wp2_with fail
 refine hK.out _ _ ⟨range_blk B6.out, KV⟩ (fun hHeld => ?_)
 clear hK K
 try simp only [Act.put, sm]
 refine wpAnyH_ready (rs := [1]) (by kernel_rfl) (by simp) ?_
 refine AllReadyH.cons (o := _) rfl (fun K hK => ?_) AllReadyH.nil
 clear hHeld
 go_simp
 refine (kind_any 2 _).mono ?_
 rintro e v2 ⟨rfl, kk⟩
 have B1 := Lib.hid (res_kept B1.out kk (by simp))
 have B2 := Lib.hid (res_kept B2.out kk (by simp))
 have B6 := Lib.hid (res_kept B6.out kk (by simp))
 have KV := Lib.hid ((KV.out).trans kk)
 have zzv2 := kk.size
 clear kk
 try go_wp2_with fail
 refine hK.out _ _ ⟨range_blk B6.out, KV⟩ (fun hHeld => ?_)
 clear hK K
 try simp only [Act.put, sm]
 refine wpAnyH_ready (rs := [3]) (by kernel_rfl) (by simp) ?_
 refine AllReadyH.cons (o := _) rfl (fun K hK => ?_) AllReadyH.nil
 clear hHeld
 go_simp
 have kk : Kp v2 (v2.alloc (.cells #[.int .i64 4, .string ⟨#[]⟩, .int .i64 2, .int .i64 0, .int .i64 0, .int .i64 0, .int .i64 0, .slice none 0 0, .int .i64 3, .string ⟨#[112]⟩, .int .i64 0, .int .i64 0, .int .i64 0, .int .i64 0, .int .i64 0, .slice none 0 0] 40)) none := (Kp.refl _ _).alloc _
 have B1 := Lib.hid (res_kept B1.out kk (by simp))
 have B2 := Lib.hid (res_kept B2.out kk (by simp))
 have B6 := Lib.hid (res_kept B6.out kk (by simp))
 have KV := Lib.hid ((KV.out).trans kk)
 have BI := Lib.hid (heap_alloc_new v2 (.cells #[.int .i64 4, .string ⟨#[]⟩, .int .i64 2, .int .i64 0, .int .i64 0, .int .i64 0, .int .i64 0, .slice none 0 0, .int .i64 3, .string ⟨#[112]⟩, .int .i64 0, .int .i64 0, .int .i64 0, .int .i64 0, .int .i64 0, .slice none 0 0] 40))
 have zzv3 : v2.heap.size + 1 ≤ (v2.alloc (.cells #[.int .i64 4, .string ⟨#[]⟩, .int .i64 2, .int .i64 0, .int .i64 0, .int .i64 0, .int .i64 0, .slice none 0 0, .int .i64 3, .string ⟨#[112]⟩, .int .i64 0, .int .i64 0, .int .i64 0, .int .i64 0, .int .i64 0, .slice none 0 0] 40)).heap.size := by simp
 clear kk
 refine hK.out _ _ ⟨range_blk B6.out, KV⟩ (fun hHeld => ?_)
 clear hK K
 generalize hg : v2.alloc (.cells #[.int .i64 4, .string ⟨#[]⟩, .int .i64 2, .int .i64 0, .int .i64 0, .int .i64 0, .int .i64 0, .slice none 0 0, .int .i64 3, .string ⟨#[112]⟩, .int .i64 0, .int .i64 0, .int .i64 0, .int .i64 0, .int .i64 0, .slice none 0 0] 40) = v3 at *
 clear hg
 try simp only [Act.put, sm]
 refine wpAnyH_ready (rs := [4]) (by kernel_rfl) (by simp) ?_
 refine AllReadyH.cons (o := _) rfl (fun K hK => ?_) AllReadyH.nil
 clear hHeld
 go_simp
 refine (with_any 9 (some ⟨v2.heap.size, 0, none⟩) 2 2 _).mono ?_
 rintro e v4 ⟨rfl, kk⟩
 have B1 := Lib.hid (res_kept B1.out kk (by simp))
 have B2 := Lib.hid (res_kept B2.out kk (by simp))
 have B6 := Lib.hid (res_kept B6.out kk (by simp))
 have BI := Lib.hid (res_kept BI.out kk (by simp))
 have KV := Lib.hid ((KV.out).trans kk)
 have zzv4 := kk.size
 clear kk
 try go_wp2_with fail
 refine hK.out _ _ ⟨range_blk B6.out, KV⟩ (fun hHeld => ?_)
 clear hK K
 try simp only [Act.put, sm]
 refine wpAnyH_ready (rs := [5]) (by kernel_rfl) (by simp) ?_
 refine AllReadyH.cons (o := _) rfl (fun K hK => ?_) AllReadyH.nil
 clear hHeld
 go_simp
 have kk : Kp v4 (v4.alloc (.cells #[.int .i64 4, .string ⟨#[]⟩, .int .i64 1, .int .i64 0, .int .i64 0, .int .i64 0, .int .i64 0, .slice none 0 0, .int .i64 9, .string ⟨#[]⟩, .int .i64 0, .int .i64 0, .int .i64 0, .int .i64 0, .int .i64 0, .slice (some ⟨v2.heap.size, 0, none⟩) 2 2] 40)) none := (Kp.refl _ _).alloc _
 have B1 := Lib.hid (res_kept B1.out kk (by simp))
 have B2 := Lib.hid (res_kept B2.out kk (by simp))
 have B6 := Lib.hid (res_kept B6.out kk (by simp))
 have BI := Lib.hid (res_kept BI.out kk (by simp))
 have KV := Lib.hid ((KV.out).trans kk)
 have BO := Lib.hid (heap_alloc_new v4 (.cells #[.int .i64 4, .string ⟨#[]⟩, .int .i64 1, .int .i64 0, .int .i64 0, .int .i64 0, .int .i64 0, .slice none 0 0, .int .i64 9, .string ⟨#[]⟩, .int .i64 0, .int .i64 0, .int .i64 0, .int .i64 0, .int .i64 0, .slice (some ⟨v2.heap.size, 0, none⟩) 2 2] 40))
 have zzv5 : v4.heap.size + 1 ≤ (v4.alloc (.cells #[.int .i64 4, .string ⟨#[]⟩, .int .i64 1, .int .i64 0, .int .i64 0, .int .i64 0, .int .i64 0, .slice none 0 0, .int .i64 9, .string ⟨#[]⟩, .int .i64 0, .int .i64 0, .int .i64 0, .int .i64 0, .int .i64 0, .slice (some ⟨v2.heap.size, 0, none⟩) 2 2] 40)).heap.size := by simp
 clear kk
 refine hK.out _ _ ⟨range_blk B6.out, KV⟩ (fun hHeld => ?_)
 clear hK K
 generalize hg : v4.alloc (.cells #[.int .i64 4, .string ⟨#[]⟩, .int .i64 1, .int .i64 0, .int .i64 0, .int .i64 0, .int .i64 0, .slice none 0 0, .int .i64 9, .string ⟨#[]⟩, .int .i64 0, .int .i64 0, .int .i64 0, .int .i64 0, .int .i64 0, .slice (some ⟨v2.heap.size, 0, none⟩) 2 2] 40) = v5 at *
 clear hg
 try simp only [Act.put, sm]
 refine wpAnyH_ready (rs := [6]) (by kernel_rfl) (by simp) ?_
 refine AllReadyH.cons (o := _) rfl (fun K hK => ?_) AllReadyH.nil
 clear hHeld
 go_simp
 refine (with_any 10 (some ⟨v4.heap.size, 0, none⟩) 2 2 _).mono ?_
 rintro e v6 ⟨rfl, kk⟩
 have B1 := Lib.hid (res_kept B1.out kk (by simp))
 have B2 := Lib.hid (res_kept B2.out kk (by simp))
 have B6 := Lib.hid (res_kept B6.out kk (by simp))
 have BI := Lib.hid (res_kept BI.out kk (by simp))
 have BO := Lib.hid (res_kept BO.out kk (by simp))
 have KV := Lib.hid ((KV.out).trans kk)
 have zzv6 := kk.size
 clear kk
 try go_wp2_with fail
 refine hK.out _ _ ⟨range_blk B6.out, KV⟩ (fun hHeld => ?_)
 clear hK K
 try simp only [Act.put, sm]
 refine tkH 7 rfl ?_
 try simp only [Act.put, sm]
 have z4l := lt_of_block B2.out
 refine wpAnyH_ready (rs := [8]) (by kernel_rfl) (by simp) ?_
 refine AllReadyH.cons (o := _) rfl (fun K hK => ?_) AllReadyH.nil
 clear hHeld
 refine Eq.mpr (if_pos (by rfl)) ?_
 refine wp_store_to 40 _ _ rfl w4.heap.size 3 _ 42 B2.out #[.int .i64 10, .string ⟨#[]⟩, .int .i64 0, .int .i64 0, .int .i64 0, .int .i64 0, .int .i64 0, .slice (some ⟨v4.heap.size, 0, none⟩) 2 2] (by rfl) (by rfl) info40s (by show 3 + 8 ≤ 20; omega) (by simp [Value.oneCell']) _ (put_a ..) (fun v7 hV hkV => ?_)
 have B2 := Lib.hid hV
 have B1 := Lib.hid (res_kept B1.out hkV (by intro q hq; injection hq with hq; omega))
 have B6 := Lib.hid (res_kept B6.out hkV (by intro q hq; injection hq with hq; omega))
 have BI := Lib.hid (res_kept BI.out hkV (by intro q hq; injection hq with hq; omega))
 have BO := Lib.hid (res_kept BO.out hkV (by intro q hq; injection hq with hq; omega))
 have KV := Lib.hid (Kp.row KV.out hkV (by intro q hq; injection hq with hq; have := K4.out.size; omega))
 have zzv7 := hkV.size
 clear hV hkV
 refine hK.out _ _ ⟨range_blk B6.out, KV⟩ (fun hHeld => ?_)
 clear hK K hHeld
 try simp only [Act.put, sm]
 refine wpAnyH_done (by kernel_rfl) ?_ _
 have R2 := Lib.hid (range_blk B2.out)
 have cS : Calls Tryz.prog 26 #[str Ru.s4, .agg #[.string ⟨#[101]⟩, .int .i64 0, .int .i64 3, .int .i64 10, .string ⟨#[]⟩, .int .i64 0, .int .i64 0, .int .i64 0, .int .i64 0, .int .i64 0, .slice (some ⟨v4.heap.size, 0, none⟩) 2 2, .int .i64 1, .string ⟨#[]⟩, .int .i64 0, .int .i64 0, .int .i64 0, .int .i64 0, .int .i64 0, .slice none 0 0, .int .i64 5]] v7 (SameIs true v7) := says_t Ru.s4 (Ru.qE Ru.a3) _ _ _ _ _ _ v7 (HE.out.kp0 KV.out) Ru.p_s4 (good_fit ((Ru.check_good (by kernel_rfl : Ru.check [(Ru.qE Ru.a3)] = 0)).2 _ (by simp))) (by decide) ⟨tree_two (p := (Ru.kindC 1, .slice none 0 0)) (q := (.mk 9 [] 0 .none [Ru.kindC 2, Ru.clsP], .slice (some ⟨v2.heap.size, 0, none⟩) 2 2)) BO.out (Tree.leaf rfl) (tree_two (p := (Ru.kindC 2, .slice none 0 0)) (q := (Ru.clsP, .slice none 0 0)) BI.out (Tree.leaf rfl) (Tree.leaf rfl)), Tree.leaf rfl⟩
 go_wp2_with (refine wpList_load_mid (by rfl) 42 _ (by rfl) w4.heap.size 0 (by rfl) #[.string ⟨#[101]⟩, .int .i64 0, .int .i64 3, .int .i64 10, .string ⟨#[]⟩, .int .i64 0, .int .i64 0, .int .i64 0, .int .i64 0, .int .i64 0, .slice (some ⟨v4.heap.size, 0, none⟩) 2 2, .int .i64 1, .string ⟨#[]⟩, .int .i64 0, .int .i64 0, .int .i64 0, .int .i64 0, .int .i64 0, .slice none 0 0, .int .i64 5].toList _ R2.out Tryz.underlying42 (by rfl) info42 ?_)
 refine cS.mono ?_
 clear cS R2 BI BO
 rintro e x0 ⟨rfl, kk⟩
 have B1 := Lib.hid (res_kept B1.out kk (by simp))
 have B2 := Lib.hid (res_kept B2.out kk (by simp))
 have B6 := Lib.hid (res_kept B6.out kk (by simp))
 have KV := Lib.hid ((KV.out).trans kk)
 have zzx0 := kk.size
 clear kk
 go_upto_region 9 with fail
 try simp only [Act.put]
 have kk : Kp x0 x0.drew none := (Kp.refl _ _).drew
 have B1 := Lib.hid (res_kept B1.out kk (by simp))
 have B2 := Lib.hid (res_kept B2.out kk (by simp))
 have B6 := Lib.hid (res_kept B6.out kk (by simp))
 have KV := Lib.hid ((KV.out).trans kk)
 have zzy0 := kk.size
 clear kk
 refine wp_region_held_drew (S := fun V => V.rangeAt w12.heap.size 0 #[.int .i64 3, .string ⟨#[112]⟩, .int .i64 0, .int .i64 0, .int .i64 0, .int .i64 0, .int .i64 0, .slice none 0 0].toList ∧ Hid (Kp w V none)) (by kernel_rfl) ⟨range_blk B6.out, KV⟩ (fun hHeld => ?_)
 generalize x0.drew = y0 at *
 refine wpAnyH_take (i := 4) rfl (by kernel_rfl) (by kernel_rfl) (by kernel_rfl) (fun _ _ _ h => h) (yieldsIf_load_mid (by rfl) _ _ rfl w12.heap.size 0 rfl #[.int .i64 3, .string ⟨#[112]⟩, .int .i64 0, .int .i64 0, .int .i64 0, .int .i64 0, .int .i64 0, .slice none 0 0].toList _ (fun _ h => h.1) Tryz.underlying40 rfl info40s) (by assumption) ?_
 try simp only [Act.put, sm]
 refine wpAnyH_ready (rs := [0]) (by kernel_rfl) (by simp) ?_
 refine AllReadyH.cons (o := _) rfl (fun K hK => ?_) AllReadyH.nil
 clear hHeld
 go_simp
 refine (kind_any 1 _).mono ?_
 rintro e y1 ⟨rfl, kk⟩
 have B1 := Lib.hid (res_kept B1.out kk (by simp))
 have B2 := Lib.hid (res_kept B2.out kk (by simp))
 have B6 := Lib.hid (res_kept B6.out kk (by simp))
 have KV := Lib.hid ((KV.out).trans kk)
 have zzy1 := kk.size
 clear kk
 try go_wp2_with fail
 refine hK.out _ _ ⟨range_blk B6.out, KV⟩ (fun hHeld => ?_)
 clear hK K
 try simp only [Act.put, sm]
 refine wpAnyH_ready (rs := [1]) (by kernel_rfl) (by simp) ?_
 refine AllReadyH.cons (o := _) rfl (fun K hK => ?_) AllReadyH.nil
 clear hHeld
 go_simp
 refine (kind_any 2 _).mono ?_
 rintro e y2 ⟨rfl, kk⟩
 have B1 := Lib.hid (res_kept B1.out kk (by simp))
 have B2 := Lib.hid (res_kept B2.out kk (by simp))
 have B6 := Lib.hid (res_kept B6.out kk (by simp))
 have KV := Lib.hid ((KV.out).trans kk)
 have zzy2 := kk.size
 clear kk
 try go_wp2_with fail
 refine hK.out _ _ ⟨range_blk B6.out, KV⟩ (fun hHeld => ?_)
 clear hK K
 try simp only [Act.put, sm]
 refine wpAnyH_ready (rs := [2]) (by kernel_rfl) (by simp) ?_
 refine AllReadyH.cons (o := _) rfl (fun K hK => ?_) AllReadyH.nil
 clear hHeld
 go_simp
 have kk : Kp y2 (y2.alloc (.cells #[.int .i64 4, .string ⟨#[]⟩, .int .i64 1, .int .i64 0, .int .i64 0, .int .i64 0, .int .i64 0, .slice none 0 0, .int .i64 4, .string ⟨#[]⟩, .int .i64 2, .int .i64 0, .int .i64 0, .int .i64 0, .int .i64 0, .slice none 0 0] 40)) none := (Kp.refl _ _).alloc _
 have B1 := Lib.hid (res_kept B1.out kk (by simp))
 have B2 := Lib.hid (res_kept B2.out kk (by simp))
 have B6 := Lib.hid (res_kept B6.out kk (by simp))
 have KV := Lib.hid ((KV.out).trans kk)
 have BI := Lib.hid (heap_alloc_new y2 (.cells #[.int .i64 4, .string ⟨#[]⟩, .int .i64 1, .int .i64 0, .int .i64 0, .int .i64 0, .int .i64 0, .slice none 0 0, .int .i64 4, .string ⟨#[]⟩, .int .i64 2, .int .i64 0, .int .i64 0, .int .i64 0, .int .i64 0, .slice none 0 0] 40))
 have zzy3 : y2.heap.size + 1 ≤ (y2.alloc (.cells #[.int .i64 4, .string ⟨#[]⟩, .int .i64 1, .int .i64 0, .int .i64 0, .int .i64 0, .int .i64 0, .slice none 0 0, .int .i64 4, .string ⟨#[]⟩, .int .i64 2, .int .i64 0, .int .i64 0, .int .i64 0, .int .i64 0, .slice none 0 0] 40)).heap.size := by simp
 clear kk
 refine hK.out _ _ ⟨range_blk B6.out, KV⟩ (fun hHeld => ?_)
 clear hK K
 generalize hg : y2.alloc (.cells #[.int .i64 4, .string ⟨#[]⟩, .int .i64 1, .int .i64 0, .int .i64 0, .int .i64 0, .int .i64 0, .slice none 0 0, .int .i64 4, .string ⟨#[]⟩, .int .i64 2, .int .i64 0, .int .i64 0, .int .i64 0, .int .i64 0, .slice none 0 0] 40) = y3 at *
 clear hg
 try simp only [Act.put, sm]
 refine wpAnyH_ready (rs := [3]) (by kernel_rfl) (by simp) ?_
 refine AllReadyH.cons (o := _) rfl (fun K hK => ?_) AllReadyH.nil
 clear hHeld
 go_simp
 refine (with_any 10 (some ⟨y2.heap.size, 0, none⟩) 2 2 _).mono ?_
 rintro e y4 ⟨rfl, kk⟩
 have B1 := Lib.hid (res_kept B1.out kk (by simp))
 have B2 := Lib.hid (res_kept B2.out kk (by simp))
 have B6 := Lib.hid (res_kept B6.out kk (by simp))
 have BI := Lib.hid (res_kept BI.out kk (by simp))
 have KV := Lib.hid ((KV.out).trans kk)
 have zzy4 := kk.size
 clear kk
 try go_wp2_with fail
 refine hK.out _ _ ⟨range_blk B6.out, KV⟩ (fun hHeld => ?_)
 clear hK K
 try simp only [Act.put, sm]
 refine wpAnyH_ready (rs := [5]) (by kernel_rfl) (by simp) ?_
 refine AllReadyH.cons (o := _) rfl (fun K hK => ?_) AllReadyH.nil
 clear hHeld
 go_simp
 have kk : Kp y4 (y4.alloc (.cells #[.int .i64 10, .string ⟨#[]⟩, .int .i64 0, .int .i64 0, .int .i64 0, .int .i64 0, .int .i64 0, .slice (some ⟨y2.heap.size, 0, none⟩) 2 2, .int .i64 3, .string ⟨#[112]⟩, .int .i64 0, .int .i64 0, .int .i64 0, .int .i64 0, .int .i64 0, .slice none 0 0] 40)) none := (Kp.refl _ _).alloc _
 have B1 := Lib.hid (res_kept B1.out kk (by simp))
 have B2 := Lib.hid (res_kept B2.out kk (by simp))
 have B6 := Lib.hid (res_kept B6.out kk (by simp))
 have BI := Lib.hid (res_kept BI.out kk (by simp))
 have KV := Lib.hid ((KV.out).trans kk)
 have BO := Lib.hid (heap_alloc_new y4 (.cells #[.int .i64 10, .string ⟨#[]⟩, .int .i64 0, .int .i64 0, .int .i64 0, .int .i64 0, .int .i64 0, .slice (some ⟨y2.heap.size, 0, none⟩) 2 2, .int .i64 3, .string ⟨#[112]⟩, .int .i64 0, .int .i64 0, .int .i64 0, .int .i64 0, .int .i64 0, .slice none 0 0] 40))
 have zzy5 : y4.heap.size + 1 ≤ (y4.alloc (.cells #[.int .i64 10, .string ⟨#[]⟩, .int .i64 0, .int .i64 0, .int .i64 0, .int .i64 0, .int .i64 0, .slice (some ⟨y2.heap.size, 0, none⟩) 2 2, .int .i64 3, .string ⟨#[112]⟩, .int .i64 0, .int .i64 0, .int .i64 0, .int .i64 0, .int .i64 0, .slice none 0 0] 40)).heap.size := by simp
 clear kk
 refine hK.out _ _ ⟨range_blk B6.out, KV⟩ (fun hHeld => ?_)
 clear hK K
 generalize hg : y4.alloc (.cells #[.int .i64 10, .string ⟨#[]⟩, .int .i64 0, .int .i64 0, .int .i64 0, .int .i64 0, .int .i64 0, .slice (some ⟨y2.heap.size, 0, none⟩) 2 2, .int .i64 3, .string ⟨#[112]⟩, .int .i64 0, .int .i64 0, .int .i64 0, .int .i64 0, .int .i64 0, .slice none 0 0] 40) = y5 at *
 clear hg
 try simp only [Act.put, sm]
 refine wpAnyH_ready (rs := [6]) (by kernel_rfl) (by simp) ?_
 refine AllReadyH.cons (o := _) rfl (fun K hK => ?_) AllReadyH.nil
 clear hHeld
 go_simp
 refine (with_any 9 (some ⟨y4.heap.size, 0, none⟩) 2 2 _).mono ?_
 rintro e y6 ⟨rfl, kk⟩
 have B1 := Lib.hid (res_kept B1.out kk (by simp))
 have B2 := Lib.hid (res_kept B2.out kk (by simp))
 have B6 := Lib.hid (res_kept B6.out kk (by simp))
 have BI := Lib.hid (res_kept BI.out kk (by simp))
 have BO := Lib.hid (res_kept BO.out kk (by simp))
 have KV := Lib.hid ((KV.out).trans kk)
 have zzy6 := kk.size
 clear kk
 try go_wp2_with fail
 refine hK.out _ _ ⟨range_blk B6.out, KV⟩ (fun hHeld => ?_)
 clear hK K
 try simp only [Act.put, sm]
 refine tkH 7 rfl ?_
 try simp only [Act.put, sm]
 refine wpAnyH_ready (rs := [8]) (by kernel_rfl) (by simp) ?_
 refine AllReadyH.cons (o := _) rfl (fun K hK => ?_) AllReadyH.nil
 clear hHeld
 refine Eq.mpr (if_pos (by rfl)) ?_
 refine wp_store_to 40 _ _ rfl w4.heap.size 3 _ 42 B2.out #[.int .i64 9, .string ⟨#[]⟩, .int .i64 0, .int .i64 0, .int .i64 0, .int .i64 0, .int .i64 0, .slice (some ⟨y4.heap.size, 0, none⟩) 2 2] (by rfl) (by rfl) info40s (by show 3 + 8 ≤ 20; omega) (by simp [Value.oneCell']) _ (put_a ..) (fun y7 hV hkV => ?_)
 have B2 := Lib.hid hV
 have B1 := Lib.hid (res_kept B1.out hkV (by intro q hq; injection hq with hq; omega))
 have B6 := Lib.hid (res_kept B6.out hkV (by intro q hq; injection hq with hq; omega))
 have BI := Lib.hid (res_kept BI.out hkV (by intro q hq; injection hq with hq; omega))
 have BO := Lib.hid (res_kept BO.out hkV (by intro q hq; injection hq with hq; omega))
 have KV := Lib.hid (Kp.row KV.out hkV (by intro q hq; injection hq with hq; have := K4.out.size; omega))
 have zzy7 := hkV.size
 clear hV hkV
 refine hK.out _ _ ⟨range_blk B6.out, KV⟩ (fun hHeld => ?_)
 clear hK K hHeld
 try simp only [Act.put, sm]
 refine wpAnyH_done (by kernel_rfl) ?_ _
 have R2 := Lib.hid (range_blk B2.out)
 have HT4 : Hid (RV.Tree y7 ⟨Ru.qE Ru.a4, .slice (some ⟨y4.heap.size, 0, none⟩) 2 2, .slice none 0 0⟩) := Lib.hid ⟨tree_two (p := (.mk 10 [] 0 .none [Ru.kindC 1, Ru.kindC 2], .slice (some ⟨y2.heap.size, 0, none⟩) 2 2)) (q := (Ru.clsP, .slice none 0 0)) BO.out (tree_two (p := (Ru.kindC 1, .slice none 0 0)) (q := (Ru.kindC 2, .slice none 0 0)) BI.out (Tree.leaf rfl) (Tree.leaf rfl)) (Tree.leaf rfl), Tree.leaf rfl⟩
 have HFE : Hid (Fit (Ru.qE Ru.a4)) := Lib.hid (good_fit ((Ru.check_good Ru.c_s5).2 _ (by simp)))
 have cS : Calls Tryz.prog 26 #[str Ru.s5, .agg #[.string ⟨#[101]⟩, .int .i64 0, .int .i64 3, .int .i64 9, .string ⟨#[]⟩, .int .i64 0, .int .i64 0, .int .i64 0, .int .i64 0, .int .i64 0, .slice (some ⟨y4.heap.size, 0, none⟩) 2 2, .int .i64 1, .string ⟨#[]⟩, .int .i64 0, .int .i64 0, .int .i64 0, .int .i64 0, .int .i64 0, .slice none 0 0, .int .i64 5]] y7 (SameIs true y7) := says_t Ru.s5 (Ru.qE Ru.a4) _ _ _ _ _ _ y7 (HE.out.kp0 KV.out) Ru.p_s5 HFE.out (by decide) HT4.out
 go_wp2_with (refine wpList_load_want (by rfl) 42 _ (by rfl) w4.heap.size 0 (by rfl) #[.string ⟨#[101]⟩, .int .i64 0, .int .i64 3, .int .i64 9, .string ⟨#[]⟩, .int .i64 0, .int .i64 0, .int .i64 0, .int .i64 0, .int .i64 0, .slice (some ⟨y4.heap.size, 0, none⟩) 2 2, .int .i64 1, .string ⟨#[]⟩, .int .i64 0, .int .i64 0, .int .i64 0, .int .i64 0, .int .i64 0, .slice none 0 0, .int .i64 5].toList _ R2.out Tryz.underlying42 (by rfl) info42 ?_)
 refine cS.mono ?_
 clear cS R2 BI BO B6
 rintro e u0 ⟨rfl, kk⟩
 have B1 := Lib.hid (res_kept B1.out kk (by simp))
 have B2 := Lib.hid (res_kept B2.out kk (by simp))
 have HT4 := Lib.hid (HT4.out.keep kk)
 have KV := Lib.hid ((KV.out).trans kk)
 have zzu0 := kk.size
 clear kk
 have R2 := Lib.hid (range_blk B2.out)
 have ka : Kp u0 (u0.alloc (.cells #[.string ⟨#[101]⟩, .int .i64 0, .int .i64 3, .int .i64 9, .string ⟨#[]⟩, .int .i64 0, .int .i64 0, .int .i64 0, .int .i64 0, .int .i64 0, .slice (some ⟨y4.heap.size, 0, none⟩) 2 2, .int .i64 1, .string ⟨#[]⟩, .int .i64 0, .int .i64 0, .int .i64 0, .int .i64 0, .int .i64 0, .slice none 0 0, .int .i64 5] 42)) none := (Kp.refl _ _).alloc _
 have cT : Calls Tryz.prog 15 #[.slice (some ⟨u0.heap.size, 0, none⟩) 1 1] (u0.alloc (.cells #[.string ⟨#[101]⟩, .int .i64 0, .int .i64 3, .int .i64 9, .string ⟨#[]⟩, .int .i64 0, .int .i64 0, .int .i64 0, .int .i64 0, .int .i64 0, .slice (some ⟨y4.heap.size, 0, none⟩) 2 2, .int .i64 1, .string ⟨#[]⟩, .int .i64 0, .int .i64 0, .int .i64 0, .int .i64 0, .int .i64 0, .slice none 0 0, .int .i64 5] 42)) fun e w' => e = .returned (.tuple #[.string ⟨#[114, 117, 108, 101, 32, 101, 32, 48, 32, 101, 100, 103, 101, 32, 53, 32, 119, 104, 101, 110, 32, 40, 32, 107, 105, 110, 100, 32, 49, 32, 111, 114, 32, 107, 105, 110, 100, 32, 50, 32, 41, 32, 97, 110, 100, 32, 99, 108, 97, 115, 115, 32, 112, 10]⟩, .int .i64 0]) ∧ Kp (u0.alloc (.cells #[.string ⟨#[101]⟩, .int .i64 0, .int .i64 3, .int .i64 9, .string ⟨#[]⟩, .int .i64 0, .int .i64 0, .int .i64 0, .int .i64 0, .int .i64 0, .slice (some ⟨y4.heap.size, 0, none⟩) 2 2, .int .i64 1, .string ⟨#[]⟩, .int .i64 0, .int .i64 0, .int .i64 0, .int .i64 0, .int .i64 0, .slice none 0 0, .int .i64 5] 42)) w' none := by
  have h := text_any [(⟨Ru.qE Ru.a4, .slice (some ⟨y4.heap.size, 0, none⟩) 2 2, .slice none 0 0⟩ : RV)] (some ⟨u0.heap.size, 0, none⟩) 1 (u0.alloc (.cells #[.string ⟨#[101]⟩, .int .i64 0, .int .i64 3, .int .i64 9, .string ⟨#[]⟩, .int .i64 0, .int .i64 0, .int .i64 0, .int .i64 0, .int .i64 0, .slice (some ⟨y4.heap.size, 0, none⟩) 2 2, .int .i64 1, .string ⟨#[]⟩, .int .i64 0, .int .i64 0, .int .i64 0, .int .i64 0, .int .i64 0, .slice none 0 0, .int .i64 5] 42)) (HE.out.kp0 (KV.out.trans ka)) (lies_one (heap_alloc_new u0 (.cells #[.string ⟨#[101]⟩, .int .i64 0, .int .i64 3, .int .i64 9, .string ⟨#[]⟩, .int .i64 0, .int .i64 0, .int .i64 0, .int .i64 0, .int .i64 0, .slice (some ⟨y4.heap.size, 0, none⟩) 2 2, .int .i64 1, .string ⟨#[]⟩, .int .i64 0, .int .i64 0, .int .i64 0, .int .i64 0, .int .i64 0, .slice none 0 0, .int .i64 5] 42))) (fun p hp => by rw [List.mem_singleton] at hp; subst hp; exact HT4.out.keep ka) (fun p hp => by rw [List.mem_singleton] at hp; subst hp; exact HFE.out)
  have e : Ru.text [Ru.qE Ru.a4] = (Ru.s5 ++ [10], 0) := by unfold Ru.text; rw [if_pos Ru.c_s5, Ru.t_s5]
  have e2 : [(⟨Ru.qE Ru.a4, .slice (some ⟨y4.heap.size, 0, none⟩) 2 2, .slice none 0 0⟩ : RV)].map (·.r) = [Ru.qE Ru.a4] := rfl
  rw [e2, e] at h
  exact h
 go_wp2_with (refine wpList_load_mid (by rfl) 42 _ (by rfl) w4.heap.size 0 (by rfl) #[.string ⟨#[101]⟩, .int .i64 0, .int .i64 3, .int .i64 9, .string ⟨#[]⟩, .int .i64 0, .int .i64 0, .int .i64 0, .int .i64 0, .int .i64 0, .slice (some ⟨y4.heap.size, 0, none⟩) 2 2, .int .i64 1, .string ⟨#[]⟩, .int .i64 0, .int .i64 0, .int .i64 0, .int .i64 0, .int .i64 0, .slice none 0 0, .int .i64 5].toList _ R2.out Tryz.underlying42 (by rfl) info42 ?_)
 refine cT.mono ?_
 clear cT R2
 rintro e u1 ⟨rfl, kk⟩
 have kk := ka.trans kk
 have B1 := Lib.hid (res_kept B1.out kk (by simp))
 have B2 := Lib.hid (res_kept B2.out kk (by simp))
 have HT4 := Lib.hid (HT4.out.keep kk)
 have KV := Lib.hid ((KV.out).trans kk)
 clear kk ka
 have R2 := Lib.hid (range_blk B2.out)
 have c1 : Calls Tryz.prog 17 #[.agg #[.string ⟨#[101]⟩, .int .i64 0, .int .i64 3, .int .i64 9, .string ⟨#[]⟩, .int .i64 0, .int .i64 0, .int .i64 0, .int .i64 0, .int .i64 0, .slice (some ⟨y4.heap.size, 0, none⟩) 2 2, .int .i64 1, .string ⟨#[]⟩, .int .i64 0, .int .i64 0, .int .i64 0, .int .i64 0, .int .i64 0, .slice none 0 0, .int .i64 5], .agg #[.string ⟨#[101]⟩, .int .i64 0, .int .i64 3, .int .i64 9, .string ⟨#[]⟩, .int .i64 0, .int .i64 0, .int .i64 0, .int .i64 0, .int .i64 0, .slice (some ⟨y4.heap.size, 0, none⟩) 2 2, .int .i64 1, .string ⟨#[]⟩, .int .i64 0, .int .i64 0, .int .i64 0, .int .i64 0, .int .i64 0, .slice none 0 0, .int .i64 5]] u1 (SameIs true u1) := by
  have h := same_any (⟨Ru.qE Ru.a4, .slice (some ⟨y4.heap.size, 0, none⟩) 2 2, .slice none 0 0⟩ : RV) (⟨Ru.qE Ru.a4, .slice (some ⟨y4.heap.size, 0, none⟩) 2 2, .slice none 0 0⟩ : RV) u1 HT4.out HT4.out HFE.out
  rw [eqB_t rfl] at h
  exact h
 go_wp2_with (refine wpList_load_want (by rfl) 42 _ (by rfl) w4.heap.size 0 (by rfl) #[.string ⟨#[101]⟩, .int .i64 0, .int .i64 3, .int .i64 9, .string ⟨#[]⟩, .int .i64 0, .int .i64 0, .int .i64 0, .int .i64 0, .int .i64 0, .slice (some ⟨y4.heap.size, 0, none⟩) 2 2, .int .i64 1, .string ⟨#[]⟩, .int .i64 0, .int .i64 0, .int .i64 0, .int .i64 0, .int .i64 0, .slice none 0 0, .int .i64 5].toList _ R2.out Tryz.underlying42 (by rfl) info42 ?_)
 refine c1.mono ?_
 clear c1 R2
 rintro e u2 ⟨rfl, kk⟩
 have B1 := Lib.hid (res_kept B1.out kk (by simp))
 have B2 := Lib.hid (res_kept B2.out kk (by simp))
 have HT4 := Lib.hid (HT4.out.keep kk)
 have KV := Lib.hid ((KV.out).trans kk)
 clear kk
 have R2 := Lib.hid (range_blk B2.out)
 have R1 := Lib.hid (range_blk B1.out)
 have c1 : Calls Tryz.prog 17 #[.agg #[.string ⟨#[101]⟩, .int .i64 0, .int .i64 3, .int .i64 9, .string ⟨#[]⟩, .int .i64 0, .int .i64 0, .int .i64 0, .int .i64 0, .int .i64 0, .slice (some ⟨y4.heap.size, 0, none⟩) 2 2, .int .i64 1, .string ⟨#[]⟩, .int .i64 0, .int .i64 0, .int .i64 0, .int .i64 0, .int .i64 0, .slice none 0 0, .int .i64 5], .agg #[.string ⟨#[99, 49]⟩, .int .i64 1, .int .i64 1, .int .i64 1, .string ⟨#[]⟩, .int .i64 0, .int .i64 0, .int .i64 0, .int .i64 0, .int .i64 0, .slice none 0 0, .int .i64 1, .string ⟨#[]⟩, .int .i64 0, .int .i64 0, .int .i64 0, .int .i64 0, .int .i64 0, .slice none 0 0, .int .i64 10]] u2 (SameIs false u2) := by
  have h := same_any (⟨Ru.qE Ru.a4, .slice (some ⟨y4.heap.size, 0, none⟩) 2 2, .slice none 0 0⟩ : RV) ⟨Ru.qC, .slice none 0 0, .slice none 0 0⟩ u2 HT4.out ⟨Tree.leaf rfl, Tree.leaf rfl⟩ HFE.out
  have e : eqB (Ru.qE Ru.a4) Ru.qC = false := eqB_f (fun h => by have := congrArg Ru.Rule.what h; simp [Ru.qE, Ru.qC] at this)
  rw [e] at h
  exact h
 go_wp2_with (first | (refine wpList_load_want (by rfl) 42 _ (by rfl) w4.heap.size 0 (by rfl) #[.string ⟨#[101]⟩, .int .i64 0, .int .i64 3, .int .i64 9, .string ⟨#[]⟩, .int .i64 0, .int .i64 0, .int .i64 0, .int .i64 0, .int .i64 0, .slice (some ⟨y4.heap.size, 0, none⟩) 2 2, .int .i64 1, .string ⟨#[]⟩, .int .i64 0, .int .i64 0, .int .i64 0, .int .i64 0, .int .i64 0, .slice none 0 0, .int .i64 5].toList _ R2.out Tryz.underlying42 (by rfl) info42 ?_) | (refine wpList_load_want (by rfl) 42 _ (by rfl) w2.heap.size 0 (by rfl) #[.string ⟨#[99, 49]⟩, .int .i64 1, .int .i64 1, .int .i64 1, .string ⟨#[]⟩, .int .i64 0, .int .i64 0, .int .i64 0, .int .i64 0, .int .i64 0, .slice none 0 0, .int .i64 1, .string ⟨#[]⟩, .int .i64 0, .int .i64 0, .int .i64 0, .int .i64 0, .int .i64 0, .slice none 0 0, .int .i64 10].toList _ R1.out Tryz.underlying42 (by rfl) info42 ?_))
 refine c1.mono ?_
 clear c1 R2 R1
 rintro e u3 ⟨rfl, kk⟩
 have B2 := Lib.hid (res_kept B2.out kk (by simp))
 have HT4 := Lib.hid (HT4.out.keep kk)
 have KV := Lib.hid ((KV.out).trans kk)
 clear kk
 have cF : Calls Tryz.prog 27 #[str Ru.s6, .int .i64 1, .int .i64 4] u3 (SameIs true u3) := fails_any Ru.s6 1 4 u3 (HE.out.kp0 KV.out) Ru.p_s6 (by decide)
 go_wp2_with fail
 refine cF.mono ?_
 clear cF
 rintro e u4 ⟨rfl, kk⟩
 have B2 := Lib.hid (res_kept B2.out kk (by simp))
 have HT4 := Lib.hid (HT4.out.keep kk)
 have KV := Lib.hid ((KV.out).trans kk)
 clear kk
 have cF : Calls Tryz.prog 27 #[str Ru.s7, .int .i64 1, .int .i64 4] u4 (SameIs true u4) := fails_any Ru.s7 1 4 u4 (HE.out.kp0 KV.out) Ru.p_s7 (by decide)
 go_wp2_with fail
 refine cF.mono ?_
 clear cF
 rintro e u5 ⟨rfl, kk⟩
 have B2 := Lib.hid (res_kept B2.out kk (by simp))
 have HT4 := Lib.hid (HT4.out.keep kk)
 have KV := Lib.hid ((KV.out).trans kk)
 clear kk
 have cF : Calls Tryz.prog 27 #[str Ru.s8, .int .i64 0, .int .i64 40] u5 (SameIs true u5) := fails_any Ru.s8 0 40 u5 (HE.out.kp0 KV.out) Ru.p_s8 (by decide)
 go_wp2_with fail
 refine cF.mono ?_
 clear cF
 rintro e u6 ⟨rfl, kk⟩
 have B2 := Lib.hid (res_kept B2.out kk (by simp))
 have HT4 := Lib.hid (HT4.out.keep kk)
 have KV := Lib.hid ((KV.out).trans kk)
 clear kk
 have cF : Calls Tryz.prog 27 #[str Ru.s9, .int .i64 0, .int .i64 20] u6 (SameIs true u6) := fails_any Ru.s9 0 20 u6 (HE.out.kp0 KV.out) Ru.p_s9 (by decide)
 go_wp2_with fail
 refine cF.mono ?_
 clear cF
 rintro e u7 ⟨rfl, kk⟩
 have B2 := Lib.hid (res_kept B2.out kk (by simp))
 have HT4 := Lib.hid (HT4.out.keep kk)
 have KV := Lib.hid ((KV.out).trans kk)
 clear kk
 have R2 := Lib.hid (range_blk B2.out)
 have ka : Kp u7 (u7.alloc (.cells #[.string ⟨#[101]⟩, .int .i64 0, .int .i64 3, .int .i64 9, .string ⟨#[]⟩, .int .i64 0, .int .i64 0, .int .i64 0, .int .i64 0, .int .i64 0, .slice (some ⟨y4.heap.size, 0, none⟩) 2 2, .int .i64 1, .string ⟨#[]⟩, .int .i64 0, .int .i64 0, .int .i64 0, .int .i64 0, .int .i64 0, .slice none 0 0, .int .i64 5] 42)) none := (Kp.refl _ _).alloc _
 have cC : Calls Tryz.prog 13 #[.slice (some ⟨u7.heap.size, 0, none⟩) 1 1] (u7.alloc (.cells #[.string ⟨#[101]⟩, .int .i64 0, .int .i64 3, .int .i64 9, .string ⟨#[]⟩, .int .i64 0, .int .i64 0, .int .i64 0, .int .i64 0, .int .i64 0, .slice (some ⟨y4.heap.size, 0, none⟩) 2 2, .int .i64 1, .string ⟨#[]⟩, .int .i64 0, .int .i64 0, .int .i64 0, .int .i64 0, .int .i64 0, .slice none 0 0, .int .i64 5] 42)) fun e w' => e = .returned (.int .i64 0) ∧ Kp (u7.alloc (.cells #[.string ⟨#[101]⟩, .int .i64 0, .int .i64 3, .int .i64 9, .string ⟨#[]⟩, .int .i64 0, .int .i64 0, .int .i64 0, .int .i64 0, .int .i64 0, .slice (some ⟨y4.heap.size, 0, none⟩) 2 2, .int .i64 1, .string ⟨#[]⟩, .int .i64 0, .int .i64 0, .int .i64 0, .int .i64 0, .int .i64 0, .slice none 0 0, .int .i64 5] 42)) w' none := by
  have h := check_any [(⟨Ru.qE Ru.a4, .slice (some ⟨y4.heap.size, 0, none⟩) 2 2, .slice none 0 0⟩ : RV)] (some ⟨u7.heap.size, 0, none⟩) 1 (u7.alloc (.cells #[.string ⟨#[101]⟩, .int .i64 0, .int .i64 3, .int .i64 9, .string ⟨#[]⟩, .int .i64 0, .int .i64 0, .int .i64 0, .int .i64 0, .int .i64 0, .slice (some ⟨y4.heap.size, 0, none⟩) 2 2, .int .i64 1, .string ⟨#[]⟩, .int .i64 0, .int .i64 0, .int .i64 0, .int .i64 0, .int .i64 0, .slice none 0 0, .int .i64 5] 42)) (HE.out.kp0 (KV.out.trans ka)) (lies_one (heap_alloc_new u7 (.cells #[.string ⟨#[101]⟩, .int .i64 0, .int .i64 3, .int .i64 9, .string ⟨#[]⟩, .int .i64 0, .int .i64 0, .int .i64 0, .int .i64 0, .int .i64 0, .slice (some ⟨y4.heap.size, 0, none⟩) 2 2, .int .i64 1, .string ⟨#[]⟩, .int .i64 0, .int .i64 0, .int .i64 0, .int .i64 0, .int .i64 0, .slice none 0 0, .int .i64 5] 42))) (fun p hp => by rw [List.mem_singleton] at hp; subst hp; exact HT4.out.keep ka) (fun p hp => by rw [List.mem_singleton] at hp; subst hp; exact HFE.out)
  have e2 : [(⟨Ru.qE Ru.a4, .slice (some ⟨y4.heap.size, 0, none⟩) 2 2, .slice none 0 0⟩ : RV)].map (·.r) = [Ru.qE Ru.a4] := rfl
  rw [e2, Ru.c_s5] at h
  exact h
 go_wp2_with (first | (refine wpList_load_want (by rfl) 42 _ (by rfl) w4.heap.size 0 (by rfl) #[.string ⟨#[101]⟩, .int .i64 0, .int .i64 3, .int .i64 9, .string ⟨#[]⟩, .int .i64 0, .int .i64 0, .int .i64 0, .int .i64 0, .int .i64 0, .slice (some ⟨y4.heap.size, 0, none⟩) 2 2, .int .i64 1, .string ⟨#[]⟩, .int .i64 0, .int .i64 0, .int .i64 0, .int .i64 0, .int .i64 0, .slice none 0 0, .int .i64 5].toList _ R2.out Tryz.underlying42 (by rfl) info42 ?_) | (go_at_call 13; refine cC.mono ?_; clear cC; rintro e u8 ⟨rfl, kk⟩))
 go_ret
 exact ⟨rfl, (KV.out.trans ka).trans kk⟩
end Go.Proofs.YtnchipahdfbliaaGreatDoor
