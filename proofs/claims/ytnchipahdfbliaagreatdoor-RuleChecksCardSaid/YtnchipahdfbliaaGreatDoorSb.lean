/- Whether two conditions, two rules are equal, by the program. Conditions: what a machine holds. -/
import Derived.Test.YtnchipahdfbliaaGreatDoorSa
namespace Go.Proofs.YtnchipahdfbliaaGreatDoor
open Go.RowKit

theorem take_map_eq {xs ys : List (Ru.Cond × Value)} {k : Nat} (h : (xs.take k).map (·.1) = (ys.take k).map (·.1)) (h1 : k < xs.length) (h2 : k < ys.length) (e : xs[k].1 = ys[k].1) : (xs.take (k + 1)).map (·.1) = (ys.take (k + 1)).map (·.1) := by
 rw [List.take_succ_eq_append_getElem h1, List.take_succ_eq_append_getElem h2, List.map_append, List.map_append, h]; simp [e]
set_option maxHeartbeats 4000000 in
set_option maxRecDepth 100000 in
theorem equalFunc_any (xs ys : List (Ru.Cond × Value)) (ao bo : Option Addr) (ca cb : Nat) (w : World) (hx : LiesAt 8 cC w ao ca xs) (hy : LiesAt 8 cC w bo cb ys) (hxs : ∀ p ∈ xs, ∃ a m c, p.2 = .slice a m c) (hys : ∀ p ∈ ys, ∃ a m c, p.2 = .slice a m c) (hl : xs.length ≤ 1000000000000)
  (ih : ∀ p ∈ xs, ∀ q ∈ ys, ∀ u, Kp w u none → Calls Tryz.prog 49 #[.agg (cC p).toArray, .agg (cC q).toArray] u (SameIs (eqB p.1 q.1) u)) :
  Calls Tryz.prog 70 #[.slice ao xs.length ca, .slice bo ys.length cb, .func (.func 49) #[] #[]] w (SameIs (eqB (xs.map (·.1)) (ys.map (·.1))) w) := by
 obtain ⟨n, hn⟩ : ∃ n, xs.length = n := ⟨_, rfl⟩
 obtain ⟨m, hm⟩ : ∃ m, ys.length = m := ⟨_, rfl⟩
 have HX := Lib.hid hx; have HY := Lib.hid hy; have HXS := Lib.hid hxs; have HYS := Lib.hid hys; have HIH := Lib.hid ih; have HN := Lib.hid hn; have HM := Lib.hid hm
 rw [hn] at hl ⊢
 rw [hm]
 clear hx hy hxs hys ih hn hm
 by_cases hnm : n = m
 case neg =>
  have hb : ((n : Int) != (m : Int)) = true := by simp [bne]; omega
  have hr : Hid (eqB (xs.map (·.1)) (ys.map (·.1)) = false) := Lib.hid (eqB_f (fun h => hnm (by have := congrArg List.length h; rw [List.length_map, List.length_map, HN.out, HM.out] at this; exact this)))
  clear hnm
  go_enter Tryz.func70, Tryz.ntmps70
  go_wp2_with fail
  go_ret
  exact ⟨by rw [hr.out]; rfl, Kp.refl _ _⟩
 subst hnm
 have hb : ((n : Int) != (n : Int)) = false := by simp
 obtain ⟨res, hres⟩ : ∃ x, eqB (xs.map (·.1)) (ys.map (·.1)) = x := ⟨_, rfl⟩
 rw [hres]
 have HRES := Lib.hid hres
 have hn0 : (0 : Int) ≤ (n : Int) := by omega
 clear hres
 go_enter Tryz.func70, Tryz.ntmps70
 go_wp2_with fail
 go_loopw [17] (fun i wr => ∃ k : Nat, k ≤ n ∧ i = .int .i64 (k : Int) ∧ Hid ((xs.take k).map (·.1) = (ys.take k).map (·.1)) ∧ Hid (Kp w wr none)) (fun i _ => n - (intOf i).toNat)
 case atStart => exact ⟨0, Nat.zero_le _, rfl, Lib.hid rfl, Lib.hid (Kp.refl _ _)⟩
 case round =>
  obtain ⟨k, hk, rfl, HT, HK⟩ := hrel
  have hk0 : (0 : Int) ≤ (k : Int) := by omega
  by_cases hlt : k < n
  ·have hk1 : (k : Int) < (n : Int) := by omega
   have h1 : k < xs.length := by rw [HN.out]; exact hlt
   have h2 : k < ys.length := by rw [HM.out]; exact hlt
   obtain ⟨p, hp⟩ : ∃ p, xs[k] = p := ⟨_, rfl⟩
   obtain ⟨q, hq⟩ : ∃ p, ys[k] = p := ⟨_, rfl⟩
   have mp : p ∈ xs := by rw [← hp]; exact List.getElem_mem h1
   have mq : q ∈ ys := by rw [← hq]; exact List.getElem_mem h2
   obtain ⟨a3, m3, c3, hpv⟩ := HXS.out p mp
   obtain ⟨a4, m4, c4, hqv⟩ := HYS.out q mq
   obtain ⟨b1, o1, e1, _, hr1⟩ := (HX.out.keep HK.out).range k h1 hp
   obtain ⟨b2, o2, e2, _, hr2⟩ := (HY.out.keep HK.out).range k h2 hq
   have hXE : cC p = #[.int .i64 p.1.op, str p.1.text, .int .i64 p.1.n, .int .i64 p.1.box.x0, .int .i64 p.1.box.y0, .int .i64 p.1.box.x1, .int .i64 p.1.box.y1, .slice a3 m3 c3].toList := by unfold cC; rw [hpv]
   have hYE : cC q = #[.int .i64 q.1.op, str q.1.text, .int .i64 q.1.n, .int .i64 q.1.box.x0, .int .i64 q.1.box.y0, .int .i64 q.1.box.x1, .int .i64 q.1.box.y1, .slice a4 m4 c4].toList := by unfold cC; rw [hqv]
   have R1 : Hid (wr.rangeAt b1 (o1 + k * 8) #[.int .i64 p.1.op, str p.1.text, .int .i64 p.1.n, .int .i64 p.1.box.x0, .int .i64 p.1.box.y0, .int .i64 p.1.box.x1, .int .i64 p.1.box.y1, .slice a3 m3 c3].toList) := Lib.hid (by rw [← hXE]; exact hr1)
   have R2 : Hid ((wr.alloc (.cells #[.int .i64 p.1.op, str p.1.text, .int .i64 p.1.n, .int .i64 p.1.box.x0, .int .i64 p.1.box.y0, .int .i64 p.1.box.x1, .int .i64 p.1.box.y1, .slice a3 m3 c3] 40)).rangeAt b2 (o2 + k * 8) #[.int .i64 q.1.op, str q.1.text, .int .i64 q.1.n, .int .i64 q.1.box.x0, .int .i64 q.1.box.y0, .int .i64 q.1.box.x1, .int .i64 q.1.box.y1, .slice a4 m4 c4].toList) := Lib.hid (by rw [← hYE]; exact World.rangeAt_alloc hr2 _)
   have R3 : Hid (((wr.alloc (.cells #[.int .i64 p.1.op, str p.1.text, .int .i64 p.1.n, .int .i64 p.1.box.x0, .int .i64 p.1.box.y0, .int .i64 p.1.box.x1, .int .i64 p.1.box.y1, .slice a3 m3 c3] 40)).alloc (.cells #[.int .i64 q.1.op, str q.1.text, .int .i64 q.1.n, .int .i64 q.1.box.x0, .int .i64 q.1.box.y0, .int .i64 q.1.box.x1, .int .i64 q.1.box.y1, .slice a4 m4 c4] 40)).rangeAt wr.heap.size 0 #[.int .i64 p.1.op, str p.1.text, .int .i64 p.1.n, .int .i64 p.1.box.x0, .int .i64 p.1.box.y0, .int .i64 p.1.box.x1, .int .i64 p.1.box.y1, .slice a3 m3 c3].toList) := Lib.hid (range_blk (res_kept (heap_alloc_new wr _) ((Kp.refl _ none).alloc _) (by simp)))
   have R4 : Hid (((wr.alloc (.cells #[.int .i64 p.1.op, str p.1.text, .int .i64 p.1.n, .int .i64 p.1.box.x0, .int .i64 p.1.box.y0, .int .i64 p.1.box.x1, .int .i64 p.1.box.y1, .slice a3 m3 c3] 40)).alloc (.cells #[.int .i64 q.1.op, str q.1.text, .int .i64 q.1.n, .int .i64 q.1.box.x0, .int .i64 q.1.box.y0, .int .i64 q.1.box.x1, .int .i64 q.1.box.y1, .slice a4 m4 c4] 40)).rangeAt (wr.heap.size + 1) 0 #[.int .i64 q.1.op, str q.1.text, .int .i64 q.1.n, .int .i64 q.1.box.x0, .int .i64 q.1.box.y0, .int .i64 q.1.box.x1, .int .i64 q.1.box.y1, .slice a4 m4 c4].toList) := Lib.hid (range_blk (heap_alloc2_new wr _ _))
   have kA : Kp w ((wr.alloc (.cells #[.int .i64 p.1.op, str p.1.text, .int .i64 p.1.n, .int .i64 p.1.box.x0, .int .i64 p.1.box.y0, .int .i64 p.1.box.x1, .int .i64 p.1.box.y1, .slice a3 m3 c3] 40)).alloc (.cells #[.int .i64 q.1.op, str q.1.text, .int .i64 q.1.n, .int .i64 q.1.box.x0, .int .i64 q.1.box.y0, .int .i64 q.1.box.x1, .int .i64 q.1.box.y1, .slice a4 m4 c4] 40)) none := (HK.out.alloc _).alloc _
   have cI := HIH.out p mp q mq _ kA
   rw [hXE, hYE] at cI
   have HKA := Lib.hid kA
   have cI : Calls Tryz.prog 49 #[.agg #[.int .i64 p.1.op, str p.1.text, .int .i64 p.1.n, .int .i64 p.1.box.x0, .int .i64 p.1.box.y0, .int .i64 p.1.box.x1, .int .i64 p.1.box.y1, .slice a3 m3 c3], .agg #[.int .i64 q.1.op, str q.1.text, .int .i64 q.1.n, .int .i64 q.1.box.x0, .int .i64 q.1.box.y0, .int .i64 q.1.box.x1, .int .i64 q.1.box.y1, .slice a4 m4 c4]] ((wr.alloc (.cells #[.int .i64 p.1.op, str p.1.text, .int .i64 p.1.n, .int .i64 p.1.box.x0, .int .i64 p.1.box.y0, .int .i64 p.1.box.x1, .int .i64 p.1.box.y1, .slice a3 m3 c3] 40)).alloc (.cells #[.int .i64 q.1.op, str q.1.text, .int .i64 q.1.n, .int .i64 q.1.box.x0, .int .i64 q.1.box.y0, .int .i64 q.1.box.x1, .int .i64 q.1.box.y1, .slice a4 m4 c4] 40)) (SameIs (eqB p.1 q.1) ((wr.alloc (.cells #[.int .i64 p.1.op, str p.1.text, .int .i64 p.1.n, .int .i64 p.1.box.x0, .int .i64 p.1.box.y0, .int .i64 p.1.box.x1, .int .i64 p.1.box.y1, .slice a3 m3 c3] 40)).alloc (.cells #[.int .i64 q.1.op, str q.1.text, .int .i64 q.1.n, .int .i64 q.1.box.x0, .int .i64 q.1.box.y0, .int .i64 q.1.box.x1, .int .i64 q.1.box.y1, .slice a4 m4 c4] 40))) := cI
   subst e1; subst e2
   have HP := Lib.hid hp; have HQ := Lib.hid hq
   have H12 : Hid (k < xs.length ∧ k < ys.length) := Lib.hid ⟨h1, h2⟩
   clear hp hq mp mq hpv hqv hr1 hr2 hXE hYE kA
   by_cases e : p.1 = q.1
   ·rw [eqB_t e] at cI
    have HTN : Hid ((xs.take (k + 1)).map (·.1) = (ys.take (k + 1)).map (·.1)) := Lib.hid (take_map_eq HT.out H12.out.1 H12.out.2 (by rw [HP.out, HQ.out]; exact e))
    clear e
    go_wp2_with (first | (refine wpList_load_mid (by rfl) 40 _ (by rfl) b1 (o1 + k * 8) (by rfl) #[.int .i64 p.1.op, str p.1.text, .int .i64 p.1.n, .int .i64 p.1.box.x0, .int .i64 p.1.box.y0, .int .i64 p.1.box.x1, .int .i64 p.1.box.y1, .slice a3 m3 c3].toList _ R1.out Tryz.underlying40 (by rfl) info40s ?_) | (refine wpList_load_mid (by rfl) 40 _ (by rfl) b2 (o2 + k * 8) (by rfl) #[.int .i64 q.1.op, str q.1.text, .int .i64 q.1.n, .int .i64 q.1.box.x0, .int .i64 q.1.box.y0, .int .i64 q.1.box.x1, .int .i64 q.1.box.y1, .slice a4 m4 c4].toList _ R2.out Tryz.underlying40 (by rfl) info40s ?_) | (refine wpList_store_new (by rfl) 40 _ _ (by rfl) #[.int .i64 0, .string ⟨#[]⟩, .int .i64 0, .int .i64 0, .int .i64 0, .int .i64 0, .int .i64 0, .slice none 0 0] #[.int .i64 p.1.op, str p.1.text, .int .i64 p.1.n, .int .i64 p.1.box.x0, .int .i64 p.1.box.y0, .int .i64 p.1.box.x1, .int .i64 p.1.box.y1, .slice a3 m3 c3] 40 (by rfl) (by rfl) rfl info40s (by rfl) (by simp [Value.oneCell']) ?_) | (refine wpList_store_new (by rfl) 40 _ _ (by rfl) #[.int .i64 0, .string ⟨#[]⟩, .int .i64 0, .int .i64 0, .int .i64 0, .int .i64 0, .int .i64 0, .slice none 0 0] #[.int .i64 q.1.op, str q.1.text, .int .i64 q.1.n, .int .i64 q.1.box.x0, .int .i64 q.1.box.y0, .int .i64 q.1.box.x1, .int .i64 q.1.box.y1, .slice a4 m4 c4] 40 (by rfl) (by rfl) rfl info40s (by rfl) (by simp [Value.oneCell']) ?_) | (refine wpList_load_mid (by rfl) 40 _ (by rfl) wr.heap.size 0 (by rfl) #[.int .i64 p.1.op, str p.1.text, .int .i64 p.1.n, .int .i64 p.1.box.x0, .int .i64 p.1.box.y0, .int .i64 p.1.box.x1, .int .i64 p.1.box.y1, .slice a3 m3 c3].toList _ R3.out Tryz.underlying40 (by rfl) info40s ?_) | (refine wpList_load_mid (by rfl) 40 _ (by rfl) (wr.heap.size + 1) 0 (by rfl) #[.int .i64 q.1.op, str q.1.text, .int .i64 q.1.n, .int .i64 q.1.box.x0, .int .i64 q.1.box.y0, .int .i64 q.1.box.x1, .int .i64 q.1.box.y1, .slice a4 m4 c4].toList _ R4.out Tryz.underlying40 (by rfl) info40s ?_) | (go_at_call 49; refine cI.mono ?_; clear cI; rintro e w2 ⟨rfl, hk2⟩))
    go_roundw
    case rel => exact ⟨k + 1, hlt, by go_num, HTN, Lib.hid (HKA.out.trans hk2)⟩
    case measure => simp [intOf]; omega
   ·rw [eqB_f e] at cI
    have hr : Hid (res = false) := Lib.hid (by
     rw [← HRES.out]
     refine eqB_f (fun h => e ?_)
     have h1 := congrArg (fun l => l[k]?) h
     simp only [List.getElem?_map] at h1
     rw [List.getElem?_eq_getElem H12.out.1, List.getElem?_eq_getElem H12.out.2, HP.out, HQ.out] at h1
     simpa using h1)
    clear e
    go_wp2_with (first | (refine wpList_load_mid (by rfl) 40 _ (by rfl) b1 (o1 + k * 8) (by rfl) #[.int .i64 p.1.op, str p.1.text, .int .i64 p.1.n, .int .i64 p.1.box.x0, .int .i64 p.1.box.y0, .int .i64 p.1.box.x1, .int .i64 p.1.box.y1, .slice a3 m3 c3].toList _ R1.out Tryz.underlying40 (by rfl) info40s ?_) | (refine wpList_load_mid (by rfl) 40 _ (by rfl) b2 (o2 + k * 8) (by rfl) #[.int .i64 q.1.op, str q.1.text, .int .i64 q.1.n, .int .i64 q.1.box.x0, .int .i64 q.1.box.y0, .int .i64 q.1.box.x1, .int .i64 q.1.box.y1, .slice a4 m4 c4].toList _ R2.out Tryz.underlying40 (by rfl) info40s ?_) | (refine wpList_store_new (by rfl) 40 _ _ (by rfl) #[.int .i64 0, .string ⟨#[]⟩, .int .i64 0, .int .i64 0, .int .i64 0, .int .i64 0, .int .i64 0, .slice none 0 0] #[.int .i64 p.1.op, str p.1.text, .int .i64 p.1.n, .int .i64 p.1.box.x0, .int .i64 p.1.box.y0, .int .i64 p.1.box.x1, .int .i64 p.1.box.y1, .slice a3 m3 c3] 40 (by rfl) (by rfl) rfl info40s (by rfl) (by simp [Value.oneCell']) ?_) | (refine wpList_store_new (by rfl) 40 _ _ (by rfl) #[.int .i64 0, .string ⟨#[]⟩, .int .i64 0, .int .i64 0, .int .i64 0, .int .i64 0, .int .i64 0, .slice none 0 0] #[.int .i64 q.1.op, str q.1.text, .int .i64 q.1.n, .int .i64 q.1.box.x0, .int .i64 q.1.box.y0, .int .i64 q.1.box.x1, .int .i64 q.1.box.y1, .slice a4 m4 c4] 40 (by rfl) (by rfl) rfl info40s (by rfl) (by simp [Value.oneCell']) ?_) | (refine wpList_load_mid (by rfl) 40 _ (by rfl) wr.heap.size 0 (by rfl) #[.int .i64 p.1.op, str p.1.text, .int .i64 p.1.n, .int .i64 p.1.box.x0, .int .i64 p.1.box.y0, .int .i64 p.1.box.x1, .int .i64 p.1.box.y1, .slice a3 m3 c3].toList _ R3.out Tryz.underlying40 (by rfl) info40s ?_) | (refine wpList_load_mid (by rfl) 40 _ (by rfl) (wr.heap.size + 1) 0 (by rfl) #[.int .i64 q.1.op, str q.1.text, .int .i64 q.1.n, .int .i64 q.1.box.x0, .int .i64 q.1.box.y0, .int .i64 q.1.box.x1, .int .i64 q.1.box.y1, .slice a4 m4 c4].toList _ R4.out Tryz.underlying40 (by rfl) info40s ?_) | (go_at_call 49; refine cI.mono ?_; clear cI; rintro e w2 ⟨rfl, hk2⟩))
    go_ret
    exact ⟨by rw [hr.out]; rfl, HKA.out.trans hk2⟩
  ·obtain rfl : k = n := by omega
   have hr : Hid (res = true) := Lib.hid (by
    rw [← HRES.out]
    refine eqB_t ?_
    have h := HT.out
    rw [List.take_of_length_le (by rw [HN.out]; exact Nat.le_refl _), List.take_of_length_le (by rw [HM.out]; exact Nat.le_refl _)] at h
    exact h)
   go_wp2_with fail
   go_ret
   exact ⟨by rw [hr.out]; rfl, HK.out⟩
set_option maxHeartbeats 4000000 in
set_option maxRecDepth 100000 in
theorem same_cond_yes (p q : Ru.Cond) (a1 : Option Addr) (m1 c1 : Nat) (a2 : Option Addr) (m2 c2 : Nat) (w : World) (x : Bool) (h1 : p.op = q.op) (h2 : p.text = q.text) (h3 : p.n = q.n) (h4 : p.box = q.box)
  (hE : ∀ u, Kp w u none → Calls Tryz.prog 70 #[.slice a1 m1 c1, .slice a2 m2 c2, .func (.func 49) #[] #[]] u (SameIs x u)) : Calls Tryz.prog 49 #[.agg #[.int .i64 p.op, str p.text, .int .i64 p.n, .int .i64 p.box.x0, .int .i64 p.box.y0, .int .i64 p.box.x1, .int .i64 p.box.y1, .slice a1 m1 c1], .agg #[.int .i64 q.op, str q.text, .int .i64 q.n, .int .i64 q.box.x0, .int .i64 q.box.y0, .int .i64 q.box.x1, .int .i64 q.box.y1, .slice a2 m2 c2]] w (SameIs x w) := by
 have HK : Hid (Kp w ((w.alloc (.cells #[.int .i64 p.op, str p.text, .int .i64 p.n, .int .i64 p.box.x0, .int .i64 p.box.y0, .int .i64 p.box.x1, .int .i64 p.box.y1, .slice a1 m1 c1] 40)).alloc (.cells #[.int .i64 q.op, str q.text, .int .i64 q.n, .int .i64 q.box.x0, .int .i64 q.box.y0, .int .i64 q.box.x1, .int .i64 q.box.y1, .slice a2 m2 c2] 40)) none) := Lib.hid (((Kp.refl _ _).alloc _).alloc _)
 have cE := hE _ HK.out
 have b1 : (p.op == q.op) = true := by simpa using h1
 have b2 : (p.text == q.text) = true := by simpa using h2
 have b3 : (p.n == q.n) = true := by simpa using h3
 have b4 : (p.box.x0 == q.box.x0) = true := by rw [h4]; simp
 have b5 : (p.box.y0 == q.box.y0) = true := by rw [h4]; simp
 have b6 : (p.box.x1 == q.box.x1) = true := by rw [h4]; simp
 have b7 : (p.box.y1 == q.box.y1) = true := by rw [h4]; simp
 clear hE h1 h2 h3 h4
 go_enter Tryz.func49, Tryz.ntmps49
 go_wp2_with (go_at_call 70; refine cE.mono ?_; clear cE; rintro e w2 ⟨rfl, hk2⟩)
 go_ret
 exact ⟨rfl, HK.out.trans hk2⟩
theorem same_cond (c : Ru.Cond) : Short c → ∀ (d : Ru.Cond) (w : World) (v u : Value), Tree w c v → Tree w d u → Calls Tryz.prog 49 #[cA c v, cA d u] w (SameIs (eqB c d) w) := by
 refine Ru.Cond.ind (P := fun c => Short c → ∀ (d : Ru.Cond) (w : World) (v u : Value), Tree w c v → Tree w d u → Calls Tryz.prog 49 #[cA c v, cA d u] w (SameIs (eqB c d) w)) (fun op t n b l ih hs d w v u hv hu => ?_) c
 generalize hc : Ru.Cond.mk op t n b l = c at hs hv
 obtain ⟨a1, m1, c1, e1⟩ := hv.slice
 obtain ⟨a2, m2, c2, e2⟩ := hu.slice
 by_cases hall : c.op = d.op ∧ c.text = d.text ∧ c.n = d.n ∧ c.box = d.box
 ·obtain ⟨h1, h2, h3, h4⟩ := hall
  have hx : eqB c d = eqB c.l d.l := by
   by_cases h5 : c.l = d.l
   ·rw [eqB_t h5, eqB_t (cond_ext h1 h2 h3 h4 h5)]
   ·rw [eqB_f h5, eqB_f (fun h => h5 (by rw [h]))]
  rw [hx]
  obtain ⟨xs, f1, g1, t1⟩ := hv.open
  obtain ⟨ys, f2, g2, t2⟩ := hu.open
  have hlen := hs.len
  subst e1; subst e2
  refine same_cond_yes c d a1 m1 c1 a2 m2 c2 w _ h1 h2 h3 h4 (fun z hz => ?_)
  obtain ⟨ao, ca, k1, l1⟩ := (g1.keep hz).form
  obtain ⟨bo, cb, k2, l2⟩ := (g2.keep hz).form
  injection k1 with k1 k3 k4
  injection k2 with k2 k5 k6
  subst k1 k2 k3 k4 k5 k6
  have h := equalFunc_any xs ys a1 a2 c1 c2 z l1 l2 (fun p hp => (t1 p hp).slice) (fun p hp => (t2 p hp).slice) (by rw [f1, List.length_map] at hlen; exact hlen) (fun p hp q hq y hy => by
   have hm : p.1 ∈ c.l := by rw [f1]; exact List.mem_map.2 ⟨p, hp, rfl⟩
   have hm2 : p.1 ∈ l := by rw [← hc] at hm; exact hm
   exact ih p.1 hm2 (hs.sub hm) q.1 y p.2 q.2 ((t1 p hp).keep (hz.trans hy)) ((t2 q hq).keep (hz.trans hy)))
  rw [← f1, ← f2] at h
  exact h
 ·rw [eqB_f (fun h => hall (by rw [h]; exact ⟨rfl, rfl, rfl, rfl⟩))]
  subst e1; subst e2
  exact same_cond_no c d a1 m1 c1 a2 m2 c2 w (fun h1 h2 h3 h4 => hall ⟨h1, h2, h3, h4⟩)
/-- The program's Same. -/
theorem same_any (p q : RV) (w : World) (hp : p.Tree w) (hq : q.Tree w) (hf : Fit p.r) : Calls Tryz.prog 17 #[rA p, rA q] w (SameIs (eqB p.r q.r) w) := by
 obtain ⟨p, va, vb⟩ := p
 obtain ⟨q, ua, ub⟩ := q
 obtain ⟨⟨a1, m1, c1, e1⟩, a2, m2, c2, e2⟩ := RV.slices hp
 obtain ⟨⟨a3, m3, c3, e3⟩, a4, m4, c4, e4⟩ := RV.slices hq
 simp only at e1 e2 e3 e4
 subst e1 e2 e3 e4
 exact same_rule p q a1 m1 c1 a2 m2 c2 a3 m3 c3 a4 m4 c4 w (fun u hu => same_cond p.a hf.2.1 q.a u _ _ (hp.1.keep hu) (hq.1.keep hu)) (fun u hu => same_cond p.b hf.2.2.1 q.b u _ _ (hp.2.keep hu) (hq.2.keep hu))
end Go.Proofs.YtnchipahdfbliaaGreatDoor
