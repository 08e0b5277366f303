/- Whether two conditions, two rules are equal, by the reference. Conditions: what a machine holds. -/
import Derived.Test.YtnchipahdfbliaaGreatDoorSb
namespace Go.Proofs.YtnchipahdfbliaaGreatDoor
open Go.RowKit

set_option maxHeartbeats 4000000 in
set_option maxRecDepth 100000 in
theorem same_cond_ref_yes (p q : Ru.Cond) (xs ys : List (Ru.Cond × Value)) (ao bo : Option Addr) (ca cb n m : Nat) (w : World) (hn : xs.length = n) (hm : ys.length = m) (h1 : p.op = q.op) (h2 : p.text = q.text) (h3 : p.n = q.n) (h4 : p.box = q.box)
  (hx : LiesAt 8 cC w ao ca xs) (hy : LiesAt 8 cC w bo cb ys) (hxs : ∀ p ∈ xs, ∃ a m c, p.2 = .slice a m c) (hys : ∀ p ∈ ys, ∃ a m c, p.2 = .slice a m c) (hl : n ≤ 1000000000000)
  (ih : ∀ p ∈ xs, ∀ q ∈ ys, ∀ u, Kp w u none → Calls Tryz.prog 71 #[.agg (cC p).toArray, .agg (cC q).toArray] u (SameIs (eqB p.1 q.1) u)) :
  Calls Tryz.prog 71 #[.agg #[.int .i64 p.op, str p.text, .int .i64 p.n, .int .i64 p.box.x0, .int .i64 p.box.y0, .int .i64 p.box.x1, .int .i64 p.box.y1, .slice ao n ca], .agg #[.int .i64 q.op, str q.text, .int .i64 q.n, .int .i64 q.box.x0, .int .i64 q.box.y0, .int .i64 q.box.x1, .int .i64 q.box.y1, .slice bo m cb]] w (SameIs (eqB (xs.map (·.1)) (ys.map (·.1))) w) := by
 have b1 : (p.op != q.op) = false := by simp [bne, h1]
 have b2 : (p.text != q.text) = false := by simp [bne, h2]
 have b2e : (p.text == q.text) = true := by simpa using h2
 have b3 : (p.n != q.n) = false := by simp [bne, h3]
 have b4 : (p.box.x0 == q.box.x0) = true := by rw [h4]; simp
 have b5 : (p.box.y0 == q.box.y0) = true := by rw [h4]; simp
 have b6 : (p.box.x1 == q.box.x1) = true := by rw [h4]; simp
 have b7 : (p.box.y1 == q.box.y1) = true := by rw [h4]; simp
 have HX := Lib.hid hx; have HY := Lib.hid hy; have HXS := Lib.hid hxs; have HYS := Lib.hid hys; have HIH := Lib.hid ih; have HN := Lib.hid hn; have HM := Lib.hid hm
 clear hx hy hxs hys ih hn hm h1 h2 h3 h4
 by_cases hnm : n = m
 case neg =>
  have hb : ((n : Int) != (m : Int)) = true := by simp [bne]; omega
  have hr : Hid (eqB (xs.map (·.1)) (ys.map (·.1)) = false) := Lib.hid (eqB_f (fun h => hnm (by have := congrArg List.length h; rw [List.length_map, List.length_map, HN.out, HM.out] at this; exact this)))
  have HK : Hid (Kp w ((w.alloc (.cells #[.int .i64 p.op, str p.text, .int .i64 p.n, .int .i64 p.box.x0, .int .i64 p.box.y0, .int .i64 p.box.x1, .int .i64 p.box.y1, .slice ao n ca] 40)).alloc (.cells #[.int .i64 q.op, str q.text, .int .i64 q.n, .int .i64 q.box.x0, .int .i64 q.box.y0, .int .i64 q.box.x1, .int .i64 q.box.y1, .slice bo m cb] 40)) none) := Lib.hid (((Kp.refl _ _).alloc _).alloc _)
  clear hnm
  go_enter Tryz.func71, Tryz.ntmps71
  go_wp2_with fail
  go_ret
  exact ⟨by rw [hr.out]; rfl, HK.out⟩
 subst hnm
 have hb : ((n : Int) != (n : Int)) = false := by simp
 obtain ⟨res, hres⟩ : ∃ x, eqB (xs.map (·.1)) (ys.map (·.1)) = x := ⟨_, rfl⟩
 rw [hres]
 have HRES := Lib.hid hres
 have hn0 : (0 : Int) ≤ (n : Int) := by omega
 have k0 : Kp w ((w.alloc (.cells #[.int .i64 p.op, str p.text, .int .i64 p.n, .int .i64 p.box.x0, .int .i64 p.box.y0, .int .i64 p.box.x1, .int .i64 p.box.y1, .slice ao n ca] 40)).alloc (.cells #[.int .i64 q.op, str q.text, .int .i64 q.n, .int .i64 q.box.x0, .int .i64 q.box.y0, .int .i64 q.box.x1, .int .i64 q.box.y1, .slice bo n cb] 40)) none := ((Kp.refl _ _).alloc _).alloc _
 have HB0 : Hid (((w.alloc (.cells #[.int .i64 p.op, str p.text, .int .i64 p.n, .int .i64 p.box.x0, .int .i64 p.box.y0, .int .i64 p.box.x1, .int .i64 p.box.y1, .slice ao n ca] 40)).alloc (.cells #[.int .i64 q.op, str q.text, .int .i64 q.n, .int .i64 q.box.x0, .int .i64 q.box.y0, .int .i64 q.box.x1, .int .i64 q.box.y1, .slice bo n cb] 40)).heap[w.heap.size]? = some (.cells #[.int .i64 p.op, str p.text, .int .i64 p.n, .int .i64 p.box.x0, .int .i64 p.box.y0, .int .i64 p.box.x1, .int .i64 p.box.y1, .slice ao n ca] 40 (0, 0))) := Lib.hid (res_kept (heap_alloc_new w _) ((Kp.refl _ none).alloc _) (by simp))
 have HB1 : Hid (((w.alloc (.cells #[.int .i64 p.op, str p.text, .int .i64 p.n, .int .i64 p.box.x0, .int .i64 p.box.y0, .int .i64 p.box.x1, .int .i64 p.box.y1, .slice ao n ca] 40)).alloc (.cells #[.int .i64 q.op, str q.text, .int .i64 q.n, .int .i64 q.box.x0, .int .i64 q.box.y0, .int .i64 q.box.x1, .int .i64 q.box.y1, .slice bo n cb] 40)).heap[w.heap.size + 1]? = some (.cells #[.int .i64 q.op, str q.text, .int .i64 q.n, .int .i64 q.box.x0, .int .i64 q.box.y0, .int .i64 q.box.x1, .int .i64 q.box.y1, .slice bo n cb] 40 (0, 0))) := Lib.hid (heap_alloc2_new w _ _)
 have HK0 := Lib.hid k0
 clear hres k0
 go_enter Tryz.func71, Tryz.ntmps71
 go_wp2_with fail
 generalize hW : ((w.alloc (.cells #[.int .i64 p.op, str p.text, .int .i64 p.n, .int .i64 p.box.x0, .int .i64 p.box.y0, .int .i64 p.box.x1, .int .i64 p.box.y1, .slice ao n ca] 40)).alloc (.cells #[.int .i64 q.op, str q.text, .int .i64 q.n, .int .i64 q.box.x0, .int .i64 q.box.y0, .int .i64 q.box.x1, .int .i64 q.box.y1, .slice bo n cb] 40)) = W0 at *
 clear hW
 go_loopw [5] (fun i wr => ∃ k : Nat, k ≤ n ∧ i = .int .i64 (k : Int) ∧ Hid ((xs.take k).map (·.1) = (ys.take k).map (·.1)) ∧ Hid (Kp W0 wr none)) (fun i _ => n - (intOf i).toNat)
 case atStart => exact ⟨0, Nat.zero_le _, rfl, Lib.hid rfl, Lib.hid (Kp.refl _ _)⟩
 case round =>
  obtain ⟨k, hk, rfl, HT, HK⟩ := hrel
  have hk0 : (0 : Int) ≤ (k : Int) := by omega
  have hc7 : wr.cell? ⟨w.heap.size, 7, none⟩ = some (.slice ao n ca) := ckr HB0.out HK.out (by simp) 7 rfl
  by_cases hlt : k < n
  ·have hk1 : (k : Int) < (n : Int) := by omega
   have h1 : k < xs.length := by rw [HN.out]; exact hlt
   have h2 : k < ys.length := by rw [HM.out]; exact hlt
   obtain ⟨s, hp⟩ : ∃ p, xs[k] = p := ⟨_, rfl⟩
   obtain ⟨t, hq⟩ : ∃ p, ys[k] = p := ⟨_, rfl⟩
   have mp : s ∈ xs := by rw [← hp]; exact List.getElem_mem h1
   have mq : t ∈ ys := by rw [← hq]; exact List.getElem_mem h2
   obtain ⟨a3, m3, c3, hpv⟩ := HXS.out s mp
   obtain ⟨a4, m4, c4, hqv⟩ := HYS.out t mq
   obtain ⟨b1, o1, e1, hb1, hr1⟩ := (HX.out).range k h1 hp
   obtain ⟨b2, o2, e2, hb2, hr2⟩ := (HY.out).range k h2 hq
   have hXE : cC s = #[.int .i64 s.1.op, str s.1.text, .int .i64 s.1.n, .int .i64 s.1.box.x0, .int .i64 s.1.box.y0, .int .i64 s.1.box.x1, .int .i64 s.1.box.y1, .slice a3 m3 c3].toList := by unfold cC; rw [hpv]
   have hYE : cC t = #[.int .i64 t.1.op, str t.1.text, .int .i64 t.1.n, .int .i64 t.1.box.x0, .int .i64 t.1.box.y0, .int .i64 t.1.box.x1, .int .i64 t.1.box.y1, .slice a4 m4 c4].toList := by unfold cC; rw [hqv]
   rw [hXE] at hr1
   rw [hYE] at hr2
   subst e1; subst e2
   have HS : Hid (∀ V, Kp W0 V none → V.cell? ⟨w.heap.size, 7, none⟩ = some (.slice (some ⟨b1, o1, none⟩) n ca) ∧ V.cell? ⟨w.heap.size + 1, 7, none⟩ = some (.slice (some ⟨b2, o2, none⟩) n cb) ∧ V.rangeAt b1 (o1 + k * 8) #[.int .i64 s.1.op, str s.1.text, .int .i64 s.1.n, .int .i64 s.1.box.x0, .int .i64 s.1.box.y0, .int .i64 s.1.box.x1, .int .i64 s.1.box.y1, .slice a3 m3 c3].toList ∧ V.rangeAt b2 (o2 + k * 8) #[.int .i64 t.1.op, str t.1.text, .int .i64 t.1.n, .int .i64 t.1.box.x0, .int .i64 t.1.box.y0, .int .i64 t.1.box.x1, .int .i64 t.1.box.y1, .slice a4 m4 c4].toList ∧ Hid (Kp W0 V none)) := Lib.hid fun V hV => ⟨ckr HB0.out hV (by simp) 7 rfl, ckr HB1.out hV (by simp) 7 rfl, fun j v hv => by rw [(HK0.out.trans hV).below.cell (p := ⟨b1, o1 + k * 8 + j, none⟩) hb1]; exact hr1 j v hv, fun j v hv => by rw [(HK0.out.trans hV).below.cell (p := ⟨b2, o2 + k * 8 + j, none⟩) hb2]; exact hr2 j v hv, Lib.hid hV⟩
   have cI : ∀ V, Kp W0 V none → Calls Tryz.prog 71 #[.agg #[.int .i64 s.1.op, str s.1.text, .int .i64 s.1.n, .int .i64 s.1.box.x0, .int .i64 s.1.box.y0, .int .i64 s.1.box.x1, .int .i64 s.1.box.y1, .slice a3 m3 c3], .agg #[.int .i64 t.1.op, str t.1.text, .int .i64 t.1.n, .int .i64 t.1.box.x0, .int .i64 t.1.box.y0, .int .i64 t.1.box.x1, .int .i64 t.1.box.y1, .slice a4 m4 c4]] V (SameIs (eqB s.1 t.1) V) := fun V hV => by
    have h := HIH.out s mp t mq _ (HK0.out.trans hV)
    rw [hXE, hYE] at h
    exact h
   have HP := Lib.hid hp; have HQ := Lib.hid hq
   have H12 : Hid (k < xs.length ∧ k < ys.length) := Lib.hid ⟨h1, h2⟩
   clear hp hq mp mq hpv hqv hr1 hr2 hXE hYE hb1 hb2
   by_cases e : s.1 = t.1
   ·rw [eqB_t e] at cI
    have HTN : Hid ((xs.take (k + 1)).map (·.1) = (ys.take (k + 1)).map (·.1)) := Lib.hid (take_map_eq HT.out H12.out.1 H12.out.2 (by rw [HP.out, HQ.out]; exact e))
    clear e
    go_upto_region 6 with fail
    have kD : Kp W0 wr.drew none := HK.out.trans ((Kp.refl _ _).drew)
    refine wp_region_held_drew (S := fun V => V.cell? ⟨w.heap.size, 7, none⟩ = some (.slice (some ⟨b1, o1, none⟩) n ca) ∧ V.cell? ⟨w.heap.size + 1, 7, none⟩ = some (.slice (some ⟨b2, o2, none⟩) n cb) ∧ V.rangeAt b1 (o1 + k * 8) #[.int .i64 s.1.op, str s.1.text, .int .i64 s.1.n, .int .i64 s.1.box.x0, .int .i64 s.1.box.y0, .int .i64 s.1.box.x1, .int .i64 s.1.box.y1, .slice a3 m3 c3].toList ∧ V.rangeAt b2 (o2 + k * 8) #[.int .i64 t.1.op, str t.1.text, .int .i64 t.1.n, .int .i64 t.1.box.x0, .int .i64 t.1.box.y0, .int .i64 t.1.box.x1, .int .i64 t.1.box.y1, .slice a4 m4 c4].toList ∧ Hid (Kp W0 V none)) (by kernel_rfl) (HS.out _ kD) (fun hHeld => ?_)
    clear kD
    generalize wr.drew = V0 at *
    refine tkH 0 rfl ?_
    try simp only [Act.put, sm]
    refine tkH 1 rfl ?_
    try simp only [Act.put, sm]
    refine tkH 2 rfl ?_
    try simp only [Act.put, sm]
    refine tkH 3 rfl ?_
    try simp only [Act.put, sm]
    refine wpAnyH_take (i := 4) rfl (by kernel_rfl) (by kernel_rfl) (by kernel_rfl) (fun _ _ _ h => h) (yieldsIf_load_mid (by rfl) _ _ rfl b1 (o1 + k * 8) rfl #[.int .i64 s.1.op, str s.1.text, .int .i64 s.1.n, .int .i64 s.1.box.x0, .int .i64 s.1.box.y0, .int .i64 s.1.box.x1, .int .i64 s.1.box.y1, .slice a3 m3 c3].toList _ (fun _ h => h.2.2.1) Tryz.underlying40 rfl info40s) (by assumption) ?_
    try simp only [Act.put, sm]
    refine tkH 5 rfl ?_
    try simp only [Act.put, sm]
    refine tkH 6 rfl ?_
    try simp only [Act.put, sm]
    refine tkH 7 rfl ?_
    try simp only [Act.put, sm]
    refine tkH 8 rfl ?_
    try simp only [Act.put, sm]
    refine wpAnyH_take (i := 9) rfl (by kernel_rfl) (by kernel_rfl) (by kernel_rfl) (fun _ _ _ h => h) (yieldsIf_load_mid (by rfl) _ _ rfl b2 (o2 + k * 8) rfl #[.int .i64 t.1.op, str t.1.text, .int .i64 t.1.n, .int .i64 t.1.box.x0, .int .i64 t.1.box.y0, .int .i64 t.1.box.x1, .int .i64 t.1.box.y1, .slice a4 m4 c4].toList _ (fun _ h => h.2.2.2.1) Tryz.underlying40 rfl info40s) (by assumption) ?_
    try simp only [Act.put, sm]
    refine wpAnyH_ready (rs := [10]) (by kernel_rfl) (by simp) ?_
    refine AllReadyH.cons (o := _) rfl (fun K hK => ?_) AllReadyH.nil
    have gK := hHeld.2.2.2.2
    clear hHeld
    go_simp
    refine (cI _ gK.out).mono ?_
    rintro e w2 ⟨rfl, hk2⟩
    have k2 := gK.out.trans hk2
    try go_wp2_with fail
    refine hK.out _ _ (HS.out _ k2) (fun hHeld => ?_)
    clear hK K gK hk2
    try simp only [Act.put, sm]
    refine tkH 11 rfl ?_
    try simp only [Act.put, sm]
    clear hHeld
    refine wpAnyH_done (by kernel_rfl) ?_ _
    go_wp2_with fail
    go_roundw
    case rel => exact ⟨k + 1, hlt, by go_num, HTN, Lib.hid k2⟩
    case measure => simp [intOf]; omega
   ·rw [eqB_f e] at cI
    have hr : Hid (res = false) := Lib.hid (by
     rw [← HRES.out]
     refine eqB_f (fun h => e ?_)
     have h1 := congrArg (fun l => l[k]?) h
     simp only [List.getElem?_map] at h1
     rw [List.getElem?_eq_getElem H12.out.1, List.getElem?_eq_getElem H12.out.2, HP.out, HQ.out] at h1
     simpa using h1)
    clear e
    go_upto_region 6 with fail
    have kD : Kp W0 wr.drew none := HK.out.trans ((Kp.refl _ _).drew)
    refine wp_region_held_drew (S := fun V => V.cell? ⟨w.heap.size, 7, none⟩ = some (.slice (some ⟨b1, o1, none⟩) n ca) ∧ V.cell? ⟨w.heap.size + 1, 7, none⟩ = some (.slice (some ⟨b2, o2, none⟩) n cb) ∧ V.rangeAt b1 (o1 + k * 8) #[.int .i64 s.1.op, str s.1.text, .int .i64 s.1.n, .int .i64 s.1.box.x0, .int .i64 s.1.box.y0, .int .i64 s.1.box.x1, .int .i64 s.1.box.y1, .slice a3 m3 c3].toList ∧ V.rangeAt b2 (o2 + k * 8) #[.int .i64 t.1.op, str t.1.text, .int .i64 t.1.n, .int .i64 t.1.box.x0, .int .i64 t.1.box.y0, .int .i64 t.1.box.x1, .int .i64 t.1.box.y1, .slice a4 m4 c4].toList ∧ Hid (Kp W0 V none)) (by kernel_rfl) (HS.out _ kD) (fun hHeld => ?_)
    clear kD
    generalize wr.drew = V0 at *
    refine tkH 0 rfl ?_
    try simp only [Act.put, sm]
    refine tkH 1 rfl ?_
    try simp only [Act.put, sm]
    refine tkH 2 rfl ?_
    try simp only [Act.put, sm]
    refine tkH 3 rfl ?_
    try simp only [Act.put, sm]
    refine wpAnyH_take (i := 4) rfl (by kernel_rfl) (by kernel_rfl) (by kernel_rfl) (fun _ _ _ h => h) (yieldsIf_load_mid (by rfl) _ _ rfl b1 (o1 + k * 8) rfl #[.int .i64 s.1.op, str s.1.text, .int .i64 s.1.n, .int .i64 s.1.box.x0, .int .i64 s.1.box.y0, .int .i64 s.1.box.x1, .int .i64 s.1.box.y1, .slice a3 m3 c3].toList _ (fun _ h => h.2.2.1) Tryz.underlying40 rfl info40s) (by assumption) ?_
    try simp only [Act.put, sm]
    refine tkH 5 rfl ?_
    try simp only [Act.put, sm]
    refine tkH 6 rfl ?_
    try simp only [Act.put, sm]
    refine tkH 7 rfl ?_
    try simp only [Act.put, sm]
    refine tkH 8 rfl ?_
    try simp only [Act.put, sm]
    refine wpAnyH_take (i := 9) rfl (by kernel_rfl) (by kernel_rfl) (by kernel_rfl) (fun _ _ _ h => h) (yieldsIf_load_mid (by rfl) _ _ rfl b2 (o2 + k * 8) rfl #[.int .i64 t.1.op, str t.1.text, .int .i64 t.1.n, .int .i64 t.1.box.x0, .int .i64 t.1.box.y0, .int .i64 t.1.box.x1, .int .i64 t.1.box.y1, .slice a4 m4 c4].toList _ (fun _ h => h.2.2.2.1) Tryz.underlying40 rfl info40s) (by assumption) ?_
    try simp only [Act.put, sm]
    refine wpAnyH_ready (rs := [10]) (by kernel_rfl) (by simp) ?_
    refine AllReadyH.cons (o := _) rfl (fun K hK => ?_) AllReadyH.nil
    have gK := hHeld.2.2.2.2
    clear hHeld
    go_simp
    refine (cI _ gK.out).mono ?_
    rintro e w2 ⟨rfl, hk2⟩
    have k2 := gK.out.trans hk2
    try go_wp2_with fail
    refine hK.out _ _ (HS.out _ k2) (fun hHeld => ?_)
    clear hK K gK hk2
    try simp only [Act.put, sm]
    refine tkH 11 rfl ?_
    try simp only [Act.put, sm]
    clear hHeld
    refine wpAnyH_done (by kernel_rfl) ?_ _
    go_wp2_with fail
    go_ret
    exact ⟨by rw [hr.out]; rfl, HK0.out.trans k2⟩
  ·obtain rfl : k = n := by omega
   have hr : Hid (res = true) := Lib.hid (by
    rw [← HRES.out]
    refine eqB_t ?_
    have h := HT.out
    rw [List.take_of_length_le (by rw [HN.out]; exact Nat.le_refl _), List.take_of_length_le (by rw [HM.out]; exact Nat.le_refl _)] at h
    exact h)
   go_wp2_with fail
   go_ret
   exact ⟨by rw [hr.out]; rfl, HK0.out.trans HK.out⟩
theorem same_cond_ref (c : Ru.Cond) : Short c → ∀ (d : Ru.Cond) (w : World) (v u : Value), Tree w c v → Tree w d u → Calls Tryz.prog 71 #[cA c v, cA d u] w (SameIs (eqB c d) w) := by
 refine Ru.Cond.ind (P := fun c => Short c → ∀ (d : Ru.Cond) (w : World) (v u : Value), Tree w c v → Tree w d u → Calls Tryz.prog 71 #[cA c v, cA d u] w (SameIs (eqB c d) w)) (fun op t n b l ih hs d w v u hv hu => ?_) c
 generalize hc : Ru.Cond.mk op t n b l = c at hs hv
 obtain ⟨a1, m1, c1, e1⟩ := hv.slice
 obtain ⟨a2, m2, c2, e2⟩ := hu.slice
 by_cases hall : c.op = d.op ∧ c.text = d.text ∧ c.n = d.n ∧ c.box = d.box
 ·obtain ⟨h1, h2, h3, h4⟩ := hall
  have hx : eqB c d = eqB c.l d.l := by
   by_cases h5 : c.l = d.l
   ·rw [eqB_t h5, eqB_t (cond_ext h1 h2 h3 h4 h5)]
   ·rw [eqB_f h5, eqB_f (fun h => h5 (by rw [h]))]
  rw [hx]
  obtain ⟨xs, f1, g1, t1⟩ := hv.open
  obtain ⟨ys, f2, g2, t2⟩ := hu.open
  have hlen := hs.len
  subst e1; subst e2
  obtain ⟨ao, ca, k1, l1⟩ := g1.form
  obtain ⟨bo, cb, k2, l2⟩ := g2.form
  injection k1 with k1 k3 k4
  injection k2 with k2 k5 k6
  subst k1 k2 k3 k4 k5 k6
  have h := same_cond_ref_yes c d xs ys a1 a2 c1 c2 _ _ w rfl rfl h1 h2 h3 h4 l1 l2 (fun p hp => (t1 p hp).slice) (fun p hp => (t2 p hp).slice) (by rw [f1, List.length_map] at hlen; exact hlen) (fun p hp q hq y hy => by
   have hm : p.1 ∈ c.l := by rw [f1]; exact List.mem_map.2 ⟨p, hp, rfl⟩
   have hm2 : p.1 ∈ l := by rw [← hc] at hm; exact hm
   exact ih p.1 hm2 (hs.sub hm) q.1 y p.2 q.2 ((t1 p hp).keep hy) ((t2 q hq).keep hy))
  rw [← f1, ← f2] at h
  exact h
 ·rw [eqB_f (fun h => hall (by rw [h]; exact ⟨rfl, rfl, rfl, rfl⟩))]
  subst e1; subst e2
  exact same_cond_ref_no c d a1 m1 c1 a2 m2 c2 w (fun h1 h2 h3 h4 => hall ⟨h1, h2, h3, h4⟩)
theorem same_rule_any (p q : RV) (w : World) (hp : p.Tree w) (hq : q.Tree w) (hf : Fit p.r) : Calls Tryz.prog 50 #[rA p, rA q] w (SameIs (eqB p.r q.r) w) := by
 obtain ⟨p, va, vb⟩ := p
 obtain ⟨q, ua, ub⟩ := q
 obtain ⟨⟨a1, m1, c1, e1⟩, a2, m2, c2, e2⟩ := RV.slices hp
 obtain ⟨⟨a3, m3, c3, e3⟩, a4, m4, c4, e4⟩ := RV.slices hq
 simp only at e1 e2 e3 e4
 subst e1 e2 e3 e4
 exact same_rule_ref p q a1 m1 c1 a2 m2 c2 a3 m3 c3 a4 m4 c4 w (fun u hu => same_cond_ref p.a hf.2.1 q.a u _ _ (hp.1.keep hu) (hq.1.keep hu)) (fun u hu => same_cond_ref p.b hf.2.2.1 q.b u _ _ (hp.2.keep hu) (hq.2.keep hu))
set_option maxHeartbeats 4000000 in
set_option maxRecDepth 100000 in
theorem same_ref_walk (p q : Ru.Rule) (a1 : Option Addr) (m1 c1 : Nat) (a2 : Option Addr) (m2 c2 : Nat) (a3 : Option Addr) (m3 c3 : Nat) (a4 : Option Addr) (m4 c4 : Nat) (w : World) (x : Bool)
  (hA : ∀ u, Kp w u none → Calls Tryz.prog 50 #[.agg #[str p.name, .int .i64 p.prio, .int .i64 p.what, .int .i64 p.a.op, str p.a.text, .int .i64 p.a.n, .int .i64 p.a.box.x0, .int .i64 p.a.box.y0, .int .i64 p.a.box.x1, .int .i64 p.a.box.y1, .slice a1 m1 c1, .int .i64 p.b.op, str p.b.text, .int .i64 p.b.n, .int .i64 p.b.box.x0, .int .i64 p.b.box.y0, .int .i64 p.b.box.x1, .int .i64 p.b.box.y1, .slice a2 m2 c2, .int .i64 p.value], .agg #[str q.name, .int .i64 q.prio, .int .i64 q.what, .int .i64 q.a.op, str q.a.text, .int .i64 q.a.n, .int .i64 q.a.box.x0, .int .i64 q.a.box.y0, .int .i64 q.a.box.x1, .int .i64 q.a.box.y1, .slice a3 m3 c3, .int .i64 q.b.op, str q.b.text, .int .i64 q.b.n, .int .i64 q.b.box.x0, .int .i64 q.b.box.y0, .int .i64 q.b.box.x1, .int .i64 q.b.box.y1, .slice a4 m4 c4, .int .i64 q.value]] u (SameIs x u)) : Calls Tryz.prog 18 #[.agg #[str p.name, .int .i64 p.prio, .int .i64 p.what, .int .i64 p.a.op, str p.a.text, .int .i64 p.a.n, .int .i64 p.a.box.x0, .int .i64 p.a.box.y0, .int .i64 p.a.box.x1, .int .i64 p.a.box.y1, .slice a1 m1 c1, .int .i64 p.b.op, str p.b.text, .int .i64 p.b.n, .int .i64 p.b.box.x0, .int .i64 p.b.box.y0, .int .i64 p.b.box.x1, .int .i64 p.b.box.y1, .slice a2 m2 c2, .int .i64 p.value], .agg #[str q.name, .int .i64 q.prio, .int .i64 q.what, .int .i64 q.a.op, str q.a.text, .int .i64 q.a.n, .int .i64 q.a.box.x0, .int .i64 q.a.box.y0, .int .i64 q.a.box.x1, .int .i64 q.a.box.y1, .slice a3 m3 c3, .int .i64 q.b.op, str q.b.text, .int .i64 q.b.n, .int .i64 q.b.box.x0, .int .i64 q.b.box.y0, .int .i64 q.b.box.x1, .int .i64 q.b.box.y1, .slice a4 m4 c4, .int .i64 q.value]] w (SameIs x w) := by
 have k0 : Kp w ((w.alloc (.cells #[str p.name, .int .i64 p.prio, .int .i64 p.what, .int .i64 p.a.op, str p.a.text, .int .i64 p.a.n, .int .i64 p.a.box.x0, .int .i64 p.a.box.y0, .int .i64 p.a.box.x1, .int .i64 p.a.box.y1, .slice a1 m1 c1, .int .i64 p.b.op, str p.b.text, .int .i64 p.b.n, .int .i64 p.b.box.x0, .int .i64 p.b.box.y0, .int .i64 p.b.box.x1, .int .i64 p.b.box.y1, .slice a2 m2 c2, .int .i64 p.value] 42)).alloc (.cells #[str q.name, .int .i64 q.prio, .int .i64 q.what, .int .i64 q.a.op, str q.a.text, .int .i64 q.a.n, .int .i64 q.a.box.x0, .int .i64 q.a.box.y0, .int .i64 q.a.box.x1, .int .i64 q.a.box.y1, .slice a3 m3 c3, .int .i64 q.b.op, str q.b.text, .int .i64 q.b.n, .int .i64 q.b.box.x0, .int .i64 q.b.box.y0, .int .i64 q.b.box.x1, .int .i64 q.b.box.y1, .slice a4 m4 c4, .int .i64 q.value] 42)) none := ((Kp.refl _ _).alloc _).alloc _
 have HK := Lib.hid k0
 have hA := hA _ k0
 have R1 : Hid (((w.alloc (.cells #[str p.name, .int .i64 p.prio, .int .i64 p.what, .int .i64 p.a.op, str p.a.text, .int .i64 p.a.n, .int .i64 p.a.box.x0, .int .i64 p.a.box.y0, .int .i64 p.a.box.x1, .int .i64 p.a.box.y1, .slice a1 m1 c1, .int .i64 p.b.op, str p.b.text, .int .i64 p.b.n, .int .i64 p.b.box.x0, .int .i64 p.b.box.y0, .int .i64 p.b.box.x1, .int .i64 p.b.box.y1, .slice a2 m2 c2, .int .i64 p.value] 42)).alloc (.cells #[str q.name, .int .i64 q.prio, .int .i64 q.what, .int .i64 q.a.op, str q.a.text, .int .i64 q.a.n, .int .i64 q.a.box.x0, .int .i64 q.a.box.y0, .int .i64 q.a.box.x1, .int .i64 q.a.box.y1, .slice a3 m3 c3, .int .i64 q.b.op, str q.b.text, .int .i64 q.b.n, .int .i64 q.b.box.x0, .int .i64 q.b.box.y0, .int .i64 q.b.box.x1, .int .i64 q.b.box.y1, .slice a4 m4 c4, .int .i64 q.value] 42)).rangeAt w.heap.size 0 #[str p.name, .int .i64 p.prio, .int .i64 p.what, .int .i64 p.a.op, str p.a.text, .int .i64 p.a.n, .int .i64 p.a.box.x0, .int .i64 p.a.box.y0, .int .i64 p.a.box.x1, .int .i64 p.a.box.y1, .slice a1 m1 c1, .int .i64 p.b.op, str p.b.text, .int .i64 p.b.n, .int .i64 p.b.box.x0, .int .i64 p.b.box.y0, .int .i64 p.b.box.x1, .int .i64 p.b.box.y1, .slice a2 m2 c2, .int .i64 p.value].toList) := Lib.hid (range_blk (res_kept (heap_alloc_new w _) ((Kp.refl _ none).alloc _) (by simp)))
 have R2 : Hid (((w.alloc (.cells #[str p.name, .int .i64 p.prio, .int .i64 p.what, .int .i64 p.a.op, str p.a.text, .int .i64 p.a.n, .int .i64 p.a.box.x0, .int .i64 p.a.box.y0, .int .i64 p.a.box.x1, .int .i64 p.a.box.y1, .slice a1 m1 c1, .int .i64 p.b.op, str p.b.text, .int .i64 p.b.n, .int .i64 p.b.box.x0, .int .i64 p.b.box.y0, .int .i64 p.b.box.x1, .int .i64 p.b.box.y1, .slice a2 m2 c2, .int .i64 p.value] 42)).alloc (.cells #[str q.name, .int .i64 q.prio, .int .i64 q.what, .int .i64 q.a.op, str q.a.text, .int .i64 q.a.n, .int .i64 q.a.box.x0, .int .i64 q.a.box.y0, .int .i64 q.a.box.x1, .int .i64 q.a.box.y1, .slice a3 m3 c3, .int .i64 q.b.op, str q.b.text, .int .i64 q.b.n, .int .i64 q.b.box.x0, .int .i64 q.b.box.y0, .int .i64 q.b.box.x1, .int .i64 q.b.box.y1, .slice a4 m4 c4, .int .i64 q.value] 42)).rangeAt (w.heap.size + 1) 0 #[str q.name, .int .i64 q.prio, .int .i64 q.what, .int .i64 q.a.op, str q.a.text, .int .i64 q.a.n, .int .i64 q.a.box.x0, .int .i64 q.a.box.y0, .int .i64 q.a.box.x1, .int .i64 q.a.box.y1, .slice a3 m3 c3, .int .i64 q.b.op, str q.b.text, .int .i64 q.b.n, .int .i64 q.b.box.x0, .int .i64 q.b.box.y0, .int .i64 q.b.box.x1, .int .i64 q.b.box.y1, .slice a4 m4 c4, .int .i64 q.value].toList) := Lib.hid (range_blk (heap_alloc2_new w _ _))
 clear k0
 go_enter Tryz.func18, Tryz.ntmps18
 go_wp2_with (first | (refine wpList_load_mid (by rfl) 42 _ (by rfl) w.heap.size 0 (by rfl) #[str p.name, .int .i64 p.prio, .int .i64 p.what, .int .i64 p.a.op, str p.a.text, .int .i64 p.a.n, .int .i64 p.a.box.x0, .int .i64 p.a.box.y0, .int .i64 p.a.box.x1, .int .i64 p.a.box.y1, .slice a1 m1 c1, .int .i64 p.b.op, str p.b.text, .int .i64 p.b.n, .int .i64 p.b.box.x0, .int .i64 p.b.box.y0, .int .i64 p.b.box.x1, .int .i64 p.b.box.y1, .slice a2 m2 c2, .int .i64 p.value].toList _ R1.out Tryz.underlying42 (by rfl) info42 ?_) | (refine wpList_load_mid (by rfl) 42 _ (by rfl) (w.heap.size + 1) 0 (by rfl) #[str q.name, .int .i64 q.prio, .int .i64 q.what, .int .i64 q.a.op, str q.a.text, .int .i64 q.a.n, .int .i64 q.a.box.x0, .int .i64 q.a.box.y0, .int .i64 q.a.box.x1, .int .i64 q.a.box.y1, .slice a3 m3 c3, .int .i64 q.b.op, str q.b.text, .int .i64 q.b.n, .int .i64 q.b.box.x0, .int .i64 q.b.box.y0, .int .i64 q.b.box.x1, .int .i64 q.b.box.y1, .slice a4 m4 c4, .int .i64 q.value].toList _ R2.out Tryz.underlying42 (by rfl) info42 ?_) | (go_at_call 50; refine hA.mono ?_; clear hA; rintro e w2 ⟨rfl, hk2⟩))
 go_ret
 exact ⟨rfl, HK.out.trans hk2⟩
/-- The reference's Same. -/
theorem same_ref_any (p q : RV) (w : World) (hp : p.Tree w) (hq : q.Tree w) (hf : Fit p.r) : Calls Tryz.prog 18 #[rA p, rA q] w (SameIs (eqB p.r q.r) w) := by
 have h := fun u (hu : Kp w u none) => same_rule_any p q u (hp.keep hu) (hq.keep hu) hf
 obtain ⟨p, va, vb⟩ := p
 obtain ⟨q, ua, ub⟩ := q
 obtain ⟨⟨a1, m1, c1, e1⟩, a2, m2, c2, e2⟩ := RV.slices hp
 obtain ⟨⟨a3, m3, c3, e3⟩, a4, m4, c4, e4⟩ := RV.slices hq
 simp only at e1 e2 e3 e4
 subst e1 e2 e3 e4
 exact same_ref_walk p q a1 m1 c1 a2 m2 c2 a3 m3 c3 a4 m4 c4 w _ h
end Go.Proofs.YtnchipahdfbliaaGreatDoor
