/- Whether two lists of rules are equal, by the reference. Conditions: what a machine holds. -/
import Derived.Test.YtnchipahdfbliaaGreatDoorSc
namespace Go.Proofs.YtnchipahdfbliaaGreatDoor
open Go.RowKit

theorem take_rule_eq {xs ys : List RV} {k : Nat} (h : (xs.take k).map (·.r) = (ys.take k).map (·.r)) (h1 : k < xs.length) (h2 : k < ys.length) (e : xs[k].r = ys[k].r) : (xs.take (k + 1)).map (·.r) = (ys.take (k + 1)).map (·.r) := by
 rw [List.take_succ_eq_append_getElem h1, List.take_succ_eq_append_getElem h2, List.map_append, List.map_append, h]; simp [e]
set_option maxHeartbeats 4000000 in
set_option maxRecDepth 100000 in
theorem same_all_any (xs ys : List RV) (ao bo : Option Addr) (ca cb n m : Nat) (w : World) (hn : xs.length = n) (hm : ys.length = m) (hx : LiesAt 20 rC w ao ca xs) (hy : LiesAt 20 rC w bo cb ys) (hxs : ∀ p ∈ xs, p.Tree w) (hys : ∀ p ∈ ys, p.Tree w) (hf : ∀ p ∈ xs, Fit p.r) (hl : n ≤ 1000000000000) :
  Calls Tryz.prog 21 #[.slice ao n ca, .slice bo m cb] w (SameIs (eqB (xs.map (·.r)) (ys.map (·.r))) w) := by
 have HX := Lib.hid hx; have HY := Lib.hid hy; have HXS := Lib.hid hxs; have HYS := Lib.hid hys; have HF := Lib.hid hf; have HN := Lib.hid hn; have HM := Lib.hid hm
 clear hx hy hxs hys hf hn hm
 by_cases hnm : n = m
 case neg =>
  have hb : ((n : Int) != (m : Int)) = true := by simp [bne]; omega
  have hr : Hid (eqB (xs.map (·.r)) (ys.map (·.r)) = false) := Lib.hid (eqB_f (fun h => hnm (by have := congrArg List.length h; rw [List.length_map, List.length_map, HN.out, HM.out] at this; exact this)))
  clear hnm
  go_enter Tryz.func21, Tryz.ntmps21
  go_wp2_with fail
  go_ret
  exact ⟨by rw [hr.out]; rfl, Kp.refl _ _⟩
 subst hnm
 have hb : ((n : Int) != (n : Int)) = false := by simp
 obtain ⟨res, hres⟩ : ∃ x, eqB (xs.map (·.r)) (ys.map (·.r)) = x := ⟨_, rfl⟩
 rw [hres]
 have HRES := Lib.hid hres
 have hn0 : (0 : Int) ≤ (n : Int) := by omega
 clear hres
 go_enter Tryz.func21, Tryz.ntmps21
 go_wp2_with fail
 go_loopw [5] (fun i wr => ∃ k : Nat, k ≤ n ∧ i = .int .i64 (k : Int) ∧ Hid ((xs.take k).map (·.r) = (ys.take k).map (·.r)) ∧ Hid (Kp w wr none)) (fun i _ => n - (intOf i).toNat)
 case atStart => exact ⟨0, Nat.zero_le _, rfl, Lib.hid rfl, Lib.hid (Kp.refl _ _)⟩
 case round =>
  obtain ⟨k, hk, rfl, HT, HK⟩ := hrel
  have hk0 : (0 : Int) ≤ (k : Int) := by omega
  by_cases hlt : k < n
  ·have hk1 : (k : Int) < (n : Int) := by omega
   have h1 : k < xs.length := by rw [HN.out]; exact hlt
   have h2 : k < ys.length := by rw [HM.out]; exact hlt
   obtain ⟨s, hp⟩ : ∃ p, xs[k] = p := ⟨_, rfl⟩
   obtain ⟨t, hq⟩ : ∃ p, ys[k] = p := ⟨_, rfl⟩
   have mp : s ∈ xs := by rw [← hp]; exact List.getElem_mem h1
   have mq : t ∈ ys := by rw [← hq]; exact List.getElem_mem h2
   obtain ⟨⟨a1, m1, c1, hv1⟩, a2, m2, c2, hv2⟩ := RV.slices (HXS.out s mp)
   obtain ⟨⟨a3, m3, c3, hv3⟩, a4, m4, c4, hv4⟩ := RV.slices (HYS.out t mq)
   obtain ⟨b1, o1, e1, hb1, hr1⟩ := (HX.out).range k h1 hp
   obtain ⟨b2, o2, e2, hb2, hr2⟩ := (HY.out).range k h2 hq
   have hXE : rC s = #[str s.r.name, .int .i64 s.r.prio, .int .i64 s.r.what, .int .i64 s.r.a.op, str s.r.a.text, .int .i64 s.r.a.n, .int .i64 s.r.a.box.x0, .int .i64 s.r.a.box.y0, .int .i64 s.r.a.box.x1, .int .i64 s.r.a.box.y1, .slice a1 m1 c1, .int .i64 s.r.b.op, str s.r.b.text, .int .i64 s.r.b.n, .int .i64 s.r.b.box.x0, .int .i64 s.r.b.box.y0, .int .i64 s.r.b.box.x1, .int .i64 s.r.b.box.y1, .slice a2 m2 c2, .int .i64 s.r.value].toList := by unfold rC cC; rw [hv1, hv2]; rfl
   have hYE : rC t = #[str t.r.name, .int .i64 t.r.prio, .int .i64 t.r.what, .int .i64 t.r.a.op, str t.r.a.text, .int .i64 t.r.a.n, .int .i64 t.r.a.box.x0, .int .i64 t.r.a.box.y0, .int .i64 t.r.a.box.x1, .int .i64 t.r.a.box.y1, .slice a3 m3 c3, .int .i64 t.r.b.op, str t.r.b.text, .int .i64 t.r.b.n, .int .i64 t.r.b.box.x0, .int .i64 t.r.b.box.y0, .int .i64 t.r.b.box.x1, .int .i64 t.r.b.box.y1, .slice a4 m4 c4, .int .i64 t.r.value].toList := by unfold rC cC; rw [hv3, hv4]; rfl
   rw [hXE] at hr1
   rw [hYE] at hr2
   subst e1; subst e2
   have HS : Hid (∀ V, Kp w V none → V.rangeAt b1 (o1 + k * 20) #[str s.r.name, .int .i64 s.r.prio, .int .i64 s.r.what, .int .i64 s.r.a.op, str s.r.a.text, .int .i64 s.r.a.n, .int .i64 s.r.a.box.x0, .int .i64 s.r.a.box.y0, .int .i64 s.r.a.box.x1, .int .i64 s.r.a.box.y1, .slice a1 m1 c1, .int .i64 s.r.b.op, str s.r.b.text, .int .i64 s.r.b.n, .int .i64 s.r.b.box.x0, .int .i64 s.r.b.box.y0, .int .i64 s.r.b.box.x1, .int .i64 s.r.b.box.y1, .slice a2 m2 c2, .int .i64 s.r.value].toList ∧ V.rangeAt b2 (o2 + k * 20) #[str t.r.name, .int .i64 t.r.prio, .int .i64 t.r.what, .int .i64 t.r.a.op, str t.r.a.text, .int .i64 t.r.a.n, .int .i64 t.r.a.box.x0, .int .i64 t.r.a.box.y0, .int .i64 t.r.a.box.x1, .int .i64 t.r.a.box.y1, .slice a3 m3 c3, .int .i64 t.r.b.op, str t.r.b.text, .int .i64 t.r.b.n, .int .i64 t.r.b.box.x0, .int .i64 t.r.b.box.y0, .int .i64 t.r.b.box.x1, .int .i64 t.r.b.box.y1, .slice a4 m4 c4, .int .i64 t.r.value].toList ∧ Hid (Kp w V none)) := Lib.hid fun V hV => ⟨fun j v hv => by rw [hV.below.cell (p := ⟨b1, o1 + k * 20 + j, none⟩) hb1]; exact hr1 j v hv, fun j v hv => by rw [hV.below.cell (p := ⟨b2, o2 + k * 20 + j, none⟩) hb2]; exact hr2 j v hv, Lib.hid hV⟩
   have cI : ∀ V, Kp w V none → Calls Tryz.prog 18 #[.agg #[str s.r.name, .int .i64 s.r.prio, .int .i64 s.r.what, .int .i64 s.r.a.op, str s.r.a.text, .int .i64 s.r.a.n, .int .i64 s.r.a.box.x0, .int .i64 s.r.a.box.y0, .int .i64 s.r.a.box.x1, .int .i64 s.r.a.box.y1, .slice a1 m1 c1, .int .i64 s.r.b.op, str s.r.b.text, .int .i64 s.r.b.n, .int .i64 s.r.b.box.x0, .int .i64 s.r.b.box.y0, .int .i64 s.r.b.box.x1, .int .i64 s.r.b.box.y1, .slice a2 m2 c2, .int .i64 s.r.value], .agg #[str t.r.name, .int .i64 t.r.prio, .int .i64 t.r.what, .int .i64 t.r.a.op, str t.r.a.text, .int .i64 t.r.a.n, .int .i64 t.r.a.box.x0, .int .i64 t.r.a.box.y0, .int .i64 t.r.a.box.x1, .int .i64 t.r.a.box.y1, .slice a3 m3 c3, .int .i64 t.r.b.op, str t.r.b.text, .int .i64 t.r.b.n, .int .i64 t.r.b.box.x0, .int .i64 t.r.b.box.y0, .int .i64 t.r.b.box.x1, .int .i64 t.r.b.box.y1, .slice a4 m4 c4, .int .i64 t.r.value]] V (SameIs (eqB s.r t.r) V) := fun V hV => by
    have h := same_ref_any s t V ((HXS.out s mp).keep hV) ((HYS.out t mq).keep hV) (HF.out s mp)
    have ex : rA s = .agg #[str s.r.name, .int .i64 s.r.prio, .int .i64 s.r.what, .int .i64 s.r.a.op, str s.r.a.text, .int .i64 s.r.a.n, .int .i64 s.r.a.box.x0, .int .i64 s.r.a.box.y0, .int .i64 s.r.a.box.x1, .int .i64 s.r.a.box.y1, .slice a1 m1 c1, .int .i64 s.r.b.op, str s.r.b.text, .int .i64 s.r.b.n, .int .i64 s.r.b.box.x0, .int .i64 s.r.b.box.y0, .int .i64 s.r.b.box.x1, .int .i64 s.r.b.box.y1, .slice a2 m2 c2, .int .i64 s.r.value] := by unfold rA; rw [hXE]
    have ey : rA t = .agg #[str t.r.name, .int .i64 t.r.prio, .int .i64 t.r.what, .int .i64 t.r.a.op, str t.r.a.text, .int .i64 t.r.a.n, .int .i64 t.r.a.box.x0, .int .i64 t.r.a.box.y0, .int .i64 t.r.a.box.x1, .int .i64 t.r.a.box.y1, .slice a3 m3 c3, .int .i64 t.r.b.op, str t.r.b.text, .int .i64 t.r.b.n, .int .i64 t.r.b.box.x0, .int .i64 t.r.b.box.y0, .int .i64 t.r.b.box.x1, .int .i64 t.r.b.box.y1, .slice a4 m4 c4, .int .i64 t.r.value] := by unfold rA; rw [hYE]
    rw [ex, ey] at h
    exact h
   have HP := Lib.hid hp; have HQ := Lib.hid hq
   have H12 : Hid (k < xs.length ∧ k < ys.length) := Lib.hid ⟨h1, h2⟩
   clear hp hq mp mq hv1 hv2 hv3 hv4 hr1 hr2 hXE hYE hb1 hb2
   by_cases e : s.r = t.r
   ·rw [eqB_t e] at cI
    have HTN : Hid ((xs.take (k + 1)).map (·.r) = (ys.take (k + 1)).map (·.r)) := Lib.hid (take_rule_eq HT.out H12.out.1 H12.out.2 (by rw [HP.out, HQ.out]; exact e))
    clear e
    go_upto_region 6 with fail
    have kD : Kp w wr.drew none := HK.out.trans ((Kp.refl _ _).drew)
    refine wp_region_held_drew (S := fun V => V.rangeAt b1 (o1 + k * 20) #[str s.r.name, .int .i64 s.r.prio, .int .i64 s.r.what, .int .i64 s.r.a.op, str s.r.a.text, .int .i64 s.r.a.n, .int .i64 s.r.a.box.x0, .int .i64 s.r.a.box.y0, .int .i64 s.r.a.box.x1, .int .i64 s.r.a.box.y1, .slice a1 m1 c1, .int .i64 s.r.b.op, str s.r.b.text, .int .i64 s.r.b.n, .int .i64 s.r.b.box.x0, .int .i64 s.r.b.box.y0, .int .i64 s.r.b.box.x1, .int .i64 s.r.b.box.y1, .slice a2 m2 c2, .int .i64 s.r.value].toList ∧ V.rangeAt b2 (o2 + k * 20) #[str t.r.name, .int .i64 t.r.prio, .int .i64 t.r.what, .int .i64 t.r.a.op, str t.r.a.text, .int .i64 t.r.a.n, .int .i64 t.r.a.box.x0, .int .i64 t.r.a.box.y0, .int .i64 t.r.a.box.x1, .int .i64 t.r.a.box.y1, .slice a3 m3 c3, .int .i64 t.r.b.op, str t.r.b.text, .int .i64 t.r.b.n, .int .i64 t.r.b.box.x0, .int .i64 t.r.b.box.y0, .int .i64 t.r.b.box.x1, .int .i64 t.r.b.box.y1, .slice a4 m4 c4, .int .i64 t.r.value].toList ∧ Hid (Kp w V none)) (by kernel_rfl) (HS.out _ kD) (fun hHeld => ?_)
    clear kD
    generalize wr.drew = V0 at *
    refine tkH 0 rfl ?_
    try simp only [Act.put, sm]
    refine tkH 1 rfl ?_
    try simp only [Act.put, sm]
    refine tkH 2 rfl ?_
    try simp only [Act.put, sm]
    refine wpAnyH_take (i := 3) rfl (by kernel_rfl) (by kernel_rfl) (by kernel_rfl) (fun _ _ _ h => h) (yieldsIf_load_mid (by rfl) _ _ rfl b1 (o1 + k * 20) rfl #[str s.r.name, .int .i64 s.r.prio, .int .i64 s.r.what, .int .i64 s.r.a.op, str s.r.a.text, .int .i64 s.r.a.n, .int .i64 s.r.a.box.x0, .int .i64 s.r.a.box.y0, .int .i64 s.r.a.box.x1, .int .i64 s.r.a.box.y1, .slice a1 m1 c1, .int .i64 s.r.b.op, str s.r.b.text, .int .i64 s.r.b.n, .int .i64 s.r.b.box.x0, .int .i64 s.r.b.box.y0, .int .i64 s.r.b.box.x1, .int .i64 s.r.b.box.y1, .slice a2 m2 c2, .int .i64 s.r.value].toList _ (fun _ h => h.1) Tryz.underlying42 rfl info42) (by assumption) ?_
    try simp only [Act.put, sm]
    refine tkH 4 rfl ?_
    try simp only [Act.put, sm]
    refine tkH 5 rfl ?_
    try simp only [Act.put, sm]
    refine tkH 6 rfl ?_
    try simp only [Act.put, sm]
    refine wpAnyH_take (i := 7) rfl (by kernel_rfl) (by kernel_rfl) (by kernel_rfl) (fun _ _ _ h => h) (yieldsIf_load_mid (by rfl) _ _ rfl b2 (o2 + k * 20) rfl #[str t.r.name, .int .i64 t.r.prio, .int .i64 t.r.what, .int .i64 t.r.a.op, str t.r.a.text, .int .i64 t.r.a.n, .int .i64 t.r.a.box.x0, .int .i64 t.r.a.box.y0, .int .i64 t.r.a.box.x1, .int .i64 t.r.a.box.y1, .slice a3 m3 c3, .int .i64 t.r.b.op, str t.r.b.text, .int .i64 t.r.b.n, .int .i64 t.r.b.box.x0, .int .i64 t.r.b.box.y0, .int .i64 t.r.b.box.x1, .int .i64 t.r.b.box.y1, .slice a4 m4 c4, .int .i64 t.r.value].toList _ (fun _ h => h.2.1) Tryz.underlying42 rfl info42) (by assumption) ?_
    try simp only [Act.put, sm]
    refine wpAnyH_ready (rs := [8]) (by kernel_rfl) (by simp) ?_
    refine AllReadyH.cons (o := _) rfl (fun K hK => ?_) AllReadyH.nil
    have gK := hHeld.2.2
    clear hHeld
    go_simp
    refine (cI _ gK.out).mono ?_
    rintro e w2 ⟨rfl, hk2⟩
    have k2 := gK.out.trans hk2
    try go_wp2_with fail
    refine hK.out _ _ (HS.out _ k2) (fun hHeld => ?_)
    clear hK K gK hk2
    try simp only [Act.put, sm]
    refine tkH 9 rfl ?_
    try simp only [Act.put, sm]
    clear hHeld
    refine wpAnyH_done (by kernel_rfl) ?_ _
    go_wp2_with fail
    go_roundw
    case rel => exact ⟨k + 1, hlt, by go_num, HTN, Lib.hid k2⟩
    case measure => simp [intOf]; omega
   ·rw [eqB_f e] at cI
    have hr : Hid (res = false) := Lib.hid (by
     rw [← HRES.out]
     refine eqB_f (fun h => e ?_)
     have h1 := congrArg (fun l => l[k]?) h
     simp only [List.getElem?_map] at h1
     rw [List.getElem?_eq_getElem H12.out.1, List.getElem?_eq_getElem H12.out.2, HP.out, HQ.out] at h1
     simpa using h1)
    clear e
    go_upto_region 6 with fail
    have kD : Kp w wr.drew none := HK.out.trans ((Kp.refl _ _).drew)
    refine wp_region_held_drew (S := fun V => V.rangeAt b1 (o1 + k * 20) #[str s.r.name, .int .i64 s.r.prio, .int .i64 s.r.what, .int .i64 s.r.a.op, str s.r.a.text, .int .i64 s.r.a.n, .int .i64 s.r.a.box.x0, .int .i64 s.r.a.box.y0, .int .i64 s.r.a.box.x1, .int .i64 s.r.a.box.y1, .slice a1 m1 c1, .int .i64 s.r.b.op, str s.r.b.text, .int .i64 s.r.b.n, .int .i64 s.r.b.box.x0, .int .i64 s.r.b.box.y0, .int .i64 s.r.b.box.x1, .int .i64 s.r.b.box.y1, .slice a2 m2 c2, .int .i64 s.r.value].toList ∧ V.rangeAt b2 (o2 + k * 20) #[str t.r.name, .int .i64 t.r.prio, .int .i64 t.r.what, .int .i64 t.r.a.op, str t.r.a.text, .int .i64 t.r.a.n, .int .i64 t.r.a.box.x0, .int .i64 t.r.a.box.y0, .int .i64 t.r.a.box.x1, .int .i64 t.r.a.box.y1, .slice a3 m3 c3, .int .i64 t.r.b.op, str t.r.b.text, .int .i64 t.r.b.n, .int .i64 t.r.b.box.x0, .int .i64 t.r.b.box.y0, .int .i64 t.r.b.box.x1, .int .i64 t.r.b.box.y1, .slice a4 m4 c4, .int .i64 t.r.value].toList ∧ Hid (Kp w V none)) (by kernel_rfl) (HS.out _ kD) (fun hHeld => ?_)
    clear kD
    generalize wr.drew = V0 at *
    refine tkH 0 rfl ?_
    try simp only [Act.put, sm]
    refine tkH 1 rfl ?_
    try simp only [Act.put, sm]
    refine tkH 2 rfl ?_
    try simp only [Act.put, sm]
    refine wpAnyH_take (i := 3) rfl (by kernel_rfl) (by kernel_rfl) (by kernel_rfl) (fun _ _ _ h => h) (yieldsIf_load_mid (by rfl) _ _ rfl b1 (o1 + k * 20) rfl #[str s.r.name, .int .i64 s.r.prio, .int .i64 s.r.what, .int .i64 s.r.a.op, str s.r.a.text, .int .i64 s.r.a.n, .int .i64 s.r.a.box.x0, .int .i64 s.r.a.box.y0, .int .i64 s.r.a.box.x1, .int .i64 s.r.a.box.y1, .slice a1 m1 c1, .int .i64 s.r.b.op, str s.r.b.text, .int .i64 s.r.b.n, .int .i64 s.r.b.box.x0, .int .i64 s.r.b.box.y0, .int .i64 s.r.b.box.x1, .int .i64 s.r.b.box.y1, .slice a2 m2 c2, .int .i64 s.r.value].toList _ (fun _ h => h.1) Tryz.underlying42 rfl info42) (by assumption) ?_
    try simp only [Act.put, sm]
    refine tkH 4 rfl ?_
    try simp only [Act.put, sm]
    refine tkH 5 rfl ?_
    try simp only [Act.put, sm]
    refine tkH 6 rfl ?_
    try simp only [Act.put, sm]
    refine wpAnyH_take (i := 7) rfl (by kernel_rfl) (by kernel_rfl) (by kernel_rfl) (fun _ _ _ h => h) (yieldsIf_load_mid (by rfl) _ _ rfl b2 (o2 + k * 20) rfl #[str t.r.name, .int .i64 t.r.prio, .int .i64 t.r.what, .int .i64 t.r.a.op, str t.r.a.text, .int .i64 t.r.a.n, .int .i64 t.r.a.box.x0, .int .i64 t.r.a.box.y0, .int .i64 t.r.a.box.x1, .int .i64 t.r.a.box.y1, .slice a3 m3 c3, .int .i64 t.r.b.op, str t.r.b.text, .int .i64 t.r.b.n, .int .i64 t.r.b.box.x0, .int .i64 t.r.b.box.y0, .int .i64 t.r.b.box.x1, .int .i64 t.r.b.box.y1, .slice a4 m4 c4, .int .i64 t.r.value].toList _ (fun _ h => h.2.1) Tryz.underlying42 rfl info42) (by assumption) ?_
    try simp only [Act.put, sm]
    refine wpAnyH_ready (rs := [8]) (by kernel_rfl) (by simp) ?_
    refine AllReadyH.cons (o := _) rfl (fun K hK => ?_) AllReadyH.nil
    have gK := hHeld.2.2
    clear hHeld
    go_simp
    refine (cI _ gK.out).mono ?_
    rintro e w2 ⟨rfl, hk2⟩
    have k2 := gK.out.trans hk2
    try go_wp2_with fail
    refine hK.out _ _ (HS.out _ k2) (fun hHeld => ?_)
    clear hK K gK hk2
    try simp only [Act.put, sm]
    refine tkH 9 rfl ?_
    try simp only [Act.put, sm]
    clear hHeld
    refine wpAnyH_done (by kernel_rfl) ?_ _
    go_wp2_with fail
    go_ret
    exact ⟨by rw [hr.out]; rfl, k2⟩
  ·obtain rfl : k = n := by omega
   have hr : Hid (res = true) := Lib.hid (by
    rw [← HRES.out]
    refine eqB_t ?_
    have h := HT.out
    rw [List.take_of_length_le (by rw [HN.out]; exact Nat.le_refl _), List.take_of_length_le (by rw [HM.out]; exact Nat.le_refl _)] at h
    exact h)
   go_wp2_with fail
   go_ret
   exact ⟨by rw [hr.out]; rfl, HK.out⟩
end Go.Proofs.YtnchipahdfbliaaGreatDoor
