/- The law RuleChecks, run. Conditions: a list of numbers of a machine's length, six numbers, rules that a machine holds. -/
import Derived.Test.YtnchipahdfbliaaGreatDoorOo
import Derived.Test.YtnchipahdfbliaaGreatDoorSf
import Derived.Test.YtnchipahdfbliaaGreatDoorMd
import Derived.Test.YtnchipahdfbliaaGreatDoorRnu
namespace Go.Proofs.YtnchipahdfbliaaGreatDoor
open Go.RowKit

theorem fitM_fit {M : Nat} (hM : M ≤ 1000) {r : Ru.Rule} (h : FitM M r) : Fit r := ⟨h.1, h.2.1, h.2.2.1, by have := h.2.2.2.1; omega, by have := h.2.2.2.2; omega⟩
theorem good_fitM {r : Ru.Rule} (h : Ru.Good r) : FitM 24 r := by
 obtain ⟨f1, f2, f3, _, _⟩ := good_fit h
 exact ⟨f1, f2, f3, by have := h.sa; omega, by have := h.sb; omega⟩
set_option maxHeartbeats 16000000 in
set_option maxRecDepth 100000 in
theorem checks_any (l : List Int) (n : Nat) (lo : Option Addr) (cap : Nat) (q00 q01 q02 q10 q11 q12 : Int) (ps0 : List RV) (ro : Option Addr) (rcap rn : Nat) (w : World) (he : Env w) (hl : LiesAt 1 intVal w lo cap l) (hn : l.length = n) (hn2 : LenOk n) (hr : LiesAt 20 rC w ro rcap ps0) (hrn : ps0.length = rn) (hrn2 : LenOk rn) (hrt : ∀ p ∈ ps0, p.Tree w) (hrw : ∀ p ∈ ps0, WideR p.r) :
  Calls Tryz.prog 3 #[.slice lo n cap, .agg #[.int .i64 q00, .int .i64 q01, .int .i64 q02, .int .i64 q10, .int .i64 q11, .int .i64 q12], .slice ro rn rcap] w (SameIs true w) := by
 have k0 : Kp w (w.alloc (.cells #[.int .i64 q00, .int .i64 q01, .int .i64 q02, .int .i64 q10, .int .i64 q11, .int .i64 q12] 24)) none := (Kp.refl _ _).alloc _
 have HB0 := Lib.hid (heap_alloc_new w (.cells #[.int .i64 q00, .int .i64 q01, .int .i64 q02, .int .i64 q10, .int .i64 q11, .int .i64 q12] 24))
 have HEw := Lib.hid he
 have HL := Lib.hid (hl.keep k0)
 have HN := Lib.hid hn
 have HR := Lib.hid hr; have HRN := Lib.hid hrn; have HRT := Lib.hid hrt; have HRW := Lib.hid hrw
 have K0 := Lib.hid k0
 have cS := sanity_any _ (he.kp0 k0)
 clear he hl hn k0 hr hrn hrt hrw
 go_enter Tryz.func3, Tryz.ntmps3
 go_wp2_with fail
 obtain ⟨B0, hB0⟩ : ∃ x, w.heap.size = x := ⟨_, rfl⟩
 rw [hB0] at HB0 ⊢
 generalize hW : w.alloc (.cells #[.int .i64 q00, .int .i64 q01, .int .i64 q02, .int .i64 q10, .int .i64 q11, .int .i64 q12] 24) = W0 at *
 clear hW hB0
 refine cS.mono ?_
 clear cS
 rintro e w1 ⟨rfl, k1⟩
 have K1 := Lib.hid k1
 have cM := made_any l n lo cap w1 (HL.out.keep k1) HN.out hn2
 clear k1 HL HN hn2
 go_wp2_with fail
 refine cM.mono ?_
 clear cM
 rintro e w2 ⟨qs, a0, p0, rfl, hl0, ht0, hg0, _, h40, k2⟩
 have K2 := Lib.hid (K1.out.trans k2)
 have cO := odd_any 24 (by omega) (by omega) qs a0 p0 qs.length q00 q01 q02 w2 rfl (by omega) hl0 ht0 (fun q hq => good_fitM (hg0 q hq))
 have H0 : Hid (LiesAt 20 rC w2 a0 p0 qs ∧ (∀ q ∈ qs, q.Tree w2) ∧ (∀ q ∈ qs, Fit q.r)) := Lib.hid ⟨hl0, ht0, fun q hq => good_fit (hg0 q hq)⟩
 obtain ⟨n0, hn0⟩ : ∃ x, qs.length = x := ⟨_, rfl⟩
 rw [hn0] at cO h40 ⊢
 have HN0 := Lib.hid hn0
 have d0 := ckr HB0.out K2.out (by simp) 0 rfl
 have d1 := ckr HB0.out K2.out (by simp) 1 rfl
 have d2 := ckr HB0.out K2.out (by simp) 2 rfl
 clear hl0 ht0 hg0 k2 hn0
 go_wp2_with fail
 refine cO.mono ?_
 clear cO d0 d1 d2
 rintro e w3 ⟨os, a1, p1, rfl, hl1, ht1, hf1, hn1, k3⟩
 have K3 := Lib.hid (K2.out.trans k3)
 have KA := Lib.hid k3
 have cO := odd_any 25 (by omega) (by omega) os a1 p1 os.length q10 q11 q12 w3 rfl (by omega) hl1 ht1 hf1
 have H1 : Hid (LiesAt 20 rC w3 a1 p1 os ∧ (∀ q ∈ os, q.Tree w3) ∧ (∀ q ∈ os, Fit q.r)) := Lib.hid ⟨hl1, ht1, fun q hq => fitM_fit (by omega) (hf1 q hq)⟩
 obtain ⟨n1, hn1'⟩ : ∃ x, os.length = x := ⟨_, rfl⟩
 rw [hn1'] at cO hn1 ⊢
 have HN1 := Lib.hid hn1'
 have d3 := ckr HB0.out K3.out (by simp) 3 rfl
 have d4 := ckr HB0.out K3.out (by simp) 4 rfl
 have d5 := ckr HB0.out K3.out (by simp) 5 rfl
 clear hl1 ht1 hf1 k3 hn1'
 go_wp2_with fail
 refine cO.mono ?_
 clear cO d3 d4 d5
 rintro e w4 ⟨ts, a2, p2, rfl, hl2, ht2, hf2, hn2', k4⟩
 have K4 := Lib.hid (K3.out.trans k4)
 have KB := Lib.hid k4
 have cF := few_any ps0 ro rcap rn w4 HRN.out hrn2 (HR.out.keep (K0.out.trans K4.out)) (fun p hp => (HRT.out p hp).keep (K0.out.trans K4.out)) HRW.out
 have H2 : Hid (LiesAt 20 rC w4 a2 p2 ts ∧ (∀ q ∈ ts, q.Tree w4) ∧ (∀ q ∈ ts, Fit q.r)) := Lib.hid ⟨hl2, ht2, fun q hq => fitM_fit (by omega) (hf2 q hq)⟩
 obtain ⟨n2, hn2''⟩ : ∃ x, ts.length = x := ⟨_, rfl⟩
 rw [hn2''] at hn2' ⊢
 have HN2 := Lib.hid hn2''
 clear hl2 ht2 hf2 k4 hn2'' HR HRN HRT HRW hrn2
 go_wp2_with fail
 refine cF.mono ?_
 clear cF
 rintro e w5 ⟨fs, a3, p3, rfl, hl3, ht3, hf3, hn3, k5⟩
 have K5 := Lib.hid (K4.out.trans k5)
 have KC := Lib.hid k5
 obtain ⟨n3, hn3'⟩ : ∃ x, fs.length = x := ⟨_, rfl⟩
 have H3 : Hid (LiesAt 20 rC w5 a3 p3 fs ∧ (∀ q ∈ fs, q.Tree w5) ∧ (∀ q ∈ fs, Fit q.r)) := Lib.hid ⟨hl3, ht3, hf3⟩
 rw [hn3'] at hn3 ⊢
 have HN3 := Lib.hid hn3'
 clear hl3 ht3 hf3 k5 hn3'
 have HBt := Lib.hid (heap_alloc_new w5 (.cells #[.slice a0 n0 p0, .slice a1 n1 p1, .slice a2 n2 p2, .slice a3 n3 p3] 30))
 have KD : Hid (Kp w5 (w5.alloc (.cells #[.slice a0 n0 p0, .slice a1 n1 p1, .slice a2 n2 p2, .slice a3 n3 p3] 30)) none) := Lib.hid ((Kp.refl _ none).alloc _)
 have HC := Lib.hid ((K0.out.trans K5.out).trans KD.out)
 go_wp2_with fail
 change Code.wp _ _ _ _ (w5.alloc (.cells #[.slice a0 n0 p0, .slice a1 n1 p1, .slice a2 n2 p2, .slice a3 n3 p3] 30))
 generalize w5.alloc (.cells #[.slice a0 n0 p0, .slice a1 n1 p1, .slice a2 n2 p2, .slice a3 n3 p3] 30) = wB at *
 obtain ⟨R, hR⟩ : ∃ x, w5.heap.size = x := ⟨_, rfl⟩
 rw [hR] at HBt ⊢
 clear hR
 have HALL : Hid (∀ i, i < 4 → ∃ (ps : List RV) (ao : Option Addr) (p N : Nat), (#[.slice a0 n0 p0, .slice a1 n1 p1, .slice a2 n2 p2, .slice a3 n3 p3] : Array Value)[i]? = some (.slice ao N p) ∧ ps.length = N ∧ N ≤ 200 ∧ LiesAt 20 rC wB ao p ps ∧ (∀ q ∈ ps, q.Tree wB) ∧ (∀ q ∈ ps, Fit q.r)) := Lib.hid fun i hi => by
  have kp : ∀ {V W : World} {ps : List RV} {ao : Option Addr} {p : Nat}, Kp V W none → (LiesAt 20 rC V ao p ps ∧ (∀ q ∈ ps, q.Tree V) ∧ (∀ q ∈ ps, Fit q.r)) → LiesAt 20 rC W ao p ps ∧ (∀ q ∈ ps, q.Tree W) ∧ (∀ q ∈ ps, Fit q.r) := fun k h => ⟨h.1.keep k, fun q hq => (h.2.1 q hq).keep k, h.2.2⟩
  have h4 : i = 0 ∨ i = 1 ∨ i = 2 ∨ i = 3 := by omega
  rcases h4 with rfl | rfl | rfl | rfl
  ·exact ⟨qs, a0, p0, n0, rfl, HN0.out, by omega, kp (KA.out.trans (KB.out.trans (KC.out.trans KD.out))) H0.out⟩
  ·exact ⟨os, a1, p1, n1, rfl, HN1.out, by omega, kp (KB.out.trans (KC.out.trans KD.out)) H1.out⟩
  ·exact ⟨ts, a2, p2, n2, rfl, HN2.out, by omega, kp (KC.out.trans KD.out) H2.out⟩
  ·exact ⟨fs, a3, p3, n3, rfl, HN3.out, by omega, kp KD.out H3.out⟩
 have HOS : Hid (LiesAt 20 rC wB a1 p1 os ∧ (∀ q ∈ os, q.Tree wB) ∧ (∀ q ∈ os, Fit q.r)) := Lib.hid ⟨H1.out.1.keep (KB.out.trans (KC.out.trans KD.out)), fun q hq => (H1.out.2.1 q hq).keep (KB.out.trans (KC.out.trans KD.out)), H1.out.2.2⟩
 clear H0 H1 H2 H3 KA KB KC KD HN0 HN2 HN3 K1 K2 K3 K4 K5 HB0
 go_loopw [11] (fun i wx => ∃ k : Nat, k ≤ 4 ∧ i = .int .i64 (k : Int) ∧ Hid (Kp wB wx none)) (fun i _ => 4 - (intOf i).toNat)
 case atStart => exact ⟨0, by omega, rfl, Lib.hid (Kp.refl _ _)⟩
 case round =>
  obtain ⟨m, hm, rfl, HM⟩ := hrel
  obtain ⟨wa, hwa⟩ : ∃ x, x = wr := ⟨_, rfl⟩
  subst hwa
  have hm0 : (0 : Int) ≤ (m : Int) := by omega
  by_cases hlt : m < 4
  ·have hm1 : (m : Int) < 4 := by omega
   obtain ⟨ps, ao, p, N, htb, hpN, hN2, hla, htr, hft⟩ := HALL.out m hlt
   have HPN := Lib.hid hpN
   have HPS : Hid (LiesAt 20 rC wB ao p ps ∧ (∀ q ∈ ps, q.Tree wB) ∧ (∀ q ∈ ps, Fit q.r)) := Lib.hid ⟨hla, htr, hft⟩
   have HC13 : Hid (∀ V, Kp wa V none → Calls Tryz.prog 13 #[.slice ao N p] V fun e w' => e = .returned (.int .i64 (Ru.check (ps.map (·.r)))) ∧ Kp V w' none) := Lib.hid fun V hV => by
    have h := check_any ps ao p V (HEw.out.kp0 (HC.out.trans (HM.out.trans hV))) (hla.keep (HM.out.trans hV)) (fun q hq => (htr q hq).keep (HM.out.trans hV)) hft
    rw [hpN] at h; exact h
   have HC14 : Hid (∀ V, Kp wa V none → Calls Tryz.prog 14 #[.slice ao N p] V fun e w' => e = .returned (.int .i64 (Ru.check (ps.map (·.r)))) ∧ Kp V w' none) := Lib.hid fun V hV => checkR_any ps ao p N V hpN (hla.keep (HM.out.trans hV)) (fun q hq => (htr q hq).keep (HM.out.trans hV)) hft
   have HC15 : Hid (∀ V, Kp wa V none → Calls Tryz.prog 15 #[.slice ao N p] V fun e w' => e = .returned (.tuple #[str (Ru.text (ps.map (·.r))).1, .int .i64 (Ru.text (ps.map (·.r))).2]) ∧ Kp V w' none) := Lib.hid fun V hV => by
    have h := text_any ps ao p V (HEw.out.kp0 (HC.out.trans (HM.out.trans hV))) (hla.keep (HM.out.trans hV)) (fun q hq => (htr q hq).keep (HM.out.trans hV)) hft
    rw [hpN] at h; exact h
   have HC16 : Hid (∀ V, Kp wa V none → Calls Tryz.prog 16 #[.slice ao N p] V fun e w' => e = .returned (.tuple #[str (Ru.text (ps.map (·.r))).1, .int .i64 (Ru.text (ps.map (·.r))).2]) ∧ Kp V w' none) := Lib.hid fun V hV => by
    have h := textR_any ps ao p V (hla.keep (HM.out.trans hV)) (fun q hq => (htr q hq).keep (HM.out.trans hV)) hft
    rw [hpN] at h; exact h
   obtain ⟨ck, hck⟩ : ∃ x, Ru.check (ps.map (·.r)) = x := ⟨_, rfl⟩
   obtain ⟨T, hT⟩ : ∃ x, (Ru.text (ps.map (·.r))).1 = x := ⟨_, rfl⟩
   obtain ⟨te, hte⟩ : ∃ x, (Ru.text (ps.map (·.r))).2 = x := ⟨_, rfl⟩
   rw [hck] at HC13 HC14
   rw [hT, hte] at HC15 HC16
   have HS : Hid (∀ V, Kp wa V none → V.cell? ⟨R, m, none⟩ = some (.slice ao N p) ∧ Hid (Kp wa V none)) := Lib.hid fun V hV => ⟨ckr HBt.out (HM.out.trans hV) (by simp) m htb, Lib.hid hV⟩
   have hcc : (ck == ck) = true := by simp
   have hee : (te == te) = true := by simp
   have hwm : IntKind.i64.wrap (m : Int) = (m : Int) := by rw [IntKind.wrap_i64]; omega
   clear htb hpN hla htr hft hck hT hte
   go_upto_region 8 with fail
   refine wp_region_held_drew (S := fun V => V.cell? ⟨R, m, none⟩ = some (.slice ao N p) ∧ Hid (Kp wa V none)) (by kernel_rfl) (HS.out _ (Kp.refl _ none).drew) (fun hHeld => ?_)
   refine tkH 0 rfl ?_
   try simp only [Act.put, sm]
   refine tkH 4 rfl ?_
   try simp only [Act.put, sm]
   refine tkH 1 rfl ?_
   try simp only [Act.put, sm]
   refine tkH 5 rfl ?_
   try simp only [Act.put, sm]
   refine tkH 2 rfl ?_
   try simp only [Act.put, sm]
   refine tkH 6 rfl ?_
   try simp only [Act.put, sm]
   refine wpAnyH_ready (rs := [3]) (by kernel_rfl) (by simp) ?_
   refine AllReadyH.cons (o := _) rfl (fun K hK => ?_) AllReadyH.nil
   have gK := hHeld.2
   clear hHeld
   go_simp
   refine (HC13.out _ gK.out).mono ?_
   rintro e V1 ⟨rfl, kk⟩
   try go_wp2_with fail
   refine hK.out _ _ (HS.out _ (gK.out.trans kk)) (fun hHeld => ?_)
   clear hK K gK kk
   try simp only [Act.put, sm]
   refine wpAnyH_ready (rs := [7]) (by kernel_rfl) (by simp) ?_
   refine AllReadyH.cons (o := _) rfl (fun K hK => ?_) AllReadyH.nil
   have gK := hHeld.2
   clear hHeld
   go_simp
   refine (HC14.out _ gK.out).mono ?_
   rintro e V2 ⟨rfl, kk⟩
   try go_wp2_with fail
   refine hK.out _ _ (HS.out _ (gK.out.trans kk)) (fun hHeld => ?_)
   clear hK K gK kk
   try simp only [Act.put, sm]
   refine wpAnyH_ready (rs := [8]) (by kernel_rfl) (by simp) ?_
   refine AllReadyH.cons (o := _) rfl (fun K hK => ?_) AllReadyH.nil
   have gK := hHeld.2
   clear hHeld
   go_simp
   try go_wp2_with fail
   refine hK.out _ _ (HS.out _ gK.out) (fun _ => ?_)
   have KZ := Lib.hid gK.out
   clear hK K gK
   try simp only [Act.put, sm]
   refine wpAnyH_done (by kernel_rfl) ?_ _
   clear hwm
   have c8 := (HS.out _ KZ.out).1
   go_wp2_with (first | (go_at_call 15; refine (HC15.out _ KZ.out).mono ?_; rintro e w8 ⟨rfl, k8⟩; have K8 := Lib.hid (KZ.out.trans k8); clear k8; have c9 := (HS.out _ K8.out).1) | (go_at_call 16; refine (HC16.out _ K8.out).mono ?_; rintro e w9 ⟨rfl, k9⟩; have K9 := Lib.hid (K8.out.trans k9); clear k9))
   clear c8 c9 hcc hee
   go_loopw [16] (fun i wx => ∃ j : Nat, j ≤ N ∧ i = .int .i64 (j : Int) ∧ Hid (Kp w9 wx none)) (fun i _ => N - (intOf i).toNat)
   case atStart => exact ⟨0, by omega, rfl, Lib.hid (Kp.refl _ _)⟩
   case round =>
    obtain ⟨j, hj, rfl, HJ⟩ := hrel
    have hj0 : (0 : Int) ≤ (j : Int) := by omega
    have KJ := Lib.hid (K9.out.trans HJ.out)
    have cT := (HS.out _ KJ.out).1
    by_cases hlt2 : j < N ∧ j < n1
    ·have h1 : (j : Int) < (N : Int) := by omega
     have h2 : (j : Int) < (n1 : Int) := by omega
     have hjp : j < ps.length := by rw [HPN.out]; exact hlt2.1
     have hjo : j < os.length := by rw [HN1.out]; exact hlt2.2
     obtain ⟨x, hx⟩ : ∃ z, ps[j] = z := ⟨_, rfl⟩
     obtain ⟨y, hy⟩ : ∃ z, os[j] = z := ⟨_, rfl⟩
     have hmx : x ∈ ps := by rw [← hx]; exact List.getElem_mem hjp
     have hmy : y ∈ os := by rw [← hy]; exact List.getElem_mem hjo
     have kW := HM.out.trans KJ.out
     have htx := (HPS.out.2.1 x hmx).keep kW
     have hty := (HOS.out.2.1 y hmy).keep kW
     have hfx := HPS.out.2.2 x hmx
     obtain ⟨⟨b1, m1, c1, hx1⟩, b2, m2, c2, hx2⟩ := RV.slices htx
     obtain ⟨⟨b3, m3, c3, hy1⟩, b4, m4, c4, hy2⟩ := RV.slices hty
     obtain ⟨bx, ox, hao, hbx, hrx⟩ := (HPS.out.1.keep kW).range j hjp hx
     obtain ⟨bY, oy, ha1, hby, hry⟩ := (HOS.out.1.keep kW).range j hjo hy
     have hXE : rC x = #[str x.r.name, .int .i64 x.r.prio, .int .i64 x.r.what, .int .i64 x.r.a.op, str x.r.a.text, .int .i64 x.r.a.n, .int .i64 x.r.a.box.x0, .int .i64 x.r.a.box.y0, .int .i64 x.r.a.box.x1, .int .i64 x.r.a.box.y1, .slice b1 m1 c1, .int .i64 x.r.b.op, str x.r.b.text, .int .i64 x.r.b.n, .int .i64 x.r.b.box.x0, .int .i64 x.r.b.box.y0, .int .i64 x.r.b.box.x1, .int .i64 x.r.b.box.y1, .slice b2 m2 c2, .int .i64 x.r.value].toList := by unfold rC cC; rw [hx1, hx2]; rfl
     have hYE : rC y = #[str y.r.name, .int .i64 y.r.prio, .int .i64 y.r.what, .int .i64 y.r.a.op, str y.r.a.text, .int .i64 y.r.a.n, .int .i64 y.r.a.box.x0, .int .i64 y.r.a.box.y0, .int .i64 y.r.a.box.x1, .int .i64 y.r.a.box.y1, .slice b3 m3 c3, .int .i64 y.r.b.op, str y.r.b.text, .int .i64 y.r.b.n, .int .i64 y.r.b.box.x0, .int .i64 y.r.b.box.y0, .int .i64 y.r.b.box.x1, .int .i64 y.r.b.box.y1, .slice b4 m4 c4, .int .i64 y.r.value].toList := by unfold rC cC; rw [hy1, hy2]; rfl
     rw [hXE] at hrx
     rw [hYE] at hry
     have hAX : rA x = .agg #[str x.r.name, .int .i64 x.r.prio, .int .i64 x.r.what, .int .i64 x.r.a.op, str x.r.a.text, .int .i64 x.r.a.n, .int .i64 x.r.a.box.x0, .int .i64 x.r.a.box.y0, .int .i64 x.r.a.box.x1, .int .i64 x.r.a.box.y1, .slice b1 m1 c1, .int .i64 x.r.b.op, str x.r.b.text, .int .i64 x.r.b.n, .int .i64 x.r.b.box.x0, .int .i64 x.r.b.box.y0, .int .i64 x.r.b.box.x1, .int .i64 x.r.b.box.y1, .slice b2 m2 c2, .int .i64 x.r.value] := by unfold rA; rw [hXE]
     have hAY : rA y = .agg #[str y.r.name, .int .i64 y.r.prio, .int .i64 y.r.what, .int .i64 y.r.a.op, str y.r.a.text, .int .i64 y.r.a.n, .int .i64 y.r.a.box.x0, .int .i64 y.r.a.box.y0, .int .i64 y.r.a.box.x1, .int .i64 y.r.a.box.y1, .slice b3 m3 c3, .int .i64 y.r.b.op, str y.r.b.text, .int .i64 y.r.b.n, .int .i64 y.r.b.box.x0, .int .i64 y.r.b.box.y0, .int .i64 y.r.b.box.x1, .int .i64 y.r.b.box.y1, .slice b4 m4 c4, .int .i64 y.r.value] := by unfold rA; rw [hYE]
     obtain ⟨bb, hbb⟩ : ∃ z, eqB x.r y.r = z := ⟨_, rfl⟩
     have HC17 : Hid (∀ V, Kp wr V none → Calls Tryz.prog 17 #[.agg #[str x.r.name, .int .i64 x.r.prio, .int .i64 x.r.what, .int .i64 x.r.a.op, str x.r.a.text, .int .i64 x.r.a.n, .int .i64 x.r.a.box.x0, .int .i64 x.r.a.box.y0, .int .i64 x.r.a.box.x1, .int .i64 x.r.a.box.y1, .slice b1 m1 c1, .int .i64 x.r.b.op, str x.r.b.text, .int .i64 x.r.b.n, .int .i64 x.r.b.box.x0, .int .i64 x.r.b.box.y0, .int .i64 x.r.b.box.x1, .int .i64 x.r.b.box.y1, .slice b2 m2 c2, .int .i64 x.r.value], .agg #[str y.r.name, .int .i64 y.r.prio, .int .i64 y.r.what, .int .i64 y.r.a.op, str y.r.a.text, .int .i64 y.r.a.n, .int .i64 y.r.a.box.x0, .int .i64 y.r.a.box.y0, .int .i64 y.r.a.box.x1, .int .i64 y.r.a.box.y1, .slice b3 m3 c3, .int .i64 y.r.b.op, str y.r.b.text, .int .i64 y.r.b.n, .int .i64 y.r.b.box.x0, .int .i64 y.r.b.box.y0, .int .i64 y.r.b.box.x1, .int .i64 y.r.b.box.y1, .slice b4 m4 c4, .int .i64 y.r.value]] V fun e w' => e = .returned (.bool bb) ∧ Kp V w' none) := Lib.hid fun V hV => by
      have h := same_any x y V (htx.keep hV) (hty.keep hV) hfx
      rw [hAX, hAY, hbb] at h; exact h
     have HC18 : Hid (∀ V, Kp wr V none → Calls Tryz.prog 18 #[.agg #[str x.r.name, .int .i64 x.r.prio, .int .i64 x.r.what, .int .i64 x.r.a.op, str x.r.a.text, .int .i64 x.r.a.n, .int .i64 x.r.a.box.x0, .int .i64 x.r.a.box.y0, .int .i64 x.r.a.box.x1, .int .i64 x.r.a.box.y1, .slice b1 m1 c1, .int .i64 x.r.b.op, str x.r.b.text, .int .i64 x.r.b.n, .int .i64 x.r.b.box.x0, .int .i64 x.r.b.box.y0, .int .i64 x.r.b.box.x1, .int .i64 x.r.b.box.y1, .slice b2 m2 c2, .int .i64 x.r.value], .agg #[str y.r.name, .int .i64 y.r.prio, .int .i64 y.r.what, .int .i64 y.r.a.op, str y.r.a.text, .int .i64 y.r.a.n, .int .i64 y.r.a.box.x0, .int .i64 y.r.a.box.y0, .int .i64 y.r.a.box.x1, .int .i64 y.r.a.box.y1, .slice b3 m3 c3, .int .i64 y.r.b.op, str y.r.b.text, .int .i64 y.r.b.n, .int .i64 y.r.b.box.x0, .int .i64 y.r.b.box.y0, .int .i64 y.r.b.box.x1, .int .i64 y.r.b.box.y1, .slice b4 m4 c4, .int .i64 y.r.value]] V fun e w' => e = .returned (.bool bb) ∧ Kp V w' none) := Lib.hid fun V hV => by
      have h := same_ref_any x y V (htx.keep hV) (hty.keep hV) hfx
      rw [hAX, hAY, hbb] at h; exact h
     subst hao
     subst ha1
     have HS2 : Hid (∀ V, Kp wr V none → V.cell? ⟨R, m, none⟩ = some (.slice (some ⟨bx, ox, none⟩) N p) ∧ V.rangeAt bx (ox + j * 20) #[str x.r.name, .int .i64 x.r.prio, .int .i64 x.r.what, .int .i64 x.r.a.op, str x.r.a.text, .int .i64 x.r.a.n, .int .i64 x.r.a.box.x0, .int .i64 x.r.a.box.y0, .int .i64 x.r.a.box.x1, .int .i64 x.r.a.box.y1, .slice b1 m1 c1, .int .i64 x.r.b.op, str x.r.b.text, .int .i64 x.r.b.n, .int .i64 x.r.b.box.x0, .int .i64 x.r.b.box.y0, .int .i64 x.r.b.box.x1, .int .i64 x.r.b.box.y1, .slice b2 m2 c2, .int .i64 x.r.value].toList ∧ V.rangeAt bY (oy + j * 20) #[str y.r.name, .int .i64 y.r.prio, .int .i64 y.r.what, .int .i64 y.r.a.op, str y.r.a.text, .int .i64 y.r.a.n, .int .i64 y.r.a.box.x0, .int .i64 y.r.a.box.y0, .int .i64 y.r.a.box.x1, .int .i64 y.r.a.box.y1, .slice b3 m3 c3, .int .i64 y.r.b.op, str y.r.b.text, .int .i64 y.r.b.n, .int .i64 y.r.b.box.x0, .int .i64 y.r.b.box.y0, .int .i64 y.r.b.box.x1, .int .i64 y.r.b.box.y1, .slice b4 m4 c4, .int .i64 y.r.value].toList ∧ Hid (Kp wr V none)) := Lib.hid fun V hV => ⟨(HS.out _ (KJ.out.trans hV)).1, fun i v hv => by rw [hV.below.cell (p := ⟨bx, ox + j * 20 + i, none⟩) hbx]; exact hrx i v hv, fun i v hv => by rw [hV.below.cell (p := ⟨bY, oy + j * 20 + i, none⟩) hby]; exact hry i v hv, Lib.hid hV⟩
     have hwm : IntKind.i64.wrap (m : Int) = (m : Int) := by rw [IntKind.wrap_i64]; omega
     have hwj : IntKind.i64.wrap (j : Int) = (j : Int) := by rw [IntKind.wrap_i64]; omega
     have hb1 : (bb != bb) = false := by simp
     clear hx hy hmx hmy kW htx hty hfx hx1 hx2 hy1 hy2 hrx hry hXE hYE hAX hAY hbb hbx hby hjp hjo
     go_upto_region 17 with fail
     refine wp_region_held_drew (S := fun V => V.cell? ⟨R, m, none⟩ = some (.slice (some ⟨bx, ox, none⟩) N p) ∧ V.rangeAt bx (ox + j * 20) #[str x.r.name, .int .i64 x.r.prio, .int .i64 x.r.what, .int .i64 x.r.a.op, str x.r.a.text, .int .i64 x.r.a.n, .int .i64 x.r.a.box.x0, .int .i64 x.r.a.box.y0, .int .i64 x.r.a.box.x1, .int .i64 x.r.a.box.y1, .slice b1 m1 c1, .int .i64 x.r.b.op, str x.r.b.text, .int .i64 x.r.b.n, .int .i64 x.r.b.box.x0, .int .i64 x.r.b.box.y0, .int .i64 x.r.b.box.x1, .int .i64 x.r.b.box.y1, .slice b2 m2 c2, .int .i64 x.r.value].toList ∧ V.rangeAt bY (oy + j * 20) #[str y.r.name, .int .i64 y.r.prio, .int .i64 y.r.what, .int .i64 y.r.a.op, str y.r.a.text, .int .i64 y.r.a.n, .int .i64 y.r.a.box.x0, .int .i64 y.r.a.box.y0, .int .i64 y.r.a.box.x1, .int .i64 y.r.a.box.y1, .slice b3 m3 c3, .int .i64 y.r.b.op, str y.r.b.text, .int .i64 y.r.b.n, .int .i64 y.r.b.box.x0, .int .i64 y.r.b.box.y0, .int .i64 y.r.b.box.x1, .int .i64 y.r.b.box.y1, .slice b4 m4 c4, .int .i64 y.r.value].toList ∧ Hid (Kp wr V none)) (by kernel_rfl) (HS2.out _ (Kp.refl _ none).drew) (fun hHeld => ?_)
     refine tkH 0 rfl ?_
     try simp only [Act.put, sm]
     refine tkH 3 rfl ?_
     try simp only [Act.put, sm]
     refine tkH 6 rfl ?_
     try simp only [Act.put, sm]
     refine tkH 7 rfl ?_
     try simp only [Act.put, sm]
     refine tkH 11 rfl ?_
     try simp only [Act.put, sm]
     refine tkH 14 rfl ?_
     try simp only [Act.put, sm]
     refine tkH 17 rfl ?_
     try simp only [Act.put, sm]
     refine tkH 18 rfl ?_
     try simp only [Act.put, sm]
     refine tkH 1 rfl ?_
     try simp only [Act.put, sm]
     refine tkH 8 rfl ?_
     try simp only [Act.put, sm]
     refine tkH 12 rfl ?_
     try simp only [Act.put, sm]
     refine tkH 19 rfl ?_
     try simp only [Act.put, sm]
     refine tkH 2 rfl ?_
     try simp only [Act.put, sm]
     refine wpAnyH_take (i := 9) rfl (by kernel_rfl) (by kernel_rfl) (by kernel_rfl) (fun _ _ _ h => h) (yieldsIf_load_mid (by rfl) _ _ rfl bY (oy + j * 20) rfl #[str y.r.name, .int .i64 y.r.prio, .int .i64 y.r.what, .int .i64 y.r.a.op, str y.r.a.text, .int .i64 y.r.a.n, .int .i64 y.r.a.box.x0, .int .i64 y.r.a.box.y0, .int .i64 y.r.a.box.x1, .int .i64 y.r.a.box.y1, .slice b3 m3 c3, .int .i64 y.r.b.op, str y.r.b.text, .int .i64 y.r.b.n, .int .i64 y.r.b.box.x0, .int .i64 y.r.b.box.y0, .int .i64 y.r.b.box.x1, .int .i64 y.r.b.box.y1, .slice b4 m4 c4, .int .i64 y.r.value].toList _ (fun _ h => h.2.2.1) Tryz.underlying42 rfl info42) (by assumption) ?_
     try simp only [Act.put, sm]
     refine tkH 13 rfl ?_
     try simp only [Act.put, sm]
     refine wpAnyH_take (i := 20) rfl (by kernel_rfl) (by kernel_rfl) (by kernel_rfl) (fun _ _ _ h => h) (yieldsIf_load_mid (by rfl) _ _ rfl bY (oy + j * 20) rfl #[str y.r.name, .int .i64 y.r.prio, .int .i64 y.r.what, .int .i64 y.r.a.op, str y.r.a.text, .int .i64 y.r.a.n, .int .i64 y.r.a.box.x0, .int .i64 y.r.a.box.y0, .int .i64 y.r.a.box.x1, .int .i64 y.r.a.box.y1, .slice b3 m3 c3, .int .i64 y.r.b.op, str y.r.b.text, .int .i64 y.r.b.n, .int .i64 y.r.b.box.x0, .int .i64 y.r.b.box.y0, .int .i64 y.r.b.box.x1, .int .i64 y.r.b.box.y1, .slice b4 m4 c4, .int .i64 y.r.value].toList _ (fun _ h => h.2.2.1) Tryz.underlying42 rfl info42) (by assumption) ?_
     try simp only [Act.put, sm]
     refine tkH 4 rfl ?_
     try simp only [Act.put, sm]
     refine tkH 15 rfl ?_
     try simp only [Act.put, sm]
     refine wpAnyH_take (i := 5) rfl (by kernel_rfl) (by kernel_rfl) (by kernel_rfl) (fun _ _ _ h => h) (yieldsIf_load_mid (by rfl) _ _ rfl bx (ox + j * 20) rfl #[str x.r.name, .int .i64 x.r.prio, .int .i64 x.r.what, .int .i64 x.r.a.op, str x.r.a.text, .int .i64 x.r.a.n, .int .i64 x.r.a.box.x0, .int .i64 x.r.a.box.y0, .int .i64 x.r.a.box.x1, .int .i64 x.r.a.box.y1, .slice b1 m1 c1, .int .i64 x.r.b.op, str x.r.b.text, .int .i64 x.r.b.n, .int .i64 x.r.b.box.x0, .int .i64 x.r.b.box.y0, .int .i64 x.r.b.box.x1, .int .i64 x.r.b.box.y1, .slice b2 m2 c2, .int .i64 x.r.value].toList _ (fun _ h => h.2.1) Tryz.underlying42 rfl info42) (by assumption) ?_
     try simp only [Act.put, sm]
     refine wpAnyH_take (i := 16) rfl (by kernel_rfl) (by kernel_rfl) (by kernel_rfl) (fun _ _ _ h => h) (yieldsIf_load_mid (by rfl) _ _ rfl bx (ox + j * 20) rfl #[str x.r.name, .int .i64 x.r.prio, .int .i64 x.r.what, .int .i64 x.r.a.op, str x.r.a.text, .int .i64 x.r.a.n, .int .i64 x.r.a.box.x0, .int .i64 x.r.a.box.y0, .int .i64 x.r.a.box.x1, .int .i64 x.r.a.box.y1, .slice b1 m1 c1, .int .i64 x.r.b.op, str x.r.b.text, .int .i64 x.r.b.n, .int .i64 x.r.b.box.x0, .int .i64 x.r.b.box.y0, .int .i64 x.r.b.box.x1, .int .i64 x.r.b.box.y1, .slice b2 m2 c2, .int .i64 x.r.value].toList _ (fun _ h => h.2.1) Tryz.underlying42 rfl info42) (by assumption) ?_
     try simp only [Act.put, sm]
     refine wpAnyH_ready (rs := [10]) (by kernel_rfl) (by simp) ?_
     refine AllReadyH.cons (o := _) rfl (fun K hK => ?_) AllReadyH.nil
     have gK := hHeld.2.2.2
     clear hHeld
     go_simp
     refine (HC17.out _ gK.out).mono ?_
     rintro e U1 ⟨rfl, kk⟩
     try go_wp2_with fail
     refine hK.out _ _ (HS2.out _ (gK.out.trans kk)) (fun hHeld => ?_)
     clear hK K gK kk
     try simp only [Act.put, sm]
     refine wpAnyH_ready (rs := [21]) (by kernel_rfl) (by simp) ?_
     refine AllReadyH.cons (o := _) rfl (fun K hK => ?_) AllReadyH.nil
     have gK := hHeld.2.2.2
     clear hHeld
     go_simp
     refine (HC18.out _ gK.out).mono ?_
     rintro e U2 ⟨rfl, kk⟩
     try go_wp2_with fail
     refine hK.out _ _ (HS2.out _ (gK.out.trans kk)) (fun hHeld => ?_)
     clear hK K gK kk
     try simp only [Act.put, sm]
     refine wpAnyH_ready (rs := [22]) (by kernel_rfl) (by simp) ?_
     refine AllReadyH.cons (o := _) rfl (fun K hK => ?_) AllReadyH.nil
     have gK := hHeld.2.2.2
     clear hHeld
     go_simp
     try go_wp2_with fail
     refine hK.out _ _ (HS2.out _ gK.out) (fun _ => ?_)
     have KZ := Lib.hid gK.out
     clear hK K gK
     try simp only [Act.put, sm]
     refine wpAnyH_done (by kernel_rfl) ?_ _
     clear hwm hwj
     go_wp2_with fail
     go_roundw
     case rel => exact ⟨j + 1, by omega, by go_num, Lib.hid (HJ.out.trans KZ.out)⟩
     case measure => simp [intOf]; omega
    ·by_cases q1 : j < N
     ·have h1 : (j : Int) < (N : Int) := by omega
      have h2 : ¬ (j : Int) < (n1 : Int) := by omega
      clear q1 hlt2
      go_wp2_with fail
      go_roundw
      case rel => exact ⟨m + 1, by omega, by go_num, Lib.hid (HM.out.trans KJ.out)⟩
      case measure => simp [intOf]; omega
     ·have h1 : ¬ (j : Int) < (N : Int) := by omega
      clear q1 hlt2
      go_wp2_with fail
      go_roundw
      case rel => exact ⟨m + 1, by omega, by go_num, Lib.hid (HM.out.trans KJ.out)⟩
      case measure => simp [intOf]; omega
  ·obtain rfl : m = 4 := by omega
   go_wp2_with fail
   go_ret
   exact ⟨rfl, HC.out.trans HM.out⟩
end Go.Proofs.YtnchipahdfbliaaGreatDoor

