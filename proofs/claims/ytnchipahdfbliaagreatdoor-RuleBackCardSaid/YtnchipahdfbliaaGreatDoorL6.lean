/- The law RuleBack, run. Conditions: two lists of numbers of a machine's length. -/
import Derived.Test.YtnchipahdfbliaaGreatDoorMd
import Derived.Test.YtnchipahdfbliaaGreatDoorSf
import Derived.Test.YtnchipahdfbliaaGreatDoorSg
import Derived.Test.YtnchipahdfbliaaGreatDoorRuE
namespace Go.Proofs.YtnchipahdfbliaaGreatDoor
open Go.RowKit

set_option maxHeartbeats 16000000 in
set_option maxRecDepth 100000 in
theorem back_any (l l' : List Int) (n n' : Nat) (lo lo' : Option Addr) (cap cap' : Nat) (w : World) (he : Env w) (hl : LiesAt 1 intVal w lo cap l) (hn : l.length = n) (hn2 : LenOk n) (hl' : LiesAt 1 intVal w lo' cap' l') (hn' : l'.length = n') (hn2' : LenOk n') : Calls Tryz.prog 6 #[.slice lo n cap, .slice lo' n' cap'] w (SameIs true w) := by
  have HE := Lib.hid he
  have HL := Lib.hid hl
  have HN := Lib.hid hn
  have HL' := Lib.hid hl'
  have HN' := Lib.hid hn'
  have H2 := Lib.hid hn2
  have H2' := Lib.hid hn2'
  have cS := sanity_any w he
  clear he hl hn hl' hn' hn2 hn2'
  go_enter Tryz.func6, Tryz.ntmps6
  go_wp2_with fail
  refine cS.mono ?_
  clear cS
  rintro e w1 ⟨rfl, k1⟩
  have K1 := Lib.hid k1
  have cM := made_any l n lo cap w1 (HL.out.keep k1) HN.out H2.out
  clear k1 HL HN H2
  go_wp2_with fail
  refine cM.mono ?_
  clear cM
  rintro e w2 ⟨qs, ao, p, rfl, hlq, htq, hgq, hnq, hq4, k2⟩
  have HLQ := Lib.hid hlq
  have HTQ := Lib.hid htq
  have HGQ := Lib.hid hgq
  have HCK := Lib.hid (Ru.made_check (l := qs.map (·.r)) (fun q hq => by obtain ⟨y, hy, rfl⟩ := List.mem_map.1 hq; exact hgq y hy) (by rw [List.length_map]; exact hnq) (by rw [List.length_map]; exact hq4))
  have K2 := Lib.hid (K1.out.trans k2)
  have cM := made_any l' n' lo' cap' w2 (HL'.out.keep K2.out) HN'.out H2'.out
  clear hlq htq hgq hnq k2 HL' HN' H2' K1
  go_wp2_with fail
  refine cM.mono ?_
  clear cM
  rintro e w3 ⟨rs, bo, p', rfl, hlr, htr, hgr, hnr, hr4, k3⟩
  have HLR := Lib.hid hlr
  have HTR := Lib.hid htr
  have HGR := Lib.hid hgr
  have HLQ3 := Lib.hid (HLQ.out.keep k3)
  have HTQ3 : Hid (∀ q ∈ qs, q.Tree w3) := Lib.hid (fun q hq => (HTQ.out q hq).keep k3)
  have HCR := Lib.hid (Ru.made_check (l := rs.map (·.r)) (fun q hq => by obtain ⟨y, hy, rfl⟩ := List.mem_map.1 hq; exact hgr y hy) (by rw [List.length_map]; exact hnr) (by rw [List.length_map]; exact hr4))
  have K3 := Lib.hid (K2.out.trans k3)
  clear hlr htr hgr hnr k3 HLQ HTQ K2
  obtain ⟨A, hA⟩ : ∃ x, qs.map (·.r) = x := ⟨_, rfl⟩
  obtain ⟨B, hB⟩ : ∃ x, rs.map (·.r) = x := ⟨_, rfl⟩
  rw [hA] at HCK
  rw [hB] at HCR
  obtain ⟨sA, hsA⟩ : ∃ x, Ru.textOf A = x := ⟨_, rfl⟩
  obtain ⟨sB, hsB⟩ : ∃ x, Ru.textOf B = x := ⟨_, rfl⟩
  obtain ⟨m, hm⟩ : ∃ m, qs.length = m := ⟨_, rfl⟩
  obtain ⟨m', hm'⟩ : ∃ m, rs.length = m := ⟨_, rfl⟩
  have TA : Hid (Ru.text A = (sA, 0)) := Lib.hid (by rw [Ru.text_made HCK.out, hsA])
  have TB : Hid (Ru.text B = (sB, 0)) := Lib.hid (by rw [Ru.text_made HCR.out, hsB])
  have cA : Calls Tryz.prog 15 #[.slice ao m p] w3 fun e w' => e = .returned (.tuple #[str sA, .int .i64 0]) ∧ Kp w3 w' none := by
    have h := text_any qs ao p w3 (HE.out.kp0 K3.out) HLQ3.out HTQ3.out (fun y hy => good_fit (HGQ.out y hy))
    rw [hA, TA.out, hm] at h
    exact h
  have cB : Hid (∀ V, Kp w3 V none → Calls Tryz.prog 15 #[.slice bo m' p'] V fun e w' => e = .returned (.tuple #[str sB, .int .i64 0]) ∧ Kp V w' none) := Lib.hid (fun V hV => by
    have h := text_any rs bo p' V (HE.out.kp0 (K3.out.trans hV)) (HLR.out.keep hV) (fun q hq => (HTR.out q hq).keep hV) (fun y hy => good_fit (HGR.out y hy))
    rw [hB, TB.out, hm'] at h
    exact h)
  have cP : Hid (∀ V, Kp w3 V none → Calls Tryz.prog 19 #[str sA] V fun e w' => ∃ (ps : List RV) (co : Option Addr) (pc mc : Nat), e = .returned (.tuple #[.slice co mc pc, .int .i64 0, .int .i64 0]) ∧ Hid (ps.length = mc ∧ A = ps.map (·.r) ∧ LiesAt 20 rC w' co pc ps ∧ (∀ q ∈ ps, q.Tree w') ∧ Kp V w' none)) := Lib.hid (fun V hV => by
    have h := parse_any sA V (HE.out.kp0 (K3.out.trans hV))
    rw [← hsA, Ru.back HCK.out, hsA] at h
    refine h.mono fun e w' ⟨⟨v, h1, h2⟩, h3⟩ => ?_
    obtain ⟨ps, co, pc, e1, e2, h4, h5⟩ := rules_len h2
    subst e2
    exact ⟨ps, co, pc, _, h1, Lib.hid ⟨rfl, e1, h4, h5, h3⟩⟩)
  have hst : (sA == sB) = eqB A B := by
    rw [← hsA, ← hsB]
    by_cases h : A = B
    · rw [eqB_t h, h]; simp
    · rw [eqB_f h]
      have h2 : Ru.textOf A ≠ Ru.textOf B := fun e => h ((Ru.text_same HCK.out HCR.out).1 e)
      simpa using h2
  have HA := Lib.hid hA
  have HB := Lib.hid hB
  have HM := Lib.hid hm
  have HM' := Lib.hid hm'
  rw [hm, hm']
  rw [hm] at hq4
  rw [hm'] at hr4
  have hss : (sA == sA) = true := by simp
  obtain ⟨b, hb⟩ : ∃ b, eqB A B = b := ⟨_, rfl⟩
  have HBB := Lib.hid hb
  rw [hb] at hst
  have hbb : (b == b) = true := by simp
  clear hA hB hsA hsB hm hm' hb
  go_wp2_with fail
  refine cA.mono ?_
  clear cA
  rintro e w4 ⟨rfl, k4⟩
  have cB4 := cB.out w4 k4
  have K4 := Lib.hid k4
  clear k4 cB
  go_wp2_with fail
  refine cB4.mono ?_
  clear cB4
  rintro e w5 ⟨rfl, k5⟩
  have K5 := Lib.hid (K4.out.trans k5)
  clear k5 K4
  have cP5 := cP.out w5 K5.out
  clear cP
  go_wp2_with fail
  refine cP5.mono ?_
  clear cP5
  rintro e w6 ⟨ps, co, pc, mc, rfl, H6⟩
  have K6 := Lib.hid (K5.out.trans H6.out.2.2.2.2)
  have cT : Calls Tryz.prog 15 #[.slice co mc pc] w6 fun e w' => e = .returned (.tuple #[str sA, .int .i64 0]) ∧ Kp w6 w' none := by
    have h := text_any ps co pc w6 (HE.out.kp0 (K3.out.trans K6.out)) H6.out.2.2.1 H6.out.2.2.2.1 (fun y hy => good_fit ((Ru.check_good HCK.out).2 y.r (by rw [H6.out.2.1]; exact List.mem_map_of_mem hy)))
    rw [← H6.out.2.1, TA.out, H6.out.1] at h
    exact h
  clear K5
  go_wp2_with fail
  refine cT.mono ?_
  clear cT
  rintro e w7 ⟨rfl, k7⟩
  have K7 := Lib.hid (K6.out.trans k7)
  have cX : Calls Tryz.prog 21 #[.slice ao m p, .slice co mc pc] w7 (SameIs true w7) := by
    have h := same_all_any qs ps ao co p pc m mc w7 HM.out H6.out.1 (HLQ3.out.keep K7.out) (H6.out.2.2.1.keep k7) (fun q hq => (HTQ3.out q hq).keep K7.out) (fun q hq => (H6.out.2.2.2.1 q hq).keep k7) (fun y hy => good_fit (HGQ.out y hy)) (by omega)
    rw [HA.out, ← H6.out.2.1, eqB_t rfl] at h
    exact h
  clear k7 K6
  go_wp2_with fail
  refine cX.mono ?_
  clear cX
  rintro e w8 ⟨rfl, k8⟩
  have K8 := Lib.hid (K7.out.trans k8)
  have cY : Calls Tryz.prog 21 #[.slice ao m p, .slice bo m' p'] w8 (SameIs b w8) := by
    have h := same_all_any qs rs ao bo p p' m m' w8 HM.out HM'.out (HLQ3.out.keep K8.out) (HLR.out.keep K8.out) (fun q hq => (HTQ3.out q hq).keep K8.out) (fun q hq => (HTR.out q hq).keep K8.out) (fun y hy => good_fit (HGQ.out y hy)) (by omega)
    rw [HA.out, HB.out, HBB.out] at h
    exact h
  clear k8 K7
  go_wp2_with fail
  refine cY.mono ?_
  clear cY
  rintro e w9 ⟨rfl, k9⟩
  have K9 := Lib.hid (K8.out.trans k9)
  clear k9
  go_wp2_with fail
  go_ret
  exact ⟨rfl, K3.out.trans K9.out⟩
end Go.Proofs.YtnchipahdfbliaaGreatDoor
