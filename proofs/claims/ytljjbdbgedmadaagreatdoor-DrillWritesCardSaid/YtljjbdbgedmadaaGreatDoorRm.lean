/- The reference's test of a shape, whole. Condition: at most 10^6 edges. -/
import Derived.Test.YtljjbdbgedmadaaGreatDoorRc
set_option maxHeartbeats 8000000
set_option maxRecDepth 100000
namespace Go.Proofs.YtljjbdbgedmadaaGreatDoor
open Go.RowKit
theorem rscheck_kind (k r : Int) (n : Nat) (ao : Option Addr) (cap : Nat) (w : World) (h1 : (k == 1) = false) (h2 : (k == 2) = false) :
  Calls Tryz.prog 31 #[.agg #[I6 k, .slice ao n cap, I6 r]] w fun E w' => E = .returned (I6 12) ∧ Kp w w' none := by
 go_enter Tryz.func31, Tryz.ntmps31
 go_wp2_with fail
 go_ret
 exact ⟨rfl, (Kp.refl w none).alloc _⟩
theorem rscheck_none1 (r : Int) (n : Nat) (ao : Option Addr) (cap : Nat) (w : World) (h1 : (n : Int) < 1) :
  Calls Tryz.prog 31 #[.agg #[I6 1, .slice ao n cap, I6 r]] w fun E w' => E = .returned (I6 12) ∧ Kp w w' none := by
 go_enter Tryz.func31, Tryz.ntmps31
 go_wp2_with fail
 go_ret
 exact ⟨rfl, (Kp.refl w none).alloc _⟩
theorem rscheck_few2 (r : Int) (n : Nat) (ao : Option Addr) (cap : Nat) (w : World) (h1 : (n : Int) < 2) :
  Calls Tryz.prog 31 #[.agg #[I6 2, .slice ao n cap, I6 r]] w fun E w' => E = .returned (I6 12) ∧ Kp w w' none := by
 go_enter Tryz.func31, Tryz.ntmps31
 go_wp2_with fail
 go_ret
 exact ⟨rfl, (Kp.refl w none).alloc _⟩
theorem rscheck_many1 (r : Int) (n : Nat) (ao : Option Addr) (cap : Nat) (w : World) (h1 : 40 < (n : Int)) (_h2 : 1 ≤ (n : Int)) :
  Calls Tryz.prog 31 #[.agg #[I6 1, .slice ao n cap, I6 r]] w fun E w' => E = .returned (I6 2) ∧ Kp w w' none := by
 go_enter Tryz.func31, Tryz.ntmps31
 go_wp2_with fail
 go_ret
 exact ⟨rfl, (Kp.refl w none).alloc _⟩
theorem rscheck_many2 (r : Int) (n : Nat) (ao : Option Addr) (cap : Nat) (w : World) (h1 : 40 < (n : Int)) (_h2 : 2 ≤ (n : Int)) :
  Calls Tryz.prog 31 #[.agg #[I6 2, .slice ao n cap, I6 r]] w fun E w' => E = .returned (I6 2) ∧ Kp w w' none := by
 go_enter Tryz.func31, Tryz.ntmps31
 go_wp2_with fail
 go_ret
 exact ⟨rfl, (Kp.refl w none).alloc _⟩
theorem rscheck_main1 (r : Int) (es : List Pl.Ed) (n : Nat) (hn : es.length = n) (ao : Option Addr) (cap : Nat) (w : World) (hes : LiesAt 7 edC w ao cap es) (h0 : 1 ≤ n) (h40 : n ≤ 40) :
  Calls Tryz.prog 31 #[.agg #[I6 1, .slice ao n cap, I6 r]] w fun E w' => E = .returned (I6 (Pl.chk ⟨1, es, r⟩)) ∧ Kp w w' none := by
 have FE := oh hes; have HN := oh hn; have HCE : Hid (Pl.firstErr es ≠ 0 → Pl.chk ⟨1, es, r⟩ = Pl.firstErr es) := oh fun h => Pl.chk_err ⟨1, es, r⟩ (by simp) (by show 0 < es.length; omega) (fun h => absurd h (by show ¬ ((1 : Int) = 2); decide)) (by show es.length ≤ 40; omega) h
 have HCM : Hid (Pl.firstErr es = 0 → Pl.chk ⟨1, es, r⟩ = if Pl.chain es = true ∧ (false = true → Pl.closes es = true) then (if r < 0 ∨ 4194304 < r then 3 else 0) else 12) := oh fun h => by
  rw [Pl.chk_path es r (by omega) (by omega) h]; have hj := Pl.joints_iff es false (by omega)
  by_cases hp : ∀ p ∈ Pl.joints es false, Pl.Joined p
  ·rw [if_pos hp, if_pos (hj.1 hp)]
  ·rw [if_neg hp, if_neg (fun h => hp (hj.2 h))]
 have HCL : Hid (∀ (g1 : n - 1 < es.length) (g2 : 0 < es.length), Pl.closes es = decide ((es[n - 1]'g1).b = (es[0]'g2).a)) := oh (by intro g1 g2; subst hn; exact Pl.closes_eq es (by omega))
 obtain ⟨fin, hfin⟩ : ∃ f, Pl.chk ⟨1, es, r⟩ = f := ⟨_, rfl⟩
 rw [hfin] at HCE HCM ⊢; clear hes hn hfin; have hn0 := nn n; have hn2 : 1 ≤ (n : Int) := by omega
 have hn3 : (n : Int) ≤ 40 := by omega
 have HBX : Hid ((w.alloc (.cells #[I6 1, .slice ao n cap, I6 r] 50)).heap[w.heap.size]? = _) := oh (heap_alloc_new w (.cells #[I6 1, .slice ao n cap, I6 r] 50))
 have KX : Hid (Kp w (w.alloc (.cells #[I6 1, .slice ao n cap, I6 r] 50)) none) := oh ((Kp.refl w none).alloc _)
 go_enter Tryz.func31, Tryz.ntmps31
 go_wp2_with fail
 generalize w.alloc (.cells #[I6 1, .slice ao n cap, I6 r] 50) = X at *
 go_loopw [4] (fun i wr => ∃ j : Nat, j ≤ n ∧ i = I6 j ∧ Pl.firstErr es = Pl.firstErr (es.drop j) ∧ Kp X wr none) (fun i _ => n - (intOf i).toNat)
 case atStart => exact ⟨0, Nat.zero_le _, rfl, rfl, Kp.refl _ _⟩
 case round =>
  obtain ⟨j, hj, rfl, hfe, hkp⟩ := hrel; have HFE := oh hfe; have HK := oh hkp
  have q0 : wr.cell? ⟨w.heap.size, 0, none⟩ = some (I6 1) := ck HBX.out hkp 0 rfl
  have q1 : wr.cell? ⟨w.heap.size, 1, none⟩ = some (.slice ao n cap) := ck HBX.out hkp 1 rfl
  have q2 : wr.cell? ⟨w.heap.size, 2, none⟩ = some (I6 r) := ck HBX.out hkp 2 rfl
  clear hfe hkp; have hj0 := nn j
  by_cases hlt : j < n
  ·have hj1 : (j : Int) < (n : Int) := by omega
   obtain ⟨bo, off, rfl, hcap, hbo, hcells⟩ := FE.out.ed (k := j) (by have := HN.out; omega)
   have hc0 := hcells _ (KX.out.trans HK.out)
   have hcap2 : n ≤ cap := by have := HN.out; omega
   obtain ⟨e, hx⟩ : ∃ e, es[j]'(by have := HN.out; omega) = e := ⟨_, rfl⟩
   rw [hx] at hc0; have HDR : Hid (Pl.firstErr es = if Pl.chkE e = 0 then Pl.firstErr (es.drop (j + 1)) else Pl.chkE e) := oh (by rw [HFE.out, Pl.firstErr_drop es j (by have := HN.out; omega), hx])
   clear hcells hx hcap; obtain ⟨d0, d1, d2, d3, d4, d5, d6⟩ := hc0
   have hce := fun V => rcheck_any e V
   obtain ⟨er, her⟩ : ∃ er, Pl.chkE e = er := ⟨_, rfl⟩
   rw [her] at HDR hce; have HEC := oh hce; clear her hce
   by_cases hz : er = 0
   ·have hz1 : (er == 0) = true := by simpa using hz
    have HD2 : Hid (Pl.firstErr es = Pl.firstErr (es.drop (j + 1))) := oh (by rw [HDR.out, if_pos hz])
    clear hz HDR; go_wp2_with fail
    refine (HEC.out _).mono ?_
    rintro E w2 ⟨rfl, k2⟩; have HB2 := oh (HK.out.trans k2); clear k2; go_wp2_with fail
    first | exact ⟨⟨j + 1, hlt, by go_num, HD2.out, HB2.out⟩, by simp [intOf]; omega⟩ | (go_roundw; all_goals first | exact ⟨j + 1, hlt, by go_num, HD2.out, HB2.out⟩ | (simp [intOf]; omega))
   ·have hz1 : (er == 0) = false := by simpa using hz
    have HD2 : Hid (fin = er) := oh (by have h1 := HDR.out; rw [if_neg hz] at h1; rw [HCE.out (by rw [h1]; exact hz), h1])
    clear hz HDR; go_wp2_with fail
    refine (HEC.out _).mono ?_
    rintro E w2 ⟨rfl, k2⟩; have HB2 := oh (HK.out.trans k2); clear k2; go_wp2_with fail
    go_ret
    exact ⟨ret_int HD2.out.symm, KX.out.trans HB2.out⟩
  ·have hj1 : ¬ (j : Int) < (n : Int) := by omega
   have HFZ : Hid (Pl.firstErr es = 0) := oh (by rw [HFE.out, Pl.firstErr_end es j (by have := HN.out; omega)])
   have HCC := oh (HCM.out HFZ.out)
   have hch := fun V (kv : Kp w V none) => rchain_any es n HN.out ao cap V (FE.out.keep kv) (by omega)
   obtain ⟨ch, hchv⟩ : ∃ c, Pl.chain es = c := ⟨_, rfl⟩
   rw [hchv] at HCC hch; have HCH := oh hch; clear HCM HCE HFE hch hchv HFZ; go_wp2_with fail
   refine (HCH.out _ (KX.out.trans HK.out)).mono ?_
   rintro E w3 ⟨rfl, hk3⟩; have K3 := oh (HK.out.trans hk3)
   have y0 : w3.cell? ⟨w.heap.size, 0, none⟩ = some (I6 1) := ck HBX.out K3.out 0 rfl
   have y1 : w3.cell? ⟨w.heap.size, 1, none⟩ = some (.slice ao n cap) := ck HBX.out K3.out 1 rfl
   have y2 : w3.cell? ⟨w.heap.size, 2, none⟩ = some (I6 r) := ck HBX.out K3.out 2 rfl
   clear hk3 q0 q1 q2 hj0 hj1 hj; obtain ⟨m, hm⟩ : ∃ m, n = m + 1 := ⟨n - 1, by omega⟩
   have hm0 := nn m; have hm1 : (m : Int) < (n : Int) := by omega
   have hm2 : (0 : Int) < (n : Int) := by omega
   have hw1 : wrap64 ((n : Int) - 1) = (m : Int) := by unfold wrap64; omega
   have hw2 : IntKind.i64.wrap ((n : Int) - 1) = (m : Int) := by rw [IntKind.wrap_i64]; omega
   obtain ⟨bo, off, rfl, hcap, _, hca⟩ := FE.out.ed (k := 0) (by have := HN.out; omega)
   obtain ⟨b', off', hao, _, _, hcz⟩ := FE.out.ed (k := m) (by have := HN.out; omega)
   injection hao with hao; injection hao with e1 e2; subst e1; subst e2
   have hcap2 : n ≤ cap := by have := HN.out; omega
   have hd := hca _ (KX.out.trans K3.out)
   have he := hcz _ (KX.out.trans K3.out)
   have HCL2 : Hid (Pl.closes es = decide ((es[m]'(by have := HN.out; omega)).b = (es[0]'(by have := HN.out; omega)).a)) := oh (by rw [HCL.out (by have := HN.out; omega) (by have := HN.out; omega)]; congr 2; congr 2; omega)
   obtain ⟨a, ha⟩ : ∃ y, es[0]'(by have := HN.out; omega) = y := ⟨_, rfl⟩
   obtain ⟨z, hz⟩ : ∃ z, es[m]'(by have := HN.out; omega) = z := ⟨_, rfl⟩
   rw [ha] at hd HCL2; rw [hz] at he HCL2; clear ha hz hcap hca hcz HCL hm; obtain ⟨ak, ⟨aax, aay⟩, ab, ac⟩ := a; obtain ⟨zk, za, ⟨zbx, zby⟩, zc⟩ := z
   dsimp only at hd he HCL2
   simp only [Nat.zero_mul, Nat.add_zero] at hd
   obtain ⟨_, d1, d2, _, _, _, _⟩ := hd; obtain ⟨_, _, _, e3, e4, _, _⟩ := he
   by_cases t1 : zbx = aax
   ·by_cases t2 : zby = aay
    ·have HCC2 : Hid (Pl.closes es = true) := oh (by rw [HCL2.out, t1, t2]; simp)
     have u1 : (aax == zbx) = true := by simp [t1]
     have u2 : (aay == zby) = true := by simp [t2]
     clear t1 t2 HCL2; go_wp2_with fail
     go_quiet (fail)
     have KQ := oh ((KX.out.trans K3.out).drewN nq)
     clear d1 d2 e3 e4 hw1 hw2
     cases ch
     ·have HV : Hid (fin = 12) := oh (by rw [HCC.out, if_neg (by simp)])
      go_wp2_with fail
      go_ret
      exact ⟨ret_int HV.out.symm, KQ.out⟩
     ·have HFIN : Hid (fin = if r < 0 ∨ 4194304 < r then 3 else 0) := oh (by rw [HCC.out, if_pos ⟨rfl, fun h => by cases h⟩])
      by_cases hr0 : r < 0
      ·skip
       have HV : Hid (fin = 3) := oh (by rw [HFIN.out, if_pos (.inl hr0)])
       clear HFIN; go_wp2_with fail
       go_ret
       exact ⟨ret_int HV.out.symm, KQ.out⟩
      ·by_cases hr1 : 4194304 < r
       ·skip
        have HV : Hid (fin = 3) := oh (by rw [HFIN.out, if_pos (.inr hr1)])
        clear HFIN; go_wp2_with fail
        go_ret
        exact ⟨ret_int HV.out.symm, KQ.out⟩
       ·skip
        have HV : Hid (fin = 0) := oh (by rw [HFIN.out, if_neg (by omega)])
        clear HFIN; go_wp2_with fail
        go_ret
        exact ⟨ret_int HV.out.symm, KQ.out⟩
    ·have HCC2 : Hid (Pl.closes es = false) := oh (by rw [HCL2.out, t1]; simp [t2])
     have u1 : (aax == zbx) = true := by simp [t1]
     have u2 : (aay == zby) = false := by simpa using fun h => t2 h.symm
     clear t1 t2 HCL2; go_wp2_with fail
     go_quiet (fail)
     have KQ := oh ((KX.out.trans K3.out).drewN nq)
     clear d1 d2 e3 e4 hw1 hw2
     cases ch
     ·have HV : Hid (fin = 12) := oh (by rw [HCC.out, if_neg (by simp)])
      go_wp2_with fail
      go_ret
      exact ⟨ret_int HV.out.symm, KQ.out⟩
     ·have HFIN : Hid (fin = if r < 0 ∨ 4194304 < r then 3 else 0) := oh (by rw [HCC.out, if_pos ⟨rfl, fun h => by cases h⟩])
      by_cases hr0 : r < 0
      ·skip
       have HV : Hid (fin = 3) := oh (by rw [HFIN.out, if_pos (.inl hr0)])
       clear HFIN; go_wp2_with fail
       go_ret
       exact ⟨ret_int HV.out.symm, KQ.out⟩
      ·by_cases hr1 : 4194304 < r
       ·skip
        have HV : Hid (fin = 3) := oh (by rw [HFIN.out, if_pos (.inr hr1)])
        clear HFIN; go_wp2_with fail
        go_ret
        exact ⟨ret_int HV.out.symm, KQ.out⟩
       ·skip
        have HV : Hid (fin = 0) := oh (by rw [HFIN.out, if_neg (by omega)])
        clear HFIN; go_wp2_with fail
        go_ret
        exact ⟨ret_int HV.out.symm, KQ.out⟩
   ·have HCC2 : Hid (Pl.closes es = false) := oh (by rw [HCL2.out]; simp [t1])
    have u1 : (aax == zbx) = false := by simpa using fun h => t1 h.symm
    clear t1 HCL2; go_wp2_with fail
    go_quiet (fail)
    have KQ := oh ((KX.out.trans K3.out).drewN nq)
    clear d1 d2 e3 e4 hw1 hw2
    cases ch
    ·have HV : Hid (fin = 12) := oh (by rw [HCC.out, if_neg (by simp)])
     go_wp2_with fail
     go_ret
     exact ⟨ret_int HV.out.symm, KQ.out⟩
    ·have HFIN : Hid (fin = if r < 0 ∨ 4194304 < r then 3 else 0) := oh (by rw [HCC.out, if_pos ⟨rfl, fun h => by cases h⟩])
     by_cases hr0 : r < 0
     ·skip
      have HV : Hid (fin = 3) := oh (by rw [HFIN.out, if_pos (.inl hr0)])
      clear HFIN; go_wp2_with fail
      go_ret
      exact ⟨ret_int HV.out.symm, KQ.out⟩
     ·by_cases hr1 : 4194304 < r
      ·skip
       have HV : Hid (fin = 3) := oh (by rw [HFIN.out, if_pos (.inr hr1)])
       clear HFIN; go_wp2_with fail
       go_ret
       exact ⟨ret_int HV.out.symm, KQ.out⟩
      ·skip
       have HV : Hid (fin = 0) := oh (by rw [HFIN.out, if_neg (by omega)])
       clear HFIN; go_wp2_with fail
       go_ret
       exact ⟨ret_int HV.out.symm, KQ.out⟩
theorem rscheck_main2 (r : Int) (es : List Pl.Ed) (n : Nat) (hn : es.length = n) (ao : Option Addr) (cap : Nat) (w : World) (hes : LiesAt 7 edC w ao cap es) (h0 : 2 ≤ n) (h40 : n ≤ 40) :
  Calls Tryz.prog 31 #[.agg #[I6 2, .slice ao n cap, I6 r]] w fun E w' => E = .returned (I6 (Pl.chk ⟨2, es, r⟩)) ∧ Kp w w' none := by
 have FE := oh hes; have HN := oh hn; have HCE : Hid (Pl.firstErr es ≠ 0 → Pl.chk ⟨2, es, r⟩ = Pl.firstErr es) := oh fun h => Pl.chk_err ⟨2, es, r⟩ (by simp) (by show 0 < es.length; omega) (fun _ => by show 2 ≤ es.length; omega) (by show es.length ≤ 40; omega) h
 have HCM : Hid (Pl.firstErr es = 0 → Pl.chk ⟨2, es, r⟩ = if Pl.chain es = true ∧ (true = true → Pl.closes es = true) then (if r ≠ 0 ∨ r < 0 ∨ 4194304 < r then 3 else 0) else 12) := oh fun h => by
  rw [Pl.chk_area es r (by omega) (by omega) h]; have hj := Pl.joints_iff es true (by omega)
  by_cases hp : ∀ p ∈ Pl.joints es true, Pl.Joined p
  ·rw [if_pos hp, if_pos (hj.1 hp)]
  ·rw [if_neg hp, if_neg (fun h => hp (hj.2 h))]
 have HCL : Hid (∀ (g1 : n - 1 < es.length) (g2 : 0 < es.length), Pl.closes es = decide ((es[n - 1]'g1).b = (es[0]'g2).a)) := oh (by intro g1 g2; subst hn; exact Pl.closes_eq es (by omega))
 obtain ⟨fin, hfin⟩ : ∃ f, Pl.chk ⟨2, es, r⟩ = f := ⟨_, rfl⟩
 rw [hfin] at HCE HCM ⊢; clear hes hn hfin; have hn0 := nn n; have hn2 : 2 ≤ (n : Int) := by omega
 have hn3 : (n : Int) ≤ 40 := by omega
 have HBX : Hid ((w.alloc (.cells #[I6 2, .slice ao n cap, I6 r] 50)).heap[w.heap.size]? = _) := oh (heap_alloc_new w (.cells #[I6 2, .slice ao n cap, I6 r] 50))
 have KX : Hid (Kp w (w.alloc (.cells #[I6 2, .slice ao n cap, I6 r] 50)) none) := oh ((Kp.refl w none).alloc _)
 go_enter Tryz.func31, Tryz.ntmps31
 go_wp2_with fail
 generalize w.alloc (.cells #[I6 2, .slice ao n cap, I6 r] 50) = X at *
 go_loopw [4] (fun i wr => ∃ j : Nat, j ≤ n ∧ i = I6 j ∧ Pl.firstErr es = Pl.firstErr (es.drop j) ∧ Kp X wr none) (fun i _ => n - (intOf i).toNat)
 case atStart => exact ⟨0, Nat.zero_le _, rfl, rfl, Kp.refl _ _⟩
 case round =>
  obtain ⟨j, hj, rfl, hfe, hkp⟩ := hrel; have HFE := oh hfe; have HK := oh hkp
  have q0 : wr.cell? ⟨w.heap.size, 0, none⟩ = some (I6 2) := ck HBX.out hkp 0 rfl
  have q1 : wr.cell? ⟨w.heap.size, 1, none⟩ = some (.slice ao n cap) := ck HBX.out hkp 1 rfl
  have q2 : wr.cell? ⟨w.heap.size, 2, none⟩ = some (I6 r) := ck HBX.out hkp 2 rfl
  clear hfe hkp; have hj0 := nn j
  by_cases hlt : j < n
  ·have hj1 : (j : Int) < (n : Int) := by omega
   obtain ⟨bo, off, rfl, hcap, hbo, hcells⟩ := FE.out.ed (k := j) (by have := HN.out; omega)
   have hc0 := hcells _ (KX.out.trans HK.out)
   have hcap2 : n ≤ cap := by have := HN.out; omega
   obtain ⟨e, hx⟩ : ∃ e, es[j]'(by have := HN.out; omega) = e := ⟨_, rfl⟩
   rw [hx] at hc0; have HDR : Hid (Pl.firstErr es = if Pl.chkE e = 0 then Pl.firstErr (es.drop (j + 1)) else Pl.chkE e) := oh (by rw [HFE.out, Pl.firstErr_drop es j (by have := HN.out; omega), hx])
   clear hcells hx hcap; obtain ⟨d0, d1, d2, d3, d4, d5, d6⟩ := hc0
   have hce := fun V => rcheck_any e V
   obtain ⟨er, her⟩ : ∃ er, Pl.chkE e = er := ⟨_, rfl⟩
   rw [her] at HDR hce; have HEC := oh hce; clear her hce
   by_cases hz : er = 0
   ·have hz1 : (er == 0) = true := by simpa using hz
    have HD2 : Hid (Pl.firstErr es = Pl.firstErr (es.drop (j + 1))) := oh (by rw [HDR.out, if_pos hz])
    clear hz HDR; go_wp2_with fail
    refine (HEC.out _).mono ?_
    rintro E w2 ⟨rfl, k2⟩; have HB2 := oh (HK.out.trans k2); clear k2; go_wp2_with fail
    first | exact ⟨⟨j + 1, hlt, by go_num, HD2.out, HB2.out⟩, by simp [intOf]; omega⟩ | (go_roundw; all_goals first | exact ⟨j + 1, hlt, by go_num, HD2.out, HB2.out⟩ | (simp [intOf]; omega))
   ·have hz1 : (er == 0) = false := by simpa using hz
    have HD2 : Hid (fin = er) := oh (by have h1 := HDR.out; rw [if_neg hz] at h1; rw [HCE.out (by rw [h1]; exact hz), h1])
    clear hz HDR; go_wp2_with fail
    refine (HEC.out _).mono ?_
    rintro E w2 ⟨rfl, k2⟩; have HB2 := oh (HK.out.trans k2); clear k2; go_wp2_with fail
    go_ret
    exact ⟨ret_int HD2.out.symm, KX.out.trans HB2.out⟩
  ·have hj1 : ¬ (j : Int) < (n : Int) := by omega
   have HFZ : Hid (Pl.firstErr es = 0) := oh (by rw [HFE.out, Pl.firstErr_end es j (by have := HN.out; omega)])
   have HCC := oh (HCM.out HFZ.out)
   have hch := fun V (kv : Kp w V none) => rchain_any es n HN.out ao cap V (FE.out.keep kv) (by omega)
   obtain ⟨ch, hchv⟩ : ∃ c, Pl.chain es = c := ⟨_, rfl⟩
   rw [hchv] at HCC hch; have HCH := oh hch; clear HCM HCE HFE hch hchv HFZ; go_wp2_with fail
   refine (HCH.out _ (KX.out.trans HK.out)).mono ?_
   rintro E w3 ⟨rfl, hk3⟩; have K3 := oh (HK.out.trans hk3)
   have y0 : w3.cell? ⟨w.heap.size, 0, none⟩ = some (I6 2) := ck HBX.out K3.out 0 rfl
   have y1 : w3.cell? ⟨w.heap.size, 1, none⟩ = some (.slice ao n cap) := ck HBX.out K3.out 1 rfl
   have y2 : w3.cell? ⟨w.heap.size, 2, none⟩ = some (I6 r) := ck HBX.out K3.out 2 rfl
   clear hk3 q0 q1 q2 hj0 hj1 hj; obtain ⟨m, hm⟩ : ∃ m, n = m + 1 := ⟨n - 1, by omega⟩
   have hm0 := nn m; have hm1 : (m : Int) < (n : Int) := by omega
   have hm2 : (0 : Int) < (n : Int) := by omega
   have hw1 : wrap64 ((n : Int) - 1) = (m : Int) := by unfold wrap64; omega
   have hw2 : IntKind.i64.wrap ((n : Int) - 1) = (m : Int) := by rw [IntKind.wrap_i64]; omega
   obtain ⟨bo, off, rfl, hcap, _, hca⟩ := FE.out.ed (k := 0) (by have := HN.out; omega)
   obtain ⟨b', off', hao, _, _, hcz⟩ := FE.out.ed (k := m) (by have := HN.out; omega)
   injection hao with hao; injection hao with e1 e2; subst e1; subst e2
   have hcap2 : n ≤ cap := by have := HN.out; omega
   have hd := hca _ (KX.out.trans K3.out)
   have he := hcz _ (KX.out.trans K3.out)
   have HCL2 : Hid (Pl.closes es = decide ((es[m]'(by have := HN.out; omega)).b = (es[0]'(by have := HN.out; omega)).a)) := oh (by rw [HCL.out (by have := HN.out; omega) (by have := HN.out; omega)]; congr 2; congr 2; omega)
   obtain ⟨a, ha⟩ : ∃ y, es[0]'(by have := HN.out; omega) = y := ⟨_, rfl⟩
   obtain ⟨z, hz⟩ : ∃ z, es[m]'(by have := HN.out; omega) = z := ⟨_, rfl⟩
   rw [ha] at hd HCL2; rw [hz] at he HCL2; clear ha hz hcap hca hcz HCL hm; obtain ⟨ak, ⟨aax, aay⟩, ab, ac⟩ := a; obtain ⟨zk, za, ⟨zbx, zby⟩, zc⟩ := z
   dsimp only at hd he HCL2
   simp only [Nat.zero_mul, Nat.add_zero] at hd
   obtain ⟨_, d1, d2, _, _, _, _⟩ := hd; obtain ⟨_, _, _, e3, e4, _, _⟩ := he
   by_cases t1 : zbx = aax
   ·by_cases t2 : zby = aay
    ·have HCC2 : Hid (Pl.closes es = true) := oh (by rw [HCL2.out, t1, t2]; simp)
     have u1 : (aax == zbx) = true := by simp [t1]
     have u2 : (aay == zby) = true := by simp [t2]
     clear t1 t2 HCL2; go_wp2_with fail
     go_quiet (fail)
     have KQ := oh ((KX.out.trans K3.out).drewN nq)
     clear d1 d2 e3 e4 hw1 hw2
     cases ch
     ·have HV : Hid (fin = 12) := oh (by rw [HCC.out, if_neg (by simp)])
      go_wp2_with fail
      go_ret
      exact ⟨ret_int HV.out.symm, KQ.out⟩
     ·have HFIN : Hid (fin = if r ≠ 0 ∨ r < 0 ∨ 4194304 < r then 3 else 0) := oh (by rw [HCC.out, if_pos ⟨rfl, fun _ => HCC2.out⟩])
      by_cases hr0 : r = 0
      ·subst hr0; have HV : Hid (fin = 0) := oh (by rw [HFIN.out, if_neg (by omega)])
       clear HFIN; go_wp2_with fail
       go_ret
       exact ⟨ret_int HV.out.symm, KQ.out⟩
      ·have hr1 : (r == 0) = false := by simpa using hr0
       have HV : Hid (fin = 3) := oh (by rw [HFIN.out, if_pos (.inl hr0)])
       clear HFIN; go_wp2_with fail
       go_ret
       exact ⟨ret_int HV.out.symm, KQ.out⟩
    ·have HCC2 : Hid (Pl.closes es = false) := oh (by rw [HCL2.out, t1]; simp [t2])
     have u1 : (aax == zbx) = true := by simp [t1]
     have u2 : (aay == zby) = false := by simpa using fun h => t2 h.symm
     clear t1 t2 HCL2; go_wp2_with fail
     go_quiet (fail)
     have KQ := oh ((KX.out.trans K3.out).drewN nq)
     clear d1 d2 e3 e4 hw1 hw2
     cases ch
     ·have HV : Hid (fin = 12) := oh (by rw [HCC.out, if_neg (by simp)])
      go_wp2_with fail
      go_ret
      exact ⟨ret_int HV.out.symm, KQ.out⟩
     ·have HV : Hid (fin = 12) := oh (by rw [HCC.out, if_neg (show ¬ (true = true ∧ (True → Pl.closes es = true)) from fun h => by have := h.2 trivial; rw [HCC2.out] at this; cases this)])
      go_wp2_with fail
      go_ret
      exact ⟨ret_int HV.out.symm, KQ.out⟩
   ·have HCC2 : Hid (Pl.closes es = false) := oh (by rw [HCL2.out]; simp [t1])
    have u1 : (aax == zbx) = false := by simpa using fun h => t1 h.symm
    clear t1 HCL2; go_wp2_with fail
    go_quiet (fail)
    have KQ := oh ((KX.out.trans K3.out).drewN nq)
    clear d1 d2 e3 e4 hw1 hw2
    cases ch
    ·have HV : Hid (fin = 12) := oh (by rw [HCC.out, if_neg (by simp)])
     go_wp2_with fail
     go_ret
     exact ⟨ret_int HV.out.symm, KQ.out⟩
    ·have HV : Hid (fin = 12) := oh (by rw [HCC.out, if_neg (show ¬ (true = true ∧ (True → Pl.closes es = true)) from fun h => by have := h.2 trivial; rw [HCC2.out] at this; cases this)])
     go_wp2_with fail
     go_ret
     exact ⟨ret_int HV.out.symm, KQ.out⟩
theorem rscheck_any (s : Pl.Sh) (n : Nat) (hn : s.es.length = n) (ao : Option Addr) (cap : Nat) (w : World) (hes : LiesAt 7 edC w ao cap s.es) :
  Calls Tryz.prog 31 #[.agg #[I6 s.k, .slice ao n cap, I6 s.r]] w fun E w' => E = .returned (I6 (Pl.chk s)) ∧ Kp w w' none := by
 obtain ⟨k, es, r⟩ := s
 dsimp only at hn hes ⊢
 by_cases h1 : k = 1
 ·subst h1
  by_cases h2 : n = 0
  ·rw [Pl.chk_few ⟨1, es, r⟩ (.inr (.inl (by show es.length = 0; omega)))]
   exact rscheck_none1 r n ao cap w (by omega)
  ·by_cases h3 : 40 < n
   ·rw [Pl.chk_many ⟨1, es, r⟩ (.inl rfl) (by show 40 < es.length; omega)]
    exact rscheck_many1 r n ao cap w (by omega) (by omega)
   ·exact rscheck_main1 r es n hn ao cap w hes (by omega) (by omega)
 ·by_cases h2 : k = 2
  ·subst h2
   by_cases h4 : n < 2
   ·rw [Pl.chk_few ⟨2, es, r⟩ (.inr (.inr ⟨rfl, by show es.length < 2; omega⟩))]
    exact rscheck_few2 r n ao cap w (by omega)
   ·by_cases h5 : 40 < n
    ·rw [Pl.chk_many ⟨2, es, r⟩ (.inr rfl) (by show 40 < es.length; omega)]
     exact rscheck_many2 r n ao cap w (by omega) (by omega)
    ·exact rscheck_main2 r es n hn ao cap w hes (by omega) (by omega)
  ·rw [Pl.chk_few ⟨k, es, r⟩ (.inl ⟨h1, h2⟩)]; exact rscheck_kind k r n ao cap w (by simpa using h1) (by simpa using h2)
end Go.Proofs.YtljjbdbgedmadaaGreatDoor
