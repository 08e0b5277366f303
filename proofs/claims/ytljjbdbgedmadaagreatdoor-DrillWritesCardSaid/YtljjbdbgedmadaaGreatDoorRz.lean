/- The reference's file of holes. Condition: at most a million holes. -/
import Derived.Test.YtljjbdbgedmadaaGreatDoorRq
import Derived.Test.YtljjbdbgedmadaaGreatDoorRm
import Derived.Test.YtljjbdbgedmadaaGreatDoorWt
set_option maxHeartbeats 16000000
set_option maxRecDepth 100000
namespace Go.Proofs.YtljjbdbgedmadaaGreatDoor
open Go.RowKit Go.Lib
def Z1Rel (hs : List Dl.Ho) (w : World) (i : Value) (wr : World) : Prop := ∃ k : Nat, k ≤ hs.length ∧ i = I6 k ∧ (∀ j, (hj2 : j < hs.length) → j < k → Dl.chkH hs[j] = 0) ∧ Kp w wr none
def Z2Rel (l0 : List UInt8) (rs : List Int) (W : World) (v i : Value) (wr : World) : Prop := ∃ k : Nat, k ≤ rs.length ∧ i = I6 k ∧ v = str (l0 ++ Dl.toolsTo rs k) ∧ Kp W wr none
def Z3Rel (l1 : List UInt8) (rs : List Int) (hs : List Dl.Ho) (W : World) (v i : Value) (wr : World) : Prop := ∃ k : Nat, k ≤ hs.length ∧ i = I6 k ∧ v = str (l1 ++ Dl.holesT rs none (hs.take k)) ∧ Kp W wr none
structure ZoSt (W : World) (hb : Nat) (cs : Array Value) (V : World) : Prop where
 blk : V.heap[hb]? = some (.cells cs 52 (0, 0))
 kp : Kp W V none
theorem ZoSt.keep {W : World} {hb : Nat} {cs : Array Value} {V V' : World} (h : ZoSt W hb cs V) (k : Kp V V' none) : ZoSt W hb cs V' :=
 ⟨Go.Proofs.YtljjbdbgedmadaaGreatDoor.blk h.blk k, h.kp.trans k⟩
theorem rwrite_any (ts : List HT) (n : Nat) (hn : ts.length = n) (ao : Option Addr) (cap : Nat) (w : World) (hts : HolesAt w ao cap ts) (hl : n ≤ 1000000) :
  Calls Tryz.prog 11 #[.slice ao n cap] w fun E w' => WrIs w E w' (Dl.write (ts.map (·.h))) := by
 have HRAD := oh (fun V (kv : Kp w V none) => radii_any ts n hn ao cap V (hts.keep kv) hl)
 obtain ⟨hs, hhs⟩ : ∃ hs, ts.map (·.h) = hs := ⟨_, rfl⟩
 have hln : hs.length = n := by rw [← hhs, List.length_map, hn]
 have HGET : Hid (∀ k, (h1 : k < ts.length) → (h2 : k < hs.length) → ts[k].h = hs[k]) := oh fun k h1 h2 => by subst hhs; simp
 rw [hhs] at HRAD ⊢; have HTN := oh hn; have HHN := oh hln; have HT := oh hts; obtain ⟨fin, hfin⟩ : ∃ f, Dl.write hs = f := ⟨_, rfl⟩
 have HFIN := oh hfin; rw [hfin]; clear hts hfin hhs hn hln; have hn0 := nn n; go_enter Tryz.func11, Tryz.ntmps11
 go_wp2_with fail
 go_loopw [4] (fun i wr => Z1Rel hs w i wr) (fun i _ => n - (intOf i).toNat)
 case atStart => exact ⟨0, Nat.zero_le _, rfl, fun j _ hj => absurd hj (Nat.not_lt_zero _), Kp.refl _ _⟩
 case round =>
  obtain ⟨k, hk, rfl, hgood, hkp⟩ := hrel; have HG := oh hgood; have HK := oh hkp; clear hgood hkp
  have hk0 := nn k
  by_cases hlt : k < n
  ·have hk1 : (k : Int) < (n : Int) := by omega
   have hltT : k < ts.length := by rw [HTN.out]; exact hlt
   have hltH : k < hs.length := by rw [HHN.out]; exact hlt
   obtain ⟨bo, off, rfl, hcap, hbo, hcells⟩ := HT.out.ho hltT
   rw [HTN.out] at hcap; obtain ⟨⟨h, ea, ec⟩, ht⟩ : ∃ t, ts[k] = t := ⟨_, rfl⟩
   have hgh := HGET.out k hltT hltH
   rw [ht] at hcells hgh; dsimp only at hcells hgh
   have HLE := oh (HT.out.2 ⟨h, ea, ec⟩ (by rw [← ht]; exact List.getElem_mem hltT))
   obtain ⟨sn, hsn⟩ : ∃ n, h.s.es.length = n := ⟨_, rfl⟩
   rw [hsn] at hcells; have HCX := oh (fun V (kv : Kp w V none) => hcells V kv)
   obtain ⟨e0, e1, e2, e3, e4, e5⟩ := hcells wr HK.out
   have HCK : Hid (∀ V, Kp wr V none → Calls Tryz.prog 31 #[.agg #[I6 h.s.k, .slice ea sn ec, I6 h.s.r]] V fun E w' => E = .returned (I6 (Pl.chk h.s)) ∧ Kp V w' none) := oh fun V kv => rscheck_any h.s sn hsn ea ec V (HLE.out.keep (HK.out.trans kv))
   have HCE : Hid (Dl.chkH hs[k] = Dl.chkH h) := oh (by rw [← hgh])
   have HBAD : Hid (Dl.chkH h ≠ 0 → fin = ([], Dl.chkH h)) := oh (fun hne => by
    have hb := Dl.firstBad_at hltH (fun i hi => HG.out i (by omega) hi) (by rw [HCE.out]; exact hne)
    rw [HCE.out] at hb; rw [← HFIN.out, write_bad (by rw [hb]; exact hne), hb])
   have HGO : Hid (Dl.chkH h = 0 → ∀ V, Kp wr V none → Z1Rel hs w (I6 (k + 1)) V) := oh fun h0 V kv => ⟨k + 1, hltH, by go_num, fun j hj2 hj => by
    by_cases hjk : j = k
    ·subst hjk; rw [HCE.out]; exact h0
    ·exact HG.out j hj2 (by omega), HK.out.trans kv⟩
   have HDEF : Hid (Dl.chkH h = if Pl.chk h.s ≠ 0 then Pl.chk h.s else if h.s.k ≠ 1 ∨ h.s.r = 0 then 12 else if Dl.spanR h.f h.t = false then 72 else 0) := oh rfl
   have HSP : Hid (∀ V, Calls Tryz.prog 32 #[I6 h.f, I6 h.t] V fun E w' => E = .returned (.bool (Dl.spanR h.f h.t)) ∧ V = w') := oh fun V => rspan_any h.f h.t V
   obtain ⟨ce, hce⟩ : ∃ x, Dl.chkH h = x := ⟨_, rfl⟩
   rw [hce] at HBAD HGO HDEF; obtain ⟨e, hee⟩ : ∃ x, Pl.chk h.s = x := ⟨_, rfl⟩
   rw [hee] at HCK HDEF; obtain ⟨sp, hsp⟩ : ∃ x, Dl.spanR h.f h.t = x := ⟨_, rfl⟩
   rw [hsp] at HSP HDEF; obtain ⟨⟨sk, ses, sr⟩, hf, ht2, hpl⟩ := h
   dsimp only at e0 e1 e2 e3 e4 e5 HCX HCK HSP HDEF
   clear hcells ht hgh hsn hce hee hsp HCE hltT hltH
   by_cases hez : e = 0
   ·by_cases hkz : sk = 1
    ·by_cases hrz : sr = 0
     ·have HFE : Hid (fin = ([], 12)) := oh (by
       have hd := HDEF.out; rw [if_neg (by rw [hez]; simp), if_pos (.inr hrz)] at hd
       rw [HBAD.out (by rw [hd]; decide), hd])
      subst hez hkz hrz
      go_wp2_with (go_at_call 31; refine (HCK.out _ (Kp.refl _ _)).mono ?_; rintro E w2 ⟨rfl, k2⟩; have K2 := oh (HK.out.trans k2); obtain ⟨x0, _, x2, x3, x4, _⟩ := HCX.out w2 K2.out; clear k2 e0 e1 e2 e3 e4 e5)
      go_ret2
      exact wr_is (t := []) HFE.out K2.out
     ·have hr1 : (sr == 0) = false := by simpa using hrz
      have HDE2 : Hid (ce = if sp = false then 72 else 0) := oh (by
       have hd := HDEF.out
       rwa [if_neg (by rw [hez]; simp), if_neg (by rintro (h | h); exact h hkz; exact hrz h)] at hd)
      subst hez hkz
      clear hrz HDEF; go_upto_region 9 with (go_at_call 31; refine (HCK.out _ (Kp.refl _ _)).mono ?_; rintro E w2 ⟨rfl, k2⟩; have K1 := oh k2; have K2 := oh (HK.out.trans k2); obtain ⟨x0, _, x2, x3, x4, _⟩ := HCX.out w2 K2.out; clear k2 e0 e1 e2 e3 e4 e5)
      have HC9 : Hid (∀ V, Kp w V none → V.cell? ⟨bo, off + k * 6 + 3, none⟩ = some (I6 hf) ∧ V.cell? ⟨bo, off + k * 6 + 4, none⟩ = some (I6 ht2)) := oh fun V kv => ⟨(HCX.out V kv).2.2.2.1, (HCX.out V kv).2.2.2.2.1⟩
      clear x0 x2 x3 x4; refine wp_region_held_drew (S := fun V => V.cell? ⟨bo, off + k * 6 + 3, none⟩ = some (I6 hf) ∧ V.cell? ⟨bo, off + k * 6 + 4, none⟩ = some (I6 ht2) ∧ Hid (Kp w2 V none)) (by kernel_rfl) (⟨(HC9.out _ (K2.out.trans (Kp.refl w2 none).drew)).1, (HC9.out _ (K2.out.trans (Kp.refl w2 none).drew)).2, oh (Kp.refl w2 none).drew⟩) (fun eh => ?_)
      refine tjH 0 rfl ?_; refine tjH 1 rfl ?_; refine tjH 5 rfl ?_; refine tjH 6 rfl ?_; refine tjH 2 rfl ?_; refine tjH 7 rfl ?_; refine tjH 3 rfl ?_; refine tjH 8 rfl ?_; refine tjH 4 rfl ?_; refine tjH 9 rfl ?_; refine rdH 10 rfl (fun K hK => ?_); have gK := eh.2.2; clear eh; go_simp
      refine (HSP.out _).mono ?_
      rintro e V1 ⟨rfl, rfl⟩; have kk := Kp.refl (World.drew w2) none
      try go_wp2_with fail
      refine hK.out _ _ (⟨(HC9.out _ (K2.out.trans (gK.out.trans kk))).1, (HC9.out _ (K2.out.trans (gK.out.trans kk))).2, oh (gK.out.trans kk)⟩) (fun eh => ?_)
      clear hK K gK kk; try simp only [Act.put, sm]
      refine rdH 11 rfl (fun K hK => ?_); have gK := eh.2.2; clear eh; go_simp; try go_wp2_with fail
      refine hK.out _ _ (⟨(HC9.out _ (K2.out.trans gK.out)).1, (HC9.out _ (K2.out.trans gK.out)).2, oh gK.out⟩) (fun _ => ?_)
      have KZ := oh gK.out
      clear hK K gK; try simp only [Act.put, sm]
      refine wpAnyH_done (by kernel_rfl) ?_ _
      have KY := KZ; have KZ := oh (K2.out.trans KY.out)
      cases sp with
      | false =>
       have HFE : Hid (fin = ([], 72)) := oh (by
        have hd := HDE2.out; rw [if_pos rfl] at hd; rw [HBAD.out (by rw [hd]; decide), hd])
       have K9 := oh KZ.out
       go_wp2_with fail
       go_ret2
       exact wr_is (t := []) HFE.out K9.out
      | true =>
       have HREL : Hid (Z1Rel hs w (I6 (k + 1)) _) := oh (HGO.out HDE2.out _ (K1.out.trans KY.out))
       go_wp2_with fail
       first | exact ⟨HREL.out, by simp [intOf]; omega⟩ | (go_roundw; all_goals first | exact HREL.out | (simp [intOf]; omega))
    ·have hk2 : (sk == 1) = false := by simpa using hkz
     have hk3 : (sk != 1) = true := by simpa using hkz
     have HFE : Hid (fin = ([], 12)) := oh (by
      have hd := HDEF.out; rw [if_neg (by rw [hez]; simp), if_pos (.inl hkz)] at hd
      rw [HBAD.out (by rw [hd]; decide), hd])
     subst hez; clear hkz HDEF HBAD; go_wp2_with (go_at_call 31; refine (HCK.out _ (Kp.refl _ _)).mono ?_; rintro E w2 ⟨rfl, k2⟩; have K2 := oh (HK.out.trans k2); obtain ⟨x0, _, x2, x3, x4, _⟩ := HCX.out w2 K2.out; clear k2 e0 e1 e2 e3 e4 e5)
     go_ret2
     exact wr_is (t := []) HFE.out K2.out
   ·have he1 : (e == 0) = false := by simpa using hez
    have he2 : (e != 0) = true := by simpa using hez
    have HFE : Hid (fin = ([], e)) := oh (by
     have hd := HDEF.out; rw [if_pos hez] at hd; rw [HBAD.out (by rw [hd]; exact hez), hd])
    clear hez HDEF HBAD; go_wp2_with (go_at_call 31; refine (HCK.out _ (Kp.refl _ _)).mono ?_; rintro E w2 ⟨rfl, k2⟩; have K2 := oh (HK.out.trans k2); clear k2 e0 e1 e2 e3 e4 e5)
    go_ret2
    exact wr_is (t := []) HFE.out K2.out
  ·have hk1 : ¬ (k : Int) < (n : Int) := by omega
   have hkn : k = n := by have := HHN.out; omega
   subst hkn
   have HFZ : Hid (Dl.firstBad hs = 0) := oh (Dl.firstBad_all fun h hh => by
    obtain ⟨j, hj, rfl⟩ := List.getElem_of_mem hh
    exact HG.out j hj (by have := HHN.out; omega))
   have HGD : Hid (∀ h ∈ hs, Dl.chkH h = 0) := oh (Dl.firstBad_zero HFZ.out)
   obtain ⟨rs, hrs⟩ : ∃ rs, Dl.radii hs = rs := ⟨_, rfl⟩
   have HRS := oh hrs; rw [hrs] at HRAD; have hrl : rs.length ≤ 1000000 := by rw [← hrs]; exact Nat.le_trans (Dl.radii_len hs) (by rw [HHN.out]; exact hl)
   obtain ⟨rn, hrn⟩ : ∃ x, rs.length = x := ⟨_, rfl⟩
   rw [hrn] at hrl; have HRN := oh hrn; have hr0 := nn rn; clear HG hk hrs hrn
   by_cases hmany : 990 < rn
   ·have hm1 : (990 : Int) < (rn : Int) := by omega
    have HFE : Hid (fin = ([], 2)) := oh (by rw [← HFIN.out, write_many HFZ.out (by rw [HRS.out, HRN.out]; exact hmany)])
    clear hmany; go_wp2_with (go_at_call 33; refine (HRAD.out _ HK.out).mono ?_; rintro E w2 ⟨v, rfl, ho, k2⟩; have K2 := oh (HK.out.trans k2); rw [HRN.out] at ho; obtain ⟨ra, rc, rfl⟩ := own_slice ho; clear ho k2)
    go_ret2
    exact wr_is (t := []) HFE.out K2.out
   have hm1 : ¬ (990 : Int) < (rn : Int) := by omega
   have HFM : Hid (¬ 262144 < (Dl.fileT hs).length → fin = (Dl.fileT hs, 0)) := oh fun h => by rw [← HFIN.out, write_ok HFZ.out (by rw [HRS.out, HRN.out]; exact hmany) h]
   have HFL : Hid (262144 < (Dl.fileT hs).length → fin = ([], 2)) := oh fun h => by rw [← HFIN.out, write_long HFZ.out h]
   have HR990 : Hid (rs.length ≤ 990) := oh (by rw [HRN.out]; omega)
   have HRG : Hid (∀ r ∈ rs, 1 ≤ r ∧ r ≤ 4194304) := oh fun r hr => by
    rw [← HRS.out] at hr; obtain ⟨h, hh, rfl⟩ := Dl.mem_radii.1 hr
    obtain ⟨c1, c2, c3, _⟩ := Dl.chkH_parts (HGD.out h hh)
    have := Dl.chk_facts c1 c2
    omega
   have HFLEN : Hid ((Dl.fileT hs).length ≤ 20 + 2040 * 1000000) := oh (by have := Dl.file_len HGD.out (by rw [HRS.out]; exact HR990.out); rw [HHN.out] at this; omega)
   clear HFIN hmany; go_upto_region 14 with (go_at_call 33; refine (HRAD.out _ HK.out).mono ?_; rintro E w3 ⟨v, rfl, ho, k2⟩; have K3 := oh (HK.out.trans k2); rw [HRN.out] at ho; obtain ⟨ra, rc, rfl⟩ := own_slice ho; have HLA := oh (own_lies (f := intVal) (xs := rs) (fun _ => rfl) (by rw [HRN.out]; exact ho)).2; clear ho k2)
   have HTS := oh (HT.out.keep K3.out)
   obtain ⟨l0, hl0⟩ : ∃ l, Dl.ln Dl.kM48 ++ Dl.ln Dl.kEt = l := ⟨_, rfl⟩
   have HL0 := oh hl0; have hl0n : l0.length = 13 := by rw [← hl0]; rfl
   have HL0N := oh hl0n; have HL0S : Hid (str l0 = .string ⟨#[77, 52, 56, 10, 59, 101, 116, 99, 104, 97, 110, 116, 10]⟩) := oh (by rw [← hl0]; rfl)
   clear hl0 hl0n HT HRAD; go_wp2_with fail
   go_loopw [7, 8] (fun v i wr => Z2Rel l0 rs w3 v i wr) (fun _ i _ => rn - (intOf i).toNat)
   case atStart => exact ⟨0, Nat.zero_le _, rfl, by rw [show l0 ++ Dl.toolsTo rs 0 = l0 by simp [Dl.toolsTo], HL0S.out], Kp.refl _ _⟩
   case round =>
    obtain ⟨j, hj, rfl, rfl, hkp⟩ := hrel; have HKJ := oh hkp; clear hkp
    have hj0 := nn j; have hjr : j ≤ rn := by have := HRN.out; omega
    by_cases hlt : j < rn
    ·have hj1 : (j : Int) < (rn : Int) := by omega
     have hltR : j < rs.length := by rw [HRN.out]; exact hlt
     obtain ⟨g, off, rfl, hg, hcap, hcell⟩ := HLA.out.int j hltR
     have hcap2 : rn ≤ rc := by have := HRN.out; omega
     obtain ⟨r, hr⟩ : ∃ r, rs[j] = r := ⟨_, rfl⟩
     have HC0 : Hid (∀ V, Kp wr V none → V.cell? ⟨g, off + j, none⟩ = some (I6 r)) := oh fun V kv => by have := ((HKJ.out.trans kv).below.cell (p := ⟨g, off + j, none⟩) hg).trans (hcell j hltR); rw [hr] at this; exact this
     have hrr := HRG.out r (by rw [← hr]; exact List.getElem_mem _)
     have HTS2 : Hid (Dl.toolsTo rs (j + 1) = Dl.toolsTo rs j ++ Dl.toolLn j r) := oh (by rw [Dl.tools_step rs hltR, hr])
     have htl := Dl.tools_len HR990.out HRG.out j (by omega)
     have HREL0 : Hid (∀ (t : List UInt8) V, t = (l0 ++ Dl.toolsTo rs j) ++ Dl.toolLn j r → Kp wr V none → Z2Rel l0 rs w3 (str t) (I6 (j + 1)) V) := oh fun t V h1 k1 => ⟨j + 1, hltR, by go_num, by rw [h1, HTS2.out, ← List.append_assoc], HKJ.out.trans k1⟩
     have hlkb : (l0 ++ Dl.toolsTo rs j).length ≤ 100000 := by rw [List.length_append]; have := HL0N.out; have := HR990.out; omega
     obtain ⟨lk, hlk⟩ : ∃ l, l0 ++ Dl.toolsTo rs j = l := ⟨_, rfl⟩
     rw [hlk] at HREL0 hlkb ⊢; have HLB := oh hlkb; obtain ⟨qa, hqa⟩ : ∃ q : Int, (j : Int) + 1 = q := ⟨_, rfl⟩
     obtain ⟨qb, hqb⟩ : ∃ q : Int, 2 * r = q := ⟨_, rfl⟩
     have MA : Hid (Mid qa) := oh (by unfold Mid; omega)
     have MB : Hid (Mid qb) := oh (by unfold Mid; omega)
     have HN1 : Hid (IntKind.i64.wrap ((j : Int) + 1) = qa) := oh (by rw [← hqa, IntKind.wrap_i64]; have := MA.out; unfold Mid at this; omega)
     have HN2 : Hid (IntKind.i64.wrap (2 * r) = qb) := oh (by rw [← hqb, IntKind.wrap_i64]; have := MB.out; unfold Mid at this; omega)
     have HTL : Hid (Dl.toolLn j r = [84] ++ Lib.itoa qa ++ [67] ++ Lib.itoa qb ++ [10]) := oh (by rw [← hqa, ← hqb]; rfl)
     clear hr hlk htl hlkb hcell hcap hg hrr hqa hqb hltR; go_upto_region 18 with fail
     obtain ⟨q1, hq1⟩ : ∃ zz : List UInt8, lk ++ [84] = zz := ⟨_, rfl⟩
     have Bq1 : Hid ((⟨(lk).toArray⟩ : ByteArray) ++ (⟨#[84]⟩ : ByteArray) = ⟨(q1).toArray⟩) := oh (by rw [← hq1]; exact ByteArray.mk_append_mk _ _)
     have laq1 : (lk).length ≤ 100000 := HLB.out
     have bq1 : q1.length ≤ 100001 := by rw [← hq1, List.length_append]; (try simp only [List.length_cons, List.length_nil]); omega
     have Gq1 : Hid ((9223372036854775807 < (lk).length + 1) = False) := oh (eq_false (by (try simp only [List.length_cons, List.length_nil]); omega))
     have Hq1 := oh hq1; clear hq1 laq1; obtain ⟨q2, hq2⟩ : ∃ zz : List UInt8, q1 ++ Lib.itoa qa = zz := ⟨_, rfl⟩
     have Bq2 : Hid ((⟨(q1).toArray⟩ : ByteArray) ++ (⟨(Lib.itoa qa).toArray⟩ : ByteArray) = ⟨(q2).toArray⟩) := oh (by rw [← hq2]; exact ByteArray.mk_append_mk _ _)
     have lbq2 : (Lib.itoa qa).length ≤ 20 := itoa_length qa MA.out
     have bq2 : q2.length ≤ 100021 := by rw [← hq2, List.length_append]; (try simp only [List.length_cons, List.length_nil]); omega
     have Gq2 : Hid ((9223372036854775807 < (q1).length + (Lib.itoa qa).length) = False) := oh (eq_false (by (try simp only [List.length_cons, List.length_nil]); omega))
     have Hq2 := oh hq2; clear hq2 lbq2; obtain ⟨q3, hq3⟩ : ∃ zz : List UInt8, q2 ++ [67] = zz := ⟨_, rfl⟩
     have Bq3 : Hid ((⟨(q2).toArray⟩ : ByteArray) ++ (⟨#[67]⟩ : ByteArray) = ⟨(q3).toArray⟩) := oh (by rw [← hq3]; exact ByteArray.mk_append_mk _ _)
     have bq3 : q3.length ≤ 100022 := by rw [← hq3, List.length_append]; (try simp only [List.length_cons, List.length_nil]); omega
     have Gq3 : Hid ((9223372036854775807 < (q2).length + 1) = False) := oh (eq_false (by (try simp only [List.length_cons, List.length_nil]); omega))
     have Hq3 := oh hq3; clear hq3; obtain ⟨q4, hq4⟩ : ∃ zz : List UInt8, q3 ++ Lib.itoa qb = zz := ⟨_, rfl⟩
     have Bq4 : Hid ((⟨(q3).toArray⟩ : ByteArray) ++ (⟨(Lib.itoa qb).toArray⟩ : ByteArray) = ⟨(q4).toArray⟩) := oh (by rw [← hq4]; exact ByteArray.mk_append_mk _ _)
     have lbq4 : (Lib.itoa qb).length ≤ 20 := itoa_length qb MB.out
     have bq4 : q4.length ≤ 100042 := by rw [← hq4, List.length_append]; (try simp only [List.length_cons, List.length_nil]); omega
     have Gq4 : Hid ((9223372036854775807 < (q3).length + (Lib.itoa qb).length) = False) := oh (eq_false (by (try simp only [List.length_cons, List.length_nil]); omega))
     have Hq4 := oh hq4; clear hq4 lbq4; obtain ⟨q5, hq5⟩ : ∃ zz : List UInt8, q4 ++ [10] = zz := ⟨_, rfl⟩
     have Bq5 : Hid ((⟨(q4).toArray⟩ : ByteArray) ++ (⟨#[10]⟩ : ByteArray) = ⟨(q5).toArray⟩) := oh (by rw [← hq5]; exact ByteArray.mk_append_mk _ _)
     have bq5 : q5.length ≤ 100043 := by rw [← hq5, List.length_append]; (try simp only [List.length_cons, List.length_nil]); omega
     have Gq5 : Hid ((9223372036854775807 < (q4).length + 1) = False) := oh (eq_false (by (try simp only [List.length_cons, List.length_nil]); omega))
     have Hq5 := oh hq5; clear hq5; clear bq1 bq2 bq3 bq4 bq5; refine wp_region_held_drew (S := fun V => V.cell? ⟨g, off + j, none⟩ = some (I6 r) ∧ Hid (Kp wr V none)) (by kernel_rfl) (⟨HC0.out _ (Kp.refl wr none).drew, oh (Kp.refl wr none).drew⟩) (fun eh => ?_)
     refine tjH 0 rfl ?_; refine tjH 2 rfl ?_; refine tjH 7 rfl ?_; refine tjH 8 rfl ?_
     have eq1 := Bq1.out
     have gq1 := Gq1.out
     refine tjH 1 rfl ?_; clear gq1 eq1; have hn1 := HN1.out; refine tjH 3 rfl ?_; clear hn1; refine tjH 9 rfl ?_; refine tjH 10 rfl ?_; have hn2 := HN2.out; refine tjH 11 rfl ?_; clear hn2; refine rdH 4 rfl (fun K hK => ?_); have gK := eh.2; clear eh; go_simp
     refine (dec_any qa MA.out _).mono ?_
     rintro e V1 ⟨rfl, kk⟩; try go_wp2_with fail
     refine hK.out _ _ (⟨HC0.out _ (gK.out.trans kk), oh (gK.out.trans kk)⟩) (fun eh => ?_)
     clear hK K gK kk; try simp only [Act.put, sm]
     have eq2 := Bq2.out
     have gq2 := Gq2.out
     refine tjH 5 rfl ?_; clear gq2 eq2
     have eq3 := Bq3.out
     have gq3 := Gq3.out
     refine tjH 6 rfl ?_; clear gq3 eq3; refine rdH 12 rfl (fun K hK => ?_); have gK := eh.2; clear eh; go_simp
     refine (dec_any qb MB.out _).mono ?_
     rintro e V2 ⟨rfl, kk⟩; try go_wp2_with fail
     refine hK.out _ _ (⟨HC0.out _ (gK.out.trans kk), oh (gK.out.trans kk)⟩) (fun eh => ?_)
     clear hK K gK kk; try simp only [Act.put, sm]
     have eq4 := Bq4.out
     have gq4 := Gq4.out
     refine tjH 13 rfl ?_; clear gq4 eq4
     have eq5 := Bq5.out
     have gq5 := Gq5.out
     refine tjH 14 rfl ?_; clear gq5 eq5; refine rdH 15 rfl (fun K hK => ?_); have gK := eh.2; clear eh; go_simp; try go_wp2_with fail
     refine hK.out _ _ (⟨HC0.out _ gK.out, oh gK.out⟩) (fun _ => ?_)
     have KZ := oh gK.out
     clear hK K gK; try simp only [Act.put, sm]
     refine wpAnyH_done (by kernel_rfl) ?_ _
     have HREL := oh (HREL0.out q5 _ (by rw [← Hq5.out, ← Hq4.out, ← Hq3.out, ← Hq2.out, ← Hq1.out, HTL.out]; simp only [List.append_assoc]) KZ.out)
     go_wp2_with fail
     first | exact ⟨HREL.out, by simp [intOf]; omega⟩ | (go_roundw; all_goals first | exact HREL.out | (simp [intOf]; omega))
    ·have hj1 : ¬ (j : Int) < (rn : Int) := by omega
     have hjn : j = rn := by omega
     subst hjn; have htl := Dl.tools_len HR990.out HRG.out rs.length (Nat.le_refl _)
     rw [HRN.out] at htl; obtain ⟨l1, hl1⟩ : ∃ l, (l0 ++ Dl.toolsTo rs j) ++ Dl.ln Dl.kPc = l := ⟨_, rfl⟩
     have HFILE : Hid (Dl.fileT hs = (l1 ++ Dl.holesT rs none hs) ++ Dl.ln Dl.kM30) := oh (by unfold Dl.fileT; rw [HRS.out, ← hl1, ← HL0.out, HRN.out])
     have HLEN3 : Hid (∀ j, (l1 ++ Dl.holesT rs none (hs.take j)).length ≤ 20 + 2040 * 1000000) := oh fun j => by
      have h1 := Dl.holes_le rs hs j
      have h2 := HFLEN.out; rw [HFILE.out, List.length_append, List.length_append] at h2; rw [List.length_append]; omega
     have hlkb : (l0 ++ Dl.toolsTo rs j).length ≤ 100000 := by rw [List.length_append]; have := HL0N.out; have := HR990.out; rw [HRN.out] at this; omega
     obtain ⟨lk, hlk⟩ : ∃ l, l0 ++ Dl.toolsTo rs j = l := ⟨_, rfl⟩
     rw [hlk] at hl1 hlkb ⊢; have s3 : (⟨lk.toArray⟩ : ByteArray) ++ ⟨#[37, 10]⟩ = ⟨l1.toArray⟩ := sumB lk [37, 10] l1 hl1
     have g3 : (9223372036854775807 < lk.length + 2) = False := eq_false (by omega)
     have KJ0 := oh HKJ.out
     clear hj hlk htl hl1 hlkb HKJ; go_wp2_with fail
     clear s3 g3; go_loopw [7, 9] (fun v i wr => Z3Rel l1 rs hs w3 v i wr) (fun _ i _ => k - (intOf i).toNat)
     case atStart => exact ⟨0, Nat.zero_le _, rfl, by simp [Dl.holesT], KJ0.out⟩
     case round =>
      obtain ⟨j, hj, rfl, rfl, hkp⟩ := hrel; have HKJ := oh hkp; clear hkp KJ0
      have hj0 := nn j
      by_cases hlt : j < k
      ·have hj1 : (j : Int) < (k : Int) := by omega
       have hltT : j < ts.length := by rw [HTN.out]; exact hlt
       have hltH : j < hs.length := by rw [HHN.out]; exact hlt
       obtain ⟨bo, off, rfl, hcap, hbo, hcells⟩ := HTS.out.ho hltT
       rw [HTN.out] at hcap; obtain ⟨⟨h, ea, ec⟩, ht⟩ : ∃ t, ts[j] = t := ⟨_, rfl⟩
       have hgh := HGET.out j hltT hltH
       rw [ht] at hcells hgh; dsimp only at hcells hgh
       have HLE := oh (HTS.out.2 ⟨h, ea, ec⟩ (by rw [← ht]; exact List.getElem_mem hltT))
       obtain ⟨sn, hsn⟩ : ∃ n, h.s.es.length = n := ⟨_, rfl⟩
       rw [hsn] at hcells; obtain ⟨e0, e1, e2, e3, e4, e5⟩ := hcells wr HKJ.out
       have hhm : h ∈ hs := by rw [hgh]; exact List.getElem_mem hltH
       obtain ⟨c1, c2, c3, c4⟩ := Dl.chkH_parts (HGD.out h hhm)
       obtain ⟨f1, f2, _, f4, f5⟩ := Dl.chk_facts c1 c2
       have HPA : Hid (h.s.es ≠ [] ∧ (∀ e ∈ h.s.es, Pl.chkE e = 0) ∧ sn ≤ 40 ∧ h.s.es.length = sn ∧ (Mid h.f ∧ Mid h.t)) := oh ⟨f1, f2, by rw [← hsn]; exact Dl.chk_40 c1, hsn, by have := Dl.spanR_iff.1 c4; unfold Mid; omega⟩
       have HRM : Hid (h.s.r ∈ rs) := oh (by rw [← HRS.out]; exact Dl.mem_radii.2 ⟨h, hhm, rfl⟩)
       have HSTEP : Hid (Dl.holesT rs none (hs.take (j + 1)) = Dl.holesT rs none (hs.take j) ++ Dl.holeT rs (Dl.prev hs j) h) := oh (by rw [Dl.holes_step rs hltH, ← hgh])
       have HLN := oh (HLEN3.out (j + 1))
       clear hcells hgh ht hsn c1 c2 c3 c4 f1 f2 f4 f5 hhm; have k1 : Kp wr (wr.alloc (.cells #[I6 h.s.k, .slice ea sn ec, I6 h.s.r, I6 h.f, I6 h.t, .bool h.pl] 52)) none := (Kp.refl wr none).alloc _
       have HBH := oh (heap_alloc_new wr (.cells #[I6 h.s.k, .slice ea sn ec, I6 h.s.r, I6 h.f, I6 h.t, .bool h.pl] 52))
       have K1 := oh k1; obtain ⟨lj, hlj⟩ : ∃ l, l1 ++ Dl.holesT rs none (hs.take j) = l := ⟨_, rfl⟩
       have HLJ := oh hlj; rw [hlj]; clear k1 hlj; go_upto_region 24 with fail
       clear e0 e1 e2 e3 e4 e5
       generalize wr.alloc (.cells #[I6 h.s.k, .slice ea sn ec, I6 h.s.r, I6 h.f, I6 h.t, .bool h.pl] 52) = Y at *
       have HST0 : Hid (ZoSt w3 wr.heap.size #[I6 h.s.k, .slice ea sn ec, I6 h.s.r, I6 h.f, I6 h.t, .bool h.pl] Y) := oh ⟨HBH.out, HKJ.out.trans K1.out⟩
       obtain ⟨hb, hhb⟩ : ∃ x, wr.heap.size = x := ⟨_, rfl⟩
       rw [hhb] at HST0 ⊢; clear HBH hhb
       obtain ⟨tb, htb⟩ : ∃ t : Bool, (match Dl.prev hs j with | none => true | some q => !Dl.sameSpan h q) = t := ⟨_, rfl⟩
       obtain ⟨tc, htc⟩ : ∃ t : Bool, (match Dl.prev hs j with | none => true | some q => decide (h.s.r ≠ q.s.r)) = t := ⟨_, rfl⟩
       have HHT : Hid (Dl.holeT rs (Dl.prev hs j) h = (if tb then Dl.spanLn h else []) ++ (if tc then Dl.selLn rs h.s.r else []) ++ Dl.pathT h.s) := oh (by
        rw [← htb, ← htc]
        cases Dl.prev hs j with
        | none => simp [holeT_first]
        | some q =>
         rw [holeT_next]
         cases hsp : Dl.sameSpan h q <;> by_cases hr : h.s.r = q.s.r <;> simp [hsp, hr])
       have HB4 : Hid (lj.length + (if tb then Dl.spanLn h else []).length + (if tc then Dl.selLn rs h.s.r else []).length + (Dl.pathT h.s).length ≤ 20 + 2040 * 1000000) := oh (by
        have h1 := HLN.out; rw [HSTEP.out, ← List.append_assoc, HLJ.out, HHT.out] at h1; simp only [List.length_append] at h1 ⊢
        omega)
       have HTC : Hid ((match Dl.prev hs j with | none => true | some q => decide (h.s.r ≠ q.s.r)) = tc) := oh htc
       clear HLN htc K1; go_cut [127] from 93 to 127 (fun t wx => t = .bool tb ∧ Kp Y wx none)
       case first =>
        cases j with
        | zero =>
         have htb2 : tb = true := by rw [← htb]; rfl
         subst htb2; clear htb; rw [show ((0 : Nat) : Int) = 0 from rfl]; go_quiet (fail)
         go_wp2_with fail
         go_meet
         exact ⟨rfl, (Kp.refl _ _).drewN nq⟩
        | succ m =>
         have hm0 := nn m; have hmT : m < ts.length := by omega
         have hmH : m < hs.length := by omega
         obtain ⟨⟨q, qa, qc⟩, hq⟩ : ∃ t, ts[m] = t := ⟨_, rfl⟩
         have hgq := HGET.out m hmT hmH
         rw [hq] at hgq; dsimp only at hgq
         obtain ⟨bo', off', hao, _, _, hcellq⟩ := HTS.out.ho hmT
         injection hao with hao; injection hao with e1 e2; subst e1; subst e2; rw [hq] at hcellq
         dsimp only at hcellq
         have HS24 : Hid (∀ V, Kp Y V none → V.cell? ⟨hb, 3, none⟩ = some (I6 h.f) ∧ V.cell? ⟨hb, 4, none⟩ = some (I6 h.t) ∧ V.cell? ⟨hb, 5, none⟩ = some (.bool h.pl) ∧ V.cell? ⟨bo, off + m * 6 + 3, none⟩ = some (I6 q.f) ∧ V.cell? ⟨bo, off + m * 6 + 4, none⟩ = some (I6 q.t) ∧ V.cell? ⟨bo, off + m * 6 + 5, none⟩ = some (.bool q.pl) ∧ Hid (Kp Y V none)) := oh fun V kv =>
          have hz := HST0.out.keep kv
          have hy := hcellq V hz.kp
          ⟨hcell hz.blk 3 rfl, hcell hz.blk 4 rfl, hcell hz.blk 5 rfl, hy.2.2.2.1, hy.2.2.2.2.1, hy.2.2.2.2.2, oh kv⟩
         have hsb : tb = !Dl.sameSpan h q := by rw [← htb, Dl.prev_pos hltH, hgq]
         have HSB := oh hsb; have hcast : ((m + 1 : Nat) : Int) = (m : Int) + 1 := by omega
         rw [hcast]; have HCAST := oh hcast; have HQZ : Hid (((m : Int) + 1 == 0) = false) := oh (by simp; omega)
         have hmk : (m : Int) < (k : Int) := by omega
         have HWP : Hid (IntKind.i64.wrap ((m : Int) + 1 - 1) = (m : Int) ∧ IntKind.i64.wrap (m : Int) = (m : Int)) := oh ⟨(wrap_prev m (by omega)).2.1, (wrap_prev m (by omega)).2.2.2⟩
         obtain ⟨⟨hsk, hes, hsr⟩, hf, htt, hpl⟩ := h; obtain ⟨⟨qsk, qes, qsr⟩, qf, qt, qpl⟩ := q
         dsimp only [Dl.sameSpan] at HS24 HSB ⊢
         have hq1 := HQZ.out; have hmc : m < k := by omega
         clear hcast htb hsb hgq hq hcellq hlt hltT hltH hmT hmH hj hj1 hj0
         by_cases d1 : hf = qf
         ·by_cases d2 : htt = qt
          ·have a1 : (hf != qf) = false := by simpa using d1
           have a2 : (htt != qt) = false := by simpa using d2
           have HTB : Hid (tb = (hpl != qpl)) := oh (by rw [HSB.out]; simp [d1, d2]; cases hpl <;> cases qpl <;> rfl)
           clear d1 d2; have htt2 : tb = (hpl != qpl) := HTB.out
           subst htt2; obtain ⟨z3, z4, z5, y3, y4, y5, _⟩ := HS24.out Y (Kp.refl _ _)
           obtain ⟨hwp, hwp2⟩ := HWP.out
           go_quiet (fail)
           clear hwp hwp2; clear a1 a2 hq1; go_wp2_with fail
           rw [← HCAST.out]; go_meet
           exact ⟨by cases hpl <;> cases qpl <;> rfl, (Kp.refl _ _).drewN nq⟩
          ·have a1 : (hf != qf) = false := by simpa using d1
           have a2 : (htt != qt) = true := by simpa using d2
           have HTB : Hid (tb = true) := oh (by rw [HSB.out]; simp [d2])
           clear d1 d2; have htt2 : tb = true := HTB.out
           subst htt2; obtain ⟨z3, z4, z5, y3, y4, y5, _⟩ := HS24.out Y (Kp.refl _ _)
           obtain ⟨hwp, hwp2⟩ := HWP.out
           go_quiet (fail)
           clear hwp hwp2; clear a1 a2 hq1; go_wp2_with fail
           rw [← HCAST.out]; go_meet
           exact ⟨rfl, (Kp.refl _ _).drewN nq⟩
         ·have a1 : (hf != qf) = true := by simpa using d1
          have HTB : Hid (tb = true) := oh (by rw [HSB.out]; simp [d1])
          clear d1; have htt2 : tb = true := HTB.out
          subst htt2; obtain ⟨z3, z4, z5, y3, y4, y5, _⟩ := HS24.out Y (Kp.refl _ _)
          obtain ⟨hwp, hwp2⟩ := HWP.out
          go_quiet (fail)
          clear hwp hwp2; clear a1 hq1; go_wp2_with fail
          rw [← HCAST.out]; go_meet
          exact ⟨rfl, (Kp.refl _ _).drewN nq⟩
       case rest =>
        obtain ⟨rfl, hkc⟩ := hcut; have HST1 := oh (HST0.out.keep hkc); clear hkc HST0 htb
        go_upto_if 127 with fail
        go_cut [127, 7, 11] from 128 to 144 (fun t v _ wx => t = .bool tb ∧ v = str (lj ++ (if tb then Dl.spanLn h else [])) ∧ ZoSt w3 hb #[I6 h.s.k, .slice ea sn ec, I6 h.s.r, I6 h.f, I6 h.t, .bool h.pl] wx)
        case first =>
         cases tb with
         | false =>
          go_wp2_with fail
          go_meet
          exact ⟨rfl, by simp, HST1.out⟩
         | true =>
          have z5 : wc.cell? ⟨hb, 5, none⟩ = some (.bool h.pl) := hcell HST1.out.blk 5 rfl
          have HS28 : Hid (∀ V, Kp wc V none → V.cell? ⟨hb, 3, none⟩ = some (I6 h.f) ∧ V.cell? ⟨hb, 4, none⟩ = some (I6 h.t) ∧ Hid (Kp wc V none)) := oh fun V kv => ⟨hcell (HST1.out.keep kv).blk 3 rfl, hcell (HST1.out.keep kv).blk 4 rfl, oh kv⟩
          have HLJB : Hid (lj.length ≤ 3000000000) := oh (by have := HB4.out; omega)
          have HSL : Hid (Dl.spanLn h = [59, 115, 112, 97, 110, 32] ++ Lib.itoa h.f ++ [32] ++ Lib.itoa h.t ++ [32] ++ (if h.pl then Dl.kPlated else Dl.kPlain) ++ [10]) := oh (by simp [Dl.spanLn, Dl.ln, Dl.kSpan])
          obtain ⟨mf, mt⟩ := HPA.out.2.2.2.2; have MF := oh mf; have MT := oh mt; clear mf mt
          obtain ⟨pb, hpb⟩ : ∃ b, h.pl = b := ⟨_, rfl⟩
          rw [hpb] at z5; have HPB := oh hpb; clear hpb
          cases pb with
          | false =>
           go_upto_region 28 with fail
           clear z5; obtain ⟨q1, hq1⟩ : ∃ zz : List UInt8, lj ++ [59, 115, 112, 97, 110, 32] = zz := ⟨_, rfl⟩
           have Bq1 : Hid ((⟨(lj).toArray⟩ : ByteArray) ++ (⟨#[59, 115, 112, 97, 110, 32]⟩ : ByteArray) = ⟨(q1).toArray⟩) := oh (by rw [← hq1]; exact ByteArray.mk_append_mk _ _)
           have laq1 : (lj).length ≤ 3000000000 := HLJB.out
           have bq1 : q1.length ≤ 3000000006 := by rw [← hq1, List.length_append]; (try simp only [List.length_cons, List.length_nil]); omega
           have Gq1 : Hid ((9223372036854775807 < (lj).length + 6) = False) := oh (eq_false (by (try simp only [List.length_cons, List.length_nil]); omega))
           have Hq1 := oh hq1; clear hq1 laq1; obtain ⟨q2, hq2⟩ : ∃ zz : List UInt8, q1 ++ Lib.itoa h.f = zz := ⟨_, rfl⟩
           have Bq2 : Hid ((⟨(q1).toArray⟩ : ByteArray) ++ (⟨(Lib.itoa h.f).toArray⟩ : ByteArray) = ⟨(q2).toArray⟩) := oh (by rw [← hq2]; exact ByteArray.mk_append_mk _ _)
           have lbq2 : (Lib.itoa h.f).length ≤ 20 := itoa_length h.f MF.out
           have bq2 : q2.length ≤ 3000000026 := by rw [← hq2, List.length_append]; (try simp only [List.length_cons, List.length_nil]); omega
           have Gq2 : Hid ((9223372036854775807 < (q1).length + (Lib.itoa h.f).length) = False) := oh (eq_false (by (try simp only [List.length_cons, List.length_nil]); omega))
           have Hq2 := oh hq2; clear hq2 lbq2; obtain ⟨q3, hq3⟩ : ∃ zz : List UInt8, q2 ++ [32] = zz := ⟨_, rfl⟩
           have Bq3 : Hid ((⟨(q2).toArray⟩ : ByteArray) ++ (⟨#[32]⟩ : ByteArray) = ⟨(q3).toArray⟩) := oh (by rw [← hq3]; exact ByteArray.mk_append_mk _ _)
           have bq3 : q3.length ≤ 3000000027 := by rw [← hq3, List.length_append]; (try simp only [List.length_cons, List.length_nil]); omega
           have Gq3 : Hid ((9223372036854775807 < (q2).length + 1) = False) := oh (eq_false (by (try simp only [List.length_cons, List.length_nil]); omega))
           have Hq3 := oh hq3; clear hq3; obtain ⟨q4, hq4⟩ : ∃ zz : List UInt8, q3 ++ Lib.itoa h.t = zz := ⟨_, rfl⟩
           have Bq4 : Hid ((⟨(q3).toArray⟩ : ByteArray) ++ (⟨(Lib.itoa h.t).toArray⟩ : ByteArray) = ⟨(q4).toArray⟩) := oh (by rw [← hq4]; exact ByteArray.mk_append_mk _ _)
           have lbq4 : (Lib.itoa h.t).length ≤ 20 := itoa_length h.t MT.out
           have bq4 : q4.length ≤ 3000000047 := by rw [← hq4, List.length_append]; (try simp only [List.length_cons, List.length_nil]); omega
           have Gq4 : Hid ((9223372036854775807 < (q3).length + (Lib.itoa h.t).length) = False) := oh (eq_false (by (try simp only [List.length_cons, List.length_nil]); omega))
           have Hq4 := oh hq4; clear hq4 lbq4; obtain ⟨q5, hq5⟩ : ∃ zz : List UInt8, q4 ++ [32] = zz := ⟨_, rfl⟩
           have Bq5 : Hid ((⟨(q4).toArray⟩ : ByteArray) ++ (⟨#[32]⟩ : ByteArray) = ⟨(q5).toArray⟩) := oh (by rw [← hq5]; exact ByteArray.mk_append_mk _ _)
           have bq5 : q5.length ≤ 3000000048 := by rw [← hq5, List.length_append]; (try simp only [List.length_cons, List.length_nil]); omega
           have Gq5 : Hid ((9223372036854775807 < (q4).length + 1) = False) := oh (eq_false (by (try simp only [List.length_cons, List.length_nil]); omega))
           have Hq5 := oh hq5; clear hq5; obtain ⟨q6, hq6⟩ : ∃ zz : List UInt8, q5 ++ [112, 108, 97, 105, 110] = zz := ⟨_, rfl⟩
           have Bq6 : Hid ((⟨(q5).toArray⟩ : ByteArray) ++ (⟨#[112, 108, 97, 105, 110]⟩ : ByteArray) = ⟨(q6).toArray⟩) := oh (by rw [← hq6]; exact ByteArray.mk_append_mk _ _)
           have bq6 : q6.length ≤ 3000000053 := by rw [← hq6, List.length_append]; (try simp only [List.length_cons, List.length_nil]); omega
           have Gq6 : Hid ((9223372036854775807 < (q5).length + 5) = False) := oh (eq_false (by (try simp only [List.length_cons, List.length_nil]); omega))
           have Hq6 := oh hq6; clear hq6; obtain ⟨q7, hq7⟩ : ∃ zz : List UInt8, q6 ++ [10] = zz := ⟨_, rfl⟩
           have Bq7 : Hid ((⟨(q6).toArray⟩ : ByteArray) ++ (⟨#[10]⟩ : ByteArray) = ⟨(q7).toArray⟩) := oh (by rw [← hq7]; exact ByteArray.mk_append_mk _ _)
           have bq7 : q7.length ≤ 3000000054 := by rw [← hq7, List.length_append]; (try simp only [List.length_cons, List.length_nil]); omega
           have Gq7 : Hid ((9223372036854775807 < (q6).length + 1) = False) := oh (eq_false (by (try simp only [List.length_cons, List.length_nil]); omega))
           have Hq7 := oh hq7; clear hq7; clear bq1 bq2 bq3 bq4 bq5 bq6 bq7; refine wp_region_held_drew (S := fun V => V.cell? ⟨hb, 3, none⟩ = some (I6 h.f) ∧ V.cell? ⟨hb, 4, none⟩ = some (I6 h.t) ∧ Hid (Kp wc V none)) (by kernel_rfl) (HS28.out _ (Kp.refl wc none).drew) (fun eh => ?_)
           refine tjH 0 rfl ?_; refine tjH 2 rfl ?_; refine tjH 7 rfl ?_; refine tjH 12 rfl ?_
           have eq1 := Bq1.out
           have gq1 := Gq1.out
           refine tjH 1 rfl ?_; clear gq1 eq1; refine tjH 3 rfl ?_; refine tjH 8 rfl ?_; refine rdH 4 rfl (fun K hK => ?_); have gK := eh.2.2; clear eh; go_simp
           refine (dec_any h.f MF.out _).mono ?_
           rintro e V1 ⟨rfl, kk⟩; try go_wp2_with fail
           refine hK.out _ _ (HS28.out _ (gK.out.trans kk)) (fun eh => ?_)
           clear hK K gK kk; try simp only [Act.put, sm]
           have eq2 := Bq2.out
           have gq2 := Gq2.out
           refine tjH 5 rfl ?_; clear gq2 eq2
           have eq3 := Bq3.out
           have gq3 := Gq3.out
           refine tjH 6 rfl ?_; clear gq3 eq3; refine rdH 9 rfl (fun K hK => ?_); have gK := eh.2.2; clear eh; go_simp
           refine (dec_any h.t MT.out _).mono ?_
           rintro e V2 ⟨rfl, kk⟩; try go_wp2_with fail
           refine hK.out _ _ (HS28.out _ (gK.out.trans kk)) (fun eh => ?_)
           clear hK K gK kk; try simp only [Act.put, sm]
           have eq4 := Bq4.out
           have gq4 := Gq4.out
           refine tjH 10 rfl ?_; clear gq4 eq4
           have eq5 := Bq5.out
           have gq5 := Gq5.out
           refine tjH 11 rfl ?_; clear gq5 eq5
           have eq6 := Bq6.out
           have gq6 := Gq6.out
           refine tjH 13 rfl ?_; clear gq6 eq6
           have eq7 := Bq7.out
           have gq7 := Gq7.out
           refine tjH 14 rfl ?_; clear gq7 eq7; refine rdH 15 rfl (fun K hK => ?_); have gK := eh.2.2; clear eh; go_simp; try go_wp2_with fail
           refine hK.out _ _ (HS28.out _ gK.out) (fun _ => ?_)
           have KZ := oh gK.out
           clear hK K gK; try simp only [Act.put, sm]
           refine wpAnyH_done (by kernel_rfl) ?_ _
           have HOUT : Hid (q7 = lj ++ Dl.spanLn h) := oh (by rw [HSL.out, HPB.out, ← Hq7.out, ← Hq6.out, ← Hq5.out, ← Hq4.out, ← Hq3.out, ← Hq2.out, ← Hq1.out]; simp [Dl.kPlain])
           have HZ := oh (HST1.out.keep KZ.out); go_wp2_with fail
           go_meet
           exact ⟨rfl, by rw [HOUT.out]; rfl, HZ.out⟩
          | true =>
           go_upto_region 28 with fail
           clear z5; obtain ⟨q1, hq1⟩ : ∃ zz : List UInt8, lj ++ [59, 115, 112, 97, 110, 32] = zz := ⟨_, rfl⟩
           have Bq1 : Hid ((⟨(lj).toArray⟩ : ByteArray) ++ (⟨#[59, 115, 112, 97, 110, 32]⟩ : ByteArray) = ⟨(q1).toArray⟩) := oh (by rw [← hq1]; exact ByteArray.mk_append_mk _ _)
           have laq1 : (lj).length ≤ 3000000000 := HLJB.out
           have bq1 : q1.length ≤ 3000000006 := by rw [← hq1, List.length_append]; (try simp only [List.length_cons, List.length_nil]); omega
           have Gq1 : Hid ((9223372036854775807 < (lj).length + 6) = False) := oh (eq_false (by (try simp only [List.length_cons, List.length_nil]); omega))
           have Hq1 := oh hq1; clear hq1 laq1; obtain ⟨q2, hq2⟩ : ∃ zz : List UInt8, q1 ++ Lib.itoa h.f = zz := ⟨_, rfl⟩
           have Bq2 : Hid ((⟨(q1).toArray⟩ : ByteArray) ++ (⟨(Lib.itoa h.f).toArray⟩ : ByteArray) = ⟨(q2).toArray⟩) := oh (by rw [← hq2]; exact ByteArray.mk_append_mk _ _)
           have lbq2 : (Lib.itoa h.f).length ≤ 20 := itoa_length h.f MF.out
           have bq2 : q2.length ≤ 3000000026 := by rw [← hq2, List.length_append]; (try simp only [List.length_cons, List.length_nil]); omega
           have Gq2 : Hid ((9223372036854775807 < (q1).length + (Lib.itoa h.f).length) = False) := oh (eq_false (by (try simp only [List.length_cons, List.length_nil]); omega))
           have Hq2 := oh hq2; clear hq2 lbq2; obtain ⟨q3, hq3⟩ : ∃ zz : List UInt8, q2 ++ [32] = zz := ⟨_, rfl⟩
           have Bq3 : Hid ((⟨(q2).toArray⟩ : ByteArray) ++ (⟨#[32]⟩ : ByteArray) = ⟨(q3).toArray⟩) := oh (by rw [← hq3]; exact ByteArray.mk_append_mk _ _)
           have bq3 : q3.length ≤ 3000000027 := by rw [← hq3, List.length_append]; (try simp only [List.length_cons, List.length_nil]); omega
           have Gq3 : Hid ((9223372036854775807 < (q2).length + 1) = False) := oh (eq_false (by (try simp only [List.length_cons, List.length_nil]); omega))
           have Hq3 := oh hq3; clear hq3; obtain ⟨q4, hq4⟩ : ∃ zz : List UInt8, q3 ++ Lib.itoa h.t = zz := ⟨_, rfl⟩
           have Bq4 : Hid ((⟨(q3).toArray⟩ : ByteArray) ++ (⟨(Lib.itoa h.t).toArray⟩ : ByteArray) = ⟨(q4).toArray⟩) := oh (by rw [← hq4]; exact ByteArray.mk_append_mk _ _)
           have lbq4 : (Lib.itoa h.t).length ≤ 20 := itoa_length h.t MT.out
           have bq4 : q4.length ≤ 3000000047 := by rw [← hq4, List.length_append]; (try simp only [List.length_cons, List.length_nil]); omega
           have Gq4 : Hid ((9223372036854775807 < (q3).length + (Lib.itoa h.t).length) = False) := oh (eq_false (by (try simp only [List.length_cons, List.length_nil]); omega))
           have Hq4 := oh hq4; clear hq4 lbq4; obtain ⟨q5, hq5⟩ : ∃ zz : List UInt8, q4 ++ [32] = zz := ⟨_, rfl⟩
           have Bq5 : Hid ((⟨(q4).toArray⟩ : ByteArray) ++ (⟨#[32]⟩ : ByteArray) = ⟨(q5).toArray⟩) := oh (by rw [← hq5]; exact ByteArray.mk_append_mk _ _)
           have bq5 : q5.length ≤ 3000000048 := by rw [← hq5, List.length_append]; (try simp only [List.length_cons, List.length_nil]); omega
           have Gq5 : Hid ((9223372036854775807 < (q4).length + 1) = False) := oh (eq_false (by (try simp only [List.length_cons, List.length_nil]); omega))
           have Hq5 := oh hq5; clear hq5; obtain ⟨q6, hq6⟩ : ∃ zz : List UInt8, q5 ++ [112, 108, 97, 116, 101, 100] = zz := ⟨_, rfl⟩
           have Bq6 : Hid ((⟨(q5).toArray⟩ : ByteArray) ++ (⟨#[112, 108, 97, 116, 101, 100]⟩ : ByteArray) = ⟨(q6).toArray⟩) := oh (by rw [← hq6]; exact ByteArray.mk_append_mk _ _)
           have bq6 : q6.length ≤ 3000000054 := by rw [← hq6, List.length_append]; (try simp only [List.length_cons, List.length_nil]); omega
           have Gq6 : Hid ((9223372036854775807 < (q5).length + 6) = False) := oh (eq_false (by (try simp only [List.length_cons, List.length_nil]); omega))
           have Hq6 := oh hq6; clear hq6; obtain ⟨q7, hq7⟩ : ∃ zz : List UInt8, q6 ++ [10] = zz := ⟨_, rfl⟩
           have Bq7 : Hid ((⟨(q6).toArray⟩ : ByteArray) ++ (⟨#[10]⟩ : ByteArray) = ⟨(q7).toArray⟩) := oh (by rw [← hq7]; exact ByteArray.mk_append_mk _ _)
           have bq7 : q7.length ≤ 3000000055 := by rw [← hq7, List.length_append]; (try simp only [List.length_cons, List.length_nil]); omega
           have Gq7 : Hid ((9223372036854775807 < (q6).length + 1) = False) := oh (eq_false (by (try simp only [List.length_cons, List.length_nil]); omega))
           have Hq7 := oh hq7; clear hq7; clear bq1 bq2 bq3 bq4 bq5 bq6 bq7; refine wp_region_held_drew (S := fun V => V.cell? ⟨hb, 3, none⟩ = some (I6 h.f) ∧ V.cell? ⟨hb, 4, none⟩ = some (I6 h.t) ∧ Hid (Kp wc V none)) (by kernel_rfl) (HS28.out _ (Kp.refl wc none).drew) (fun eh => ?_)
           refine tjH 0 rfl ?_; refine tjH 2 rfl ?_; refine tjH 7 rfl ?_; refine tjH 12 rfl ?_
           have eq1 := Bq1.out
           have gq1 := Gq1.out
           refine tjH 1 rfl ?_; clear gq1 eq1; refine tjH 3 rfl ?_; refine tjH 8 rfl ?_; refine rdH 4 rfl (fun K hK => ?_); have gK := eh.2.2; clear eh; go_simp
           refine (dec_any h.f MF.out _).mono ?_
           rintro e V1 ⟨rfl, kk⟩; try go_wp2_with fail
           refine hK.out _ _ (HS28.out _ (gK.out.trans kk)) (fun eh => ?_)
           clear hK K gK kk; try simp only [Act.put, sm]
           have eq2 := Bq2.out
           have gq2 := Gq2.out
           refine tjH 5 rfl ?_; clear gq2 eq2
           have eq3 := Bq3.out
           have gq3 := Gq3.out
           refine tjH 6 rfl ?_; clear gq3 eq3; refine rdH 9 rfl (fun K hK => ?_); have gK := eh.2.2; clear eh; go_simp
           refine (dec_any h.t MT.out _).mono ?_
           rintro e V2 ⟨rfl, kk⟩; try go_wp2_with fail
           refine hK.out _ _ (HS28.out _ (gK.out.trans kk)) (fun eh => ?_)
           clear hK K gK kk; try simp only [Act.put, sm]
           have eq4 := Bq4.out
           have gq4 := Gq4.out
           refine tjH 10 rfl ?_; clear gq4 eq4
           have eq5 := Bq5.out
           have gq5 := Gq5.out
           refine tjH 11 rfl ?_; clear gq5 eq5
           have eq6 := Bq6.out
           have gq6 := Gq6.out
           refine tjH 13 rfl ?_; clear gq6 eq6
           have eq7 := Bq7.out
           have gq7 := Gq7.out
           refine tjH 14 rfl ?_; clear gq7 eq7; refine rdH 15 rfl (fun K hK => ?_); have gK := eh.2.2; clear eh; go_simp; try go_wp2_with fail
           refine hK.out _ _ (HS28.out _ gK.out) (fun _ => ?_)
           have KZ := oh gK.out
           clear hK K gK; try simp only [Act.put, sm]
           refine wpAnyH_done (by kernel_rfl) ?_ _
           have HOUT : Hid (q7 = lj ++ Dl.spanLn h) := oh (by rw [HSL.out, HPB.out, ← Hq7.out, ← Hq6.out, ← Hq5.out, ← Hq4.out, ← Hq3.out, ← Hq2.out, ← Hq1.out]; simp [Dl.kPlated])
           have HZ := oh (HST1.out.keep KZ.out); go_wp2_with fail
           go_meet
           exact ⟨rfl, by rw [HOUT.out]; rfl, HZ.out⟩
        case rest =>
         obtain ⟨rfl, rfl, HST2⟩ := hcut; have HS2 := oh HST2
         obtain ⟨l2, hl2⟩ : ∃ l, lj ++ (if tb then Dl.spanLn h else []) = l := ⟨_, rfl⟩
         have hl2n : l2.length = lj.length + (if tb then Dl.spanLn h else []).length := by rw [← hl2, List.length_append]
         have HB6 : Hid (l2.length + (if tc then Dl.selLn rs h.s.r else []).length + (Dl.pathT h.s).length ≤ 20 + 2040 * 1000000) := oh (by have := HB4.out; omega)
         have HL2 := oh hl2; rw [hl2]; clear HST2 HST1 hl2 hl2n HB4; go_upto_region 29 with fail
         go_cut [159] from 145 to 159 (fun t wx => t = .bool tc ∧ ZoSt w3 hb #[I6 h.s.k, .slice ea sn ec, I6 h.s.r, I6 h.f, I6 h.t, .bool h.pl] wx)
         case first =>
          cases j with
          | zero =>
           have htc2 : tc = true := by rw [← HTC.out]; rfl
           subst htc2; rw [show ((0 : Nat) : Int) = 0 from rfl]; go_quiet (fail)
           go_wp2_with fail
           go_meet
           exact ⟨rfl, HS2.out.keep ((Kp.refl _ _).drewN nq)⟩
          | succ m =>
           have hm0 := nn m; have hmT : m < ts.length := by omega
           have hmH : m < hs.length := by omega
           obtain ⟨⟨q, qa, qc⟩, hq⟩ : ∃ t, ts[m] = t := ⟨_, rfl⟩
           have hgq := HGET.out m hmT hmH
           rw [hq] at hgq; dsimp only at hgq
           obtain ⟨bo', off', hao, _, _, hcellq⟩ := HTS.out.ho hmT
           injection hao with hao; injection hao with e1 e2; subst e1; subst e2; rw [hq] at hcellq
           dsimp only at hcellq
           have htc2 : decide (h.s.r ≠ q.s.r) = tc := by rw [← HTC.out, Dl.prev_pos hltH, hgq]
           have hcast : ((m + 1 : Nat) : Int) = (m : Int) + 1 := by omega
           rw [hcast]; have HCAST := oh hcast; have hq1 : ((m : Int) + 1 == 0) = false := by simp; omega
           have hmk : (m : Int) < (k : Int) := by omega
           have hmc : m < k := by omega
           have HWP : Hid (IntKind.i64.wrap ((m : Int) + 1 - 1) = (m : Int) ∧ IntKind.i64.wrap (m : Int) = (m : Int)) := oh ⟨(wrap_prev m (by omega)).2.1, (wrap_prev m (by omega)).2.2.2⟩
           obtain ⟨hr, hhr⟩ : ∃ x, h.s.r = x := ⟨_, rfl⟩
           obtain ⟨qr, hqr⟩ : ∃ x, q.s.r = x := ⟨_, rfl⟩
           have HS29 : Hid (∀ V, Kp wc V none → V.cell? ⟨hb, 2, none⟩ = some (I6 hr) ∧ V.cell? ⟨bo, off + m * 6 + 2, none⟩ = some (I6 qr) ∧ Hid (Kp wc V none)) := oh fun V kv =>
            ⟨by rw [← hhr]; exact hcell (HS2.out.keep kv).blk 2 rfl, by rw [← hqr]; exact (hcellq V (HS2.out.keep kv).kp).2.2.1, oh kv⟩
           rw [hhr, hqr] at htc2; have htf : tc = (hr != qr) := by rw [← htc2]; by_cases hz : hr = qr <;> simp [hz]
           subst htf; obtain ⟨tz, htz⟩ : ∃ x, (hr != qr) = x := ⟨_, rfl⟩
           have HTZ := oh htz; clear hcast hgq hq hcellq hlt hltT hltH hmT hmH hj hj1 hj0 hhr hqr htc2 htz; obtain ⟨z2, y2, _⟩ := HS29.out wc (Kp.refl _ _)
           obtain ⟨hwp, hwp2⟩ := HWP.out; have htz := HTZ.out
           go_quiet (fail)
           clear hwp hwp2 htz; clear hq1; go_wp2_with fail
           rw [← HCAST.out]; go_meet
           exact ⟨by rw [HTZ.out], HS2.out.keep ((Kp.refl _ _).drewN nq)⟩
         case rest =>
          obtain ⟨rfl, HST3⟩ := hcut; have HS3 := oh HST3; clear HST3 HS2
          go_upto_if 159 with fail
          go_cut [159, 7] from 160 to 167 (fun t v wx => t = .bool tc ∧ v = str (l2 ++ (if tc then Dl.selLn rs h.s.r else [])) ∧ ZoSt w3 hb #[I6 h.s.k, .slice ea sn ec, I6 h.s.r, I6 h.f, I6 h.t, .bool h.pl] wx)
          case first =>
           cases tc with
           | false =>
            go_wp2_with fail
            go_meet
            exact ⟨rfl, by simp, HS3.out⟩
           | true =>
            have HIX := oh (fun V (kv : Kp w3 V none) => rtool_any rs h.s.r _ HRN.out ra rc V (HLA.out.keep kv) HRM.out hrl)
            obtain ⟨tl, htl⟩ : ∃ x, [84] ++ Lib.itoa ((rs.idxOf h.s.r : Nat) + 1 : Int) = x := ⟨_, rfl⟩
            rw [htl] at HIX; have HSE : Hid (Dl.selLn rs h.s.r = tl ++ [10]) := oh (by rw [← htl]; rfl)
            have hb7 : l2.length + tl.length + 1 ≤ 3000000000 := by have h1 := HB6.out; rw [if_pos rfl, HSE.out, List.length_append] at h1; simp only [List.length_cons, List.length_nil] at h1; omega
            obtain ⟨r1, hr1⟩ : ∃ z : List UInt8, l2 ++ tl = z := ⟨_, rfl⟩
            have hr1l : r1.length = l2.length + tl.length := by rw [← hr1, List.length_append]
            obtain ⟨r2, hr2⟩ : ∃ z : List UInt8, r1 ++ [10] = z := ⟨_, rfl⟩
            have HOUT : Hid (r2 = l2 ++ Dl.selLn rs h.s.r) := oh (by rw [HSE.out, ← hr2, ← hr1, List.append_assoc])
            have s1 : (⟨l2.toArray⟩ : ByteArray) ++ (⟨tl.toArray⟩ : ByteArray) = ⟨r1.toArray⟩ := sumB l2 tl r1 hr1
            have g1 : (9223372036854775807 < l2.length + tl.length) = False := eq_false (by omega)
            have s2 : (⟨r1.toArray⟩ : ByteArray) ++ (⟨#[10]⟩ : ByteArray) = ⟨r2.toArray⟩ := sumB r1 [10] r2 hr2
            have g2 : (9223372036854775807 < r1.length + 1) = False := eq_false (by omega)
            have z2 := hcell HS3.out.blk 2 rfl
            clear htl hr1 hr2 hb7 hr1l; go_wp2_with (go_at_call 35; refine (HIX.out _ HS3.out.kp).mono ?_; rintro e w7 ⟨rfl, k7⟩; have HS7 := oh (HS3.out.keep k7); clear k7)
            go_meet
            exact ⟨rfl, by rw [HOUT.out]; rfl, HS7.out⟩
          case rest =>
           obtain ⟨rfl, rfl, HST4⟩ := hcut; have HS4 := oh HST4
           obtain ⟨l3, hl3⟩ : ∃ l, l2 ++ (if tc then Dl.selLn rs h.s.r else []) = l := ⟨_, rfl⟩
           have hl3n : l3.length = l2.length + (if tc then Dl.selLn rs h.s.r else []).length := by rw [← hl3, List.length_append]
           have hb8 : l3.length + (Dl.pathT h.s).length ≤ 3000000000 := by have := HB6.out; omega
           rw [hl3]; have HPT := oh (fun V (kv : Kp w3 V none) => rpath_any h.s sn HPA.out.2.2.2.1 ea ec V (HLE.out.keep kv) HPA.out.2.1 HPA.out.1 HPA.out.2.2.1)
           obtain ⟨pt, hpt⟩ : ∃ x, Dl.pathT h.s = x := ⟨_, rfl⟩
           have HNEXT : Hid (l1 ++ Dl.holesT rs none (hs.take (j + 1)) = l3 ++ pt) := oh (by rw [HSTEP.out, ← List.append_assoc, HLJ.out, HHT.out, ← hl3, ← HL2.out, hpt]; simp only [List.append_assoc])
           rw [hpt] at HPT hb8; obtain ⟨r1, hr1⟩ : ∃ z : List UInt8, l3 ++ pt = z := ⟨_, rfl⟩
           rw [hr1] at HNEXT; have s1 : (⟨l3.toArray⟩ : ByteArray) ++ (⟨pt.toArray⟩ : ByteArray) = ⟨r1.toArray⟩ := sumB l3 pt r1 hr1
           have g1 : (9223372036854775807 < l3.length + pt.length) = False := eq_false (by omega)
           have z0 := hcell HS4.out.blk 0 rfl
           have z1 := hcell HS4.out.blk 1 rfl
           have z2 := hcell HS4.out.blk 2 rfl
           have HZ3 : Hid (∀ V, Kp w3 V none → Z3Rel l1 rs hs w3 (str r1) (I6 (j + 1)) V) := oh fun V kv => ⟨j + 1, hltH, by go_num, by rw [HNEXT.out], kv⟩
           clear HST4 HS3 hl3 hl3n HB6 hpt hr1 hb8 hltT hltH; go_wp2_with (go_at_call 36; refine (HPT.out _ HS4.out.kp).mono ?_; rintro e w8 ⟨rfl, k8⟩; have HR := oh (HZ3.out _ (HS4.out.kp.trans k8)); clear k8)
           first | exact ⟨HR.out, by simp [intOf]; omega⟩ | (go_roundw; all_goals first | exact HR.out | (simp [intOf]; omega))
      ·have hj1 : ¬ (j : Int) < (k : Int) := by omega
       have hjk : j = hs.length := by have := HHN.out; omega
       have hlz := HLEN3.out j
       rw [hjk, List.take_length] at hlz ⊢; obtain ⟨lz, hlz2⟩ : ∃ x, l1 ++ Dl.holesT rs none hs = x := ⟨_, rfl⟩
       obtain ⟨ft, hft⟩ : ∃ x, Dl.fileT hs = x := ⟨_, rfl⟩
       rw [hft] at HFM HFL HFILE; rw [hlz2] at HFILE hlz ⊢; have s1 : (⟨lz.toArray⟩ : ByteArray) ++ (⟨#[77, 51, 48, 10]⟩ : ByteArray) = ⟨ft.toArray⟩ := sumB lz [77, 51, 48, 10] ft (by rw [HFILE.out]; rfl)
       have g1 : (9223372036854775807 < lz.length + 4) = False := eq_false (by omega)
       have KZ := oh (K3.out.trans HKJ.out); clear hjk hft hlz2 hlz
       by_cases hbig : 262144 < ft.length
       ·have hbig2 : (262144 : Int) < (ft.length : Int) := by omega
        have HFE := oh (HFL.out hbig); clear hbig; go_wp2_with fail
        go_ret2
        exact wr_is (t := []) HFE.out KZ.out
       ·have hbig2 : ¬ (262144 : Int) < (ft.length : Int) := by omega
        have HFE := oh (HFM.out hbig); clear hbig; go_wp2_with fail
        go_ret2
        exact wr_is (t := ft) HFE.out KZ.out
end Go.Proofs.YtljjbdbgedmadaaGreatDoor
