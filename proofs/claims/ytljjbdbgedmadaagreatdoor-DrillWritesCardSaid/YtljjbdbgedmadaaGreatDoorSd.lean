/- Lists of holes compared. Conditions: at most 10^6 holes, and edges of each. -/
import Derived.Test.YtljjbdbgedmadaaGreatDoorSa
set_option maxHeartbeats 16000000
set_option maxRecDepth 100000
namespace Go.Proofs.YtljjbdbgedmadaaGreatDoor
open Go.RowKit
deriving instance DecidableEq for Dl.Ho
theorem info50 : (Tryz.prog.info? 50).map (·.size) = some 3 := by kernel_rfl
theorem range3 {w : World} {b o : Nat} {x y z : Value} (h0 : w.cell? ⟨b, o, none⟩ = some x) (h1 : w.cell? ⟨b, o + 1, none⟩ = some y) (h2 : w.cell? ⟨b, o + 2, none⟩ = some z) : w.rangeAt b o #[x, y, z].toList := fun j v hv => by
 match j, hv with
 | 0, hv => rw [← hv]; exact h0
 | 1, hv => rw [← hv]; exact h1
 | 2, hv => rw [← hv]; exact h2
 | n + 3, hv => cases hv
theorem hsame_any (ts us : List HT) (n m : Nat) (hn : ts.length = n) (hm : us.length = m) (ao bo : Option Addr) (ca cb : Nat) (w : World) (ha : HolesAt w ao ca ts) (hb : HolesAt w bo cb us) (hea : ∀ z ∈ ts, z.h.s.es.length ≤ 1000000) (heb : ∀ z ∈ us, z.h.s.es.length ≤ 1000000) (hl : n ≤ 1000000) (hl2 : m ≤ 1000000) :
  Calls Tryz.prog 17 #[.slice ao n ca, .slice bo m cb] w fun E w' => E = .returned (.bool (decide (ts.map (·.h) = us.map (·.h)))) ∧ Kp w w' none := by
 have FA := oh ha; have FB := oh hb; have HN := oh hn; have HNFm := oh hm; have HEA := oh hea; have HEB := oh heb; obtain ⟨fin, hfin⟩ : ∃ f, decide (ts.map (·.h) = us.map (·.h)) = f := ⟨_, rfl⟩
 have HFIN := oh hfin; rw [hfin]; clear ha hb hn hm hfin hea heb; have hn0 := nn n; have hm0 := nn m
 by_cases hnm : n = m
 ·subst hnm; have HNF : Hid (us.length = n) := HNFm
  clear HNFm; go_enter Tryz.func17, Tryz.ntmps17
  go_wp2_with fail
  go_loopw [5] (fun i wr => ∃ k : Nat, k ≤ n ∧ i = I6 k ∧ (ts.map (·.h)).take k = (us.map (·.h)).take k ∧ Kp w wr none) (fun i _ => n - (intOf i).toNat)
  case atStart => exact ⟨0, Nat.zero_le _, rfl, rfl, Kp.refl _ _⟩
  case round =>
   obtain ⟨k, hk, rfl, hT, hK⟩ := hrel; have HT := oh hT; have HK := oh hK; clear hT hK
   have hk0 := nn k
   by_cases hlt : k < n
   ·have hk1 : (k : Int) < (n : Int) := by omega
    obtain ⟨b, off, rfl, hcap, hbs, hcx⟩ := FA.out.ho (k := k) (by have := HN.out; omega)
    obtain ⟨b2, off2, rfl, hcap2, hbs2, hcy⟩ := FB.out.ho (k := k) (by have := HNF.out; omega)
    have hca : n ≤ ca := by have := HN.out; omega
    have hcb : n ≤ cb := by have := HNF.out; omega
    have HBAD : Hid (((ts[k]'(by have := HN.out; omega)).h = (us[k]'(by have := HNF.out; omega)).h → False) → fin = false) := oh (fun h => by
     rw [← HFIN.out]; refine decide_eq_false (fun hq => h ?_)
     have h1 : (ts.map (·.h))[k]'(by rw [List.length_map]; have := HN.out; omega) = (us.map (·.h))[k]'(by rw [List.length_map]; have := HNF.out; omega) := by simp only [hq]
     simpa using h1)
    have HGOOD : Hid ((ts[k]'(by have := HN.out; omega)).h = (us[k]'(by have := HNF.out; omega)).h → (ts.map (·.h)).take (k + 1) = (us.map (·.h)).take (k + 1)) := oh (fun h => take_eq HT.out (by rw [List.length_map]; have := HN.out; omega) (by rw [List.length_map]; have := HNF.out; omega) (by simpa using h))
    have he1 := HEA.out _ (List.getElem_mem (show k < ts.length by have := HN.out; omega))
    have he2 := HEB.out _ (List.getElem_mem (show k < us.length by have := HNF.out; omega))
    have h1 := FA.out.2 _ (List.getElem_mem (show k < ts.length by have := HN.out; omega))
    have h2 := FB.out.2 _ (List.getElem_mem (show k < us.length by have := HNF.out; omega))
    obtain ⟨x, hx⟩ : ∃ e, ts[k]'(by have := HN.out; omega) = e := ⟨_, rfl⟩
    obtain ⟨y, hy⟩ : ∃ e, us[k]'(by have := HNF.out; omega) = e := ⟨_, rfl⟩
    rw [hx] at hcx h1 he1 HBAD HGOOD; rw [hy] at hcy h2 he2 HBAD HGOOD; obtain ⟨⟨⟨xk, xes, xr⟩, xf, xt, xp⟩, xa, xc⟩ := x; obtain ⟨⟨⟨yk, yes, yr⟩, yf, yt, yp⟩, ya, yc⟩ := y
    dsimp only at hcx hcy h1 h2 he1 he2 HBAD HGOOD
    have HCX := oh hcx; have HCY := oh hcy; obtain ⟨sb, hsb⟩ : ∃ sb, decide ((⟨xk, xes, xr⟩ : Pl.Sh) = ⟨yk, yes, yr⟩) = sb := ⟨_, rfl⟩
    have HSB := oh hsb; obtain ⟨xn, hxn⟩ : ∃ q, xes.length = q := ⟨_, rfl⟩
    obtain ⟨yn, hyn⟩ : ∃ q, yes.length = q := ⟨_, rfl⟩
    have HSM : Hid (∀ V, Kp w V none → Calls Tryz.prog 54 #[.agg #[I6 xk, .slice xa xn xc, I6 xr], .agg #[I6 yk, .slice ya yn yc, I6 yr]] V fun E w' => E = .returned (.bool sb) ∧ Kp V w' none) := oh (fun V kv => by
     rw [← hsb]; exact rsame_any xk xr yk yr xes yes xn yn hxn hyn xa ya xc yc V (h1.keep kv) (h2.keep kv) (by omega) (by omega))
    rw [hxn] at HCX; rw [hyn] at HCY; have HRX : Hid (∀ V, Kp w V none → V.rangeAt b (off + k * 6) #[I6 xk, .slice xa xn xc, I6 xr].toList) := oh fun V kv => range3 (HCX.out V kv).1 (HCX.out V kv).2.1 (HCX.out V kv).2.2.1
    have HRY : Hid (∀ V, Kp w V none → V.rangeAt b2 (off2 + k * 6) #[I6 yk, .slice ya yn yc, I6 yr].toList) := oh fun V kv => range3 (HCY.out V kv).1 (HCY.out V kv).2.1 (HCY.out V kv).2.2.1
    have x3 := (HCX.out _ HK.out).2.2.2.1
    have x4 := (HCX.out _ HK.out).2.2.2.2.1
    have x5 := (HCX.out _ HK.out).2.2.2.2.2
    have y3 := (HCY.out _ HK.out).2.2.2.1
    have y4 := (HCY.out _ HK.out).2.2.2.2.1
    have y5 := (HCY.out _ HK.out).2.2.2.2.2
    clear hx hy hcx hcy h1 h2 he1 he2 hsb hcap hcap2 hbs hbs2 HT hxn hyn
    by_cases e1 : xf = yf
    ·subst e1
     by_cases e2 : xt = yt
     ·subst e2
      by_cases e3 : xp = yp
      ·subst e3; clear x3 x4 x5 y3 y4 y5; go_wp2_with fail
       refine wp_region_held_drew (S := fun V => V.cell? ⟨b, off + k * 6 + 3, none⟩ = some (I6 xf) ∧ V.cell? ⟨b, off + k * 6 + 4, none⟩ = some (I6 xt) ∧ V.cell? ⟨b, off + k * 6 + 5, none⟩ = some (.bool xp) ∧ V.cell? ⟨b2, off2 + k * 6 + 3, none⟩ = some (I6 xf) ∧ V.cell? ⟨b2, off2 + k * 6 + 4, none⟩ = some (I6 xt) ∧ V.cell? ⟨b2, off2 + k * 6 + 5, none⟩ = some (.bool xp) ∧ V.rangeAt b (off + k * 6) #[I6 xk, .slice xa xn xc, I6 xr].toList ∧ V.rangeAt b2 (off2 + k * 6) #[I6 yk, .slice ya yn yc, I6 yr].toList ∧ Hid (Kp w V none)) (by kernel_rfl) (⟨(HCX.out _ HK.out.drew).2.2.2.1, (HCX.out _ HK.out.drew).2.2.2.2.1, (HCX.out _ HK.out.drew).2.2.2.2.2, (HCY.out _ HK.out.drew).2.2.2.1, (HCY.out _ HK.out.drew).2.2.2.2.1, (HCY.out _ HK.out.drew).2.2.2.2.2, HRX.out _ HK.out.drew, HRY.out _ HK.out.drew, oh HK.out.drew⟩) (fun eh => ?_)
       refine tjH 0 rfl ?_; refine tjH 1 rfl ?_; refine tjH 5 rfl ?_; refine tjH 6 rfl ?_; refine tjH 2 rfl ?_; refine tjH 7 rfl ?_; refine tjH 3 rfl ?_; refine tjH 8 rfl ?_; refine tjH 4 rfl ?_; refine tjH 9 rfl ?_; refine tjH 10 rfl ?_; refine tjH 11 rfl ?_; refine tjH 12 rfl ?_; refine tjH 13 rfl ?_; refine tjH 17 rfl ?_; refine tjH 18 rfl ?_; refine tjH 14 rfl ?_; refine tjH 19 rfl ?_; refine tjH 15 rfl ?_; refine tjH 20 rfl ?_; refine tjH 16 rfl ?_; refine tjH 21 rfl ?_; refine tjH 22 rfl ?_; refine tjH 23 rfl ?_; refine tjH 24 rfl ?_; refine tjH 25 rfl ?_; refine tjH 26 rfl ?_; refine tjH 30 rfl ?_
       refine tjH 31 rfl ?_; refine tjH 27 rfl ?_; refine tjH 32 rfl ?_; refine tjH 28 rfl ?_; refine tjH 33 rfl ?_; refine tjH 29 rfl ?_; refine tjH 34 rfl ?_; refine tjH 35 rfl ?_; refine tjH 36 rfl ?_; refine tjH 37 rfl ?_; refine tjH 38 rfl ?_; refine tjH 39 rfl ?_; refine tjH 43 rfl ?_; refine tjH 44 rfl ?_; refine tjH 40 rfl ?_; refine tjH 45 rfl ?_; refine tjH 41 rfl ?_; refine tjH 46 rfl ?_
       refine wpAnyH_take (i := 42) rfl (by kernel_rfl) (by kernel_rfl) (by kernel_rfl) (fun _ _ _ h => h) (yieldsIf_load_mid (by rfl) _ _ rfl b (off + k * 6) rfl #[I6 xk, .slice xa xn xc, I6 xr].toList _ (fun _ h => h.2.2.2.2.2.2.1) Tryz.underlying50 rfl info50) (by assumption) ?_
       try simp only [Act.put, sm]
       refine wpAnyH_take (i := 47) rfl (by kernel_rfl) (by kernel_rfl) (by kernel_rfl) (fun _ _ _ h => h) (yieldsIf_load_mid (by rfl) _ _ rfl b2 (off2 + k * 6) rfl #[I6 yk, .slice ya yn yc, I6 yr].toList _ (fun _ h => h.2.2.2.2.2.2.2.1) Tryz.underlying50 rfl info50) (by assumption) ?_
       try simp only [Act.put, sm]
       refine rdH 48 rfl (fun K hK => ?_); have gK := eh.2.2.2.2.2.2.2.2; clear eh; go_simp
       refine (HSM.out _ gK.out).mono ?_
       rintro e V1 ⟨rfl, kk⟩; try go_wp2_with fail
       refine hK.out _ _ (⟨(HCX.out _ (gK.out.trans kk)).2.2.2.1, (HCX.out _ (gK.out.trans kk)).2.2.2.2.1, (HCX.out _ (gK.out.trans kk)).2.2.2.2.2, (HCY.out _ (gK.out.trans kk)).2.2.2.1, (HCY.out _ (gK.out.trans kk)).2.2.2.2.1, (HCY.out _ (gK.out.trans kk)).2.2.2.2.2, HRX.out _ (gK.out.trans kk), HRY.out _ (gK.out.trans kk), oh (gK.out.trans kk)⟩) (fun eh => ?_)
       clear hK K gK kk; try simp only [Act.put, sm]
       refine tjH 49 rfl ?_; refine tjH 50 rfl ?_
       refine wpAnyH_done (by kernel_rfl) ?_ _
       have K3 := oh eh.2.2.2.2.2.2.2.2.out
       clear eh
       cases sb with
       | false =>
        have HR : Hid (fin = false) := oh (HBAD.out (fun h => (of_decide_eq_false HSB.out) (congrArg Dl.Ho.s h)))
        go_wp2_with fail
        go_ret
        exact ⟨ret_bool HR.out.symm, K3.out⟩
       | true =>
        have HSE : Hid ((⟨xk, xes, xr⟩ : Pl.Sh) = ⟨yk, yes, yr⟩) := oh (of_decide_eq_true HSB.out)
        have HTK := oh (HGOOD.out (by rw [HSE.out]))
        go_wp2_with fail
        try rw [wrap_mid (n := (k : Int) + 1) (by omega) (by omega)]
        first | exact ⟨⟨k + 1, hlt, by go_num, HTK.out, K3.out⟩, by simp [intOf]; omega⟩ | (go_roundw; all_goals first | exact ⟨k + 1, hlt, by go_num, HTK.out, K3.out⟩ | (simp [intOf]; omega))
      ·have HR : Hid (fin = false) := oh (HBAD.out (fun h => e3 (congrArg Dl.Ho.pl h)))
       clear x3 x4 x5 y3 y4 y5
       cases xp <;> cases yp
       ·exact absurd rfl e3
       ·clear e3; go_wp2_with fail
        refine wp_region_held_drew (S := fun V => V.cell? ⟨b, off + k * 6 + 3, none⟩ = some (I6 xf) ∧ V.cell? ⟨b, off + k * 6 + 4, none⟩ = some (I6 xt) ∧ V.cell? ⟨b, off + k * 6 + 5, none⟩ = some (.bool false) ∧ V.cell? ⟨b2, off2 + k * 6 + 3, none⟩ = some (I6 xf) ∧ V.cell? ⟨b2, off2 + k * 6 + 4, none⟩ = some (I6 xt) ∧ V.cell? ⟨b2, off2 + k * 6 + 5, none⟩ = some (.bool true) ∧ Hid (Kp w V none)) (by kernel_rfl) (⟨(HCX.out _ HK.out.drew).2.2.2.1, (HCX.out _ HK.out.drew).2.2.2.2.1, (HCX.out _ HK.out.drew).2.2.2.2.2, (HCY.out _ HK.out.drew).2.2.2.1, (HCY.out _ HK.out.drew).2.2.2.2.1, (HCY.out _ HK.out.drew).2.2.2.2.2, oh HK.out.drew⟩) (fun eh => ?_)
        refine tjH 0 rfl ?_; refine tjH 1 rfl ?_; refine tjH 5 rfl ?_; refine tjH 6 rfl ?_; refine tjH 2 rfl ?_; refine tjH 7 rfl ?_; refine tjH 3 rfl ?_; refine tjH 8 rfl ?_; refine tjH 4 rfl ?_; refine tjH 9 rfl ?_; refine tjH 10 rfl ?_; refine tjH 11 rfl ?_; refine tjH 12 rfl ?_; refine tjH 13 rfl ?_; refine tjH 17 rfl ?_; refine tjH 18 rfl ?_; refine tjH 14 rfl ?_; refine tjH 19 rfl ?_; refine tjH 15 rfl ?_; refine tjH 20 rfl ?_; refine tjH 16 rfl ?_; refine tjH 21 rfl ?_; refine tjH 22 rfl ?_; refine tjH 23 rfl ?_; refine tjH 24 rfl ?_; refine tjH 25 rfl ?_; refine tjH 26 rfl ?_; refine tjH 30 rfl ?_
        refine tjH 31 rfl ?_; refine tjH 27 rfl ?_; refine tjH 32 rfl ?_; refine tjH 28 rfl ?_; refine tjH 33 rfl ?_; refine tjH 29 rfl ?_; refine tjH 34 rfl ?_; refine tjH 35 rfl ?_; refine tjH 36 rfl ?_; refine tjH 37 rfl ?_; refine tjU 38 rfl ?_; refine tjU 39 rfl ?_; refine tjU 43 rfl ?_; refine tjU 44 rfl ?_; refine tjU 40 rfl ?_; refine tjU 45 rfl ?_; refine tjU 41 rfl ?_; refine tjU 46 rfl ?_; refine tjU 42 rfl ?_; refine tjU 47 rfl ?_; refine tjU 48 rfl ?_; refine tjU 49 rfl ?_; refine rdH 50 rfl (fun K hK => ?_); have gK := eh.2.2.2.2.2.2; clear eh; go_simp; try go_wp2_with fail
        refine hK.out _ _ (⟨(HCX.out _ gK.out).2.2.2.1, (HCX.out _ gK.out).2.2.2.2.1, (HCX.out _ gK.out).2.2.2.2.2, (HCY.out _ gK.out).2.2.2.1, (HCY.out _ gK.out).2.2.2.2.1, (HCY.out _ gK.out).2.2.2.2.2, oh gK.out⟩) (fun _ => ?_)
        have KZ := oh gK.out
        clear hK K gK; try simp only [Act.put, sm]
        refine wpAnyH_done (by kernel_rfl) ?_ _
        go_wp2_with fail
        go_ret
        exact ⟨ret_bool HR.out.symm, KZ.out⟩
       ·clear e3; go_wp2_with fail
        refine wp_region_held_drew (S := fun V => V.cell? ⟨b, off + k * 6 + 3, none⟩ = some (I6 xf) ∧ V.cell? ⟨b, off + k * 6 + 4, none⟩ = some (I6 xt) ∧ V.cell? ⟨b, off + k * 6 + 5, none⟩ = some (.bool true) ∧ V.cell? ⟨b2, off2 + k * 6 + 3, none⟩ = some (I6 xf) ∧ V.cell? ⟨b2, off2 + k * 6 + 4, none⟩ = some (I6 xt) ∧ V.cell? ⟨b2, off2 + k * 6 + 5, none⟩ = some (.bool false) ∧ Hid (Kp w V none)) (by kernel_rfl) (⟨(HCX.out _ HK.out.drew).2.2.2.1, (HCX.out _ HK.out.drew).2.2.2.2.1, (HCX.out _ HK.out.drew).2.2.2.2.2, (HCY.out _ HK.out.drew).2.2.2.1, (HCY.out _ HK.out.drew).2.2.2.2.1, (HCY.out _ HK.out.drew).2.2.2.2.2, oh HK.out.drew⟩) (fun eh => ?_)
        refine tjH 0 rfl ?_; refine tjH 1 rfl ?_; refine tjH 5 rfl ?_; refine tjH 6 rfl ?_; refine tjH 2 rfl ?_; refine tjH 7 rfl ?_; refine tjH 3 rfl ?_; refine tjH 8 rfl ?_; refine tjH 4 rfl ?_; refine tjH 9 rfl ?_; refine tjH 10 rfl ?_; refine tjH 11 rfl ?_; refine tjH 12 rfl ?_; refine tjH 13 rfl ?_; refine tjH 17 rfl ?_; refine tjH 18 rfl ?_; refine tjH 14 rfl ?_; refine tjH 19 rfl ?_; refine tjH 15 rfl ?_; refine tjH 20 rfl ?_; refine tjH 16 rfl ?_; refine tjH 21 rfl ?_; refine tjH 22 rfl ?_; refine tjH 23 rfl ?_; refine tjH 24 rfl ?_; refine tjH 25 rfl ?_; refine tjH 26 rfl ?_; refine tjH 30 rfl ?_
        refine tjH 31 rfl ?_; refine tjH 27 rfl ?_; refine tjH 32 rfl ?_; refine tjH 28 rfl ?_; refine tjH 33 rfl ?_; refine tjH 29 rfl ?_; refine tjH 34 rfl ?_; refine tjH 35 rfl ?_; refine tjH 36 rfl ?_; refine tjH 37 rfl ?_; refine tjU 38 rfl ?_; refine tjU 39 rfl ?_; refine tjU 43 rfl ?_; refine tjU 44 rfl ?_; refine tjU 40 rfl ?_; refine tjU 45 rfl ?_; refine tjU 41 rfl ?_; refine tjU 46 rfl ?_; refine tjU 42 rfl ?_; refine tjU 47 rfl ?_; refine tjU 48 rfl ?_; refine tjU 49 rfl ?_; refine rdH 50 rfl (fun K hK => ?_); have gK := eh.2.2.2.2.2.2; clear eh; go_simp; try go_wp2_with fail
        refine hK.out _ _ (⟨(HCX.out _ gK.out).2.2.2.1, (HCX.out _ gK.out).2.2.2.2.1, (HCX.out _ gK.out).2.2.2.2.2, (HCY.out _ gK.out).2.2.2.1, (HCY.out _ gK.out).2.2.2.2.1, (HCY.out _ gK.out).2.2.2.2.2, oh gK.out⟩) (fun _ => ?_)
        have KZ := oh gK.out
        clear hK K gK; try simp only [Act.put, sm]
        refine wpAnyH_done (by kernel_rfl) ?_ _
        go_wp2_with fail
        go_ret
        exact ⟨ret_bool HR.out.symm, KZ.out⟩
       ·exact absurd rfl e3
     ·have HR : Hid (fin = false) := oh (HBAD.out (fun h => e2 (congrArg Dl.Ho.t h)))
      have d1 : (xt != yt) = true := by simpa using e2
      clear x3 x4 x5 y3 y4 y5 e2; go_wp2_with fail
      refine wp_region_held_drew (S := fun V => V.cell? ⟨b, off + k * 6 + 3, none⟩ = some (I6 xf) ∧ V.cell? ⟨b, off + k * 6 + 4, none⟩ = some (I6 xt) ∧ V.cell? ⟨b, off + k * 6 + 5, none⟩ = some (.bool xp) ∧ V.cell? ⟨b2, off2 + k * 6 + 3, none⟩ = some (I6 xf) ∧ V.cell? ⟨b2, off2 + k * 6 + 4, none⟩ = some (I6 yt) ∧ V.cell? ⟨b2, off2 + k * 6 + 5, none⟩ = some (.bool yp) ∧ Hid (Kp w V none)) (by kernel_rfl) (⟨(HCX.out _ HK.out.drew).2.2.2.1, (HCX.out _ HK.out.drew).2.2.2.2.1, (HCX.out _ HK.out.drew).2.2.2.2.2, (HCY.out _ HK.out.drew).2.2.2.1, (HCY.out _ HK.out.drew).2.2.2.2.1, (HCY.out _ HK.out.drew).2.2.2.2.2, oh HK.out.drew⟩) (fun eh => ?_)
      refine tjH 0 rfl ?_; refine tjH 1 rfl ?_; refine tjH 5 rfl ?_; refine tjH 6 rfl ?_; refine tjH 2 rfl ?_; refine tjH 7 rfl ?_; refine tjH 3 rfl ?_; refine tjH 8 rfl ?_; refine tjH 4 rfl ?_; refine tjH 9 rfl ?_; refine tjH 10 rfl ?_; refine tjH 11 rfl ?_; refine tjH 12 rfl ?_; refine tjH 13 rfl ?_; refine tjH 17 rfl ?_; refine tjH 18 rfl ?_; refine tjH 14 rfl ?_; refine tjH 19 rfl ?_; refine tjH 15 rfl ?_; refine tjH 20 rfl ?_; refine tjH 16 rfl ?_; refine tjH 21 rfl ?_; refine tjH 22 rfl ?_; refine tjH 23 rfl ?_; refine tjH 24 rfl ?_; refine tjU 25 rfl ?_; refine tjU 26 rfl ?_; refine tjU 30 rfl ?_
      refine tjU 31 rfl ?_; refine tjU 27 rfl ?_; refine tjU 32 rfl ?_; refine tjU 28 rfl ?_; refine tjU 33 rfl ?_; refine tjU 29 rfl ?_; refine tjU 34 rfl ?_; refine tjU 35 rfl ?_; refine tjH 36 rfl ?_; refine tjH 37 rfl ?_; refine tjU 38 rfl ?_; refine tjU 39 rfl ?_; refine tjU 43 rfl ?_; refine tjU 44 rfl ?_; refine tjU 40 rfl ?_; refine tjU 45 rfl ?_; refine tjU 41 rfl ?_; refine tjU 46 rfl ?_; refine tjU 42 rfl ?_; refine tjU 47 rfl ?_; refine tjU 48 rfl ?_; refine tjU 49 rfl ?_; refine rdH 50 rfl (fun K hK => ?_); have gK := eh.2.2.2.2.2.2; clear eh; go_simp; try go_wp2_with fail
      refine hK.out _ _ (⟨(HCX.out _ gK.out).2.2.2.1, (HCX.out _ gK.out).2.2.2.2.1, (HCX.out _ gK.out).2.2.2.2.2, (HCY.out _ gK.out).2.2.2.1, (HCY.out _ gK.out).2.2.2.2.1, (HCY.out _ gK.out).2.2.2.2.2, oh gK.out⟩) (fun _ => ?_)
      have KZ := oh gK.out
      clear hK K gK; try simp only [Act.put, sm]
      refine wpAnyH_done (by kernel_rfl) ?_ _
      go_wp2_with fail
      go_ret
      exact ⟨ret_bool HR.out.symm, KZ.out⟩
    ·have HR : Hid (fin = false) := oh (HBAD.out (fun h => e1 (congrArg Dl.Ho.f h)))
     have d1 : (xf != yf) = true := by simpa using e1
     clear x3 x4 x5 y3 y4 y5 e1; go_wp2_with fail
     refine wp_region_held_drew (S := fun V => V.cell? ⟨b, off + k * 6 + 3, none⟩ = some (I6 xf) ∧ V.cell? ⟨b, off + k * 6 + 4, none⟩ = some (I6 xt) ∧ V.cell? ⟨b, off + k * 6 + 5, none⟩ = some (.bool xp) ∧ V.cell? ⟨b2, off2 + k * 6 + 3, none⟩ = some (I6 yf) ∧ V.cell? ⟨b2, off2 + k * 6 + 4, none⟩ = some (I6 yt) ∧ V.cell? ⟨b2, off2 + k * 6 + 5, none⟩ = some (.bool yp) ∧ Hid (Kp w V none)) (by kernel_rfl) (⟨(HCX.out _ HK.out.drew).2.2.2.1, (HCX.out _ HK.out.drew).2.2.2.2.1, (HCX.out _ HK.out.drew).2.2.2.2.2, (HCY.out _ HK.out.drew).2.2.2.1, (HCY.out _ HK.out.drew).2.2.2.2.1, (HCY.out _ HK.out.drew).2.2.2.2.2, oh HK.out.drew⟩) (fun eh => ?_)
     refine tjH 0 rfl ?_; refine tjH 1 rfl ?_; refine tjH 5 rfl ?_; refine tjH 6 rfl ?_; refine tjH 2 rfl ?_; refine tjH 7 rfl ?_; refine tjH 3 rfl ?_; refine tjH 8 rfl ?_; refine tjH 4 rfl ?_; refine tjH 9 rfl ?_; refine tjH 10 rfl ?_; refine tjH 11 rfl ?_; refine tjU 12 rfl ?_; refine tjU 13 rfl ?_; refine tjU 17 rfl ?_; refine tjU 18 rfl ?_; refine tjU 14 rfl ?_; refine tjU 19 rfl ?_; refine tjU 15 rfl ?_; refine tjU 20 rfl ?_; refine tjU 16 rfl ?_; refine tjU 21 rfl ?_; refine tjU 22 rfl ?_; refine tjH 23 rfl ?_; refine tjH 24 rfl ?_; refine tjU 25 rfl ?_; refine tjU 26 rfl ?_; refine tjU 30 rfl ?_
     refine tjU 31 rfl ?_; refine tjU 27 rfl ?_; refine tjU 32 rfl ?_; refine tjU 28 rfl ?_; refine tjU 33 rfl ?_; refine tjU 29 rfl ?_; refine tjU 34 rfl ?_; refine tjU 35 rfl ?_; refine tjH 36 rfl ?_; refine tjH 37 rfl ?_; refine tjU 38 rfl ?_; refine tjU 39 rfl ?_; refine tjU 43 rfl ?_; refine tjU 44 rfl ?_; refine tjU 40 rfl ?_; refine tjU 45 rfl ?_; refine tjU 41 rfl ?_; refine tjU 46 rfl ?_; refine tjU 42 rfl ?_; refine tjU 47 rfl ?_; refine tjU 48 rfl ?_; refine tjU 49 rfl ?_; refine rdH 50 rfl (fun K hK => ?_); have gK := eh.2.2.2.2.2.2; clear eh; go_simp; try go_wp2_with fail
     refine hK.out _ _ (⟨(HCX.out _ gK.out).2.2.2.1, (HCX.out _ gK.out).2.2.2.2.1, (HCX.out _ gK.out).2.2.2.2.2, (HCY.out _ gK.out).2.2.2.1, (HCY.out _ gK.out).2.2.2.2.1, (HCY.out _ gK.out).2.2.2.2.2, oh gK.out⟩) (fun _ => ?_)
     have KZ := oh gK.out
     clear hK K gK; try simp only [Act.put, sm]
     refine wpAnyH_done (by kernel_rfl) ?_ _
     go_wp2_with fail
     go_ret
     exact ⟨ret_bool HR.out.symm, KZ.out⟩
   ·have hk2 : k = n := by omega
    subst hk2
    have HR : Hid (fin = true) := oh (by
     rw [← HFIN.out]; refine decide_eq_true ?_
     have h1 := HT.out; rw [List.take_of_length_le (by rw [List.length_map]; have := HN.out; omega), List.take_of_length_le (by rw [List.length_map]; have := HNF.out; omega)] at h1
     exact h1)
    go_wp2_with fail
    go_ret
    exact ⟨ret_bool HR.out.symm, HK.out⟩
 ·have HR : Hid (fin = false) := oh (by
   rw [← HFIN.out]; refine decide_eq_false (fun h => hnm ?_)
   have := congrArg List.length h
   rw [List.length_map, List.length_map, HN.out, HNFm.out] at this; exact this)
  have d1 : ((n : Int) != (m : Int)) = true := by simp; omega
  clear hnm; go_enter Tryz.func17, Tryz.ntmps17
  go_wp2_with fail
  go_ret
  exact ⟨ret_bool HR.out.symm, Kp.refl _ _⟩
end Go.Proofs.YtljjbdbgedmadaaGreatDoor
