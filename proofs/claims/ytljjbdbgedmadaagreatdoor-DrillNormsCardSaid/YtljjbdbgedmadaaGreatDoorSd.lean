/- Lists of holes compared. Conditions: at most 10^6 holes, and edges of each. -/
import Derived.Test.YtljjbdbgedmadaaGreatDoorSa
namespace Go.Proofs.YtljjbdbgedmadaaGreatDoor
open Go.RowKit

deriving instance DecidableEq for Dl.Ho
theorem info50 : (Tryz.prog.info? 50).map (·.size) = some 3 := by kernel_rfl
theorem range3 {w : World} {b o : Nat} {x y z : Value} (h0 : w.cell? ⟨b, o, none⟩ = some x) (h1 : w.cell? ⟨b, o + 1, none⟩ = some y) (h2 : w.cell? ⟨b, o + 2, none⟩ = some z) : w.rangeAt b o #[x, y, z].toList := fun j v hv => by
  match j, hv with
  | 0, hv => rw [← hv]; exact h0
  | 1, hv => rw [← hv]; exact h1
  | 2, hv => rw [← hv]; exact h2
  | n + 3, hv => cases hv
set_option maxHeartbeats 16000000 in
set_option maxRecDepth 100000 in
theorem hsame_any (ts us : List HT) (n m : Nat) (hn : ts.length = n) (hm : us.length = m) (ao bo : Option Addr) (ca cb : Nat) (w : World) (ha : HolesAt w ao ca ts) (hb : HolesAt w bo cb us) (hea : ∀ z ∈ ts, z.h.s.es.length ≤ 1000000) (heb : ∀ z ∈ us, z.h.s.es.length ≤ 1000000) (hl : n ≤ 1000000) (hl2 : m ≤ 1000000) :
    Calls Tryz.prog 17 #[.slice ao n ca, .slice bo m cb] w fun E w' => E = .returned (.bool (decide (ts.map (·.h) = us.map (·.h)))) ∧ Kp w w' none := by
  have FA := Lib.hid ha
  have FB := Lib.hid hb
  have HN := Lib.hid hn
  have HNFm := Lib.hid hm
  have HEA := Lib.hid hea
  have HEB := Lib.hid heb
  obtain ⟨fin, hfin⟩ : ∃ f, decide (ts.map (·.h) = us.map (·.h)) = f := ⟨_, rfl⟩
  have HFIN := Lib.hid hfin
  rw [hfin]
  clear ha hb hn hm hfin hea heb
  have hn0 : (0 : Int) ≤ (n : Int) := Int.natCast_nonneg _
  have hm0 : (0 : Int) ≤ (m : Int) := Int.natCast_nonneg _
  by_cases hnm : n = m
  · subst hnm
    have HNF : Hid (us.length = n) := HNFm
    clear HNFm
    go_enter Tryz.func17, Tryz.ntmps17
    go_wp2_with fail
    go_loopw [5] (fun i wr => ∃ k : Nat, k ≤ n ∧ i = .int .i64 k ∧ (ts.map (·.h)).take k = (us.map (·.h)).take k ∧ Kp w wr none) (fun i _ => n - (intOf i).toNat)
    case atStart => exact ⟨0, Nat.zero_le _, rfl, rfl, Kp.refl _ _⟩
    case round =>
      obtain ⟨k, hk, rfl, hT, hK⟩ := hrel
      have HT := Lib.hid hT
      have HK := Lib.hid hK
      clear hT hK
      have hk0 : (0 : Int) ≤ (k : Int) := Int.natCast_nonneg _
      by_cases hlt : k < n
      · have hk1 : (k : Int) < (n : Int) := by omega
        obtain ⟨b, off, rfl, hcap, hbs, hcx⟩ := FA.out.ho (k := k) (by have := HN.out; omega)
        obtain ⟨b2, off2, rfl, hcap2, hbs2, hcy⟩ := FB.out.ho (k := k) (by have := HNF.out; omega)
        have hca : n ≤ ca := by have := HN.out; omega
        have hcb : n ≤ cb := by have := HNF.out; omega
        have HBAD : Hid (((ts[k]'(by have := HN.out; omega)).h = (us[k]'(by have := HNF.out; omega)).h → False) → fin = false) := Lib.hid (fun h => by
          rw [← HFIN.out]
          refine decide_eq_false (fun hq => h ?_)
          have h1 : (ts.map (·.h))[k]'(by rw [List.length_map]; have := HN.out; omega) = (us.map (·.h))[k]'(by rw [List.length_map]; have := HNF.out; omega) := by simp only [hq]
          simpa using h1)
        have HGOOD : Hid ((ts[k]'(by have := HN.out; omega)).h = (us[k]'(by have := HNF.out; omega)).h → (ts.map (·.h)).take (k + 1) = (us.map (·.h)).take (k + 1)) := Lib.hid (fun h => take_eq HT.out (by rw [List.length_map]; have := HN.out; omega) (by rw [List.length_map]; have := HNF.out; omega) (by simpa using h))
        have he1 := HEA.out _ (List.getElem_mem (show k < ts.length by have := HN.out; omega))
        have he2 := HEB.out _ (List.getElem_mem (show k < us.length by have := HNF.out; omega))
        have h1 := FA.out.2 _ (List.getElem_mem (show k < ts.length by have := HN.out; omega))
        have h2 := FB.out.2 _ (List.getElem_mem (show k < us.length by have := HNF.out; omega))
        obtain ⟨x, hx⟩ : ∃ e, ts[k]'(by have := HN.out; omega) = e := ⟨_, rfl⟩
        obtain ⟨y, hy⟩ : ∃ e, us[k]'(by have := HNF.out; omega) = e := ⟨_, rfl⟩
        rw [hx] at hcx h1 he1 HBAD HGOOD
        rw [hy] at hcy h2 he2 HBAD HGOOD
        obtain ⟨⟨⟨xk, xes, xr⟩, xf, xt, xp⟩, xa, xc⟩ := x
        obtain ⟨⟨⟨yk, yes, yr⟩, yf, yt, yp⟩, ya, yc⟩ := y
        dsimp only at hcx hcy h1 h2 he1 he2 HBAD HGOOD
        have HCX := Lib.hid hcx
        have HCY := Lib.hid hcy
        obtain ⟨sb, hsb⟩ : ∃ sb, decide ((⟨xk, xes, xr⟩ : Pl.Sh) = ⟨yk, yes, yr⟩) = sb := ⟨_, rfl⟩
        have HSB := Lib.hid hsb
        obtain ⟨xn, hxn⟩ : ∃ q, xes.length = q := ⟨_, rfl⟩
        obtain ⟨yn, hyn⟩ : ∃ q, yes.length = q := ⟨_, rfl⟩
        have HSM : Hid (∀ V, Kp w V none → Calls Tryz.prog 54 #[.agg #[.int .i64 xk, .slice xa xn xc, .int .i64 xr], .agg #[.int .i64 yk, .slice ya yn yc, .int .i64 yr]] V fun E w' => E = .returned (.bool sb) ∧ Kp V w' none) := Lib.hid (fun V kv => by
          rw [← hsb]
          exact rsame_any xk xr yk yr xes yes xn yn hxn hyn xa ya xc yc V (h1.keep kv) (h2.keep kv) (by omega) (by omega))
        rw [hxn] at HCX
        rw [hyn] at HCY
        have HRX : Hid (∀ V, Kp w V none → V.rangeAt b (off + k * 6) #[.int .i64 xk, .slice xa xn xc, .int .i64 xr].toList) := Lib.hid fun V kv => range3 (HCX.out V kv).1 (HCX.out V kv).2.1 (HCX.out V kv).2.2.1
        have HRY : Hid (∀ V, Kp w V none → V.rangeAt b2 (off2 + k * 6) #[.int .i64 yk, .slice ya yn yc, .int .i64 yr].toList) := Lib.hid fun V kv => range3 (HCY.out V kv).1 (HCY.out V kv).2.1 (HCY.out V kv).2.2.1
        have x3 := (HCX.out _ HK.out).2.2.2.1
        have x4 := (HCX.out _ HK.out).2.2.2.2.1
        have x5 := (HCX.out _ HK.out).2.2.2.2.2
        have y3 := (HCY.out _ HK.out).2.2.2.1
        have y4 := (HCY.out _ HK.out).2.2.2.2.1
        have y5 := (HCY.out _ HK.out).2.2.2.2.2
        clear hx hy hcx hcy h1 h2 he1 he2 hsb hcap hcap2 hbs hbs2 HT hxn hyn
        by_cases e1 : xf = yf
        · subst e1
          by_cases e2 : xt = yt
          · subst e2
            by_cases e3 : xp = yp
            · subst e3
              clear x3 x4 x5 y3 y4 y5
              go_wp2_with fail
              refine wp_region_held_drew (S := fun V => V.cell? ⟨b, off + k * 6 + 3, none⟩ = some (.int .i64 xf) ∧ V.cell? ⟨b, off + k * 6 + 4, none⟩ = some (.int .i64 xt) ∧ V.cell? ⟨b, off + k * 6 + 5, none⟩ = some (.bool xp) ∧ V.cell? ⟨b2, off2 + k * 6 + 3, none⟩ = some (.int .i64 xf) ∧ V.cell? ⟨b2, off2 + k * 6 + 4, none⟩ = some (.int .i64 xt) ∧ V.cell? ⟨b2, off2 + k * 6 + 5, none⟩ = some (.bool xp) ∧ V.rangeAt b (off + k * 6) #[.int .i64 xk, .slice xa xn xc, .int .i64 xr].toList ∧ V.rangeAt b2 (off2 + k * 6) #[.int .i64 yk, .slice ya yn yc, .int .i64 yr].toList ∧ Hid (Kp w V none)) (by kernel_rfl) (⟨(HCX.out _ HK.out.drew).2.2.2.1, (HCX.out _ HK.out.drew).2.2.2.2.1, (HCX.out _ HK.out.drew).2.2.2.2.2, (HCY.out _ HK.out.drew).2.2.2.1, (HCY.out _ HK.out.drew).2.2.2.2.1, (HCY.out _ HK.out.drew).2.2.2.2.2, HRX.out _ HK.out.drew, HRY.out _ HK.out.drew, Lib.hid HK.out.drew⟩) (fun hHeld => ?_)
              refine tkH 0 rfl ?_
              try simp only [Act.put, sm]
              refine tkH 1 rfl ?_
              try simp only [Act.put, sm]
              refine tkH 5 rfl ?_
              try simp only [Act.put, sm]
              refine tkH 6 rfl ?_
              try simp only [Act.put, sm]
              refine tkH 2 rfl ?_
              try simp only [Act.put, sm]
              refine tkH 7 rfl ?_
              try simp only [Act.put, sm]
              refine tkH 3 rfl ?_
              try simp only [Act.put, sm]
              refine tkH 8 rfl ?_
              try simp only [Act.put, sm]
              refine tkH 4 rfl ?_
              try simp only [Act.put, sm]
              refine tkH 9 rfl ?_
              try simp only [Act.put, sm]
              refine tkH 10 rfl ?_
              try simp only [Act.put, sm]
              refine tkH 11 rfl ?_
              try simp only [Act.put, sm]
              refine tkH 12 rfl ?_
              try simp only [Act.put, sm]
              refine tkH 13 rfl ?_
              try simp only [Act.put, sm]
              refine tkH 17 rfl ?_
              try simp only [Act.put, sm]
              refine tkH 18 rfl ?_
              try simp only [Act.put, sm]
              refine tkH 14 rfl ?_
              try simp only [Act.put, sm]
              refine tkH 19 rfl ?_
              try simp only [Act.put, sm]
              refine tkH 15 rfl ?_
              try simp only [Act.put, sm]
              refine tkH 20 rfl ?_
              try simp only [Act.put, sm]
              refine tkH 16 rfl ?_
              try simp only [Act.put, sm]
              refine tkH 21 rfl ?_
              try simp only [Act.put, sm]
              refine tkH 22 rfl ?_
              try simp only [Act.put, sm]
              refine tkH 23 rfl ?_
              try simp only [Act.put, sm]
              refine tkH 24 rfl ?_
              try simp only [Act.put, sm]
              refine tkH 25 rfl ?_
              try simp only [Act.put, sm]
              refine tkH 26 rfl ?_
              try simp only [Act.put, sm]
              refine tkH 30 rfl ?_
              try simp only [Act.put, sm]
              refine tkH 31 rfl ?_
              try simp only [Act.put, sm]
              refine tkH 27 rfl ?_
              try simp only [Act.put, sm]
              refine tkH 32 rfl ?_
              try simp only [Act.put, sm]
              refine tkH 28 rfl ?_
              try simp only [Act.put, sm]
              refine tkH 33 rfl ?_
              try simp only [Act.put, sm]
              refine tkH 29 rfl ?_
              try simp only [Act.put, sm]
              refine tkH 34 rfl ?_
              try simp only [Act.put, sm]
              refine tkH 35 rfl ?_
              try simp only [Act.put, sm]
              refine tkH 36 rfl ?_
              try simp only [Act.put, sm]
              refine tkH 37 rfl ?_
              try simp only [Act.put, sm]
              refine tkH 38 rfl ?_
              try simp only [Act.put, sm]
              refine tkH 39 rfl ?_
              try simp only [Act.put, sm]
              refine tkH 43 rfl ?_
              try simp only [Act.put, sm]
              refine tkH 44 rfl ?_
              try simp only [Act.put, sm]
              refine tkH 40 rfl ?_
              try simp only [Act.put, sm]
              refine tkH 45 rfl ?_
              try simp only [Act.put, sm]
              refine tkH 41 rfl ?_
              try simp only [Act.put, sm]
              refine tkH 46 rfl ?_
              try simp only [Act.put, sm]
              refine wpAnyH_take (i := 42) rfl (by kernel_rfl) (by kernel_rfl) (by kernel_rfl) (fun _ _ _ h => h) (yieldsIf_load_mid (by rfl) _ _ rfl b (off + k * 6) rfl #[.int .i64 xk, .slice xa xn xc, .int .i64 xr].toList _ (fun _ h => h.2.2.2.2.2.2.1) Tryz.underlying50 rfl info50) (by assumption) ?_
              try simp only [Act.put, sm]
              refine wpAnyH_take (i := 47) rfl (by kernel_rfl) (by kernel_rfl) (by kernel_rfl) (fun _ _ _ h => h) (yieldsIf_load_mid (by rfl) _ _ rfl b2 (off2 + k * 6) rfl #[.int .i64 yk, .slice ya yn yc, .int .i64 yr].toList _ (fun _ h => h.2.2.2.2.2.2.2.1) Tryz.underlying50 rfl info50) (by assumption) ?_
              try simp only [Act.put, sm]
              refine wpAnyH_ready (rs := [48]) (by kernel_rfl) (by simp) ?_
              refine AllReadyH.cons (o := _) rfl (fun K hK => ?_) AllReadyH.nil
              have gK := hHeld.2.2.2.2.2.2.2.2
              clear hHeld
              go_simp
              refine (HSM.out _ gK.out).mono ?_
              rintro e V1 ⟨rfl, kk⟩
              try go_wp2_with fail
              refine hK.out _ _ (⟨(HCX.out _ (gK.out.trans kk)).2.2.2.1, (HCX.out _ (gK.out.trans kk)).2.2.2.2.1, (HCX.out _ (gK.out.trans kk)).2.2.2.2.2, (HCY.out _ (gK.out.trans kk)).2.2.2.1, (HCY.out _ (gK.out.trans kk)).2.2.2.2.1, (HCY.out _ (gK.out.trans kk)).2.2.2.2.2, HRX.out _ (gK.out.trans kk), HRY.out _ (gK.out.trans kk), Lib.hid (gK.out.trans kk)⟩) (fun hHeld => ?_)
              clear hK K gK kk
              try simp only [Act.put, sm]
              refine tkH 49 rfl ?_
              try simp only [Act.put, sm]
              refine tkH 50 rfl ?_
              try simp only [Act.put, sm]
              refine wpAnyH_done (by kernel_rfl) ?_ _
              have K3 := Lib.hid hHeld.2.2.2.2.2.2.2.2.out
              clear hHeld
              cases sb with
              | false =>
                have HR : Hid (fin = false) := Lib.hid (HBAD.out (fun h => (of_decide_eq_false HSB.out) (congrArg Dl.Ho.s h)))
                go_wp2_with fail
                go_ret
                exact ⟨ret_bool HR.out.symm, K3.out⟩
              | true =>
                have HSE : Hid ((⟨xk, xes, xr⟩ : Pl.Sh) = ⟨yk, yes, yr⟩) := Lib.hid (of_decide_eq_true HSB.out)
                have HTK := Lib.hid (HGOOD.out (by rw [HSE.out]))
                go_wp2_with fail
                try rw [wrap_mid (n := (k : Int) + 1) (by omega) (by omega)]
                first | exact ⟨⟨k + 1, hlt, by go_num, HTK.out, K3.out⟩, by simp [intOf]; omega⟩ | (go_roundw; all_goals first | exact ⟨k + 1, hlt, by go_num, HTK.out, K3.out⟩ | (simp [intOf]; omega))
            · have HR : Hid (fin = false) := Lib.hid (HBAD.out (fun h => e3 (congrArg Dl.Ho.pl h)))
              clear x3 x4 x5 y3 y4 y5
              cases xp <;> cases yp
              · exact absurd rfl e3
              · clear e3
                go_wp2_with fail
                refine wp_region_held_drew (S := fun V => V.cell? ⟨b, off + k * 6 + 3, none⟩ = some (.int .i64 xf) ∧ V.cell? ⟨b, off + k * 6 + 4, none⟩ = some (.int .i64 xt) ∧ V.cell? ⟨b, off + k * 6 + 5, none⟩ = some (.bool false) ∧ V.cell? ⟨b2, off2 + k * 6 + 3, none⟩ = some (.int .i64 xf) ∧ V.cell? ⟨b2, off2 + k * 6 + 4, none⟩ = some (.int .i64 xt) ∧ V.cell? ⟨b2, off2 + k * 6 + 5, none⟩ = some (.bool true) ∧ Hid (Kp w V none)) (by kernel_rfl) (⟨(HCX.out _ HK.out.drew).2.2.2.1, (HCX.out _ HK.out.drew).2.2.2.2.1, (HCX.out _ HK.out.drew).2.2.2.2.2, (HCY.out _ HK.out.drew).2.2.2.1, (HCY.out _ HK.out.drew).2.2.2.2.1, (HCY.out _ HK.out.drew).2.2.2.2.2, Lib.hid HK.out.drew⟩) (fun hHeld => ?_)
                refine tkH 0 rfl ?_
                try simp only [Act.put, sm]
                refine tkH 1 rfl ?_
                try simp only [Act.put, sm]
                refine tkH 5 rfl ?_
                try simp only [Act.put, sm]
                refine tkH 6 rfl ?_
                try simp only [Act.put, sm]
                refine tkH 2 rfl ?_
                try simp only [Act.put, sm]
                refine tkH 7 rfl ?_
                try simp only [Act.put, sm]
                refine tkH 3 rfl ?_
                try simp only [Act.put, sm]
                refine tkH 8 rfl ?_
                try simp only [Act.put, sm]
                refine tkH 4 rfl ?_
                try simp only [Act.put, sm]
                refine tkH 9 rfl ?_
                try simp only [Act.put, sm]
                refine tkH 10 rfl ?_
                try simp only [Act.put, sm]
                refine tkH 11 rfl ?_
                try simp only [Act.put, sm]
                refine tkH 12 rfl ?_
                try simp only [Act.put, sm]
                refine tkH 13 rfl ?_
                try simp only [Act.put, sm]
                refine tkH 17 rfl ?_
                try simp only [Act.put, sm]
                refine tkH 18 rfl ?_
                try simp only [Act.put, sm]
                refine tkH 14 rfl ?_
                try simp only [Act.put, sm]
                refine tkH 19 rfl ?_
                try simp only [Act.put, sm]
                refine tkH 15 rfl ?_
                try simp only [Act.put, sm]
                refine tkH 20 rfl ?_
                try simp only [Act.put, sm]
                refine tkH 16 rfl ?_
                try simp only [Act.put, sm]
                refine tkH 21 rfl ?_
                try simp only [Act.put, sm]
                refine tkH 22 rfl ?_
                try simp only [Act.put, sm]
                refine tkH 23 rfl ?_
                try simp only [Act.put, sm]
                refine tkH 24 rfl ?_
                try simp only [Act.put, sm]
                refine tkH 25 rfl ?_
                try simp only [Act.put, sm]
                refine tkH 26 rfl ?_
                try simp only [Act.put, sm]
                refine tkH 30 rfl ?_
                try simp only [Act.put, sm]
                refine tkH 31 rfl ?_
                try simp only [Act.put, sm]
                refine tkH 27 rfl ?_
                try simp only [Act.put, sm]
                refine tkH 32 rfl ?_
                try simp only [Act.put, sm]
                refine tkH 28 rfl ?_
                try simp only [Act.put, sm]
                refine tkH 33 rfl ?_
                try simp only [Act.put, sm]
                refine tkH 29 rfl ?_
                try simp only [Act.put, sm]
                refine tkH 34 rfl ?_
                try simp only [Act.put, sm]
                refine tkH 35 rfl ?_
                try simp only [Act.put, sm]
                refine tkH 36 rfl ?_
                try simp only [Act.put, sm]
                refine tkH 37 rfl ?_
                try simp only [Act.put, sm]
                refine tkU 38 rfl ?_
                try simp only [Act.put, sm]
                refine tkU 39 rfl ?_
                try simp only [Act.put, sm]
                refine tkU 43 rfl ?_
                try simp only [Act.put, sm]
                refine tkU 44 rfl ?_
                try simp only [Act.put, sm]
                refine tkU 40 rfl ?_
                try simp only [Act.put, sm]
                refine tkU 45 rfl ?_
                try simp only [Act.put, sm]
                refine tkU 41 rfl ?_
                try simp only [Act.put, sm]
                refine tkU 46 rfl ?_
                try simp only [Act.put, sm]
                refine tkU 42 rfl ?_
                try simp only [Act.put, sm]
                refine tkU 47 rfl ?_
                try simp only [Act.put, sm]
                refine tkU 48 rfl ?_
                try simp only [Act.put, sm]
                refine tkU 49 rfl ?_
                try simp only [Act.put, sm]
                refine wpAnyH_ready (rs := [50]) (by kernel_rfl) (by simp) ?_
                refine AllReadyH.cons (o := _) rfl (fun K hK => ?_) AllReadyH.nil
                have gK := hHeld.2.2.2.2.2.2
                clear hHeld
                go_simp
                try go_wp2_with fail
                refine hK.out _ _ (⟨(HCX.out _ gK.out).2.2.2.1, (HCX.out _ gK.out).2.2.2.2.1, (HCX.out _ gK.out).2.2.2.2.2, (HCY.out _ gK.out).2.2.2.1, (HCY.out _ gK.out).2.2.2.2.1, (HCY.out _ gK.out).2.2.2.2.2, Lib.hid gK.out⟩) (fun _ => ?_)
                have KZ := Lib.hid gK.out
                clear hK K gK
                try simp only [Act.put, sm]
                refine wpAnyH_done (by kernel_rfl) ?_ _
                go_wp2_with fail
                go_ret
                exact ⟨ret_bool HR.out.symm, KZ.out⟩
              · clear e3
                go_wp2_with fail
                refine wp_region_held_drew (S := fun V => V.cell? ⟨b, off + k * 6 + 3, none⟩ = some (.int .i64 xf) ∧ V.cell? ⟨b, off + k * 6 + 4, none⟩ = some (.int .i64 xt) ∧ V.cell? ⟨b, off + k * 6 + 5, none⟩ = some (.bool true) ∧ V.cell? ⟨b2, off2 + k * 6 + 3, none⟩ = some (.int .i64 xf) ∧ V.cell? ⟨b2, off2 + k * 6 + 4, none⟩ = some (.int .i64 xt) ∧ V.cell? ⟨b2, off2 + k * 6 + 5, none⟩ = some (.bool false) ∧ Hid (Kp w V none)) (by kernel_rfl) (⟨(HCX.out _ HK.out.drew).2.2.2.1, (HCX.out _ HK.out.drew).2.2.2.2.1, (HCX.out _ HK.out.drew).2.2.2.2.2, (HCY.out _ HK.out.drew).2.2.2.1, (HCY.out _ HK.out.drew).2.2.2.2.1, (HCY.out _ HK.out.drew).2.2.2.2.2, Lib.hid HK.out.drew⟩) (fun hHeld => ?_)
                refine tkH 0 rfl ?_
                try simp only [Act.put, sm]
                refine tkH 1 rfl ?_
                try simp only [Act.put, sm]
                refine tkH 5 rfl ?_
                try simp only [Act.put, sm]
                refine tkH 6 rfl ?_
                try simp only [Act.put, sm]
                refine tkH 2 rfl ?_
                try simp only [Act.put, sm]
                refine tkH 7 rfl ?_
                try simp only [Act.put, sm]
                refine tkH 3 rfl ?_
                try simp only [Act.put, sm]
                refine tkH 8 rfl ?_
                try simp only [Act.put, sm]
                refine tkH 4 rfl ?_
                try simp only [Act.put, sm]
                refine tkH 9 rfl ?_
                try simp only [Act.put, sm]
                refine tkH 10 rfl ?_
                try simp only [Act.put, sm]
                refine tkH 11 rfl ?_
                try simp only [Act.put, sm]
                refine tkH 12 rfl ?_
                try simp only [Act.put, sm]
                refine tkH 13 rfl ?_
                try simp only [Act.put, sm]
                refine tkH 17 rfl ?_
                try simp only [Act.put, sm]
                refine tkH 18 rfl ?_
                try simp only [Act.put, sm]
                refine tkH 14 rfl ?_
                try simp only [Act.put, sm]
                refine tkH 19 rfl ?_
                try simp only [Act.put, sm]
                refine tkH 15 rfl ?_
                try simp only [Act.put, sm]
                refine tkH 20 rfl ?_
                try simp only [Act.put, sm]
                refine tkH 16 rfl ?_
                try simp only [Act.put, sm]
                refine tkH 21 rfl ?_
                try simp only [Act.put, sm]
                refine tkH 22 rfl ?_
                try simp only [Act.put, sm]
                refine tkH 23 rfl ?_
                try simp only [Act.put, sm]
                refine tkH 24 rfl ?_
                try simp only [Act.put, sm]
                refine tkH 25 rfl ?_
                try simp only [Act.put, sm]
                refine tkH 26 rfl ?_
                try simp only [Act.put, sm]
                refine tkH 30 rfl ?_
                try simp only [Act.put, sm]
                refine tkH 31 rfl ?_
                try simp only [Act.put, sm]
                refine tkH 27 rfl ?_
                try simp only [Act.put, sm]
                refine tkH 32 rfl ?_
                try simp only [Act.put, sm]
                refine tkH 28 rfl ?_
                try simp only [Act.put, sm]
                refine tkH 33 rfl ?_
                try simp only [Act.put, sm]
                refine tkH 29 rfl ?_
                try simp only [Act.put, sm]
                refine tkH 34 rfl ?_
                try simp only [Act.put, sm]
                refine tkH 35 rfl ?_
                try simp only [Act.put, sm]
                refine tkH 36 rfl ?_
                try simp only [Act.put, sm]
                refine tkH 37 rfl ?_
                try simp only [Act.put, sm]
                refine tkU 38 rfl ?_
                try simp only [Act.put, sm]
                refine tkU 39 rfl ?_
                try simp only [Act.put, sm]
                refine tkU 43 rfl ?_
                try simp only [Act.put, sm]
                refine tkU 44 rfl ?_
                try simp only [Act.put, sm]
                refine tkU 40 rfl ?_
                try simp only [Act.put, sm]
                refine tkU 45 rfl ?_
                try simp only [Act.put, sm]
                refine tkU 41 rfl ?_
                try simp only [Act.put, sm]
                refine tkU 46 rfl ?_
                try simp only [Act.put, sm]
                refine tkU 42 rfl ?_
                try simp only [Act.put, sm]
                refine tkU 47 rfl ?_
                try simp only [Act.put, sm]
                refine tkU 48 rfl ?_
                try simp only [Act.put, sm]
                refine tkU 49 rfl ?_
                try simp only [Act.put, sm]
                refine wpAnyH_ready (rs := [50]) (by kernel_rfl) (by simp) ?_
                refine AllReadyH.cons (o := _) rfl (fun K hK => ?_) AllReadyH.nil
                have gK := hHeld.2.2.2.2.2.2
                clear hHeld
                go_simp
                try go_wp2_with fail
                refine hK.out _ _ (⟨(HCX.out _ gK.out).2.2.2.1, (HCX.out _ gK.out).2.2.2.2.1, (HCX.out _ gK.out).2.2.2.2.2, (HCY.out _ gK.out).2.2.2.1, (HCY.out _ gK.out).2.2.2.2.1, (HCY.out _ gK.out).2.2.2.2.2, Lib.hid gK.out⟩) (fun _ => ?_)
                have KZ := Lib.hid gK.out
                clear hK K gK
                try simp only [Act.put, sm]
                refine wpAnyH_done (by kernel_rfl) ?_ _
                go_wp2_with fail
                go_ret
                exact ⟨ret_bool HR.out.symm, KZ.out⟩
              · exact absurd rfl e3
          · have HR : Hid (fin = false) := Lib.hid (HBAD.out (fun h => e2 (congrArg Dl.Ho.t h)))
            have d1 : (xt != yt) = true := by simpa using e2
            clear x3 x4 x5 y3 y4 y5 e2
            go_wp2_with fail
            refine wp_region_held_drew (S := fun V => V.cell? ⟨b, off + k * 6 + 3, none⟩ = some (.int .i64 xf) ∧ V.cell? ⟨b, off + k * 6 + 4, none⟩ = some (.int .i64 xt) ∧ V.cell? ⟨b, off + k * 6 + 5, none⟩ = some (.bool xp) ∧ V.cell? ⟨b2, off2 + k * 6 + 3, none⟩ = some (.int .i64 xf) ∧ V.cell? ⟨b2, off2 + k * 6 + 4, none⟩ = some (.int .i64 yt) ∧ V.cell? ⟨b2, off2 + k * 6 + 5, none⟩ = some (.bool yp) ∧ Hid (Kp w V none)) (by kernel_rfl) (⟨(HCX.out _ HK.out.drew).2.2.2.1, (HCX.out _ HK.out.drew).2.2.2.2.1, (HCX.out _ HK.out.drew).2.2.2.2.2, (HCY.out _ HK.out.drew).2.2.2.1, (HCY.out _ HK.out.drew).2.2.2.2.1, (HCY.out _ HK.out.drew).2.2.2.2.2, Lib.hid HK.out.drew⟩) (fun hHeld => ?_)
            refine tkH 0 rfl ?_
            try simp only [Act.put, sm]
            refine tkH 1 rfl ?_
            try simp only [Act.put, sm]
            refine tkH 5 rfl ?_
            try simp only [Act.put, sm]
            refine tkH 6 rfl ?_
            try simp only [Act.put, sm]
            refine tkH 2 rfl ?_
            try simp only [Act.put, sm]
            refine tkH 7 rfl ?_
            try simp only [Act.put, sm]
            refine tkH 3 rfl ?_
            try simp only [Act.put, sm]
            refine tkH 8 rfl ?_
            try simp only [Act.put, sm]
            refine tkH 4 rfl ?_
            try simp only [Act.put, sm]
            refine tkH 9 rfl ?_
            try simp only [Act.put, sm]
            refine tkH 10 rfl ?_
            try simp only [Act.put, sm]
            refine tkH 11 rfl ?_
            try simp only [Act.put, sm]
            refine tkH 12 rfl ?_
            try simp only [Act.put, sm]
            refine tkH 13 rfl ?_
            try simp only [Act.put, sm]
            refine tkH 17 rfl ?_
            try simp only [Act.put, sm]
            refine tkH 18 rfl ?_
            try simp only [Act.put, sm]
            refine tkH 14 rfl ?_
            try simp only [Act.put, sm]
            refine tkH 19 rfl ?_
            try simp only [Act.put, sm]
            refine tkH 15 rfl ?_
            try simp only [Act.put, sm]
            refine tkH 20 rfl ?_
            try simp only [Act.put, sm]
            refine tkH 16 rfl ?_
            try simp only [Act.put, sm]
            refine tkH 21 rfl ?_
            try simp only [Act.put, sm]
            refine tkH 22 rfl ?_
            try simp only [Act.put, sm]
            refine tkH 23 rfl ?_
            try simp only [Act.put, sm]
            refine tkH 24 rfl ?_
            try simp only [Act.put, sm]
            refine tkU 25 rfl ?_
            try simp only [Act.put, sm]
            refine tkU 26 rfl ?_
            try simp only [Act.put, sm]
            refine tkU 30 rfl ?_
            try simp only [Act.put, sm]
            refine tkU 31 rfl ?_
            try simp only [Act.put, sm]
            refine tkU 27 rfl ?_
            try simp only [Act.put, sm]
            refine tkU 32 rfl ?_
            try simp only [Act.put, sm]
            refine tkU 28 rfl ?_
            try simp only [Act.put, sm]
            refine tkU 33 rfl ?_
            try simp only [Act.put, sm]
            refine tkU 29 rfl ?_
            try simp only [Act.put, sm]
            refine tkU 34 rfl ?_
            try simp only [Act.put, sm]
            refine tkU 35 rfl ?_
            try simp only [Act.put, sm]
            refine tkH 36 rfl ?_
            try simp only [Act.put, sm]
            refine tkH 37 rfl ?_
            try simp only [Act.put, sm]
            refine tkU 38 rfl ?_
            try simp only [Act.put, sm]
            refine tkU 39 rfl ?_
            try simp only [Act.put, sm]
            refine tkU 43 rfl ?_
            try simp only [Act.put, sm]
            refine tkU 44 rfl ?_
            try simp only [Act.put, sm]
            refine tkU 40 rfl ?_
            try simp only [Act.put, sm]
            refine tkU 45 rfl ?_
            try simp only [Act.put, sm]
            refine tkU 41 rfl ?_
            try simp only [Act.put, sm]
            refine tkU 46 rfl ?_
            try simp only [Act.put, sm]
            refine tkU 42 rfl ?_
            try simp only [Act.put, sm]
            refine tkU 47 rfl ?_
            try simp only [Act.put, sm]
            refine tkU 48 rfl ?_
            try simp only [Act.put, sm]
            refine tkU 49 rfl ?_
            try simp only [Act.put, sm]
            refine wpAnyH_ready (rs := [50]) (by kernel_rfl) (by simp) ?_
            refine AllReadyH.cons (o := _) rfl (fun K hK => ?_) AllReadyH.nil
            have gK := hHeld.2.2.2.2.2.2
            clear hHeld
            go_simp
            try go_wp2_with fail
            refine hK.out _ _ (⟨(HCX.out _ gK.out).2.2.2.1, (HCX.out _ gK.out).2.2.2.2.1, (HCX.out _ gK.out).2.2.2.2.2, (HCY.out _ gK.out).2.2.2.1, (HCY.out _ gK.out).2.2.2.2.1, (HCY.out _ gK.out).2.2.2.2.2, Lib.hid gK.out⟩) (fun _ => ?_)
            have KZ := Lib.hid gK.out
            clear hK K gK
            try simp only [Act.put, sm]
            refine wpAnyH_done (by kernel_rfl) ?_ _
            go_wp2_with fail
            go_ret
            exact ⟨ret_bool HR.out.symm, KZ.out⟩
        · have HR : Hid (fin = false) := Lib.hid (HBAD.out (fun h => e1 (congrArg Dl.Ho.f h)))
          have d1 : (xf != yf) = true := by simpa using e1
          clear x3 x4 x5 y3 y4 y5 e1
          go_wp2_with fail
          refine wp_region_held_drew (S := fun V => V.cell? ⟨b, off + k * 6 + 3, none⟩ = some (.int .i64 xf) ∧ V.cell? ⟨b, off + k * 6 + 4, none⟩ = some (.int .i64 xt) ∧ V.cell? ⟨b, off + k * 6 + 5, none⟩ = some (.bool xp) ∧ V.cell? ⟨b2, off2 + k * 6 + 3, none⟩ = some (.int .i64 yf) ∧ V.cell? ⟨b2, off2 + k * 6 + 4, none⟩ = some (.int .i64 yt) ∧ V.cell? ⟨b2, off2 + k * 6 + 5, none⟩ = some (.bool yp) ∧ Hid (Kp w V none)) (by kernel_rfl) (⟨(HCX.out _ HK.out.drew).2.2.2.1, (HCX.out _ HK.out.drew).2.2.2.2.1, (HCX.out _ HK.out.drew).2.2.2.2.2, (HCY.out _ HK.out.drew).2.2.2.1, (HCY.out _ HK.out.drew).2.2.2.2.1, (HCY.out _ HK.out.drew).2.2.2.2.2, Lib.hid HK.out.drew⟩) (fun hHeld => ?_)
          refine tkH 0 rfl ?_
          try simp only [Act.put, sm]
          refine tkH 1 rfl ?_
          try simp only [Act.put, sm]
          refine tkH 5 rfl ?_
          try simp only [Act.put, sm]
          refine tkH 6 rfl ?_
          try simp only [Act.put, sm]
          refine tkH 2 rfl ?_
          try simp only [Act.put, sm]
          refine tkH 7 rfl ?_
          try simp only [Act.put, sm]
          refine tkH 3 rfl ?_
          try simp only [Act.put, sm]
          refine tkH 8 rfl ?_
          try simp only [Act.put, sm]
          refine tkH 4 rfl ?_
          try simp only [Act.put, sm]
          refine tkH 9 rfl ?_
          try simp only [Act.put, sm]
          refine tkH 10 rfl ?_
          try simp only [Act.put, sm]
          refine tkH 11 rfl ?_
          try simp only [Act.put, sm]
          refine tkU 12 rfl ?_
          try simp only [Act.put, sm]
          refine tkU 13 rfl ?_
          try simp only [Act.put, sm]
          refine tkU 17 rfl ?_
          try simp only [Act.put, sm]
          refine tkU 18 rfl ?_
          try simp only [Act.put, sm]
          refine tkU 14 rfl ?_
          try simp only [Act.put, sm]
          refine tkU 19 rfl ?_
          try simp only [Act.put, sm]
          refine tkU 15 rfl ?_
          try simp only [Act.put, sm]
          refine tkU 20 rfl ?_
          try simp only [Act.put, sm]
          refine tkU 16 rfl ?_
          try simp only [Act.put, sm]
          refine tkU 21 rfl ?_
          try simp only [Act.put, sm]
          refine tkU 22 rfl ?_
          try simp only [Act.put, sm]
          refine tkH 23 rfl ?_
          try simp only [Act.put, sm]
          refine tkH 24 rfl ?_
          try simp only [Act.put, sm]
          refine tkU 25 rfl ?_
          try simp only [Act.put, sm]
          refine tkU 26 rfl ?_
          try simp only [Act.put, sm]
          refine tkU 30 rfl ?_
          try simp only [Act.put, sm]
          refine tkU 31 rfl ?_
          try simp only [Act.put, sm]
          refine tkU 27 rfl ?_
          try simp only [Act.put, sm]
          refine tkU 32 rfl ?_
          try simp only [Act.put, sm]
          refine tkU 28 rfl ?_
          try simp only [Act.put, sm]
          refine tkU 33 rfl ?_
          try simp only [Act.put, sm]
          refine tkU 29 rfl ?_
          try simp only [Act.put, sm]
          refine tkU 34 rfl ?_
          try simp only [Act.put, sm]
          refine tkU 35 rfl ?_
          try simp only [Act.put, sm]
          refine tkH 36 rfl ?_
          try simp only [Act.put, sm]
          refine tkH 37 rfl ?_
          try simp only [Act.put, sm]
          refine tkU 38 rfl ?_
          try simp only [Act.put, sm]
          refine tkU 39 rfl ?_
          try simp only [Act.put, sm]
          refine tkU 43 rfl ?_
          try simp only [Act.put, sm]
          refine tkU 44 rfl ?_
          try simp only [Act.put, sm]
          refine tkU 40 rfl ?_
          try simp only [Act.put, sm]
          refine tkU 45 rfl ?_
          try simp only [Act.put, sm]
          refine tkU 41 rfl ?_
          try simp only [Act.put, sm]
          refine tkU 46 rfl ?_
          try simp only [Act.put, sm]
          refine tkU 42 rfl ?_
          try simp only [Act.put, sm]
          refine tkU 47 rfl ?_
          try simp only [Act.put, sm]
          refine tkU 48 rfl ?_
          try simp only [Act.put, sm]
          refine tkU 49 rfl ?_
          try simp only [Act.put, sm]
          refine wpAnyH_ready (rs := [50]) (by kernel_rfl) (by simp) ?_
          refine AllReadyH.cons (o := _) rfl (fun K hK => ?_) AllReadyH.nil
          have gK := hHeld.2.2.2.2.2.2
          clear hHeld
          go_simp
          try go_wp2_with fail
          refine hK.out _ _ (⟨(HCX.out _ gK.out).2.2.2.1, (HCX.out _ gK.out).2.2.2.2.1, (HCX.out _ gK.out).2.2.2.2.2, (HCY.out _ gK.out).2.2.2.1, (HCY.out _ gK.out).2.2.2.2.1, (HCY.out _ gK.out).2.2.2.2.2, Lib.hid gK.out⟩) (fun _ => ?_)
          have KZ := Lib.hid gK.out
          clear hK K gK
          try simp only [Act.put, sm]
          refine wpAnyH_done (by kernel_rfl) ?_ _
          go_wp2_with fail
          go_ret
          exact ⟨ret_bool HR.out.symm, KZ.out⟩

      · have hk2 : k = n := by omega
        subst hk2
        have HR : Hid (fin = true) := Lib.hid (by
          rw [← HFIN.out]
          refine decide_eq_true ?_
          have h1 := HT.out
          rw [List.take_of_length_le (by rw [List.length_map]; have := HN.out; omega), List.take_of_length_le (by rw [List.length_map]; have := HNF.out; omega)] at h1
          exact h1)
        go_wp2_with fail
        go_ret
        exact ⟨ret_bool HR.out.symm, HK.out⟩
  · have HR : Hid (fin = false) := Lib.hid (by
      rw [← HFIN.out]
      refine decide_eq_false (fun h => hnm ?_)
      have := congrArg List.length h
      rw [List.length_map, List.length_map, HN.out, HNFm.out] at this
      exact this)
    have d1 : ((n : Int) != (m : Int)) = true := by simp; omega
    clear hnm
    go_enter Tryz.func17, Tryz.ntmps17
    go_wp2_with fail
    go_ret
    exact ⟨ret_bool HR.out.symm, Kp.refl _ _⟩
end Go.Proofs.YtljjbdbgedmadaaGreatDoor
