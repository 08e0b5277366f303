/- Lists of drawings compared. Condition: at most 10^6 drawings, and edges of each. -/
import Derived.Test.YtggplbenliaodaaGreatDoorSa
namespace Go.Proofs.YtggplbenliaodaaGreatDoor
open Go.RowKit

theorem LiesAt.dt {w : World} {ao : Option Addr} {cap : Nat} {ts : List DT} (h : LiesAt 4 dtC w ao cap ts) {k : Nat} (hk : k < ts.length) : ∃ b off, ao = some ⟨b, off, none⟩ ∧ ts.length ≤ cap ∧ ∀ V, Kp w V none →
    V.cell? ⟨b, off + k * 4, none⟩ = some (.int .i64 ts[k].d.s.k) ∧ V.cell? ⟨b, off + k * 4 + 1, none⟩ = some (.slice ts[k].ea ts[k].d.s.es.length ts[k].ec) ∧ V.cell? ⟨b, off + k * 4 + 2, none⟩ = some (.int .i64 ts[k].d.s.r) ∧ V.cell? ⟨b, off + k * 4 + 3, none⟩ = some (.bool ts[k].d.clear) := by
  obtain ⟨b, off, e, hb, hc, hr⟩ := h k hk
  refine ⟨b, off, e, hc, fun V kv => ?_⟩
  have q : ∀ j (hj : j < (dtC ts[k]).length), V.cell? ⟨b, off + k * 4 + j, none⟩ = some (dtC ts[k])[j] := fun j hj => (kv.below.cell (p := ⟨b, off + k * 4 + j, none⟩) hb).trans (hr j hj)
  exact ⟨q 0 (by simp [dtC]), q 1 (by simp [dtC]), q 2 (by simp [dtC]), q 3 (by simp [dtC])⟩
set_option maxHeartbeats 16000000 in
set_option maxRecDepth 100000 in
theorem dsame_any (ts us : List DT) (n m : Nat) (hn : ts.length = n) (hm : us.length = m) (ao bo : Option Addr) (ca cb : Nat) (w : World) (ha : LiesAt 4 dtC w ao ca ts) (hb : LiesAt 4 dtC w bo cb us) (hea : ∀ z ∈ ts, LiesAt 7 edC w z.ea z.ec z.d.s.es ∧ z.d.s.es.length ≤ 1000000) (heb : ∀ z ∈ us, LiesAt 7 edC w z.ea z.ec z.d.s.es ∧ z.d.s.es.length ≤ 1000000) (hl : n ≤ 1000000) (hl2 : m ≤ 1000000) :
    Calls Tryz.prog 13 #[.slice ao n ca, .slice bo m cb] w fun E w' => E = .returned (.bool (decide (ts.map (·.d) = us.map (·.d)))) ∧ Kp w w' none := by
  have FA := Lib.hid ha
  have FB := Lib.hid hb
  have HN := Lib.hid hn
  have HNFm := Lib.hid hm
  have HEA := Lib.hid hea
  have HEB := Lib.hid heb
  obtain ⟨fin, hfin⟩ : ∃ f, decide (ts.map (·.d) = us.map (·.d)) = f := ⟨_, rfl⟩
  have HFIN := Lib.hid hfin
  rw [hfin]
  clear ha hb hn hm hfin hea heb
  have hn0 : (0 : Int) ≤ (n : Int) := Int.natCast_nonneg _
  have hm0 : (0 : Int) ≤ (m : Int) := Int.natCast_nonneg _
  by_cases hnm : n = m
  · subst hnm
    have HNF : Hid (us.length = n) := HNFm
    clear HNFm
    go_enter Tryz.func13, Tryz.ntmps13
    go_wp2_with fail
    go_loopw [5] (fun i wr => ∃ k : Nat, k ≤ n ∧ i = .int .i64 k ∧ (ts.map (·.d)).take k = (us.map (·.d)).take k ∧ Kp w wr none) (fun i _ => n - (intOf i).toNat)
    case atStart => exact ⟨0, Nat.zero_le _, rfl, rfl, Kp.refl _ _⟩
    case round =>
      obtain ⟨k, hk, rfl, hT, hK⟩ := hrel
      have HT := Lib.hid hT
      have HK := Lib.hid hK
      clear hT hK
      have hk0 : (0 : Int) ≤ (k : Int) := Int.natCast_nonneg _
      by_cases hlt : k < n
      · have hk1 : (k : Int) < (n : Int) := by omega
        obtain ⟨b, off, rfl, hcap, hcx⟩ := FA.out.dt (k := k) (by have := HN.out; omega)
        obtain ⟨b2, off2, rfl, hcap2, hcy⟩ := FB.out.dt (k := k) (by have := HNF.out; omega)
        have hca : n ≤ ca := by have := HN.out; omega
        have hcb : n ≤ cb := by have := HNF.out; omega
        have HBAD : Hid (((ts[k]'(by have := HN.out; omega)).d = (us[k]'(by have := HNF.out; omega)).d → False) → fin = false) := Lib.hid (fun h => by
          rw [← HFIN.out]
          refine decide_eq_false (fun hq => h ?_)
          have h1 : (ts.map (·.d))[k]'(by rw [List.length_map]; have := HN.out; omega) = (us.map (·.d))[k]'(by rw [List.length_map]; have := HNF.out; omega) := by simp only [hq]
          simpa using h1)
        have HGOOD : Hid ((ts[k]'(by have := HN.out; omega)).d = (us[k]'(by have := HNF.out; omega)).d → (ts.map (·.d)).take (k + 1) = (us.map (·.d)).take (k + 1)) := Lib.hid (fun h => take_eq HT.out (by rw [List.length_map]; have := HN.out; omega) (by rw [List.length_map]; have := HNF.out; omega) (by simpa using h))
        have h1 := HEA.out _ (List.getElem_mem (show k < ts.length by have := HN.out; omega))
        have h2 := HEB.out _ (List.getElem_mem (show k < us.length by have := HNF.out; omega))
        obtain ⟨x, hx⟩ : ∃ e, ts[k]'(by have := HN.out; omega) = e := ⟨_, rfl⟩
        obtain ⟨y, hy⟩ : ∃ e, us[k]'(by have := HNF.out; omega) = e := ⟨_, rfl⟩
        rw [hx] at hcx h1 HBAD HGOOD
        rw [hy] at hcy h2 HBAD HGOOD
        have HCX := Lib.hid hcx
        have HCY := Lib.hid hcy
        obtain ⟨sb, hsb⟩ : ∃ sb, decide (x.d.s = y.d.s) = sb := ⟨_, rfl⟩
        have HSB := Lib.hid hsb
        have HSM : Hid (∀ V, Kp w V none → Calls Tryz.prog 19 #[.agg #[.int .i64 x.d.s.k, .slice x.ea x.d.s.es.length x.ec, .int .i64 x.d.s.r], .agg #[.int .i64 y.d.s.k, .slice y.ea y.d.s.es.length y.ec, .int .i64 y.d.s.r]] V fun E w' => E = .returned (.bool sb) ∧ Kp V w' none) := Lib.hid (fun V kv => by
          rw [← hsb]
          exact rsame_any x.d.s.k x.d.s.r y.d.s.k y.d.s.r x.d.s.es y.d.s.es _ _ rfl rfl x.ea y.ea x.ec y.ec V (h1.1.keep kv) (h2.1.keep kv) h1.2 h2.2)
        clear hx hy hcx hcy h1 h2 hsb hcap hcap2 HT
        go_wp2_with fail
        refine wp_region_last (fun V => V.cell? ⟨b, off + k * 4, none⟩ = some (.int .i64 x.d.s.k) ∧ V.cell? ⟨b, off + k * 4 + 1, none⟩ = some (.slice x.ea x.d.s.es.length x.ec) ∧ V.cell? ⟨b, off + k * 4 + 2, none⟩ = some (.int .i64 x.d.s.r) ∧ V.cell? ⟨b2, off2 + k * 4, none⟩ = some (.int .i64 y.d.s.k) ∧ V.cell? ⟨b2, off2 + k * 4 + 1, none⟩ = some (.slice y.ea y.d.s.es.length y.ec) ∧ V.cell? ⟨b2, off2 + k * 4 + 2, none⟩ = some (.int .i64 y.d.s.r) ∧ True) 11 (by kernel_rfl) ?_ (fun hHeld => ?_)
        · exact ⟨(HCX.out _ HK.out.drew).1, (HCX.out _ HK.out.drew).2.1, (HCX.out _ HK.out.drew).2.2.1, (HCY.out _ HK.out.drew).1, (HCY.out _ HK.out.drew).2.1, (HCY.out _ HK.out.drew).2.2.1, trivial⟩
        refine tkL 0 rfl ?_
        try simp only [Act.put, sm]
        refine tkL 1 rfl ?_
        try simp only [Act.put, sm]
        refine tkL 2 rfl ?_
        try simp only [Act.put, sm]
        refine tkL 3 rfl ?_
        try simp only [Act.put, sm]
        refine tkL 4 rfl ?_
        try simp only [Act.put, sm]
        refine tkL 5 rfl ?_
        try simp only [Act.put, sm]
        refine tkL 6 rfl ?_
        try simp only [Act.put, sm]
        refine tkL 7 rfl ?_
        try simp only [Act.put, sm]
        refine tkL 8 rfl ?_
        try simp only [Act.put, sm]
        refine tkL 9 rfl ?_
        try simp only [Act.put, sm]
        refine wpAnyL_ready (rs := [10]) (by kernel_rfl) (by simp) ?_
        refine AllReadyL.cons (o := _) rfl (fun K hK => ?_) AllReadyL.nil
        have gK := hHeld
        clear hHeld
        clear gK
        go_simp
        refine (HSM.out _ HK.out.drew).mono ?_
        rintro E w2 ⟨rfl, kk⟩
        have K2 := Lib.hid (HK.out.drew.trans kk)
        clear kk
        try go_wp2_with fail
        refine hK.out _ _ ?_ (fun hHeld => ?_)
        · exact ⟨(HCX.out _ K2.out).1, (HCX.out _ K2.out).2.1, (HCX.out _ K2.out).2.2.1, (HCY.out _ K2.out).1, (HCY.out _ K2.out).2.1, (HCY.out _ K2.out).2.2.1, trivial⟩
        clear hK K
        try simp only [Act.put, sm]
        refine wpAnyL_ready (rs := [11]) (by kernel_rfl) (by simp) ?_
        refine AllReadyL.last (o := _) rfl (fun K hK => ?_)
        clear hHeld
        go_simp
        try go_wp2_with fail
        refine hK.out _ _ ?_
        clear hK K
        try simp only [Act.put, sm]
        refine wpAnyL_done (by kernel_rfl) ?_ _
        cases sb with
        | false =>
          have HR : Hid (fin = false) := Lib.hid (HBAD.out (fun h => (of_decide_eq_false HSB.out) (by rw [h])))
          go_wp2_with fail
          go_quiet (fail)
          have KQ := Lib.hid (K2.out.drewN nq)
          go_wp2_with fail
          go_ret
          exact ⟨ret_bool HR.out.symm, KQ.out⟩
        | true =>
          have c3 := (HCX.out _ K2.out).2.2.2
          have c7 := (HCY.out _ K2.out).2.2.2
          obtain ⟨c, hc⟩ : ∃ c, x.d.clear = c := ⟨_, rfl⟩
          obtain ⟨d, hd⟩ : ∃ c, y.d.clear = c := ⟨_, rfl⟩
          have HXC := Lib.hid hc
          have HYC := Lib.hid hd
          rw [hc] at c3
          rw [hd] at c7
          have HSE : Hid (x.d.s = y.d.s) := Lib.hid (of_decide_eq_true HSB.out)
          clear hc hd
          by_cases hcd : c = d
          · have HTK := Lib.hid (HGOOD.out (by
              have h1 := HSE.out
              have h2 := HXC.out.trans (hcd.trans HYC.out.symm)
              obtain ⟨⟨_, _⟩, _, _⟩ := x
              obtain ⟨⟨_, _⟩, _, _⟩ := y
              dsimp only at h1 h2
              rw [h1, h2]))
            subst hcd
            go_wp2_with fail
            cases c
            · go_quiet (fail)
              have KQ := Lib.hid (K2.out.drewN nq)
              go_wp2_with fail
              try rw [wrap_mid (n := (k : Int) + 1) (by omega) (by omega)]
              first | exact ⟨⟨k + 1, hlt, by go_num, HTK.out, KQ.out⟩, by simp [intOf]; omega⟩ | (go_roundw; all_goals first | exact ⟨k + 1, hlt, by go_num, HTK.out, KQ.out⟩ | (simp [intOf]; omega))
            · go_quiet (fail)
              have KQ := Lib.hid (K2.out.drewN nq)
              go_wp2_with fail
              try rw [wrap_mid (n := (k : Int) + 1) (by omega) (by omega)]
              first | exact ⟨⟨k + 1, hlt, by go_num, HTK.out, KQ.out⟩, by simp [intOf]; omega⟩ | (go_roundw; all_goals first | exact ⟨k + 1, hlt, by go_num, HTK.out, KQ.out⟩ | (simp [intOf]; omega))
          · have HR : Hid (fin = false) := Lib.hid (HBAD.out (fun h => hcd (by rw [← HXC.out, ← HYC.out, h])))
            go_wp2_with fail
            cases c <;> cases d
            · exact absurd rfl hcd
            · clear hcd
              go_quiet (fail)
              have KQ := Lib.hid (K2.out.drewN nq)
              go_wp2_with fail
              go_ret
              exact ⟨ret_bool HR.out.symm, KQ.out⟩
            · clear hcd
              go_quiet (fail)
              have KQ := Lib.hid (K2.out.drewN nq)
              go_wp2_with fail
              go_ret
              exact ⟨ret_bool HR.out.symm, KQ.out⟩
            · exact absurd rfl hcd
      · have hk1 : ¬ (k : Int) < (n : Int) := by omega
        have HR : Hid (fin = true) := Lib.hid (by
          rw [← HFIN.out]
          have h := HT.out
          rw [List.take_of_length_le (by rw [List.length_map]; have := HN.out; omega), List.take_of_length_le (by rw [List.length_map]; have := HNF.out; omega)] at h
          exact decide_eq_true h)
        go_wp2_with fail
        go_ret
        exact ⟨ret_bool HR.out.symm, HK.out⟩
  · have hq : ((n : Int) == (m : Int)) = false := beq_false_of_ne (by omega)
    have hq2 : ((m : Int) == (n : Int)) = false := beq_false_of_ne (by omega)
    have HR : Hid (fin = false) := Lib.hid (by rw [← HFIN.out]; exact decide_eq_false (fun h => hnm (by have h2 := congrArg List.length h; rw [List.length_map, List.length_map, HN.out, HNFm.out] at h2; exact h2)))
    go_enter Tryz.func13, Tryz.ntmps13
    go_wp2_with fail
    all_goals go_ret
    all_goals exact ⟨ret_bool HR.out.symm, Kp.refl _ _⟩

end Go.Proofs.YtggplbenliaodaaGreatDoor
