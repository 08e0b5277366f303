/- The reference's file of drawings. Condition: at most 10^5 drawings. -/
import Derived.Test.YtggplbenliaodaaGreatDoorWw
import Derived.Test.YtggplbenliaodaaGreatDoorRd
import Derived.Test.YtggplbenliaodaaGreatDoorRe
import Derived.Test.YtggplbenliaodaaGreatDoorRm
import Derived.Deep.CutBlock
import Derived.Deep.CutRange
namespace Go.Proofs.YtggplbenliaodaaGreatDoor
open Go.RowKit Go.Lib

theorem apsTo_step (rs : List Int) (k : Nat) (h : k < rs.length) : Pl.apsTo rs (k + 1) = Pl.apsTo rs k ++ Pl.apT k rs[k] := by
  rw [Pl.apsTo, List.getElem?_eq_getElem h]
theorem num_at {rs : List Int} {r : Int} (h : r ∈ rs) (hn : rs.Nodup) : ∃ ix, ∃ h : ix < rs.length, rs[ix] = r ∧ Pl.num rs r = 10 + ix ∧ ∀ j, (h : j < rs.length) → rs[j] = r → j = ix :=
  ⟨rs.idxOf r, List.idxOf_lt_length_of_mem h, List.getElem_idxOf _, rfl, fun j h2 e => by have := Pl.idxOf_get hn h2; rw [e] at this; exact this.symm⟩
theorem wr_ten (j : Nat) (h : j ≤ 100000) : wrap64 (10 + (j : Int) - 10) = (j : Int) ∧ IntKind.i64.wrap (10 + (j : Int) - 10) = (j : Int) ∧ wrap64 (10 + (j : Int) + 1) = 10 + ((j + 1 : Nat) : Int) ∧ IntKind.i64.wrap (10 + (j : Int) + 1) = 10 + ((j + 1 : Nat) : Int) := by
  refine ⟨?_, by rw [IntKind.wrap_i64]; omega, ?_, by rw [IntKind.wrap_i64]; omega⟩
  · rw [show 10 + (j : Int) - 10 = j by omega]; exact wrap_mid (by omega) (by omega)
  · rw [show 10 + (j : Int) + 1 = 10 + ((j + 1 : Nat) : Int) by omega]; exact wrap_mid (by omega) (by omega)
def WRel1 (ds : List Pl.Dr) (w : World) (i : Value) (wr : World) : Prop := ∃ k : Nat, k ≤ ds.length ∧ i = .int .i64 k ∧ Pl.firstBad ds = Pl.firstBad (ds.drop k) ∧ Kp w wr none
def WRel2 (rs : List Int) (w : World) (v i : Value) (wr : World) : Prop := ∃ k : Nat, k ≤ rs.length ∧ i = .int .i64 k ∧ v = .string ⟨(Pl.apsTo rs k).toArray⟩ ∧ Kp w wr none
def WRel3 (rs : List Int) (ds : List Pl.Dr) (w : World) (v c a i : Value) (wr : World) : Prop :=
  ∃ k : Nat, k ≤ ds.length ∧ i = .int .i64 k ∧ v = .string ⟨(Pl.runTo rs ds k).t.toArray⟩ ∧ c = .bool (Pl.runTo rs ds k).c ∧ a = .int .i64 ((Pl.runTo rs ds k).ap : Nat) ∧ (Pl.runTo rs ds k).t.length ≤ 48552 + 4100 * k ∧ Kp w wr none
theorem WRel1.lt {ds : List Pl.Dr} {w : World} {i : Value} {wr : World} (h : WRel1 ds w i wr) : ∃ k : Nat, k ≤ ds.length ∧ i = .int .i64 k := by obtain ⟨k, h1, h2, _⟩ := h; exact ⟨k, h1, h2⟩

set_option maxHeartbeats 8000000 in
set_option maxRecDepth 100000 in
theorem rwrite_any (ds : List Pl.Dr) (n : Nat) (hn : ds.length = n) (ao : Option Addr) (cap : Nat) (w : World) (hds : LiesDr w ao cap ds) (hl : n ≤ 100000) :
    Calls Tryz.prog 10 #[.slice ao n cap] w fun E w' => WriteIs w E w' (Pl.write ds) := by
  have FD := Lib.hid hds
  have HN := Lib.hid hn
  obtain ⟨fin, hfin⟩ : ∃ f, Pl.write ds = f := ⟨_, rfl⟩
  have HFIN := Lib.hid hfin
  rw [hfin]
  have HRAD := Lib.hid (fun V (kv : Kp w V none) => radii_any ds n hn ao cap V (fun i hi => (hds.keep kv) i hi) hl)
  clear hds hn hfin
  have hn0 : (0 : Int) ≤ (n : Int) := Int.natCast_nonneg _
  go_enter Tryz.func10, Tryz.ntmps10
  go_wp2_with fail
  go_loopw [4] (fun i wr => WRel1 ds w i wr) (fun i _ => n - (intOf i).toNat)
  case atStart => exact ⟨0, Nat.zero_le _, rfl, rfl, Kp.refl _ _⟩
  case round =>
    obtain ⟨k, hk, rfl, hfb, hkp⟩ := hrel
    have HFB := Lib.hid hfb
    have HK := Lib.hid hkp
    clear hfb hkp
    have hk0 : (0 : Int) ≤ (k : Int) := Int.natCast_nonneg _
    by_cases hlt : k < n
    · have hk1 : (k : Int) < (n : Int) := by omega
      have hlt2 : k < ds.length := by rw [HN.out]; exact hlt
      obtain ⟨bo, off, ea, ec, rfl, hcap, hbo, c0, c1, c2, c3, hee⟩ := FD.out k hlt2
      have hcap2 : n ≤ cap := by have := HN.out; omega
      obtain ⟨d, hd⟩ : ∃ d, ds[k] = d := ⟨_, rfl⟩
      rw [hd] at c0 c1 c2 c3 hee
      have e0 : wr.cell? ⟨bo, off + k * 4, none⟩ = _ := (HK.out.below.cell (p := ⟨bo, off + k * 4, none⟩) hbo).trans c0
      have e1 : wr.cell? ⟨bo, off + k * 4 + 1, none⟩ = _ := (HK.out.below.cell (p := ⟨bo, off + k * 4 + 1, none⟩) hbo).trans c1
      have e2 : wr.cell? ⟨bo, off + k * 4 + 2, none⟩ = _ := (HK.out.below.cell (p := ⟨bo, off + k * 4 + 2, none⟩) hbo).trans c2
      have HEE : Hid (∀ V, Kp w V none → LiesAt 7 edC V ea ec d.s.es) := Lib.hid fun V kv => hee.keep kv
      have HDR : Hid (Pl.firstBad ds = if Pl.chk d.s = 0 then Pl.firstBad (ds.drop (k + 1)) else Pl.chk d.s) := Lib.hid (by rw [HFB.out, Pl.firstBad_drop ds k hlt2, hd])
      clear c0 c1 c2 c3 hee hcap HFB hd
      obtain ⟨sn, hsn⟩ : ∃ sn, d.s.es.length = sn := ⟨_, rfl⟩
      rw [hsn] at e1
      have HCH : Hid (∀ V, Kp w V none → Calls Tryz.prog 31 #[.agg #[.int .i64 d.s.k, .slice ea sn ec, .int .i64 d.s.r]] V fun E w' => E = .returned (.int .i64 (Pl.chk d.s)) ∧ Kp V w' none) := Lib.hid fun V kv => rscheck_any d.s sn hsn ea ec V (HEE.out V kv)
      obtain ⟨⟨dk, des, dr⟩, dc⟩ := d
      dsimp only at e0 e1 e2 HDR HCH
      obtain ⟨er, her⟩ : ∃ er, Pl.chk ⟨dk, des, dr⟩ = er := ⟨_, rfl⟩
      rw [her] at HDR HCH
      clear her hsn
      by_cases hz : er = 0
      · have hz1 : (er == 0) = true := by simpa using hz
        have HD2 : Hid (Pl.firstBad ds = Pl.firstBad (ds.drop (k + 1))) := Lib.hid (by rw [HDR.out, if_pos hz])
        clear hz HDR
        go_wp2_with fail
        refine (HCH.out _ HK.out).mono ?_
        rintro E w2 ⟨rfl, k2⟩
        have HREL : Hid (WRel1 ds w (.int .i64 (k + 1)) w2) := Lib.hid ⟨k + 1, hlt2, by go_num, HD2.out, HK.out.trans k2⟩
        clear k2
        go_wp2_with fail
        first | exact ⟨HREL.out, by simp [intOf]; omega⟩ | (go_roundw; all_goals first | exact HREL.out | (simp [intOf]; omega) | ((repeat apply Exists.intro); exact ⟨HREL.out, rfl⟩))
      · have hz1 : (er == 0) = false := by simpa using hz
        have HFE : Hid (fin = ([], er)) := Lib.hid (by have h1 := HDR.out; rw [if_neg hz] at h1; rw [← HFIN.out, write_bad (by rw [h1]; exact hz), h1])
        clear hz HDR
        go_wp2_with fail
        refine (HCH.out _ HK.out).mono ?_
        rintro E w2 ⟨rfl, k2⟩
        have HK2 := Lib.hid (HK.out.trans k2)
        clear k2
        go_wp2_with fail
        go_ret2
        exact wr_is (t := []) HFE.out HK2.out
    · have hk1 : ¬ (k : Int) < (n : Int) := by omega
      have HFZ : Hid (Pl.firstBad ds = 0) := Lib.hid (by rw [HFB.out, Pl.firstBad_end ds k (by rw [HN.out]; omega)])
      clear HFB
      go_wp2_with fail
      refine (HRAD.out _ HK.out).mono ?_
      rintro E w3 ⟨u, rfl, hrow, k3⟩
      have HK3 := Lib.hid (HK.out.trans k3)
      obtain ⟨rao, rcap, rfl, hrc, hra⟩ := hrow.form
      have FR := Lib.hid hra
      have HRS0 : Hid ((Pl.radii ds).length ≤ 100000) := Lib.hid (by have := Pl.radii_length ds; have := HN.out; omega)
      obtain ⟨rs, hrs⟩ : ∃ rs, Pl.radii ds = rs := ⟨_, rfl⟩
      have HRS := Lib.hid hrs
      rw [hrs] at FR hrc HRS0 ⊢
      have HRR : Hid (∀ r ∈ rs, 0 ≤ r ∧ r ≤ 4194304) := Lib.hid (by rw [← hrs]; exact radii_range HFZ.out)
      clear k3 hra hrow hrs HRAD
      have hrn0 : (0 : Int) ≤ (rs.length : Int) := Int.natCast_nonneg _
      by_cases hmany : 990 < rs.length
      · have hm1 : (990 : Int) < (rs.length : Int) := by omega
        have HFE : Hid (fin = ([], 2)) := Lib.hid (by rw [← HFIN.out, write_many HFZ.out (by rw [HRS.out]; exact hmany)])
        go_wp2_with fail
        go_ret2
        exact wr_is (t := []) HFE.out HK3.out
      · have hm1 : ¬ (990 : Int) < (rs.length : Int) := by omega
        have hm2 : rs.length ≤ 990 := by omega
        have HM := Lib.hid hmany
        clear hmany
        go_wp2_with fail
        go_loopw [6, 8] (fun v i wq => WRel2 rs w3 v i wq) (fun _ i _ => rs.length - (intOf i).toNat)
        case atStart => exact ⟨0, Nat.zero_le _, rfl, rfl, Kp.refl _ _⟩
        case round =>
          obtain ⟨k2, hk2, rfl, rfl, hkp2⟩ := hrel
          have HK2 := Lib.hid hkp2
          clear hkp2
          have hk20 : (0 : Int) ≤ (k2 : Int) := Int.natCast_nonneg _
          have HAL : Hid ((Pl.apsTo rs k2).length ≤ 48545) := Lib.hid (by have := apsTo_length rs (by omega) HRR.out k2 hk2; omega)
          by_cases hlt3 : k2 < rs.length
          · have hq1 : (k2 : Int) < (rs.length : Int) := by omega
            obtain ⟨b3, of3, rfl, hb3, _, hr3⟩ := FR.out.int k2 hlt3
            have hv0 := hr3 k2 hlt3
            have hap := apsTo_step rs k2 hlt3
            have hrr := HRR.out rs[k2] (List.getElem_mem _)
            obtain ⟨r, hr⟩ : ∃ r, rs[k2] = r := ⟨_, rfl⟩
            rw [hr] at hv0 hap hrr
            have MA := Lib.hid (show Mid (10 + (k2 : Int)) by unfold Mid; omega)
            have MB := Lib.hid (show Mid (2 * r) by unfold Mid; omega)
            obtain ⟨qa, hqa⟩ : ∃ q, 10 + (k2 : Int) = q := ⟨_, rfl⟩
            obtain ⟨qb, hqb⟩ : ∃ q, 2 * r = q := ⟨_, rfl⟩
            rw [hqa] at MA
            rw [hqb] at MB
            have HAP : Hid (Pl.apsTo rs (k2 + 1) = Pl.apsTo rs k2 ++ ([37, 65, 68, 68] ++ Lib.itoa qa ++ [67, 44] ++ Lib.itoa qb ++ [42, 37, 10])) := Lib.hid (by
              rw [hap, ← hqa, ← hqb]; unfold Pl.apT; rw [show ((10 + k2 : Nat) : Int) = 10 + (k2 : Int) by omega])
            have HST : Hid (∀ (t : List UInt8) wz, t = Pl.apsTo rs (k2 + 1) → Kp wr wz none → WRel2 rs w3 (.string ⟨t.toArray⟩) (.int .i64 (k2 + 1)) wz) := Lib.hid fun t wz h1 k1 => ⟨k2 + 1, hlt3, by go_num, by rw [h1], HK2.out.trans k1⟩
            obtain ⟨lk, hlk⟩ : ∃ q, Pl.apsTo rs k2 = q := ⟨_, rfl⟩
            rw [hlk] at HAL HAP ⊢
            have hlkl : lk.length ≤ 48545 := HAL.out
            have CC : Hid (∀ V, Kp wr V none → V.cell? ⟨b3, of3 + k2, none⟩ = some (.int .i64 r)) := Lib.hid fun V kv => ((HK2.out.trans kv).below.cell (p := ⟨b3, of3 + k2, none⟩) hb3).trans hv0
            clear hv0 hap hr hlk hr3
            have hrr0 : 0 ≤ r := hrr.1
            have hrr1 : r ≤ 4194304 := hrr.2
            clear hrr
            have hw1 : IntKind.i64.wrap (10 + (k2 : Int)) = qa := by rw [IntKind.wrap_i64]; omega
            have hw2 : IntKind.i64.wrap (2 * r) = qb := by rw [IntKind.wrap_i64]; omega
            have HW1 := Lib.hid hw1
            have HW2 := Lib.hid hw2
            clear hw1 hw2 hqa hqb
            go_wp2_with fail
            obtain ⟨q1, hq1⟩ : ∃ q : List UInt8, lk ++ [37, 65, 68, 68] = q := ⟨_, rfl⟩
            have HBq1 : Hid ((⟨(lk).toArray⟩ : ByteArray) ++ (⟨#[37, 65, 68, 68]⟩ : ByteArray) = ⟨(q1).toArray⟩) := Lib.hid (by rw [← hq1]; exact ByteArray.mk_append_mk _ _)
            have hbq1 : q1.length ≤ 48549 := by rw [← hq1, List.length_append]; (try simp only [List.length_cons, List.length_nil]); omega
            have HGq1 : Hid ((9223372036854775807 < (lk).length + 4) = False) := Lib.hid (eq_false (by (try simp only [List.length_cons, List.length_nil]); omega))
            have Hq1 := Lib.hid hq1
            clear hq1 
            obtain ⟨q2, hq2⟩ : ∃ q : List UInt8, q1 ++ Lib.itoa qa = q := ⟨_, rfl⟩
            have HBq2 : Hid ((⟨(q1).toArray⟩ : ByteArray) ++ (⟨(Lib.itoa qa).toArray⟩ : ByteArray) = ⟨(q2).toArray⟩) := Lib.hid (by rw [← hq2]; exact ByteArray.mk_append_mk _ _)
            have hlb2 : (Lib.itoa qa).length ≤ 20 := itoa_length qa MA.out
            have hbq2 : q2.length ≤ 48569 := by rw [← hq2, List.length_append]; (try simp only [List.length_cons, List.length_nil]); omega
            have HGq2 : Hid ((9223372036854775807 < (q1).length + (Lib.itoa qa).length) = False) := Lib.hid (eq_false (by (try simp only [List.length_cons, List.length_nil]); omega))
            have Hq2 := Lib.hid hq2
            clear hq2 hlb2
            obtain ⟨q3, hq3⟩ : ∃ q : List UInt8, q2 ++ [67, 44] = q := ⟨_, rfl⟩
            have HBq3 : Hid ((⟨(q2).toArray⟩ : ByteArray) ++ (⟨#[67, 44]⟩ : ByteArray) = ⟨(q3).toArray⟩) := Lib.hid (by rw [← hq3]; exact ByteArray.mk_append_mk _ _)
            have hbq3 : q3.length ≤ 48571 := by rw [← hq3, List.length_append]; (try simp only [List.length_cons, List.length_nil]); omega
            have HGq3 : Hid ((9223372036854775807 < (q2).length + 2) = False) := Lib.hid (eq_false (by (try simp only [List.length_cons, List.length_nil]); omega))
            have Hq3 := Lib.hid hq3
            clear hq3 
            obtain ⟨q4, hq4⟩ : ∃ q : List UInt8, q3 ++ Lib.itoa qb = q := ⟨_, rfl⟩
            have HBq4 : Hid ((⟨(q3).toArray⟩ : ByteArray) ++ (⟨(Lib.itoa qb).toArray⟩ : ByteArray) = ⟨(q4).toArray⟩) := Lib.hid (by rw [← hq4]; exact ByteArray.mk_append_mk _ _)
            have hlb4 : (Lib.itoa qb).length ≤ 20 := itoa_length qb MB.out
            have hbq4 : q4.length ≤ 48591 := by rw [← hq4, List.length_append]; (try simp only [List.length_cons, List.length_nil]); omega
            have HGq4 : Hid ((9223372036854775807 < (q3).length + (Lib.itoa qb).length) = False) := Lib.hid (eq_false (by (try simp only [List.length_cons, List.length_nil]); omega))
            have Hq4 := Lib.hid hq4
            clear hq4 hlb4
            obtain ⟨q5, hq5⟩ : ∃ q : List UInt8, q4 ++ [42, 37, 10] = q := ⟨_, rfl⟩
            have HBq5 : Hid ((⟨(q4).toArray⟩ : ByteArray) ++ (⟨#[42, 37, 10]⟩ : ByteArray) = ⟨(q5).toArray⟩) := Lib.hid (by rw [← hq5]; exact ByteArray.mk_append_mk _ _)
            have hbq5 : q5.length ≤ 48594 := by rw [← hq5, List.length_append]; (try simp only [List.length_cons, List.length_nil]); omega
            have HGq5 : Hid ((9223372036854775807 < (q4).length + 3) = False) := Lib.hid (eq_false (by (try simp only [List.length_cons, List.length_nil]); omega))
            have Hq5 := Lib.hid hq5
            clear hq5 
            clear hbq1 hbq2 hbq3 hbq4 hbq5
            have hw1 := HW1.out
            have hw2 := HW2.out
            refine wp_region_held_drew (S := fun V => V.cell? ⟨b3, of3 + k2, none⟩ = some (.int .i64 r) ∧ Hid (Kp wr V none)) (by kernel_rfl) ?_ (fun hHeld => ?_)
            · exact ⟨CC.out _ (Kp.refl wr none).drew, Lib.hid (Kp.refl wr none).drew⟩
            refine tkH 2 rfl ?_
            try simp only [Act.put, sm]
            refine tkH 3 rfl ?_
            try simp only [Act.put, sm]
            refine tkH 7 rfl ?_
            try simp only [Act.put, sm]
            refine tkH 8 rfl ?_
            try simp only [Act.put, sm]
            refine tkH 9 rfl ?_
            try simp only [Act.put, sm]
            refine tkH 10 rfl ?_
            try simp only [Act.put, sm]
            refine tkH 11 rfl ?_
            try simp only [Act.put, sm]
            refine tkH 0 rfl ?_
            try simp only [Act.put, sm]
            have hq1 := HBq1.out
            have g1 := HGq1.out
            refine tkH 1 rfl ?_
            try simp only [Act.put, sm]
            clear g1 hq1
            refine wpAnyH_ready (rs := [4]) (by kernel_rfl) (by simp) ?_
            refine AllReadyH.cons (o := _) rfl (fun K hK => ?_) AllReadyH.nil
            have gK := hHeld.2
            go_simp
            refine (dec_any qa MA.out _).mono ?_
            rintro e w21 ⟨rfl, kk⟩
            try go_wp2_with fail
            refine hK.out _ _ ?_ (fun hHeld2 => ?_)
            · exact ⟨CC.out _ (gK.out.trans kk), Lib.hid (gK.out.trans kk)⟩
            clear hK K hHeld gK kk
            have hHeld := hHeld2
            clear hHeld2
            try simp only [Act.put, sm]
            have hq2 := HBq2.out
            have g2 := HGq2.out
            refine tkH 5 rfl ?_
            try simp only [Act.put, sm]
            clear g2 hq2
            have hq3 := HBq3.out
            have g3 := HGq3.out
            refine tkH 6 rfl ?_
            try simp only [Act.put, sm]
            clear g3 hq3
            refine wpAnyH_ready (rs := [12]) (by kernel_rfl) (by simp) ?_
            refine AllReadyH.cons (o := _) rfl (fun K hK => ?_) AllReadyH.nil
            have gK := hHeld.2
            go_simp
            refine (dec_any qb MB.out _).mono ?_
            rintro e w22 ⟨rfl, kk⟩
            try go_wp2_with fail
            refine hK.out _ _ ?_ (fun hHeld2 => ?_)
            · exact ⟨CC.out _ (gK.out.trans kk), Lib.hid (gK.out.trans kk)⟩
            clear hK K hHeld gK kk
            have hHeld := hHeld2
            clear hHeld2
            try simp only [Act.put, sm]
            have hq4 := HBq4.out
            have g4 := HGq4.out
            refine tkH 13 rfl ?_
            try simp only [Act.put, sm]
            clear g4 hq4
            have hq5 := HBq5.out
            have g5 := HGq5.out
            refine tkH 14 rfl ?_
            try simp only [Act.put, sm]
            clear g5 hq5
            refine wpAnyH_ready (rs := [15]) (by kernel_rfl) (by simp) ?_
            refine AllReadyH.cons (o := _) rfl (fun K hK => ?_) AllReadyH.nil
            have gK := hHeld.2
            go_simp
            try go_wp2_with fail
            refine hK.out _ _ ?_ (fun hHeld2 => ?_)
            · exact ⟨CC.out _ gK.out, Lib.hid gK.out⟩
            have KZ := Lib.hid gK.out
            clear hK K hHeld hHeld2 gK
            try simp only [Act.put, sm]
            refine wpAnyH_done (by kernel_rfl) ?_ _
            have HREL := Lib.hid (HST.out q5 _ (by rw [HAP.out, ← Hq5.out, ← Hq4.out, ← Hq3.out, ← Hq2.out, ← Hq1.out]; simp) KZ.out)
            clear hw1 hw2
            go_wp2_with fail
            first | exact ⟨HREL.out, by simp [intOf]; omega⟩ | (go_roundw; all_goals first | exact HREL.out | (simp [intOf]; omega) | ((repeat apply Exists.intro); exact ⟨HREL.out, rfl⟩))
          · have hq1 : ¬ (k2 : Int) < (rs.length : Int) := by omega
            have hke : k2 = rs.length := by omega
            subst hke
            obtain ⟨lk, hlk⟩ : ∃ q, Pl.apsTo rs rs.length = q := ⟨_, rfl⟩
            rw [hlk] at HAL ⊢
            have hlkl : lk.length ≤ 48545 := HAL.out
            obtain ⟨st, hst⟩ : ∃ q : List UInt8, lk ++ [37, 76, 80, 68, 42, 37, 10] = q := ⟨_, rfl⟩
            have HST : Hid (Pl.start rs = st) := Lib.hid (by rw [← hst, ← hlk]; rfl)
            have hstl : Hid (st.length ≤ 48552) := Lib.hid (by rw [← hst, List.length_append]; simp only [List.length_cons, List.length_nil]; omega)
            have g0 : (9223372036854775807 < lk.length + 7) = False := eq_false (by omega)
            have s0 : (⟨lk.toArray⟩ : ByteArray) ++ ⟨#[37, 76, 80, 68, 42, 37, 10]⟩ = ⟨st.toArray⟩ := sumB lk [37, 76, 80, 68, 42, 37, 10] st hst
            have HKW : Hid (Kp w wr none) := Lib.hid (HK3.out.trans HK2.out)
            clear hst hlk hk2 hq1 hlkl
            go_wp2_with fail
            clear g0 s0
            obtain ⟨wb, rfl⟩ : ∃ wb, wb = wr := ⟨_, rfl⟩
            go_loopw [6, 9, 10, 11] (fun v c a i wq => WRel3 rs ds wb v c a i wq) (fun _ _ _ i _ => n - (intOf i).toNat)
            case atStart => exact ⟨0, Nat.zero_le _, rfl, by show _ = Value.string ⟨(Pl.start rs).toArray⟩; rw [HST.out], rfl, rfl, by show (Pl.start rs).length ≤ _; rw [HST.out]; exact hstl.out, Kp.refl _ _⟩
            case round =>
              clear HAL HST hstl
              obtain ⟨k3, hk3, rfl, rfl, rfl, rfl, htl, hkp3⟩ := hrel
              have HTL := Lib.hid htl
              have HK := Lib.hid (HKW.out.trans hkp3)
              have HKB := Lib.hid hkp3
              clear htl hkp3
              have hk30 : (0 : Int) ≤ (k3 : Int) := Int.natCast_nonneg _
              have HFL : Hid (262144 < (Pl.fileT ds).length → fin = ([], 2)) := Lib.hid fun h => by rw [← HFIN.out, write_long HFZ.out h]
              have HFM : Hid (¬ 262144 < (Pl.fileT ds).length → fin = (Pl.fileT ds, 0)) := Lib.hid fun h => by rw [← HFIN.out, write_ok HFZ.out (by rw [HRS.out]; exact HM.out) h]
              by_cases hlt3 : k3 < n
              · have hq1 : (k3 : Int) < (n : Int) := by omega
                have hlt4 : k3 < ds.length := by rw [HN.out]; exact hlt3
                obtain ⟨bo, off, ea, ec, rfl, hcap, hbo, c0, c1, c2, c3, hee⟩ := FD.out k3 hlt4
                have hcap2 : n ≤ cap := by have := HN.out; omega
                obtain ⟨d, hd⟩ : ∃ d, ds[k3] = d := ⟨_, rfl⟩
                have hdm : d ∈ ds := by rw [← hd]; exact List.getElem_mem _
                rw [hd] at c0 c1 c2 c3 hee
                have e0 : wr.cell? ⟨bo, off + k3 * 4, none⟩ = _ := (HK.out.below.cell (p := ⟨bo, off + k3 * 4, none⟩) hbo).trans c0
                have e1 : wr.cell? ⟨bo, off + k3 * 4 + 1, none⟩ = _ := (HK.out.below.cell (p := ⟨bo, off + k3 * 4 + 1, none⟩) hbo).trans c1
                have e2 : wr.cell? ⟨bo, off + k3 * 4 + 2, none⟩ = _ := (HK.out.below.cell (p := ⟨bo, off + k3 * 4 + 2, none⟩) hbo).trans c2
                have e3 : wr.cell? ⟨bo, off + k3 * 4 + 3, none⟩ = _ := (HK.out.below.cell (p := ⟨bo, off + k3 * 4 + 3, none⟩) hbo).trans c3
                have hchk : Pl.chk d.s = 0 := Pl.firstBad_zero.1 HFZ.out d hdm
                have hst : Pl.runTo rs ds (k3 + 1) = Pl.step rs (Pl.runTo rs ds k3) d := by rw [Pl.runTo_step rs ds k3 hlt4, hd]
                have hmem : d.s.k = 1 → d.s.r ∈ rs := fun h => by rw [← HRS.out]; exact (Pl.mem_radii ds _).2 ⟨d, hdm, h, rfl⟩
                obtain ⟨⟨dk, des, dr⟩, dc⟩ := d
                dsimp only at e0 e1 e2 e3 hee hchk hmem
                obtain ⟨sn, hsn⟩ : ∃ sn, des.length = sn := ⟨_, rfl⟩
                rw [hsn] at e1
                obtain ⟨hdk, hz0, hz2, hz40, hzv, _⟩ := chk_zero hchk
                dsimp only at hdk hz0 hz2 hz40 hzv
                rw [hsn] at hz0 hz2 hz40
                have HEE : Hid (∀ V, Kp w V none → LiesAt 7 edC V ea ec des) := Lib.hid fun V kv => hee.keep kv
                have HED : Hid (∀ V, Kp w V none → Calls Tryz.prog 34 #[.slice ea sn ec] V fun e w' => e = .returned (.string ⟨(Pl.edgesT des).toArray⟩) ∧ Kp V w' none) := Lib.hid fun V kv => redges_any des sn hsn ea ec V (HEE.out V kv) hzv hz0 hz40
                have HVE := Lib.hid hzv
                have HSN := Lib.hid hsn
                have HMEM := Lib.hid hmem
                have HLT3 := Lib.hid (shapeT_length hchk)
                have HLT2 : Hid ((Pl.selT rs (Pl.runTo rs ds k3).ap ⟨dk, des, dr⟩).length ≤ 23) := Lib.hid (selT_length rs _ _ (by have := num_le rs dr; dsimp only; omega))
                have HELN : Hid ((Pl.edgesT des).length ≤ 3727) := Lib.hid (by have := edgesT_length des hzv; rw [hsn] at this; omega)
                clear c0 c1 c2 c3 hee hcap hd hdm hchk hsn hzv hmem
                obtain ⟨⟨t, cc, ap⟩, hrt⟩ : ∃ st, Pl.runTo rs ds k3 = st := ⟨_, rfl⟩
                rw [hrt] at HTL hst HLT2
                rw [hrt]
                dsimp only at HTL HLT2 ⊢
                have HLT1 := Lib.hid (polT_length cc dc)
                have hst2 : Pl.runTo rs ds (k3 + 1) = ⟨t ++ Pl.polT cc dc ++ Pl.selT rs ap ⟨dk, des, dr⟩ ++ Pl.shapeT ⟨dk, des, dr⟩, dc, Pl.apOf rs ap ⟨dk, des, dr⟩⟩ := hst
                have hbt : t.length ≤ 48552 + 4100 * k3 := HTL.out
                have HNX : Hid ((t ++ Pl.polT cc dc ++ Pl.selT rs ap ⟨dk, des, dr⟩ ++ Pl.shapeT ⟨dk, des, dr⟩).length ≤ (Pl.fileT ds).length) := Lib.hid (by have := Pl.file_le ds (k3 + 1); rw [HRS.out, hst2] at this; exact this)
                have HNEXT : Hid (∀ (tz : List UInt8) (az : Int) wz, tz = t ++ Pl.polT cc dc ++ Pl.selT rs ap ⟨dk, des, dr⟩ ++ Pl.shapeT ⟨dk, des, dr⟩ → az = (Pl.apOf rs ap ⟨dk, des, dr⟩ : Nat) → Kp w wz none → Kp wb wz none → WRel3 rs ds wb (.string ⟨tz.toArray⟩) (.bool dc) (.int .i64 az) (.int .i64 (k3 + 1)) wz) := Lib.hid fun tz az wz h1 h2 _ kz => by
                  refine ⟨k3 + 1, hlt4, by go_num, by rw [hst2, h1], by rw [hst2], by rw [hst2, h2], ?_, kz⟩
                  rw [hst2]
                  dsimp only
                  simp only [List.length_append]
                  have := HLT1.out; have := HLT2.out; have := HLT3.out
                  omega
                clear hst hst2 hrt
                have HBX := Lib.hid (heap_alloc_new wr (Obj.cells #[.int .i64 dk, .slice ea sn ec, .int .i64 dr] 25))
                have KX : Hid (Kp wr (wr.alloc (Obj.cells #[.int .i64 dk, .slice ea sn ec, .int .i64 dr] 25)) none) := Lib.hid ((Kp.refl wr none).alloc _)
                have E3 := Lib.hid e3
                obtain ⟨wk, rfl⟩ : ∃ wk, wk = wr := ⟨_, rfl⟩
                have e4 : (wk.alloc (Obj.cells #[.int .i64 dk, .slice ea sn ec, .int .i64 dr] 25)).cell? ⟨bo, off + k3 * 4 + 3, none⟩ = some (.bool dc) := (KX.out.below.cell (p := ⟨bo, off + k3 * 4 + 3, none⟩) (World.block_lt_of_cell? _ _ e3)).trans e3
                go_upto_if 74 with fail
                clear e4
                generalize wk.alloc (Obj.cells #[.int .i64 dk, .slice ea sn ec, .int .i64 dr] 25) = X at *
                clear e0 e1 e2 e3
                have z0 : X.cell? ⟨wk.heap.size, 0, none⟩ = some (.int .i64 dk) := by have := Lib.cell_of_heap HBX.out 0; simpa using this
                have z1 : X.cell? ⟨wk.heap.size, 1, none⟩ = some (.slice ea sn ec) := by have := Lib.cell_of_heap HBX.out 1; simpa using this
                have z2 : X.cell? ⟨wk.heap.size, 2, none⟩ = some (.int .i64 dr) := by have := Lib.cell_of_heap HBX.out 2; simpa using this
                have e3 : X.cell? ⟨bo, off + k3 * 4 + 3, none⟩ = some (.bool dc) := (KX.out.below.cell (p := ⟨bo, off + k3 * 4 + 3, none⟩) (World.block_lt_of_cell? _ _ E3.out)).trans E3.out
                obtain ⟨t1, ht1⟩ : ∃ q, t ++ Pl.polT cc dc = q := ⟨_, rfl⟩
                rw [ht1] at HNX HNEXT
                have hbt1 : t1.length ≤ 48559 + 4100 * k3 := by rw [← ht1, List.length_append]; have := HLT1.out; omega
                have HT1 := Lib.hid ht1
                clear ht1
                go_cut [6, 9] from 57 to 156 (fun s6 s9 wx => s6 = .string ⟨t1.toArray⟩ ∧ s9 = .bool dc ∧ X = wx)
                case first =>
                  cases cc <;> cases dc
                  · have h : t = t1 := by rw [← HT1.out]; simp [Pl.polT]
                    subst h
                    go_wp2_with fail
                    go_meet
                    exact ⟨rfl, rfl, rfl⟩
                  · have g0 : (9223372036854775807 < t.length + 7) = False := eq_false (by omega)
                    have s0 : (⟨t.toArray⟩ : ByteArray) ++ ⟨#[37, 76, 80, 67, 42, 37, 10]⟩ = ⟨t1.toArray⟩ := sumB t [37, 76, 80, 67, 42, 37, 10] t1 (by rw [← HT1.out]; rfl)
                    go_wp2_with fail
                    go_meet
                    exact ⟨rfl, rfl, rfl⟩
                  · have g0 : (9223372036854775807 < t.length + 7) = False := eq_false (by omega)
                    have s0 : (⟨t.toArray⟩ : ByteArray) ++ ⟨#[37, 76, 80, 68, 42, 37, 10]⟩ = ⟨t1.toArray⟩ := sumB t [37, 76, 80, 68, 42, 37, 10] t1 (by rw [← HT1.out]; rfl)
                    go_wp2_with fail
                    go_meet
                    exact ⟨rfl, rfl, rfl⟩
                  · have h : t = t1 := by rw [← HT1.out]; simp [Pl.polT]
                    subst h
                    go_wp2_with fail
                    go_meet
                    exact ⟨rfl, rfl, rfl⟩
                case rest =>
                  obtain ⟨rfl, rfl, hwc⟩ := hcut
                  subst hwc
                  clear e3 HT1 HLT1 hbt
                  have KWX : Hid (Kp w X none) := Lib.hid (HK.out.trans KX.out)
                  have KBX : Hid (Kp wb X none) := Lib.hid (HKB.out.trans KX.out)
                  obtain ⟨ed, hed⟩ : ∃ q, Pl.edgesT des = q := ⟨_, rfl⟩
                  have HEDE := Lib.hid hed
                  rw [hed] at HED HELN
                  clear hed
                  have hedl : ed.length ≤ 3727 := HELN.out
                  rcases hdk with rfl | rfl
                  · have hdr := HMEM.out rfl
                    obtain ⟨ix, hixl, hixe, hnum, hnd⟩ := num_at hdr (by rw [← HRS.out]; exact Pl.radii_nodup ds)
                    obtain ⟨b3, of3, rfl, hb3, _, hr3⟩ := FR.out.int ix hixl
                    have HR3 : Hid (∀ V, Kp w V none → Kp wb V none → True) := Lib.hid fun _ _ _ => trivial
                    have HC3 : Hid (∀ V, Kp w3 V none → ∀ j, (h : j < rs.length) → V.cell? ⟨b3, of3 + j, none⟩ = some (.int .i64 rs[j])) := Lib.hid fun V kv j h => (kv.below.cell (p := ⟨b3, of3 + j, none⟩) hb3).trans (hr3 j h)
                    have K3X : Hid (Kp w3 X none) := Lib.hid (HK2.out.trans KBX.out)
                    have HND := Lib.hid hnd
                    have HIXE := Lib.hid hixe
                    have HNUM := Lib.hid hnum
                    have ix0 : (0 : Int) ≤ (ix : Int) := Int.natCast_nonneg _
                    clear hdr hnd hixe hnum hr3 HR3
                    go_wp2_with fail
                    go_loopw [13] (fun i wq => ∃ j : Nat, j ≤ ix ∧ i = .int .i64 (10 + j) ∧ Kp X wq none) (fun i _ => ix + 10 - (intOf i).toNat)
                    case atStart => exact ⟨0, Nat.zero_le _, by go_num, Kp.refl _ _⟩
                    case round =>
                      obtain ⟨j, hj, rfl, hkx⟩ := hrel
                      have KXR := Lib.hid hkx
                      clear hkx
                      have hj0 : (0 : Int) ≤ (j : Int) := Int.natCast_nonneg _
                      have hjl : j < rs.length := by omega
                      have hjl2 : (j : Int) < (rs.length : Int) := by omega
                      have hjc : j ≤ rcap := by omega
                      have v0 := HC3.out wr (K3X.out.trans KXR.out) j hjl
                      have y2 : wr.cell? ⟨wk.heap.size, 2, none⟩ = some (.int .i64 dr) := ckr HBX.out KXR.out (by simp) 2 rfl
                      have hnj := HND.out j hjl
                      have hje : ∀ h : j = ix, rs[j] = dr := fun h => by subst h; exact HIXE.out
                      obtain ⟨x, hx⟩ : ∃ x, rs[j] = x := ⟨_, rfl⟩
                      rw [hx] at v0 hnj hje
                      have HNJ := Lib.hid hnj
                      have HJE := Lib.hid hje
                      clear hx hnj hje z0 z1 z2
                      obtain ⟨hw1, hw2, hw3, hw4⟩ := wr_ten j (by omega)
                      have HW34 := Lib.hid (And.intro hw3 hw4)
                      clear hw3 hw4
                      by_cases hji : j = ix
                      · have hxe : (x == dr) = true := by simpa using HJE.out hji
                        subst hji
                        go_wp2_with fail
                        go_quiet (fail)
                        clear hw1 hw2
                        have KXY : Hid (Kp X (wr.drewN nq) none) := Lib.hid (KXR.out.drewN nq)
                        obtain ⟨nm, hnm⟩ : ∃ nm, Pl.num rs dr = nm := ⟨_, rfl⟩
                        have hten : 10 + (j : Int) = (nm : Int) := by rw [← hnm, HNUM.out]; simp
                        have HNM := Lib.hid hnm
                        have hnml : nm ≤ 1000 := by rw [← hnm, HNUM.out]; omega
                        clear hnm
                        try simp only [hten]
                        generalize wr.drewN nq = Y at *
                        clear y2 v0 HNJ HJE HW34
                        obtain ⟨t2, ht2⟩ : ∃ q, t1 ++ Pl.selT rs ap ⟨1, des, dr⟩ = q := ⟨_, rfl⟩
                        have hbt2 : t2.length ≤ 48582 + 4100 * k3 := by rw [← ht2, List.length_append]; have := HLT2.out; omega
                        rw [ht2] at HNX HNEXT
                        have HT2 := Lib.hid ht2
                        have HMD : Hid (Mid (nm : Int)) := Lib.hid (by unfold Mid; omega)
                        clear ht2
                        go_upto_if 107 with fail
                        clear hxe
                        go_cut [6, 10] from 57 to 156 (fun s6 s10 wx => s6 = .string ⟨t2.toArray⟩ ∧ s10 = .int .i64 (nm : Int) ∧ Kp Y wx none)
                        case first =>
                          by_cases hna : nm = ap
                          · have h : t1 = t2 := by rw [← HT2.out]; simp [Pl.selT, HNM.out, hna]
                            subst h
                            subst hna
                            go_wp2_with fail
                            go_meet
                            exact ⟨rfl, rfl, Kp.refl _ _⟩
                          · have hb : ((nm : Int) == (ap : Int)) = false := by simp; omega
                            have hs : t2 = t1 ++ 68 :: (Lib.itoa (nm : Int) ++ [42, 10]) := by rw [← HT2.out]; simp [Pl.selT, HNM.out, hna]
                            obtain ⟨b1, hb1⟩ : ∃ q : List UInt8, t1 ++ [68] = q := ⟨_, rfl⟩
                            obtain ⟨b2, hb2⟩ : ∃ q : List UInt8, b1 ++ Lib.itoa (nm : Int) = q := ⟨_, rfl⟩
                            have hil := itoa_length (nm : Int) HMD.out
                            have hl1 : b1.length ≤ 48560 + 4100 * k3 := by rw [← hb1, List.length_append]; simp only [List.length_cons, List.length_nil]; omega
                            have hl2 : b2.length ≤ 48580 + 4100 * k3 := by rw [← hb2, List.length_append]; omega
                            have g0 : (9223372036854775807 < t1.length + 1) = False := eq_false (by omega)
                            have g1 : (9223372036854775807 < b1.length + (Lib.itoa (nm : Int)).length) = False := eq_false (by omega)
                            have g2 : (9223372036854775807 < b2.length + 2) = False := eq_false (by omega)
                            have s0 : (⟨t1.toArray⟩ : ByteArray) ++ ⟨#[68]⟩ = ⟨b1.toArray⟩ := sumB t1 [68] b1 hb1
                            have s1 : (⟨b1.toArray⟩ : ByteArray) ++ ⟨(Lib.itoa (nm : Int)).toArray⟩ = ⟨b2.toArray⟩ := sumB b1 _ b2 hb2
                            have s2 : (⟨b2.toArray⟩ : ByteArray) ++ ⟨#[42, 10]⟩ = ⟨t2.toArray⟩ := sumB b2 [42, 10] t2 (by rw [← hb2, ← hb1, hs]; simp)
                            clear hb1 hb2 hl1 hl2 hs hil hna
                            go_wp2_with fail
                            refine (dec_any (nm : Int) HMD.out _).mono ?_
                            rintro E w5 ⟨rfl, k5⟩
                            have K5 := Lib.hid k5
                            clear k5
                            go_wp2_with fail
                            go_meet
                            exact ⟨rfl, rfl, K5.out⟩
                        case rest =>
                          obtain ⟨rfl, rfl, hky⟩ := hcut
                          have KXC : Hid (Kp X wc none) := Lib.hid (KXY.out.trans hky)
                          clear hky
                          have KWC : Hid (Kp w wc none) := Lib.hid (KWX.out.trans KXC.out)
                          have KBC : Hid (Kp wb wc none) := Lib.hid (KBX.out.trans KXC.out)
                          have y1 : wc.cell? ⟨wk.heap.size, 1, none⟩ = some (.slice ea sn ec) := ckr HBX.out KXC.out (by simp) 1 rfl
                          obtain ⟨pt, hpt⟩ : ∃ q, Pl.pathT ⟨1, des, dr⟩ = q := ⟨_, rfl⟩
                          obtain ⟨t3, ht3⟩ : ∃ q, t2 ++ pt = q := ⟨_, rfl⟩
                          have HSH : Hid (t2 ++ Pl.shapeT ⟨1, des, dr⟩ = t3) := Lib.hid (by rw [← ht3, ← hpt]; rfl)
                          have HAP : Hid ((nm : Int) = (Pl.apOf rs ap ⟨1, des, dr⟩ : Nat)) := Lib.hid (by unfold Pl.apOf; rw [if_neg (by show ¬ ((1 : Int) = 2); decide)]; dsimp only; rw [HNM.out])
                          have HPT := Lib.hid hpt
                          have HT3 := Lib.hid ht3
                          rw [HSH.out] at HNX
                          clear hpt ht3
                          obtain ⟨e, hx⟩ : ∃ e, des[0]? = some e := ⟨des[0]'(by rw [HSN.out]; exact hz0), List.getElem?_eq_getElem (by rw [HSN.out]; exact hz0)⟩
                          obtain ⟨eb, eo, rfl, hecap, _, hcells⟩ := (HEE.out w (Kp.refl w none)).ed (k := 0) (by rw [HSN.out]; exact hz0)
                          have hc0 := hcells wc KWC.out
                          have hx2 : des[0]'(by rw [HSN.out]; exact hz0) = e := by rw [List.getElem?_eq_getElem (by rw [HSN.out]; exact hz0)] at hx; injection hx
                          have hev := chkE_zero (HVE.out e (by rw [← hx2]; exact List.getElem_mem _))
                          rw [hx2] at hc0
                          have hec2 : sn ≤ ec := by have := HSN.out; omega
                          have HX0 := Lib.hid hx
                          have HONE : Hid (sn = 1 → des = [e]) := Lib.hid fun h => by
                            obtain ⟨e2, he2⟩ := List.length_eq_one_iff.1 (HSN.out.trans h)
                            rw [he2] at hx ⊢; simp at hx; rw [hx]
                          obtain ⟨ek, ⟨ax, ay⟩, ⟨bx, bY⟩, ⟨cx, cy⟩⟩ := e
                          dsimp only at hc0 hev
                          have HM1 : Hid (Mid ax ∧ Mid ay) := Lib.hid ⟨In.mid hev.2.1.1, In.mid hev.2.1.2⟩
                          simp only [Nat.zero_mul, Nat.add_zero] at hc0
                          obtain ⟨d0, d1, d2, d3, d4, _, _⟩ := hc0
                          clear hcells hx hx2 hev hecap
                          have hsn0 : (0 : Int) < (sn : Int) := by omega
                          by_cases hbig : 262144 < t3.length
                          · have hbig2 : (262144 : Int) < (t3.length : Int) := by omega
                            have HFE := Lib.hid (HFL.out (Nat.lt_of_lt_of_le hbig HNX.out))
                            clear hbig
                            by_cases hsn1 : sn = 1
                            · have HO1 := Lib.hid hsn1
                              have u0 : ((sn : Int) == 1) = true := by simp; omega
                              clear hsn1
                              by_cases hek : ek = 1
                              · subst hek
                                by_cases hab : ax = bx
                                · subst hab
                                  by_cases hab2 : ay = bY
                                  · subst hab2
                                    obtain ⟨p1, hp1⟩ : ∃ q, Pl.pnt 88 ⟨ax, ay⟩ 89 = q := ⟨_, rfl⟩
                                    obtain ⟨q1, hq1⟩ : ∃ q : List UInt8, t2 ++ p1 = q := ⟨_, rfl⟩
                                    have hpl : p1.length ≤ 42 := by rw [← hp1]; exact pnt_length 88 ⟨ax, ay⟩ 89 HM1.out.1 HM1.out.2
                                    have hql : q1.length ≤ 48624 + 4100 * k3 := by rw [← hq1, List.length_append]; omega
                                    have HRP : Hid (∀ V, Calls Tryz.prog 35 #[.agg #[.int .i64 ax, .int .i64 ay]] V fun e w' => e = .returned (.string ⟨p1.toArray⟩) ∧ Kp V w' none) := Lib.hid fun V => by rw [← hp1]; exact rpoint_any ax ay V HM1.out.1 HM1.out.2
                                    have HPE : Hid (q1 ++ [68, 48, 51, 42, 10] = t3) := Lib.hid (by rw [← HT3.out, ← HPT.out, ← hq1, ← hp1]; unfold Pl.pathT; rw [flash_one (HONE.out HO1.out), if_pos ⟨rfl, rfl⟩]; simp)
                                    have g0 : (9223372036854775807 < t2.length + p1.length) = False := eq_false (by omega)
                                    have s0 : (⟨t2.toArray⟩ : ByteArray) ++ ⟨p1.toArray⟩ = ⟨q1.toArray⟩ := sumB t2 p1 q1 hq1
                                    have g1 : (9223372036854775807 < q1.length + 5) = False := eq_false (by omega)
                                    have s1 : (⟨q1.toArray⟩ : ByteArray) ++ ⟨#[68, 48, 51, 42, 10]⟩ = ⟨t3.toArray⟩ := sumB q1 [68, 48, 51, 42, 10] t3 HPE.out
                                    clear hp1 hq1 hpl hql
                                    go_wp2_with fail
                                    go_quiet (fail)
                                    have KQ : Hid (Kp wc (wc.drewN nq) none) := Lib.hid ((Kp.refl wc none).drewN nq)
                                    go_wp2_with fail
                                    refine (HRP.out _).mono ?_
                                    rintro E w6 ⟨rfl, k6⟩
                                    have KT : Hid (Kp wc w6 none) := Lib.hid (KQ.out.trans k6)
                                    clear k6
                                    go_wp2_with fail
                                    go_ret2
                                    exact wr_is (t := []) HFE.out (KWC.out.trans KT.out)
                                  · have u3 : (ay == bY) = false := by simpa using hab2
                                    have HPE : Hid (t2 ++ ed = t3) := Lib.hid (by rw [← HT3.out, ← HPT.out, ← HEDE.out]; unfold Pl.pathT; rw [flash_one (HONE.out HO1.out), if_neg (by simp [hab2])])
                                    have g0 : (9223372036854775807 < t2.length + ed.length) = False := eq_false (by omega)
                                    have s0 : (⟨t2.toArray⟩ : ByteArray) ++ ⟨ed.toArray⟩ = ⟨t3.toArray⟩ := sumB t2 ed t3 HPE.out
                                    go_wp2_with fail
                                    go_quiet (fail)
                                    have KQ : Hid (Kp wc (wc.drewN nq) none) := Lib.hid ((Kp.refl wc none).drewN nq)
                                    go_wp2_with fail
                                    refine (HED.out _ (KWC.out.trans KQ.out)).mono ?_
                                    rintro E w6 ⟨rfl, k6⟩
                                    have KT : Hid (Kp wc w6 none) := Lib.hid (KQ.out.trans k6)
                                    clear k6
                                    go_wp2_with fail
                                    go_ret2
                                    exact wr_is (t := []) HFE.out (KWC.out.trans KT.out)
                                · have u3 : (ax == bx) = false := by simpa using hab
                                  have HPE : Hid (t2 ++ ed = t3) := Lib.hid (by rw [← HT3.out, ← HPT.out, ← HEDE.out]; unfold Pl.pathT; rw [flash_one (HONE.out HO1.out), if_neg (by simp [hab])])
                                  have g0 : (9223372036854775807 < t2.length + ed.length) = False := eq_false (by omega)
                                  have s0 : (⟨t2.toArray⟩ : ByteArray) ++ ⟨ed.toArray⟩ = ⟨t3.toArray⟩ := sumB t2 ed t3 HPE.out
                                  go_wp2_with fail
                                  go_quiet (fail)
                                  have KQ : Hid (Kp wc (wc.drewN nq) none) := Lib.hid ((Kp.refl wc none).drewN nq)
                                  go_wp2_with fail
                                  refine (HED.out _ (KWC.out.trans KQ.out)).mono ?_
                                  rintro E w6 ⟨rfl, k6⟩
                                  have KT : Hid (Kp wc w6 none) := Lib.hid (KQ.out.trans k6)
                                  clear k6
                                  go_wp2_with fail
                                  go_ret2
                                  exact wr_is (t := []) HFE.out (KWC.out.trans KT.out)
                              · have u1 : (ek == 1) = false := by simpa using hek
                                have HPE : Hid (t2 ++ ed = t3) := Lib.hid (by rw [← HT3.out, ← HPT.out, ← HEDE.out]; unfold Pl.pathT; rw [flash_one (HONE.out HO1.out), if_neg (by simp [hek])])
                                have g0 : (9223372036854775807 < t2.length + ed.length) = False := eq_false (by omega)
                                have s0 : (⟨t2.toArray⟩ : ByteArray) ++ ⟨ed.toArray⟩ = ⟨t3.toArray⟩ := sumB t2 ed t3 HPE.out
                                go_wp2_with fail
                                go_quiet (fail)
                                have KQ : Hid (Kp wc (wc.drewN nq) none) := Lib.hid ((Kp.refl wc none).drewN nq)
                                go_wp2_with fail
                                refine (HED.out _ (KWC.out.trans KQ.out)).mono ?_
                                rintro E w6 ⟨rfl, k6⟩
                                have KT : Hid (Kp wc w6 none) := Lib.hid (KQ.out.trans k6)
                                clear k6
                                go_wp2_with fail
                                go_ret2
                                exact wr_is (t := []) HFE.out (KWC.out.trans KT.out)
                            · have u0 : ((sn : Int) == 1) = false := by simp; omega
                              have HPE : Hid (t2 ++ ed = t3) := Lib.hid (by rw [← HT3.out, ← HPT.out, ← HEDE.out]; unfold Pl.pathT; rw [flash_more (by dsimp only; rw [HSN.out]; exact hsn1)])
                              have g0 : (9223372036854775807 < t2.length + ed.length) = False := eq_false (by omega)
                              have s0 : (⟨t2.toArray⟩ : ByteArray) ++ ⟨ed.toArray⟩ = ⟨t3.toArray⟩ := sumB t2 ed t3 HPE.out
                              go_wp2_with fail
                              go_quiet (fail)
                              have KQ : Hid (Kp wc (wc.drewN nq) none) := Lib.hid ((Kp.refl wc none).drewN nq)
                              go_wp2_with fail
                              refine (HED.out _ (KWC.out.trans KQ.out)).mono ?_
                              rintro E w6 ⟨rfl, k6⟩
                              have KT : Hid (Kp wc w6 none) := Lib.hid (KQ.out.trans k6)
                              clear k6
                              go_wp2_with fail
                              go_ret2
                              exact wr_is (t := []) HFE.out (KWC.out.trans KT.out)
                          · have hbig2 : ¬ (262144 : Int) < (t3.length : Int) := by omega
                            clear hbig
                            by_cases hsn1 : sn = 1
                            · have HO1 := Lib.hid hsn1
                              have u0 : ((sn : Int) == 1) = true := by simp; omega
                              clear hsn1
                              by_cases hek : ek = 1
                              · subst hek
                                by_cases hab : ax = bx
                                · subst hab
                                  by_cases hab2 : ay = bY
                                  · subst hab2
                                    obtain ⟨p1, hp1⟩ : ∃ q, Pl.pnt 88 ⟨ax, ay⟩ 89 = q := ⟨_, rfl⟩
                                    obtain ⟨q1, hq1⟩ : ∃ q : List UInt8, t2 ++ p1 = q := ⟨_, rfl⟩
                                    have hpl : p1.length ≤ 42 := by rw [← hp1]; exact pnt_length 88 ⟨ax, ay⟩ 89 HM1.out.1 HM1.out.2
                                    have hql : q1.length ≤ 48624 + 4100 * k3 := by rw [← hq1, List.length_append]; omega
                                    have HRP : Hid (∀ V, Calls Tryz.prog 35 #[.agg #[.int .i64 ax, .int .i64 ay]] V fun e w' => e = .returned (.string ⟨p1.toArray⟩) ∧ Kp V w' none) := Lib.hid fun V => by rw [← hp1]; exact rpoint_any ax ay V HM1.out.1 HM1.out.2
                                    have HPE : Hid (q1 ++ [68, 48, 51, 42, 10] = t3) := Lib.hid (by rw [← HT3.out, ← HPT.out, ← hq1, ← hp1]; unfold Pl.pathT; rw [flash_one (HONE.out HO1.out), if_pos ⟨rfl, rfl⟩]; simp)
                                    have g0 : (9223372036854775807 < t2.length + p1.length) = False := eq_false (by omega)
                                    have s0 : (⟨t2.toArray⟩ : ByteArray) ++ ⟨p1.toArray⟩ = ⟨q1.toArray⟩ := sumB t2 p1 q1 hq1
                                    have g1 : (9223372036854775807 < q1.length + 5) = False := eq_false (by omega)
                                    have s1 : (⟨q1.toArray⟩ : ByteArray) ++ ⟨#[68, 48, 51, 42, 10]⟩ = ⟨t3.toArray⟩ := sumB q1 [68, 48, 51, 42, 10] t3 HPE.out
                                    clear hp1 hq1 hpl hql
                                    go_wp2_with fail
                                    go_quiet (fail)
                                    have KQ : Hid (Kp wc (wc.drewN nq) none) := Lib.hid ((Kp.refl wc none).drewN nq)
                                    go_wp2_with fail
                                    refine (HRP.out _).mono ?_
                                    rintro E w6 ⟨rfl, k6⟩
                                    have KT : Hid (Kp wc w6 none) := Lib.hid (KQ.out.trans k6)
                                    clear k6
                                    have HREL := Lib.hid (HNEXT.out t3 (nm : Int) _ HSH.out.symm HAP.out (KWC.out.trans KT.out) (KBC.out.trans KT.out))
                                    go_wp2_with fail
                                    first | exact ⟨HREL.out, by simp [intOf]; omega⟩ | (go_roundw; all_goals first | exact HREL.out | (simp [intOf]; omega) | ((repeat apply Exists.intro); exact ⟨HREL.out, rfl⟩))
                                  · have u3 : (ay == bY) = false := by simpa using hab2
                                    have HPE : Hid (t2 ++ ed = t3) := Lib.hid (by rw [← HT3.out, ← HPT.out, ← HEDE.out]; unfold Pl.pathT; rw [flash_one (HONE.out HO1.out), if_neg (by simp [hab2])])
                                    have g0 : (9223372036854775807 < t2.length + ed.length) = False := eq_false (by omega)
                                    have s0 : (⟨t2.toArray⟩ : ByteArray) ++ ⟨ed.toArray⟩ = ⟨t3.toArray⟩ := sumB t2 ed t3 HPE.out
                                    go_wp2_with fail
                                    go_quiet (fail)
                                    have KQ : Hid (Kp wc (wc.drewN nq) none) := Lib.hid ((Kp.refl wc none).drewN nq)
                                    go_wp2_with fail
                                    refine (HED.out _ (KWC.out.trans KQ.out)).mono ?_
                                    rintro E w6 ⟨rfl, k6⟩
                                    have KT : Hid (Kp wc w6 none) := Lib.hid (KQ.out.trans k6)
                                    clear k6
                                    have HREL := Lib.hid (HNEXT.out t3 (nm : Int) _ HSH.out.symm HAP.out (KWC.out.trans KT.out) (KBC.out.trans KT.out))
                                    go_wp2_with fail
                                    first | exact ⟨HREL.out, by simp [intOf]; omega⟩ | (go_roundw; all_goals first | exact HREL.out | (simp [intOf]; omega) | ((repeat apply Exists.intro); exact ⟨HREL.out, rfl⟩))
                                · have u3 : (ax == bx) = false := by simpa using hab
                                  have HPE : Hid (t2 ++ ed = t3) := Lib.hid (by rw [← HT3.out, ← HPT.out, ← HEDE.out]; unfold Pl.pathT; rw [flash_one (HONE.out HO1.out), if_neg (by simp [hab])])
                                  have g0 : (9223372036854775807 < t2.length + ed.length) = False := eq_false (by omega)
                                  have s0 : (⟨t2.toArray⟩ : ByteArray) ++ ⟨ed.toArray⟩ = ⟨t3.toArray⟩ := sumB t2 ed t3 HPE.out
                                  go_wp2_with fail
                                  go_quiet (fail)
                                  have KQ : Hid (Kp wc (wc.drewN nq) none) := Lib.hid ((Kp.refl wc none).drewN nq)
                                  go_wp2_with fail
                                  refine (HED.out _ (KWC.out.trans KQ.out)).mono ?_
                                  rintro E w6 ⟨rfl, k6⟩
                                  have KT : Hid (Kp wc w6 none) := Lib.hid (KQ.out.trans k6)
                                  clear k6
                                  have HREL := Lib.hid (HNEXT.out t3 (nm : Int) _ HSH.out.symm HAP.out (KWC.out.trans KT.out) (KBC.out.trans KT.out))
                                  go_wp2_with fail
                                  first | exact ⟨HREL.out, by simp [intOf]; omega⟩ | (go_roundw; all_goals first | exact HREL.out | (simp [intOf]; omega) | ((repeat apply Exists.intro); exact ⟨HREL.out, rfl⟩))
                              · have u1 : (ek == 1) = false := by simpa using hek
                                have HPE : Hid (t2 ++ ed = t3) := Lib.hid (by rw [← HT3.out, ← HPT.out, ← HEDE.out]; unfold Pl.pathT; rw [flash_one (HONE.out HO1.out), if_neg (by simp [hek])])
                                have g0 : (9223372036854775807 < t2.length + ed.length) = False := eq_false (by omega)
                                have s0 : (⟨t2.toArray⟩ : ByteArray) ++ ⟨ed.toArray⟩ = ⟨t3.toArray⟩ := sumB t2 ed t3 HPE.out
                                go_wp2_with fail
                                go_quiet (fail)
                                have KQ : Hid (Kp wc (wc.drewN nq) none) := Lib.hid ((Kp.refl wc none).drewN nq)
                                go_wp2_with fail
                                refine (HED.out _ (KWC.out.trans KQ.out)).mono ?_
                                rintro E w6 ⟨rfl, k6⟩
                                have KT : Hid (Kp wc w6 none) := Lib.hid (KQ.out.trans k6)
                                clear k6
                                have HREL := Lib.hid (HNEXT.out t3 (nm : Int) _ HSH.out.symm HAP.out (KWC.out.trans KT.out) (KBC.out.trans KT.out))
                                go_wp2_with fail
                                first | exact ⟨HREL.out, by simp [intOf]; omega⟩ | (go_roundw; all_goals first | exact HREL.out | (simp [intOf]; omega) | ((repeat apply Exists.intro); exact ⟨HREL.out, rfl⟩))
                            · have u0 : ((sn : Int) == 1) = false := by simp; omega
                              have HPE : Hid (t2 ++ ed = t3) := Lib.hid (by rw [← HT3.out, ← HPT.out, ← HEDE.out]; unfold Pl.pathT; rw [flash_more (by dsimp only; rw [HSN.out]; exact hsn1)])
                              have g0 : (9223372036854775807 < t2.length + ed.length) = False := eq_false (by omega)
                              have s0 : (⟨t2.toArray⟩ : ByteArray) ++ ⟨ed.toArray⟩ = ⟨t3.toArray⟩ := sumB t2 ed t3 HPE.out
                              go_wp2_with fail
                              go_quiet (fail)
                              have KQ : Hid (Kp wc (wc.drewN nq) none) := Lib.hid ((Kp.refl wc none).drewN nq)
                              go_wp2_with fail
                              refine (HED.out _ (KWC.out.trans KQ.out)).mono ?_
                              rintro E w6 ⟨rfl, k6⟩
                              have KT : Hid (Kp wc w6 none) := Lib.hid (KQ.out.trans k6)
                              clear k6
                              have HREL := Lib.hid (HNEXT.out t3 (nm : Int) _ HSH.out.symm HAP.out (KWC.out.trans KT.out) (KBC.out.trans KT.out))
                              go_wp2_with fail
                              first | exact ⟨HREL.out, by simp [intOf]; omega⟩ | (go_roundw; all_goals first | exact HREL.out | (simp [intOf]; omega) | ((repeat apply Exists.intro); exact ⟨HREL.out, rfl⟩))
                      · have hxe : (x == dr) = false := by simp only [beq_eq_false_iff_ne, ne_eq]; intro h; exact hji (HNJ.out h)
                        have hjn : j + 1 ≤ ix := Nat.lt_of_le_of_ne hj hji
                        obtain ⟨hw3, hw4⟩ := HW34.out
                        go_wp2_with fail
                        go_quiet (fail)
                        go_wp2_with fail
                        clear hw1 hw2 hw3 hw4
                        first | exact ⟨⟨j + 1, hjn, by go_num, KXR.out.drewN nq⟩, by simp [intOf]; omega⟩ | (go_roundw; all_goals first | exact ⟨j + 1, hjn, by go_num, KXR.out.drewN nq⟩ | (simp [intOf]; omega))
                  · obtain ⟨a1, ha1⟩ : ∃ q : List UInt8, t1 ++ [71, 51, 54, 42, 10] = q := ⟨_, rfl⟩
                    obtain ⟨a2, ha2⟩ : ∃ q : List UInt8, a1 ++ ed = q := ⟨_, rfl⟩
                    obtain ⟨a3, ha3⟩ : ∃ q : List UInt8, a2 ++ [71, 51, 55, 42, 10] = q := ⟨_, rfl⟩
                    have hl1 : a1.length ≤ 48564 + 4100 * k3 := by rw [← ha1, List.length_append]; simp only [List.length_cons, List.length_nil]; omega
                    have hl2 : a2.length ≤ 52291 + 4100 * k3 := by rw [← ha2, List.length_append]; omega
                    have g0 : (9223372036854775807 < t1.length + 5) = False := eq_false (by omega)
                    have g1 : (9223372036854775807 < a1.length + ed.length) = False := eq_false (by omega)
                    have g2 : (9223372036854775807 < a2.length + 5) = False := eq_false (by omega)
                    have s0 : (⟨t1.toArray⟩ : ByteArray) ++ ⟨#[71, 51, 54, 42, 10]⟩ = ⟨a1.toArray⟩ := sumB t1 [71, 51, 54, 42, 10] a1 ha1
                    have s1 : (⟨a1.toArray⟩ : ByteArray) ++ ⟨ed.toArray⟩ = ⟨a2.toArray⟩ := sumB a1 ed a2 ha2
                    have s2 : (⟨a2.toArray⟩ : ByteArray) ++ ⟨#[71, 51, 55, 42, 10]⟩ = ⟨a3.toArray⟩ := sumB a2 [71, 51, 55, 42, 10] a3 ha3
                    have HA3 : Hid (a3 = t1 ++ Pl.selT rs ap ⟨2, des, dr⟩ ++ Pl.shapeT ⟨2, des, dr⟩) := Lib.hid (by rw [← ha3, ← ha2, ← ha1, ← HEDE.out]; simp [Pl.selT, Pl.shapeT])
                    have HAP : Hid ((ap : Int) = (Pl.apOf rs ap ⟨2, des, dr⟩ : Nat)) := Lib.hid (by simp [Pl.apOf])
                    clear ha1 ha2 ha3 hl1 hl2
                    go_wp2_with fail
                    refine (HED.out _ KWX.out).mono ?_
                    rintro E w5 ⟨rfl, k5⟩
                    have HREL := Lib.hid (HNEXT.out a3 ap w5 HA3.out HAP.out (KWX.out.trans k5) (KBX.out.trans k5))
                    clear k5
                    go_wp2_with fail
                    first | exact ⟨HREL.out, by simp [intOf]; omega⟩ | (go_roundw; all_goals first | exact HREL.out | (simp [intOf]; omega) | ((repeat apply Exists.intro); exact ⟨HREL.out, rfl⟩))
              · have hq1 : ¬ (k3 : Int) < (n : Int) := by omega
                have hkn : k3 = ds.length := by have := HN.out; omega
                have HFT : Hid (Pl.fileT ds = (Pl.runTo rs ds k3).t ++ [77, 48, 50, 42, 10]) := Lib.hid (by unfold Pl.fileT; rw [HRS.out, hkn])
                clear hkn
                obtain ⟨⟨t, cc, ap⟩, hst⟩ : ∃ st, Pl.runTo rs ds k3 = st := ⟨_, rfl⟩
                rw [hst] at HTL HFT ⊢
                dsimp only at HTL HFT ⊢
                clear hst
                have hbt := HTL.out
                have hk3n : k3 ≤ 100000 := by have := HN.out; omega
                obtain ⟨ft, hft⟩ : ∃ ft, Pl.fileT ds = ft := ⟨_, rfl⟩
                rw [hft] at HFM HFL HFT
                have g0 : (9223372036854775807 < t.length + 5) = False := eq_false (by omega)
                have s0 : (⟨t.toArray⟩ : ByteArray) ++ ⟨#[77, 48, 50, 42, 10]⟩ = ⟨ft.toArray⟩ := sumB t [77, 48, 50, 42, 10] ft HFT.out.symm
                clear hft HFT
                by_cases hbig : 262144 < ft.length
                · have hbig2 : (262144 : Int) < (ft.length : Int) := by omega
                  have HFE := Lib.hid (HFL.out hbig)
                  clear hbig
                  go_wp2_with fail
                  go_ret2
                  exact wr_is (t := []) HFE.out HK.out
                · have hbig2 : ¬ (262144 : Int) < (ft.length : Int) := by omega
                  have HFE := Lib.hid (HFM.out hbig)
                  clear hbig
                  go_wp2_with fail
                  go_ret2
                  exact wr_is HFE.out HK.out

end Go.Proofs.YtggplbenliaodaaGreatDoor
