/- The law DrillWrites, run. Condition: lists of numbers, and holes, that a machine holds. -/
import Derived.Test.YtljjbdbgedmadaaGreatDoorCu
import Derived.Test.YtljjbdbgedmadaaGreatDoorKs
import Derived.Test.YtljjbdbgedmadaaGreatDoorRn
import Derived.Test.YtljjbdbgedmadaaGreatDoorRz
import Derived.Test.YtljjbdbgedmadaaGreatDoorSn
import Derived.Test.YtljjbdbgedmadaaGreatDoorSd
set_option maxHeartbeats 16000000
set_option maxRecDepth 100000
namespace Go.Proofs.YtljjbdbgedmadaaGreatDoor
open Go.RowKit
theorem LiesRows.stay {w w' : World} {ao : Option Addr} {cap : Nat} {rows : List (List Int)} (h : LiesRows w ao cap rows) (k : Kp w w' none) : LiesRows w' ao cap rows := fun i hi => by
 obtain ⟨b, off, ra, rc, e, h1, h2, h3, h4, h5, h6⟩ := h i hi
 exact ⟨b, off, ra, rc, e, h1, Nat.lt_of_lt_of_le h2 k.size, (k.below.cell (p := ⟨b, off + i, none⟩) h2).trans h3, h4.keep k, h5, h6⟩
theorem fits_mid {x : Int} (h1 : -4611686018427387904 ≤ x) (h2 : x ≤ 4611686018427387904) : Fits x := wrap_mid h1 h2
theorem zh_fine {w : World} {t : HT} (hf : FineH t.h) (hl : LiesAt 7 edC w t.ea t.ec t.h.s.es) : ZH t := by
 obtain ⟨h1, h2, h3⟩ := hf
 obtain ⟨a1, a2, _⟩ := Dl.chkH_parts h1
 obtain ⟨b1, b2, _⟩ := Dl.chk_facts a1 a2
 refine ⟨fun h => ?_, by omega, fun e he => ?_⟩
 ·obtain ⟨b, off, e, _⟩ := hl 0 (List.length_pos_iff.2 b1)
  rw [h] at e; cases e
 ·have h := h3 e he
  unfold Pl.LimE Pl.Lim at h
  exact ⟨fits_mid (by omega) (by omega), fits_mid (by omega) (by omega), fits_mid (by omega) (by omega), fits_mid (by omega) (by omega), fits_mid (by omega) (by omega), fits_mid (by omega) (by omega)⟩
theorem zh_cut {t : HT} (h : RawH t) : ZH (cutT t) := ⟨h.2.1, by unfold cutT; simp only [List.length_take]; omega, fun e he => h.2.2 e (List.mem_of_mem_take he)⟩
structure Tried (w : World) (v : Value) (zs : List HT) (a : Option Addr) (c : Nat) : Prop where
 eq : v = .slice a zs.length c
 at_ : HolesAt w a c zs
 few : zs.length ≤ 11
 zh : ∀ t ∈ zs, ZH t
theorem Tried.keep {w w' : World} {v : Value} {zs : List HT} {a : Option Addr} {c : Nat} (h : Tried w v zs a c) (k : Kp w w' none) : Tried w' v zs a c := ⟨h.eq, h.at_.keep k, h.few, h.zh⟩
theorem cut_tried {w w' : World} {raw : List HT} {bo : Option Addr} {bc : Nat} {v : Value} {base : Nat} (hr : HolesAt w bo bc raw) (hq : ∀ t ∈ raw, RawH t) (ho : w'.ownsRow base 52 6 v ((raw.take 5).map cutT).length (((raw.take 5).map cutT).flatMap htC)) (k : Kp w w' none) : ∃ a c, Tried w' v ((raw.take 5).map cutT) a c := by
 obtain ⟨a, c, rfl⟩ := own_slice ho
 refine ⟨a, c, rfl, ⟨(own_lies (m := 6) (f := htC) (fun _ => rfl) ho).2, fun t ht => ?_⟩, by rw [List.length_map, List.length_take]; omega, fun t ht => ?_⟩
 ·obtain ⟨u, hu, rfl⟩ := List.mem_map.1 ht
  exact (lies_takeN (hr.2 u (List.mem_of_mem_take hu))).keep k
 ·obtain ⟨u, hu, rfl⟩ := List.mem_map.1 ht
  exact zh_cut (hq u (List.mem_of_mem_take hu))
theorem writes_any (rows : List (List Int)) (n : Nat) (hn : rows.length = n) (ao : Option Addr) (cap : Nat) (raw : List HT) (m : Nat) (hm : raw.length = m) (bo : Option Addr) (bc : Nat) (w : World) (he : Env w) (hl : LiesRows w ao cap rows) (hr : HolesAt w bo bc raw) (hq : ∀ t ∈ raw, RawH t) : Calls Tryz.prog 7 #[.slice ao n cap, .slice bo m bc] w fun E w' => E = .returned (.bool true) ∧ Kp w w' none := by
 have HEN : Hid (∀ V, Kp w V none → Env V) := oh fun V k => he.kp0 k
 have HSN : Hid (∀ V, Kp w V none → _) := oh (fun V k => sanity_any V (he.kp0 k))
 have HMD : Hid (∀ V, Kp w V none → Calls Tryz.prog 12 #[.slice ao n cap] V (DrewHs V)) := oh fun V k => made12_any rows n hn ao cap V (hl.stay k)
 have HCT : Hid (∀ V, Kp w V none → Calls Tryz.prog 23 #[.slice bo m bc] V (CutIs V raw)) := oh fun V k => cutH_any raw m hm bo bc V (hr.keep k) hq
 have HRW := oh hr; have HRQ := oh hq
 obtain ⟨i0, hi, hz0, hz1, hz2⟩ := info_parts infoHole
 clear he hl hn hr hq hm
 go_enter Tryz.func7, Tryz.ntmps7
 go_wp2_with fail
 refine (HSN.out _ (Kp.refl w none)).mono ?_
 rintro E w1 ⟨rfl, k1⟩; have K1 := oh k1; clear k1; go_wp2_with fail
 refine (HMD.out _ K1.out).mono ?_
 rintro E w2 ⟨ts, a1, c1, hfine, h6, rfl, hh, _, _, k2⟩; have K2 := oh (K1.out.trans k2)
 have HT1 : Hid (Tried w2 (.slice a1 ts.length c1) ts a1 c1) := oh ⟨rfl, hh, by omega, fun t ht => zh_fine (hfine t ht) (hh.2 t ht)⟩
 have H6 := oh h6
 obtain ⟨q, hq⟩ : ∃ q, ts.length = q := ⟨_, rfl⟩
 rw [hq] at HT1 H6 ⊢; have HQ := oh hq; clear hh hfine h6 k2 K1 HSN HMD hq; go_wp2_with fail
 refine (HCT.out _ K2.out).mono ?_
 rintro E w3 ⟨v, rfl, ho, k3⟩
 obtain ⟨us, hus⟩ : ∃ us, (raw.take 5).map cutT = us := ⟨_, rfl⟩
 have HUS := oh hus
 have HU5 : Hid (us.length ≤ 5) := oh (by rw [← hus, List.length_map, List.length_take]; omega)
 obtain ⟨a2, c2, ht2⟩ := cut_tried (HRW.out.keep K2.out) HRQ.out ho k3
 rw [hus] at ht2
 obtain rfl := ht2.eq
 have HT2 := oh ht2
 obtain ⟨p, hp⟩ : ∃ p, us.length = p := ⟨_, rfl⟩
 rw [hp] at HT2 HU5 ⊢; have HP := oh hp; have HT1b := oh (HT1.out.keep k3); have K3 := oh (K2.out.trans k3); clear ho k3 ht2 hus hp HT1 K2
 go_wp2_with (at_builtin; go_must (refine wpList_app (f := htC) (by rfl) (.tmp 19) (.tmp 20) w3.heap.size 30 52 (by rfl) i0 _ 6 64 Tryz.underlying30 hi hz0 hz1 hz2 rfl (by omega) (fun _ => rfl) ht_one (.slice (some ⟨w3.heap.size, 0, none⟩) 0 0) 0 [] (by rfl) (World.ownsRow_made w3 #[] 0 (Nat.le_refl _) (by unfold maxLen; omega) rfl) (.slice a1 q c1) ts (by rfl) (by have h := (HT1b.out.at_.1.keep ((Kp.refl w3 none).alloc (.cells #[] 52))).list; rw [HQ.out] at h; exact h) (by have := HQ.out; have := H6.out; unfold maxLen; omega) (by have := HQ.out; have := H6.out; omega) (by simp) ?_))
 intro v4 w4 ho4 hg4 hb4
 have HO4 : Hid (w4.ownsRow w3.heap.size 52 6 v4 q (ts.flatMap htC)) := oh (by rw [HQ.out] at ho4; simpa using ho4)
 have K34 : Hid (Kp w3 w4 none) := oh (Kp.row ((Kp.refl w3 none).alloc (.cells #[] 52)) hg4 (fun x hx => by simp [Value.ownBlock] at hx; omega))
 clear ho4 hg4 hb4
 obtain ⟨g4, d4, rfl⟩ := own_slice HO4.out
 go_wp2_with fail
 refine (HCT.out _ (K3.out.trans K34.out)).mono ?_
 rintro E w5 ⟨v5, rfl, ho5, k5⟩
 obtain ⟨a5, c5, ht5⟩ := cut_tried (HRW.out.keep (K3.out.trans K34.out)) HRQ.out ho5 k5
 rw [HUS.out] at ht5
 obtain rfl := ht5.eq
 have HT5 := oh ht5; rw [HP.out] at HT5 ⊢; have K35 := oh (K34.out.trans k5); have HO5 := oh (own_kp HO4.out k5); clear ho5 k5 ht5 K34 HO4 HCT
 go_wp2_with (at_builtin; go_must (refine wpList_app (f := htC) (by rfl) (.tmp 21) (.tmp 23) w3.heap.size 30 52 (by rfl) i0 _ 6 64 Tryz.underlying30 hi hz0 hz1 hz2 rfl (by omega) (fun _ => rfl) ht_one (.slice g4 q d4) q (ts.flatMap htC) (by rfl) HO5.out (.slice a5 p c5) us (by rfl) (by have h := HT5.out.at_.1.list; rw [HP.out] at h; exact h) (by have := HP.out; have := HU5.out; have := H6.out; unfold maxLen; omega) (by have := HP.out; have := HU5.out; have := H6.out; omega) K35.out.size ?_))
 intro v6 w6 ho6 hg6 hb6; rw [HP.out] at ho6
 obtain ⟨g6, d6, rfl⟩ := own_slice ho6
 have K36 : Hid (Kp w3 w6 none) := oh (Kp.row K35.out hg6 (fun x hx => (HO5.out.lt x hx).1))
 have HT3 : Hid (Tried w6 (.slice g6 (q + p) d6) (ts ++ us) g6 d6) := oh (by
  have hll : (ts ++ us).length = q + p := by rw [List.length_append, HQ.out, HP.out]
  refine ⟨by rw [hll], ⟨(own_lies (m := 6) (f := htC) (fun _ => rfl) (by rw [hll, List.flatMap_append]; exact ho6)).2, fun t ht => ?_⟩, by have := H6.out; have := HU5.out; omega, fun t ht => ?_⟩
  ·rcases List.mem_append.1 ht with h | h
   ·exact (HT1b.out.at_.2 t h).keep K36.out
   ·exact (HT2.out.at_.2 t h).keep K36.out
  ·rcases List.mem_append.1 ht with h | h
   ·exact HT1b.out.zh t h
   ·exact HT2.out.zh t h)
 have HT1c := oh (HT1b.out.keep K36.out); have HT2c := oh (HT2.out.keep K36.out); have K6 := oh (K3.out.trans K36.out)
 obtain ⟨r, hr⟩ : ∃ r, q + p = r := ⟨_, rfl⟩
 try rw [hr] at HT3 ⊢
 clear ho6 hg6 hb6 hr HO5 HT5 HT1b HT2 K3 K35 K36; go_upto_region 4 with fail
 have HX := oh (heap_alloc_new w6 (.cells #[.slice a1 q c1, .slice a2 p c2, .slice g6 r d6] 30))
 have K7 : Hid (Kp w (w6.alloc (.cells #[.slice a1 q c1, .slice a2 p c2, .slice g6 r d6] 30)) none) := oh (K6.out.alloc _)
 have KT : Hid (Kp w6 (w6.alloc (.cells #[.slice a1 q c1, .slice a2 p c2, .slice g6 r d6] 30)) none) := oh ((Kp.refl w6 none).alloc _)
 obtain ⟨X, hX⟩ : ∃ X, w6.heap.size = X := ⟨_, rfl⟩
 generalize w6.alloc (.cells #[.slice a1 q c1, .slice a2 p c2, .slice g6 r d6] 30) = w7 at *
 rw [hX] at HX ⊢; clear hX
 have HALL : Hid (∀ k, k < 3 → ∃ (v : Value) (zs : List HT) (a : Option Addr) (c : Nat), Tried w7 v zs a c ∧ ∀ V, Kp w7 V none → V.cell? ⟨X, k, none⟩ = some v) := oh fun k hk => by
  match k, hk with
  | 0, _ => exact ⟨_, ts, _, _, HT1c.out.keep KT.out, fun V kv => hcell (blk HX.out kv) 0 rfl⟩
  | 1, _ => exact ⟨_, us, _, _, HT2c.out.keep KT.out, fun V kv => hcell (blk HX.out kv) 1 rfl⟩
  | 2, _ => exact ⟨_, ts ++ us, _, _, HT3.out.keep KT.out, fun V kv => hcell (blk HX.out kv) 2 rfl⟩
 clear HT1c HT2c HT3 KT HX K6
 go_loopw [27] (fun i wr => ∃ k : Nat, k ≤ 3 ∧ i = I6 (k : Int) ∧ Hid (Kp w7 wr none)) (fun i _ => 3 - (intOf i).toNat)
 case atStart => exact ⟨0, Nat.zero_le _, rfl, oh (Kp.refl _ _)⟩
 case round =>
  obtain ⟨k, hk, rfl, HK⟩ := hrel
  have hk0 := nn k
  by_cases hlt : k < 3
  ·have hk1 : (k : Int) < 3 := by omega
   obtain ⟨v, zs, a, c, hT, hcx⟩ := HALL.out k hlt
   obtain rfl := hT.eq
   obtain ⟨z, hz⟩ : ∃ z, zs.length = z := ⟨_, rfl⟩
   have HTR := oh (hT.keep HK.out); have HZ := oh hz
   have x0 := hcx wr HK.out
   rw [hz] at x0; clear hT hcx hz
   have HWR : Hid (∀ V, Kp wr V none → Calls Tryz.prog 15 #[.slice a z c] V fun E w' => WrIs V E w' (Dl.write (zs.map (·.h)))) := oh fun V kv => write_any zs z HZ.out a c V (HEN.out V (K7.out.trans (HK.out.trans kv))) (HTR.out.at_.keep kv) (by have := HTR.out.few; have := HZ.out; omega)
   have HRR : Hid (∀ V, Kp wr V none → Calls Tryz.prog 11 #[.slice a z c] V fun E w' => WrIs V E w' (Dl.write (zs.map (·.h)))) := oh fun V kv => rwrite_any zs z HZ.out a c V (HTR.out.at_.keep kv) (by have := HTR.out.few; have := HZ.out; omega)
   have HNO : Hid (∀ V, Kp wr V none → Calls Tryz.prog 24 #[.slice a z c] V (ZMoved V (Dl.norm (zs.map (·.h))))) := oh fun V kv => norm24 zs z HZ.out a c V (HTR.out.at_.keep kv) HTR.out.zh (by have := HTR.out.few; have := HZ.out; omega)
   have HRN : Hid (∀ V, Kp wr V none → Calls Tryz.prog 25 #[.slice a z c] V (ZMoved V (Dl.norm (zs.map (·.h))))) := oh fun V kv => rnorm_any zs z HZ.out a c V (HTR.out.at_.keep kv) (fun t ht => (HTR.out.zh t ht).2.1) (by have := HTR.out.few; have := HZ.out; omega)
   have HNL : Hid (∀ us' : List HT, us'.map (·.h) = Dl.norm (zs.map (·.h)) → us'.length ≤ 11 ∧ ∀ t ∈ us', t.h.s.es.length ≤ 1000) := oh fun us' h => by
    refine ⟨by have e := congrArg List.length h; rw [Dl.norm_len, List.length_map, List.length_map] at e; have := HTR.out.few; omega, fun t ht => ?_⟩
    have h1 : t.h ∈ us'.map (·.h) := List.mem_map.2 ⟨t, ht, rfl⟩
    rw [h] at h1
    obtain ⟨u, hu, e⟩ := List.mem_map.1 ((Dl.sortB_perm Dl.ltH _).mem_iff.1 h1)
    rw [← e]; exact (HTR.out.zh u hu).2.1
   go_wp2_with fail
   clear x0
   refine (HWR.out _ (Kp.refl _ _)).mono ?_
   rintro E wa hwa; obtain ⟨rfl, ka⟩ := hwa
   obtain ⟨S, hS⟩ : ∃ S, (Dl.write (zs.map (·.h))).1 = S := ⟨_, rfl⟩
   obtain ⟨e, he⟩ : ∃ e, (Dl.write (zs.map (·.h))).2 = e := ⟨_, rfl⟩
   rw [hS, he]; have HS := oh hS; have HE := oh he; have KA := oh ka; clear hS he ka HWR; go_wp2_with fail
   refine (HRR.out _ KA.out).mono ?_
   rintro E wb hwb; obtain ⟨rfl, kb⟩ := hwb; rw [HS.out, HE.out]; have KB := oh (KA.out.trans kb)
   have n1 : (S == S) = true := by simp
   have n2 : (e != e) = false := by simp
   clear kb KA HS HE HRR; go_wp2_with fail
   refine (HNO.out _ KB.out).mono ?_
   rintro E wc ⟨us1, v1, hu1, rfl, ho1, hf1, kc⟩
   obtain ⟨o1, d1, rfl⟩ := own_slice ho1
   have KC := oh (KB.out.trans kc)
   have HA1 : Hid (HolesAt wc o1 d1 us1) := oh ⟨(own_lies (m := 6) (f := htC) (fun _ => rfl) ho1).2, fun t ht => (hf1 t ht).at⟩
   have HU1 := oh hu1
   obtain ⟨l1, hl1⟩ : ∃ l, us1.length = l := ⟨_, rfl⟩
   rw [hl1]; have HL1 := oh hl1; clear hu1 ho1 hf1 kc KB hl1 HNO; try go_wp2_with fail
   refine (HRN.out _ KC.out).mono ?_
   rintro E wd ⟨us2, v2, hu2, rfl, ho2, hf2, kd⟩
   obtain ⟨o2, d2, rfl⟩ := own_slice ho2
   have KD := oh (KC.out.trans kd)
   have HA2 : Hid (HolesAt wd o2 d2 us2) := oh ⟨(own_lies (m := 6) (f := htC) (fun _ => rfl) ho2).2, fun t ht => (hf2 t ht).at⟩
   have HSA : Hid (Calls Tryz.prog 17 #[.slice o1 l1 d1, .slice o2 us2.length d2] wd fun E w' => E = .returned (.bool true) ∧ Kp wd w' none) := oh (by
    have n3 := HNL.out us1 HU1.out
    have n4 := HNL.out us2 hu2
    have h := hsame_any us1 us2 l1 us2.length HL1.out rfl o1 o2 d1 d2 wd (HA1.out.keep kd) HA2.out (fun t ht => by have := n3.2 t ht; omega) (fun t ht => by have := n4.2 t ht; omega) (by have := n3.1; have := HL1.out; omega) (by have := n4.1; omega)
    rw [decide_eq_true (HU1.out.trans hu2.symm)] at h; exact h)
   obtain ⟨l2, hl2⟩ : ∃ l, us2.length = l := ⟨_, rfl⟩
   rw [hl2] at HSA ⊢; clear hu2 ho2 hf2 kd KC hl2 HA1 HA2 HU1 HL1 HNL HRN; try go_wp2_with fail
   refine HSA.out.mono ?_
   rintro E we ⟨rfl, k9⟩
   have KE := oh (HK.out.trans (KD.out.trans k9))
   clear k9 HSA KD
   have HREL : Hid (∃ k2 : Nat, k2 ≤ 3 ∧ Value.int .i64 ((k : Int) + 1) = I6 (k2 : Int) ∧ Hid (Kp w7 we none)) := oh ⟨k + 1, hlt, by go_num, KE⟩
   have HME : Hid (3 - (intOf (I6 ((k : Int) + 1))).toNat < 3 - (intOf (I6 (k : Int))).toNat) := oh (by simp [intOf]; omega)
   clear n1 n2; go_wp2_with fail
   first | exact ⟨HREL.out, HME.out⟩ | (go_roundw; all_goals first | exact HREL.out | exact HME.out)
  ·have hkq : k = 3 := by omega
   subst hkq
   have HKF : Hid (Kp w wr none) := oh (K7.out.trans HK.out)
   go_wp2_with fail
   go_ret
   exact ⟨rfl, HKF.out⟩
end Go.Proofs.YtljjbdbgedmadaaGreatDoor
