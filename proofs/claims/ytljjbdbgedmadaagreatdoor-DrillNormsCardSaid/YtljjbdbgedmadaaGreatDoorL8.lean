/- The law DrillNorms, run. Condition: lists of numbers that a machine holds. -/
import Derived.Test.YtljjbdbgedmadaaGreatDoorKs
import Derived.Test.YtljjbdbgedmadaaGreatDoorSn
import Derived.Test.YtljjbdbgedmadaaGreatDoorSd
namespace Go.Proofs.YtljjbdbgedmadaaGreatDoor
open Go.RowKit

theorem LiesRows.kept {w w' : World} {ao : Option Addr} {cap : Nat} {rows : List (List Int)} (h : LiesRows w ao cap rows) (k : Kp w w' none) : LiesRows w' ao cap rows := fun i hi => by
  obtain ⟨b, off, ra, rc, e, h1, h2, h3, h4, h5, h6⟩ := h i hi
  exact ⟨b, off, ra, rc, e, h1, Nat.lt_of_lt_of_le h2 k.size, (k.below.cell (p := ⟨b, off + i, none⟩) h2).trans h3, h4.keep k, h5, h6⟩
theorem tmod_nat (a b : Nat) : (a : Int).tmod (b : Int) = ((a % b : Nat) : Int) := by rw [Int.tmod_eq_emod_of_nonneg (by omega)]; simp
theorem fits_small {x : Int} (h1 : -4611686018427387904 ≤ x) (h2 : x ≤ 4611686018427387904) : Fits x := wrap_mid h1 h2
theorem zh_of {w : World} {t : HT} (hf : FineH t.h) (hl : LiesAt 7 edC w t.ea t.ec t.h.s.es) : ZH t := by
  obtain ⟨h1, h2, h3⟩ := hf
  obtain ⟨a1, a2, _⟩ := Dl.chkH_parts h1
  obtain ⟨b1, b2, _⟩ := Dl.chk_facts a1 a2
  refine ⟨fun h => ?_, by omega, fun e he => ?_⟩
  · obtain ⟨b, off, e, _⟩ := hl 0 (List.length_pos_iff.2 b1)
    rw [h] at e; cases e
  · have h := h3 e he
    unfold Pl.LimE Pl.Lim at h
    exact ⟨fits_small (by omega) (by omega), fits_small (by omega) (by omega), fits_small (by omega) (by omega), fits_small (by omega) (by omega), fits_small (by omega) (by omega), fits_small (by omega) (by omega)⟩
theorem lies_take {α : Type} {m : Nat} {f : α → List Value} {w : World} {b off cap k : Nat} {xs : List α} (hk : k ≤ xs.length) (h : LiesAt m f w (some ⟨b, off, none⟩) cap xs) : LiesAt m f w (some ⟨b, off, none⟩) cap (xs.take k) := fun i hi => by
  have hi2 : i < xs.length := by rw [List.length_take] at hi; omega
  obtain ⟨b', off', e, hb, hc, hr⟩ := h i hi2
  have eg : (xs.take k)[i] = xs[i] := List.getElem_take
  refine ⟨b', off', e, hb, by rw [List.length_take]; omega, fun j hj => ?_⟩
  simp only [eg] at hj ⊢
  exact hr j hj
theorem lies_drop {α : Type} {m : Nat} {f : α → List Value} {w : World} {b off cap k : Nat} {xs : List α} (hk : k ≤ xs.length) (h : LiesAt m f w (some ⟨b, off, none⟩) cap xs) : LiesAt m f w (some ⟨b, off + k * m, none⟩) (cap - k) (xs.drop k) := fun i hi => by
  have hi2 : k + i < xs.length := by rw [List.length_drop] at hi; omega
  obtain ⟨b', off', e, hb, hc, hr⟩ := h (k + i) hi2
  injection e with e
  injection e with e1 e2
  subst e1; subst e2
  have eg : (xs.drop k)[i] = xs[k + i] := List.getElem_drop
  refine ⟨b, off + k * m, rfl, hb, by rw [List.length_drop]; omega, fun j hj => ?_⟩
  simp only [eg] at hj ⊢
  have := hr j hj
  rw [Nat.add_mul] at this
  rw [show off + k * m + i * m + j = off + (k * m + i * m) + j by omega]
  exact this
theorem turned_ht (ts : List HT) (k : Nat) : (ts.drop k ++ ts.take k).map (·.h) = Dl.turned (ts.map (·.h)) k := by
  unfold Dl.turned
  rw [List.map_append, List.map_drop, List.map_take]
theorem norm_fine {us : List HT} {l : List Dl.Ho} (hu : us.map (·.h) = Dl.norm l) (hl : ∀ h ∈ l, FineH h) : ∀ t ∈ us, FineH t.h := fun t ht => by
  have h1 : t.h ∈ us.map (·.h) := List.mem_map.2 ⟨t, ht, rfl⟩
  rw [hu] at h1
  exact hl _ ((Dl.sortB_perm Dl.ltH l).mem_iff.1 h1)
/-- One hole alone, as SameHoles takes it. -/
theorem hole_one {w : World} (t : HT) (h : LiesAt 7 edC w t.ea t.ec t.h.s.es) : HolesAt (w.alloc (Obj.cells #[.int .i64 t.h.s.k, .slice t.ea t.h.s.es.length t.ec, .int .i64 t.h.s.r, .int .i64 t.h.f, .int .i64 t.h.t, .bool t.h.pl] 52)) (some ⟨w.heap.size, 0, none⟩) 1 [t] :=
  ⟨(hole_list t).lies, fun u hu => by rw [List.mem_singleton.1 hu]; exact h.keep ((Kp.refl w none).alloc _)⟩
theorem same_one {x y : HT} {xa ya : Option Addr} {xc yc : Nat} {w : World} (hx : HolesAt w xa xc [x]) (hy : HolesAt w ya yc [y]) (fx : FineH x.h) (fy : FineH y.h) : Calls Tryz.prog 17 #[.slice xa 1 xc, .slice ya 1 yc] w fun E w' => E = .returned (.bool (decide (x.h = y.h))) ∧ Kp w w' none := by
  have h := hsame_any [x] [y] 1 1 rfl rfl xa ya xc yc w hx hy (fun z hz => by rw [List.mem_singleton.1 hz]; have := fx.2.1; omega) (fun z hz => by rw [List.mem_singleton.1 hz]; have := fy.2.1; omega) (by omega) (by omega)
  simpa using h
set_option maxHeartbeats 16000000 in
set_option maxRecDepth 100000 in
theorem norms_any (rows : List (List Int)) (n : Nat) (hn : rows.length = n) (ao : Option Addr) (cap : Nat) (tu : Nat) (htu : tu < 256) (w : World) (he : Env w) (hl : LiesRows w ao cap rows) : Calls Tryz.prog 8 #[.slice ao n cap, .int .u8 (tu : Int)] w fun E w' => E = .returned (.bool true) ∧ Kp w w' none := by
  have HSN : Hid (∀ V, Kp w V none → _) := Lib.hid (fun V k => sanity_any V (he.kp0 k))
  have HMD : Hid (∀ V, Kp w V none → Calls Tryz.prog 12 #[.slice ao n cap] V (DrewHs V)) := Lib.hid fun V k => made12_any rows n hn ao cap V (hl.kept k)
  clear he hl hn
  go_enter Tryz.func8, Tryz.ntmps8
  go_wp2_with fail
  refine (HSN.out _ (Kp.refl w none)).mono ?_
  rintro E w1 ⟨rfl, k1⟩
  have K1 := Lib.hid k1
  clear k1
  go_wp2_with fail
  refine (HMD.out _ K1.out).mono ?_
  rintro E w2 ⟨ts, bo, cb, hfine, h6, rfl, hh, _, hfr2, k2⟩
  have K2 := Lib.hid (K1.out.trans k2)
  have HL := Lib.hid hh
  have HF := Lib.hid hfine
  obtain ⟨q, hq⟩ : ∃ q, ts.length = q := ⟨_, rfl⟩
  rw [hq] at h6 hfr2 ⊢
  have HQ := Lib.hid hq
  have H6 := Lib.hid h6
  have HCB := Lib.hid hfr2.1
  clear hh hfine hq h6 hfr2 k2 K1 HSN HMD
  rcases Nat.eq_zero_or_pos q with h0 | h0
  · subst h0
    go_upto_region 4 with fail
    go_wp2_with fail
    refine (norm24 [] 0 rfl none 0 _ ⟨fun i hi => absurd hi (by simp), fun t ht => absurd ht (by simp)⟩ (fun t ht => absurd ht (by simp)) (by omega)).mono ?_
    rintro E w3 ⟨us, v, hus, rfl, ho, _, k3⟩
    have hu0 : us = [] := by
      have h := congrArg List.length hus
      rw [Dl.norm_len] at h
      simpa using h
    subst hu0
    obtain ⟨ua, uc, rfl⟩ := own_slice ho
    have K3 := Lib.hid (K2.out.trans k3)
    clear hus ho k3
    go_wp2_with fail
    go_ret
    exact ⟨rfl, K3.out⟩
  · obtain ⟨b, off, rfl⟩ : ∃ b off, bo = some ⟨b, off, none⟩ := by
      obtain ⟨b, off, e, _⟩ := HL.out.1 0 (by rw [HQ.out]; exact h0)
      exact ⟨b, off, e⟩
    obtain ⟨kk, hkk⟩ : ∃ k, tu % q = k := ⟨_, rfl⟩
    have hkq : kk < q := by rw [← hkk]; exact Nat.mod_lt _ h0
    have hmod : (tu : Int).tmod (q : Int) = (kk : Int) := by rw [← hkk]; exact tmod_nat tu q
    have hqz : ((q : Int) == 0) = false := beq_eq_false_iff_ne.2 (by omega)
    have HKQ := Lib.hid hkq
    clear hkk
    go_upto_region 6 with fail
    clear hmod hqz
    have hk0 : (0 : Int) ≤ (kk : Int) := Int.natCast_nonneg _
    have hk1 : (kk : Int) ≤ (q : Int) := by omega
    have hk2 : kk ≤ q := by omega
    have hq1 : (q : Int) ≤ (cb : Int) := by have := HCB.out; omega
    have hq2 : q ≤ cb := HCB.out
    have hk3 : (kk : Int) ≤ (cb : Int) := by omega
    have hk4 : kk ≤ cb := by omega
    have hkc : (cb = kk) = False := eq_false (by omega)
    obtain ⟨i0, hi, hz0, hz1, hz2⟩ := info_parts infoHole
    refine wp_region_held_drew (S := fun V => Hid (Kp w2 V none)) (by kernel_rfl) (Lib.hid (Kp.refl w2 none).drew) (fun hHeld => ?_)
    refine tkH 1 rfl ?_
    try simp only [Act.put, sm]
    refine tkH 2 rfl ?_
    try simp only [Act.put, sm]
    refine tkH 3 rfl ?_
    try simp only [Act.put, sm]
    refine tkH 5 rfl ?_
    try simp only [Act.put, sm]
    refine tkH 6 rfl ?_
    try simp only [Act.put, sm]
    refine tkH 7 rfl ?_
    try simp only [Act.put, sm]
    refine wpAnyH_ready (rs := [0]) (by kernel_rfl) (by simp) ?_
    refine AllReadyH.cons (o := _) rfl (fun K hK => ?_) AllReadyH.nil
    have KS1 := Lib.hid ((Kp.refl w2 none).drew.alloc (.cells #[] 52))
    have HO1 : Hid ((w2.drew.alloc (.cells #[] 52)).ownsRow w2.heap.size 52 6 (.slice (some ⟨w2.heap.size, 0, none⟩) 0 0) 0 []) := Lib.hid (World.ownsRow_made w2.drew #[] 0 (Nat.le_refl _) (by unfold maxLen; omega) rfl)
    clear hHeld
    go_simp
    refine hK _ _ (Lib.hid KS1.out) (fun hHeld => ?_)
    clear hK K
    try simp only [Act.put, sm]
    refine wpAnyH_ready (rs := [4]) (by kernel_rfl) (by simp) ?_
    refine AllReadyH.cons (o := _) rfl (fun K hK => ?_) AllReadyH.nil
    clear hHeld
    refine step_app (f := htC) rfl (.tmp 34) (.tmp 37) w2.heap.size 30 52 rfl i0 _ 6 64 Tryz.underlying30 hi hz0 hz1 hz2 rfl (by omega) (fun _ => rfl) ht_one _ 0 [] rfl HO1.out _ (ts.drop kk) rfl (by have h := (lies_drop (k := kk) (by rw [HQ.out]; exact hk2) (HL.out.1.keep KS1.out)).list; rw [List.length_drop, HQ.out] at h; exact h) (by rw [List.length_drop, HQ.out]; have := H6.out; unfold maxLen; omega) (by rw [List.length_drop, HQ.out]; have := H6.out; omega) KS1.out.size ?_
    intro v2 w3 ho hg hb
    obtain ⟨va, vc, rfl⟩ := own_slice ho
    have KS2 := Lib.hid (Kp.row KS1.out hg (fun x hx => (HO1.out.lt x hx).1))
    have HO2 := Lib.hid ho
    clear ho hg hb
    try simp only [Act.put, sm]
    refine hK _ _ (Lib.hid KS2.out) (fun hHeld => ?_)
    clear hK K KS1 HO1
    refine wpAnyH_ready (rs := [8]) (by kernel_rfl) (by simp) ?_
    refine AllReadyH.cons (o := _) rfl (fun K hK => ?_) AllReadyH.nil
    clear hHeld
    refine step_app (f := htC) rfl (.tmp 38) (.tmp 41) w2.heap.size 30 52 rfl i0 _ 6 64 Tryz.underlying30 hi hz0 hz1 hz2 rfl (by omega) (fun _ => rfl) ht_one _ _ _ rfl HO2.out _ (ts.take kk) rfl (by have h := (lies_take (k := kk) (by rw [HQ.out]; exact hk2) (HL.out.1.keep KS2.out)).list; rw [List.length_take, HQ.out, Nat.min_eq_left hk2] at h; exact h) (by rw [List.length_drop, List.length_take, HQ.out]; have := H6.out; unfold maxLen; omega) (by rw [List.length_drop, List.length_take, HQ.out]; have := H6.out; omega) KS2.out.size ?_
    intro v4 w4 ho hg hb
    have hnl : 0 + (ts.drop kk).length + (ts.take kk).length = q := by rw [List.length_drop, List.length_take, HQ.out]; omega
    rw [hnl] at ho
    obtain ⟨va4, vc4, rfl⟩ := own_slice ho
    have KS4 := Lib.hid (Kp.row KS2.out hg (fun x hx => (HO2.out.lt x hx).1))
    have HO4 : Hid (w4.ownsRow w2.heap.size 52 6 (.slice va4 q vc4) q ((ts.drop kk ++ ts.take kk).flatMap htC)) := Lib.hid (by rw [List.flatMap_append]; simpa using ho)
    clear ho hg hb
    try simp only [Act.put, sm]
    refine hK _ _ (Lib.hid KS4.out) (fun hHeld => ?_)
    clear hK K KS2 HO2
    refine wpAnyH_ready (rs := [9]) (by kernel_rfl) (by simp) ?_
    refine AllReadyH.cons (o := _) rfl (fun K hK => ?_) AllReadyH.nil
    clear hHeld
    go_simp
    refine hK _ _ (Lib.hid KS4.out) (fun hHeld => ?_)
    clear hK K hHeld
    try simp only [Act.put, sm]
    refine wpAnyH_done (by kernel_rfl) ?_ _
    obtain ⟨tt, htt⟩ : ∃ t, ts.drop kk ++ ts.take kk = t := ⟨_, rfl⟩
    have hlt : tt.length = q := by rw [← htt, List.length_append]; omega
    have HTU : Hid (tt.map (·.h) = Dl.turned (ts.map (·.h)) kk) := Lib.hid (by rw [← htt]; exact turned_ht ts kk)
    have HTM : Hid (∀ t ∈ tt, t ∈ ts) := Lib.hid (fun t ht => by rw [← htt] at ht; rcases List.mem_append.1 ht with h | h; exact List.mem_of_mem_drop h; exact List.mem_of_mem_take h)
    rw [htt] at HO4
    have HHT : Hid (HolesAt w4 va4 vc4 tt) := Lib.hid ⟨(own_lies (m := 6) (f := htC) (fun _ => rfl) (by rw [hlt]; exact HO4.out)).2, fun t ht => (HL.out.2 t (HTM.out t ht)).keep KS4.out⟩
    have HNM : Hid (∀ V, Kp w4 V none → Calls Tryz.prog 24 #[.slice va4 q vc4] V (ZMoved V (Dl.norm (Dl.turned (ts.map (·.h)) kk)))) := Lib.hid fun V kv => by
      rw [← HTU.out]
      exact norm24 tt q hlt va4 vc4 V (HHT.out.keep kv) (fun t ht => zh_of (HF.out t (HTM.out t ht)) ((HHT.out.2 t ht).keep kv)) (by have := H6.out; omega)
    have HL4 := Lib.hid (HL.out.keep KS4.out)
    have K4 := Lib.hid (K2.out.trans KS4.out)
    obtain ⟨lt, hlt2⟩ : ∃ l, Dl.turned (ts.map (·.h)) kk = l := ⟨_, rfl⟩
    have HLT : Hid (∀ h ∈ lt, FineH h) := Lib.hid (fun h hh => by rw [← hlt2] at hh; obtain ⟨t, ht, rfl⟩ := List.mem_map.1 ((Dl.turned_perm _ kk).mem_iff.1 hh); exact HF.out t ht)
    have HCN : Hid (∀ p : Dl.Ho → Bool, (Dl.norm lt).countP p = (ts.map (·.h)).countP p) := Lib.hid (fun p => by rw [← hlt2]; exact Dl.turned_count p _ kk)
    have HLL : Hid (lt.length = q) := Lib.hid (by rw [← hlt2, Dl.turned_len, List.length_map, HQ.out])
    rw [hlt2] at HNM
    clear htt hlt hlt2 HTM HHT HTU HO4 hnl KS4 HL K2 hk0 hk1 hk2 hk3 hk4 hkc hq1 hq2
    go_wp2_with fail
    refine (HNM.out _ (Kp.refl _ _)).mono ?_
    rintro E w5 ⟨us, v, hus, rfl, ho, hoff, k5⟩
    have hul : us.length = q := by rw [← HLL.out, ← Dl.norm_len, ← hus, List.length_map]
    rw [hul] at ho
    obtain ⟨ua, uc, rfl⟩ := own_slice ho
    have HU : Hid (HolesAt w5 ua uc us) := Lib.hid ⟨(own_lies (m := 6) (f := htC) (fun _ => rfl) (by rw [hul]; exact ho)).2, fun t ht => (hoff t ht).at⟩
    have HUS := Lib.hid hus
    have HUL := Lib.hid hul
    have HUF : Hid (∀ t ∈ us, FineH t.h) := Lib.hid (norm_fine hus HLT.out)
    have K5 := Lib.hid (K4.out.trans k5)
    have HL5 := Lib.hid (HL4.out.keep k5)
    have HN2 : Hid (∀ V, Kp w5 V none → Calls Tryz.prog 24 #[.slice ua q uc] V (ZMoved V (us.map (·.h)))) := Lib.hid fun V kv => by
      have h := norm24 us q hul ua uc V (HU.out.keep kv) (fun t ht => zh_of (HUF.out t ht) ((HU.out.2 t ht).keep kv)) (by have := H6.out; omega)
      rw [hus, Dl.norm_norm] at h
      rw [hus]; exact h
    clear hus ho hoff k5 hul HNM K4 HL4
    go_wp2_with fail
    refine (HN2.out _ (Kp.refl _ _)).mono ?_
    rintro E w6 ⟨vs, v, hvs, rfl, ho, hoff, k6⟩
    have hvl : vs.length = q := by rw [← HUL.out, ← List.length_map (f := fun t : HT => t.h), hvs, List.length_map]
    rw [hvl] at ho
    obtain ⟨va, vc, rfl⟩ := own_slice ho
    have HSA : Hid (Calls Tryz.prog 17 #[.slice va q vc, .slice ua q uc] w6 fun E w' => E = .returned (.bool true) ∧ Kp w6 w' none) := Lib.hid (by
      have h := hsame_any vs us q q hvl HUL.out va ua vc uc w6 ⟨(own_lies (m := 6) (f := htC) (fun _ => rfl) (by rw [hvl]; exact ho)).2, fun t ht => (hoff t ht).at⟩ (HU.out.keep k6) (fun z hz => by have h1 : z.h ∈ vs.map (·.h) := List.mem_map.2 ⟨z, hz, rfl⟩; rw [hvs] at h1; obtain ⟨t, ht, e⟩ := List.mem_map.1 h1; have := (HUF.out t ht).2.1; rw [e] at this; omega) (fun z hz => by have := (HUF.out z hz).2.1; omega) (by have := H6.out; omega) (by have := H6.out; omega)
      rw [decide_eq_true hvs] at h; exact h)
    have K6 := Lib.hid (K5.out.trans k6)
    have HU6 := Lib.hid (HU.out.keep k6)
    have HL6 := Lib.hid (HL5.out.keep k6)
    clear hvs ho hoff k6 hvl HN2 HU HL5 K5
    try go_wp2_with fail
    refine HSA.out.mono ?_
    rintro E w7 ⟨rfl, k7⟩
    have K7 := Lib.hid (K6.out.trans k7)
    have HU7 := Lib.hid (HU6.out.keep k7)
    have HL7 := Lib.hid (HL6.out.keep k7)
    clear k7 HSA K6 HU6 HL6
    have hqq : ((q : Int) != (q : Int)) = false := by simp
    go_wp2_with fail
    clear hqq
    go_loopw [59] (fun i wr => ∃ k : Nat, k ≤ q ∧ i = .int .i64 (k : Int) ∧ Hid (Kp w7 wr none)) (fun i _ => q - (intOf i).toNat)
    case atStart => exact ⟨0, Nat.zero_le _, rfl, Lib.hid (Kp.refl _ _)⟩
    case round =>
      obtain ⟨k, hk, rfl, HK⟩ := hrel
      have hk0 : (0 : Int) ≤ (k : Int) := Int.natCast_nonneg _
      by_cases hlt : k < q
      · have hk1 : (k : Int) < (q : Int) := by omega
        have hku : k < us.length := by rw [HUL.out]; exact hlt
        obtain ⟨ub, uo, rfl, hcap, hbs, hcx⟩ := HU7.out.ho (k := k) hku
        have hqc : q ≤ uc := by have := HUL.out; omega
        obtain ⟨x, hx⟩ : ∃ x, us[k] = x := ⟨_, rfl⟩
        have HXE : Hid (x ∈ us) := Lib.hid (by rw [← hx]; exact List.getElem_mem hku)
        have HXK : Hid (us[k]? = some x) := Lib.hid (by rw [← hx]; exact List.getElem?_eq_getElem hku)
        rw [hx] at hcx
        have HEX : Hid (∀ V, Kp w7 V none → LiesAt 7 edC V x.ea x.ec x.h.s.es) := Lib.hid fun V kv => (HU7.out.2 x HXE.out).keep kv
        have HFX := Lib.hid (HUF.out x HXE.out)
        obtain ⟨y0, y1, y2, y3, y4, y5⟩ := hcx wr HK.out
        clear hx hcx hcap
        obtain ⟨xn, hxn⟩ : ∃ n, x.h.s.es.length = n := ⟨_, rfl⟩
        rw [hxn] at y1
        go_upto_region 13 with fail
        clear y0 y1 y2 y3 y4 y5
        have HB0 := Lib.hid (heap_alloc_new wr (.cells #[.int .i64 x.h.s.k, .slice x.ea xn x.ec, .int .i64 x.h.s.r, .int .i64 x.h.f, .int .i64 x.h.t, .bool x.h.pl] 52))
        obtain ⟨B, hB⟩ : ∃ B, wr.heap.size = B := ⟨_, rfl⟩
        have KX : Hid (Kp w7 (wr.alloc (.cells #[.int .i64 x.h.s.k, .slice x.ea xn x.ec, .int .i64 x.h.s.r, .int .i64 x.h.f, .int .i64 x.h.t, .bool x.h.pl] 52)) none) := Lib.hid (HK.out.alloc _)
        generalize wr.alloc (.cells #[.int .i64 x.h.s.k, .slice x.ea xn x.ec, .int .i64 x.h.s.r, .int .i64 x.h.f, .int .i64 x.h.t, .bool x.h.pl] 52) = wx at *
        rw [hB] at HB0 ⊢
        clear hB
        go_upto_region 15 with fail
        go_loopw [12, 66] (fun c i wr => ∃ j : Nat, j ≤ q ∧ i = .int .i64 (j : Int) ∧ c = .int .i64 ((((((ts.map (·.h)).take j).countP (fun z => decide (x.h = z))) : Nat) : Int)) ∧ Hid (Kp wx wr none)) (fun _ i _ => q - (intOf i).toNat)
        case atStart => exact ⟨0, Nat.zero_le _, rfl, by simp, Lib.hid (Kp.refl _ _)⟩
        case round =>
          obtain ⟨j, hj, rfl, rfl, HKJ⟩ := hrel
          have hj0 : (0 : Int) ≤ (j : Int) := Int.natCast_nonneg _
          by_cases hjlt : j < q
          · have hj1 : (j : Int) < (q : Int) := by omega
            have hjl : j < ts.length := by rw [HQ.out]; exact hjlt
            obtain ⟨gb, go', hgo, hcap, hbs, hcx⟩ := HL7.out.ho (k := j) hjl
            obtain ⟨y, hy⟩ : ∃ y, ts[j] = y := ⟨_, rfl⟩
            have HYE : Hid (y ∈ ts) := Lib.hid (by rw [← hy]; exact List.getElem_mem hjl)
            have HCT : Hid (((ts.map (·.h)).take (j + 1)).countP (fun z => decide (x.h = z)) = ((ts.map (·.h)).take j).countP (fun z => decide (x.h = z)) + if decide (x.h = y.h) then 1 else 0) := Lib.hid (by
              have h := Dl.count_take (fun z => decide (x.h = z)) (l := ts.map (·.h)) (k := j) (by rw [List.length_map]; exact hjl)
              rw [List.getElem_map, hy] at h; exact h)
            injection hgo with hgo
            injection hgo with g1 g2
            subst g1; subst g2
            have hqcl : q ≤ cb := by have := HQ.out; omega
            rw [hy] at hcx
            have HEY : Hid (∀ V, Kp w7 V none → LiesAt 7 edC V y.ea y.ec y.h.s.es) := Lib.hid fun V kv => (HL7.out.2 y HYE.out).keep kv
            have HFY := Lib.hid (HF.out y HYE.out)
            have HK7 : Hid (Kp w7 wr none) := Lib.hid (KX.out.trans HKJ.out)
            obtain ⟨y0, y1, y2, y3, y4, y5⟩ := hcx wr HK7.out
            obtain ⟨yn, hyn⟩ : ∃ n, y.h.s.es.length = n := ⟨_, rfl⟩
            rw [hyn] at y1
            have HB1 := Lib.hid (blk HB0.out HKJ.out)
            clear hy hcx hcap
            go_upto_region 17 with fail
            clear y0 y1 y2 y3 y4 y5
            have HB2 := Lib.hid (blk HB1.out ((Kp.refl wr none).alloc (.cells #[.int .i64 y.h.s.k, .slice y.ea yn y.ec, .int .i64 y.h.s.r, .int .i64 y.h.f, .int .i64 y.h.t, .bool y.h.pl] 52)))
            have HY2 := Lib.hid (heap_alloc_new wr (.cells #[.int .i64 y.h.s.k, .slice y.ea yn y.ec, .int .i64 y.h.s.r, .int .i64 y.h.f, .int .i64 y.h.t, .bool y.h.pl] 52))
            have KJ2 : Hid (Kp wx (wr.alloc (.cells #[.int .i64 y.h.s.k, .slice y.ea yn y.ec, .int .i64 y.h.s.r, .int .i64 y.h.f, .int .i64 y.h.t, .bool y.h.pl] 52)) none) := Lib.hid (HKJ.out.alloc _)
            obtain ⟨C, hC⟩ : ∃ C, wr.heap.size = C := ⟨_, rfl⟩
            generalize wr.alloc (.cells #[.int .i64 y.h.s.k, .slice y.ea yn y.ec, .int .i64 y.h.s.r, .int .i64 y.h.f, .int .i64 y.h.t, .bool y.h.pl] 52) = wy at *
            rw [hC] at HY2 ⊢
            clear hC
            have a0 := hcell HB2.out 0 rfl
            have a1 := hcell HB2.out 1 rfl
            have a2 := hcell HB2.out 2 rfl
            have a3 := hcell HB2.out 3 rfl
            have a4 := hcell HB2.out 4 rfl
            have a5 := hcell HB2.out 5 rfl
            have kx1 := (Kp.refl wy none).alloc (.cells #[.int .i64 x.h.s.k, .slice x.ea xn x.ec, .int .i64 x.h.s.r, .int .i64 x.h.f, .int .i64 x.h.t, .bool x.h.pl] 52)
            have e0 := hcell (blk HY2.out kx1) 0 rfl
            have e1 := hcell (blk HY2.out kx1) 1 rfl
            have e2 := hcell (blk HY2.out kx1) 2 rfl
            have e3 := hcell (blk HY2.out kx1) 3 rfl
            have e4 := hcell (blk HY2.out kx1) 4 rfl
            have e5 := hcell (blk HY2.out kx1) 5 rfl
            have KW7 : Hid (Kp w7 wy none) := Lib.hid (KX.out.trans KJ2.out)
            have HX1 : Hid (HolesAt ((wy.alloc (.cells #[.int .i64 x.h.s.k, .slice x.ea xn x.ec, .int .i64 x.h.s.r, .int .i64 x.h.f, .int .i64 x.h.t, .bool x.h.pl] 52)).alloc (.cells #[.int .i64 y.h.s.k, .slice y.ea yn y.ec, .int .i64 y.h.s.r, .int .i64 y.h.f, .int .i64 y.h.t, .bool y.h.pl] 52)) (some ⟨wy.heap.size, 0, none⟩) 1 [x]) := Lib.hid (by rw [← hxn]; exact (hole_one x (HEX.out _ KW7.out)).keep ((Kp.refl _ none).alloc _))
            have HY1 : Hid (HolesAt ((wy.alloc (.cells #[.int .i64 x.h.s.k, .slice x.ea xn x.ec, .int .i64 x.h.s.r, .int .i64 x.h.f, .int .i64 x.h.t, .bool x.h.pl] 52)).alloc (.cells #[.int .i64 y.h.s.k, .slice y.ea yn y.ec, .int .i64 y.h.s.r, .int .i64 y.h.f, .int .i64 y.h.t, .bool y.h.pl] 52)) (some ⟨wy.heap.size + 1, 0, none⟩) 1 [y]) := Lib.hid (by
              have h := hole_one (w := wy.alloc (.cells #[.int .i64 x.h.s.k, .slice x.ea xn x.ec, .int .i64 x.h.s.r, .int .i64 x.h.f, .int .i64 x.h.t, .bool x.h.pl] 52)) y (HEY.out _ (KW7.out.alloc _))
              rw [hyn] at h; simpa using h)
            have KJ3 : Hid (Kp wx ((wy.alloc (.cells #[.int .i64 x.h.s.k, .slice x.ea xn x.ec, .int .i64 x.h.s.r, .int .i64 x.h.f, .int .i64 x.h.t, .bool x.h.pl] 52)).alloc (.cells #[.int .i64 y.h.s.k, .slice y.ea yn y.ec, .int .i64 y.h.s.r, .int .i64 y.h.f, .int .i64 y.h.t, .bool y.h.pl] 52)) none) := Lib.hid ((KJ2.out.alloc _).alloc _)
            clear kx1
            go_wp2_with fail
            clear a0 a1 a2 a3 a4 a5 e0 e1 e2 e3 e4 e5
            refine (same_one HX1.out HY1.out HFX.out HFY.out).mono ?_
            rintro E w8 ⟨rfl, k8⟩
            have KJ8 := Lib.hid (KJ3.out.trans k8)
            clear k8 HX1 HY1 KJ3
            have HME : Hid (q - (intOf (.int .i64 ((j : Int) + 1))).toNat < q - (intOf (.int .i64 (j : Int))).toNat) := Lib.hid (by simp [intOf]; omega)
            obtain ⟨c, hc⟩ : ∃ c, ((ts.map (·.h)).take j).countP (fun z => decide (x.h = z)) = c := ⟨_, rfl⟩
            have HCL : Hid (c ≤ 6) := Lib.hid (by
              have h1 := List.countP_le_length (p := fun z => decide (x.h = z)) (l := (ts.map (·.h)).take j)
              rw [List.length_take] at h1; have := H6.out; omega)
            rw [hc] at HCT ⊢
            have hcl := HCL.out
            have hj6 : (j : Int) ≤ 6 := by have := H6.out; omega
            clear hc
            by_cases hxy : x.h = y.h
            · have hd : decide (x.h = y.h) = true := decide_eq_true hxy
              rw [hd] at HCT ⊢
              have HREL : Hid (∃ j2 : Nat, j2 ≤ q ∧ Value.int .i64 ((j : Int) + 1) = .int .i64 (j2 : Int) ∧ Value.int .i64 (((c : Nat) : Int) + 1) = .int .i64 ((((((ts.map (·.h)).take j2).countP (fun z => decide (x.h = z))) : Nat) : Int)) ∧ Hid (Kp wx w8 none)) := Lib.hid ⟨j + 1, hjlt, by go_num, by rw [HCT.out]; first | rfl | (congr 1; simp; done) | (congr 1; simp; omega), KJ8⟩
              clear hd hxy
              go_wp2_with fail
              first | exact ⟨HREL.out, HME.out⟩ | (go_roundw; all_goals first | exact HREL.out | exact HME.out) | (refine ⟨?_, HME.out⟩; (repeat apply Exists.intro); exact ⟨HREL.out, rfl⟩)
            · have hd : decide (x.h = y.h) = false := decide_eq_false hxy
              rw [hd] at HCT ⊢
              have HREL : Hid (∃ j2 : Nat, j2 ≤ q ∧ Value.int .i64 ((j : Int) + 1) = .int .i64 (j2 : Int) ∧ Value.int .i64 (((c : Nat) : Int)) = .int .i64 ((((((ts.map (·.h)).take j2).countP (fun z => decide (x.h = z))) : Nat) : Int)) ∧ Hid (Kp wx w8 none)) := Lib.hid ⟨j + 1, hjlt, by go_num, by rw [HCT.out]; simp, KJ8⟩
              clear hd hxy
              go_wp2_with fail
              first | exact ⟨HREL.out, HME.out⟩ | (go_roundw; all_goals first | exact HREL.out | exact HME.out) | (refine ⟨?_, HME.out⟩; (repeat apply Exists.intro); exact ⟨HREL.out, rfl⟩)
          · obtain rfl : q = j := by omega
            have HKE := Lib.hid HKJ.out
            clear HKJ
            obtain ⟨m, hm⟩ : ∃ m, (ts.map (·.h)).countP (fun z => decide (x.h = z)) = m := ⟨_, rfl⟩
            have hall : (ts.map (·.h)).take q = ts.map (·.h) := List.take_of_length_le (by rw [List.length_map, HQ.out]; exact Nat.le_refl _)
            rw [hall, hm]
            have HM := Lib.hid hm
            have HM6 : Hid (m ≤ 6) := Lib.hid (by rw [← hm]; have h1 := List.countP_le_length (p := fun z => decide (x.h = z)) (l := ts.map (·.h)); rw [List.length_map, HQ.out] at h1; have := H6.out; omega)
            obtain ⟨wz, hwz⟩ : ∃ W, wr = W := ⟨_, rfl⟩
            rw [hwz] at HKE ⊢
            clear hwz
            have KX2 := Lib.hid (KX.out.trans HKE.out)
            have HB9 := Lib.hid (blk HB0.out HKE.out)
            have HB0 := HB9
            have KX := KX2
            clear hm hall HKE HB9 KX2
            go_upto_region 21 with fail
            go_loopw [12, 80] (fun c i wr => ∃ j : Nat, j ≤ q ∧ i = .int .i64 (j : Int) ∧ c = .int .i64 ((m : Int) - (((((us.map (·.h)).take j).countP (fun z => decide (x.h = z))) : Nat) : Int)) ∧ Hid (Kp wz wr none)) (fun _ i _ => q - (intOf i).toNat)
            case atStart => exact ⟨0, Nat.zero_le _, rfl, by simp, Lib.hid (Kp.refl _ _)⟩
            case round =>
              obtain ⟨j, hj, rfl, rfl, HKJ⟩ := hrel
              have hj0 : (0 : Int) ≤ (j : Int) := Int.natCast_nonneg _
              by_cases hjlt : j < q
              · have hj1 : (j : Int) < (q : Int) := by omega
                have hjl : j < us.length := by rw [HUL.out]; exact hjlt
                obtain ⟨gb, go', hgo, hcap, hbs, hcx⟩ := HU7.out.ho (k := j) hjl
                obtain ⟨y, hy⟩ : ∃ y, us[j] = y := ⟨_, rfl⟩
                have HYE : Hid (y ∈ us) := Lib.hid (by rw [← hy]; exact List.getElem_mem hjl)
                have HCT : Hid (((us.map (·.h)).take (j + 1)).countP (fun z => decide (x.h = z)) = ((us.map (·.h)).take j).countP (fun z => decide (x.h = z)) + if decide (x.h = y.h) then 1 else 0) := Lib.hid (by
                  have h := Dl.count_take (fun z => decide (x.h = z)) (l := us.map (·.h)) (k := j) (by rw [List.length_map]; exact hjl)
                  rw [List.getElem_map, hy] at h; exact h)
                injection hgo with hgo
                injection hgo with g1 g2
                subst g1; subst g2
                have hqcl : q ≤ uc := by have := HUL.out; omega
                rw [hy] at hcx
                have HEY : Hid (∀ V, Kp w7 V none → LiesAt 7 edC V y.ea y.ec y.h.s.es) := Lib.hid fun V kv => (HU7.out.2 y HYE.out).keep kv
                have HFY := Lib.hid (HUF.out y HYE.out)
                have HK7 : Hid (Kp w7 wr none) := Lib.hid (KX.out.trans HKJ.out)
                obtain ⟨y0, y1, y2, y3, y4, y5⟩ := hcx wr HK7.out
                obtain ⟨yn, hyn⟩ : ∃ n, y.h.s.es.length = n := ⟨_, rfl⟩
                rw [hyn] at y1
                have HB1 := Lib.hid (blk HB0.out HKJ.out)
                clear hy hcx hcap
                go_upto_region 23 with fail
                clear y0 y1 y2 y3 y4 y5
                have HB2 := Lib.hid (blk HB1.out ((Kp.refl wr none).alloc (.cells #[.int .i64 y.h.s.k, .slice y.ea yn y.ec, .int .i64 y.h.s.r, .int .i64 y.h.f, .int .i64 y.h.t, .bool y.h.pl] 52)))
                have HY2 := Lib.hid (heap_alloc_new wr (.cells #[.int .i64 y.h.s.k, .slice y.ea yn y.ec, .int .i64 y.h.s.r, .int .i64 y.h.f, .int .i64 y.h.t, .bool y.h.pl] 52))
                have KJ2 : Hid (Kp wz (wr.alloc (.cells #[.int .i64 y.h.s.k, .slice y.ea yn y.ec, .int .i64 y.h.s.r, .int .i64 y.h.f, .int .i64 y.h.t, .bool y.h.pl] 52)) none) := Lib.hid (HKJ.out.alloc _)
                obtain ⟨C, hC⟩ : ∃ C, wr.heap.size = C := ⟨_, rfl⟩
                generalize wr.alloc (.cells #[.int .i64 y.h.s.k, .slice y.ea yn y.ec, .int .i64 y.h.s.r, .int .i64 y.h.f, .int .i64 y.h.t, .bool y.h.pl] 52) = wy at *
                rw [hC] at HY2 ⊢
                clear hC
                have a0 := hcell HB2.out 0 rfl
                have a1 := hcell HB2.out 1 rfl
                have a2 := hcell HB2.out 2 rfl
                have a3 := hcell HB2.out 3 rfl
                have a4 := hcell HB2.out 4 rfl
                have a5 := hcell HB2.out 5 rfl
                have kx1 := (Kp.refl wy none).alloc (.cells #[.int .i64 x.h.s.k, .slice x.ea xn x.ec, .int .i64 x.h.s.r, .int .i64 x.h.f, .int .i64 x.h.t, .bool x.h.pl] 52)
                have e0 := hcell (blk HY2.out kx1) 0 rfl
                have e1 := hcell (blk HY2.out kx1) 1 rfl
                have e2 := hcell (blk HY2.out kx1) 2 rfl
                have e3 := hcell (blk HY2.out kx1) 3 rfl
                have e4 := hcell (blk HY2.out kx1) 4 rfl
                have e5 := hcell (blk HY2.out kx1) 5 rfl
                have KW7 : Hid (Kp w7 wy none) := Lib.hid (KX.out.trans KJ2.out)
                have HX1 : Hid (HolesAt ((wy.alloc (.cells #[.int .i64 x.h.s.k, .slice x.ea xn x.ec, .int .i64 x.h.s.r, .int .i64 x.h.f, .int .i64 x.h.t, .bool x.h.pl] 52)).alloc (.cells #[.int .i64 y.h.s.k, .slice y.ea yn y.ec, .int .i64 y.h.s.r, .int .i64 y.h.f, .int .i64 y.h.t, .bool y.h.pl] 52)) (some ⟨wy.heap.size, 0, none⟩) 1 [x]) := Lib.hid (by rw [← hxn]; exact (hole_one x (HEX.out _ KW7.out)).keep ((Kp.refl _ none).alloc _))
                have HY1 : Hid (HolesAt ((wy.alloc (.cells #[.int .i64 x.h.s.k, .slice x.ea xn x.ec, .int .i64 x.h.s.r, .int .i64 x.h.f, .int .i64 x.h.t, .bool x.h.pl] 52)).alloc (.cells #[.int .i64 y.h.s.k, .slice y.ea yn y.ec, .int .i64 y.h.s.r, .int .i64 y.h.f, .int .i64 y.h.t, .bool y.h.pl] 52)) (some ⟨wy.heap.size + 1, 0, none⟩) 1 [y]) := Lib.hid (by
                  have h := hole_one (w := wy.alloc (.cells #[.int .i64 x.h.s.k, .slice x.ea xn x.ec, .int .i64 x.h.s.r, .int .i64 x.h.f, .int .i64 x.h.t, .bool x.h.pl] 52)) y (HEY.out _ (KW7.out.alloc _))
                  rw [hyn] at h; simpa using h)
                have KJ3 : Hid (Kp wz ((wy.alloc (.cells #[.int .i64 x.h.s.k, .slice x.ea xn x.ec, .int .i64 x.h.s.r, .int .i64 x.h.f, .int .i64 x.h.t, .bool x.h.pl] 52)).alloc (.cells #[.int .i64 y.h.s.k, .slice y.ea yn y.ec, .int .i64 y.h.s.r, .int .i64 y.h.f, .int .i64 y.h.t, .bool y.h.pl] 52)) none) := Lib.hid ((KJ2.out.alloc _).alloc _)
                clear kx1
                go_wp2_with fail
                clear a0 a1 a2 a3 a4 a5 e0 e1 e2 e3 e4 e5
                refine (same_one HX1.out HY1.out HFX.out HFY.out).mono ?_
                rintro E w8 ⟨rfl, k8⟩
                have KJ8 := Lib.hid (KJ3.out.trans k8)
                clear k8 HX1 HY1 KJ3
                have HME : Hid (q - (intOf (.int .i64 ((j : Int) + 1))).toNat < q - (intOf (.int .i64 (j : Int))).toNat) := Lib.hid (by simp [intOf]; omega)
                obtain ⟨c, hc⟩ : ∃ c, ((us.map (·.h)).take j).countP (fun z => decide (x.h = z)) = c := ⟨_, rfl⟩
                have HCL : Hid (c ≤ 6) := Lib.hid (by
                  have h1 := List.countP_le_length (p := fun z => decide (x.h = z)) (l := (us.map (·.h)).take j)
                  rw [List.length_take] at h1; have := H6.out; omega)
                rw [hc] at HCT ⊢
                have hcl := HCL.out
                have hj6 : (j : Int) ≤ 6 := by have := H6.out; omega
                clear hc
                by_cases hxy : x.h = y.h
                · have hd : decide (x.h = y.h) = true := decide_eq_true hxy
                  rw [hd] at HCT ⊢
                  have HREL : Hid (∃ j2 : Nat, j2 ≤ q ∧ Value.int .i64 ((j : Int) + 1) = .int .i64 (j2 : Int) ∧ Value.int .i64 ((m : Int) - ((c : Nat) : Int) - 1) = .int .i64 ((m : Int) - (((((us.map (·.h)).take j2).countP (fun z => decide (x.h = z))) : Nat) : Int)) ∧ Hid (Kp wz w8 none)) := Lib.hid ⟨j + 1, hjlt, by go_num, by rw [HCT.out]; first | rfl | (congr 1; simp; done) | (congr 1; simp; omega), KJ8⟩
                  have hw1 : wrap64 ((m : Int) - (c : Int) - 1) = (m : Int) - (c : Int) - 1 := by have := HM6.out; unfold wrap64; omega
                  have hw2 : IntKind.i64.wrap ((m : Int) - (c : Int) - 1) = (m : Int) - (c : Int) - 1 := by have := HM6.out; rw [IntKind.wrap_i64]; omega
                  clear hd hxy
                  go_wp2_with fail
                  first | exact ⟨HREL.out, HME.out⟩ | (go_roundw; all_goals first | exact HREL.out | exact HME.out) | (refine ⟨?_, HME.out⟩; (repeat apply Exists.intro); exact ⟨HREL.out, rfl⟩)
                · have hd : decide (x.h = y.h) = false := decide_eq_false hxy
                  rw [hd] at HCT ⊢
                  have HREL : Hid (∃ j2 : Nat, j2 ≤ q ∧ Value.int .i64 ((j : Int) + 1) = .int .i64 (j2 : Int) ∧ Value.int .i64 ((m : Int) - ((c : Nat) : Int)) = .int .i64 ((m : Int) - (((((us.map (·.h)).take j2).countP (fun z => decide (x.h = z))) : Nat) : Int)) ∧ Hid (Kp wz w8 none)) := Lib.hid ⟨j + 1, hjlt, by go_num, by rw [HCT.out]; simp, KJ8⟩
                  clear hd hxy
                  go_wp2_with fail
                  first | exact ⟨HREL.out, HME.out⟩ | (go_roundw; all_goals first | exact HREL.out | exact HME.out) | (refine ⟨?_, HME.out⟩; (repeat apply Exists.intro); exact ⟨HREL.out, rfl⟩)
              · obtain rfl : q = j := by omega
                have HKE := Lib.hid HKJ.out
                clear HKJ
                obtain ⟨d, hd⟩ : ∃ d, ((us.map (·.h)).take q).countP (fun z => decide (x.h = z)) = d := ⟨_, rfl⟩
                have hdm : d = m := by
                  rw [← hd, List.take_of_length_le (by rw [List.length_map, HUL.out]; exact Nat.le_refl _), HUS.out, HCN.out, HM.out]
                rw [hd]
                have hz0 : (m : Int) - (d : Int) = 0 := by omega
                rw [hz0]
                clear hz0 hd hdm
                have K9 := Lib.hid (KX.out.trans HKE.out)
                have HB9 := Lib.hid (blk HB0.out HKE.out)
                have HREL : Hid (∃ k2 : Nat, k2 ≤ q ∧ Value.int .i64 ((k : Int) + 1) = .int .i64 (k2 : Int) ∧ Hid (Kp w7 wr none)) := Lib.hid ⟨k + 1, hlt, by go_num, K9⟩
                have HREL2 : Hid (∃ k2 : Nat, k2 ≤ q ∧ Value.int .i64 ((k : Int) + 1) = .int .i64 (k2 : Int) ∧ Hid (Kp w7 wr.drew none)) := Lib.hid ⟨k + 1, hlt, by go_num, Lib.hid K9.out.drew⟩
                have HRELN : Hid (∀ nn, ∃ k2 : Nat, k2 ≤ q ∧ Value.int .i64 ((k : Int) + 1) = .int .i64 (k2 : Int) ∧ Hid (Kp w7 (wr.drewN nn) none)) := Lib.hid fun nn => ⟨k + 1, hlt, by go_num, Lib.hid (K9.out.trans ((Kp.refl wr none).drewN nn))⟩
                have HME : Hid (q - (intOf (.int .i64 ((k : Int) + 1))).toNat < q - (intOf (.int .i64 (k : Int))).toNat) := Lib.hid (by simp [intOf]; omega)
                have hk6 : (k : Int) ≤ 6 := by have := H6.out; omega
                clear hk
                by_cases hkz : k = 0
                · have g0 : decide ((k : Int) > 0) = false := decide_eq_false (by omega)
                  have g1 : decide ((0 : Int) < (k : Int)) = false := decide_eq_false (by omega)
                  have g2 : ¬ 0 < k := by omega
                  clear hkz
                  go_wp2_with fail
                  go_quiet (fail)
                  clear g0 g1 g2
                  go_wp2_with fail
                  first | exact ⟨HRELN.out _, HME.out⟩ | (go_roundw; all_goals first | exact HRELN.out _ | exact HME.out)
                · obtain ⟨p, hp⟩ : ∃ p, p + 1 = k := ⟨k - 1, by omega⟩
                  have g1 : decide ((0 : Int) < (k : Int)) = true := decide_eq_true (by omega)
                  have g2 : 0 < k := by omega
                  have hpk : (k : Int) - 1 = (p : Int) := by omega
                  have hp0 : (0 : Int) ≤ (p : Int) := Int.natCast_nonneg _
                  have hp1 : (p : Int) < (q : Int) := by omega
                  have hpl : p < us.length := by rw [HUL.out]; omega
                  obtain ⟨gb, go', hgo, _, hbs2, hcx⟩ := HU7.out.ho (k := p) hpl
                  injection hgo with hgo
                  injection hgo with g2 g3
                  subst g2; subst g3
                  have HPX : Hid (¬ (us[p].h.f > x.h.f ∨ (us[p].h.f = x.h.f ∧ us[p].h.t > x.h.t))) := Lib.hid (by
                    have hlk : p + 1 < (Dl.norm lt).length := by rw [Dl.norm_len, HLL.out]; omega
                    have h := Dl.norm_adj hlk
                    have e1 : (Dl.norm lt)[p]'(by omega) = us[p].h := by
                      have : (us.map (·.h))[p]'(by rw [List.length_map]; exact hpl) = us[p].h := by rw [List.getElem_map]
                      rw [← this]; simp only [HUS.out]
                    have e2 : (Dl.norm lt)[p + 1] = x.h := by
                      have h1 : (us.map (·.h))[p + 1]? = some x.h := by rw [List.getElem?_map, hp, HXK.out]; rfl
                      rw [HUS.out, List.getElem?_eq_getElem hlk] at h1
                      exact Option.some.inj h1
                    rw [e1, e2] at h; exact h)
                  obtain ⟨_, _, _, y3, y4, _⟩ := hcx wr K9.out
                  obtain ⟨f1, hf1⟩ : ∃ f, us[p].h.f = f := ⟨_, rfl⟩
                  obtain ⟨t1, ht1⟩ : ∃ f, us[p].h.t = f := ⟨_, rfl⟩
                  rw [hf1] at HPX y3
                  rw [ht1] at HPX y4
                  have hpx := HPX.out
                  have a3 := hcell HB9.out 3 rfl
                  have a4 := hcell HB9.out 4 rfl
                  have hw : wrap64 ((k : Int) - 1) = (p : Int) := by rw [hpk]; exact wrap_mid (by omega) (by omega)
                  have hw2 : IntKind.i64.wrap ((k : Int) - 1) = (p : Int) := by rw [IntKind.wrap_i64, hpk]; omega
                  have d1 : decide (x.h.f < f1) = false := decide_eq_false (by omega)
                  have n1 : ¬ x.h.f < f1 := by omega
                  by_cases hfe : f1 = x.h.f
                  · have d2 : (f1 == x.h.f) = true := by simpa using hfe
                    have d3 : decide (x.h.t < t1) = false := decide_eq_false (by omega)
                    have n2 : (f1 = x.h.f) = True := eq_true hfe
                    have n3 : ¬ x.h.t < t1 := by omega
                    clear hfe hpx hf1 ht1 hcx hp hpk hkz
                    go_wp2_with fail
                    go_quiet (fail)
                    clear d1 d2 d3 hw hw2 a3 a4 y3 y4 g1 g2 n1 n2 n3
                    go_wp2_with fail
                    first | exact ⟨HRELN.out _, HME.out⟩ | (go_roundw; all_goals first | exact HRELN.out _ | exact HME.out)
                  · have d2 : (f1 == x.h.f) = false := by simpa using hfe
                    have n2 : (f1 = x.h.f) = False := eq_false hfe
                    clear hfe hpx hf1 ht1 hcx hp hpk hkz
                    go_wp2_with fail
                    go_quiet (fail)
                    clear d1 d2 hw hw2 a3 a4 y3 y4 g1 g2 n1 n2
                    go_wp2_with fail
                    first | exact ⟨HRELN.out _, HME.out⟩ | (go_roundw; all_goals first | exact HRELN.out _ | exact HME.out)
      · have hkq : k = q := by omega
        subst hkq
        have hnk : ¬ (k : Int) < (k : Int) := by omega
        have HKF : Hid (Kp w wr none) := Lib.hid (K7.out.trans HK.out)
        go_wp2_with fail
        go_ret
        exact ⟨rfl, HKF.out⟩
end Go.Proofs.YtljjbdbgedmadaaGreatDoor
