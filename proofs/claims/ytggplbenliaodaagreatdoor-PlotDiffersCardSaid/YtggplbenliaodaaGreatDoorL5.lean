/- The law PlotDiffers: different lists of drawings have different files, equal ones equal files. Condition: the library's table of powers. -/
import Derived.Test.YtggplbenliaodaaGreatDoorFw
namespace Go.Proofs.YtggplbenliaodaaGreatDoor
open Go.RowKit

set_option maxHeartbeats 16000000 in
set_option maxRecDepth 100000 in
theorem pdiffers_any (rows sows : List (List Int)) (nr ns : Nat) (hr : rows.length = nr) (hs : sows.length = ns) (ro so : Option Addr) (rc sc : Nat) (p q : Nat) (hpb : p < 256) (hqb : q < 256) (w : World) (he : Env w) (hrows : LiesRows w ro rc rows) (hsows : LiesRows w so sc sows) (hn2 : LenOk nr) (hs2 : LenOk ns) :
    Calls Tryz.prog 5 #[.slice ro nr rc, .slice so ns sc, .agg #[.int .u8 p, .int .u8 q]] w fun E w' => E = .returned (.bool true) ∧ Kp w w' none := by
  have HE := Lib.hid he
  have HRW := Lib.hid hrows
  have HSW := Lib.hid hsows
  clear he hrows hsows
  have hp0 : (0 : Int) ≤ (p : Int) := Int.natCast_nonneg _
  have hq0 : (0 : Int) ≤ (q : Int) := Int.natCast_nonneg _
  go_enter Tryz.func5, Tryz.ntmps5
  go_wp2_with fail
  have HB0 : Hid ((w.alloc (Obj.cells #[.int .u8 p, .int .u8 q] 44)).heap[w.heap.size]? = some (Obj.cells #[.int .u8 p, .int .u8 q] 44 (0, 0))) := Lib.hid (heap_alloc_new w _)
  have K0 : Hid (Kp w (w.alloc (Obj.cells #[.int .u8 p, .int .u8 q] 44)) none) := Lib.hid ((Kp.refl w none).alloc _)
  refine (sanity_any _ (HE.out.kp0 K0.out)).mono ?_
  rintro E w1 ⟨rfl, k1⟩
  have HB1 := Lib.hid (blk HB0.out k1)
  have K1 := Lib.hid (K0.out.trans k1)
  clear k1 HB0 K0
  go_wp2_with fail
  refine (rmade_any rows nr hr ro rc w1 (HRW.out.keep K1.out) hn2).mono ?_
  rintro E w2 ⟨ts, ao, cap, hfine, hlen, rfl, hli, hed, hcap, hfr, k2⟩
  have HB2 := Lib.hid (blk HB1.out k2)
  have K2 := Lib.hid (K1.out.trans k2)
  have HFI := Lib.hid hfine
  have HLI := Lib.hid hli
  have HED := Lib.hid hed
  have HLEN := Lib.hid hlen
  have HCAP := Lib.hid hcap
  clear k2 HB1 K1 hfine hli hed hfr hcap hlen hr
  obtain ⟨n, hn⟩ : ∃ n, ts.length = n := ⟨_, rfl⟩
  rw [hn] at HLEN HCAP
  rw [hn]
  have HN := Lib.hid hn
  clear hn
  have hn8 : n ≤ 8 := HLEN.out
  have hn80 : (n : Int) ≤ 8 := by omega
  have hn0 : (0 : Int) ≤ (n : Int) := Int.natCast_nonneg _
  obtain ⟨i0, hi, hz0, hz1, hz2⟩ := info_parts infoDr
  go_wp2_with fail
  refine (rmade_any sows ns hs so sc w2 (HSW.out.keep K2.out) hs2).mono ?_
  rintro E w3 ⟨us, uo, uc, hfine, hlen, rfl, hli, hed, _, _, k3⟩
  have HB3 := Lib.hid (blk HB2.out k3)
  have K3 := Lib.hid (K2.out.trans k3)
  have HUF := Lib.hid hfine
  have HUL := Lib.hid hlen
  have HU := Lib.hid hli
  have HUE := Lib.hid hed
  have HL3 := Lib.hid (HLI.out.keep k3)
  have HE3 := Lib.hid (fun z hz => (HED.out z hz).keep k3)
  clear k3 HB2 K2 hfine hli hed hlen hs HLI HED
  obtain ⟨m, hm⟩ : ∃ m, us.length = m := ⟨_, rfl⟩
  rw [hm] at HUL
  rw [hm]
  have HM := Lib.hid hm
  clear hm
  have HIL : Hid (∀ V, Kp w3 V none → IsList 4 dtC V (.slice ao n cap) ts) := Lib.hid (fun V kv => by have h := (HL3.out.keep kv).list; rw [HN.out] at h; exact h)
  go_wp2_with (at_builtin; go_must (refine wpList_app (f := dtC) (by rfl) _ _ w3.heap.size 27 30 (by rfl) i0 _ 4 48 Tryz.underlying27 hi hz0 hz1 hz2 rfl (by omega) (fun _ => rfl) dt_one (.slice (some ⟨w3.heap.size, 0, none⟩) 0 0) 0 [] (by rfl) (World.ownsRow_made w3 #[] 0 (Nat.le_refl _) (by unfold maxLen; omega) rfl) (.slice ao n cap) ts (by rfl) (HIL.out _ ((Kp.refl w3 none).alloc _)) (by have := HN.out; unfold maxLen; omega) (by have := HN.out; omega) (by simp) ?_))
  intro v4 w4 ho hg hbb
  obtain ⟨o4, c4, rfl⟩ := own_slice ho
  have HO4 : Hid (w4.ownsRow w3.heap.size 30 4 (.slice o4 n c4) n (ts.flatMap dtC)) := Lib.hid (by have h := ho; simp only [HN.out] at h; exact h)
  have KM4 : Hid (Kp w3 w4 none) := Lib.hid (Kp.row ((Kp.refl w3 none).alloc (Obj.cells #[] 30)) hg (fun q hq => by simp [Value.ownBlock] at hq; omega))
  clear ho hg hbb
  try simp only [Nat.zero_add]
  try rw [HN.out]
  go_wp2_with (at_builtin; go_must (refine wpList_app (f := dtC) (by rfl) _ _ w4.heap.size 27 30 (by rfl) i0 _ 4 48 Tryz.underlying27 hi hz0 hz1 hz2 rfl (by omega) (fun _ => rfl) dt_one (.slice (some ⟨w4.heap.size, 0, none⟩) 0 0) 0 [] (by rfl) (World.ownsRow_made w4 #[] 0 (Nat.le_refl _) (by unfold maxLen; omega) rfl) (.slice ao n cap) ts (by rfl) (HIL.out _ (KM4.out.alloc _)) (by have := HN.out; unfold maxLen; omega) (by have := HN.out; omega) (by simp) ?_))
  intro v5 w5 ho hg hbb
  obtain ⟨o5, c5, rfl⟩ := own_slice ho
  have HO5 : Hid (w5.ownsRow w4.heap.size 30 4 (.slice o5 n c5) n (ts.flatMap dtC)) := Lib.hid (by have h := ho; simp only [HN.out] at h; exact h)
  have KM45 : Hid (Kp w4 w5 none) := Lib.hid (Kp.row ((Kp.refl w4 none).alloc (Obj.cells #[] 30)) hg (fun q hq => by simp [Value.ownBlock] at hq; omega))
  clear ho hg hbb
  try simp only [Nat.zero_add]
  try rw [HN.out]
  have HAX : Hid ((w5.alloc (Obj.cells #[.slice uo m uc, .slice o4 n c4, .slice o5 n c5] 27)).heap[w5.heap.size]? = some (Obj.cells #[.slice uo m uc, .slice o4 n c4, .slice o5 n c5] 27 (0, 0))) := Lib.hid (heap_alloc_new w5 _)
  have KA5 : Hid (Kp w5 (w5.alloc (Obj.cells #[.slice uo m uc, .slice o4 n c4, .slice o5 n c5] 27)) none) := Lib.hid ((Kp.refl w5 none).alloc _)
  go_upto_region 4 with fail
  by_cases hnz : n = 0
  · subst hnz
    generalize w5.alloc (Obj.cells #[.slice uo m uc, .slice o4 0 c4, .slice o5 0 c5] 27) = wZ at *
    have KZ := Lib.hid ((K3.out.trans (KM4.out.trans KM45.out)).trans KA5.out)
    have KM := Lib.hid ((KM4.out.trans KM45.out).trans KA5.out)
    have HC0 := Lib.hid (one_any ts us 0 m HN.out HM.out (by omega) (by have := HUL.out; omega) ao uo cap uc wZ (HE.out.kp0 KZ.out) (HL3.out.keep KM.out) (HU.out.keep KM.out) (fun z hz => ⟨(HE3.out z hz).keep KM.out, HFI.out z hz⟩) (fun z hz => ⟨(HUE.out z hz).keep KM.out, HUF.out z hz⟩))
    have HCN : Hid (∀ (xo : Option Addr) (xc : Nat), OneCmp ao 0 cap (Pl.fileT (ts.map (·.d))) wZ (.slice xo 0 xc)) := Lib.hid (fun xo xc => one_any ts [] 0 0 HN.out rfl (by omega) (by omega) ao xo cap xc wZ (HE.out.kp0 KZ.out) (HL3.out.keep KM.out) (fun k hk => by simp at hk) (fun z hz => ⟨(HE3.out z hz).keep KM.out, HFI.out z hz⟩) (fun z hz => by cases hz))
    have HC1 := Lib.hid (HCN.out o4 c4)
    have HC2 := Lib.hid (HCN.out o5 c5)
    have HWR := Lib.hid (wr_self ts 0 HN.out (by omega) ao cap wZ (HE.out.kp0 KZ.out) (HL3.out.keep KM.out) (fun z hz => ⟨(HE3.out z hz).keep KM.out, HFI.out z hz⟩))
    have HAZ := HAX
    clear HCN HIL HAX KA5 HO4 HO5 KM4 KM45
    obtain ⟨T0, hT0⟩ : ∃ T, Pl.fileT (ts.map (·.d)) = T := ⟨_, rfl⟩
    rw [hT0] at HC0 HC1 HC2 HWR
    clear hT0
    go_wp2_with fail
    refine HWR.out.mono ?_
    rintro E wX ⟨rfl, kx⟩
    have HAL := Lib.hid (blk HAZ.out kx)
    have KX := Lib.hid (KZ.out.trans kx)
    have HD0 := Lib.hid (HC0.out.keep kx)
    have HD1 := Lib.hid (HC1.out.keep kx)
    have HD2 := Lib.hid (HC2.out.keep kx)
    clear HC0 HC1 HC2 HAZ kx KZ HWR
    have HC0 := HD0
    have HC1 := HD1
    have HC2 := HD2
    clear HD0 HD1 HD2
    go_wp2_with fail
    go_loopw [81] (fun i wr => ∃ q : Nat, q ≤ 3 ∧ i = .int .i64 q ∧ Kp wX wr none) (fun i _ => 3 - (intOf i).toNat)
    case atStart => exact ⟨0, by omega, rfl, Kp.refl _ _⟩
    case round =>
      obtain ⟨x, hx, rfl, hK⟩ := hrel
      have HK := Lib.hid hK
      clear hK
      have hx4 : x = 0 ∨ x = 1 ∨ x = 2 ∨ x = 3 := by omega
      rcases hx4 with rfl | rfl | rfl | rfl
      · have hcl := hcell (blk HAL.out HK.out) 0 rfl
        obtain ⟨T, r, hT, hW, hS⟩ := HC0.out.keep HK.out
        have HW := Lib.hid hW
        have HS := Lib.hid hS
        clear hW hS
        go_wp2_with fail
        refine (HW.out _ (Kp.refl _ _)).mono ?_
        rintro E w1 ⟨rfl, k1⟩
        have K1 := Lib.hid k1
        have KK1 := Lib.hid (HK.out.trans k1)
        clear k1 hcl
        have hT2 : (T0 == T) = r := by rw [← hT]; exact ba_beq T0 T
        clear hT
        cases r
        all_goals
          go_wp2_with fail
          refine (HS.out _ K1.out).mono ?_
          rintro E w2 ⟨rfl, k2⟩
          have KK2 := Lib.hid (KK1.out.trans k2)
          clear k2
          go_wp2_with fail
          first | exact ⟨⟨1, by omega, by go_num, KK2.out⟩, by simp [intOf]⟩ | (go_roundw; all_goals first | exact ⟨1, by omega, by go_num, KK2.out⟩ | (simp [intOf]))
      · have hcl := hcell (blk HAL.out HK.out) 1 rfl
        obtain ⟨T, r, hT, hW, hS⟩ := HC1.out.keep HK.out
        have HW := Lib.hid hW
        have HS := Lib.hid hS
        clear hW hS
        go_wp2_with fail
        refine (HW.out _ (Kp.refl _ _)).mono ?_
        rintro E w1 ⟨rfl, k1⟩
        have K1 := Lib.hid k1
        have KK1 := Lib.hid (HK.out.trans k1)
        clear k1 hcl
        have hT2 : (T0 == T) = r := by rw [← hT]; exact ba_beq T0 T
        clear hT
        cases r
        all_goals
          go_wp2_with fail
          refine (HS.out _ K1.out).mono ?_
          rintro E w2 ⟨rfl, k2⟩
          have KK2 := Lib.hid (KK1.out.trans k2)
          clear k2
          go_wp2_with fail
          first | exact ⟨⟨2, by omega, by go_num, KK2.out⟩, by simp [intOf]⟩ | (go_roundw; all_goals first | exact ⟨2, by omega, by go_num, KK2.out⟩ | (simp [intOf]))
      · have hcl := hcell (blk HAL.out HK.out) 2 rfl
        obtain ⟨T, r, hT, hW, hS⟩ := HC2.out.keep HK.out
        have HW := Lib.hid hW
        have HS := Lib.hid hS
        clear hW hS
        go_wp2_with fail
        refine (HW.out _ (Kp.refl _ _)).mono ?_
        rintro E w1 ⟨rfl, k1⟩
        have K1 := Lib.hid k1
        have KK1 := Lib.hid (HK.out.trans k1)
        clear k1 hcl
        have hT2 : (T0 == T) = r := by rw [← hT]; exact ba_beq T0 T
        clear hT
        cases r
        all_goals
          go_wp2_with fail
          refine (HS.out _ K1.out).mono ?_
          rintro E w2 ⟨rfl, k2⟩
          have KK2 := Lib.hid (KK1.out.trans k2)
          clear k2
          go_wp2_with fail
          first | exact ⟨⟨3, by omega, by go_num, KK2.out⟩, by simp [intOf]⟩ | (go_roundw; all_goals first | exact ⟨3, by omega, by go_num, KK2.out⟩ | (simp [intOf]))
      · go_wp2_with fail
        go_ret
        exact ⟨rfl, KX.out.trans HK.out⟩
  · have hpos : 0 < n := by omega
    obtain ⟨b, off, rfl, _, _, _⟩ := HL3.out 0 (by rw [HN.out]; exact hpos)
    obtain ⟨g2, rfl⟩ : ∃ g, o5 = some ⟨g, 0, none⟩ := by
      rcases HO5.out.2 with ⟨_, hz⟩ | ⟨g, _, _, h, _⟩
      · omega
      · injection h with h; exact ⟨g, h⟩
    have HG : Hid (w4.heap.size ≤ g2 ∧ g2 < w5.heap.size) := Lib.hid (HO5.out.lt g2 rfl)
    obtain ⟨k, hk⟩ : ∃ k : Nat, (p : Int) % (n : Int) = (k : Int) := ⟨((p : Int) % (n : Int)).toNat, by have := Int.emod_nonneg (p : Int) (show (n : Int) ≠ 0 by omega); omega⟩
    have hkn : k < n := by have := Int.emod_lt_of_pos (p : Int) (show 0 < (n : Int) by omega); omega
    obtain ⟨j, hj⟩ : ∃ j : Nat, (q : Int) % (n : Int) = (j : Int) := ⟨((q : Int) % (n : Int)).toNat, by have := Int.emod_nonneg (q : Int) (show (n : Int) ≠ 0 by omega); omega⟩
    have hjn : j < n := by have := Int.emod_lt_of_pos (q : Int) (show 0 < (n : Int) by omega); omega
    have hkt : (p : Int).tmod (n : Int) = (k : Int) := by rw [Int.tmod_eq_emod_of_nonneg hp0]; exact hk
    have hjt : (q : Int).tmod (n : Int) = (j : Int) := by rw [Int.tmod_eq_emod_of_nonneg hq0]; exact hj
    obtain ⟨k1, hk1⟩ : ∃ k1 : Nat, k + 1 = k1 := ⟨_, rfl⟩
    have hk1I : (k : Int) + 1 = (k1 : Int) := by omega
    have HK1W : Hid (IntKind.i64.wrap (k1 : Int) = (k1 : Int)) := Lib.hid (by rw [IntKind.wrap_i64]; omega)
    have HQW : Hid (IntKind.i64.wrap (q : Int) = (q : Int)) := Lib.hid (by rw [IntKind.wrap_i64]; omega)
    have hkk1 : (k : Int) ≤ (k1 : Int) := by omega
    have hkk1N : k ≤ k1 := by omega
    obtain ⟨cl, hcl⟩ : ∃ c, (ts[j]'(by rw [HN.out]; exact hjn)).d.clear = c := ⟨_, rfl⟩
    have HJ : Hid (∃ h : j < ts.length, ts[j].d.clear = cl) := Lib.hid ⟨by rw [HN.out]; exact hjn, hcl⟩
    obtain ⟨tk, htk⟩ : ∃ l, ts.take k = l := ⟨_, rfl⟩
    obtain ⟨td, htd⟩ : ∃ l, ts.drop k1 = l := ⟨_, rfl⟩
    have HLT : Hid (tk.length = k ∧ td.length = n - k1 ∧ k < n ∧ k1 = k + 1) := Lib.hid ⟨by rw [← htk, List.length_take, HN.out]; omega, by rw [← htd, List.length_drop, HN.out], hkn, hk1.symm⟩
    have HLL : Hid (tk.length ≤ 8 ∧ td.length ≤ 8) := Lib.hid (by have := HLT.out; omega)
    have HMT : Hid (∀ z ∈ tk, z ∈ ts) := Lib.hid (fun z hz => List.mem_of_mem_take (by rw [htk]; exact hz))
    have HMD : Hid (∀ z ∈ td, z ∈ ts) := Lib.hid (fun z hz => List.mem_of_mem_drop (by rw [htd]; exact hz))
    have hcap1 : n ≤ cap := HCAP.out.1
    have hcap1I : (n : Int) ≤ (cap : Int) := by omega
    have hkc : (k : Int) ≤ (cap : Int) := by omega
    have hk1c : (k1 : Int) ≤ (n : Int) := by omega
    have hk1cc : (k1 : Int) ≤ (cap : Int) := by omega
    have hk0 : (0 : Int) ≤ (k : Int) := Int.natCast_nonneg _
    have hk10 : (0 : Int) ≤ (k1 : Int) := Int.natCast_nonneg _
    have hknI : (k : Int) < (n : Int) := by omega
    have hjnI : (j : Int) < (n : Int) := by omega
    have hj0 : (0 : Int) ≤ (j : Int) := Int.natCast_nonneg _
    have hposI : (0 : Int) < (n : Int) := by omega
    have hnzI : ¬ (n : Int) = 0 := by omega
    have HA6 := HAX
    have KM6 := Lib.hid ((KM4.out.trans KM45.out).trans KA5.out)
    have HB6 := Lib.hid (blk HB3.out KM6.out)
    have HO6 : Hid ((w5.alloc (Obj.cells #[.slice uo m uc, .slice o4 n c4, .slice (some ⟨g2, 0, none⟩) n c5] 27)).ownsRow w4.heap.size 30 4 (.slice (some ⟨g2, 0, none⟩) n c5) n (ts.flatMap dtC)) := Lib.hid (own_keep HO5.out KA5.out)
    have HS6 : Hid (w5.heap.size < (w5.alloc (Obj.cells #[.slice uo m uc, .slice o4 n c4, .slice (some ⟨g2, 0, none⟩) n c5] 27)).heap.size) := Lib.hid (by simp)
    clear HAX HO4 HO5 HIL hcl
    generalize w5.alloc (Obj.cells #[.slice uo m uc, .slice o4 n c4, .slice (some ⟨g2, 0, none⟩) n c5] 27) = w6 at *
    have b0 := hcell HB6.out 0 rfl
    have b1 := hcell HB6.out 1 rfl
    go_upto_region 6 with fail
    try rw [hk]
    try rw [hkt]
    clear b0 b1
    have HTK : Hid (∀ V, Kp w6 V none → IsList 4 dtC V (.slice (some ⟨b, off, none⟩) k cap) tk) := Lib.hid (fun V kv => by
      have h := ((lies_take HL3.out k (by rw [HN.out]; omega)).keep (KM6.out.trans kv)).list
      rw [htk, HLT.out.1] at h
      exact h)
    by_cases hck : cap = k1
    · have hkn2 : n = k1 := by omega
      subst hck
      subst hkn2
      have HDR : Hid (∀ V ao cap, Kp w6 V none → IsList 4 dtC V (.slice ao 0 cap) td) := Lib.hid (fun V ao cap _ => .inl ⟨ao, cap, rfl, List.length_eq_zero_iff.1 (by have := HLT.out; omega)⟩)
      have hk1w := HK1W.out
      refine wp_region_last (fun _ => True) 12 (by kernel_rfl) ?_ (fun hHeld => ?_)
      · trivial
      refine tkL 0 rfl ?_
      try simp only [Act.put, sm]
      refine tkL 2 rfl ?_
      try simp only [Act.put, sm]
      refine tkL 3 rfl ?_
      try simp only [Act.put, sm]
      refine tkL 4 rfl ?_
      try simp only [Act.put, sm]
      refine tkL 6 rfl ?_
      try simp only [Act.put, sm]
      refine tkL 7 rfl ?_
      try simp only [Act.put, sm]
      refine tkL 8 rfl ?_
      try simp only [Act.put, sm]
      refine tkL 9 rfl ?_
      try simp only [Act.put, sm]
      refine wpAnyL_ready (rs := [1]) (by kernel_rfl) (by simp) ?_
      refine AllReadyL.cons (o := _) rfl (fun K hK => ?_) AllReadyL.nil
      clear hHeld
      go_simp
      have KE : Hid (Kp w6 (w6.drew.alloc (Obj.cells #[] 30)) none) := Lib.hid ((Kp.refl w6 none).drew.alloc _)
      have HOE : Hid ((w6.drew.alloc (Obj.cells #[] 30)).ownsRow w6.heap.size 30 4 (.slice (some ⟨w6.heap.size, 0, none⟩) 0 0) 0 []) := Lib.hid (by have h := World.ownsRow_made (e := 30) (size := 4) w6.drew #[] 0 (base := w6.heap.size) (Nat.le_refl _) (by unfold maxLen; omega) rfl; simpa using h)
      try go_wp2_with fail
      refine hK.out _ _ ?_ (fun hHeld => ?_)
      · trivial
      clear hK K
      try simp only [Act.put, sm]
      refine wpAnyL_ready (rs := [5]) (by kernel_rfl) (by simp) ?_
      refine AllReadyL.cons (o := _) rfl (fun K hK => ?_) AllReadyL.nil
      clear hHeld
      refine step_app (f := dtC) rfl (.tmp 39) (.tmp 42) w6.heap.size 27 30 rfl i0 _ 4 48 (by kernel_rfl) hi hz0 hz1 hz2 rfl (by omega) (fun _ => rfl) dt_one _ _ _ rfl HOE.out _ tk rfl (HTK.out _ KE.out) (by have := HLL.out; unfold maxLen; omega) (by have := HLL.out; omega) KE.out.size ?_
      intro v1 wv1 ho hg hbb
      obtain ⟨ea1, ec1, rfl⟩ := own_slice ho
      have HO1 : Hid (wv1.ownsRow w6.heap.size 30 4 (.slice ea1 tk.length ec1) (tk.length) _) := Lib.hid (by have h := ho; simpa using h)
      have KV1 : Hid (Kp w6 wv1 none) := Lib.hid (Kp.row KE.out hg (fun q hq => (HOE.out.lt q hq).1))
      clear ho hg hbb
      try simp only [Nat.zero_add]
      try go_wp2_with fail
      refine hK.out _ _ ?_ (fun hHeld => ?_)
      · trivial
      clear hK K
      try simp only [Act.put, sm]
      refine wpAnyL_ready (rs := [10]) (by kernel_rfl) (by simp) ?_
      refine AllReadyL.cons (o := _) rfl (fun K hK => ?_) AllReadyL.nil
      clear hHeld
      refine step_app (f := dtC) rfl (.tmp 43) (.tmp 47) w6.heap.size 27 30 rfl i0 _ 4 48 (by kernel_rfl) hi hz0 hz1 hz2 rfl (by omega) (fun _ => rfl) dt_one _ _ _ rfl HO1.out _ td rfl (HDR.out _ _ _ KV1.out) (by have := HLL.out; unfold maxLen; omega) (by have := HLL.out; omega) KV1.out.size ?_
      intro v2 wv2 ho hg hbb
      obtain ⟨ea2, ec2, rfl⟩ := own_slice ho
      have HO2 := Lib.hid ho
      have KV2 : Hid (Kp w6 wv2 none) := Lib.hid (Kp.row KV1.out hg (fun q hq => (HO1.out.lt q hq).1))
      clear ho hg hbb
      try go_wp2_with fail
      refine hK.out _ _ ?_ (fun hHeld => ?_)
      · trivial
      clear hK K
      try simp only [Act.put, sm]
      refine tkL 11 rfl ?_
      try simp only [Act.put, sm]
      refine wpAnyL_ready (rs := [12]) (by kernel_rfl) (by simp) ?_
      refine AllReadyL.last (o := _) rfl (fun K hK => ?_)
      clear hHeld
      have hA2 := blk HA6.out KV2.out
      have f1 := Lib.frozen_of_heap hA2 1
      have c1 := hcell hA2 1 rfl
      have HA7 := Lib.hid hA2
      clear hA2
      go_simp
      try go_wp2_with fail
      refine hK.out _ _ ?_
      clear hK K
      try simp only [Act.put, sm]
      refine wpAnyL_done (by kernel_rfl) ?_ _
      clear c1 f1 hk1w
      have HA8 := Lib.hid (heap_set (o := 1) (v := .slice ea2 (tk.length + td.length) ec2) HA7.out)
      have kz : Kp wv2 (wv2.setCell ⟨w5.heap.size, 1, none⟩ (.slice ea2 (tk.length + td.length) ec2)) (some w5.heap.size) := (Kp.refl wv2 (some w5.heap.size)).set _
      have KC8 : Hid (Kp w3 (wv2.setCell ⟨w5.heap.size, 1, none⟩ (.slice ea2 (tk.length + td.length) ec2)) none) := Lib.hid ((KM6.out.trans KV2.out).of_own kz (by have := KM4.out.size; have := KM45.out.size; omega))
      have KW8 : Hid (Kp w (wv2.setCell ⟨w5.heap.size, 1, none⟩ (.slice ea2 (tk.length + td.length) ec2)) none) := Lib.hid (K3.out.trans KC8.out)
      have HO8 : Hid ((wv2.setCell ⟨w5.heap.size, 1, none⟩ (.slice ea2 (tk.length + td.length) ec2)).ownsRow w4.heap.size 30 4 (.slice (some ⟨g2, 0, none⟩) n c5) n (ts.flatMap dtC)) := Lib.hid ((own_keep HO6.out KV2.out).kept kz (.inr (by intro h; have h1 : g2 = w5.heap.size := Option.some.inj h; have := HG.out; omega)))
      have HV8 : Hid ((wv2.setCell ⟨w5.heap.size, 1, none⟩ (.slice ea2 (tk.length + td.length) ec2)).ownsRow w6.heap.size 30 4 (.slice ea2 (tk.length + td.length) ec2) (tk.length + td.length) (tk.flatMap dtC ++ td.flatMap dtC)) := Lib.hid (HO2.out.kept kz (by
        cases ea2 with
        | none => exact .inl rfl
        | some z => exact .inr (by intro h; have h2 := (HO2.out.lt z.block (by rfl)).1; have h1 : z.block = w5.heap.size := Option.some.inj h; have := HS6.out; omega)))
      try simp at HA8
      clear kz HA7 HO6 HO2 HO1 HOE KE KV1 KV2 KM6 HA6
      generalize (wv2.setCell ⟨w5.heap.size, 1, none⟩ (.slice ea2 (tk.length + td.length) ec2)) = w8 at *
      have HB8 := Lib.hid (blk HB3.out KC8.out)
      have HCL : Hid (w8.drew.cell? ⟨g2, j * 4 + 3, none⟩ = some (.bool cl)) := Lib.hid (by
        have h9 := flat_get 4 dtC (fun _ => rfl) ts j 3 HJ.out.1 (by simp [dtC])
        have h10 := HO8.out.cells rfl (j * 4 + 3) _ h9
        rw [show ((⟨g2, 0, none⟩ : Addr).add (j * 4 + 3)) = ⟨g2, j * 4 + 3, none⟩ by unfold Addr.add; split <;> simp_all] at h10
        rw [← HJ.out.2]
        exact h10)
      go_wp2_with fail
      have hqw := HQW.out
      refine wp_region_last (fun V => V.cell? ⟨w5.heap.size, 2, none⟩ = some (.slice (some ⟨g2, 0, none⟩) n c5) ∧ V.cell? ⟨w.heap.size, 1, none⟩ = some (.int .u8 q) ∧ V.cell? ⟨g2, j * 4 + 3, none⟩ = some (.bool cl) ∧ True) 24 (by kernel_rfl) ?_ (fun hHeld => ?_)
      · exact ⟨hcell HA8.out 2 rfl, hcell (blk HB8.out (Kp.refl _ none).drew) 1 rfl, HCL.out, trivial⟩
      refine tkL 0 rfl ?_
      try simp only [Act.put, sm]
      refine tkL 1 rfl ?_
      try simp only [Act.put, sm]
      refine tkL 2 rfl ?_
      try simp only [Act.put, sm]
      refine tkL 3 rfl ?_
      try simp only [Act.put, sm]
      refine tkL 4 rfl ?_
      try simp only [Act.put, sm]
      refine tkL 5 rfl ?_
      try simp only [Act.put, sm]
      refine tkL 6 rfl ?_
      try simp only [Act.put, sm]
      refine tkL 7 rfl ?_
      try simp only [Act.put, sm]
      refine tkL 8 rfl ?_
      try simp only [Act.put, sm]
      refine tkL 9 rfl ?_
      try simp only [Act.put, sm]
      refine tkL 10 rfl ?_
      try simp only [Act.put, sm]
      refine tkL 11 rfl ?_
      try simp only [Act.put, sm]
      refine tkL 12 rfl ?_
      try simp only [Act.put, sm]
      refine tkL 13 rfl ?_
      try simp only [Act.put, sm]
      refine tkL 14 rfl ?_
      try simp only [Act.put, sm]
      refine tkL 15 rfl ?_
      try simp only [Act.put, sm]
      refine tkL 16 rfl ?_
      try simp only [Act.put, sm]
      refine tkL 17 rfl ?_
      try simp only [Act.put, sm]
      refine tkL 18 rfl ?_
      try simp only [Act.put, sm]
      refine tkL 19 rfl ?_
      try simp only [Act.put, sm]
      refine tkL 20 rfl ?_
      try simp only [Act.put, sm]
      refine tkL 21 rfl ?_
      try simp only [Act.put, sm]
      refine wpAnyL_ready (rs := [22]) (by kernel_rfl) (by simp) ?_
      refine AllReadyL.cons (o := _) rfl (fun K hK => ?_) AllReadyL.nil
      have gK := hHeld
      clear hHeld
      go_simp
      try go_wp2_with fail
      refine hK.out _ _ ?_ (fun hHeld => ?_)
      · exact gK
      clear hK K gK
      try simp only [Act.put, sm]
      refine tkL 23 rfl ?_
      try simp only [Act.put, sm]
      refine wpAnyL_ready (rs := [24]) (by kernel_rfl) (by simp) ?_
      refine AllReadyL.last (o := _) rfl (fun K hK => ?_)
      have c1 := HCL.out
      have f1 := HO8.out.frozenAt (j * 4 + 3)
      clear hHeld
      go_simp
      try go_wp2_with fail
      refine hK.out _ _ ?_
      clear hK K
      try simp only [Act.put, sm]
      refine wpAnyL_done (by kernel_rfl) ?_ _
      clear c1 f1
      clear hqw
      obtain ⟨hr9, kr9⟩ := HO8.out.stored (j * 4 + 3) (.bool (!cl))
      have kd : Kp (w8.setCell ⟨g2, j * 4 + 3, none⟩ (.bool (!cl))) (w8.setCell ⟨g2, j * 4 + 3, none⟩ (.bool (!cl))).drew none := (Kp.refl _ none).drew
      have K9 : Hid (Kp w3 (w8.setCell ⟨g2, j * 4 + 3, none⟩ (.bool (!cl))).drew none) := Lib.hid ((KC8.out.of_own kr9 (by have := KM4.out.size; have := HG.out; omega)).drew)
      have KZ : Hid (Kp w (w8.setCell ⟨g2, j * 4 + 3, none⟩ (.bool (!cl))).drew none) := Lib.hid (K3.out.trans K9.out)
      have HV9 := Lib.hid (own_keep (HV8.out.kept kr9 (by
        cases ea2 with
        | none => exact .inl rfl
        | some z => exact .inr (by intro h; have h2 := (HV8.out.lt z.block (by rfl)).1; have h1 : z.block = g2 := Option.some.inj h; have := HG.out; have := HS6.out; omega))) kd)
      have HAZ := Lib.hid (blk (res_kept HA8.out kr9 (fun q hq => by have h1 : g2 = q := Option.some.inj hq; have := HG.out; omega)) kd)
      have HR9 := Lib.hid (own_keep hr9 kd)
      clear hr9 kr9 HO8 HV8 HA8 HB8 KC8 KW8 kd
      generalize (w8.setCell ⟨g2, j * 4 + 3, none⟩ (.bool (!cl))).drew = wZ at *
      have hL : tk.length + td.length = tk.length + td.length := by have := HLT.out; first | omega | rfl
      have HX1 : Hid (LiesAt 4 dtC wZ ea2 ec2 (tk ++ td)) := Lib.hid (own_lies (m := 4) (f := dtC) (fun _ => rfl) (by have h := HV9.out; rw [← List.flatMap_append, ← List.length_append] at h; exact h)).2
      obtain ⟨y, hy⟩ : ∃ y : DT, (⟨⟨(ts[j]'HJ.out.1).d.s, !cl⟩, (ts[j]'HJ.out.1).ea, (ts[j]'HJ.out.1).ec⟩ : DT) = y := ⟨_, rfl⟩
      have hyl : (ts.set j y).length = n := by rw [List.length_set, HN.out]
      have HX2 : Hid (LiesAt 4 dtC wZ (some ⟨g2, 0, none⟩) c5 (ts.set j y)) := Lib.hid (own_lies (m := 4) (f := dtC) (fun _ => rfl) (by have h := HR9.out; rw [flat_set1 (!cl) ts j HJ.out.1, hy] at h; rw [hyl]; exact h)).2
      have HTZ : Hid (∀ z ∈ ts, LiesAt 7 edC wZ z.ea z.ec z.d.s.es ∧ Pl.Fine z.d.s) := Lib.hid (fun z hz => ⟨(HE3.out z hz).keep K9.out, HFI.out z hz⟩)
      have HC0 := Lib.hid (one_any ts us n m HN.out HM.out (by omega) (by have := HUL.out; omega) _ uo n uc wZ (HE.out.kp0 KZ.out) (HL3.out.keep K9.out) (HU.out.keep K9.out) HTZ.out (fun z hz => ⟨(HUE.out z hz).keep K9.out, HUF.out z hz⟩))
      have HC1 : Hid (OneCmp _ n n _ wZ (.slice ea2 (tk.length + td.length) ec2)) := Lib.hid (one_any ts (tk ++ td) n (tk.length + td.length) HN.out (by rw [List.length_append]) (by omega) (by have := HLL.out; have := HLT.out; omega) _ ea2 n ec2 wZ (HE.out.kp0 KZ.out) (HL3.out.keep K9.out) HX1.out HTZ.out (fun z hz => by
        rcases List.mem_append.1 hz with hz | hz
        · exact HTZ.out z (HMT.out z hz)
        · exact HTZ.out z (HMD.out z hz)))
      have HC2 : Hid (OneCmp _ n n _ wZ (.slice (some ⟨g2, 0, none⟩) n c5)) := Lib.hid (one_any ts _ n n HN.out hyl (by omega) (by omega) _ _ n c5 wZ (HE.out.kp0 KZ.out) (HL3.out.keep K9.out) HX2.out HTZ.out (fun z hz => by
        rcases List.mem_or_eq_of_mem_set hz with hz | hz
        · exact HTZ.out z hz
        · rw [hz, ← hy]; have h := HTZ.out _ (List.getElem_mem HJ.out.1); exact ⟨h.1, h.2⟩))
      have HWR := Lib.hid (wr_self ts n HN.out (by omega) _ n wZ (HE.out.kp0 KZ.out) (HL3.out.keep K9.out) HTZ.out)
      clear HX1 HX2 HTZ HV9 HR9 hL hyl hy
      obtain ⟨T0, hT0⟩ : ∃ T, Pl.fileT (ts.map (·.d)) = T := ⟨_, rfl⟩
      rw [hT0] at HC0 HC1 HC2 HWR
      clear hT0
      go_wp2_with fail
      refine HWR.out.mono ?_
      rintro E wX ⟨rfl, kx⟩
      have HAL := Lib.hid (blk HAZ.out kx)
      have KX := Lib.hid (KZ.out.trans kx)
      have HD0 := Lib.hid (HC0.out.keep kx)
      have HD1 := Lib.hid (HC1.out.keep kx)
      have HD2 := Lib.hid (HC2.out.keep kx)
      clear HC0 HC1 HC2 HAZ kx KZ HWR
      have HC0 := HD0
      have HC1 := HD1
      have HC2 := HD2
      clear HD0 HD1 HD2
      go_wp2_with fail
      go_loopw [81] (fun i wr => ∃ q : Nat, q ≤ 3 ∧ i = .int .i64 q ∧ Kp wX wr none) (fun i _ => 3 - (intOf i).toNat)
      case atStart => exact ⟨0, by omega, rfl, Kp.refl _ _⟩
      case round =>
        obtain ⟨x, hx, rfl, hK⟩ := hrel
        have HK := Lib.hid hK
        clear hK
        have hx4 : x = 0 ∨ x = 1 ∨ x = 2 ∨ x = 3 := by omega
        rcases hx4 with rfl | rfl | rfl | rfl
        · have hcl := hcell (blk HAL.out HK.out) 0 rfl
          obtain ⟨T, r, hT, hW, hS⟩ := HC0.out.keep HK.out
          have HW := Lib.hid hW
          have HS := Lib.hid hS
          clear hW hS
          go_wp2_with fail
          refine (HW.out _ (Kp.refl _ _)).mono ?_
          rintro E w1 ⟨rfl, k1⟩
          have K1 := Lib.hid k1
          have KK1 := Lib.hid (HK.out.trans k1)
          clear k1 hcl
          have hT2 : (T0 == T) = r := by rw [← hT]; exact ba_beq T0 T
          clear hT
          cases r
          all_goals
            go_wp2_with fail
            refine (HS.out _ K1.out).mono ?_
            rintro E w2 ⟨rfl, k2⟩
            have KK2 := Lib.hid (KK1.out.trans k2)
            clear k2
            go_wp2_with fail
            first | exact ⟨⟨1, by omega, by go_num, KK2.out⟩, by simp [intOf]⟩ | (go_roundw; all_goals first | exact ⟨1, by omega, by go_num, KK2.out⟩ | (simp [intOf]))
        · have hcl := hcell (blk HAL.out HK.out) 1 rfl
          obtain ⟨T, r, hT, hW, hS⟩ := HC1.out.keep HK.out
          have HW := Lib.hid hW
          have HS := Lib.hid hS
          clear hW hS
          go_wp2_with fail
          refine (HW.out _ (Kp.refl _ _)).mono ?_
          rintro E w1 ⟨rfl, k1⟩
          have K1 := Lib.hid k1
          have KK1 := Lib.hid (HK.out.trans k1)
          clear k1 hcl
          have hT2 : (T0 == T) = r := by rw [← hT]; exact ba_beq T0 T
          clear hT
          cases r
          all_goals
            go_wp2_with fail
            refine (HS.out _ K1.out).mono ?_
            rintro E w2 ⟨rfl, k2⟩
            have KK2 := Lib.hid (KK1.out.trans k2)
            clear k2
            go_wp2_with fail
            first | exact ⟨⟨2, by omega, by go_num, KK2.out⟩, by simp [intOf]⟩ | (go_roundw; all_goals first | exact ⟨2, by omega, by go_num, KK2.out⟩ | (simp [intOf]))
        · have hcl := hcell (blk HAL.out HK.out) 2 rfl
          obtain ⟨T, r, hT, hW, hS⟩ := HC2.out.keep HK.out
          have HW := Lib.hid hW
          have HS := Lib.hid hS
          clear hW hS
          go_wp2_with fail
          refine (HW.out _ (Kp.refl _ _)).mono ?_
          rintro E w1 ⟨rfl, k1⟩
          have K1 := Lib.hid k1
          have KK1 := Lib.hid (HK.out.trans k1)
          clear k1 hcl
          have hT2 : (T0 == T) = r := by rw [← hT]; exact ba_beq T0 T
          clear hT
          cases r
          all_goals
            go_wp2_with fail
            refine (HS.out _ K1.out).mono ?_
            rintro E w2 ⟨rfl, k2⟩
            have KK2 := Lib.hid (KK1.out.trans k2)
            clear k2
            go_wp2_with fail
            first | exact ⟨⟨3, by omega, by go_num, KK2.out⟩, by simp [intOf]⟩ | (go_roundw; all_goals first | exact ⟨3, by omega, by go_num, KK2.out⟩ | (simp [intOf]))
        · go_wp2_with fail
          go_ret
          exact ⟨rfl, KX.out.trans HK.out⟩
    · have HDR : Hid (∀ V, Kp w6 V none → IsList 4 dtC V (.slice (some ⟨b, off + k1 * 4, none⟩) (n - k1) (cap - k1)) td) := Lib.hid (fun V kv => by
        have h := ((lies_drop (f := dtC) HL3.out k1 (by omega) (by rw [HN.out]; omega)).keep (KM6.out.trans kv)).list
        rw [htd, HLT.out.2.1] at h
        exact h)
      have hk1w := HK1W.out
      refine wp_region_last (fun _ => True) 12 (by kernel_rfl) ?_ (fun hHeld => ?_)
      · trivial
      refine tkL 0 rfl ?_
      try simp only [Act.put, sm]
      refine tkL 2 rfl ?_
      try simp only [Act.put, sm]
      refine tkL 3 rfl ?_
      try simp only [Act.put, sm]
      refine tkL 4 rfl ?_
      try simp only [Act.put, sm]
      refine tkL 6 rfl ?_
      try simp only [Act.put, sm]
      refine tkL 7 rfl ?_
      try simp only [Act.put, sm]
      refine tkL 8 rfl ?_
      try simp only [Act.put, sm]
      refine tkL 9 rfl ?_
      try simp only [Act.put, sm]
      refine wpAnyL_ready (rs := [1]) (by kernel_rfl) (by simp) ?_
      refine AllReadyL.cons (o := _) rfl (fun K hK => ?_) AllReadyL.nil
      clear hHeld
      go_simp
      have KE : Hid (Kp w6 (w6.drew.alloc (Obj.cells #[] 30)) none) := Lib.hid ((Kp.refl w6 none).drew.alloc _)
      have HOE : Hid ((w6.drew.alloc (Obj.cells #[] 30)).ownsRow w6.heap.size 30 4 (.slice (some ⟨w6.heap.size, 0, none⟩) 0 0) 0 []) := Lib.hid (by have h := World.ownsRow_made (e := 30) (size := 4) w6.drew #[] 0 (base := w6.heap.size) (Nat.le_refl _) (by unfold maxLen; omega) rfl; simpa using h)
      try go_wp2_with fail
      refine hK.out _ _ ?_ (fun hHeld => ?_)
      · trivial
      clear hK K
      try simp only [Act.put, sm]
      refine wpAnyL_ready (rs := [5]) (by kernel_rfl) (by simp) ?_
      refine AllReadyL.cons (o := _) rfl (fun K hK => ?_) AllReadyL.nil
      clear hHeld
      refine step_app (f := dtC) rfl (.tmp 39) (.tmp 42) w6.heap.size 27 30 rfl i0 _ 4 48 (by kernel_rfl) hi hz0 hz1 hz2 rfl (by omega) (fun _ => rfl) dt_one _ _ _ rfl HOE.out _ tk rfl (HTK.out _ KE.out) (by have := HLL.out; unfold maxLen; omega) (by have := HLL.out; omega) KE.out.size ?_
      intro v1 wv1 ho hg hbb
      obtain ⟨ea1, ec1, rfl⟩ := own_slice ho
      have HO1 : Hid (wv1.ownsRow w6.heap.size 30 4 (.slice ea1 tk.length ec1) (tk.length) _) := Lib.hid (by have h := ho; simpa using h)
      have KV1 : Hid (Kp w6 wv1 none) := Lib.hid (Kp.row KE.out hg (fun q hq => (HOE.out.lt q hq).1))
      clear ho hg hbb
      try simp only [Nat.zero_add]
      try go_wp2_with fail
      refine hK.out _ _ ?_ (fun hHeld => ?_)
      · trivial
      clear hK K
      try simp only [Act.put, sm]
      refine wpAnyL_ready (rs := [10]) (by kernel_rfl) (by simp) ?_
      refine AllReadyL.cons (o := _) rfl (fun K hK => ?_) AllReadyL.nil
      clear hHeld
      refine step_app (f := dtC) rfl (.tmp 43) (.tmp 47) w6.heap.size 27 30 rfl i0 _ 4 48 (by kernel_rfl) hi hz0 hz1 hz2 rfl (by omega) (fun _ => rfl) dt_one _ _ _ rfl HO1.out _ td rfl (HDR.out _ KV1.out) (by have := HLL.out; unfold maxLen; omega) (by have := HLL.out; omega) KV1.out.size ?_
      intro v2 wv2 ho hg hbb
      obtain ⟨ea2, ec2, rfl⟩ := own_slice ho
      have HO2 := Lib.hid ho
      have KV2 : Hid (Kp w6 wv2 none) := Lib.hid (Kp.row KV1.out hg (fun q hq => (HO1.out.lt q hq).1))
      clear ho hg hbb
      try go_wp2_with fail
      refine hK.out _ _ ?_ (fun hHeld => ?_)
      · trivial
      clear hK K
      try simp only [Act.put, sm]
      refine tkL 11 rfl ?_
      try simp only [Act.put, sm]
      refine wpAnyL_ready (rs := [12]) (by kernel_rfl) (by simp) ?_
      refine AllReadyL.last (o := _) rfl (fun K hK => ?_)
      clear hHeld
      have hA2 := blk HA6.out KV2.out
      have f1 := Lib.frozen_of_heap hA2 1
      have c1 := hcell hA2 1 rfl
      have HA7 := Lib.hid hA2
      clear hA2
      go_simp
      try go_wp2_with fail
      refine hK.out _ _ ?_
      clear hK K
      try simp only [Act.put, sm]
      refine wpAnyL_done (by kernel_rfl) ?_ _
      clear c1 f1 hk1w
      have HA8 := Lib.hid (heap_set (o := 1) (v := .slice ea2 (tk.length + td.length) ec2) HA7.out)
      have kz : Kp wv2 (wv2.setCell ⟨w5.heap.size, 1, none⟩ (.slice ea2 (tk.length + td.length) ec2)) (some w5.heap.size) := (Kp.refl wv2 (some w5.heap.size)).set _
      have KC8 : Hid (Kp w3 (wv2.setCell ⟨w5.heap.size, 1, none⟩ (.slice ea2 (tk.length + td.length) ec2)) none) := Lib.hid ((KM6.out.trans KV2.out).of_own kz (by have := KM4.out.size; have := KM45.out.size; omega))
      have KW8 : Hid (Kp w (wv2.setCell ⟨w5.heap.size, 1, none⟩ (.slice ea2 (tk.length + td.length) ec2)) none) := Lib.hid (K3.out.trans KC8.out)
      have HO8 : Hid ((wv2.setCell ⟨w5.heap.size, 1, none⟩ (.slice ea2 (tk.length + td.length) ec2)).ownsRow w4.heap.size 30 4 (.slice (some ⟨g2, 0, none⟩) n c5) n (ts.flatMap dtC)) := Lib.hid ((own_keep HO6.out KV2.out).kept kz (.inr (by intro h; have h1 : g2 = w5.heap.size := Option.some.inj h; have := HG.out; omega)))
      have HV8 : Hid ((wv2.setCell ⟨w5.heap.size, 1, none⟩ (.slice ea2 (tk.length + td.length) ec2)).ownsRow w6.heap.size 30 4 (.slice ea2 (tk.length + td.length) ec2) (tk.length + td.length) (tk.flatMap dtC ++ td.flatMap dtC)) := Lib.hid (HO2.out.kept kz (by
        cases ea2 with
        | none => exact .inl rfl
        | some z => exact .inr (by intro h; have h2 := (HO2.out.lt z.block (by rfl)).1; have h1 : z.block = w5.heap.size := Option.some.inj h; have := HS6.out; omega)))
      try simp at HA8
      clear kz HA7 HO6 HO2 HO1 HOE KE KV1 KV2 KM6 HA6
      generalize (wv2.setCell ⟨w5.heap.size, 1, none⟩ (.slice ea2 (tk.length + td.length) ec2)) = w8 at *
      have HB8 := Lib.hid (blk HB3.out KC8.out)
      have HCL : Hid (w8.drew.cell? ⟨g2, j * 4 + 3, none⟩ = some (.bool cl)) := Lib.hid (by
        have h9 := flat_get 4 dtC (fun _ => rfl) ts j 3 HJ.out.1 (by simp [dtC])
        have h10 := HO8.out.cells rfl (j * 4 + 3) _ h9
        rw [show ((⟨g2, 0, none⟩ : Addr).add (j * 4 + 3)) = ⟨g2, j * 4 + 3, none⟩ by unfold Addr.add; split <;> simp_all] at h10
        rw [← HJ.out.2]
        exact h10)
      go_wp2_with fail
      have hqw := HQW.out
      refine wp_region_last (fun V => V.cell? ⟨w5.heap.size, 2, none⟩ = some (.slice (some ⟨g2, 0, none⟩) n c5) ∧ V.cell? ⟨w.heap.size, 1, none⟩ = some (.int .u8 q) ∧ V.cell? ⟨g2, j * 4 + 3, none⟩ = some (.bool cl) ∧ True) 24 (by kernel_rfl) ?_ (fun hHeld => ?_)
      · exact ⟨hcell HA8.out 2 rfl, hcell (blk HB8.out (Kp.refl _ none).drew) 1 rfl, HCL.out, trivial⟩
      refine tkL 0 rfl ?_
      try simp only [Act.put, sm]
      refine tkL 1 rfl ?_
      try simp only [Act.put, sm]
      refine tkL 2 rfl ?_
      try simp only [Act.put, sm]
      refine tkL 3 rfl ?_
      try simp only [Act.put, sm]
      refine tkL 4 rfl ?_
      try simp only [Act.put, sm]
      refine tkL 5 rfl ?_
      try simp only [Act.put, sm]
      refine tkL 6 rfl ?_
      try simp only [Act.put, sm]
      refine tkL 7 rfl ?_
      try simp only [Act.put, sm]
      refine tkL 8 rfl ?_
      try simp only [Act.put, sm]
      refine tkL 9 rfl ?_
      try simp only [Act.put, sm]
      refine tkL 10 rfl ?_
      try simp only [Act.put, sm]
      refine tkL 11 rfl ?_
      try simp only [Act.put, sm]
      refine tkL 12 rfl ?_
      try simp only [Act.put, sm]
      refine tkL 13 rfl ?_
      try simp only [Act.put, sm]
      refine tkL 14 rfl ?_
      try simp only [Act.put, sm]
      refine tkL 15 rfl ?_
      try simp only [Act.put, sm]
      refine tkL 16 rfl ?_
      try simp only [Act.put, sm]
      refine tkL 17 rfl ?_
      try simp only [Act.put, sm]
      refine tkL 18 rfl ?_
      try simp only [Act.put, sm]
      refine tkL 19 rfl ?_
      try simp only [Act.put, sm]
      refine tkL 20 rfl ?_
      try simp only [Act.put, sm]
      refine tkL 21 rfl ?_
      try simp only [Act.put, sm]
      refine wpAnyL_ready (rs := [22]) (by kernel_rfl) (by simp) ?_
      refine AllReadyL.cons (o := _) rfl (fun K hK => ?_) AllReadyL.nil
      have gK := hHeld
      clear hHeld
      go_simp
      try go_wp2_with fail
      refine hK.out _ _ ?_ (fun hHeld => ?_)
      · exact gK
      clear hK K gK
      try simp only [Act.put, sm]
      refine tkL 23 rfl ?_
      try simp only [Act.put, sm]
      refine wpAnyL_ready (rs := [24]) (by kernel_rfl) (by simp) ?_
      refine AllReadyL.last (o := _) rfl (fun K hK => ?_)
      have c1 := HCL.out
      have f1 := HO8.out.frozenAt (j * 4 + 3)
      clear hHeld
      go_simp
      try go_wp2_with fail
      refine hK.out _ _ ?_
      clear hK K
      try simp only [Act.put, sm]
      refine wpAnyL_done (by kernel_rfl) ?_ _
      clear c1 f1
      clear hqw
      obtain ⟨hr9, kr9⟩ := HO8.out.stored (j * 4 + 3) (.bool (!cl))
      have kd : Kp (w8.setCell ⟨g2, j * 4 + 3, none⟩ (.bool (!cl))) (w8.setCell ⟨g2, j * 4 + 3, none⟩ (.bool (!cl))).drew none := (Kp.refl _ none).drew
      have K9 : Hid (Kp w3 (w8.setCell ⟨g2, j * 4 + 3, none⟩ (.bool (!cl))).drew none) := Lib.hid ((KC8.out.of_own kr9 (by have := KM4.out.size; have := HG.out; omega)).drew)
      have KZ : Hid (Kp w (w8.setCell ⟨g2, j * 4 + 3, none⟩ (.bool (!cl))).drew none) := Lib.hid (K3.out.trans K9.out)
      have HV9 := Lib.hid (own_keep (HV8.out.kept kr9 (by
        cases ea2 with
        | none => exact .inl rfl
        | some z => exact .inr (by intro h; have h2 := (HV8.out.lt z.block (by rfl)).1; have h1 : z.block = g2 := Option.some.inj h; have := HG.out; have := HS6.out; omega))) kd)
      have HAZ := Lib.hid (blk (res_kept HA8.out kr9 (fun q hq => by have h1 : g2 = q := Option.some.inj hq; have := HG.out; omega)) kd)
      have HR9 := Lib.hid (own_keep hr9 kd)
      clear hr9 kr9 HO8 HV8 HA8 HB8 KC8 KW8 kd
      generalize (w8.setCell ⟨g2, j * 4 + 3, none⟩ (.bool (!cl))).drew = wZ at *
      have hL : tk.length + td.length = tk.length + td.length := by have := HLT.out; first | omega | rfl
      have HX1 : Hid (LiesAt 4 dtC wZ ea2 ec2 (tk ++ td)) := Lib.hid (own_lies (m := 4) (f := dtC) (fun _ => rfl) (by have h := HV9.out; rw [← List.flatMap_append, ← List.length_append] at h; exact h)).2
      obtain ⟨y, hy⟩ : ∃ y : DT, (⟨⟨(ts[j]'HJ.out.1).d.s, !cl⟩, (ts[j]'HJ.out.1).ea, (ts[j]'HJ.out.1).ec⟩ : DT) = y := ⟨_, rfl⟩
      have hyl : (ts.set j y).length = n := by rw [List.length_set, HN.out]
      have HX2 : Hid (LiesAt 4 dtC wZ (some ⟨g2, 0, none⟩) c5 (ts.set j y)) := Lib.hid (own_lies (m := 4) (f := dtC) (fun _ => rfl) (by have h := HR9.out; rw [flat_set1 (!cl) ts j HJ.out.1, hy] at h; rw [hyl]; exact h)).2
      have HTZ : Hid (∀ z ∈ ts, LiesAt 7 edC wZ z.ea z.ec z.d.s.es ∧ Pl.Fine z.d.s) := Lib.hid (fun z hz => ⟨(HE3.out z hz).keep K9.out, HFI.out z hz⟩)
      have HC0 := Lib.hid (one_any ts us n m HN.out HM.out (by omega) (by have := HUL.out; omega) _ uo cap uc wZ (HE.out.kp0 KZ.out) (HL3.out.keep K9.out) (HU.out.keep K9.out) HTZ.out (fun z hz => ⟨(HUE.out z hz).keep K9.out, HUF.out z hz⟩))
      have HC1 : Hid (OneCmp _ n cap _ wZ (.slice ea2 (tk.length + td.length) ec2)) := Lib.hid (one_any ts (tk ++ td) n (tk.length + td.length) HN.out (by rw [List.length_append]) (by omega) (by have := HLL.out; have := HLT.out; omega) _ ea2 cap ec2 wZ (HE.out.kp0 KZ.out) (HL3.out.keep K9.out) HX1.out HTZ.out (fun z hz => by
        rcases List.mem_append.1 hz with hz | hz
        · exact HTZ.out z (HMT.out z hz)
        · exact HTZ.out z (HMD.out z hz)))
      have HC2 : Hid (OneCmp _ n cap _ wZ (.slice (some ⟨g2, 0, none⟩) n c5)) := Lib.hid (one_any ts _ n n HN.out hyl (by omega) (by omega) _ _ cap c5 wZ (HE.out.kp0 KZ.out) (HL3.out.keep K9.out) HX2.out HTZ.out (fun z hz => by
        rcases List.mem_or_eq_of_mem_set hz with hz | hz
        · exact HTZ.out z hz
        · rw [hz, ← hy]; have h := HTZ.out _ (List.getElem_mem HJ.out.1); exact ⟨h.1, h.2⟩))
      have HWR := Lib.hid (wr_self ts n HN.out (by omega) _ cap wZ (HE.out.kp0 KZ.out) (HL3.out.keep K9.out) HTZ.out)
      clear HX1 HX2 HTZ HV9 HR9 hL hyl hy
      obtain ⟨T0, hT0⟩ : ∃ T, Pl.fileT (ts.map (·.d)) = T := ⟨_, rfl⟩
      rw [hT0] at HC0 HC1 HC2 HWR
      clear hT0
      go_wp2_with fail
      refine HWR.out.mono ?_
      rintro E wX ⟨rfl, kx⟩
      have HAL := Lib.hid (blk HAZ.out kx)
      have KX := Lib.hid (KZ.out.trans kx)
      have HD0 := Lib.hid (HC0.out.keep kx)
      have HD1 := Lib.hid (HC1.out.keep kx)
      have HD2 := Lib.hid (HC2.out.keep kx)
      clear HC0 HC1 HC2 HAZ kx KZ HWR
      have HC0 := HD0
      have HC1 := HD1
      have HC2 := HD2
      clear HD0 HD1 HD2
      go_wp2_with fail
      go_loopw [81] (fun i wr => ∃ q : Nat, q ≤ 3 ∧ i = .int .i64 q ∧ Kp wX wr none) (fun i _ => 3 - (intOf i).toNat)
      case atStart => exact ⟨0, by omega, rfl, Kp.refl _ _⟩
      case round =>
        obtain ⟨x, hx, rfl, hK⟩ := hrel
        have HK := Lib.hid hK
        clear hK
        have hx4 : x = 0 ∨ x = 1 ∨ x = 2 ∨ x = 3 := by omega
        rcases hx4 with rfl | rfl | rfl | rfl
        · have hcl := hcell (blk HAL.out HK.out) 0 rfl
          obtain ⟨T, r, hT, hW, hS⟩ := HC0.out.keep HK.out
          have HW := Lib.hid hW
          have HS := Lib.hid hS
          clear hW hS
          go_wp2_with fail
          refine (HW.out _ (Kp.refl _ _)).mono ?_
          rintro E w1 ⟨rfl, k1⟩
          have K1 := Lib.hid k1
          have KK1 := Lib.hid (HK.out.trans k1)
          clear k1 hcl
          have hT2 : (T0 == T) = r := by rw [← hT]; exact ba_beq T0 T
          clear hT
          cases r
          all_goals
            go_wp2_with fail
            refine (HS.out _ K1.out).mono ?_
            rintro E w2 ⟨rfl, k2⟩
            have KK2 := Lib.hid (KK1.out.trans k2)
            clear k2
            go_wp2_with fail
            first | exact ⟨⟨1, by omega, by go_num, KK2.out⟩, by simp [intOf]⟩ | (go_roundw; all_goals first | exact ⟨1, by omega, by go_num, KK2.out⟩ | (simp [intOf]))
        · have hcl := hcell (blk HAL.out HK.out) 1 rfl
          obtain ⟨T, r, hT, hW, hS⟩ := HC1.out.keep HK.out
          have HW := Lib.hid hW
          have HS := Lib.hid hS
          clear hW hS
          go_wp2_with fail
          refine (HW.out _ (Kp.refl _ _)).mono ?_
          rintro E w1 ⟨rfl, k1⟩
          have K1 := Lib.hid k1
          have KK1 := Lib.hid (HK.out.trans k1)
          clear k1 hcl
          have hT2 : (T0 == T) = r := by rw [← hT]; exact ba_beq T0 T
          clear hT
          cases r
          all_goals
            go_wp2_with fail
            refine (HS.out _ K1.out).mono ?_
            rintro E w2 ⟨rfl, k2⟩
            have KK2 := Lib.hid (KK1.out.trans k2)
            clear k2
            go_wp2_with fail
            first | exact ⟨⟨2, by omega, by go_num, KK2.out⟩, by simp [intOf]⟩ | (go_roundw; all_goals first | exact ⟨2, by omega, by go_num, KK2.out⟩ | (simp [intOf]))
        · have hcl := hcell (blk HAL.out HK.out) 2 rfl
          obtain ⟨T, r, hT, hW, hS⟩ := HC2.out.keep HK.out
          have HW := Lib.hid hW
          have HS := Lib.hid hS
          clear hW hS
          go_wp2_with fail
          refine (HW.out _ (Kp.refl _ _)).mono ?_
          rintro E w1 ⟨rfl, k1⟩
          have K1 := Lib.hid k1
          have KK1 := Lib.hid (HK.out.trans k1)
          clear k1 hcl
          have hT2 : (T0 == T) = r := by rw [← hT]; exact ba_beq T0 T
          clear hT
          cases r
          all_goals
            go_wp2_with fail
            refine (HS.out _ K1.out).mono ?_
            rintro E w2 ⟨rfl, k2⟩
            have KK2 := Lib.hid (KK1.out.trans k2)
            clear k2
            go_wp2_with fail
            first | exact ⟨⟨3, by omega, by go_num, KK2.out⟩, by simp [intOf]⟩ | (go_roundw; all_goals first | exact ⟨3, by omega, by go_num, KK2.out⟩ | (simp [intOf]))
        · go_wp2_with fail
          go_ret
          exact ⟨rfl, KX.out.trans HK.out⟩

end Go.Proofs.YtggplbenliaodaaGreatDoor
