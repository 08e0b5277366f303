/- WireWrites, walked. No condition but what strings and slices can be. -/
import Derived.Test.YtfcbogoahangoaaDoorWc
import Derived.Deep.RegionWith
namespace Go.Proofs.YtfcbogoahangoaaDoor
open Go.RowKit

theorem isRow_slice {w : World} {v : Value} {xs : List Value} (h : IsRow w v xs) : ∃ ao cap, v = .slice ao xs.length cap := by
  rcases h with ⟨ao, cap, rfl, rfl⟩ | ⟨b, off, cap, rfl, _⟩
  · exact ⟨ao, cap, rfl⟩
  · exact ⟨_, cap, rfl⟩
theorem isRow_at {w : World} {ao : Option Addr} {n cap : Nat} {xs : List Value} (h : IsRow w (.slice ao n cap) xs) (i : Nat) (hi : i < xs.length) : ∃ b off, ao = some ⟨b, off, none⟩ ∧ b < w.heap.size ∧ w.cell? ⟨b, off + i, none⟩ = xs[i]? := by
  rcases h with ⟨_, _, _, rfl⟩ | ⟨b, off, _, hv, _, hb, hr⟩
  · simp at hi
  · injection hv with hv
    exact ⟨b, off, hv, hb, hr i hi⟩

set_option maxHeartbeats 4000000 in
set_option maxRecDepth 100000 in
theorem writes_any (ao : Option Addr) (cap n : Nat) (xs : List Int) (v : Value) (ts : List (List UInt8)) (w : World) (he : Env w) (hxn : xs.length = min n 40) (hcap : n ≤ cap) (hn : n ≤ 9223372036854775807) (hrow : IsRow w (.slice ao xs.length cap) (xs.map vInt)) (hI : ∀ x ∈ xs, Wr.I64 x)
    (ht : IsRow w v (ts.map vStr)) (htn : ts.length ≤ 9223372036854775807) (htl : ∀ x ∈ ts, x.length ≤ 9223372036854775807) : Calls Tryd.prog 3 #[.slice ao n cap, v] w fun E w' => E = .returned (.bool true) ∧ Kp w w' none := by
  have HE := Lib.hid he
  have HR := Lib.hid hrow
  have HI := Lib.hid hI
  have HT := Lib.hid ht
  have HTL := Lib.hid htl
  clear he hrow hI ht htl
  have HXN := Lib.hid hxn
  have hx40 : xs.length ≤ 40 := by omega
  clear hxn
  have hm0 : (0 : Int) ≤ min (n : Int) 40 := by omega
  have hm1 : min (n : Int) 40 ≤ (n : Int) := by omega
  have hm2 : min (n : Int) 40 ≤ (cap : Int) := by omega
  go_enter Tryd.func3, Tryd.ntmps3
  go_wp2_with fail
  refine (sanity_any _ HE.out).mono ?_
  rintro e w1 ⟨rfl, k⟩
  have K1 := Lib.hid k
  clear k
  go_wp2_with fail
  go_region_held3 (fun w' => True) (trivial) (first | (go_at_call 11; refine (cut_any v ts _ (HT.out.keep K1.out.drew) htn HTL.out).mono ?_; rintro e w2 ⟨v2, rfl, hv2, k2⟩))
  all_goals
    have HV2 := Lib.hid (own_isRow hv2)
    have K2 := Lib.hid (K1.out.drew.trans k2)
    clear hv2 k2
    have hxm : (min (n : Int) 40).toNat = xs.length := by have := HXN.out; omega
    have HXM := Lib.hid hxm
    clear hxm
    rw [HXM.out]
    go_wp2_with fail
    generalize hus : cutL ts = us at HV2
    have hu20 : us.length ≤ 20 := by rw [← hus]; exact cutL_len ts
    have HU : Hid (∀ x ∈ us, x.length ≤ 100) := Lib.hid (by rw [← hus]; exact cutL_mem ts)
    clear hus
    obtain ⟨uo, uc, rfl⟩ := isRow_slice HV2.out
    rw [List.length_map] at HV2 ⊢
    go_loopw [20] (fun i wr => ∃ k : Nat, k ≤ xs.length ∧ i = .int .i64 k ∧ Kp w2 wr none) (fun i _ => xs.length - (intOf i).toNat)
    case atStart => exact ⟨0, Nat.zero_le _, rfl, Kp.refl _ _⟩
    case round =>
      obtain ⟨k, hk, rfl, hK⟩ := hrel
      have HK := Lib.hid hK
      clear hK
      by_cases hlt : k < xs.length
      · obtain ⟨b, off, rfl, hb, hcw⟩ := isRow_at HR.out k (by simpa using hlt)
        have hc : wr.cell? ⟨b, off + k, none⟩ = some (vInt xs[k]) := by
          rw [(K2.out.trans HK.out).below.cell (p := ⟨b, off + k, none⟩) hb, hcw]; simp [hlt]
        clear hcw
        have HX := Lib.hid (HI.out xs[k] (List.getElem_mem hlt))
        generalize xs[k] = x at hc HX
        unfold vInt at hc
        go_wp2_with (first | (go_at_call 12; refine (wint_any x _ (HE.out.kp0 (K2.out.trans HK.out)) HX.out).mono ?_; rintro e w3 ⟨rfl, k3⟩; have K3 := Lib.hid (HK.out.trans k3); clear k3) | (go_at_call 13; refine (rint_any x _ HX.out).mono ?_; rintro e w4 ⟨rfl, k4⟩; have K4 := Lib.hid (K3.out.trans k4); clear k4))
        go_roundw
        case rel => exact ⟨k + 1, by omega, by go_num, K4.out⟩
        case measure => simp [intOf]; omega
      · have hkn : k = xs.length := by omega
        subst hkn
        obtain ⟨wo, rfl⟩ : ∃ wo : World, wo = wr := ⟨_, rfl⟩
        go_wp2_with fail
        go_loopw [32] (fun i wr' => ∃ k : Nat, k ≤ us.length ∧ i = .int .i64 k ∧ Kp w2 wr' none) (fun i _ => us.length - (intOf i).toNat)
        case atStart => exact ⟨0, Nat.zero_le _, rfl, HK.out⟩
        case round =>
          clear HK
          obtain ⟨k, hk, rfl, hK⟩ := hrel
          have HK := Lib.hid hK
          clear hK
          by_cases hlt : k < us.length
          · obtain ⟨b, off, rfl, hb, hcw⟩ := isRow_at HV2.out k (by simpa using hlt)
            have hc : wr.cell? ⟨b, off + k, none⟩ = some (vStr us[k]) := by
              rw [HK.out.below.cell (p := ⟨b, off + k, none⟩) hb, hcw]; simp [hlt]
            clear hcw
            have HX := Lib.hid (HU.out us[k] (List.getElem_mem hlt))
            generalize us[k] = x at hc HX
            unfold vStr at hc
            go_wp2_with (first | (go_at_call 14; refine (wtext_any x _ (HE.out.kp0 (K2.out.trans HK.out)) (by have := HX.out; omega)).mono ?_; rintro e w3 ⟨rfl, k3⟩; have K3 := Lib.hid (HK.out.trans k3); clear k3) | (go_at_call 15; refine (rtext_any x _ (by have := HX.out; omega)).mono ?_; rintro e w4 ⟨rfl, k4⟩; have K4 := Lib.hid (K3.out.trans k4); clear k4))
            go_roundw
            case rel => exact ⟨k + 1, by omega, by go_num, K4.out⟩
            case measure => simp [intOf]; omega
          · have hkn : k = us.length := by omega
            subst hkn
            have hlx : xs.length < 65536 := by omega
            have hlu : us.length < 65536 := by omega
            go_wp2_with (first | (go_at_call 16; refine (wints_any _ xs _ (HE.out.kp0 (K2.out.trans HK.out)) (HR.out.keep (K2.out.trans HK.out)) HI.out hlx).mono ?_; rintro e w5 ⟨rfl, k5⟩; have K5 := Lib.hid (HK.out.trans k5); clear k5) | (go_at_call 17; refine (rints_any _ xs _ (HR.out.keep (K2.out.trans K5.out)) HI.out hlx).mono ?_; rintro e w6 ⟨rfl, k6⟩; have K6 := Lib.hid (K5.out.trans k6); clear k6) | (go_at_call 18; refine (wtexts_any _ us _ (HE.out.kp0 (K2.out.trans K6.out)) (HV2.out.keep K6.out) (fun x hx => by have := HU.out x hx; omega) hlu).mono ?_; rintro e w7 ⟨rfl, k7⟩; have K7 := Lib.hid (K6.out.trans k7); clear k7) | (go_at_call 19; refine (rtexts_any _ us _ (HV2.out.keep K7.out) (fun x hx => by have := HU.out x hx; omega) hlu).mono ?_; rintro e w8 ⟨rfl, k8⟩; have K8 := Lib.hid (K7.out.trans k8); clear k8))
            go_ret
            exact ⟨rfl, K2.out.trans K8.out⟩

end Go.Proofs.YtfcbogoahangoaaDoor
