/- ListsWrites' walk: both files are equal to those of the reference. No condition but what its arguments read as. -/
import Derived.Test.YtldjhjbodhhnbaaDoorLc
namespace Go.Proofs.YtldjhjbodhhnbaaDoor
open Go.RowKit

set_option maxHeartbeats 4000000 in
set_option maxRecDepth 100000 in
theorem writes_any (v0 v1 : Value) (xs0 xs1 : List (List Li.Fld)) (w : World) (he : Env w) (h0 : IsArg w v0 xs0) (h1 : IsArg w v1 xs1) (hg0 : ∀ x ∈ xs0, ArgEl Li.rowK x) (hg1 : ∀ x ∈ xs1, ArgEl Li.probeK x) :
    Calls Tryd.prog 3 #[v0, v1] w fun E w' => E = .returned (.bool true) ∧ Kp w w' none := by
  have HE := Lib.hid he
  have H0 := Lib.hid h0
  have H1 := Lib.hid h1
  have G0 := Lib.hid hg0
  have G1 := Lib.hid hg1
  have L0 := Lib.hid h0.len
  have L1 := Lib.hid h1.len
  clear he h0 h1 hg0 hg1
  go_enter Tryd.func3, Tryd.ntmps3
  go_wp2_with fail
  refine (sanity_any _ HE.out).mono ?_
  rintro e w1 ⟨rfl, k⟩
  have K1 := Lib.hid k
  clear k
  go_wp2_with fail
  refine (rows_any v0 xs0 _ (H0.out.keep K1.out) G0.out).mono ?_
  rintro e w2 ⟨u2, rfl, hr, k⟩
  have K2 := Lib.hid (K1.out.trans k)
  have R2 := Lib.hid hr
  clear hr k
  go_wp2_with fail
  refine (writeRows_any u2 (xs0.map cutX) _ (HE.out.kp0 K2.out) R2.out (by rw [List.length_map]; have := L0.out; omega) (cut_all G0.out)).mono ?_
  rintro e w3 ⟨rfl, k⟩
  have K3 := Lib.hid (K2.out.trans k)
  clear k
  go_wp2_with fail
  refine (rows_any v0 xs0 _ (H0.out.keep K3.out) G0.out).mono ?_
  rintro e w4 ⟨u4, rfl, hr, k⟩
  have K4 := Lib.hid (K3.out.trans k)
  have R4 := Lib.hid hr
  clear hr k
  go_wp2_with fail
  refine (rwriteRows_any u4 (xs0.map cutX) _ R4.out (by rw [List.length_map]; have := L0.out; omega) (cut_all G0.out)).mono ?_
  rintro e w5 ⟨rfl, k⟩
  have K5 := Lib.hid (K4.out.trans k)
  clear k
  go_wp2_with fail
  refine (probes_any v1 xs1 _ (H1.out.keep K5.out) G1.out).mono ?_
  rintro e w6 ⟨u6, rfl, hr, k⟩
  have K6 := Lib.hid (K5.out.trans k)
  have R6 := Lib.hid hr
  clear hr k
  go_wp2_with fail
  refine (writeProbes_any u6 (xs1.map cutX) _ (HE.out.kp0 K6.out) R6.out (by rw [List.length_map]; have := L1.out; omega) (cut_all G1.out)).mono ?_
  rintro e w7 ⟨rfl, k⟩
  have K7 := Lib.hid (K6.out.trans k)
  clear k
  go_wp2_with fail
  refine (probes_any v1 xs1 _ (H1.out.keep K7.out) G1.out).mono ?_
  rintro e w8 ⟨u8, rfl, hr, k⟩
  have K8 := Lib.hid (K7.out.trans k)
  have R8 := Lib.hid hr
  clear hr k
  go_wp2_with fail
  refine (rwriteProbes_any u8 (xs1.map cutX) _ R8.out (by rw [List.length_map]; have := L1.out; omega) (cut_all G1.out)).mono ?_
  rintro e w9 ⟨rfl, k⟩
  have K9 := Lib.hid (K8.out.trans k)
  clear k
  go_wp2_with fail
  go_ret
  exact ⟨rfl, K9.out⟩

end Go.Proofs.YtldjhjbodhhnbaaDoor
