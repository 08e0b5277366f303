/- ListsCanonical's walk: whatever is read is written as the same text. No condition but what its arguments read as. -/
import Derived.Test.YtldjhjbodhhnbaaDoorLc
namespace Go.Proofs.YtldjhjbodhhnbaaDoor
open Go.RowKit

set_option maxHeartbeats 4000000 in
set_option maxRecDepth 100000 in
theorem canonical_any (v0 v1 : Value) (xs0 xs1 : List (List Li.Fld)) (w : World) (he : Env w) (h0 : IsArg w v0 xs0) (h1 : IsArg w v1 xs1) (hg0 : ∀ x ∈ xs0, ArgEl Li.rowK x) (hg1 : ∀ x ∈ xs1, ArgEl Li.probeK x) (a c : Int) (ha : 0 ≤ a) (ha2 : a < 65536) (hc : 0 ≤ c) (hc2 : c < 256) (inn : List UInt8) (hin : inn.length ≤ 9223372036854775807) :
    Calls Tryd.prog 7 #[v0, v1, .agg #[.int .u16 a, .int .u8 c, .string ⟨inn.toArray⟩]] w fun E w' => E = .returned (.bool true) ∧ Kp w w' none := by
  have HE := Lib.hid he
  have H0 := Lib.hid h0
  have H1 := Lib.hid h1
  have G0 := Lib.hid hg0
  have G1 := Lib.hid hg1
  have L0 := Lib.hid h0.len
  have L1 := Lib.hid h1.len
  clear he h0 h1 hg0 hg1
  have F0 := Lib.hid (file_len (kind := Li.place) rfl rfl (by rw [List.length_map]; exact L0.out) (fun x hx => (cut_all G0.out x hx).1) (cut_short G0.out))
  have F1 := Lib.hid (file_len (kind := Li.probe) rfl rfl (by rw [List.length_map]; exact L1.out) (fun x hx => (cut_all G1.out x hx).1) (cut_short G1.out))
  have HB0 := Lib.hid (heap_alloc_new w (.cells #[.int .u16 a, .int .u8 c, .string ⟨inn.toArray⟩] 41))
  have K0 := Lib.hid ((Kp.refl w none).alloc (.cells #[.int .u16 a, .int .u8 c, .string ⟨inn.toArray⟩] 41))
  go_enter Tryd.func7, Tryd.ntmps7
  go_wp2_with fail
  refine (sanity_any _ (HE.out.kp0 K0.out)).mono ?_
  rintro e w1 ⟨rfl, k⟩
  have K1 := Lib.hid (K0.out.trans k)
  have HB1 := Lib.hid ((k.block _ (lt_of_block HB0.out) (by simp)).trans HB0.out)
  clear k
  go_wp2_with fail
  have K2 : Hid (Kp w w1.drew none) := Lib.hid K1.out.drew
  have HB2 : Hid (w1.drew.heap[w.heap.size]? = some (.cells #[.int .u16 a, .int .u8 c, .string ⟨inn.toArray⟩] 41 (0, 0))) := Lib.hid HB1.out
  refine wp_region_held_drew (S := fun w2 => w2.cell? ⟨w.heap.size, 0, none⟩ = some (.int .u16 a) ∧ w2.cell? ⟨w.heap.size, 1, none⟩ = some (.int .u8 c) ∧ w2.cell? ⟨w.heap.size, 2, none⟩ = some (.string ⟨inn.toArray⟩)) (by kernel_rfl) ?_ (fun hHeld => ?_)
  · exact ⟨by rw [Lib.cell_of_heap HB2.out]; rfl, by rw [Lib.cell_of_heap HB2.out]; rfl, by rw [Lib.cell_of_heap HB2.out]; rfl⟩
  refine wpAnyH_take (i := 0) (oi := _) (v := ?_) rfl (by kernel_rfl) (by kernel_rfl) (by kernel_rfl) (fun _ _ _ h => h) (Or.inl ⟨by rfl, ?_⟩) (by assumption) ?_
  rotate_left
  · (intro w hSw; (try dsimp only at hSw); go_simp <;> with_reducible rfl)
  try simp only [Act.put, List.getElem_toArray, List.getElem_cons_zero, List.setIfInBounds_toArray, List.set_cons_zero, List.set_cons_succ]
  refine wpAnyH_take (i := 1) (oi := _) (v := ?_) rfl (by kernel_rfl) (by kernel_rfl) (by kernel_rfl) (fun _ _ _ h => h) (Or.inl ⟨by rfl, ?_⟩) (by assumption) ?_
  rotate_left
  · (intro w hSw; (try dsimp only at hSw); go_simp <;> with_reducible rfl)
  try simp only [Act.put, List.getElem_toArray, List.getElem_cons_zero, List.getElem_cons_succ, List.setIfInBounds_toArray, List.set_cons_zero, List.set_cons_succ]
  refine wpAnyH_take (i := 5) (oi := _) (v := ?_) rfl (by kernel_rfl) (by kernel_rfl) (by kernel_rfl) (fun _ _ _ h => h) (Or.inl ⟨by rfl, ?_⟩) (by assumption) ?_
  rotate_left
  · (intro w hSw; (try dsimp only at hSw); go_simp <;> with_reducible rfl)
  try simp only [Act.put, List.getElem_toArray, List.getElem_cons_zero, List.getElem_cons_succ, List.setIfInBounds_toArray, List.set_cons_zero, List.set_cons_succ]
  refine wpAnyH_take (i := 6) (oi := _) (v := ?_) rfl (by kernel_rfl) (by kernel_rfl) (by kernel_rfl) (fun _ _ _ h => h) (Or.inl ⟨by rfl, ?_⟩) (by assumption) ?_
  rotate_left
  · (intro w hSw; (try dsimp only at hSw); go_simp <;> with_reducible rfl)
  try simp only [Act.put, List.getElem_toArray, List.getElem_cons_zero, List.getElem_cons_succ, List.setIfInBounds_toArray, List.set_cons_zero, List.set_cons_succ]
  refine wpAnyH_ready (rs := [2]) (by kernel_rfl) (by simp) ?_
  refine AllReadyH.cons (o := _) rfl (fun K hK => ?_) AllReadyH.nil
  clear hHeld
  go_simp
  refine (rows_any v0 xs0 _ (H0.out.keep K2.out) G0.out).mono ?_
  rintro e w3 ⟨u0, rfl, hr, k⟩
  have K3 := Lib.hid (K2.out.trans k)
  have HB3 := Lib.hid ((k.block _ (lt_of_block HB2.out) (by simp)).trans HB2.out)
  have R0 := Lib.hid hr
  clear hr k
  try go_wp2_with fail
  refine hK.out _ _ ⟨by rw [Lib.cell_of_heap HB3.out]; rfl, by rw [Lib.cell_of_heap HB3.out]; rfl, by rw [Lib.cell_of_heap HB3.out]; rfl⟩ (fun hHeld => ?_)
  clear hK K
  try simp only [Act.put, List.getElem_toArray, List.getElem_cons_zero, List.getElem_cons_succ, List.setIfInBounds_toArray, List.set_cons_zero, List.set_cons_succ]
  refine wpAnyH_ready (rs := [3]) (by kernel_rfl) (by simp) ?_
  refine AllReadyH.cons (o := _) rfl (fun K hK => ?_) AllReadyH.nil
  clear hHeld
  go_simp
  refine (writeRows_any u0 (xs0.map cutX) _ (HE.out.kp0 K3.out) R0.out (by rw [List.length_map]; have := L0.out; omega) (cut_all G0.out)).mono ?_
  rintro e w4 ⟨rfl, k⟩
  have K4 := Lib.hid (K3.out.trans k)
  have HB4 := Lib.hid ((k.block _ (lt_of_block HB3.out) (by simp)).trans HB3.out)
  clear k
  try go_wp2_with fail
  refine hK.out _ _ ⟨by rw [Lib.cell_of_heap HB4.out]; rfl, by rw [Lib.cell_of_heap HB4.out]; rfl, by rw [Lib.cell_of_heap HB4.out]; rfl⟩ (fun hHeld => ?_)
  clear hK K
  try simp only [Act.put, List.getElem_toArray, List.getElem_cons_zero, List.getElem_cons_succ, List.setIfInBounds_toArray, List.set_cons_zero, List.set_cons_succ]
  refine wpAnyH_ready (rs := [4]) (by kernel_rfl) (by simp) ?_
  refine AllReadyH.cons (o := _) rfl (fun K hK => ?_) AllReadyH.nil
  clear hHeld
  go_simp
  refine (apply_any a c ha ha2 hc hc2 inn (Li.fileOf Li.place (xs0.map cutX)) hin (by have := F0.out; omega) _).mono ?_
  rintro e w5 ⟨⟨r0, rfl, hr⟩, k⟩
  have HRL0 : Hid (r0.length ≤ 12030) := Lib.hid (by have := F0.out; omega)
  have K5 := Lib.hid (K4.out.trans k)
  have HB5 := Lib.hid ((k.block _ (lt_of_block HB4.out) (by simp)).trans HB4.out)
  clear hr k
  try go_wp2_with fail
  refine hK.out _ _ ⟨by rw [Lib.cell_of_heap HB5.out]; rfl, by rw [Lib.cell_of_heap HB5.out]; rfl, by rw [Lib.cell_of_heap HB5.out]; rfl⟩ (fun hHeld => ?_)
  clear hK K
  try simp only [Act.put, List.getElem_toArray, List.getElem_cons_zero, List.getElem_cons_succ, List.setIfInBounds_toArray, List.set_cons_zero, List.set_cons_succ]
  refine wpAnyH_ready (rs := [7]) (by kernel_rfl) (by simp) ?_
  refine AllReadyH.cons (o := _) rfl (fun K hK => ?_) AllReadyH.nil
  clear hHeld
  go_simp
  refine (probes_any v1 xs1 _ (H1.out.keep K5.out) G1.out).mono ?_
  rintro e w6 ⟨u1, rfl, hr, k⟩
  have K6 := Lib.hid (K5.out.trans k)
  have HB6 := Lib.hid ((k.block _ (lt_of_block HB5.out) (by simp)).trans HB5.out)
  have R1 := Lib.hid hr
  clear hr k
  try go_wp2_with fail
  refine hK.out _ _ ⟨by rw [Lib.cell_of_heap HB6.out]; rfl, by rw [Lib.cell_of_heap HB6.out]; rfl, by rw [Lib.cell_of_heap HB6.out]; rfl⟩ (fun hHeld => ?_)
  clear hK K
  try simp only [Act.put, List.getElem_toArray, List.getElem_cons_zero, List.getElem_cons_succ, List.setIfInBounds_toArray, List.set_cons_zero, List.set_cons_succ]
  refine wpAnyH_ready (rs := [8]) (by kernel_rfl) (by simp) ?_
  refine AllReadyH.cons (o := _) rfl (fun K hK => ?_) AllReadyH.nil
  clear hHeld
  go_simp
  refine (writeProbes_any u1 (xs1.map cutX) _ (HE.out.kp0 K6.out) R1.out (by rw [List.length_map]; have := L1.out; omega) (cut_all G1.out)).mono ?_
  rintro e w7 ⟨rfl, k⟩
  have K7 := Lib.hid (K6.out.trans k)
  have HB7 := Lib.hid ((k.block _ (lt_of_block HB6.out) (by simp)).trans HB6.out)
  clear k
  try go_wp2_with fail
  refine hK.out _ _ ⟨by rw [Lib.cell_of_heap HB7.out]; rfl, by rw [Lib.cell_of_heap HB7.out]; rfl, by rw [Lib.cell_of_heap HB7.out]; rfl⟩ (fun hHeld => ?_)
  clear hK K
  try simp only [Act.put, List.getElem_toArray, List.getElem_cons_zero, List.getElem_cons_succ, List.setIfInBounds_toArray, List.set_cons_zero, List.set_cons_succ]
  refine wpAnyH_ready (rs := [9]) (by kernel_rfl) (by simp) ?_
  refine AllReadyH.cons (o := _) rfl (fun K hK => ?_) AllReadyH.nil
  clear hHeld
  go_simp
  refine (apply_any a c ha ha2 hc hc2 inn (Li.fileOf Li.probe (xs1.map cutX)) hin (by have := F1.out; omega) _).mono ?_
  rintro e w8 ⟨⟨r1, rfl, hr⟩, k⟩
  have HRL1 : Hid (r1.length ≤ 12030) := Lib.hid (by have := F1.out; omega)
  have K8 := Lib.hid (K7.out.trans k)
  have HB8 := Lib.hid ((k.block _ (lt_of_block HB7.out) (by simp)).trans HB7.out)
  clear hr k
  try go_wp2_with fail
  refine hK.out _ _ ⟨by rw [Lib.cell_of_heap HB8.out]; rfl, by rw [Lib.cell_of_heap HB8.out]; rfl, by rw [Lib.cell_of_heap HB8.out]; rfl⟩ (fun hHeld => ?_)
  clear hK K
  try simp only [Act.put, List.getElem_toArray, List.getElem_cons_zero, List.getElem_cons_succ, List.setIfInBounds_toArray, List.set_cons_zero, List.set_cons_succ]
  refine wpAnyH_take (i := 10) (oi := _) (v := ?_) rfl (by kernel_rfl) (by kernel_rfl) (by kernel_rfl) (fun _ _ _ h => h) (Or.inl ⟨by rfl, ?_⟩) (by assumption) ?_
  rotate_left
  · (intro w hSw; (try dsimp only at hSw); go_simp <;> with_reducible rfl)
  try simp only [Act.put, List.getElem_toArray, List.getElem_cons_zero, List.getElem_cons_succ, List.setIfInBounds_toArray, List.set_cons_zero, List.set_cons_succ]
  refine wpAnyH_ready (rs := [11]) (by kernel_rfl) (by simp) ?_
  refine AllReadyH.cons (o := _) rfl (fun K hK => ?_) AllReadyH.nil
  clear hHeld
  go_simp
  try go_wp2_with fail
  refine hK.out _ _ ⟨by rw [Lib.cell_of_heap HB8.out]; rfl, by rw [Lib.cell_of_heap HB8.out]; rfl, by rw [Lib.cell_of_heap HB8.out]; rfl⟩ (fun hHeld => ?_)
  clear hK K hHeld
  refine wpAnyH_done (by kernel_rfl) ?_ _
  go_wp2_with fail
  cases ho : Li.readFile Li.place Li.rowK r0 with
  | ok l =>
    have hcan := Li.read_can ho
    have hsh := file_short (kind := Li.place) (l := l) (N := 12030) (by rw [← hcan.1]; exact HRL0.out)
    have HO := Lib.hid ho
    have HCAN := Lib.hid hcan
    have HSH := Lib.hid hsh
    clear ho hcan hsh
    refine (readRows_any r0 _ _ (HE.out.kp0 K8.out) (by have := HRL0.out; omega) HO.out).mono ?_
    rintro e w9 ⟨⟨v, rfl, hv⟩, k⟩
    have K9 := Lib.hid (K8.out.trans k)
    have HV := Lib.hid (of_isRows hv (fun x hx => good_six (HCAN.out.2 x hx) rfl))
    clear hv k
    go_wp2_with fail
    refine (wrows_lit v l r0 _ (HE.out.kp0 K9.out) HV.out (by have := HSH.out.1; omega) (fun x hx => ⟨HCAN.out.2 x hx, fun t ht => by have := HSH.out.2 x hx t ht; omega⟩) HCAN.out.1.symm).mono ?_
    rintro e w10 ⟨rfl, k⟩
    have K10 := Lib.hid (K9.out.trans k)
    clear k HO HCAN HSH HV
    go_wp2_with fail
    cases ho : Li.readFile Li.probe Li.probeK r1 with
    | ok l =>
      have hcan := Li.read_can ho
      have hsh := file_short (kind := Li.probe) (l := l) (N := 12030) (by rw [← hcan.1]; exact HRL1.out)
      have HO := Lib.hid ho
      have HCAN := Lib.hid hcan
      have HSH := Lib.hid hsh
      clear ho hcan hsh
      refine (readProbes_any r1 _ _ (HE.out.kp0 K10.out) (by have := HRL1.out; omega) HO.out).mono ?_
      rintro e w11 ⟨⟨v, rfl, hv⟩, k⟩
      have K11 := Lib.hid (K10.out.trans k)
      have HV := Lib.hid (of_isRows hv (fun x hx => good_six (HCAN.out.2 x hx) rfl))
      clear hv k
      go_wp2_with fail
      refine (wprobes_lit v l r1 _ (HE.out.kp0 K11.out) HV.out (by have := HSH.out.1; omega) (fun x hx => ⟨HCAN.out.2 x hx, fun t ht => by have := HSH.out.2 x hx t ht; omega⟩) HCAN.out.1.symm).mono ?_
      rintro e w12 ⟨rfl, k⟩
      have K12 := Lib.hid (K11.out.trans k)
      clear k HO HCAN HSH HV
      go_wp2_with fail
      go_ret
      exact ⟨rfl, K12.out⟩
    | bad n =>
      have HO := Lib.hid ho
      clear ho
      refine (readProbes_any r1 _ _ (HE.out.kp0 K10.out) (by have := HRL1.out; omega) HO.out).mono ?_
      rintro e w11 ⟨rfl, k⟩
      have K11 := Lib.hid (K10.out.trans k)
      clear k HO
      go_wp2_with fail
      go_ret
      exact ⟨rfl, K11.out⟩
  | bad n =>
    have HO := Lib.hid ho
    clear ho
    refine (readRows_any r0 _ _ (HE.out.kp0 K8.out) (by have := HRL0.out; omega) HO.out).mono ?_
    rintro e w9 ⟨rfl, k⟩
    have K9 := Lib.hid (K8.out.trans k)
    clear k HO
    go_wp2_with fail
    cases ho : Li.readFile Li.probe Li.probeK r1 with
    | ok l =>
      have hcan := Li.read_can ho
      have hsh := file_short (kind := Li.probe) (l := l) (N := 12030) (by rw [← hcan.1]; exact HRL1.out)
      have HO := Lib.hid ho
      have HCAN := Lib.hid hcan
      have HSH := Lib.hid hsh
      clear ho hcan hsh
      refine (readProbes_any r1 _ _ (HE.out.kp0 K9.out) (by have := HRL1.out; omega) HO.out).mono ?_
      rintro e w10 ⟨⟨v, rfl, hv⟩, k⟩
      have K10 := Lib.hid (K9.out.trans k)
      have HV := Lib.hid (of_isRows hv (fun x hx => good_six (HCAN.out.2 x hx) rfl))
      clear hv k
      go_wp2_with fail
      refine (wprobes_lit v l r1 _ (HE.out.kp0 K10.out) HV.out (by have := HSH.out.1; omega) (fun x hx => ⟨HCAN.out.2 x hx, fun t ht => by have := HSH.out.2 x hx t ht; omega⟩) HCAN.out.1.symm).mono ?_
      rintro e w11 ⟨rfl, k⟩
      have K11 := Lib.hid (K10.out.trans k)
      clear k HO HCAN HSH HV
      go_wp2_with fail
      go_ret
      exact ⟨rfl, K11.out⟩
    | bad n =>
      have HO := Lib.hid ho
      clear ho
      refine (readProbes_any r1 _ _ (HE.out.kp0 K9.out) (by have := HRL1.out; omega) HO.out).mono ?_
      rintro e w10 ⟨rfl, k⟩
      have K10 := Lib.hid (K9.out.trans k)
      clear k HO
      go_wp2_with fail
      go_ret
      exact ⟨rfl, K10.out⟩
end Go.Proofs.YtldjhjbodhhnbaaDoor
