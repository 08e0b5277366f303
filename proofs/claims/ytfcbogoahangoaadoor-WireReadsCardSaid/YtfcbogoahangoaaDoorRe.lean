/- WireReads, walked. No condition but what strings and slices can be. -/
import Derived.Test.YtfcbogoahangoaaDoorSn
import Derived.Test.YtfcbogoahangoaaDoorRb
import Derived.Test.YtfcbogoahangoaaDoorCa
namespace Go.Proofs.YtfcbogoahangoaaDoor
open Go.RowKit

def ReadRel (w : World) (r q : Nat) (d : List UInt8) (cs : List Int) (i : Value) (wr : World) : Prop :=
  ∃ (k : Nat) (st : Option (List UInt8)), k ≤ 12 ∧ k ≤ cs.length ∧ i = .int .i64 k ∧ RdIs wr r st ∧ RfIs wr q d st ∧ Kp w wr none

theorem kp2 {w wr w1 w2 : World} {r q : Nat} (h : Kp w wr none) (k1 : Kp wr w1 (some r)) (k2 : Kp w1 w2 (some q)) (hr : w.heap.size ≤ r) (hq : w.heap.size ≤ q) : Kp w w2 none :=
  Kp.of_own (Kp.of_own h k1 hr) k2 hq
theorem rf_len {w : World} {q : Nat} {d : List UInt8} {st : Option (List UInt8)} (h : RfIs w q d st) : (st.getD []).length ≤ d.length := by
  obtain ⟨p, hp, hl, _⟩ := h
  cases st with
  | none => simp
  | some l => rw [hl l rfl]; simp

set_option maxHeartbeats 4000000 in
set_option maxRecDepth 100000 in
theorem reads_row (w : World) (l : List UInt8) (hl : l.length ≤ 9223372036854775807) (b off cap : Nat) (cs : List Int) (hn : cs.length ≤ 9223372036854775807) (_hcap : cs.length ≤ cap) (hb : b < w.heap.size) (hrow : ∀ k, (h : k < cs.length) → w.cell? ⟨b, off + k, none⟩ = some (.int .u8 cs[k]) ∧ 0 ≤ cs[k] ∧ cs[k] < 256) (he : Env w) : Calls Tryd.prog 4 #[.string ⟨l.toArray⟩, .slice (some ⟨b, off, none⟩) cs.length cap] w fun E w' => E = .returned (.bool true) ∧ Kp w w' none := by
  have HE := Lib.hid he
  have HROW := Lib.hid hrow
  clear he hrow
  have hcut : ∃ d : List UInt8, d.length ≤ 200 ∧ Hid (d = l.take 200) := ⟨_, by simp; omega, Lib.hid rfl⟩
  obtain ⟨d, hd, HD⟩ := hcut
  have hx : (⟨l.toArray⟩ : ByteArray).extract 0 (min (l.length : Int) 200).toNat = ⟨d.toArray⟩ := by
    rw [ext_take, HD.out]; congr 2
    by_cases h : l.length ≤ 200
    · rw [List.take_of_length_le (by omega), List.take_of_length_le h]
    · congr 1; omega
  have HX := Lib.hid hx
  clear hx
  go_enter Tryd.func4, Tryd.ntmps4
  go_wp2_with fail
  refine (sanity_any _ HE.out).mono ?_
  rintro e w1 ⟨rfl, k⟩
  have K1 := Lib.hid k
  clear k
  go_wp2_with fail
  rw [HX.out]
  refine (new_any d _).mono ?_
  rintro e w2 ⟨rfl, h2, k2⟩
  have H2 := Lib.hid h2
  have K2 := Lib.hid k2
  clear h2 k2
  go_wp2_with fail
  refine (rfnew_any d _).mono ?_
  rintro e w3 ⟨rfl, h3, k3⟩
  have H3 := Lib.hid h3
  have H4 := Lib.hid (H2.out.keep k3 (by simp))
  have K3 := Lib.hid ((K1.out.trans K2.out).trans k3)
  have hz1 : w.heap.size ≤ w1.heap.size := K1.out.size
  have hz2 : w1.heap.size < w2.heap.size := H2.out.lt
  have hz6 : 6 ≤ w.heap.size := HE.out.big
  clear h3 k3
  go_wp2_with fail
  go_loopw [8] (fun i wr => ReadRel w w1.heap.size w2.heap.size d cs i wr) (fun i _ => 12 - (intOf i).toNat)
  case atStart => exact ⟨0, some d, by omega, by omega, rfl, H4.out, H3.out, K3.out⟩
  case round =>
    obtain ⟨k, st, hk, hkn, rfl, hR, hF, hK⟩ := hrel
    have HR := Lib.hid hR
    have HF := Lib.hid hF
    have HK := Lib.hid hK
    have hst : (st.getD []).length ≤ 200 := by have := rf_len hF; omega
    clear hR hF hK
    by_cases hlt : k < 12 ∧ k < cs.length
    · obtain ⟨hlt1, hlt2⟩ := hlt
      obtain ⟨hcell, hc0, hc255⟩ := HROW.out k hlt2
      have hcell' : wr.cell? ⟨b, off + k, none⟩ = some (.int .u8 cs[k]) := by rw [HK.out.below.cell (p := ⟨b, off + k, none⟩) hb]; exact hcell
      obtain ⟨c, hcc⟩ : ∃ c, cs[k] = c := ⟨_, rfl⟩
      rw [hcc] at hcell' hc0 hc255
      have HCC := Lib.hid hcc
      have hm : cs[k] % 4 = 0 ∨ cs[k] % 4 = 1 ∨ cs[k] % 4 = 2 ∨ cs[k] % 4 = 3 := by rw [hcc]; omega
      have HM := Lib.hid hm
      clear hcell hcc hm
      by_cases hm0 : cs[k] % 4 = 0
      · have hc4 : (c % 4 == 0) = true := by rw [← HCC.out, hm0]; rfl
        have hn1 : (c % 4 == 1) = false := by rw [← HCC.out, hm0]; rfl
        have hn2 : (c % 4 == 2) = false := by rw [← HCC.out, hm0]; rfl
        have hn3 : (c % 4 == 3) = false := by rw [← HCC.out, hm0]; rfl
        clear hm0
        cases hp : st.bind Wr.pInt with
        | none =>
          have HP := Lib.hid hp
          clear hp
          go_wp2_with (first | (go_at_call 22; have hq := int_any w1.heap.size st wr (HE.out.kp0 HK.out) (by omega) (by omega) HR.out; rw [HP.out] at hq; refine hq.mono ?_; clear hq; rintro e wa ⟨⟨rfl, h1⟩, k1⟩; have H1 := Lib.hid h1; have K1' := Lib.hid k1; clear h1 k1; skip) | (go_at_call 23; have hq := rfint_any w2.heap.size d st wa (by omega) (HF.out.keep K1'.out (by simp; omega)); rw [HP.out] at hq; refine hq.mono ?_; clear hq; rintro e wb ⟨⟨rfl, h2⟩, k2⟩; have H2' := Lib.hid h2; have H1' := Lib.hid (H1.out.keep k2 (by simp; omega)); have K2' := Lib.hid (kp2 HK.out K1'.out k2 (by omega) (by omega)); clear h2 k2) | (go_at_call 32; refine (left_any _ _ _ H1'.out).mono ?_; rintro e w' ⟨rfl, rfl⟩) | (go_at_call 33; refine (rfleft_any _ _ _ _ (by omega) H2'.out).mono ?_; rintro e w' ⟨rfl, n5, rfl⟩; have H5 := Lib.hid (H1'.out.drewN n5); have H6 := Lib.hid (H2'.out.drewN n5); have K5 := Lib.hid (K2'.out.drewN n5)) | (go_at_call 34; refine (bad_any _ _ _ H5.out).mono ?_; rintro e w' ⟨rfl, rfl⟩) | (go_at_call 35; refine (rfbad_any _ _ _ _ H6.out).mono ?_; rintro e w' ⟨rfl, rfl⟩))
          go_roundw
          case rel => exact ⟨k + 1, none, by omega, by omega, by go_num, H5.out, H6.out, K5.out⟩
          case measure => simp [intOf]; omega
        | some xt =>
          obtain ⟨x, t⟩ := xt
          have HP := Lib.hid hp
          clear hp
          go_wp2_with (first | (go_at_call 22; have hq := int_any w1.heap.size st wr (HE.out.kp0 HK.out) (by omega) (by omega) HR.out; rw [HP.out] at hq; refine hq.mono ?_; clear hq; rintro e wa ⟨⟨rfl, h1⟩, k1⟩; have H1 := Lib.hid h1; have K1' := Lib.hid k1; clear h1 k1; skip) | (go_at_call 23; have hq := rfint_any w2.heap.size d st wa (by omega) (HF.out.keep K1'.out (by simp; omega)); rw [HP.out] at hq; refine hq.mono ?_; clear hq; rintro e wb ⟨⟨rfl, h2⟩, k2⟩; have H2' := Lib.hid h2; have H1' := Lib.hid (H1.out.keep k2 (by simp; omega)); have K2' := Lib.hid (kp2 HK.out K1'.out k2 (by omega) (by omega)); clear h2 k2) | (go_at_call 32; refine (left_any _ _ _ H1'.out).mono ?_; rintro e w' ⟨rfl, rfl⟩) | (go_at_call 33; refine (rfleft_any _ _ _ _ (by omega) H2'.out).mono ?_; rintro e w' ⟨rfl, n5, rfl⟩; have H5 := Lib.hid (H1'.out.drewN n5); have H6 := Lib.hid (H2'.out.drewN n5); have K5 := Lib.hid (K2'.out.drewN n5)) | (go_at_call 34; refine (bad_any _ _ _ H5.out).mono ?_; rintro e w' ⟨rfl, rfl⟩) | (go_at_call 35; refine (rfbad_any _ _ _ _ H6.out).mono ?_; rintro e w' ⟨rfl, rfl⟩))
          go_roundw
          case rel => exact ⟨k + 1, (some t), by omega, by omega, by go_num, H5.out, H6.out, K5.out⟩
          case measure => simp [intOf]; omega
      by_cases hm1 : cs[k] % 4 = 1
      · have hc4 : (c % 4 == 1) = true := by rw [← HCC.out, hm1]; rfl
        have hn0 : (c % 4 == 0) = false := by rw [← HCC.out, hm1]; rfl
        have hn2 : (c % 4 == 2) = false := by rw [← HCC.out, hm1]; rfl
        have hn3 : (c % 4 == 3) = false := by rw [← HCC.out, hm1]; rfl
        clear hm1 hm0
        cases hp : st.bind Wr.pText with
        | none =>
          have HP := Lib.hid hp
          clear hp
          go_wp2_with (first | (go_at_call 24; have hq := text_any w1.heap.size st wr (HE.out.kp0 HK.out) (by omega) (by omega) HR.out; rw [HP.out] at hq; refine hq.mono ?_; clear hq; rintro e wa ⟨⟨rfl, h1⟩, k1⟩; have H1 := Lib.hid h1; have K1' := Lib.hid k1; clear h1 k1; skip) | (go_at_call 25; have hq := rftext_any w2.heap.size d st wa (by omega) (HF.out.keep K1'.out (by simp; omega)); rw [HP.out] at hq; refine hq.mono ?_; clear hq; rintro e wb ⟨⟨rfl, h2⟩, k2⟩; have H2' := Lib.hid h2; have H1' := Lib.hid (H1.out.keep k2 (by simp; omega)); have K2' := Lib.hid (kp2 HK.out K1'.out k2 (by omega) (by omega)); clear h2 k2) | (go_at_call 32; refine (left_any _ _ _ H1'.out).mono ?_; rintro e w' ⟨rfl, rfl⟩) | (go_at_call 33; refine (rfleft_any _ _ _ _ (by omega) H2'.out).mono ?_; rintro e w' ⟨rfl, n5, rfl⟩; have H5 := Lib.hid (H1'.out.drewN n5); have H6 := Lib.hid (H2'.out.drewN n5); have K5 := Lib.hid (K2'.out.drewN n5)) | (go_at_call 34; refine (bad_any _ _ _ H5.out).mono ?_; rintro e w' ⟨rfl, rfl⟩) | (go_at_call 35; refine (rfbad_any _ _ _ _ H6.out).mono ?_; rintro e w' ⟨rfl, rfl⟩))
          go_roundw
          case rel => exact ⟨k + 1, none, by omega, by omega, by go_num, H5.out, H6.out, K5.out⟩
          case measure => simp [intOf]; omega
        | some xt =>
          obtain ⟨x, t⟩ := xt
          have HP := Lib.hid hp
          clear hp
          have hxx : (x == x) = true := by simp
          go_wp2_with (first | (go_at_call 24; have hq := text_any w1.heap.size st wr (HE.out.kp0 HK.out) (by omega) (by omega) HR.out; rw [HP.out] at hq; refine hq.mono ?_; clear hq; rintro e wa ⟨⟨rfl, h1⟩, k1⟩; have H1 := Lib.hid h1; have K1' := Lib.hid k1; clear h1 k1; skip) | (go_at_call 25; have hq := rftext_any w2.heap.size d st wa (by omega) (HF.out.keep K1'.out (by simp; omega)); rw [HP.out] at hq; refine hq.mono ?_; clear hq; rintro e wb ⟨⟨rfl, h2⟩, k2⟩; have H2' := Lib.hid h2; have H1' := Lib.hid (H1.out.keep k2 (by simp; omega)); have K2' := Lib.hid (kp2 HK.out K1'.out k2 (by omega) (by omega)); clear h2 k2) | (go_at_call 32; refine (left_any _ _ _ H1'.out).mono ?_; rintro e w' ⟨rfl, rfl⟩) | (go_at_call 33; refine (rfleft_any _ _ _ _ (by omega) H2'.out).mono ?_; rintro e w' ⟨rfl, n5, rfl⟩; have H5 := Lib.hid (H1'.out.drewN n5); have H6 := Lib.hid (H2'.out.drewN n5); have K5 := Lib.hid (K2'.out.drewN n5)) | (go_at_call 34; refine (bad_any _ _ _ H5.out).mono ?_; rintro e w' ⟨rfl, rfl⟩) | (go_at_call 35; refine (rfbad_any _ _ _ _ H6.out).mono ?_; rintro e w' ⟨rfl, rfl⟩))
          go_roundw
          case rel => exact ⟨k + 1, (some t), by omega, by omega, by go_num, H5.out, H6.out, K5.out⟩
          case measure => simp [intOf]; omega
      by_cases hm2 : cs[k] % 4 = 2
      · have hc4 : (c % 4 == 2) = true := by rw [← HCC.out, hm2]; rfl
        have hn0 : (c % 4 == 0) = false := by rw [← HCC.out, hm2]; rfl
        have hn1 : (c % 4 == 1) = false := by rw [← HCC.out, hm2]; rfl
        have hn3 : (c % 4 == 3) = false := by rw [← HCC.out, hm2]; rfl
        clear hm2 hm0 hm1
        cases hp : st.bind Wr.pInts with
        | none =>
          have HP := Lib.hid hp
          clear hp
          go_wp2_with (first | (go_at_call 27; have hq := ints_any w1.heap.size st wr (HE.out.kp0 HK.out) (by omega) (by omega) HR.out; rw [HP.out] at hq; refine hq.mono ?_; clear hq; rintro e wa ⟨⟨rfl, h1⟩, k1⟩; have H1 := Lib.hid h1; have K1' := Lib.hid k1; clear h1 k1; skip) | (go_at_call 28; have hq := rfints_any w2.heap.size d st wa (by omega) (HF.out.keep K1'.out (by simp; omega)); rw [HP.out] at hq; refine hq.mono ?_; clear hq; rintro e wb ⟨⟨rfl, h2⟩, k2⟩; have H2' := Lib.hid h2; have H1' := Lib.hid (H1.out.keep k2 (by simp; omega)); have K2' := Lib.hid (kp2 HK.out K1'.out k2 (by omega) (by omega)); clear h2 k2) | (go_at_call 26; refine (sameInts_same _ _ [] _ (.inl ⟨_, _, rfl, rfl⟩) (.inl ⟨_, _, rfl, rfl⟩) (by simp)).mono ?_; rintro e wc ⟨rfl, n3, rfl⟩; have H1'' := Lib.hid (H1'.out.drewN n3); have H2'' := Lib.hid (H2'.out.drewN n3); have K3' := Lib.hid (K2'.out.drewN n3)) | (go_at_call 32; refine (left_any _ _ _ H1''.out).mono ?_; rintro e w' ⟨rfl, rfl⟩) | (go_at_call 33; refine (rfleft_any _ _ _ _ (by omega) H2''.out).mono ?_; rintro e w' ⟨rfl, n5, rfl⟩; have H5 := Lib.hid (H1'.out.drewN (n3 + n5)); have H6 := Lib.hid (H2'.out.drewN (n3 + n5)); have K5 := Lib.hid (K2'.out.drewN (n3 + n5))) | (go_at_call 34; refine (bad_any _ _ _ H5.out).mono ?_; rintro e w' ⟨rfl, rfl⟩) | (go_at_call 35; refine (rfbad_any _ _ _ _ H6.out).mono ?_; rintro e w' ⟨rfl, rfl⟩))
          go_roundw
          case rel => exact ⟨k + 1, none, by omega, by omega, by go_num, H5.out, H6.out, K5.out⟩
          case measure => simp [intOf]; omega
        | some xt =>
          obtain ⟨x, t⟩ := xt
          have hxl : x.length ≤ 200 := by
            obtain ⟨s0, rfl⟩ : ∃ s0, st = some s0 := by cases st with | none => cases hp | some s0 => exact ⟨s0, rfl⟩
            have := congrArg List.length (Wr.ints_codec.can _ _ _ hp).1
            have := wInts_len x
            simp at *; omega
          have HP := Lib.hid hp
          clear hp
          go_wp2_with (first | (go_at_call 27; have hq := ints_any w1.heap.size st wr (HE.out.kp0 HK.out) (by omega) (by omega) HR.out; rw [HP.out] at hq; refine hq.mono ?_; clear hq; rintro e wa ⟨⟨⟨va, rfl, hva⟩, h1⟩, k1⟩; have H1 := Lib.hid h1; have K1' := Lib.hid k1; clear h1 k1; have HVA := Lib.hid hva; clear hva; skip) | (go_at_call 28; have hq := rfints_any w2.heap.size d st wa (by omega) (HF.out.keep K1'.out (by simp; omega)); rw [HP.out] at hq; refine hq.mono ?_; clear hq; rintro e wb ⟨⟨⟨vb, rfl, hvb⟩, h2⟩, k2⟩; have H2' := Lib.hid h2; have H1' := Lib.hid (H1.out.keep k2 (by simp; omega)); have K2' := Lib.hid (kp2 HK.out K1'.out k2 (by omega) (by omega)); have HVA2 := Lib.hid (own_isRow (HVA.out.kept k2 (.inr (own_ne HVA.out (by have := HF.out.lt; omega))))); have HVB := Lib.hid (own_isRow hvb); clear hvb; clear h2 k2) | (go_at_call 26; refine (sameInts_same _ _ x _ HVA2.out HVB.out (by omega)).mono ?_; rintro e wc ⟨rfl, n3, rfl⟩; have H1'' := Lib.hid (H1'.out.drewN n3); have H2'' := Lib.hid (H2'.out.drewN n3); have K3' := Lib.hid (K2'.out.drewN n3)) | (go_at_call 32; refine (left_any _ _ _ H1''.out).mono ?_; rintro e w' ⟨rfl, rfl⟩) | (go_at_call 33; refine (rfleft_any _ _ _ _ (by omega) H2''.out).mono ?_; rintro e w' ⟨rfl, n5, rfl⟩; have H5 := Lib.hid (H1'.out.drewN (n3 + n5)); have H6 := Lib.hid (H2'.out.drewN (n3 + n5)); have K5 := Lib.hid (K2'.out.drewN (n3 + n5))) | (go_at_call 34; refine (bad_any _ _ _ H5.out).mono ?_; rintro e w' ⟨rfl, rfl⟩) | (go_at_call 35; refine (rfbad_any _ _ _ _ H6.out).mono ?_; rintro e w' ⟨rfl, rfl⟩))
          go_roundw
          case rel => exact ⟨k + 1, (some t), by omega, by omega, by go_num, H5.out, H6.out, K5.out⟩
          case measure => simp [intOf]; omega
      by_cases hm3 : cs[k] % 4 = 3
      · have hc4 : (c % 4 == 3) = true := by rw [← HCC.out, hm3]; rfl
        have hn0 : (c % 4 == 0) = false := by rw [← HCC.out, hm3]; rfl
        have hn1 : (c % 4 == 1) = false := by rw [← HCC.out, hm3]; rfl
        have hn2 : (c % 4 == 2) = false := by rw [← HCC.out, hm3]; rfl
        clear hm3 hm0 hm1 hm2
        cases hp : st.bind Wr.pTexts with
        | none =>
          have HP := Lib.hid hp
          clear hp
          go_wp2_with (first | (go_at_call 30; have hq := texts_any w1.heap.size st wr (HE.out.kp0 HK.out) (by omega) (by omega) HR.out; rw [HP.out] at hq; refine hq.mono ?_; clear hq; rintro e wa ⟨⟨rfl, h1⟩, k1⟩; have H1 := Lib.hid h1; have K1' := Lib.hid k1; clear h1 k1; skip) | (go_at_call 31; have hq := rftexts_any w2.heap.size d st wa (by omega) (HF.out.keep K1'.out (by simp; omega)); rw [HP.out] at hq; refine hq.mono ?_; clear hq; rintro e wb ⟨⟨rfl, h2⟩, k2⟩; have H2' := Lib.hid h2; have H1' := Lib.hid (H1.out.keep k2 (by simp; omega)); have K2' := Lib.hid (kp2 HK.out K1'.out k2 (by omega) (by omega)); clear h2 k2) | (go_at_call 29; refine (sameTexts_same _ _ [] _ (.inl ⟨_, _, rfl, rfl⟩) (.inl ⟨_, _, rfl, rfl⟩) (by simp)).mono ?_; rintro e wc ⟨rfl, n3, rfl⟩; have H1'' := Lib.hid (H1'.out.drewN n3); have H2'' := Lib.hid (H2'.out.drewN n3); have K3' := Lib.hid (K2'.out.drewN n3)) | (go_at_call 32; refine (left_any _ _ _ H1''.out).mono ?_; rintro e w' ⟨rfl, rfl⟩) | (go_at_call 33; refine (rfleft_any _ _ _ _ (by omega) H2''.out).mono ?_; rintro e w' ⟨rfl, n5, rfl⟩; have H5 := Lib.hid (H1'.out.drewN (n3 + n5)); have H6 := Lib.hid (H2'.out.drewN (n3 + n5)); have K5 := Lib.hid (K2'.out.drewN (n3 + n5))) | (go_at_call 34; refine (bad_any _ _ _ H5.out).mono ?_; rintro e w' ⟨rfl, rfl⟩) | (go_at_call 35; refine (rfbad_any _ _ _ _ H6.out).mono ?_; rintro e w' ⟨rfl, rfl⟩))
          go_roundw
          case rel => exact ⟨k + 1, none, by omega, by omega, by go_num, H5.out, H6.out, K5.out⟩
          case measure => simp [intOf]; omega
        | some xt =>
          obtain ⟨x, t⟩ := xt
          have hxl : x.length ≤ 200 := by
            obtain ⟨s0, rfl⟩ : ∃ s0, st = some s0 := by cases st with | none => cases hp | some s0 => exact ⟨s0, rfl⟩
            have := congrArg List.length (Wr.texts_codec.can _ _ _ hp).1
            have := wTexts_len x
            simp at *; omega
          have HP := Lib.hid hp
          clear hp
          go_wp2_with (first | (go_at_call 30; have hq := texts_any w1.heap.size st wr (HE.out.kp0 HK.out) (by omega) (by omega) HR.out; rw [HP.out] at hq; refine hq.mono ?_; clear hq; rintro e wa ⟨⟨⟨va, rfl, hva⟩, h1⟩, k1⟩; have H1 := Lib.hid h1; have K1' := Lib.hid k1; clear h1 k1; have HVA := Lib.hid hva; clear hva; skip) | (go_at_call 31; have hq := rftexts_any w2.heap.size d st wa (by omega) (HF.out.keep K1'.out (by simp; omega)); rw [HP.out] at hq; refine hq.mono ?_; clear hq; rintro e wb ⟨⟨⟨vb, rfl, hvb⟩, h2⟩, k2⟩; have H2' := Lib.hid h2; have H1' := Lib.hid (H1.out.keep k2 (by simp; omega)); have K2' := Lib.hid (kp2 HK.out K1'.out k2 (by omega) (by omega)); have HVA2 := Lib.hid (own_isRow (HVA.out.kept k2 (.inr (own_ne HVA.out (by have := HF.out.lt; omega))))); have HVB := Lib.hid (own_isRow hvb); clear hvb; clear h2 k2) | (go_at_call 29; refine (sameTexts_same _ _ x _ HVA2.out HVB.out (by omega)).mono ?_; rintro e wc ⟨rfl, n3, rfl⟩; have H1'' := Lib.hid (H1'.out.drewN n3); have H2'' := Lib.hid (H2'.out.drewN n3); have K3' := Lib.hid (K2'.out.drewN n3)) | (go_at_call 32; refine (left_any _ _ _ H1''.out).mono ?_; rintro e w' ⟨rfl, rfl⟩) | (go_at_call 33; refine (rfleft_any _ _ _ _ (by omega) H2''.out).mono ?_; rintro e w' ⟨rfl, n5, rfl⟩; have H5 := Lib.hid (H1'.out.drewN (n3 + n5)); have H6 := Lib.hid (H2'.out.drewN (n3 + n5)); have K5 := Lib.hid (K2'.out.drewN (n3 + n5))) | (go_at_call 34; refine (bad_any _ _ _ H5.out).mono ?_; rintro e w' ⟨rfl, rfl⟩) | (go_at_call 35; refine (rfbad_any _ _ _ _ H6.out).mono ?_; rintro e w' ⟨rfl, rfl⟩))
          go_roundw
          case rel => exact ⟨k + 1, (some t), by omega, by omega, by go_num, H5.out, H6.out, K5.out⟩
          case measure => simp [intOf]; omega
      exfalso; have := HM.out; omega
    · by_cases hk12 : k < 12
      · have hkn' : k = cs.length := by omega
        have hge : cs.length ≤ k := by omega
        clear hkn' hlt
        go_wp2
        go_ret
        exact ⟨rfl, HK.out⟩
      · by_cases hk2 : k < cs.length
        all_goals
          clear hlt
          go_wp2
          go_ret
          exact ⟨rfl, HK.out⟩
set_option maxHeartbeats 4000000 in
set_option maxRecDepth 100000 in
theorem reads_nil (ao : Option Addr) (cap : Nat) (w : World) (l : List UInt8) (hl : l.length ≤ 9223372036854775807) (he : Env w) : Calls Tryd.prog 4 #[.string ⟨l.toArray⟩, .slice ao 0 cap] w fun E w' => E = .returned (.bool true) ∧ Kp w w' none := by
  have HE := Lib.hid he
  clear he
  have hcut : ∃ d : List UInt8, d.length ≤ 200 ∧ Hid (d = l.take 200) := ⟨_, by simp; omega, Lib.hid rfl⟩
  obtain ⟨d, hd, HD⟩ := hcut
  have hx : (⟨l.toArray⟩ : ByteArray).extract 0 (min (l.length : Int) 200).toNat = ⟨d.toArray⟩ := by
    rw [ext_take, HD.out]; congr 2
    by_cases h : l.length ≤ 200
    · rw [List.take_of_length_le (by omega), List.take_of_length_le h]
    · congr 1; omega
  have HX := Lib.hid hx
  clear hx
  go_enter Tryd.func4, Tryd.ntmps4
  go_wp2_with fail
  refine (sanity_any _ HE.out).mono ?_
  rintro e w1 ⟨rfl, k⟩
  have K1 := Lib.hid k
  clear k
  go_wp2_with fail
  rw [HX.out]
  refine (new_any d _).mono ?_
  rintro e w2 ⟨rfl, h2, k2⟩
  have H2 := Lib.hid h2
  have K2 := Lib.hid k2
  clear h2 k2
  go_wp2_with fail
  refine (rfnew_any d _).mono ?_
  rintro e w3 ⟨rfl, h3, k3⟩
  have H3 := Lib.hid h3
  have H4 := Lib.hid (H2.out.keep k3 (by simp))
  have K3 := Lib.hid ((K1.out.trans K2.out).trans k3)
  have hz1 : w.heap.size ≤ w1.heap.size := K1.out.size
  have hz2 : w1.heap.size < w2.heap.size := H2.out.lt
  have hz6 : 6 ≤ w.heap.size := HE.out.big
  clear h3 k3
  go_wp2_with fail
  go_loopw [8] (fun i wr => ReadRel w w1.heap.size w2.heap.size d [] i wr) (fun i _ => 12 - (intOf i).toNat)
  case atStart => exact ⟨0, some d, by omega, by omega, rfl, H4.out, H3.out, K3.out⟩
  case round =>
    obtain ⟨k, st, hk, hkn, rfl, hR, hF, hK⟩ := hrel
    have HR := Lib.hid hR
    have HF := Lib.hid hF
    have HK := Lib.hid hK
    have hst : (st.getD []).length ≤ 200 := by have := rf_len hF; omega
    clear hR hF hK
    clear hst
    simp only [List.length_nil, Nat.le_zero_eq] at hkn
    subst hkn
    go_wp2
    go_ret
    exact ⟨rfl, HK.out⟩

end Go.Proofs.YtfcbogoahangoaaDoor
