/- The reference's reading of a number, walked: whatever stands ahead of the end, without a sign. Conditions: the string that is read is shorter than 2^31 bytes. -/
import Derived.Test.YtfcbogoahangoaaDoorRs
import Derived.Test.YtfcbogoahangoaaDoorWm
namespace Go.Proofs.YtfcbogoahangoaaDoor
open Go.RowKit

set_option maxHeartbeats 4000000 in
set_option maxRecDepth 100000 in
theorem rnum_posL (q p i0 : Nat) (S d : List UInt8) (e : UInt8) (en : Int) (w : World) (he : (e.toNat : Int) = en) (hS : S.length < 2147483648) (h : w.heap[q]? = some (.cells #[.string ⟨S.toArray⟩, .int .i64 p, .bool false] 59 (0, 0)))
    (hp0 : p ≤ i0) (hi21 : i0 ≤ p + 21) (hi0 : i0 < S.length) (hno : ∀ i, i < i0 → p ≤ i → S[i]? ≠ some e) (hat : S[i0]? = some e) (hd : (S.take i0).drop p = d) (hd0 : 0 < d.length) (h21 : i0 < p + 21) (hs : Wr.neg d = false) : Calls Tryd.prog 43 #[.pointer (some ⟨q, 0, none⟩), .int .u8 en] w (RNumEnds q S w ((Wr.parse d).map fun n => (n, S.drop (i0 + 1)))) := by
  have c0 : w.cell? ⟨q, 0, none⟩ = some (.string ⟨S.toArray⟩) := by simp [World.cell?, h]
  have c1 : w.cell? ⟨q, 1, none⟩ = some (.int .i64 p) := by simp [World.cell?, h]
  have c2 : w.cell? ⟨q, 2, none⟩ = some (.bool false) := by simp [World.cell?, h]
  have f1 : w.frozen? ⟨q, 1, none⟩ = false := by simp [World.frozen?, h]
  have HNO := Lib.hid hno
  have HEN := Lib.hid he
  have HAT := Lib.hid hat
  have H := Lib.hid h
  have hex : (⟨S.toArray⟩ : ByteArray).extract p i0 = ⟨d.toArray⟩ := by rw [ext_mid, hd]
  have HEX := Lib.hid hex
  have hdl : d.length = i0 - p := by rw [← hd]; simp; omega
  have HDL := Lib.hid hdl
  have hdl' : d.length ≤ 21 := by omega
  clear h hno he hat hd hex hdl
  have hf : 0 = if Wr.neg d then 1 else 0 := by rw [hs]; rfl
  have HF := Lib.hid hf
  have HS' := Lib.hid hs
  clear hs hf
  go_enter Tryd.func43, Tryd.ntmps43
  go_wp2
  go_loop [6] (fun t => ∃ i : Nat, p ≤ i ∧ i ≤ i0 ∧ t = .int .i64 i) (fun t => S.length - (intOf t).toNat)
  case atStart => exact ⟨p, Nat.le_refl _, by omega, rfl⟩
  case round =>
    obtain ⟨i, hi, hiS, rfl⟩ := hrel
    by_cases hlt : i < i0
    · have hlt' : i < S.length := by omega
      obtain ⟨c, hc⟩ : ∃ c, S[i] = c := ⟨_, rfl⟩
      have hx : ∀ h', (⟨S.toArray⟩ : ByteArray)[i]'h' = c := fun h' => (byte_at S i hlt' h').trans hc
      have hne : ((c.toNat : Int) != en) = true := u8_ne HEN.out (fun h => HNO.out i hlt hi (by rw [List.getElem?_eq_getElem hlt', hc, h]))
      clear hc
      by_cases h21 : i < p + 21
      · go_wp2
        go_round
        case rel => exact ⟨i + 1, by omega, by omega, by go_num⟩
        case measure => simp [intOf]; omega
      · exfalso; omega
    · obtain rfl : i = i0 := by omega
      have hlt' : i < S.length := by omega
      obtain ⟨c, hc⟩ : ∃ c, S[i] = c := ⟨_, rfl⟩
      have hx : ∀ h', (⟨S.toArray⟩ : ByteArray)[i]'h' = c := fun h' => (byte_at S i hlt' h').trans hc
      have hne : ((c.toNat : Int) != en) = false := u8_eq HEN.out (by have h := HAT.out; rw [List.getElem?_eq_getElem hlt', hc] at h; injection h)
      clear hc
      have hex := HEX.out
      clear HEX
      have hx0 : ∃ c0 : UInt8, (∀ h', (⟨d.toArray⟩ : ByteArray)[0]'h' = c0) ∧ ((c0.toNat : Int) == 45) = false := by
        refine ⟨d[0], fun h' => byte_at d 0 hd0 h', ?_⟩
        have hs := HS'.out
        obtain ⟨x, r, hxr⟩ := List.exists_cons_of_length_pos hd0
        have h0 : d[0]? = some x := by rw [hxr]; rfl
        rw [List.getElem?_eq_getElem hd0] at h0
        injection h0 with h0
        rw [hxr] at hs
        simp only [Wr.neg, List.head?_cons, beq_eq_false_iff_ne, ne_eq, Option.some.injEq] at hs
        rw [h0, beq_eq_false_iff_ne]
        intro hx; apply hs; apply UInt8.toNat_inj.1; have : (45 : UInt8).toNat = 45 := rfl; omega
      obtain ⟨c0', hx0, hc45⟩ := hx0
      go_wp2
      go_quiet (fail)
      go_wp2
      go_loop [9, 10] (fun n k => ∃ j v : Nat, 0 ≤ j ∧ j ≤ d.length ∧ k = .int .i64 j ∧ n = .int .i64 (-(v : Int)) ∧ v ≤ 9223372036854775808 ∧ Hid (Wr.dv ((Wr.mag d).take (j - 0)) = v)) (fun _ k => d.length - (intOf k).toNat)
      case atStart => exact ⟨0, 0, Nat.le_refl _, by omega, rfl, rfl, by omega, Lib.hid (by simp [Wr.dv])⟩
      case round =>
        obtain ⟨j, v, hj, hjd, rfl, rfl, hv63, HV⟩ := hrel
        by_cases hlt2 : j < d.length
        · obtain ⟨ch, hch⟩ : ∃ ch, d[j] = ch := ⟨_, rfl⟩
          have hx2 : ∀ h', (⟨d.toArray⟩ : ByteArray)[j]'h' = ch := fun h' => (byte_at d j hlt2 h').trans hch
          have hst := Wr.step_any d 0 HF.out j hj hlt2
          have hcan : ∀ m, Wr.parse d = some m → 48 ≤ ch.toNat ∧ ch.toNat ≤ 57 ∧ 10 * v + (ch.toNat - 48) ≤ 9223372036854775808 := fun m hm => by
            have := Wr.step_canon hm 0 HF.out j hj hlt2
            rw [hch, HV.out] at this; exact this
          rw [hch, HV.out] at hst
          have HST := Lib.hid hst
          have HCAN := Lib.hid hcan
          have hch255 : ch.toNat < 256 := ch.toNat_lt
          clear hch hst hcan
          by_cases h48 : ch.toNat < 48
          · go_wp2
            go_ret2
            exact RNumEnds.no (no_of fun m hm => by have := HCAN.out m hm; omega) (by repeat (first | exact Kp.refl _ _ | apply Kp.drewN))
          · by_cases h57 : 57 < ch.toNat
            · go_wp2
              go_ret2
              exact RNumEnds.no (no_of fun m hm => by have := HCAN.out m hm; omega) (by repeat (first | exact Kp.refl _ _ | apply Kp.drewN))
            · by_cases hv1 : 922337203685477580 < v
              · go_wp2
                go_ret2
                exact RNumEnds.no (no_of fun m hm => by have := HCAN.out m hm; omega) (by repeat (first | exact Kp.refl _ _ | apply Kp.drewN))
              · by_cases hv2 : v = 922337203685477580
                · have hb : (-(v : Int) == -922337203685477580) = true := by rw [hv2]; rfl
                  have hv3 : 922337203685477580 ≤ v := by omega
                  clear hv2
                  by_cases hc8 : ch.toNat ≤ 56
                  · go_wp2
                    go_round
                    case rel => exact ⟨j + 1, 10 * v + (ch.toNat - 48), by omega, by omega, by go_num, by go_num, by omega, HST⟩
                    case measure => simp [intOf]; omega
                  · go_wp2
                    go_ret2
                    exact RNumEnds.no (no_of fun m hm => by have := HCAN.out m hm; omega) (by repeat (first | exact Kp.refl _ _ | apply Kp.drewN))
                · have hb : (-(v : Int) == -922337203685477580) = false := by simp; omega
                  go_wp2
                  go_round
                  case rel => exact ⟨j + 1, 10 * v + (ch.toNat - 48), by omega, by omega, by go_num, by go_num, by omega, HST⟩
                  case measure => simp [intOf]; omega
        · obtain rfl : j = d.length := by omega
          have hspec : ∀ m, Wr.parse d = some m → m = (v : Int) ∧ Wr.I64 m ∧ d = Lib.itoa m := fun m hm => by
            have h1 := (Wr.parse_spec hm).2.1
            have h2 := (Wr.parse_spec hm).2.2
            have hw := HV.out
            rw [Wr.whole d 0 HF.out] at hw
            have hneg : Wr.neg d = false := by have := HF.out; cases hn : Wr.neg d <;> simp [hn] at this ⊢
            rw [hneg, hw] at h1
            exact ⟨by simpa using h1, h2⟩
          have HSPEC := Lib.hid hspec
          clear hspec
          by_cases hvb' : v ≤ 9223372036854775807
          · by_cases hv0 : v = 0
            · have HV0 := Lib.hid hv0
              have hb0 : ((-(v : Int)) == (v : Int)) = true := by rw [hv0]; rfl
              have hb1 : ((-(v : Int)) != 0) = false := by rw [hv0]; rfl
              clear hv0
              have hI : Wr.I64 ((v : Int)) := by unfold Wr.I64; omega
              have HI := Lib.hid hI
              clear hI
              by_cases hdd : Lib.itoa ((v : Int)) = d
              · have hveq : ((Lib.itoa ((v : Int))) == d) = true := by simpa using hdd
                have hpp : Wr.parse d = some ((v : Int)) := Wr.parse_some.2 ⟨hdd.symm, HI.out⟩
                have HPP := Lib.hid hpp
                clear hdd hpp
                go_wp2_with fail
                refine (dec_any _ HI.out _).mono ?_
                rintro e w1 ⟨rfl, k1⟩
                have hq1 := (k1.block q (lt_of_block H.out) (by simp)).trans H.out
                have fr1 : w1.frozen? ⟨q, 1, none⟩ = false := by simp [World.frozen?, hq1]
                have cr1 : w1.cell? ⟨q, 1, none⟩ = some (.int .i64 p) := by simp [World.cell?, hq1]
                have HQ1 := Lib.hid hq1
                clear hq1
                have K1 := Lib.hid k1
                clear k1
                go_wp2_with fail
                go_ret2
                refine RNumEnds.yes HPP.out ⟨i + 1, by omega, by intro l h; injection h with h; exact h.symm, ?_⟩ ?_
                · rw [heap_set HQ1.out]; rfl
                · exact ((((Kp.refl w none).drewN nq).trans K1.out).weak _).set _
              · have hveq : ((Lib.itoa ((v : Int))) == d) = false := by simpa using hdd
                have HDD := Lib.hid hdd
                clear hdd
                go_wp2_with fail
                refine (dec_any _ HI.out _).mono ?_
                rintro e w1 ⟨rfl, k1⟩
                have K1 := Lib.hid k1
                clear k1
                go_wp2_with fail
                go_ret2
                exact RNumEnds.no (no_of fun m hm => HDD.out (by have := HSPEC.out m hm; rw [← this.1]; exact this.2.2.symm)) (((Kp.refl w none).drewN nq).trans K1.out)
            · have hb0 : ((-(v : Int)) == (v : Int)) = false := by simp; omega
              have hI : Wr.I64 ((v : Int)) := by unfold Wr.I64; omega
              have HI := Lib.hid hI
              clear hI
              by_cases hdd : Lib.itoa ((v : Int)) = d
              · have hveq : ((Lib.itoa ((v : Int))) == d) = true := by simpa using hdd
                have hpp : Wr.parse d = some ((v : Int)) := Wr.parse_some.2 ⟨hdd.symm, HI.out⟩
                have HPP := Lib.hid hpp
                clear hdd hpp
                go_wp2_with fail
                refine (dec_any _ HI.out _).mono ?_
                rintro e w1 ⟨rfl, k1⟩
                have hq1 := (k1.block q (lt_of_block H.out) (by simp)).trans H.out
                have fr1 : w1.frozen? ⟨q, 1, none⟩ = false := by simp [World.frozen?, hq1]
                have cr1 : w1.cell? ⟨q, 1, none⟩ = some (.int .i64 p) := by simp [World.cell?, hq1]
                have HQ1 := Lib.hid hq1
                clear hq1
                have K1 := Lib.hid k1
                clear k1
                go_wp2_with fail
                go_ret2
                refine RNumEnds.yes HPP.out ⟨i + 1, by omega, by intro l h; injection h with h; exact h.symm, ?_⟩ ?_
                · rw [heap_set HQ1.out]; rfl
                · exact ((((Kp.refl w none).drewN nq).trans K1.out).weak _).set _
              · have hveq : ((Lib.itoa ((v : Int))) == d) = false := by simpa using hdd
                have HDD := Lib.hid hdd
                clear hdd
                go_wp2_with fail
                refine (dec_any _ HI.out _).mono ?_
                rintro e w1 ⟨rfl, k1⟩
                have K1 := Lib.hid k1
                clear k1
                go_wp2_with fail
                go_ret2
                exact RNumEnds.no (no_of fun m hm => HDD.out (by have := HSPEC.out m hm; rw [← this.1]; exact this.2.2.symm)) (((Kp.refl w none).drewN nq).trans K1.out)
          · have hvb : v = 9223372036854775808 := by omega
            obtain ⟨hb0, hb1⟩ := wrap_min v hvb
            have HVB := Lib.hid hvb
            have HV63 := Lib.hid hv63
            clear hvb hvb' hv63
            go_wp2
            go_ret2
            exact RNumEnds.no (no_of fun m hm => by have := HSPEC.out m hm; have h2 := this.2.1; have h3 := HVB.out; unfold Wr.I64 at h2; omega) (by repeat (first | exact Kp.refl _ _ | apply Kp.drewN))

end Go.Proofs.YtfcbogoahangoaaDoor
