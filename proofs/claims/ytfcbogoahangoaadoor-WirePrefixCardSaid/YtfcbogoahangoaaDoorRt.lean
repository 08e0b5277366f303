/- The reference's reading of a number, walked: whatever stands ahead of the end, without a sign. Conditions: the string that is read is shorter than 2^31 bytes. -/
import Derived.Test.YtfcbogoahangoaaDoorRs
import Derived.Test.YtfcbogoahangoaaDoorWm
namespace Go.Proofs.YtfcbogoahangoaaDoor
open Go.RowKit

set_option maxHeartbeats 4000000 in
set_option maxRecDepth 100000 in
theorem rnum_posE (q p i0 : Nat) (S d : List UInt8) (e : UInt8) (en : Int) (w : World) (he : (e.toNat : Int) = en) (hS : S.length < 2147483648) (h : w.heap[q]? = some (.cells #[.string ⟨S.toArray⟩, .int .i64 p, .bool false] 59 (0, 0)))
    (hp0 : p ≤ i0) (hi21 : i0 ≤ p + 21) (hi0 : i0 < S.length) (hno : ∀ i, i < i0 → p ≤ i → S[i]? ≠ some e) (hat : S[i0]? = some e) (hd : (S.take i0).drop p = d) (hd0 : d.length = 0) (hs : Wr.neg d = false) : Calls Tryd.prog 43 #[.pointer (some ⟨q, 0, none⟩), .int .u8 en] w (RNumEnds q S w ((Wr.parse d).map fun n => (n, S.drop (i0 + 1)))) := by
  have c0 : w.cell? ⟨q, 0, none⟩ = some (.string ⟨S.toArray⟩) := by simp [World.cell?, h]
  have c1 : w.cell? ⟨q, 1, none⟩ = some (.int .i64 p) := by simp [World.cell?, h]
  have c2 : w.cell? ⟨q, 2, none⟩ = some (.bool false) := by simp [World.cell?, h]
  have f1 : w.frozen? ⟨q, 1, none⟩ = false := by simp [World.frozen?, h]
  have HNO := Lib.hid hno
  have HEN := Lib.hid he
  have HAT := Lib.hid hat
  have H := Lib.hid h
  have hex : (⟨S.toArray⟩ : ByteArray).extract p i0 = ⟨d.toArray⟩ := by rw [ext_mid, hd]
  have HEX := Lib.hid hex
  have hdl : d.length = i0 - p := by rw [← hd]; simp; omega
  have HDL := Lib.hid hdl
  have hdl' : d.length ≤ 21 := by omega
  clear h hno he hat hd hex hdl
  have hf : 0 = if Wr.neg d then 1 else 0 := by rw [hs]; rfl
  have HF := Lib.hid hf
  have HS' := Lib.hid hs
  clear hs hf
  go_enter Tryd.func43, Tryd.ntmps43
  go_wp2
  go_loop [6] (fun t => ∃ i : Nat, p ≤ i ∧ i ≤ i0 ∧ t = .int .i64 i) (fun t => S.length - (intOf t).toNat)
  case atStart => exact ⟨p, Nat.le_refl _, by omega, rfl⟩
  case round =>
    obtain ⟨i, hi, hiS, rfl⟩ := hrel
    by_cases hlt : i < i0
    · have hlt' : i < S.length := by omega
      obtain ⟨c, hc⟩ : ∃ c, S[i] = c := ⟨_, rfl⟩
      have hx : ∀ h', (⟨S.toArray⟩ : ByteArray)[i]'h' = c := fun h' => (byte_at S i hlt' h').trans hc
      have hne : ((c.toNat : Int) != en) = true := u8_ne HEN.out (fun h => HNO.out i hlt hi (by rw [List.getElem?_eq_getElem hlt', hc, h]))
      clear hc
      by_cases h21 : i < p + 21
      · go_wp2
        go_round
        case rel => exact ⟨i + 1, by omega, by omega, by go_num⟩
        case measure => simp [intOf]; omega
      · exfalso; omega
    · obtain rfl : i = i0 := by omega
      have hlt' : i < S.length := by omega
      obtain ⟨c, hc⟩ : ∃ c, S[i] = c := ⟨_, rfl⟩
      have hx : ∀ h', (⟨S.toArray⟩ : ByteArray)[i]'h' = c := fun h' => (byte_at S i hlt' h').trans hc
      have hne : ((c.toNat : Int) != en) = false := u8_eq HEN.out (by have h := HAT.out; rw [List.getElem?_eq_getElem hlt', hc] at h; injection h)
      clear hc
      have hex := HEX.out
      clear HEX
      obtain rfl : d = [] := List.length_eq_zero_iff.1 hd0
      clear hd0
      have h21 : i < p + 21 := by have h := HDL.out; simp at h; omega
      go_wp2
      go_quiet (fail)
      go_wp2
      go_loop [9, 10] (fun n k => n = .int .i64 0 ∧ k = .int .i64 0) (fun _ _ => 0)
      case atStart => exact ⟨rfl, rfl⟩
      case round =>
        obtain ⟨rfl, rfl⟩ := hrel
        go_wp2_with fail
        refine (dec_any _ (by unfold Wr.I64; omega) _).mono ?_
        rintro e w1 ⟨rfl, k1⟩
        have K1 := Lib.hid k1
        clear k1
        rw [show Lib.itoa 0 = [48] from itoa_digit (n := 0) (by omega) (by omega)]
        go_wp2_with fail
        go_ret2
        exact RNumEnds.no (no_of fun m hm => by have h := (Wr.parse_some.1 hm).1; exact Wr.itoa_ne m h.symm) (((Kp.refl w none).drewN nq).trans K1.out)

end Go.Proofs.YtfcbogoahangoaaDoor
