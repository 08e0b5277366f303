/- The law DrillRaw, run. Conditions: a string and a list of strings that a machine holds. -/
import Derived.Test.YtljjbdbgedmadaaGreatDoorGn
import Derived.Test.YtljjbdbgedmadaaGreatDoorNx
namespace Go.Proofs.YtljjbdbgedmadaaGreatDoor
open Go.RowKit

/-- Both readers compared: true. -/
theorem same_any (s : List UInt8) (hs : s.length ≤ 1000000000) (w : World) (he : Env w) : Calls Tryz.prog 14 #[str s] w fun E w' => E = .returned (.bool true) ∧ Kp w w' none :=
  same_of s hs (fun V _ => rread_any s V hs) w he
theorem ext_take (t : List UInt8) (n : Nat) : (⟨t.toArray⟩ : ByteArray).extract 0 n = ⟨(t.take n).toArray⟩ := by
  rw [ext_mid]; rfl
theorem ext_min (s : List UInt8) (m : Nat) : (⟨s.toArray⟩ : ByteArray).extract 0 (min (s.length : Int) (m : Int)).toNat = ⟨(s.take m).toArray⟩ := by
  rw [ext_take]
  rcases Nat.lt_or_ge m s.length with h | h
  · rw [show (min (s.length : Int) (m : Int)).toNat = m by omega]
  · rw [show (min (s.length : Int) (m : Int)).toNat = s.length by omega, List.take_length, List.take_of_length_le h]
/-- The cell of string k. -/
theorem str_at {w : World} {ao : Option Addr} {cap : Nat} {l : List (List UInt8)} (h : LiesAt 1 strVal w ao cap l) {k : Nat} (hk : k < l.length) : ∃ b off, ao = some ⟨b, off, none⟩ ∧ l.length ≤ cap ∧ ∀ w', Kp w w' none → w'.cell? ⟨b, off + k, none⟩ = some (str l[k]) := by
  obtain ⟨b, off, e, hb, hc, hr⟩ := h k hk
  have h0 := hr 0 (by simp [strVal])
  rw [Nat.mul_one, Nat.add_zero] at h0
  exact ⟨b, off, e, hc, fun w' K => (K.below.cell (p := ⟨b, off + k, none⟩) hb).trans h0⟩
def LenB (l : List (List UInt8)) : Prop := ∀ x ∈ l, LenOk x.length
set_option maxHeartbeats 8000000 in
set_option maxRecDepth 100000 in
theorem raw_any (s : List UInt8) (l : List (List UInt8)) (n : Nat) (hn : l.length = n) (lo : Option Addr) (cap : Nat) (w : World) (he : Env w) (hl : LiesAt 1 strVal w lo cap l) (hn2 : LenOk n) (_hs : LenOk s.length) (hls : LenB l) : Calls Tryz.prog 4 #[str s, .slice lo n cap] w fun E w' => E = .returned (.bool true) ∧ Kp w w' none := by
  have HSN := Lib.hid (sanity_any w he)
  have HS : Hid (∀ V (t : List UInt8), Kp w V none → t.length ≤ 1000000000 → Calls Tryz.prog 14 #[str t] V fun E w' => E = .returned (.bool true) ∧ Kp V w' none) := Lib.hid fun V t k ht => same_any t ht V (he.kp0 k)
  obtain ⟨sc, hsc⟩ : ∃ y, s.take 200 = y := ⟨_, rfl⟩
  have hscl : sc.length ≤ 1000000000 := by rw [← hsc, List.length_take]; omega
  have hxs : (⟨s.toArray⟩ : ByteArray).extract 0 (min (s.length : Int) 200).toNat = ⟨sc.toArray⟩ := by rw [← hsc]; exact ext_min s 200
  have hmi0 : (0 : Int) ≤ min (s.length : Int) 200 := by omega
  have hmi1 : min (s.length : Int) 200 ≤ (s.length : Int) := by omega
  have HL := Lib.hid hl
  have HN := Lib.hid hn
  have HLS := Lib.hid hls
  have hn0 : (0 : Int) ≤ (n : Int) := Int.natCast_nonneg _
  have HN2 := Lib.hid hn2
  clear he hl hn hsc _hs hls hn2
  go_enter Tryz.func4, Tryz.ntmps4
  go_wp2_with (go_at_call 10; refine HSN.out.mono ?_; rintro e w1 ⟨rfl, k1⟩; have K1 := Lib.hid k1; clear k1)
  clear hxs hmi0 hmi1
  go_loopw [6, 7] (fun av iv wr => ∃ (k : Nat) (all : List UInt8), k ≤ n ∧ k ≤ 12 ∧ iv = .int .i64 (k : Int) ∧ av = str all ∧ Hid (all.length ≤ 41 * k) ∧ Hid (Kp w wr none)) (fun _ iv _ => 12 - (intOf iv).toNat)
  case atStart => exact ⟨0, [], Nat.zero_le _, Nat.zero_le _, rfl, rfl, Lib.hid (Nat.zero_le _), K1⟩
  case round =>
    obtain ⟨k, all, hk, hk2, rfl, rfl, HAL, HK⟩ := hrel
    have hk0 : (0 : Int) ≤ (k : Int) := Int.natCast_nonneg _
    have hal : all.length ≤ 500 := by have := HAL.out; omega
    by_cases hlt : k < n ∧ k < 12
    · have hk1 : (k : Int) < (n : Int) := by omega
      have hk3 : (k : Int) < 12 := by omega
      have hkl : k < l.length := by have := HN.out; omega
      obtain ⟨b, off, rfl, hcap, hcx⟩ := str_at HL.out hkl
      have hxl := HLS.out _ (List.getElem_mem hkl)
      obtain ⟨x, hx⟩ : ∃ e, l[k] = e := ⟨_, rfl⟩
      rw [hx] at hcx hxl
      have HCX := Lib.hid hcx
      have hca : n ≤ cap := by have := HN.out; omega
      obtain ⟨xc, hxc⟩ : ∃ y, x.take 40 = y := ⟨_, rfl⟩
      have hxcl : xc.length ≤ 40 := by rw [← hxc, List.length_take]; omega
      have hxs : (⟨x.toArray⟩ : ByteArray).extract 0 (min (x.length : Int) 40).toNat = ⟨xc.toArray⟩ := by rw [← hxc]; exact ext_min x 40
      have hmi0 : (0 : Int) ≤ min (x.length : Int) 40 := by omega
      have hmi1 : min (x.length : Int) 40 ≤ (x.length : Int) := by omega
      have HXL := Lib.hid hxl
      have HCL := Lib.hid hxcl
      clear hcx hx hxc hcap hkl hlt hxl
      go_upto_region 7 with fail
      obtain ⟨q1, hq1⟩ : ∃ zz : List UInt8, all ++ xc = zz := ⟨_, rfl⟩
      have Bq1 : Hid ((⟨(all).toArray⟩ : ByteArray) ++ (⟨(xc).toArray⟩ : ByteArray) = ⟨(q1).toArray⟩) := Lib.hid (by rw [← hq1]; exact ByteArray.mk_append_mk _ _)
      have bq1 : q1.length ≤ 540 := by rw [← hq1, List.length_append]; (try simp only [List.length_cons, List.length_nil]); omega
      have Gq1 : Hid ((9223372036854775807 < (all).length + (xc).length) = False) := Lib.hid (eq_false (by (try simp only [List.length_cons, List.length_nil]); omega))
      have Hq1 := Lib.hid hq1
      clear hq1 
      obtain ⟨q2, hq2⟩ : ∃ zz : List UInt8, q1 ++ [10] = zz := ⟨_, rfl⟩
      have Bq2 : Hid ((⟨(q1).toArray⟩ : ByteArray) ++ (⟨#[10]⟩ : ByteArray) = ⟨(q2).toArray⟩) := Lib.hid (by rw [← hq2]; exact ByteArray.mk_append_mk _ _)
      have bq2 : q2.length ≤ 541 := by rw [← hq2, List.length_append]; (try simp only [List.length_cons, List.length_nil]); omega
      have Gq2 : Hid ((9223372036854775807 < (q1).length + 1) = False) := Lib.hid (eq_false (by (try simp only [List.length_cons, List.length_nil]); omega))
      have Hq2 := Lib.hid hq2
      clear hq2 
      clear bq1 bq2
      refine wp_region_held_drew (S := fun V => V.cell? ⟨b, off + k, none⟩ = some (str x) ∧ Hid (Kp w V none)) (by kernel_rfl) (⟨HCX.out _ HK.out.drew, Lib.hid HK.out.drew⟩) (fun hHeld => ?_)
      refine tkH 0 rfl ?_
      try simp only [Act.put, sm]
      refine tkH 1 rfl ?_
      try simp only [Act.put, sm]
      refine tkH 2 rfl ?_
      try simp only [Act.put, sm]
      refine tkH 5 rfl ?_
      try simp only [Act.put, sm]
      refine tkH 6 rfl ?_
      try simp only [Act.put, sm]
      refine tkH 3 rfl ?_
      try simp only [Act.put, sm]
      refine tkH 7 rfl ?_
      try simp only [Act.put, sm]
      refine tkH 4 rfl ?_
      try simp only [Act.put, sm]
      refine tkH 8 rfl ?_
      try simp only [Act.put, sm]
      refine tkH 9 rfl ?_
      try simp only [Act.put, sm]
      refine tkH 10 rfl ?_
      try simp only [Act.put, sm]
      refine tkH 11 rfl ?_
      try simp only [Act.put, sm]
      have eq1 := Bq1.out
      have gq1 := Gq1.out
      refine tkH 12 rfl ?_
      try simp only [Act.put, sm]
      clear gq1 eq1
      have eq2 := Bq2.out
      have gq2 := Gq2.out
      refine tkH 13 rfl ?_
      try simp only [Act.put, sm]
      clear gq2 eq2
      refine wpAnyH_ready (rs := [14]) (by kernel_rfl) (by simp) ?_
      refine AllReadyH.cons (o := _) rfl (fun K hK => ?_) AllReadyH.nil
      have gK := hHeld.2
      clear hHeld
      go_simp
      try go_wp2_with fail
      refine hK.out _ _ (⟨HCX.out _ gK.out, Lib.hid gK.out⟩) (fun _ => ?_)
      have KZ := Lib.hid gK.out
      clear hK K gK
      try simp only [Act.put, sm]
      refine wpAnyH_done (by kernel_rfl) ?_ _
      have HAL2 : Hid (q2.length ≤ 41 * (k + 1)) := Lib.hid (by have h2 := HAL.out; have h3 := HCL.out; rw [← Hq2.out, ← Hq1.out, List.length_append, List.length_append]; simp only [List.length_cons, List.length_nil]; omega)
      go_wp2_with fail
      go_roundw
      case rel => exact ⟨k + 1, q2, by omega, by omega, by go_num, rfl, HAL2, KZ⟩
      case measure => simp [intOf]; omega
    · have K := HK
      have hsum : all.length ≤ 1000000000 := by omega
      obtain ⟨q1, hq1⟩ : ∃ zz : List UInt8, [77, 52, 56, 10, 59, 101, 116, 99, 104, 97, 110, 116, 10, 84, 50, 67, 56, 10] ++ all = zz := ⟨_, rfl⟩
      have eq1 : (⟨#[77, 52, 56, 10, 59, 101, 116, 99, 104, 97, 110, 116, 10, 84, 50, 67, 56, 10]⟩ : ByteArray) ++ ⟨all.toArray⟩ = ⟨q1.toArray⟩ := by rw [← hq1]; exact ByteArray.mk_append_mk _ _
      have bq1 : q1.length ≤ 518 := by rw [← hq1, List.length_append]; (try simp only [List.length_cons, List.length_nil]); omega
      have gq1 : (9223372036854775807 < 18 + all.length) = False := eq_false (by (try simp only [List.length_cons, List.length_nil]); omega)
      clear hq1
      obtain ⟨q2, hq2⟩ : ∃ zz : List UInt8, [77, 52, 56, 10, 59, 101, 116, 99, 104, 97, 110, 116, 10, 84, 50, 67, 56, 10] ++ [37, 10, 84, 50, 10, 59, 115, 112, 97, 110, 32, 49, 32, 50, 32, 112, 108, 97, 105, 110, 10] = zz := ⟨_, rfl⟩
      have eq2 : (⟨#[77, 52, 56, 10, 59, 101, 116, 99, 104, 97, 110, 116, 10, 84, 50, 67, 56, 10]⟩ : ByteArray) ++ ⟨#[37, 10, 84, 50, 10, 59, 115, 112, 97, 110, 32, 49, 32, 50, 32, 112, 108, 97, 105, 110, 10]⟩ = ⟨q2.toArray⟩ := by rw [← hq2]; exact ByteArray.mk_append_mk _ _
      have bq2 : q2.length ≤ 39 := by rw [← hq2, List.length_append]; (try simp only [List.length_cons, List.length_nil]); omega
      have gq2 : (9223372036854775807 < 18 + 21) = False := eq_false (by (try simp only [List.length_cons, List.length_nil]); omega)
      clear hq2
      obtain ⟨q3, hq3⟩ : ∃ zz : List UInt8, q2 ++ all = zz := ⟨_, rfl⟩
      have eq3 : (⟨q2.toArray⟩ : ByteArray) ++ ⟨all.toArray⟩ = ⟨q3.toArray⟩ := by rw [← hq3]; exact ByteArray.mk_append_mk _ _
      have bq3 : q3.length ≤ 550 := by rw [← hq3, List.length_append]; (try simp only [List.length_cons, List.length_nil]); omega
      have gq3 : (9223372036854775807 < q2.length + all.length) = False := eq_false (by (try simp only [List.length_cons, List.length_nil]); omega)
      clear hq3
      obtain ⟨q4, hq4⟩ : ∃ zz : List UInt8, [77, 52, 56, 10, 59, 101, 116, 99, 104, 97, 110, 116, 10, 84, 50, 67, 56, 10] ++ [37, 10, 84, 50, 10, 59, 115, 112, 97, 110, 32, 49, 32, 49, 32, 112, 108, 97, 116, 101, 100, 10] = zz := ⟨_, rfl⟩
      have eq4 : (⟨#[77, 52, 56, 10, 59, 101, 116, 99, 104, 97, 110, 116, 10, 84, 50, 67, 56, 10]⟩ : ByteArray) ++ ⟨#[37, 10, 84, 50, 10, 59, 115, 112, 97, 110, 32, 49, 32, 49, 32, 112, 108, 97, 116, 101, 100, 10]⟩ = ⟨q4.toArray⟩ := by rw [← hq4]; exact ByteArray.mk_append_mk _ _
      have bq4 : q4.length ≤ 40 := by rw [← hq4, List.length_append]; (try simp only [List.length_cons, List.length_nil]); omega
      have gq4 : (9223372036854775807 < 18 + 22) = False := eq_false (by (try simp only [List.length_cons, List.length_nil]); omega)
      clear hq4
      obtain ⟨q5, hq5⟩ : ∃ zz : List UInt8, q4 ++ all = zz := ⟨_, rfl⟩
      have eq5 : (⟨q4.toArray⟩ : ByteArray) ++ ⟨all.toArray⟩ = ⟨q5.toArray⟩ := by rw [← hq5]; exact ByteArray.mk_append_mk _ _
      have bq5 : q5.length ≤ 550 := by rw [← hq5, List.length_append]; (try simp only [List.length_cons, List.length_nil]); omega
      have gq5 : (9223372036854775807 < q4.length + all.length) = False := eq_false (by (try simp only [List.length_cons, List.length_nil]); omega)
      clear hq5
      obtain ⟨q6, hq6⟩ : ∃ zz : List UInt8, q5 ++ [77, 51, 48, 10] = zz := ⟨_, rfl⟩
      have eq6 : (⟨q5.toArray⟩ : ByteArray) ++ ⟨#[77, 51, 48, 10]⟩ = ⟨q6.toArray⟩ := by rw [← hq6]; exact ByteArray.mk_append_mk _ _
      have bq6 : q6.length ≤ 554 := by rw [← hq6, List.length_append]; (try simp only [List.length_cons, List.length_nil]); omega
      have gq6 : (9223372036854775807 < q5.length + 4) = False := eq_false (by (try simp only [List.length_cons, List.length_nil]); omega)
      clear hq6
      obtain ⟨q7, hq7⟩ : ∃ zz : List UInt8, [77, 52, 56, 10, 59, 101, 116, 99, 104, 97, 110, 116, 10, 84, 50, 67, 56, 10] ++ [37, 10, 59, 115, 112, 97, 110, 32, 49, 32, 50, 32, 112, 108, 97, 116, 101, 100, 10, 84, 50, 10, 71, 48, 48, 88, 48, 89, 48, 10, 77, 49, 53, 10] = zz := ⟨_, rfl⟩
      have eq7 : (⟨#[77, 52, 56, 10, 59, 101, 116, 99, 104, 97, 110, 116, 10, 84, 50, 67, 56, 10]⟩ : ByteArray) ++ ⟨#[37, 10, 59, 115, 112, 97, 110, 32, 49, 32, 50, 32, 112, 108, 97, 116, 101, 100, 10, 84, 50, 10, 71, 48, 48, 88, 48, 89, 48, 10, 77, 49, 53, 10]⟩ = ⟨q7.toArray⟩ := by rw [← hq7]; exact ByteArray.mk_append_mk _ _
      have bq7 : q7.length ≤ 52 := by rw [← hq7, List.length_append]; (try simp only [List.length_cons, List.length_nil]); omega
      have gq7 : (9223372036854775807 < 18 + 34) = False := eq_false (by (try simp only [List.length_cons, List.length_nil]); omega)
      clear hq7
      obtain ⟨q8, hq8⟩ : ∃ zz : List UInt8, q7 ++ all = zz := ⟨_, rfl⟩
      have eq8 : (⟨q7.toArray⟩ : ByteArray) ++ ⟨all.toArray⟩ = ⟨q8.toArray⟩ := by rw [← hq8]; exact ByteArray.mk_append_mk _ _
      have bq8 : q8.length ≤ 560 := by rw [← hq8, List.length_append]; (try simp only [List.length_cons, List.length_nil]); omega
      have gq8 : (9223372036854775807 < q7.length + all.length) = False := eq_false (by (try simp only [List.length_cons, List.length_nil]); omega)
      clear hq8
      obtain ⟨q9, hq9⟩ : ∃ zz : List UInt8, q8 ++ [77, 49, 54, 10, 77, 51, 48, 10] = zz := ⟨_, rfl⟩
      have eq9 : (⟨q8.toArray⟩ : ByteArray) ++ ⟨#[77, 49, 54, 10, 77, 51, 48, 10]⟩ = ⟨q9.toArray⟩ := by rw [← hq9]; exact ByteArray.mk_append_mk _ _
      have bq9 : q9.length ≤ 568 := by rw [← hq9, List.length_append]; (try simp only [List.length_cons, List.length_nil]); omega
      have gq9 : (9223372036854775807 < q8.length + 8) = False := eq_false (by (try simp only [List.length_cons, List.length_nil]); omega)
      clear hq9
      by_cases hk3 : k < n
      · have hk1 : (k : Int) < (n : Int) := by omega
        have hk4 : ¬ (k : Int) < 12 := by omega
        clear hlt hk3 hal
        go_wp2_with (go_at_call 14; refine (HS.out _ _ K.out (by first | assumption | omega)).mono ?_; rintro e wz ⟨rfl, kz⟩; have K := Lib.hid (K.out.trans kz); clear kz)
        go_ret
        exact ⟨rfl, K.out⟩
      · have hk1 : ¬ (k : Int) < (n : Int) := by omega
        clear hlt hk3 hal
        go_wp2_with (go_at_call 14; refine (HS.out _ _ K.out (by first | assumption | omega)).mono ?_; rintro e wz ⟨rfl, kz⟩; have K := Lib.hid (K.out.trans kz); clear kz)
        go_ret
        exact ⟨rfl, K.out⟩
end Go.Proofs.YtljjbdbgedmadaaGreatDoor
