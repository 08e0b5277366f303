/- The law RuleLines, run. Conditions: a list of numbers and a string of a machine's length, a byte. -/
import Derived.Test.YtnchipahdfbliaaGreatDoorMd
import Derived.Test.YtnchipahdfbliaaGreatDoorSf
import Derived.Test.YtnchipahdfbliaaGreatDoorRuE
namespace Go.Proofs.YtnchipahdfbliaaGreatDoor
open Go.RowKit

theorem LiesAt.sub {α : Type} {m : Nat} {f : α → List Value} {w : World} {b off cap : Nat} {xs : List α} (h : LiesAt m f w (some ⟨b, off, none⟩) cap xs) (k : Nat) (hk : k < xs.length) : LiesAt m f w (some ⟨b, off + k * m, none⟩) (cap - k) [xs[k]] := fun i hi => by
  obtain ⟨b', off', e, hb, hc, hr⟩ := h k hk
  injection e with e
  injection e with e1 e2
  subst e1; subst e2
  have h0 : i = 0 := by simpa using hi
  subst h0
  refine ⟨b, _, rfl, hb, by simp; omega, fun j hj => ?_⟩
  have := hr j (by simpa using hj)
  simpa using this
theorem spoil_get (j : Nat) (h : j < 4) : Ru.spoil.getD j [] ∈ Ru.spoil := by
  have : j = 0 ∨ j = 1 ∨ j = 2 ∨ j = 3 := by omega
  rcases this with rfl | rfl | rfl | rfl <;> simp [Ru.spoil]
set_option maxHeartbeats 16000000 in
set_option maxRecDepth 100000 in
theorem lines_any (l : List Int) (n : Nat) (lo : Option Addr) (cap x : Nat) (s : List UInt8) (w : World) (he : Env w) (hl : LiesAt 1 intVal w lo cap l) (hn : l.length = n) (hn2 : LenOk n) (hx : x < 256) (hs : s.length ≤ 9223372036854775807) : Calls Tryz.prog 8 #[.slice lo n cap, .int .u8 (x : Int), str s] w (SameIs true w) := by
  have HE := Lib.hid he
  have HL := Lib.hid hl
  have HN := Lib.hid hn
  have cS := sanity_any w he
  clear he hl hn
  go_enter Tryz.func8, Tryz.ntmps8
  go_wp2_with fail
  refine cS.mono ?_
  clear cS
  rintro e w1 ⟨rfl, k1⟩
  have K1 := Lib.hid k1
  have cM := made_any l n lo cap w1 (HL.out.keep k1) HN.out hn2
  clear k1 HL HN hn2
  go_wp2_with fail
  refine cM.mono ?_
  clear cM
  rintro e w2 ⟨qs, ao, p, rfl, hlq, htq, hgq, hnq, hq4, k2⟩
  have HLQ := Lib.hid hlq
  have HTQ := Lib.hid htq
  have HGQ := Lib.hid hgq
  have K2 := Lib.hid (K1.out.trans k2)
  clear hlq htq hgq hnq k2
  obtain ⟨m, hm⟩ : ∃ m, qs.length = m := ⟨_, rfl⟩
  rw [hm] at hq4
  rw [hm]
  have HM := Lib.hid hm
  clear hm
  obtain ⟨t, ht⟩ : ∃ t : Nat, x % (m + 1) = t := ⟨_, rfl⟩
  have htm : t ≤ m := by have := Nat.mod_lt x (show 0 < m + 1 by omega); omega
  have hx0 : (0 : Int) ≤ (x : Int) := by omega
  have hx1 : (x : Int) ≤ 255 := by omega
  have hm0 : (0 : Int) ≤ (m : Int) := by omega
  have hm1 : (m : Int) ≤ 4 := by omega
  have hmz : ((m : Int) + 1 == 0) = false := by simp; omega
  have hmod : (x : Int).tmod ((m : Int) + 1) = (t : Int) := by rw [Int.tmod_eq_emod_of_nonneg hx0, ← ht]; simp
  clear ht
  go_wp2_with fail
  go_loopw [9, 11] (fun s9 i wr => ∃ k : Nat, k ≤ t ∧ i = .int .i64 (k : Int) ∧ (∃ z : List UInt8, s9 = str z ∧ Hid (z = Ru.textOf ((qs.map (·.r)).take k))) ∧ Hid (Kp w2 wr none)) (fun _ i _ => t - (intOf i).toNat)
  case atStart => exact ⟨0, Nat.zero_le _, rfl, ⟨[], rfl, Lib.hid rfl⟩, Lib.hid (Kp.refl _ _)⟩
  case round =>
    obtain ⟨k, hk, rfl, ⟨z, rfl, HZ⟩, HK⟩ := hrel
    have hk0 : (0 : Int) ≤ (k : Int) := by omega
    by_cases hlt : k < t
    · have hk1 : (k : Int) < (t : Int) := by omega
      have h1 : k < qs.length := by rw [HM.out]; omega
      obtain ⟨b, off, hao, hbl, hcap, _⟩ := HLQ.out k h1
      subst hao
      obtain ⟨q, hq⟩ : ∃ q, qs[k] = q := ⟨_, rfl⟩
      have hqm : q ∈ qs := by rw [← hq]; exact List.getElem_mem h1
      have hg := HGQ.out q hqm
      have cT : Calls Tryz.prog 15 #[.slice (some ⟨b, off + k * 20, none⟩) 1 (p - k)] wr fun e w' => e = .returned (.tuple #[str (Ru.lineOf q.r), .int .i64 0]) ∧ Kp wr w' none := by
        have h := text_any [q] (some ⟨b, off + k * 20, none⟩) (p - k) wr (HE.out.kp0 (K2.out.trans HK.out)) (by have := (HLQ.out.sub k h1).keep HK.out; rwa [hq] at this) (fun y hy => by rw [List.mem_singleton] at hy; subst hy; exact (HTQ.out y hqm).keep HK.out) (fun y hy => by rw [List.mem_singleton] at hy; subst hy; exact good_fit hg)
        have e2 : [q].map (·.r) = [q.r] := rfl
        rw [e2, Ru.text_one hg] at h
        exact h
      obtain ⟨ln, hln⟩ : ∃ x, Ru.lineOf q.r = x := ⟨_, rfl⟩
      have hl1 : ln.length ≤ 8900 := by rw [← hln]; exact Ru.line_len hg
      have hz1 : z.length ≤ 35600 := by
        have := Ru.text_len (l := (qs.map (·.r)).take k) (fun r hr => by
          obtain ⟨y, hy, rfl⟩ := List.mem_map.1 (List.mem_of_mem_take hr)
          exact HGQ.out y hy)
        rw [← HZ.out] at this
        have h2 : ((qs.map (·.r)).take k).length ≤ 4 := by rw [List.length_take]; omega
        omega
      have HZ2 : Hid (z ++ ln = Ru.textOf ((qs.map (·.r)).take (k + 1))) := Lib.hid (by rw [Ru.textOf_take (by rw [List.length_map]; exact h1), ← HZ.out, List.getElem_map, hq, hln])
      rw [hln] at cT
      obtain ⟨z2, hz2⟩ : ∃ x, z ++ ln = x := ⟨_, rfl⟩
      have hcat : (⟨z.toArray⟩ : ByteArray) ++ ⟨ln.toArray⟩ = ⟨z2.toArray⟩ := by rw [← hz2]; exact cat_eq z ln
      rw [hz2] at HZ2
      have hcp : m ≤ p := by have := HM.out; omega
      have hcp1 : (k : Int) + 1 ≤ (p : Int) := by omega
      clear hq hln hz2 hg
      go_wp2_with (go_at_call 15; refine cT.mono ?_; rintro e w4 ⟨rfl, hk4⟩; have HK4 := Lib.hid (HK.out.trans hk4); clear hk4)
      go_roundw
      case rel => exact ⟨k + 1, hlt, by go_num, ⟨z2, rfl, HZ2⟩, HK4⟩
      case measure => simp [intOf]; omega
    · obtain rfl : k = t := by omega
      obtain ⟨j, hj⟩ : ∃ j : Nat, x / 8 % 4 = j := ⟨_, rfl⟩
      have hj4 : j < 4 := by omega
      have hidx : (x : Int) / 8 % 4 = (j : Int) := by omega
      have HJ := Lib.hid hj
      clear hj
      have hz1 : z.length ≤ 35600 := by
        have := Ru.text_len (l := (qs.map (·.r)).take k) (fun r hr => by
          obtain ⟨y, hy, rfl⟩ := List.mem_map.1 (List.mem_of_mem_take hr)
          exact HGQ.out y hy)
        rw [← HZ.out] at this
        have h2 : ((qs.map (·.r)).take k).length ≤ 4 := by rw [List.length_take]; omega
        omega
      obtain ⟨sc, hsc⟩ : ∃ y, s.take 100 = y := ⟨_, rfl⟩
      have hscl : sc.length ≤ 100 := by rw [← hsc, List.length_take]; omega
      obtain ⟨sp, hsp⟩ : ∃ y, Ru.spoil.getD j [] = y := ⟨_, rfl⟩
      have hspm : sp ∈ Ru.spoil := by rw [← hsp]; exact spoil_get j hj4
      have hspl : sp.length ≤ 100 := (Ru.spoil_ok sp hspm).2.2
      have HP : Hid (Ru.parse (z ++ sp ++ [10] ++ sc ++ [10]) = (([] : List Ru.Rule), (k : Int) + 1, (4 : Int))) := Lib.hid (by
        have h := Ru.lines_law (l := (qs.map (·.r)).take k) (fun r hr => by
          obtain ⟨y, hy, rfl⟩ := List.mem_map.1 (List.mem_of_mem_take hr)
          exact HGQ.out y hy) (by rw [List.length_take]; omega) hspm hscl
        rw [← HZ.out] at h
        have e : ((qs.map (·.r)).take k).length = k := by rw [List.length_take, List.length_map, HM.out]; omega
        rw [e] at h
        exact h)
      have cF := fails_any (z ++ sp ++ [10] ++ sc) ((k : Int) + 1) 4 wr (HE.out.kp0 (K2.out.trans HK.out)) HP.out (by simp; omega)
      obtain ⟨f1, hf1⟩ : ∃ y, z ++ sp = y := ⟨_, rfl⟩
      have hc1 : (⟨z.toArray⟩ : ByteArray) ++ ⟨sp.toArray⟩ = ⟨f1.toArray⟩ := by rw [← hf1]; exact cat_eq z sp
      have hl1 : f1.length ≤ 35700 := by rw [← hf1, List.length_append]; omega
      rw [hf1] at cF
      obtain ⟨f2, hf2⟩ : ∃ y, f1 ++ [10] = y := ⟨_, rfl⟩
      have hc2 : (⟨f1.toArray⟩ : ByteArray) ++ ⟨#[10]⟩ = ⟨f2.toArray⟩ := by rw [← hf2]; exact cat_eq f1 [10]
      have hl2 : f2.length ≤ 35701 := by rw [← hf2, List.length_append]; simp; omega
      rw [hf2] at cF
      obtain ⟨f3, hf3⟩ : ∃ y, f2 ++ sc = y := ⟨_, rfl⟩
      have hc3 : (⟨f2.toArray⟩ : ByteArray) ++ ⟨sc.toArray⟩ = ⟨f3.toArray⟩ := by rw [← hf3]; exact cat_eq f2 sc
      rw [hf3] at cF
      have HF1 : Hid (str (Ru.spoil.getD j []) = str sp) := Lib.hid (by rw [hsp])
      clear hf1 hf2 hf3 hsp hspm HP
      go_upto_region 12 with fail
      go_cut [14] from 43 to 48 (fun s14 wx => s14 = str sp ∧ wx = wr)
      case first =>
        have h4 : j = 0 ∨ j = 1 ∨ j = 2 ∨ j = 3 := by omega
        have hsp2 : str sp = str (Ru.spoil.getD j []) := HF1.out.symm
        clear hc1 hl1 cF
        rcases h4 with rfl | rfl | rfl | rfl
        · have hidx : (x : Int) / 8 % 4 = 0 := by simpa using hidx
          have HS2 := Lib.hid hsp2
          clear hsp2
          go_wp2_with fail
          have hix : Sem.run Tryz.prog (Instr.index 63 (.agg #[.string ⟨#[114, 117, 108, 101]⟩, .string ⟨#[]⟩, .string ⟨#[114, 117, 108, 101, 32, 97, 32, 49, 32, 99, 108, 101, 97, 114, 32, 53, 32, 119, 104, 101, 110, 32, 97, 110, 121]⟩, .string ⟨#[114, 117, 108, 101, 115, 32, 97, 32, 49, 32, 101, 100, 103, 101, 32, 53, 32, 119, 104, 101, 110, 32, 97, 110, 121]⟩]) (.int .u8 0)) wr = .ok (.string ⟨#[114, 117, 108, 101]⟩) wr := by rfl
          rw [hix]
          go_wp2_with fail
          go_meet
          exact ⟨HS2.out.symm, rfl⟩
        · have hidx : (x : Int) / 8 % 4 = 1 := by simpa using hidx
          have HS2 := Lib.hid hsp2
          clear hsp2
          go_wp2_with fail
          have hix : Sem.run Tryz.prog (Instr.index 63 (.agg #[.string ⟨#[114, 117, 108, 101]⟩, .string ⟨#[]⟩, .string ⟨#[114, 117, 108, 101, 32, 97, 32, 49, 32, 99, 108, 101, 97, 114, 32, 53, 32, 119, 104, 101, 110, 32, 97, 110, 121]⟩, .string ⟨#[114, 117, 108, 101, 115, 32, 97, 32, 49, 32, 101, 100, 103, 101, 32, 53, 32, 119, 104, 101, 110, 32, 97, 110, 121]⟩]) (.int .u8 1)) wr = .ok (.string ⟨#[]⟩) wr := by rfl
          rw [hix]
          go_wp2_with fail
          go_meet
          exact ⟨HS2.out.symm, rfl⟩
        · have hidx : (x : Int) / 8 % 4 = 2 := by simpa using hidx
          have HS2 := Lib.hid hsp2
          clear hsp2
          go_wp2_with fail
          have hix : Sem.run Tryz.prog (Instr.index 63 (.agg #[.string ⟨#[114, 117, 108, 101]⟩, .string ⟨#[]⟩, .string ⟨#[114, 117, 108, 101, 32, 97, 32, 49, 32, 99, 108, 101, 97, 114, 32, 53, 32, 119, 104, 101, 110, 32, 97, 110, 121]⟩, .string ⟨#[114, 117, 108, 101, 115, 32, 97, 32, 49, 32, 101, 100, 103, 101, 32, 53, 32, 119, 104, 101, 110, 32, 97, 110, 121]⟩]) (.int .u8 2)) wr = .ok (.string ⟨#[114, 117, 108, 101, 32, 97, 32, 49, 32, 99, 108, 101, 97, 114, 32, 53, 32, 119, 104, 101, 110, 32, 97, 110, 121]⟩) wr := by rfl
          rw [hix]
          go_wp2_with fail
          go_meet
          exact ⟨HS2.out.symm, rfl⟩
        · have hidx : (x : Int) / 8 % 4 = 3 := by simpa using hidx
          have HS2 := Lib.hid hsp2
          clear hsp2
          go_wp2_with fail
          have hix : Sem.run Tryz.prog (Instr.index 63 (.agg #[.string ⟨#[114, 117, 108, 101]⟩, .string ⟨#[]⟩, .string ⟨#[114, 117, 108, 101, 32, 97, 32, 49, 32, 99, 108, 101, 97, 114, 32, 53, 32, 119, 104, 101, 110, 32, 97, 110, 121]⟩, .string ⟨#[114, 117, 108, 101, 115, 32, 97, 32, 49, 32, 101, 100, 103, 101, 32, 53, 32, 119, 104, 101, 110, 32, 97, 110, 121]⟩]) (.int .u8 3)) wr = .ok (.string ⟨#[114, 117, 108, 101, 115, 32, 97, 32, 49, 32, 101, 100, 103, 101, 32, 53, 32, 119, 104, 101, 110, 32, 97, 110, 121]⟩) wr := by rfl
          rw [hix]
          go_wp2_with fail
          go_meet
          exact ⟨HS2.out.symm, rfl⟩
      case rest =>
        obtain ⟨rfl, rfl⟩ := hcut
        clear hidx
        have hxs : (⟨s.toArray⟩ : ByteArray).extract 0 (min (s.length : Int) 100).toNat = ⟨sc.toArray⟩ := by
          rw [ext_take, ← hsc]
          by_cases h : s.length ≤ 100
          · rw [show (min (s.length : Int) 100).toNat = s.length by omega, List.take_length, List.take_of_length_le h]
          · rw [show (min (s.length : Int) 100).toNat = 100 by omega]
        clear hsc
        go_wp2_with fail
        refine cF.mono ?_
        rintro e w9 ⟨rfl, k9⟩
        have K9 := Lib.hid (HK.out.trans k9)
        clear k9
        go_wp2_with fail
        go_ret
        exact ⟨rfl, K2.out.trans K9.out⟩
end Go.Proofs.YtnchipahdfbliaaGreatDoor
