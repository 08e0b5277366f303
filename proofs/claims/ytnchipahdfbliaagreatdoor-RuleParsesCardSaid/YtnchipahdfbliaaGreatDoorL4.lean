/- The law RuleParses, run. Conditions: a list of numbers and a string of a machine's length, two numbers below 65536. -/
import Derived.Test.YtnchipahdfbliaaGreatDoorRnu
import Derived.Test.YtnchipahdfbliaaGreatDoorLq
import Derived.Test.YtnchipahdfbliaaGreatDoorMd
namespace Go.Proofs.YtnchipahdfbliaaGreatDoor
open Go.RowKit

theorem text_fst_len (l : List Ru.Rule) : (Ru.text l).1.length ≤ 213600 := by
 unfold Ru.text
 split
 ·rename_i h; exact Ru.text_bound h
 ·simp
set_option maxHeartbeats 16000000 in
set_option maxRecDepth 100000 in
theorem parses_any (l : List Int) (n : Nat) (lo : Option Addr) (cap a0 a1 : Nat) (s : List UInt8) (w : World) (he : Env w) (hl : LiesAt 1 intVal w lo cap l) (hn : l.length = n) (hn2 : LenOk n) (h0 : a0 < 65536) (h1 : a1 < 65536) (hs : s.length ≤ 9223372036854775807) : Calls Tryz.prog 4 #[.slice lo n cap, .agg #[.int .u16 (a0 : Int), .int .u16 (a1 : Int)], str s] w (SameIs true w) := by
 have k0 : Kp w (w.alloc (.cells #[.int .u16 (a0 : Int), .int .u16 (a1 : Int)] 45)) none := (Kp.refl _ _).alloc _
 have HB0 := Lib.hid (heap_alloc_new w (.cells #[.int .u16 (a0 : Int), .int .u16 (a1 : Int)] 45))
 have HEw := Lib.hid he
 have HL := Lib.hid (hl.keep k0)
 have HN := Lib.hid hn
 have K0 := Lib.hid k0
 have cS := sanity_any _ (he.kp0 k0)
 obtain ⟨sc, hsc⟩ : ∃ y, s.take 300 = y := ⟨_, rfl⟩
 have hscl : sc.length ≤ 300 := by rw [← hsc, List.length_take]; omega
 have hxs : (⟨s.toArray⟩ : ByteArray).extract 0 (min (s.length : Int) 300).toNat = ⟨sc.toArray⟩ := by
  rw [ext_take, ← hsc]
  rcases Nat.lt_or_ge 300 s.length with h | h
  ·rw [show (min (s.length : Int) 300).toNat = 300 by omega]
  ·rw [show (min (s.length : Int) 300).toNat = s.length by omega, List.take_length, List.take_of_length_le h]
 have hmi0 : (0 : Int) ≤ min (s.length : Int) 300 := by omega
 have hmi1 : min (s.length : Int) 300 ≤ (s.length : Int) := by omega
 clear he hl hn k0 hsc
 go_enter Tryz.func4, Tryz.ntmps4
 go_wp2_with fail
 obtain ⟨B0, hB0⟩ : ∃ x, w.heap.size = x := ⟨_, rfl⟩
 rw [hB0] at HB0 ⊢
 generalize hW : w.alloc (.cells #[.int .u16 (a0 : Int), .int .u16 (a1 : Int)] 45) = W0 at *
 clear hW hB0
 refine cS.mono ?_
 clear cS
 rintro e w1 ⟨rfl, k1⟩
 have K1 := Lib.hid k1
 have cM := made_any l n lo cap w1 (HL.out.keep k1) HN.out hn2
 clear k1 HL HN hn2
 go_wp2_with fail
 refine cM.mono ?_
 clear cM
 rintro e w2 ⟨qs, ao, p, rfl, hlq, htq, hgq, hnq, hq4, k2⟩
 have cT := textR_any qs ao p w2 hlq htq (fun q hq => good_fit (hgq q hq))
 have K2 := Lib.hid (K1.out.trans k2)
 obtain ⟨T, hT⟩ : ∃ x, (Ru.text (qs.map (·.r))).1 = x := ⟨_, rfl⟩
 obtain ⟨ck, hck⟩ : ∃ x, (Ru.text (qs.map (·.r))).2 = x := ⟨_, rfl⟩
 have hTl : T.length ≤ 213600 := by rw [← hT]; exact text_fst_len _
 rw [hT, hck] at cT
 clear hlq htq hgq hnq k2 hT hck hq4
 go_wp2_with fail
 refine cT.mono ?_
 clear cT
 rintro e w4 ⟨rfl, k4⟩
 have K4 := Lib.hid (K2.out.trans k4)
 have hc0 : w4.cell? ⟨B0, 0, none⟩ = some (.int .u16 (a0 : Int)) := ckr HB0.out K4.out (by simp) 0 rfl
 have hc1 : w4.cell? ⟨B0, 1, none⟩ = some (.int .u16 (a1 : Int)) := ckr HB0.out K4.out (by simp) 1 rfl
 obtain ⟨f, hf⟩ : ∃ f : Nat, a0 % (T.length + 1) = f := ⟨_, rfl⟩
 obtain ⟨g, hg⟩ : ∃ g : Nat, a1 % (T.length + 1) = g := ⟨_, rfl⟩
 have hfl : f ≤ T.length := by have := Nat.mod_lt a0 (show 0 < T.length + 1 by omega); omega
 have hgl : g ≤ T.length := by have := Nat.mod_lt a1 (show 0 < T.length + 1 by omega); omega
 have ha00 : (0 : Int) ≤ (a0 : Int) := by omega
 have ha10 : (0 : Int) ≤ (a1 : Int) := by omega
 have ha01 : (a0 : Int) ≤ 65535 := by omega
 have ha11 : (a1 : Int) ≤ 65535 := by omega
 have hmz : ((T.length : Int) + 1 == 0) = false := by simp; omega
 have hmod0 : (a0 : Int).tmod ((T.length : Int) + 1) = (f : Int) := by rw [Int.tmod_eq_emod_of_nonneg ha00, ← hf]; simp
 have hmod1 : (a1 : Int).tmod ((T.length : Int) + 1) = (g : Int) := by rw [Int.tmod_eq_emod_of_nonneg ha10, ← hg]; simp
 obtain ⟨t, ht⟩ : ∃ t : Nat, max f g = t := ⟨_, rfl⟩
 have hmax : max (f : Int) (g : Int) = (t : Int) := by rw [← ht]; omega
 have htl : t ≤ T.length := by omega
 have hft : f ≤ t := by omega
 clear hf hg ht k4
 go_upto_region 6 with fail
 obtain ⟨A, hA⟩ : ∃ x, T.take f = x := ⟨_, rfl⟩
 obtain ⟨B, hB⟩ : ∃ x, T.drop t = x := ⟨_, rfl⟩
 have hAl : A.length ≤ 213600 := by rw [← hA, List.length_take]; omega
 have hBl : B.length ≤ 213600 := by rw [← hB, List.length_drop]; omega
 have HX52 : Hid ((⟨T.toArray⟩ : ByteArray).extract 0 f = ⟨A.toArray⟩) := Lib.hid (by rw [ext_take, hA])
 have HX57 : Hid ((⟨T.toArray⟩ : ByteArray).extract t T.length = ⟨B.toArray⟩) := Lib.hid (by rw [ext_mid, List.take_length, hB])
 clear hA hB hmod0 hmod1 hmax
 obtain ⟨q1, hq1⟩ : ∃ zz : List UInt8, T ++ sc = zz := ⟨_, rfl⟩
 have Bq1 : Hid ((⟨(T).toArray⟩ : ByteArray) ++ (⟨(sc).toArray⟩ : ByteArray) = ⟨(q1).toArray⟩) := Lib.hid (by rw [← hq1]; exact ByteArray.mk_append_mk _ _)
 have bq1 : q1.length ≤ 213900 := by rw [← hq1, List.length_append]; (try simp only [List.length_cons, List.length_nil]); omega
 have Gq1 : Hid ((9223372036854775807 < (T).length + (sc).length) = False) := Lib.hid (eq_false (by (try simp only [List.length_cons, List.length_nil]); omega))
 have Hq1 := Lib.hid hq1
 clear hq1 
 obtain ⟨q2, hq2⟩ : ∃ zz : List UInt8, A ++ sc = zz := ⟨_, rfl⟩
 have Bq2 : Hid ((⟨(A).toArray⟩ : ByteArray) ++ (⟨(sc).toArray⟩ : ByteArray) = ⟨(q2).toArray⟩) := Lib.hid (by rw [← hq2]; exact ByteArray.mk_append_mk _ _)
 have bq2 : q2.length ≤ 213900 := by rw [← hq2, List.length_append]; (try simp only [List.length_cons, List.length_nil]); omega
 have Gq2 : Hid ((9223372036854775807 < (A).length + (sc).length) = False) := Lib.hid (eq_false (by (try simp only [List.length_cons, List.length_nil]); omega))
 have Hq2 := Lib.hid hq2
 clear hq2 
 obtain ⟨q3, hq3⟩ : ∃ zz : List UInt8, q2 ++ B = zz := ⟨_, rfl⟩
 have Bq3 : Hid ((⟨(q2).toArray⟩ : ByteArray) ++ (⟨(B).toArray⟩ : ByteArray) = ⟨(q3).toArray⟩) := Lib.hid (by rw [← hq3]; exact ByteArray.mk_append_mk _ _)
 have bq3 : q3.length ≤ 427500 := by rw [← hq3, List.length_append]; (try simp only [List.length_cons, List.length_nil]); omega
 have Gq3 : Hid ((9223372036854775807 < (q2).length + (B).length) = False) := Lib.hid (eq_false (by (try simp only [List.length_cons, List.length_nil]); omega))
 have Hq3 := Lib.hid hq3
 clear hq3 
 clear bq1 bq2 bq3
 refine wp_region_held_drew (S := fun V => Hid (Kp w4 V none)) (by kernel_rfl) (Lib.hid (Kp.refl w4 none).drew) (fun hHeld => ?_)
 refine tkH 0 rfl ?_
 try simp only [Act.put, sm]
 refine tkH 1 rfl ?_
 try simp only [Act.put, sm]
 refine tkH 2 rfl ?_
 try simp only [Act.put, sm]
 refine tkH 3 rfl ?_
 try simp only [Act.put, sm]
 refine tkH 5 rfl ?_
 try simp only [Act.put, sm]
 refine tkH 7 rfl ?_
 try simp only [Act.put, sm]
 refine tkH 8 rfl ?_
 try simp only [Act.put, sm]
 refine tkH 11 rfl ?_
 try simp only [Act.put, sm]
 refine tkH 12 rfl ?_
 try simp only [Act.put, sm]
 refine tkH 14 rfl ?_
 try simp only [Act.put, sm]
 refine tkH 15 rfl ?_
 try simp only [Act.put, sm]
 have e52 := HX52.out
 refine tkH 4 rfl ?_
 try simp only [Act.put, sm]
 clear e52
 have e57 := HX57.out
 refine tkH 9 rfl ?_
 try simp only [Act.put, sm]
 clear e57
 have eq1 := Bq1.out
 have gq1 := Gq1.out
 refine tkH 13 rfl ?_
 try simp only [Act.put, sm]
 clear gq1 eq1
 have e52 := HX52.out
 refine tkH 16 rfl ?_
 try simp only [Act.put, sm]
 clear e52
 have eq2 := Bq2.out
 have gq2 := Gq2.out
 refine tkH 6 rfl ?_
 try simp only [Act.put, sm]
 clear gq2 eq2
 have eq3 := Bq3.out
 have gq3 := Gq3.out
 refine tkH 10 rfl ?_
 try simp only [Act.put, sm]
 clear gq3 eq3
 refine tkH 17 rfl ?_
 try simp only [Act.put, sm]
 refine wpAnyH_ready (rs := [18]) (by kernel_rfl) (by simp) ?_
 refine AllReadyH.cons (o := _) rfl (fun K hK => ?_) AllReadyH.nil
 have gK := hHeld
 clear hHeld
 go_simp
 try go_wp2_with fail
 refine hK.out _ _ (Lib.hid (gK.out.alloc _)) (fun hHeld => ?_)
 clear hK K hHeld
 try simp only [Act.put, sm]
 refine wpAnyH_ready (rs := [19]) (by kernel_rfl) (by simp) ?_
 refine AllReadyH.cons (o := _) rfl (fun K hK => ?_) AllReadyH.nil
 go_simp
 try go_wp2_with fail
 refine hK.out _ _ (Lib.hid (((Kp.refl w4 none).alloc _).drew)) (fun _ => ?_)
 clear hK K gK
 try simp only [Act.put, sm]
 refine wpAnyH_done (by kernel_rfl) ?_ _
 have HBt := Lib.hid (res_kept (heap_alloc_new w4 (.cells #[str T, str sc, str q3, str q1, str A] 46)) (Kp.refl _ none).drew (by simp))
 have HC := Lib.hid ((K0.out.trans K4.out).trans (((Kp.refl w4 none).alloc (.cells #[str T, str sc, str q3, str q1, str A] 46)).drew))
 generalize (w4.alloc (.cells #[str T, str sc, str q3, str q1, str A] 46)).drew = wB at *
 obtain ⟨S, hS⟩ : ∃ x, w4.heap.size = x := ⟨_, rfl⟩
 rw [hS] at HBt ⊢
 clear hS
 go_wp2_with fail
 go_loopw [13] (fun i wx => ∃ k : Nat, k ≤ 5 ∧ i = .int .i64 (k : Int) ∧ Hid (Kp wB wx none)) (fun i _ => 5 - (intOf i).toNat)
 case atStart => exact ⟨0, by omega, rfl, Lib.hid (Kp.refl _ _)⟩
 case round =>
  obtain ⟨m, hm, rfl, HM⟩ := hrel
  have hm0 : (0 : Int) ≤ (m : Int) := by omega
  by_cases hlt : m < 5
  ·have hm1 : (m : Int) < 5 := by omega
   obtain ⟨z, hz⟩ : ∃ z : List UInt8, (#[str T, str sc, str q3, str q1, str A] : Array Value)[m]? = some (str z) := by
    have h5 : m = 0 ∨ m = 1 ∨ m = 2 ∨ m = 3 ∨ m = 4 := by omega
    rcases h5 with rfl | rfl | rfl | rfl | rfl <;> exact ⟨_, rfl⟩
   have hcell : wr.cell? ⟨S, m, none⟩ = some (str z) := ckr HBt.out HM.out (by simp) m hz
   obtain ⟨C, x, y, hp⟩ : ∃ C x y, Ru.parse z = (C, x, y) := ⟨_, _, _, rfl⟩
   have HG := Lib.hid (Ru.check_good (by have := Ru.parse_check z; rw [hp] at this; exact this : Ru.check C = 0))
   have HE2 := Lib.hid (HEw.out.kp0 (HC.out.trans HM.out))
   have cP := parse_len (parse_any z wr HE2.out) hp
   have cQ : Hid (∀ V, Calls Tryz.prog 20 #[str z] V _) := Lib.hid (fun V => parse_len (parseR_any z V) hp)
   have HTT := Lib.hid hz
   clear hz hp
   have hbb : (y == y) = true := by simp
   have haa : (x == x) = true := by simp
   go_upto_region 11 with (go_at_call 19; refine cP.mono ?_; clear cP; rintro e w5 ⟨ps, co, pc, mc, rfl, H5⟩)
   have hcell2 : w5.cell? ⟨S, m, none⟩ = some (str z) := ckr HBt.out (HM.out.trans H5.out.2.2.2.2) (by simp) m HTT.out
   have cQ5 := cQ.out w5
   clear hcell cQ
   go_upto_region 12 with (go_at_call 20; refine cQ5.mono ?_; clear cQ5; rintro e w6 ⟨rs, do_, qc, nc, rfl, H6⟩)
   have H7 := Lib.hid (HM.out.trans (H5.out.2.2.2.2.trans H6.out.2.2.2.2))
   have cX : Calls Tryz.prog 21 #[.slice co mc pc, .slice do_ nc qc] w6 (SameIs true w6) := by
    have h := same_all_any ps rs co do_ pc qc mc nc w6 H5.out.1 H6.out.1 (H5.out.2.2.1.keep H6.out.2.2.2.2) H6.out.2.2.1 (fun q hq => (H5.out.2.2.2.1 q hq).keep H6.out.2.2.2.2) H6.out.2.2.2.1 (fun y hy => good_fit (HG.out.2 y.r (by rw [H5.out.2.1]; exact List.mem_map_of_mem hy))) (by have h1 := HG.out.1; have h2 := H5.out.1; rw [H5.out.2.1, List.length_map] at h1; omega)
    rw [← H5.out.2.1, ← H6.out.2.1, eqB_t rfl] at h
    exact h
   clear hcell2
   go_wp2_with (go_at_call 21; refine cX.mono ?_; clear cX; rintro e w7 ⟨rfl, h7⟩; have H8 := Lib.hid (H7.out.trans h7); clear h7)
   go_roundw
   case rel => exact ⟨m + 1, by omega, by go_num, H8⟩
   case measure => simp [intOf]; omega
  ·obtain rfl : m = 5 := by omega
   go_wp2_with fail
   go_ret
   exact ⟨rfl, HC.out.trans HM.out⟩

end Go.Proofs.YtnchipahdfbliaaGreatDoor

