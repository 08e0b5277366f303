/- The law DrillRaw, run. Conditions: a string and a list of strings that a machine holds.
   The law DrillReads, run. Condition: arguments that a machine holds. -/
import Derived.Test.YtljjbdbgedmadaaGreatDoorGn
import Derived.Test.YtljjbdbgedmadaaGreatDoorPt
import Derived.Test.YtljjbdbgedmadaaGreatDoorRz
import Derived.Test.YtljjbdbgedmadaaGreatDoorMy
namespace Go.Proofs.YtljjbdbgedmadaaGreatDoor
open Go.RowKit
theorem same_any (s : List UInt8) (hs : s.length ≤ 1000000000) (w : World) (he : Env w) : Calls Tryz.prog 14 #[str s] w fun E w' => E = .returned (.bool true) ∧ Kp w w' none :=
 same_of s hs (fun V _ => rread_any s V hs) w he
theorem ext_take (t : List UInt8) (n : Nat) : (⟨t.toArray⟩ : ByteArray).extract 0 n = ⟨(t.take n).toArray⟩ := by
 rw [ext_mid]; rfl
theorem ext_min (s : List UInt8) (m : Nat) : (⟨s.toArray⟩ : ByteArray).extract 0 (min (s.length : Int) (m : Int)).toNat = ⟨(s.take m).toArray⟩ := by
 rw [ext_take]
 rcases Nat.lt_or_ge m s.length with h | h
 ·rw [show (min (s.length : Int) (m : Int)).toNat = m by omega]
 ·rw [show (min (s.length : Int) (m : Int)).toNat = s.length by omega, List.take_length, List.take_of_length_le h]
theorem str_at {w : World} {ao : Option Addr} {cap : Nat} {l : List (List UInt8)} (h : LiesAt 1 strVal w ao cap l) {k : Nat} (hk : k < l.length) : ∃ b off, ao = some ⟨b, off, none⟩ ∧ l.length ≤ cap ∧ ∀ w', Kp w w' none → w'.cell? ⟨b, off + k, none⟩ = some (str l[k]) := by
 obtain ⟨b, off, e, hb, hc, hr⟩ := h k hk
 have h0 := hr 0 (by simp [strVal])
 rw [Nat.mul_one, Nat.add_zero] at h0; exact ⟨b, off, e, hc, fun w' K => (K.below.cell (p := ⟨b, off + k, none⟩) hb).trans h0⟩
end Go.Proofs.YtljjbdbgedmadaaGreatDoor
set_option maxHeartbeats 8000000
set_option maxRecDepth 100000
namespace Go.Proofs.YtljjbdbgedmadaaGreatDoor
open Go.RowKit Go.Lib
theorem infoStr9 : (Tryz.prog.info? 9).map (fun i => (i.zero, i.size, i.bytes)) = some (some (.string ⟨#[]⟩), 1, 16) := by kernel_rfl
theorem str_list {w : World} (x : List UInt8) : IsList 1 strVal (w.alloc (.cells #[str x] 9)) (.slice (some ⟨w.heap.size, 0, none⟩) 1 1) [x] := by
 refine .inr ⟨w.heap.size, 0, 1, rfl, by simp, by simp, fun k hk j hj => ?_⟩
 simp at hk; subst hk
 have hj1 : j < 1 := by simpa [strVal] using hj
 have hj' : j = 0 := by omega
 subst hj'
 exact hcell (heap_alloc_new w _) 0 rfl
def Pieces (n : Nat) (L : List (List UInt8)) : Prop := ∀ x ∈ L, x.length ≤ n
theorem Pieces.more {n : Nat} {L : List (List UInt8)} {y : List UInt8} (h : Pieces n L) (hy : y.length ≤ n) : Pieces n (L ++ [y]) := fun x hx => by
 rcases List.mem_append.1 hx with hx | hx
 ·exact h x hx
 ·rw [List.mem_singleton.1 hx]; exact hy
def SpRel (n : Nat) (w : World) (v f i : Value) (wr : World) : Prop :=
 ∃ (k fr : Nat) (L : List (List UInt8)), k ≤ n ∧ fr ≤ k ∧ i = I6 (k : Int) ∧ f = I6 (fr : Int) ∧ L.length ≤ k ∧ Pieces n L ∧ wr.ownsRow w.heap.size 9 1 v L.length (L.flatMap strVal) ∧ Kp w wr none
theorem split_any (s : List UInt8) (hs : s.length ≤ 20000) (w : World) : Calls Tryz.prog 40 #[str s] w fun E w' => ∃ (ao : Option Addr) (cap : Nat) (L : List (List UInt8)), E = .returned (.slice ao L.length cap) ∧ 0 < L.length ∧ L.length ≤ 20001 ∧ Pieces s.length L ∧ LiesAt 1 strVal w' ao cap L ∧ Kp w w' none := by
 have hl0 : (0 : Int) ≤ (s.length : Int) := Int.natCast_nonneg _
 obtain ⟨i0, hi, hz0, hz1, hz2⟩ := info_parts infoStr9
 go_enter Tryz.func40, Tryz.ntmps40
 go_wp2_with fail
 go_loopw [3, 4, 5] (fun v f i wr => SpRel s.length w v f i wr) (fun _ _ i _ => s.length - (intOf i).toNat)
 case atStart => exact ⟨0, 0, [], Nat.zero_le _, Nat.le_refl _, rfl, rfl, Nat.le_refl _, (fun _ h => by cases h), World.ownsRow_nil _ _ _ _, Kp.refl _ _⟩
 case round =>
  obtain ⟨k, fr, L, hk, hfk, rfl, rfl, hLk, hP, hown, hkp⟩ := hrel; have HK := oh hkp; have HO := oh hown; have HP := oh hP
  obtain ⟨u3, hu3⟩ : ∃ x : Nat, L.length = x := ⟨_, rfl⟩
  have hk0 := nn k; have hf0 := nn fr; have hLb : L.length ≤ 20000 := by omega
  obtain ⟨xo, xcap, hxv⟩ := own_slice hown
  subst hxv; clear hkp hown hP u3 hu3
  by_cases hlt : k < s.length
  ·have hk1 : (k : Int) < (s.length : Int) := by omega
   have hix := idx_at s k hlt
   obtain ⟨c, hcc⟩ : ∃ c, (s[k]).toNat = c := ⟨_, rfl⟩
   rw [hcc] at hix; have HME : Hid (s.length - (intOf (I6 ((k : Int) + 1))).toNat < s.length - (intOf (I6 (k : Int))).toNat) := oh (by simp [intOf]; omega)
   clear hcc
   by_cases h10 : c = 10
   ·have e10 : ((c : Int) == 10) = true := by rw [h10]; rfl
    obtain ⟨y, hy⟩ : ∃ y, (s.take (k + 1)).drop fr = y := ⟨_, rfl⟩
    have hxp : (⟨s.toArray⟩ : ByteArray).extract fr (k + 1) = ⟨y.toArray⟩ := by rw [ext_mid, hy]
    have hyl : y.length ≤ s.length := by rw [← hy, List.length_drop, List.length_take]; omega
    have HYL := oh hyl; have hfs : (fr : Int) ≤ (k : Int) + 1 := by omega
    have hks : (k : Int) + 1 ≤ (s.length : Int) := by omega
    clear hy hyl h10
    go_wp2_with (first | (at_builtin; go_must (refine wpList_app (f := strVal) rfl (.tmp 16) (.tmp 22) w.heap.size 32 9 rfl i0 _ 1 16 Tryz.underlying32 hi hz0 hz1 hz2 rfl (by omega) (fun _ => rfl) (by intro x u hu; simp [strVal] at hu; subst hu; rfl) (.slice xo L.length xcap) L.length _ rfl (own_kp HO.out ((Kp.refl _ none).alloc _)) _ [y] rfl (str_list y) (by unfold maxLen; simp; omega) (by simp; omega) (by have := HK.out.size; simp; omega) ?_); intro v3 w3 ho hg _; have HO3 := oh ho; have HG3 := oh (Kp.row (HK.out.trans ((Kp.refl _ none).alloc _)) hg (fun q hq => (HO.out.lt q hq).1)); clear ho hg) | fail)
    have HREL : Hid (SpRel s.length w v3 (I6 ((k : Int) + 1)) (I6 ((k : Int) + 1)) w3) := oh ⟨k + 1, k + 1, L ++ [y], hlt, Nat.le_refl _, by go_num, by go_num, by simp; omega, HP.out.more HYL.out, by
     have := HO3.out
     rw [show L.length + [y].length = (L ++ [y]).length by simp, ← List.flatMap_append] at this
     exact this, HG3.out⟩
    go_roundw
    case rel => exact HREL.out
    case measure => exact HME.out
   ·have e10 : ((c : Int) == 10) = false := by simp; omega
    clear h10; have HREL : Hid (SpRel s.length w (.slice xo L.length xcap) (I6 (fr : Int)) (I6 ((k : Int) + 1)) wr) := oh ⟨k + 1, fr, L, hlt, by omega, by go_num, rfl, by omega, HP.out, HO.out, HK.out⟩
    go_wp2_with fail
    go_roundw
    case rel => exact HREL.out
    case measure => exact HME.out
  ·obtain rfl : k = s.length := by omega
   have hk1 : ¬ (s.length : Int) < (s.length : Int) := by omega
   obtain ⟨y, hy⟩ : ∃ y, (s.take s.length).drop fr = y := ⟨_, rfl⟩
   have hxp : (⟨s.toArray⟩ : ByteArray).extract fr s.length = ⟨y.toArray⟩ := by rw [ext_mid, hy]
   have HYL : Hid (y.length ≤ s.length) := oh (by rw [← hy, List.length_drop, List.length_take]; omega)
   have hfs : (fr : Int) ≤ (s.length : Int) := by omega
   clear hy
   go_wp2_with (first | (at_builtin; go_must (refine wpList_app (f := strVal) rfl (.tmp 26) (.tmp 30) w.heap.size 32 9 rfl i0 _ 1 16 Tryz.underlying32 hi hz0 hz1 hz2 rfl (by omega) (fun _ => rfl) (by intro x u hu; simp [strVal] at hu; subst hu; rfl) (.slice xo L.length xcap) L.length _ rfl (own_kp HO.out ((Kp.refl _ none).alloc _)) _ [y] rfl (str_list y) (by unfold maxLen; simp; omega) (by simp; omega) (by have := HK.out.size; simp; omega) ?_); intro v3 w3 ho hg _; have HO3 := oh ho; have HG3 := oh (Kp.row (HK.out.trans ((Kp.refl _ none).alloc _)) hg (fun q hq => (HO.out.lt q hq).1)); clear ho hg) | fail)
   have ho := HO3.out; rw [show L.length + [y].length = (L ++ [y]).length by simp, ← List.flatMap_append] at ho
   obtain ⟨ao, cap, hv⟩ := own_slice ho
   subst hv; have HLI := oh (own_lies (f := strVal) (fun _ => rfl) ho).2
   clear ho HO3; go_ret
   exact ⟨ao, cap, L ++ [y], rfl, by simp, by simp; omega, HP.out.more HYL.out, HLI.out, HG3.out⟩
def TxRel (B : Nat) (n : Nat) (W : World) (a b c i : Value) (wr : World) : Prop :=
 ∃ (k : Nat) (x y z : List UInt8), k ≤ n ∧ i = I6 (k : Int) ∧ a = str x ∧ b = str y ∧ c = str z ∧ x.length ≤ B * k ∧ y.length ≤ B * k ∧ z.length ≤ B * k ∧ Kp W wr none
theorem LiesRows.kep {w w' : World} {ao : Option Addr} {cap : Nat} {rows : List (List Int)} (h : LiesRows w ao cap rows) (k : Kp w w' none) : LiesRows w' ao cap rows := fun i hi => by
 obtain ⟨b, off, ra, rc, e, h1, h2, h3, h4, h5, h6⟩ := h i hi
 exact ⟨b, off, ra, rc, e, h1, Nat.lt_of_lt_of_le h2 k.size, (k.below.cell (p := ⟨b, off + i, none⟩) h2).trans h3, h4.keep k, h5, h6⟩
theorem tmod_nat (a b : Nat) : (a : Int).tmod (b : Int) = ((a % b : Nat) : Int) := by rw [Int.tmod_eq_emod_of_nonneg (by omega)]; simp
theorem texts_any (s : List UInt8) (hs : s.length ≤ 20000) (ca cc cl ct : Nat) (hca : ca < 65536) (hcc : cc < 256) (hcl : cl < 256) (hct : ct < 256) (ci cn : List UInt8) (hci : LenOk ci.length) (hcn : LenOk cn.length) (w : World) :
  Calls Tryz.prog 13 #[str s, .agg #[.int .u16 (ca : Int), .int .u8 (cc : Int), str ci, .int .u8 (cl : Int), .int .u8 (ct : Int), str cn]] w fun E w' => ∃ (ao : Option Addr) (cap : Nat) (L : List (List UInt8)), E = .returned (.slice ao L.length cap) ∧ L.length = 5 ∧ Pieces 1000000000 L ∧ LiesAt 1 strVal w' ao cap L ∧ Kp w w' none := by
 have HSP := oh (fun V => split_any s hs V)
 obtain ⟨n, hn⟩ : ∃ n, s.length = n := ⟨_, rfl⟩
 rw [hn] at HSP hs; have HN := oh hn; have hn0 := nn n; obtain ⟨at', hat⟩ : ∃ q, ca % (n + 1) = q := ⟨_, rfl⟩
 have hat1 : at' ≤ n := by rw [← hat]; exact Nat.lt_succ_iff.1 (Nat.mod_lt _ (by omega))
 obtain ⟨to', hto⟩ : ∃ q, min n (at' + cc % 5) = q := ⟨_, rfl⟩
 have hto1 : at' ≤ to' ∧ to' ≤ n := by omega
 have HM1 : Hid ((ca : Int).tmod ((n : Int) + 1) = (at' : Int)) := oh (by rw [← hat, ← tmod_nat]; rfl)
 obtain ⟨c5, hc5⟩ : ∃ q, cc % 5 = q := ⟨_, rfl⟩
 have hc5b : c5 ≤ 4 := by omega
 have HM2 : Hid ((cc : Int).tmod 5 = (c5 : Int)) := oh (by rw [← hc5]; exact tmod_nat cc 5)
 have HMN : Hid (min (n : Int) ((at' : Int) + (c5 : Int)) = (to' : Int)) := oh (by omega)
 obtain ⟨inn, hin⟩ : ∃ y, ci.take 20 = y := ⟨_, rfl⟩
 have HIL : Hid (inn.length ≤ 20) := oh (by rw [← hin, List.length_take]; omega)
 have HXI : Hid ((⟨ci.toArray⟩ : ByteArray).extract 0 (min (ci.length : Int) 20).toNat = ⟨inn.toArray⟩) := oh (by rw [← hin]; exact ext_min ci 20)
 obtain ⟨l40, hl40⟩ : ∃ y, cn.take 40 = y := ⟨_, rfl⟩
 have HL40 : Hid (l40.length ≤ 40) := oh (by rw [← hl40, List.length_take]; omega)
 have HXL : Hid ((⟨cn.toArray⟩ : ByteArray).extract 0 (min (cn.length : Int) 40).toNat = ⟨l40.toArray⟩) := oh (by rw [← hl40]; exact ext_min cn 40)
 obtain ⟨lin, hlin⟩ : ∃ y : List UInt8, l40 ++ [10] = y := ⟨_, rfl⟩
 have HLL : Hid (lin.length ≤ 41) := oh (by rw [← hlin, List.length_append]; have := HL40.out; simp only [List.length_cons, List.length_nil]; omega)
 have HSL : Hid ((⟨l40.toArray⟩ : ByteArray) ++ (⟨#[10]⟩ : ByteArray) = ⟨lin.toArray⟩) := oh (sumB l40 [10] lin hlin)
 obtain ⟨sa, hsa⟩ : ∃ y, s.take at' = y := ⟨_, rfl⟩
 have HSA : Hid (sa.length ≤ 20000) := oh (by rw [← hsa, List.length_take]; omega)
 have HXA : Hid ((⟨s.toArray⟩ : ByteArray).extract 0 at' = ⟨sa.toArray⟩) := oh (by rw [ext_mid, ← hsa]; rfl)
 obtain ⟨sb, hsb⟩ : ∃ y, (s.take n).drop to' = y := ⟨_, rfl⟩
 have HSB : Hid (sb.length ≤ 20000) := oh (by rw [← hsb, List.length_drop, List.length_take]; omega)
 have HXB : Hid ((⟨s.toArray⟩ : ByteArray).extract to' n = ⟨sb.toArray⟩) := oh (by rw [ext_mid, ← hsb])
 have HBX := oh (heap_alloc_new w (.cells #[.int .u16 (ca : Int), .int .u8 (cc : Int), str ci, .int .u8 (cl : Int), .int .u8 (ct : Int), str cn] 25))
 have HK0 : Hid (Kp w (w.alloc (.cells #[.int .u16 (ca : Int), .int .u8 (cc : Int), str ci, .int .u8 (cl : Int), .int .u8 (ct : Int), str cn] 25)) none) := oh ((Kp.refl w none).alloc _)
 have HCI := oh hci; have HCN := oh hcn; have HTO := oh hto1; have HAT := oh hat1; clear hat hto hc5 hin hl40 hlin hsa hsb hn hci hcn hto1 hat1; go_enter Tryz.func13, Tryz.ntmps13
 go_upto_region 1 with fail
 generalize w.alloc (.cells #[.int .u16 (ca : Int), .int .u8 (cc : Int), str ci, .int .u8 (cl : Int), .int .u8 (ct : Int), str cn] 25) = X at *
 obtain ⟨b, hb⟩ : ∃ b, w.heap.size = b := ⟨_, rfl⟩
 rw [hb] at HBX ⊢; have hnl : s.length = n := HN.out
 have hm1 := HM1.out; have x0 := hcell HBX.out 0 rfl
 go_upto_region 2 with fail
 clear hm1 x0; have x1 := hcell HBX.out 1 rfl
 have hm2 := HM2.out; have hmn := HMN.out; have hat1 := HAT.out; go_upto_region 3 with fail
 clear x1 hm2 hmn; have x2 : X.cell? ⟨b, 2, none⟩ = some (str ci) := hcell HBX.out 2 rfl
 have hxi := HXI.out; have hi0 : (0 : Int) ≤ min (ci.length : Int) 20 := by omega
 have hi1 : min (ci.length : Int) 20 ≤ (ci.length : Int) := by omega
 go_upto_region 4 with fail
 clear x2 hxi hi0 hi1; have x5 : X.cell? ⟨b, 5, none⟩ = some (str cn) := hcell HBX.out 5 rfl
 have hxl := HXL.out; have hi0 : (0 : Int) ≤ min (cn.length : Int) 40 := by omega
 have hi1 : min (cn.length : Int) 40 ≤ (cn.length : Int) := by omega
 have hsl := HSL.out; have hgl : (9223372036854775807 < l40.length + 1) = False := eq_false (by have := HL40.out; omega)
 go_upto_region 5 with fail
 clear x5 hxl hi0 hi1 hsl hgl; go_upto_region 8 with (go_at_call 40; refine (HSP.out _).mono ?_; rintro E w1 ⟨lo, lc, L, rfl, hL0, hLm, hP, hLI, k1⟩; have K1 := oh k1; have HP := oh hP; have HLI := oh hLI; have HB1 := oh (blk HBX.out k1); obtain ⟨m, hm⟩ : ∃ m, L.length = m := ⟨_, rfl⟩; rw [hm] at hL0 hLm; rw [hm]; have HM := oh hm; clear k1 hP hLI hm)
 obtain ⟨lq, hlq⟩ : ∃ q, cl % m = q := ⟨_, rfl⟩
 obtain ⟨tq, htq⟩ : ∃ q, ct % m = q := ⟨_, rfl⟩
 have hlq1 : lq < m := by rw [← hlq]; exact Nat.mod_lt _ hL0
 have htq1 : tq < m := by rw [← htq]; exact Nat.mod_lt _ hL0
 have HQ1 : Hid ((cl : Int).tmod (m : Int) = (lq : Int)) := oh (by rw [← hlq]; exact tmod_nat cl m)
 have HQ2 : Hid ((ct : Int).tmod (m : Int) = (tq : Int)) := oh (by rw [← htq]; exact tmod_nat ct m)
 have HMZ : Hid (((m : Int) == 0) = false) := oh (beq_eq_false_iff_ne.2 (by omega))
 have hm0 := nn m; have HBK : Hid (∀ V, Kp w1 V none → V.cell? ⟨b, 3, none⟩ = some (.int .u8 (cl : Int)) ∧ V.cell? ⟨b, 4, none⟩ = some (.int .u8 (ct : Int))) := oh fun V kv => ⟨hcell (blk HB1.out kv) 3 rfl, hcell (blk HB1.out kv) 4 rfl⟩
 clear hlq htq; go_loopw [10, 11, 12, 50] (fun a b c i wr => TxRel 40050 m w1 a b c i wr) (fun _ _ _ i _ => m - (intOf i).toNat)
 case atStart => exact ⟨0, [], [], [], Nat.zero_le _, rfl, rfl, rfl, rfl, Nat.zero_le _, Nat.zero_le _, Nat.zero_le _, Kp.refl _ _⟩
 case round =>
  obtain ⟨k, x, y, z, hk, rfl, rfl, rfl, rfl, hx, hy, hz, hkp⟩ := hrel; have HK := oh hkp; have HX := oh hx; have HY := oh hy; have HZ := oh hz; clear hkp hx hy hz
  have hk0 := nn k
  by_cases hlt : k < m
  ·have hk1 : (k : Int) < (m : Int) := by omega
   have hkl : k < L.length := by rw [HM.out]; exact hlt
   have hql : lq < L.length := by rw [HM.out]; exact hlq1
   obtain ⟨g, off, rfl, hcap, hcx⟩ := str_at HLI.out hkl
   obtain ⟨g', off', hao, _, hcq⟩ := str_at HLI.out hql
   injection hao with hao; injection hao with e1 e2; subst e1; subst e2; rw [HM.out] at hcap
   obtain ⟨p, hp⟩ : ∃ p, L[k] = p := ⟨_, rfl⟩
   obtain ⟨q, hq⟩ : ∃ p, L[lq] = p := ⟨_, rfl⟩
   have HPL : Hid (p.length ≤ 20000 ∧ q.length ≤ 20000) := oh (by have h1 := HP.out p (by rw [← hp]; exact List.getElem_mem _); have h2 := HP.out q (by rw [← hq]; exact List.getElem_mem _); omega)
   rw [hp] at hcx; rw [hq] at hcq; have c1 := hcx wr HK.out
   have HC2 := oh (hcq wr HK.out)
   have HREL0 : Hid (∀ (x' y' z' : List UInt8), x'.length ≤ x.length + 20000 → y'.length ≤ y.length + 40000 → z'.length ≤ z.length + 20041 → TxRel 40050 m w1 (str x') (str y') (str z') (I6 ((k : Int) + 1)) wr) := oh fun x' y' z' h1 h2 h3 =>
    ⟨k + 1, x', y', z', hlt, by go_num, rfl, rfl, rfl, by have := HX.out; omega, by have := HY.out; omega, by have := HZ.out; omega, HK.out⟩
   have HME : Hid (m - (intOf (I6 ((k : Int) + 1))).toNat < m - (intOf (I6 (k : Int))).toNat) := oh (by simp [intOf]; omega)
   have hlim : x.length ≤ 900000000 ∧ y.length ≤ 900000000 ∧ z.length ≤ 900000000 := by have := HX.out; have := HY.out; have := HZ.out; omega
   obtain ⟨r1, hr1⟩ : ∃ t : List UInt8, x ++ p = t := ⟨_, rfl⟩
   obtain ⟨r2, hr2⟩ : ∃ t : List UInt8, y ++ p = t := ⟨_, rfl⟩
   obtain ⟨r3, hr3⟩ : ∃ t : List UInt8, z ++ p = t := ⟨_, rfl⟩
   obtain ⟨r4, hr4⟩ : ∃ t : List UInt8, r2 ++ q = t := ⟨_, rfl⟩
   obtain ⟨r5, hr5⟩ : ∃ t : List UInt8, r3 ++ lin = t := ⟨_, rfl⟩
   have l1 : r1.length = x.length + p.length := by rw [← hr1, List.length_append]
   have l2 : r2.length = y.length + p.length := by rw [← hr2, List.length_append]
   have l3 : r3.length = z.length + p.length := by rw [← hr3, List.length_append]
   have l4 : r4.length = r2.length + q.length := by rw [← hr4, List.length_append]
   have l5 : r5.length = r3.length + lin.length := by rw [← hr5, List.length_append]
   have HLN : Hid (r1.length ≤ x.length + 20000 ∧ r2.length ≤ y.length + 20000 ∧ r3.length ≤ z.length + 20000 ∧ r4.length ≤ y.length + 40000 ∧ r5.length ≤ z.length + 20041) := oh (by have := HPL.out; have := HLL.out; omega)
   have HS1 : Hid ((⟨x.toArray⟩ : ByteArray) ++ (⟨p.toArray⟩ : ByteArray) = ⟨r1.toArray⟩) := oh (sumB x p r1 hr1)
   have HS2 : Hid ((⟨y.toArray⟩ : ByteArray) ++ (⟨p.toArray⟩ : ByteArray) = ⟨r2.toArray⟩) := oh (sumB y p r2 hr2)
   have HS3 : Hid ((⟨z.toArray⟩ : ByteArray) ++ (⟨p.toArray⟩ : ByteArray) = ⟨r3.toArray⟩) := oh (sumB z p r3 hr3)
   have HS4 : Hid ((⟨r2.toArray⟩ : ByteArray) ++ (⟨q.toArray⟩ : ByteArray) = ⟨r4.toArray⟩) := oh (sumB r2 q r4 hr4)
   have HS5 : Hid ((⟨r3.toArray⟩ : ByteArray) ++ (⟨lin.toArray⟩ : ByteArray) = ⟨r5.toArray⟩) := oh (sumB r3 lin r5 hr5)
   have HG1 : Hid ((9223372036854775807 < x.length + p.length) = False) := oh (eq_false (by have := HPL.out; omega))
   have HG2 : Hid ((9223372036854775807 < y.length + p.length) = False) := oh (eq_false (by have := HPL.out; omega))
   have HG3 : Hid ((9223372036854775807 < z.length + p.length) = False) := oh (eq_false (by have := HPL.out; omega))
   have HG4 : Hid ((9223372036854775807 < r2.length + q.length) = False) := oh (eq_false (by have := HPL.out; omega))
   have HG5 : Hid ((9223372036854775807 < r3.length + lin.length) = False) := oh (eq_false (by have := HPL.out; have := HLL.out; omega))
   obtain ⟨HZ3, HZ4⟩ := HBK.out wr HK.out
   have HB3 := oh HZ3; have HB4 := oh HZ4; clear hr1 hr2 hr3 hr4 hr5 l1 l2 l3 l4 l5 hlim hp hq hcx hcq hkl hql HZ3 HZ4; go_upto_region 10 with fail
   clear c1
   by_cases hz1 : k = lq
   ·by_cases hz2 : k = tq
    ·have hq1 := HQ1.out; have hmz := HMZ.out; have b3 := HB3.out; have d1 : ((k : Int) != (lq : Int)) = false := by simp; omega
     clear hz1; go_upto_region 12 with fail
     clear hq1 hmz b3 d1; have s1 := HS2.out; have g1 := HG2.out; go_upto_region 13 with fail
     clear s1 g1; have s1 := HS3.out; have g1 := HG3.out; go_upto_region 14 with fail
     clear s1 g1; have hq2 := HQ2.out; have hmz := HMZ.out; have b4 := HB4.out; have d2 : ((k : Int) == (tq : Int)) = true := by simp; omega
     clear hz2; go_upto_region 15 with fail
     clear hq2 b4 d2; have hq1 := HQ1.out; have b3 := HB3.out; have c2 := HC2.out; have s1 := HS4.out; have g1 := HG4.out; have hlq2 : (lq : Int) < (m : Int) := by omega
     have hlq0 := nn lq; go_upto_region 16 with fail
     clear hq1 b3 c2 s1 g1 hlq2 hlq0 hmz; have s1 := HS5.out; have g1 := HG5.out; have HREL := oh (HREL0.out x r4 r5 (by have := HLN.out; omega) (by have := HLN.out; omega) (by have := HLN.out; omega))
     go_wp2_with fail
     go_roundw
     case rel => exact HREL.out
     case measure => exact HME.out
    ·have hq1 := HQ1.out; have hmz := HMZ.out; have b3 := HB3.out; have d1 : ((k : Int) != (lq : Int)) = false := by simp; omega
     clear hz1; go_upto_region 12 with fail
     clear hq1 hmz b3 d1; have s1 := HS2.out; have g1 := HG2.out; go_upto_region 13 with fail
     clear s1 g1; have s1 := HS3.out; have g1 := HG3.out; go_upto_region 14 with fail
     clear s1 g1; have hq2 := HQ2.out; have hmz := HMZ.out; have b4 := HB4.out; have d2 : ((k : Int) == (tq : Int)) = false := by simp; omega
     clear hz2; have HREL := oh (HREL0.out x r2 r3 (by have := HLN.out; omega) (by have := HLN.out; omega) (by have := HLN.out; omega))
     go_wp2_with fail
     go_roundw
     case rel => exact HREL.out
     case measure => exact HME.out
   ·by_cases hz2 : k = tq
    ·have hq1 := HQ1.out; have hmz := HMZ.out; have b3 := HB3.out; have d1 : ((k : Int) != (lq : Int)) = true := by simp; omega
     clear hz1; go_upto_region 11 with fail
     clear hq1 hmz b3 d1; have s1 := HS1.out; have g1 := HG1.out; go_upto_region 12 with fail
     clear s1 g1; have s1 := HS2.out; have g1 := HG2.out; go_upto_region 13 with fail
     clear s1 g1; have s1 := HS3.out; have g1 := HG3.out; go_upto_region 14 with fail
     clear s1 g1; have hq2 := HQ2.out; have hmz := HMZ.out; have b4 := HB4.out; have d2 : ((k : Int) == (tq : Int)) = true := by simp; omega
     clear hz2; go_upto_region 15 with fail
     clear hq2 b4 d2; have hq1 := HQ1.out; have b3 := HB3.out; have c2 := HC2.out; have s1 := HS4.out; have g1 := HG4.out; have hlq2 : (lq : Int) < (m : Int) := by omega
     have hlq0 := nn lq; go_upto_region 16 with fail
     clear hq1 b3 c2 s1 g1 hlq2 hlq0 hmz; have s1 := HS5.out; have g1 := HG5.out; have HREL := oh (HREL0.out r1 r4 r5 (by have := HLN.out; omega) (by have := HLN.out; omega) (by have := HLN.out; omega))
     go_wp2_with fail
     go_roundw
     case rel => exact HREL.out
     case measure => exact HME.out
    ·have hq1 := HQ1.out; have hmz := HMZ.out; have b3 := HB3.out; have d1 : ((k : Int) != (lq : Int)) = true := by simp; omega
     clear hz1; go_upto_region 11 with fail
     clear hq1 hmz b3 d1; have s1 := HS1.out; have g1 := HG1.out; go_upto_region 12 with fail
     clear s1 g1; have s1 := HS2.out; have g1 := HG2.out; go_upto_region 13 with fail
     clear s1 g1; have s1 := HS3.out; have g1 := HG3.out; go_upto_region 14 with fail
     clear s1 g1; have hq2 := HQ2.out; have hmz := HMZ.out; have b4 := HB4.out; have d2 : ((k : Int) == (tq : Int)) = false := by simp; omega
     clear hz2; have HREL := oh (HREL0.out r1 r2 r3 (by have := HLN.out; omega) (by have := HLN.out; omega) (by have := HLN.out; omega))
     go_wp2_with fail
     go_roundw
     case rel => exact HREL.out
     case measure => exact HME.out
  ·have hk1 : ¬ (k : Int) < (m : Int) := by omega
   have HXN : Hid (x.length ≤ 900000000 ∧ y.length ≤ 900000000 ∧ z.length ≤ 900000000) := oh (by have := HX.out; have := HY.out; have := HZ.out; omega)
   have hto0 := HTO.out; have hat2 : (at' : Int) ≤ (n : Int) := by omega
   have hto2 : (to' : Int) ≤ (n : Int) := by omega
   have hat0 : (0 : Int) ≤ (at' : Int) := Int.natCast_nonneg _
   have hto3 : (0 : Int) ≤ (to' : Int) := Int.natCast_nonneg _
   have hto4 : to' ≤ n := hto0.2
   clear hlt hk hto0; go_upto_region 18 with fail
   obtain ⟨q1, hq1⟩ : ∃ zz : List UInt8, sa ++ inn = zz := ⟨_, rfl⟩
   have Bq1 : Hid ((⟨(sa).toArray⟩ : ByteArray) ++ (⟨(inn).toArray⟩ : ByteArray) = ⟨(q1).toArray⟩) := oh (by rw [← hq1]; exact ByteArray.mk_append_mk _ _)
   have laq1 : (sa).length ≤ 20000 := HSA.out
   have lbq1 : (inn).length ≤ 20 := HIL.out
   have bq1 : q1.length ≤ 20020 := by rw [← hq1, List.length_append]; (try simp only [List.length_cons, List.length_nil]); omega
   have Gq1 : Hid ((9223372036854775807 < (sa).length + (inn).length) = False) := oh (eq_false (by (try simp only [List.length_cons, List.length_nil]); omega))
   have Hq1 := oh hq1; clear hq1 laq1 lbq1; obtain ⟨q2, hq2⟩ : ∃ zz : List UInt8, q1 ++ sb = zz := ⟨_, rfl⟩
   have Bq2 : Hid ((⟨(q1).toArray⟩ : ByteArray) ++ (⟨(sb).toArray⟩ : ByteArray) = ⟨(q2).toArray⟩) := oh (by rw [← hq2]; exact ByteArray.mk_append_mk _ _)
   have lbq2 : (sb).length ≤ 20000 := HSB.out
   have bq2 : q2.length ≤ 40020 := by rw [← hq2, List.length_append]; (try simp only [List.length_cons, List.length_nil]); omega
   have Gq2 : Hid ((9223372036854775807 < (q1).length + (sb).length) = False) := oh (eq_false (by (try simp only [List.length_cons, List.length_nil]); omega))
   have Hq2 := oh hq2; clear hq2 lbq2; have HCUR : Hid (q2.length ≤ 100000) := oh (by omega)
   clear bq1 bq2; refine wp_region_held_drew (S := fun V => Hid (Kp w1 V none)) (by kernel_rfl) (oh (HK.out.drew)) (fun eh => ?_)
   refine tjH 0 rfl ?_; refine tjH 1 rfl ?_; refine tjH 2 rfl ?_; refine tjH 4 rfl ?_; refine tjH 6 rfl ?_; refine tjH 7 rfl ?_; refine tjH 10 rfl ?_; refine tjH 11 rfl ?_; refine tjH 12 rfl ?_; have hxa := HXA.out; refine tjH 3 rfl ?_; clear hxa; have hxb := HXB.out; refine tjH 8 rfl ?_; clear hxb
   have eq1 := Bq1.out
   have gq1 := Gq1.out
   refine tjH 5 rfl ?_; clear gq1 eq1
   have eq2 := Bq2.out
   have gq2 := Gq2.out
   refine tjH 9 rfl ?_; clear gq2 eq2; refine rdH 13 rfl (fun K hK => ?_); have gK := eh; clear eh; go_simp
   refine hK.out _ _ (oh (gK.out.alloc _)) (fun eh => ?_)
   have KB := oh gK.out
   clear hK K gK; try simp only [Act.put, sm]
   refine rdH 14 rfl (fun K hK => ?_); have gK := eh; clear eh; go_simp; try go_wp2_with fail
   refine hK.out _ _ (oh gK.out) (fun _ => ?_)
   have KZ := oh gK.out
   clear hK K gK; try simp only [Act.put, sm]
   refine wpAnyH_done (by kernel_rfl) ?_ _
   have HFIN : Hid (LiesAt 1 strVal (wr.alloc (.cells #[str s, str q2, str x, str y, str z] 9)).drew (some ⟨wr.heap.size, 0, none⟩) 5 [s, q2, x, y, z]) := oh (by
    have h := isList_own (f := strVal) (m := 1) (fun _ => rfl) (xs := [s, q2, x, y, z]) (World.ownsRow_lit (e := 9) (size := 1) (base := wr.heap.size) wr #[str s, str q2, str x, str y, str z] 5 (Nat.le_refl _) (by unfold maxLen; omega) rfl)
    exact h.lies)
   have HPF : Hid (Pieces 1000000000 [s, q2, x, y, z]) := oh (by
    intro t ht; have := HXN.out
    have := HCUR.out
    simp only [List.mem_cons, List.not_mem_nil, or_false] at ht
    rcases ht with rfl | rfl | rfl | rfl | rfl <;> omega)
   have HKF := oh (HK0.out.trans (K1.out.trans KZ.out))
   go_wp2_with fail
   go_ret
   exact ⟨_, _, [s, q2, x, y, z], rfl, rfl, HPF.out, HFIN.out, HKF.out⟩
theorem reads_any (rows : List (List Int)) (n : Nat) (hn : rows.length = n) (ao : Option Addr) (cap : Nat) (ca cc cl ct : Nat) (hca : ca < 65536) (hcc : cc < 256) (hcl : cl < 256) (hct : ct < 256) (ci cn : List UInt8) (hci : LenOk ci.length) (hcn : LenOk cn.length) (w : World) (he : Env w) (hl : LiesRows w ao cap rows) :
  Calls Tryz.prog 3 #[.slice ao n cap, .agg #[.int .u16 (ca : Int), .int .u8 (cc : Int), str ci, .int .u8 (cl : Int), .int .u8 (ct : Int), str cn]] w fun E w' => E = .returned (.bool true) ∧ Kp w w' none := by
 have HEN : Hid (∀ V, Kp w V none → Env V) := oh fun V k => he.kp0 k
 have K0 : Hid (Kp w (w.alloc (.cells #[.int .u16 (ca : Int), .int .u8 (cc : Int), str ci, .int .u8 (cl : Int), .int .u8 (ct : Int), str cn] 25)) none) := oh ((Kp.refl w none).alloc _)
 have HBX := oh (heap_alloc_new w (.cells #[.int .u16 (ca : Int), .int .u8 (cc : Int), str ci, .int .u8 (cl : Int), .int .u8 (ct : Int), str cn] 25))
 have HSN := oh (sanity_any _ (he.kp0 K0.out))
 have HMD : Hid (∀ V, Kp w V none → Calls Tryz.prog 12 #[.slice ao n cap] V (DrewHs V)) := oh fun V k => made12_any rows n hn ao cap V (hl.kep k)
 have HSM : Hid (∀ V (t : List UInt8), Kp w V none → t.length ≤ 1000000000 → Calls Tryz.prog 14 #[str t] V fun E w' => E = .returned (.bool true) ∧ Kp V w' none) := oh fun V t k ht => same_any t ht V (he.kp0 k)
 have HTX : Hid (∀ (s : List UInt8) V, s.length ≤ 20000 → Calls Tryz.prog 13 #[str s, .agg #[.int .u16 (ca : Int), .int .u8 (cc : Int), str ci, .int .u8 (cl : Int), .int .u8 (ct : Int), str cn]] V fun E w' => ∃ (ao : Option Addr) (cap : Nat) (L : List (List UInt8)), E = .returned (.slice ao L.length cap) ∧ L.length = 5 ∧ Pieces 1000000000 L ∧ LiesAt 1 strVal w' ao cap L ∧ Kp V w' none) := oh fun s V hs => texts_any s hs ca cc cl ct hca hcc hcl hct ci cn hci hcn V
 clear he hl hn hci hcn; go_enter Tryz.func3, Tryz.ntmps3
 go_upto_region 1 with fail
 generalize w.alloc (.cells #[.int .u16 (ca : Int), .int .u8 (cc : Int), str ci, .int .u8 (cl : Int), .int .u8 (ct : Int), str cn] 25) = X at *
 obtain ⟨b, hb⟩ : ∃ b, w.heap.size = b := ⟨_, rfl⟩
 rw [hb] at HBX ⊢; clear hb; go_wp2_with fail
 refine HSN.out.mono ?_
 rintro E w1 ⟨rfl, k1⟩; have K1 := oh (K0.out.trans k1); have HB1 := oh (blk HBX.out k1); clear k1; go_wp2_with fail
 refine (HMD.out _ K1.out).mono ?_
 rintro E w2 ⟨ts, bo, cb, hfine, h6, rfl, hh, _, _, k2⟩; have K2 := oh (K1.out.trans k2); have HB2 := oh (blk HB1.out k2)
 have HWR0 := rwrite_any ts ts.length rfl bo cb w2 hh (by omega)
 obtain ⟨hs, hhs⟩ : ∃ l, ts.map (·.h) = l := ⟨_, rfl⟩
 have hlq : hs.length = ts.length := by rw [← hhs, List.length_map]
 have hch : ∀ h ∈ hs, Dl.chkH h = 0 := by
  rw [← hhs]; intro h hm; obtain ⟨t, ht, rfl⟩ := List.mem_map.1 hm
  exact (hfine t ht).1
 have hw := Dl.write_few (l := hs) hch (by omega)
 have hfl := Dl.file_len hch (by have := Dl.radii_len hs; omega)
 rw [hhs, hw.1] at HWR0; obtain ⟨T, hT⟩ : ∃ t, Dl.fileT hs = t := ⟨_, rfl⟩
 rw [hT] at HWR0 hfl; have HTL : Hid (T.length ≤ 20000) := oh (by omega)
 obtain ⟨q, hq⟩ : ∃ q, ts.length = q := ⟨_, rfl⟩
 rw [hq] at HWR0 ⊢; have HWR := oh HWR0; clear HWR0 hw hfl hT hch hlq hhs hfine h6 hh k2 hq; go_wp2_with fail
 refine HWR.out.mono ?_
 rintro E w3 ⟨rfl, k3⟩; have K3 := oh (K2.out.trans k3)
 have HB3 := blk HB2.out k3
 have x0 := hcell HB3 0 rfl
 have x1 := hcell HB3 1 rfl
 have x2 : w3.cell? ⟨b, 2, none⟩ = some (str ci) := hcell HB3 2 rfl
 have x3 := hcell HB3 3 rfl
 have x4 := hcell HB3 4 rfl
 have x5 : w3.cell? ⟨b, 5, none⟩ = some (str cn) := hcell HB3 5 rfl
 have HTX3 := oh (HTX.out T w3 HTL.out); dsimp only; clear k3 HB3 HB1 HB2 HWR; go_wp2_with fail
 refine HTX3.out.mono ?_
 rintro E w4 ⟨lo, lc, L, rfl, hL5, hP, hLI, k4⟩; have K4 := oh (K3.out.trans k4); have HP := oh hP; have HLI := oh hLI; have HL5 := oh hL5; rw [hL5]; clear x0 x1 x2 x3 x4 x5 k4 hP hLI hL5; go_wp2_with fail
 go_loopw [21] (fun i wr => ∃ k : Nat, k ≤ 5 ∧ i = I6 (k : Int) ∧ Hid (Kp w4 wr none)) (fun i _ => 5 - (intOf i).toNat)
 case atStart => exact ⟨0, Nat.zero_le _, rfl, oh (Kp.refl _ _)⟩
 case round =>
  obtain ⟨k, hk, rfl, HK⟩ := hrel
  have hk0 := nn k
  by_cases hlt : k < 5
  ·have hk1 : (k : Int) < 5 := by omega
   have hkl : k < L.length := by rw [HL5.out]; exact hlt
   obtain ⟨g, off, rfl, hcap, hcx⟩ := str_at HLI.out hkl
   rw [HL5.out] at hcap; have c1 := hcx wr HK.out
   have hpl := HP.out _ (List.getElem_mem hkl)
   obtain ⟨p, hp⟩ : ∃ p, L[k] = p := ⟨_, rfl⟩
   rw [hp] at c1 hpl; have HS := oh (HSM.out wr p (K4.out.trans HK.out) hpl)
   clear hp hpl hcx hkl; go_wp2_with (go_at_call 14; refine HS.out.mono ?_; rintro E w5 ⟨rfl, k5⟩; have HK5 : Hid (Kp w4 w5 none) := oh (HK.out.trans k5); clear k5)
   first | exact ⟨⟨k + 1, hlt, by go_num, HK5⟩, by simp [intOf]; omega⟩ | (go_roundw; all_goals first | exact ⟨k + 1, hlt, by go_num, HK5⟩ | (simp [intOf]; omega))
  ·have hk1 : ¬ (k : Int) < 5 := by omega
   have HKF := oh (K4.out.trans HK.out); go_wp2_with fail
   go_ret
   exact ⟨rfl, HKF.out⟩
end Go.Proofs.YtljjbdbgedmadaaGreatDoor
