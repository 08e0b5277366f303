/- The reference's right conditions. Conditions: strings of at most 10^9 bytes, lists of at most 10^12 conditions. -/
import Derived.Test.YtnchipahdfbliaaGreatDoorRng
namespace Go.Proofs.YtnchipahdfbliaaGreatDoor
open Go.RowKit

def RightR (c : Ru.Cond) : Prop := ∀ (w : World) (v : Value), Tree w c v → Calls Tryz.prog 65 #[cA c v] w fun e w' => e = .returned (.bool (Ru.right c)) ∧ Kp w w' none
set_option maxHeartbeats 16000000 in
set_option maxRecDepth 100000 in
theorem rightR_walk (op : Int) (t : List UInt8) (n x0 y0 x1 y1 : Int) (l : List Ru.Cond) (ps : List (Ru.Cond × Value)) (ao : Option Addr) (cap m : Nat) (w : World) (hps : l = ps.map (·.1)) (hm : ps.length = m) (hl : LiesAt 8 cC w ao cap ps) (ht : ∀ p ∈ ps, Tree w p.1 p.2) (hr : ∀ p ∈ ps, RightR p.1) (htl : t.length ≤ 1000000000) (hm2 : m ≤ 1000000000000) :
  Calls Tryz.prog 65 #[.agg #[.int .i64 op, str t, .int .i64 n, .int .i64 x0, .int .i64 y0, .int .i64 x1, .int .i64 y1, .slice ao m cap]] w fun e w' => e = .returned (.bool (Ru.right (.mk op t n ⟨x0, y0, x1, y1⟩ l))) ∧ Kp w w' none := by
 obtain ⟨rt, rn, r0, r1, r2, r3, la, lm, lp, cB, hrest⟩ := bare_gen op t n x0 y0 x1 y1 ao m cap
 have hright : Ru.right (.mk op t n ⟨x0, y0, x1, y1⟩ l) = (Ru.fine op t n ⟨x0, y0, x1, y1⟩ m && Ru.rest op t n ⟨x0, y0, x1, y1⟩ m && ps.all fun p => Ru.right p.1) := by
  rw [Ru.right_mk, Ru.rights_all, hps, List.length_map, hm, List.all_map]; rfl
 have HRI := Lib.hid hright
 obtain ⟨R, hR⟩ : ∃ R, Ru.rest op t n ⟨x0, y0, x1, y1⟩ m = R := ⟨_, rfl⟩
 rw [hR] at hrest
 have HRE := Lib.hid hrest
 have HRR := Lib.hid hR
 have HL := Lib.hid hl
 have HT := Lib.hid ht
 have HR := Lib.hid hr
 have HM := Lib.hid hm
 have cB1 := cB (w.alloc (.cells #[.int .i64 op, str t, .int .i64 n, .int .i64 x0, .int .i64 y0, .int .i64 x1, .int .i64 y1, .slice ao m cap] 40))
 have hb0 := heap_alloc_new w (.cells #[.int .i64 op, str t, .int .i64 n, .int .i64 x0, .int .i64 y0, .int .i64 x1, .int .i64 y1, .slice ao m cap] 40)
 have k0 : Kp w (w.alloc (.cells #[.int .i64 op, str t, .int .i64 n, .int .i64 x0, .int .i64 y0, .int .i64 x1, .int .i64 y1, .slice ao m cap] 40)) none := (Kp.refl _ _).alloc _
 have HB0 := Lib.hid hb0
 have K0 := Lib.hid k0
 have hm0 : (0 : Int) ≤ (m : Int) := by omega
 clear cB hright hrest hR hl ht hr hm hps hb0 k0
 go_enter Tryz.func65, Tryz.ntmps65
 go_upto_region 2 with (go_at_call 91; refine cB1.mono ?_; rintro e w1 ⟨rfl, hk1⟩; have HK1 := Lib.hid (K0.out.trans hk1); have HB1 := Lib.hid (res_kept HB0.out hk1 (by simp)); clear hk1 cB1)
 obtain ⟨W2, hW2⟩ : ∃ x, w1.alloc (.cells #[.int .i64 op, str rt, .int .i64 rn, .int .i64 r0, .int .i64 r1, .int .i64 r2, .int .i64 r3, .slice la lm lp] 40) = x := ⟨_, rfl⟩
 have HB2 : Hid (W2.heap[w1.heap.size]? = some (.cells #[.int .i64 op, str rt, .int .i64 rn, .int .i64 r0, .int .i64 r1, .int .i64 r2, .int .i64 r3, .slice la lm lp] 40 (0, 0))) := Lib.hid (by rw [← hW2]; exact heap_alloc_new w1 _)
 have HB3 : Hid (W2.heap[w.heap.size]? = some (.cells #[.int .i64 op, str t, .int .i64 n, .int .i64 x0, .int .i64 y0, .int .i64 x1, .int .i64 y1, .slice ao m cap] 40 (0, 0))) := Lib.hid (by rw [← hW2]; exact res_kept HB1.out ((Kp.refl _ none).alloc _) (by simp))
 have HK2 : Hid (Kp w W2 none) := Lib.hid (by rw [← hW2]; exact HK1.out.alloc _)
 try rw [hW2]
 try rw [show (w1.alloc (.cells #[.int .i64 op, .string ⟨rt.toArray⟩, .int .i64 rn, .int .i64 r0, .int .i64 r1, .int .i64 r2, .int .i64 r3, .slice la lm lp] 40)) = W2 from hW2]
 clear hW2
 go_cut [30] from 11 to 31 (fun s30 wx => s30 = .bool (!R) ∧ wx = W2)
 case first =>
  have b1 := hcell HB2.out 1 rfl
  have b2 := hcell HB2.out 2 rfl
  have b3 := hcell HB2.out 3 rfl
  have b4 := hcell HB2.out 4 rfl
  have b5 := hcell HB2.out 5 rfl
  have b6 := hcell HB2.out 6 rfl
  have b7 := hcell HB2.out 7 rfl
  by_cases t1 : rt = []
  ·have f1 : (rt == []) = true := by rw [t1]; rfl
   by_cases t2 : rn = 0
   ·have f2 : (rn != 0) = false := by rw [t2]; rfl
    by_cases t3 : r0 = 0 ∧ r1 = 0 ∧ r2 = 0 ∧ r3 = 0
    ·obtain ⟨rfl, rfl, rfl, rfl⟩ := t3
     by_cases t4 : lm = 0
     ·have f4 : ((lm : Int) != 0) = false := by rw [t4]; rfl
      have HX : Hid (R = true) := Lib.hid (by rw [HRE.out, t1, t2, t4]; rfl)
      clear t1 t2 t4
      go_wp2_with fail
      go_meet
      exact ⟨by rw [HX.out]; rfl, rfl⟩
     ·have f4 : ((lm : Int) != 0) = true := by simp; omega
      have HX : Hid (R = false) := Lib.hid (by rw [HRE.out, show (lm == 0) = false by simpa using t4]; simp)
      clear t1 t2 t4
      go_wp2_with fail
      go_meet
      exact ⟨by rw [HX.out]; rfl, rfl⟩
    ·have HX : Hid (R = false) := Lib.hid (by rw [HRE.out, decide_eq_false t3]; simp)
     clear t1 t2
     by_cases z0 : r0 = 0
     ·subst z0
      by_cases z1 : r1 = 0
      ·subst z1
       by_cases z2 : r2 = 0
       ·subst z2
        have z3 : ¬ r3 = 0 := fun h => t3 ⟨rfl, rfl, rfl, h⟩
        clear t3
        go_wp2_with fail
        all_goals
         go_meet
         exact ⟨by rw [HX.out]; rfl, rfl⟩
       ·clear t3
        go_wp2_with fail
        all_goals
         go_meet
         exact ⟨by rw [HX.out]; rfl, rfl⟩
      ·clear t3
       go_wp2_with fail
       all_goals
        go_meet
        exact ⟨by rw [HX.out]; rfl, rfl⟩
     ·clear t3
      go_wp2_with fail
      all_goals
       go_meet
       exact ⟨by rw [HX.out]; rfl, rfl⟩
   ·have f2 : (rn != 0) = true := by simpa using t2
    have HX : Hid (R = false) := Lib.hid (by rw [HRE.out, show (rn == 0) = false by simpa using t2]; simp)
    clear t1 t2
    go_wp2_with fail
    go_meet
    exact ⟨by rw [HX.out]; rfl, rfl⟩
  ·have f1 : (rt == []) = false := by simpa using t1
   have HX : Hid (R = false) := Lib.hid (by rw [HRE.out, f1]; rfl)
   clear t1
   go_wp2_with fail
   go_meet
   exact ⟨by rw [HX.out]; rfl, rfl⟩
 case rest =>
  obtain ⟨rfl, rfl⟩ := hcut
  have HB0W := HB3
  clear HB2 HB1 HB0 K0
  cases R with
  | false =>
   have HFI : Hid (Ru.right (.mk op t n ⟨x0, y0, x1, y1⟩ l) = false) := Lib.hid (by rw [HRI.out, HRR.out]; simp)
   go_wp2_with fail
   go_ret
   exact ⟨ret_b HFI.out.symm, HK2.out⟩
  | true =>
   have HFI0 : Hid (Ru.right (.mk op t n ⟨x0, y0, x1, y1⟩ l) = (Ru.fine op t n ⟨x0, y0, x1, y1⟩ m && ps.all fun p => Ru.right p.1)) := Lib.hid (by rw [HRI.out, HRR.out, Bool.and_true])
   clear HRI HRR HRE
   go_wp2_with fail
   go_loopw [4] (fun i wr => ∃ k : Nat, k ≤ m ∧ i = .int .i64 (k : Int) ∧ Hid ((ps.take k).all (fun p => Ru.right p.1) = true) ∧ Hid (Kp w wr none) ∧ Hid (wr.heap[w.heap.size]? = some (.cells #[.int .i64 op, str t, .int .i64 n, .int .i64 x0, .int .i64 y0, .int .i64 x1, .int .i64 y1, .slice ao m cap] 40 (0, 0)))) (fun i _ => m - (intOf i).toNat)
   case atStart => exact ⟨0, Nat.zero_le _, rfl, Lib.hid (by simp), HK2, HB3⟩
   case round =>
    obtain ⟨k, hk, rfl, HA, HKW, HBW⟩ := hrel
    have d7 := hcell HBW.out 7 rfl
    by_cases hlt : k < m
    ·have h1 : k < ps.length := by rw [HM.out]; exact hlt
     have hk1 : (k : Int) < (m : Int) := by omega
     obtain ⟨q, hq⟩ : ∃ q, ps[k] = q := ⟨_, rfl⟩
     have hqm : q ∈ ps := by rw [← hq]; exact List.getElem_mem h1
     obtain ⟨a3, m3, p3, hq2⟩ := (HT.out q hqm).slice
     obtain ⟨b, off, hao, hbl, hrg⟩ := (HL.out.keep HKW.out).range k h1 hq
     subst hao
     have hcap : m ≤ cap := by obtain ⟨_, _, _, _, h, _⟩ := HL.out k h1; rw [HM.out] at h; exact h
     have hXE : cC q = #[.int .i64 q.1.op, str q.1.text, .int .i64 q.1.n, .int .i64 q.1.box.x0, .int .i64 q.1.box.y0, .int .i64 q.1.box.x1, .int .i64 q.1.box.y1, .slice a3 m3 p3].toList := by unfold cC; rw [hq2]
     rw [hXE] at hrg
     have HRG := Lib.hid hrg
     have A : Calls Tryz.prog 65 #[.agg #[.int .i64 q.1.op, str q.1.text, .int .i64 q.1.n, .int .i64 q.1.box.x0, .int .i64 q.1.box.y0, .int .i64 q.1.box.x1, .int .i64 q.1.box.y1, .slice a3 m3 p3]] wr fun e w' => e = .returned (.bool (Ru.right q.1)) ∧ Kp wr w' none := by
      have h := HR.out q hqm wr q.2 ((HT.out q hqm).keep HKW.out)
      rw [hq2] at h; exact h
     have HQ := Lib.hid hq
     clear hq hrg hXE hq2
     cases hrq : Ru.right q.1 with
     | true =>
      rw [hrq] at A
      have HA2 : Hid ((ps.take (k + 1)).all (fun p => Ru.right p.1) = true) := Lib.hid (by
       rw [List.take_add_one, List.getElem?_eq_getElem h1, List.all_append, HA.out, HQ.out]
       simp [hrq])
      clear hrq
      go_wp2_with (first | (refine wpList_load_mid (by rfl) 40 _ (by rfl) b (off + k * 8) (by rfl) #[.int .i64 q.1.op, str q.1.text, .int .i64 q.1.n, .int .i64 q.1.box.x0, .int .i64 q.1.box.y0, .int .i64 q.1.box.x1, .int .i64 q.1.box.y1, .slice a3 m3 p3].toList _ HRG.out Tryz.underlying40 (by rfl) info40s ?_) | (go_at_call 65; refine A.mono ?_; rintro e w5 ⟨rfl, hk5⟩; have HK5 := Lib.hid (HKW.out.trans hk5); have HB5 := Lib.hid (res_kept HBW.out hk5 (by simp)); clear hk5))
      refine ⟨?_, ?measure⟩
      ·repeat apply Exists.intro
       refine ⟨?relx, rfl⟩
       exact ⟨k + 1, hlt, by go_num, HA2, HK5, HB5⟩
      ·simp [intOf]; omega
     | false =>
      rw [hrq] at A
      have HFI : Hid (Ru.right (.mk op t n ⟨x0, y0, x1, y1⟩ l) = false) := Lib.hid (by
       rw [HFI0.out]
       have h2 : (ps.all fun p => Ru.right p.1) = false := by
        rw [List.all_eq_false]
        exact ⟨q, hqm, by rw [hrq]; simp⟩
       rw [h2, Bool.and_false])
      clear hrq
      go_wp2_with (first | (refine wpList_load_mid (by rfl) 40 _ (by rfl) b (off + k * 8) (by rfl) #[.int .i64 q.1.op, str q.1.text, .int .i64 q.1.n, .int .i64 q.1.box.x0, .int .i64 q.1.box.y0, .int .i64 q.1.box.x1, .int .i64 q.1.box.y1, .slice a3 m3 p3].toList _ HRG.out Tryz.underlying40 (by rfl) info40s ?_) | (go_at_call 65; refine A.mono ?_; rintro e w5 ⟨rfl, hk5⟩; have HK5 := Lib.hid (HKW.out.trans hk5); clear hk5))
      go_ret
      exact ⟨ret_b HFI.out.symm, HK5.out⟩
    ·obtain rfl : k = m := by omega
     have HFI : Hid (Ru.right (.mk op t n ⟨x0, y0, x1, y1⟩ l) = Ru.fine op t n ⟨x0, y0, x1, y1⟩ k) := Lib.hid (by
      have h2 := HA.out
      rw [← HM.out, List.take_length] at h2
      rw [HFI0.out, h2, Bool.and_true])
     have d0 := hcell HBW.out 0 rfl
     have d1 := hcell HBW.out 1 rfl
     have d2 := hcell HBW.out 2 rfl
     have d3 := hcell HBW.out 3 rfl
     have d4 := hcell HBW.out 4 rfl
     have d5 := hcell HBW.out 5 rfl
     have d6 := hcell HBW.out 6 rfl
     clear HFI0 HA HR HT
     by_cases g1 : op = 1
     ·subst g1
      have HF2 : Hid (Ru.right (.mk 1 t n ⟨x0, y0, x1, y1⟩ l) = true) := Lib.hid (by rw [HFI.out]; rfl)
      clear HFI
      go_wp2_with fail
      go_ret
      exact ⟨ret_b HF2.out.symm, HKW.out⟩
     by_cases g2 : op = 2
     ·subst g2
      have cS := split12_ref t htl wr
      have HS0 : Hid (Ru.right (.mk 2 t n ⟨x0, y0, x1, y1⟩ l) = Ru.splitR t) := Lib.hid (by rw [HFI.out]; rfl)
      clear HFI
      cases hsp : Ru.split t with
      | none =>
       rw [hsp] at cS
       have cS : Calls Tryz.prog 92 #[str t] wr fun e w' => e = .returned (.tuple #[.slice none 0 0, .bool false]) ∧ Kp wr w' none := cS
       have HF2 : Hid (Ru.right (.mk 2 t n ⟨x0, y0, x1, y1⟩ l) = false) := Lib.hid (by rw [HS0.out]; unfold Ru.splitR; rw [hsp])
       clear hsp
       go_wp2_with (go_at_call 92; refine cS.mono ?_; rintro e w5 ⟨rfl, hk5⟩)
       go_ret
       exact ⟨ret_b HF2.out.symm, HKW.out.trans hk5⟩
      | some ls =>
       rw [hsp] at cS
       have cS : Calls Tryz.prog 92 #[str t] wr fun e w' => (∃ ao cap, e = .returned (.tuple #[.slice ao ls.length cap, .bool true]) ∧ LiesAt 1 strVal w' ao cap ls) ∧ Kp wr w' none := cS
       by_cases h5 : ls.length ≤ 5
       ·have HF2 : Hid (Ru.right (.mk 2 t n ⟨x0, y0, x1, y1⟩ l) = true) := Lib.hid (by rw [HS0.out]; unfold Ru.splitR; rw [hsp]; exact decide_eq_true h5)
        have h5i : (ls.length : Int) ≤ 5 := by omega
        clear hsp
        go_wp2_with (go_at_call 92; refine cS.mono ?_; rintro e w5 ⟨⟨ao5, cap5, rfl, hl5⟩, hk5⟩)
        go_ret
        exact ⟨ret_b HF2.out.symm, HKW.out.trans hk5⟩
       ·have HF2 : Hid (Ru.right (.mk 2 t n ⟨x0, y0, x1, y1⟩ l) = false) := Lib.hid (by rw [HS0.out]; unfold Ru.splitR; rw [hsp]; exact decide_eq_false h5)
        have h5i : ¬ (ls.length : Int) ≤ 5 := by omega
        have HDC : Hid (decide ((ls.length : Int) ≤ 5) = false) := Lib.hid (decide_eq_false h5i)
        clear hsp
        go_wp2_with (go_at_call 92; refine cS.mono ?_; rintro e w5 ⟨⟨ao5, cap5, rfl, hl5⟩, hk5⟩)
        go_ret
        exact ⟨ret_b (by rw [HF2.out, HDC.out]), HKW.out.trans hk5⟩
     by_cases g3 : op = 3
     ·subst g3
      have cS := right12_any t (by omega) wr
      have HS0 : Hid (Ru.right (.mk 3 t n ⟨x0, y0, x1, y1⟩ l) = Ru.nameR t) := Lib.hid (by rw [HFI.out]; rfl)
      clear HFI
      go_wp2_with (go_at_call 63; refine cS.mono ?_; rintro e w5 ⟨rfl, hw5⟩; subst w5)
      go_ret
      exact ⟨ret_b HS0.out.symm, HKW.out⟩
     by_cases g4 : op = 4
     ·subst g4
      by_cases n1 : 1 ≤ n
      ·by_cases n2 : n ≤ 5
       ·have HF2 : Hid (Ru.right (.mk 4 t n ⟨x0, y0, x1, y1⟩ l) = true) := Lib.hid (by rw [HFI.out]; exact decide_eq_true ⟨n1, n2⟩)
        clear HFI
        go_wp2_with fail
        go_ret
        exact ⟨ret_b HF2.out.symm, HKW.out⟩
       ·have HF2 : Hid (Ru.right (.mk 4 t n ⟨x0, y0, x1, y1⟩ l) = false) := Lib.hid (by rw [HFI.out]; exact decide_eq_false (fun h => n2 h.2))
        clear HFI
        go_wp2_with fail
        go_ret
        exact ⟨ret_b HF2.out.symm, HKW.out⟩
      ·have HF2 : Hid (Ru.right (.mk 4 t n ⟨x0, y0, x1, y1⟩ l) = false) := Lib.hid (by rw [HFI.out]; exact decide_eq_false (fun h => n1 h.1))
       clear HFI
       go_wp2_with fail
       go_ret
       exact ⟨ret_b HF2.out.symm, HKW.out⟩
     by_cases g5 : op = 5
     ·subst g5
      by_cases n1 : 1 ≤ n
      ·by_cases n2 : n ≤ 4
       ·have HF2 : Hid (Ru.right (.mk 5 t n ⟨x0, y0, x1, y1⟩ l) = true) := Lib.hid (by rw [HFI.out]; exact decide_eq_true ⟨n1, n2⟩)
        clear HFI
        go_wp2_with fail
        go_ret
        exact ⟨ret_b HF2.out.symm, HKW.out⟩
       ·have HF2 : Hid (Ru.right (.mk 5 t n ⟨x0, y0, x1, y1⟩ l) = false) := Lib.hid (by rw [HFI.out]; exact decide_eq_false (fun h => n2 h.2))
        clear HFI
        go_wp2_with fail
        go_ret
        exact ⟨ret_b HF2.out.symm, HKW.out⟩
      ·have HF2 : Hid (Ru.right (.mk 5 t n ⟨x0, y0, x1, y1⟩ l) = false) := Lib.hid (by rw [HFI.out]; exact decide_eq_false (fun h => n1 h.1))
       clear HFI
       go_wp2_with fail
       go_ret
       exact ⟨ret_b HF2.out.symm, HKW.out⟩
     by_cases g6 : op = 6
     ·subst g6
      by_cases n1 : 1 ≤ n
      ·by_cases n2 : n ≤ 1000000000
       ·have HF2 : Hid (Ru.right (.mk 6 t n ⟨x0, y0, x1, y1⟩ l) = true) := Lib.hid (by rw [HFI.out]; exact decide_eq_true ⟨n1, n2⟩)
        clear HFI
        go_wp2_with fail
        go_ret
        exact ⟨ret_b HF2.out.symm, HKW.out⟩
       ·have HF2 : Hid (Ru.right (.mk 6 t n ⟨x0, y0, x1, y1⟩ l) = false) := Lib.hid (by rw [HFI.out]; exact decide_eq_false (fun h => n2 h.2))
        clear HFI
        go_wp2_with fail
        go_ret
        exact ⟨ret_b HF2.out.symm, HKW.out⟩
      ·have HF2 : Hid (Ru.right (.mk 6 t n ⟨x0, y0, x1, y1⟩ l) = false) := Lib.hid (by rw [HFI.out]; exact decide_eq_false (fun h => n1 h.1))
       clear HFI
       go_wp2_with fail
       go_ret
       exact ⟨ret_b HF2.out.symm, HKW.out⟩
     by_cases g7 : op = 7
     ·subst g7
      have cA := right05_any x0 y0 wr
      have cB := right05_any x1 y1
      have HS0 : Hid (Ru.right (.mk 7 t n ⟨x0, y0, x1, y1⟩ l) = (decide (x0 ≤ x1) && decide (y0 ≤ y1) && (Ru.coordR x0 && Ru.coordR y0) && (Ru.coordR x1 && Ru.coordR y1))) := Lib.hid (by rw [HFI.out]; rfl)
      obtain ⟨p1, hp1⟩ : ∃ b, (Ru.coordR x0 && Ru.coordR y0) = b := ⟨_, rfl⟩
      obtain ⟨p2, hp2⟩ : ∃ b, (Ru.coordR x1 && Ru.coordR y1) = b := ⟨_, rfl⟩
      rw [hp1, hp2] at HS0
      rw [hp1] at cA
      simp only [hp2] at cB
      clear HFI hp1 hp2 d1 d2
      cases p1 with
      | false =>
       have HF2 : Hid (Ru.right (.mk 7 t n ⟨x0, y0, x1, y1⟩ l) = false) := Lib.hid (by rw [HS0.out]; simp [*])
       clear HS0
       go_wp2_with fail
       refine cA.mono ?_
       clear cA
       rintro e w5 ⟨rfl, hk5⟩
       have HK5 := Lib.hid (HKW.out.trans hk5)
       have HB5 := Lib.hid (res_kept HBW.out hk5 (by simp))
       clear hk5 d3 d4 d5 d6
       have f5 := hcell HB5.out 5 rfl
       have f6 := hcell HB5.out 6 rfl
       go_wp2_with fail
       refine (cB w5).mono ?_
       clear cB
       rintro e w6 ⟨rfl, hk6⟩
       have HK6 := Lib.hid (HK5.out.trans hk6)
       have HB6 := Lib.hid (res_kept HB5.out hk6 (by simp))
       clear hk6 f5 f6
       have h3 := hcell HB6.out 3 rfl
       have h4 := hcell HB6.out 4 rfl
       have h5 := hcell HB6.out 5 rfl
       have h6 := hcell HB6.out 6 rfl
       go_wp2_with fail
       go_ret
       exact ⟨ret_b HF2.out.symm, HK6.out⟩
      | true =>
       cases p2 with
       | false =>
        have HF2 : Hid (Ru.right (.mk 7 t n ⟨x0, y0, x1, y1⟩ l) = false) := Lib.hid (by rw [HS0.out]; simp [*])
        clear HS0
        go_wp2_with fail
        refine cA.mono ?_
        clear cA
        rintro e w5 ⟨rfl, hk5⟩
        have HK5 := Lib.hid (HKW.out.trans hk5)
        have HB5 := Lib.hid (res_kept HBW.out hk5 (by simp))
        clear hk5 d3 d4 d5 d6
        have f5 := hcell HB5.out 5 rfl
        have f6 := hcell HB5.out 6 rfl
        go_wp2_with fail
        refine (cB w5).mono ?_
        clear cB
        rintro e w6 ⟨rfl, hk6⟩
        have HK6 := Lib.hid (HK5.out.trans hk6)
        have HB6 := Lib.hid (res_kept HB5.out hk6 (by simp))
        clear hk6 f5 f6
        have h3 := hcell HB6.out 3 rfl
        have h4 := hcell HB6.out 4 rfl
        have h5 := hcell HB6.out 5 rfl
        have h6 := hcell HB6.out 6 rfl
        go_wp2_with fail
        go_ret
        exact ⟨ret_b HF2.out.symm, HK6.out⟩
       | true =>
        by_cases hx : x0 ≤ x1
        ·by_cases hy : y0 ≤ y1
         ·have HF2 : Hid (Ru.right (.mk 7 t n ⟨x0, y0, x1, y1⟩ l) = true) := Lib.hid (by rw [HS0.out]; simp [*])
          clear HS0
          go_wp2_with fail
          refine cA.mono ?_
          clear cA
          rintro e w5 ⟨rfl, hk5⟩
          have HK5 := Lib.hid (HKW.out.trans hk5)
          have HB5 := Lib.hid (res_kept HBW.out hk5 (by simp))
          clear hk5 d3 d4 d5 d6
          have f5 := hcell HB5.out 5 rfl
          have f6 := hcell HB5.out 6 rfl
          go_wp2_with fail
          refine (cB w5).mono ?_
          clear cB
          rintro e w6 ⟨rfl, hk6⟩
          have HK6 := Lib.hid (HK5.out.trans hk6)
          have HB6 := Lib.hid (res_kept HB5.out hk6 (by simp))
          clear hk6 f5 f6
          have h3 := hcell HB6.out 3 rfl
          have h4 := hcell HB6.out 4 rfl
          have h5 := hcell HB6.out 5 rfl
          have h6 := hcell HB6.out 6 rfl
          go_wp2_with fail
          go_ret
          exact ⟨ret_b HF2.out.symm, HK6.out⟩
         ·have HF2 : Hid (Ru.right (.mk 7 t n ⟨x0, y0, x1, y1⟩ l) = false) := Lib.hid (by rw [HS0.out]; simp [*])
          have HDC : Hid (decide (y0 ≤ y1) = false) := Lib.hid (decide_eq_false hy)
          clear HS0
          go_wp2_with fail
          refine cA.mono ?_
          clear cA
          rintro e w5 ⟨rfl, hk5⟩
          have HK5 := Lib.hid (HKW.out.trans hk5)
          have HB5 := Lib.hid (res_kept HBW.out hk5 (by simp))
          clear hk5 d3 d4 d5 d6
          have f5 := hcell HB5.out 5 rfl
          have f6 := hcell HB5.out 6 rfl
          go_wp2_with fail
          refine (cB w5).mono ?_
          clear cB
          rintro e w6 ⟨rfl, hk6⟩
          have HK6 := Lib.hid (HK5.out.trans hk6)
          have HB6 := Lib.hid (res_kept HB5.out hk6 (by simp))
          clear hk6 f5 f6
          have h3 := hcell HB6.out 3 rfl
          have h4 := hcell HB6.out 4 rfl
          have h5 := hcell HB6.out 5 rfl
          have h6 := hcell HB6.out 6 rfl
          go_wp2_with fail
          go_ret
          exact ⟨ret_b (by rw [HF2.out, HDC.out]), HK6.out⟩
        ·have HF2 : Hid (Ru.right (.mk 7 t n ⟨x0, y0, x1, y1⟩ l) = false) := Lib.hid (by rw [HS0.out]; simp [*])
         clear HS0
         go_wp2_with fail
         refine cA.mono ?_
         clear cA
         rintro e w5 ⟨rfl, hk5⟩
         have HK5 := Lib.hid (HKW.out.trans hk5)
         have HB5 := Lib.hid (res_kept HBW.out hk5 (by simp))
         clear hk5 d3 d4 d5 d6
         have f5 := hcell HB5.out 5 rfl
         have f6 := hcell HB5.out 6 rfl
         go_wp2_with fail
         refine (cB w5).mono ?_
         clear cB
         rintro e w6 ⟨rfl, hk6⟩
         have HK6 := Lib.hid (HK5.out.trans hk6)
         have HB6 := Lib.hid (res_kept HB5.out hk6 (by simp))
         clear hk6 f5 f6
         have h3 := hcell HB6.out 3 rfl
         have h4 := hcell HB6.out 4 rfl
         have h5 := hcell HB6.out 5 rfl
         have h6 := hcell HB6.out 6 rfl
         go_wp2_with fail
         go_ret
         exact ⟨ret_b HF2.out.symm, HK6.out⟩
     by_cases g8 : op = 8
     ·subst g8
      by_cases hk1 : k = 1
      ·have hb : ((k : Int) == 1) = true := by rw [hk1]; rfl
       have HF2 : Hid (Ru.right (.mk 8 t n ⟨x0, y0, x1, y1⟩ l) = true) := Lib.hid (by rw [HFI.out]; show (k == 1) = true; rw [hk1]; rfl)
       clear HFI
       go_wp2_with fail
       go_ret
       exact ⟨ret_b HF2.out.symm, HKW.out⟩
      ·have hb : ((k : Int) == 1) = false := by simp; omega
       have HF2 : Hid (Ru.right (.mk 8 t n ⟨x0, y0, x1, y1⟩ l) = false) := Lib.hid (by rw [HFI.out]; show (k == 1) = false; simpa using hk1)
       clear HFI
       go_wp2_with fail
       go_ret
       exact ⟨ret_b HF2.out.symm, HKW.out⟩
     by_cases g9 : op = 9
     ·subst g9
      by_cases hk2 : 2 ≤ k
      ·have hb : (2 : Int) ≤ (k : Int) := by omega
       have HF2 : Hid (Ru.right (.mk 9 t n ⟨x0, y0, x1, y1⟩ l) = true) := Lib.hid (by rw [HFI.out]; exact decide_eq_true hk2)
       clear HFI
       go_wp2_with fail
       go_ret
       exact ⟨ret_b HF2.out.symm, HKW.out⟩
      ·have hb : ¬ (2 : Int) ≤ (k : Int) := by omega
       have HF2 : Hid (Ru.right (.mk 9 t n ⟨x0, y0, x1, y1⟩ l) = false) := Lib.hid (by rw [HFI.out]; exact decide_eq_false hk2)
       clear HFI
       go_wp2_with fail
       go_ret
       exact ⟨ret_b HF2.out.symm, HKW.out⟩
     by_cases g10 : op = 10
     ·subst g10
      by_cases hk2 : 2 ≤ k
      ·have hb : (2 : Int) ≤ (k : Int) := by omega
       have HF2 : Hid (Ru.right (.mk 10 t n ⟨x0, y0, x1, y1⟩ l) = true) := Lib.hid (by rw [HFI.out]; exact decide_eq_true hk2)
       clear HFI
       go_wp2_with fail
       go_ret
       exact ⟨ret_b HF2.out.symm, HKW.out⟩
      ·have hb : ¬ (2 : Int) ≤ (k : Int) := by omega
       have HF2 : Hid (Ru.right (.mk 10 t n ⟨x0, y0, x1, y1⟩ l) = false) := Lib.hid (by rw [HFI.out]; exact decide_eq_false hk2)
       clear HFI
       go_wp2_with fail
       go_ret
       exact ⟨ret_b HF2.out.symm, HKW.out⟩
     have e1 : (op == 1) = false := by simpa using g1
     have e2 : (op == 2) = false := by simpa using g2
     have e3 : (op == 3) = false := by simpa using g3
     have e4 : (op == 4) = false := by simpa using g4
     have e5 : (op == 5) = false := by simpa using g5
     have e6 : (op == 6) = false := by simpa using g6
     have e7 : (op == 7) = false := by simpa using g7
     have e8 : (op == 8) = false := by simpa using g8
     have e9 : (op == 9) = false := by simpa using g9
     have e10 : (op == 10) = false := by simpa using g10
     have HF2 : Hid (Ru.right (.mk op t n ⟨x0, y0, x1, y1⟩ l) = false) := Lib.hid (by rw [HFI.out]; unfold Ru.fine; rw [if_neg g1, if_neg g2, if_neg g3, if_neg g4, if_neg g5, if_neg g6, if_neg g7, if_neg g8, if_neg (by omega)])
     clear HFI g1 g2 g3 g4 g5 g6 g7 g8 g9 g10
     go_wp2_with fail
     go_ret
     exact ⟨ret_b HF2.out.symm, HKW.out⟩
theorem rightR_any (c : Ru.Cond) : Short c → RightR c := by
 refine Ru.Cond.ind (P := fun c => Short c → RightR c) (fun op t n b l ih hs w v ht => ?_) c
 obtain ⟨ps, hps, hl, hts⟩ := ht.open
 have hps2 : l = ps.map (·.1) := hps
 have hlen : ps.length = l.length := by rw [hps2]; simp
 have h1 : l.length ≤ 1000000000000 := hs.len
 obtain ⟨ao, cap, rfl, hx⟩ := hl.form
 obtain ⟨x0, y0, x1, y1⟩ := b
 exact rightR_walk op t n x0 y0 x1 y1 l ps ao cap ps.length w hps2 rfl hx hts (fun p hp => ih p.1 (by rw [hps2]; exact List.mem_map_of_mem hp) (hs.sub (by show p.1 ∈ l; rw [hps2]; exact List.mem_map_of_mem hp))) hs.text (by omega)
end Go.Proofs.YtnchipahdfbliaaGreatDoor
