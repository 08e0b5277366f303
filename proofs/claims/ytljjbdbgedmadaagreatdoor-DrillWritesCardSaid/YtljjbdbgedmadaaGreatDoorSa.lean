/- Shapes and drawings compared. Condition: at most 10^6 edges. -/
import Derived.Test.YtljjbdbgedmadaaGreatDoorCs
import Derived.Test.YtljjbdbgedmadaaGreatDoorHs
import Derived.Test.YtljjbdbgedmadaaGreatDoorRc
set_option maxHeartbeats 16000000
set_option maxRecDepth 100000
namespace Go.Proofs.YtljjbdbgedmadaaGreatDoor
open Go.RowKit
theorem take_eq {α : Type} {es fs : List α} {k : Nat} (h : es.take k = fs.take k) (h1 : k < es.length) (h2 : k < fs.length) (e : es[k] = fs[k]) : es.take (k + 1) = fs.take (k + 1) := by
 rw [List.take_succ_eq_append_getElem h1, List.take_succ_eq_append_getElem h2, h, e]
theorem rsame_any (ak ar bk br : Int) (es fs : List Pl.Ed) (n m : Nat) (hn : es.length = n) (hm : fs.length = m) (ea eb : Option Addr) (ca cb : Nat) (w : World) (ha : LiesAt 7 edC w ea ca es) (hb : LiesAt 7 edC w eb cb fs) (hl : n ≤ 1000000) (hl2 : m ≤ 1000000) :
  Calls Tryz.prog 54 #[.agg #[I6 ak, .slice ea n ca, I6 ar], .agg #[I6 bk, .slice eb m cb, I6 br]] w fun E w' => E = .returned (.bool (decide ((⟨ak, es, ar⟩ : Pl.Sh) = ⟨bk, fs, br⟩))) ∧ Kp w w' none := by
 have FA := oh ha; have FB := oh hb; have HN := oh hn; have HNFm := oh hm; obtain ⟨fin, hfin⟩ : ∃ f, decide ((⟨ak, es, ar⟩ : Pl.Sh) = ⟨bk, fs, br⟩) = f := ⟨_, rfl⟩
 have HFIN := oh hfin; rw [hfin]; clear ha hb hn hm hfin; have hn0 := nn n; have hm0 := nn m
 by_cases h1 : ak = bk
 ·by_cases h2 : ar = br
  ·by_cases hnm : n = m
   ·have HFIN2 : Hid (decide (es = fs) = fin) := oh (by rw [← HFIN.out, h1, h2]; by_cases hh : es = fs <;> simp [hh])
    subst hnm; have HNF : Hid (fs.length = n) := HNFm
    clear HNFm HFIN; have HFIN := HFIN2; clear HFIN2; subst h1; subst h2; have HB1 : Hid (∀ V, Kp ((w.alloc (.cells #[I6 ak, .slice ea n ca, I6 ar] 50)).alloc (.cells #[I6 ak, .slice eb n cb, I6 ar] 50)) V none → V.cell? ⟨w.heap.size, 1, none⟩ = some (.slice ea n ca) ∧ V.cell? ⟨w.heap.size + 1, 1, none⟩ = some (.slice eb n cb)) := oh (fun V k => ⟨hcell (blk (blk (heap_alloc_new w _) ((Kp.refl _ none).alloc _)) k) 1 rfl, hcell (blk (by have h := heap_alloc_new (w.alloc (.cells #[I6 ak, .slice ea n ca, I6 ar] 50)) (.cells #[I6 ak, .slice eb n cb, I6 ar] 50); simpa using h) k) 1 rfl⟩)
    have KB : Hid (Kp w ((w.alloc (.cells #[I6 ak, .slice ea n ca, I6 ar] 50)).alloc (.cells #[I6 ak, .slice eb n cb, I6 ar] 50)) none) := oh (((Kp.refl w none).alloc _).alloc _)
    go_enter Tryz.func54, Tryz.ntmps54
    go_wp2_with fail
    generalize (w.alloc (.cells #[I6 ak, .slice ea n ca, I6 ar] 50)).alloc (.cells #[I6 ak, .slice eb n cb, I6 ar] 50) = wB at *
    go_loopw [5] (fun i wr => ∃ k : Nat, k ≤ n ∧ i = I6 k ∧ es.take k = fs.take k ∧ Kp wB wr none) (fun i _ => n - (intOf i).toNat)
    case atStart => exact ⟨0, Nat.zero_le _, rfl, rfl, Kp.refl _ _⟩
    case round =>
     obtain ⟨k, hk, rfl, hT, hK⟩ := hrel; have HT := oh hT; have HK := oh hK; have HBX := oh (HB1.out wr hK); clear hT hK
     have hbx0 := HBX.out.1
     have hbx1 := HBX.out.2
     have hk0 := nn k
     by_cases hlt : k < n
     ·have hk1 : (k : Int) < (n : Int) := by omega
      obtain ⟨b, off, rfl, hcap, _, hce⟩ := FA.out.ed (k := k) (by have := HN.out; omega)
      obtain ⟨b2, off2, rfl, hcap2, _, hcf⟩ := FB.out.ed (k := k) (by have := HNF.out; omega)
      have hca : n ≤ ca := by have := HN.out; omega
      have hcb : n ≤ cb := by have := HNF.out; omega
      have hd := hce wr (KB.out.trans HK.out)
      have he := hcf wr (KB.out.trans HK.out)
      have HBAD : Hid ((es[k]'(by have := HN.out; omega) = fs[k]'(by have := HNF.out; omega) → False) → fin = false) := oh (fun h => by
       rw [← HFIN.out]; refine decide_eq_false (fun hq => h ?_)
       subst hq
       rfl)
      obtain ⟨e, hx⟩ : ∃ e, es[k]'(by have := HN.out; omega) = e := ⟨_, rfl⟩
      obtain ⟨f, hy⟩ : ∃ e, fs[k]'(by have := HNF.out; omega) = e := ⟨_, rfl⟩
      have HX := oh hx; have HY := oh hy; rw [hx] at hd; rw [hy] at he; clear hx hy hce hcf hcap hcap2; obtain ⟨ek, ⟨eax, eay⟩, ⟨ebx, eby⟩, ⟨ecx, ecy⟩⟩ := e; obtain ⟨fk, ⟨fax, fay⟩, ⟨fbx, fby⟩, ⟨fcx, fcy⟩⟩ := f
      dsimp only at hd he
      obtain ⟨d0, d1, d2, d3, d4, d5, d6⟩ := hd; obtain ⟨z0, z1, z2, z3, z4, z5, z6⟩ := he
      by_cases t0 : ek = fk
      ·by_cases t1 : eax = fax
       ·by_cases t2 : eay = fay
        ·by_cases t3 : ebx = fbx
         ·by_cases t4 : eby = fby
          ·by_cases t5 : ecx = fcx
           ·by_cases t6 : ecy = fcy
            ·have HEQ : Hid ((⟨ek, ⟨eax, eay⟩, ⟨ebx, eby⟩, ⟨ecx, ecy⟩⟩ : Pl.Ed) = ⟨fk, ⟨fax, fay⟩, ⟨fbx, fby⟩, ⟨fcx, fcy⟩⟩) := oh (by rw [t0, t1, t2, t3, t4, t5, t6])
             have q0 : (ek == fk) = true := by simp [t0]
             have p0 : (fk == ek) = true := by simp [t0]
             have q1 : (eax == fax) = true := by simp [t1]
             have p1 : (fax == eax) = true := by simp [t1]
             have q2 : (eay == fay) = true := by simp [t2]
             have p2 : (fay == eay) = true := by simp [t2]
             have q3 : (ebx == fbx) = true := by simp [t3]
             have p3 : (fbx == ebx) = true := by simp [t3]
             have q4 : (eby == fby) = true := by simp [t4]
             have p4 : (fby == eby) = true := by simp [t4]
             have q5 : (ecx == fcx) = true := by simp [t5]
             have p5 : (fcx == ecx) = true := by simp [t5]
             have q6 : (ecy == fcy) = true := by simp [t6]
             have p6 : (fcy == ecy) = true := by simp [t6]
             clear t0 t1 t2 t3 t4 t5 t6; have HTK := oh (take_eq HT.out (by have := HN.out; omega) (by have := HNF.out; omega) (HX.out.trans (HEQ.out.trans HY.out.symm)))
             clear HT HX HY HEQ; go_wp2_with fail
             go_quiet (fail)
             have KQ := oh (HK.out.drewN nq); go_wp2_with fail
             try rw [wrap_mid (n := (k : Int) + 1) (by omega) (by omega)]
             first | exact ⟨⟨k + 1, hlt, by go_num, HTK.out, KQ.out⟩, by simp [intOf]; omega⟩ | (go_roundw; all_goals first | exact ⟨k + 1, hlt, by go_num, HTK.out, KQ.out⟩ | (simp [intOf]; omega))
            ·have HNE : Hid ((⟨ek, ⟨eax, eay⟩, ⟨ebx, eby⟩, ⟨ecx, ecy⟩⟩ : Pl.Ed) ≠ ⟨fk, ⟨fax, fay⟩, ⟨fbx, fby⟩, ⟨fcx, fcy⟩⟩) := oh (by intro h; simp only [Pl.Ed.mk.injEq, Pl.Pt.mk.injEq] at h; exact t6 (by simp [h]))
             have q0 : (ek == fk) = true := by simp [t0]
             have p0 : (fk == ek) = true := by simp [t0]
             have q1 : (eax == fax) = true := by simp [t1]
             have p1 : (fax == eax) = true := by simp [t1]
             have q2 : (eay == fay) = true := by simp [t2]
             have p2 : (fay == eay) = true := by simp [t2]
             have q3 : (ebx == fbx) = true := by simp [t3]
             have p3 : (fbx == ebx) = true := by simp [t3]
             have q4 : (eby == fby) = true := by simp [t4]
             have p4 : (fby == eby) = true := by simp [t4]
             have q5 : (ecx == fcx) = true := by simp [t5]
             have p5 : (fcx == ecx) = true := by simp [t5]
             have q6 : (ecy == fcy) = false := by simpa using t6
             have p6 : (fcy == ecy) = false := by simpa using fun h => t6 h.symm
             clear t0 t1 t2 t3 t4 t5 t6; have HR : Hid (fin = false) := oh (HBAD.out (fun h => HNE.out (by rw [← HX.out, ← HY.out]; simp only [h])))
             clear HT HX HY HNE HBAD; go_wp2_with fail
             go_quiet (fail)
             have KQ := oh (HK.out.drewN nq); go_wp2_with fail
             go_ret
             exact ⟨ret_bool HR.out.symm, KB.out.trans KQ.out⟩
           ·have HNE : Hid ((⟨ek, ⟨eax, eay⟩, ⟨ebx, eby⟩, ⟨ecx, ecy⟩⟩ : Pl.Ed) ≠ ⟨fk, ⟨fax, fay⟩, ⟨fbx, fby⟩, ⟨fcx, fcy⟩⟩) := oh (by intro h; simp only [Pl.Ed.mk.injEq, Pl.Pt.mk.injEq] at h; exact t5 (by simp [h]))
            have q0 : (ek == fk) = true := by simp [t0]
            have p0 : (fk == ek) = true := by simp [t0]
            have q1 : (eax == fax) = true := by simp [t1]
            have p1 : (fax == eax) = true := by simp [t1]
            have q2 : (eay == fay) = true := by simp [t2]
            have p2 : (fay == eay) = true := by simp [t2]
            have q3 : (ebx == fbx) = true := by simp [t3]
            have p3 : (fbx == ebx) = true := by simp [t3]
            have q4 : (eby == fby) = true := by simp [t4]
            have p4 : (fby == eby) = true := by simp [t4]
            have q5 : (ecx == fcx) = false := by simpa using t5
            have p5 : (fcx == ecx) = false := by simpa using fun h => t5 h.symm
            clear t0 t1 t2 t3 t4 t5; have HR : Hid (fin = false) := oh (HBAD.out (fun h => HNE.out (by rw [← HX.out, ← HY.out]; simp only [h])))
            clear HT HX HY HNE HBAD; go_wp2_with fail
            go_quiet (fail)
            have KQ := oh (HK.out.drewN nq); go_wp2_with fail
            go_ret
            exact ⟨ret_bool HR.out.symm, KB.out.trans KQ.out⟩
          ·have HNE : Hid ((⟨ek, ⟨eax, eay⟩, ⟨ebx, eby⟩, ⟨ecx, ecy⟩⟩ : Pl.Ed) ≠ ⟨fk, ⟨fax, fay⟩, ⟨fbx, fby⟩, ⟨fcx, fcy⟩⟩) := oh (by intro h; simp only [Pl.Ed.mk.injEq, Pl.Pt.mk.injEq] at h; exact t4 (by simp [h]))
           have q0 : (ek == fk) = true := by simp [t0]
           have p0 : (fk == ek) = true := by simp [t0]
           have q1 : (eax == fax) = true := by simp [t1]
           have p1 : (fax == eax) = true := by simp [t1]
           have q2 : (eay == fay) = true := by simp [t2]
           have p2 : (fay == eay) = true := by simp [t2]
           have q3 : (ebx == fbx) = true := by simp [t3]
           have p3 : (fbx == ebx) = true := by simp [t3]
           have q4 : (eby == fby) = false := by simpa using t4
           have p4 : (fby == eby) = false := by simpa using fun h => t4 h.symm
           clear t0 t1 t2 t3 t4; have HR : Hid (fin = false) := oh (HBAD.out (fun h => HNE.out (by rw [← HX.out, ← HY.out]; simp only [h])))
           clear HT HX HY HNE HBAD; go_wp2_with fail
           go_quiet (fail)
           have KQ := oh (HK.out.drewN nq); go_wp2_with fail
           go_ret
           exact ⟨ret_bool HR.out.symm, KB.out.trans KQ.out⟩
         ·have HNE : Hid ((⟨ek, ⟨eax, eay⟩, ⟨ebx, eby⟩, ⟨ecx, ecy⟩⟩ : Pl.Ed) ≠ ⟨fk, ⟨fax, fay⟩, ⟨fbx, fby⟩, ⟨fcx, fcy⟩⟩) := oh (by intro h; simp only [Pl.Ed.mk.injEq, Pl.Pt.mk.injEq] at h; exact t3 (by simp [h]))
          have q0 : (ek == fk) = true := by simp [t0]
          have p0 : (fk == ek) = true := by simp [t0]
          have q1 : (eax == fax) = true := by simp [t1]
          have p1 : (fax == eax) = true := by simp [t1]
          have q2 : (eay == fay) = true := by simp [t2]
          have p2 : (fay == eay) = true := by simp [t2]
          have q3 : (ebx == fbx) = false := by simpa using t3
          have p3 : (fbx == ebx) = false := by simpa using fun h => t3 h.symm
          clear t0 t1 t2 t3; have HR : Hid (fin = false) := oh (HBAD.out (fun h => HNE.out (by rw [← HX.out, ← HY.out]; simp only [h])))
          clear HT HX HY HNE HBAD; go_wp2_with fail
          go_quiet (fail)
          have KQ := oh (HK.out.drewN nq); go_wp2_with fail
          go_ret
          exact ⟨ret_bool HR.out.symm, KB.out.trans KQ.out⟩
        ·have HNE : Hid ((⟨ek, ⟨eax, eay⟩, ⟨ebx, eby⟩, ⟨ecx, ecy⟩⟩ : Pl.Ed) ≠ ⟨fk, ⟨fax, fay⟩, ⟨fbx, fby⟩, ⟨fcx, fcy⟩⟩) := oh (by intro h; simp only [Pl.Ed.mk.injEq, Pl.Pt.mk.injEq] at h; exact t2 (by simp [h]))
         have q0 : (ek == fk) = true := by simp [t0]
         have p0 : (fk == ek) = true := by simp [t0]
         have q1 : (eax == fax) = true := by simp [t1]
         have p1 : (fax == eax) = true := by simp [t1]
         have q2 : (eay == fay) = false := by simpa using t2
         have p2 : (fay == eay) = false := by simpa using fun h => t2 h.symm
         clear t0 t1 t2; have HR : Hid (fin = false) := oh (HBAD.out (fun h => HNE.out (by rw [← HX.out, ← HY.out]; simp only [h])))
         clear HT HX HY HNE HBAD; go_wp2_with fail
         go_quiet (fail)
         have KQ := oh (HK.out.drewN nq); go_wp2_with fail
         go_ret
         exact ⟨ret_bool HR.out.symm, KB.out.trans KQ.out⟩
       ·have HNE : Hid ((⟨ek, ⟨eax, eay⟩, ⟨ebx, eby⟩, ⟨ecx, ecy⟩⟩ : Pl.Ed) ≠ ⟨fk, ⟨fax, fay⟩, ⟨fbx, fby⟩, ⟨fcx, fcy⟩⟩) := oh (by intro h; simp only [Pl.Ed.mk.injEq, Pl.Pt.mk.injEq] at h; exact t1 (by simp [h]))
        have q0 : (ek == fk) = true := by simp [t0]
        have p0 : (fk == ek) = true := by simp [t0]
        have q1 : (eax == fax) = false := by simpa using t1
        have p1 : (fax == eax) = false := by simpa using fun h => t1 h.symm
        clear t0 t1; have HR : Hid (fin = false) := oh (HBAD.out (fun h => HNE.out (by rw [← HX.out, ← HY.out]; simp only [h])))
        clear HT HX HY HNE HBAD; go_wp2_with fail
        go_quiet (fail)
        have KQ := oh (HK.out.drewN nq); go_wp2_with fail
        go_ret
        exact ⟨ret_bool HR.out.symm, KB.out.trans KQ.out⟩
      ·have HNE : Hid ((⟨ek, ⟨eax, eay⟩, ⟨ebx, eby⟩, ⟨ecx, ecy⟩⟩ : Pl.Ed) ≠ ⟨fk, ⟨fax, fay⟩, ⟨fbx, fby⟩, ⟨fcx, fcy⟩⟩) := oh (by intro h; simp only [Pl.Ed.mk.injEq, Pl.Pt.mk.injEq] at h; exact t0 (by simp [h]))
       have q0 : (ek == fk) = false := by simpa using t0
       have p0 : (fk == ek) = false := by simpa using fun h => t0 h.symm
       clear t0; have HR : Hid (fin = false) := oh (HBAD.out (fun h => HNE.out (by rw [← HX.out, ← HY.out]; simp only [h])))
       clear HT HX HY HNE HBAD; go_wp2_with fail
       go_quiet (fail)
       have KQ := oh (HK.out.drewN nq); go_wp2_with fail
       go_ret
       exact ⟨ret_bool HR.out.symm, KB.out.trans KQ.out⟩
     ·have hk1 : ¬ (k : Int) < (n : Int) := by omega
      have HR : Hid (fin = true) := oh (by
       rw [← HFIN.out]; have h := HT.out; rw [List.take_of_length_le (by have := HN.out; omega), List.take_of_length_le (by have := HNF.out; omega)] at h
       exact decide_eq_true h)
      go_wp2_with fail
      go_ret
      exact ⟨ret_bool HR.out.symm, KB.out.trans HK.out⟩
   ·have hq : ((n : Int) == (m : Int)) = false := beq_false_of_ne (by omega)
    have hq2 : ((m : Int) == (n : Int)) = false := beq_false_of_ne (by omega)
    have q1 : (ak == bk) = true := by simp [h1]
    have q2 : (bk == ak) = true := by simp [h1]
    have q3 : (ar == br) = true := by simp [h2]
    have q4 : (br == ar) = true := by simp [h2]
    have HX := oh hnm; clear h1 h2; have HR : Hid (fin = false) := oh (by rw [← HFIN.out]; exact decide_eq_false (fun h => by injection h with h1 h2 h3; exact HX.out (by rw [← HN.out, ← HNFm.out, h2])))
    clear HFIN; go_enter Tryz.func54, Tryz.ntmps54
    go_wp2_with fail
    all_goals go_ret
    all_goals exact ⟨ret_bool HR.out.symm, ((Kp.refl w none).alloc _).alloc _⟩
  ·have hq : (ar == br) = false := beq_false_of_ne (by omega)
   have hq2 : (br == ar) = false := beq_false_of_ne (by omega)
   have q1 : (ak == bk) = true := by simp [h1]
   have q2 : (bk == ak) = true := by simp [h1]
   have HX := oh h2; clear h1 h2; have HR : Hid (fin = false) := oh (by rw [← HFIN.out]; exact decide_eq_false (fun h => by injection h with h1 h2 h3; exact HX.out h3))
   clear HFIN; go_enter Tryz.func54, Tryz.ntmps54
   go_wp2_with fail
   all_goals go_ret
   all_goals exact ⟨ret_bool HR.out.symm, ((Kp.refl w none).alloc _).alloc _⟩
 ·have hq : (ak == bk) = false := beq_false_of_ne (by omega)
  have hq2 : (bk == ak) = false := beq_false_of_ne (by omega)
  have HX := oh h1; clear h1; have HR : Hid (fin = false) := oh (by rw [← HFIN.out]; exact decide_eq_false (fun h => by injection h with h1 h2 h3; exact HX.out h1))
  clear HFIN; go_enter Tryz.func54, Tryz.ntmps54
  go_wp2_with fail
  all_goals go_ret
  all_goals exact ⟨ret_bool HR.out.symm, ((Kp.refl w none).alloc _).alloc _⟩
end Go.Proofs.YtljjbdbgedmadaaGreatDoor
