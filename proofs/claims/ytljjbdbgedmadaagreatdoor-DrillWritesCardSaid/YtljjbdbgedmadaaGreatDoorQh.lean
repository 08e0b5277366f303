/- The reader of a line ahead of % (head). Conditions: lines of at most 10^9 bytes; at most 10^6 tools. -/
import Derived.Test.YtljjbdbgedmadaaGreatDoorQs
set_option maxHeartbeats 8000000
set_option maxRecDepth 100000
namespace Go.Proofs.YtljjbdbgedmadaaGreatDoor
open Go.RowKit Go.Lib Go.Maps
theorem head_of {st : Dl.St} {s : List UInt8} (h : s ≠ Dl.kPc) {a b : Int} (hs : Dl.scan [84] [[67], []] s = some [a, b]) : Dl.head st s = if a < 1 ∨ 990 < a ∨ b < 2 ∨ 8388608 < b ∨ b % 2 ≠ 0 then .inr 3 else if (Dl.find st.tools a).isSome then .inr 70 else .inl { st with tools := st.tools ++ [(a, b)] } := by
 unfold Dl.head; rw [if_neg h, hs]
theorem head_any (W : World) (L : Option Nat) (R m : Nat) (st : Dl.St) (s : List UInt8) (w : World) (h : RdAt W L R m st w) (he : Env w) (hs : s.length ≤ 1000000000) (hp : st.ph = 2) (htl : st.tools.length ≤ 1000000) : Calls Tryz.prog 159 #[.pointer (some ⟨R, 0, none⟩), str s] w (StepIs W L R m (Dl.head st s)) := by
 have HEN : Hid (∀ V, Kp w V none → Env V) := oh fun V k => he.kp0 k
 have H0 := oh h; have HSL := oh hs; obtain ⟨ph, tools, sel, f, t, pl, at_, es, out⟩ := st
 dsimp only at hp htl
 subst hp; clear h hs he
 by_cases hk : s = [37]
 ·have HST : Hid (Dl.head ⟨2, tools, sel, f, t, pl, at_, es, out⟩ s = .inl ⟨3, tools, sel, f, t, pl, at_, es, out⟩) := oh (by subst hk; rfl)
  subst hk; obtain ⟨eu, ov, ts, hts, hb, hr⟩ := H0.out
  dsimp only at hts hb hr
  have HB := oh hb; have HR := oh hr; have HT := oh hts; have c0 : w.cell? ⟨R, 0, none⟩ = some (fnV 2) := hcell hb 0 rfl
  have f0 : w.frozen? ⟨R, 0, none⟩ = false := fz hb 0
  clear hb hr hts; go_enter Tryz.func159, Tryz.ntmps159
  go_wp2_with fail
  go_end0
  have hb2 : (w.setCell ⟨R, 0, none⟩ (fnV 3)).heap[R]? = some (.cells (RC 3 m ⟨3, tools, sel, f, t, pl, at_, es, out⟩ eu ov) 117 (0, 0)) := heap_set HB.out
  exact step_inl HST.out ⟨eu, ov, ts, HT.out, hb2, HR.out.set ((Kp.refl w (some R)).set _) hb2⟩
 ·have hk1 : (s == [37]) = false := by simpa using hk
  cases hsc : Dl.scan [84] [[67], []] s with
  | none =>
   have HC := oh (fun V (k : Kp w V none) => scan_not pat_head (by decide) (by decide) HSL.out hsc V (HEN.out V k))
   have HST : Hid (Dl.head ⟨2, tools, sel, f, t, pl, at_, es, out⟩ s = .inr 4) := oh (by unfold Dl.head; rw [if_neg (show ¬ s = Dl.kPc from hk), hsc])
   clear hsc hk; go_enter Tryz.func159, Tryz.ntmps159
   go_wp2_with (first | (go_at_call 186; refine (HC.out _ (Kp.refl _ _)).mono ?_; rintro e w1 ⟨⟨ao, n, cap, rfl⟩, k1⟩; have K1 := oh k1; clear k1) | (go_at_call 100; refine (need_no _ _).mono ?_; rintro e w' ⟨rfl, rfl⟩))
   exact ⟨rfl, step_inr HST.out (H0.out.kl.trans K1.out)⟩
  | some ns =>
   obtain ⟨a, b, rfl⟩ := len2 (Dl.scan_some hsc).1 rfl
   have hnb := (Dl.scan_some hsc).2 a (by simp)
   have hnb2 := (Dl.scan_some hsc).2 b (by simp)
   unfold Dl.NumB at hnb hnb2
   have HC := oh (fun V (k : Kp w V none) => scan_yes pat_head (by decide) (by decide) HSL.out hsc V (HEN.out V k))
   have HST := oh (head_of (st := ⟨2, tools, sel, f, t, pl, at_, es, out⟩) (s := s) hk hsc)
   have hwf : (Lit.int .i64 a).wf = true := wf64 (by omega) (by omega)
   clear hsc hk
   by_cases hbad : a < 1 ∨ 990 < a ∨ b < 2 ∨ 8388608 < b ∨ b % 2 ≠ 0
   ·have HST2 : Hid (Dl.head ⟨2, tools, sel, f, t, pl, at_, es, out⟩ s = .inr 3) := oh (by rw [HST.out, if_pos hbad])
    clear HST
    by_cases h1 : 1 ≤ a
    ·by_cases h2 : a ≤ 990
     ·by_cases h3 : 2 ≤ b
      ·by_cases h4 : b ≤ 8388608
       ·have h5 : (b % 2 == 0) = false := by simp; omega
        have hq : b.tmod 2 = b % 2 := Int.tmod_eq_emod_of_nonneg (by omega)
        clear hbad; go_enter Tryz.func159, Tryz.ntmps159
        go_wp2_with fail
        refine (HC.out _ (Kp.refl _ _)).mono ?_
        rintro e w1 ⟨⟨ao, cap, rfl, hla, _⟩, k1⟩; have HLA := oh hla; have K1 := oh k1; clear k1 hla; obtain ⟨g, off, rfl, hg, hcap, ca, cb⟩ := two_at HLA.out
        go_wp2_with fail
        refine (need_yes _ _).mono ?_
        rintro e w' ⟨rfl, rfl⟩; go_wp2_with fail
        refine (need_no _ _).mono ?_
        rintro e w' ⟨rfl, rfl⟩; exact ⟨rfl, step_inr HST2.out (H0.out.kl.trans K1.out)⟩
       ·have h4' : decide (b ≤ 8388608) = false := by simp; omega
        clear hbad h4; go_enter Tryz.func159, Tryz.ntmps159
        go_wp2_with fail
        refine (HC.out _ (Kp.refl _ _)).mono ?_
        rintro e w1 ⟨⟨ao, cap, rfl, hla, _⟩, k1⟩; have HLA := oh hla; have K1 := oh k1; clear k1 hla; obtain ⟨g, off, rfl, hg, hcap, ca, cb⟩ := two_at HLA.out
        go_wp2_with fail
        refine (need_yes _ _).mono ?_
        rintro e w' ⟨rfl, rfl⟩; go_wp2_with fail
        refine (need_no _ _).mono ?_
        rintro e w' ⟨rfl, rfl⟩; exact ⟨rfl, step_inr HST2.out (H0.out.kl.trans K1.out)⟩
      ·have h3' : decide (2 ≤ b) = false := by simp; omega
       clear hbad h3; go_enter Tryz.func159, Tryz.ntmps159
       go_wp2_with fail
       refine (HC.out _ (Kp.refl _ _)).mono ?_
       rintro e w1 ⟨⟨ao, cap, rfl, hla, _⟩, k1⟩; have HLA := oh hla; have K1 := oh k1; clear k1 hla; obtain ⟨g, off, rfl, hg, hcap, ca, cb⟩ := two_at HLA.out
       go_wp2_with fail
       refine (need_yes _ _).mono ?_
       rintro e w' ⟨rfl, rfl⟩; go_wp2_with fail
       refine (need_no _ _).mono ?_
       rintro e w' ⟨rfl, rfl⟩; exact ⟨rfl, step_inr HST2.out (H0.out.kl.trans K1.out)⟩
     ·have h2' : decide (a ≤ 990) = false := by simp; omega
      clear hbad h2; go_enter Tryz.func159, Tryz.ntmps159
      go_wp2_with fail
      refine (HC.out _ (Kp.refl _ _)).mono ?_
      rintro e w1 ⟨⟨ao, cap, rfl, hla, _⟩, k1⟩; have HLA := oh hla; have K1 := oh k1; clear k1 hla; obtain ⟨g, off, rfl, hg, hcap, ca, cb⟩ := two_at HLA.out
      go_wp2_with fail
      refine (need_yes _ _).mono ?_
      rintro e w' ⟨rfl, rfl⟩; go_wp2_with fail
      refine (need_no _ _).mono ?_
      rintro e w' ⟨rfl, rfl⟩; exact ⟨rfl, step_inr HST2.out (H0.out.kl.trans K1.out)⟩
    ·have h1' : decide (1 ≤ a) = false := by simp; omega
     clear hbad h1; go_enter Tryz.func159, Tryz.ntmps159
     go_wp2_with fail
     refine (HC.out _ (Kp.refl _ _)).mono ?_
     rintro e w1 ⟨⟨ao, cap, rfl, hla, _⟩, k1⟩; have HLA := oh hla; have K1 := oh k1; clear k1 hla; obtain ⟨g, off, rfl, hg, hcap, ca, cb⟩ := two_at HLA.out
     go_wp2_with fail
     refine (need_yes _ _).mono ?_
     rintro e w' ⟨rfl, rfl⟩; go_wp2_with fail
     refine (need_no _ _).mono ?_
     rintro e w' ⟨rfl, rfl⟩; exact ⟨rfl, step_inr HST2.out (H0.out.kl.trans K1.out)⟩
   ·have h1 : 1 ≤ a := by omega
    have h2 : a ≤ 990 := by omega
    have h3 : 2 ≤ b := by omega
    have h4 : b ≤ 8388608 := by omega
    have h5 : (b % 2 == 0) = true := by simp; omega
    have hq : b.tmod 2 = b % 2 := Int.tmod_eq_emod_of_nonneg (by omega)
    have HST2 : Hid (Dl.head ⟨2, tools, sel, f, t, pl, at_, es, out⟩ s = if (Dl.find tools a).isSome then .inr 70 else .inl ⟨2, tools ++ [(a, b)], sel, f, t, pl, at_, es, out⟩) := oh (by rw [HST.out, if_neg hbad])
    clear HST hbad; go_enter Tryz.func159, Tryz.ntmps159
    go_upto_region 5 with (first | (go_at_call 186; refine (HC.out _ (Kp.refl _ _)).mono ?_; rintro e w1 ⟨⟨ao, cap, rfl, hla, _⟩, k1⟩; have HLA := oh hla; have K1 := oh k1; clear k1 hla; obtain ⟨g, off, rfl, hg, hcap, ca, cb⟩ := two_at HLA.out) | (go_at_call 100; refine (need_yes _ _).mono ?_; rintro e w' ⟨rfl, rfl⟩))
    clear hq h5 h1 h2 h3 h4; obtain ⟨eu, ov, ts, hts, hb, hr⟩ := H0.out.keep K1.out
    dsimp only at hts hb hr
    obtain ⟨D, nn, hmap, htl2, hnn⟩ := hr.map
    have hrun : ∀ k, (Instr.lookup 114 (.map (some m)) (.int .i64 a) true).run Tryz.prog (w1.drewN k) = .ok (.tuple #[.int .i64 (tv D a), .bool (Dl.find tools a).isSome]) (w1.drewN k) := fun k => (hmap.keep (w' := w1.drewN k) rfl).look htl2 hwf
    have c1 : w1.cell? ⟨R, 1, none⟩ = some (.map (some m)) := hcell hb 1 rfl
    obtain ⟨v, hv⟩ : ∃ v, tv D a = v := ⟨_, rfl⟩
    simp only [hv] at hrun
    have HT := oh hts; have HB := oh hb; have HRR := oh hr; have HM := oh hmap; have HTL := oh htl2; have HNN : Hid (nn < maxLen) := oh (by unfold maxLen; omega)
    have HNL := oh hnn; clear hmap htl2 hts hb hr hnn hv
    cases hf : Dl.find tools a with
    | some d =>
     rw [hf] at HST2; simp only [hf, Option.isSome_some] at hrun
     have HST3 : Hid (Dl.head ⟨2, tools, sel, f, t, pl, at_, es, out⟩ s = .inr 70) := oh HST2.out
     clear hf HST2; go_quiet (fail)
     go_wp2_with (go_at_call 100; refine (need_no _ _).mono ?_; rintro e w' ⟨rfl, rfl⟩)
     exact ⟨rfl, step_inr HST3.out (HRR.out.kl.drewN nq)⟩
    | none =>
     rw [hf] at HST2; simp only [hf, Option.isSome_none] at hrun
     have HST3 : Hid (Dl.head ⟨2, tools, sel, f, t, pl, at_, es, out⟩ s = .inl ⟨2, tools ++ [(a, b)], sel, f, t, pl, at_, es, out⟩) := oh HST2.out
     have HF := oh hf; clear hf HST2; go_quiet (fail)
     clear hrun; have ca2 : (w1.drewN nq).cell? ⟨g, off, none⟩ = some (.int .i64 a) := ca
     have cb2 : (w1.drewN nq).cell? ⟨g, off + 1, none⟩ = some (.int .i64 b) := cb
     have cc2 : (w1.drewN nq).cell? ⟨R, 1, none⟩ = some (.map (some m)) := c1
     have kq := (Kp.refl w1 none).drewN nq
     have HB2 := oh (blk HB.out kq); have HR2 := oh (HRR.out.keep kq)
     have HM2 : Hid (MapAt (w1.drewN nq) m nn D) := oh (HM.out.keep rfl)
     clear ca cb c1 kq HB HRR HM
     generalize w1.drewN nq = Y at *
     go_upto_region 7 with (go_at_call 100; refine (need_yes _ _).mono ?_; rintro e w' ⟨rfl, rfl⟩)
     obtain ⟨w3, hrun3, hown3, hg3⟩ := World.ownsMap.update (HM2.out.keep (w' := Y.drew) rfl) law3 Tryz.underlying114 HNN.out (keyOf_int_mk Tryz.underlying3 hwf) (plainElem_int (H := Unit) Tryz.underlying3 (a := b) (wf64 (by omega) (by omega)))
     have HR3 := oh ((HR2.out.keep (Kp.refl _ none).drew).tool hg3 ⟨_, _, hown3, HTL.out.put HM2.out.tidy HF.out, by rw [List.length_append]; have := HNL.out; simp only [List.length_cons, List.length_nil]; omega⟩)
     have HB3 := oh (res_kept (blk HB2.out (Kp.refl _ none).drew) hg3 (fun q hq => by injection hq with hq; rw [← hq]; exact HR2.out.ne))
     clear hown3 hg3; refine wp_region_last (fun V => V.cell? ⟨g, off, none⟩ = some (.int .i64 a) ∧ V.cell? ⟨g, off + 1, none⟩ = some (.int .i64 b) ∧ V.cell? ⟨R, 1, none⟩ = some (.map (some m))) 10 (by kernel_rfl) ?_ (fun eh => ?_)
     ·exact ⟨ca2, cb2, cc2⟩
     refine tjL 0 rfl ?_; refine tjL 1 rfl ?_; refine tjL 2 rfl ?_; refine tjL 3 rfl ?_; refine tjL 4 rfl ?_; refine tjL 5 rfl ?_; refine tjL 6 rfl ?_; refine tjL 7 rfl ?_; refine tjL 8 rfl ?_; refine tjL 9 rfl ?_; refine rdE rfl (fun K hK => ?_); clear eh; go_simp; try go_wp2_with fail
     refine hK.out _ _ ?_
     clear hK K hrun3; try simp only [Act.put, sm]
     refine wpAnyL_done (by kernel_rfl) ?_ _
     go_wp2_with fail
     go_end0
     exact step_inl HST3.out ⟨eu, ov, ts, HT.out, HB3.out, HR3.out⟩
end Go.Proofs.YtljjbdbgedmadaaGreatDoor
