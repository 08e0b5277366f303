/- The reference's reader of a span. Condition: a line of at most 10^9 bytes.
  The reference's reader of a line ahead of %. Conditions: a line of at most 10^9 bytes; at most 10^6 tools. -/
import Derived.Test.YtljjbdbgedmadaaGreatDoorGe
import Derived.Test.YtljjbdbgedmadaaGreatDoorGa
import Derived.Test.YtljjbdbgedmadaaGreatDoorQh
set_option maxHeartbeats 8000000
set_option maxRecDepth 100000
namespace Go.Proofs.YtljjbdbgedmadaaGreatDoor
open Go.RowKit Go.Lib
def SpanRIs (W : World) (R : Nat) (st : Dl.St) (s : List UInt8) (w : World) (E : Ending) (w' : World) : Prop := match Dl.spanOf s with
 | none => E = .returned (.tuple #[I6 0, .bool false]) ∧ Kp w w' none
 | some (f, t, p) => if Dl.spanR f t = true then E = .returned (.tuple #[I6 0, .bool true]) ∧ RfAt W R { st with f := f, t := t, pl := p } w' else E = .returned (.tuple #[I6 72, .bool true]) ∧ Kp W w' none
theorem rhole_set {R : Nat} {st : Dl.St} {tv eu ov : Value} {w : World} (h : w.heap[R]? = some (.cells (RFC st tv eu ov) 181 (0, 0))) (f t : Int) (pl : Bool) :
  ((((((w.setCell ⟨R, 3, none⟩ (I6 0)).setCell ⟨R, 4, none⟩ (.slice none 0 0)).setCell ⟨R, 5, none⟩ (I6 0)).setCell ⟨R, 6, none⟩ (I6 f)).setCell ⟨R, 7, none⟩ (I6 t)).setCell ⟨R, 8, none⟩ (.bool pl)).heap[R]? = some (.cells (RFC { st with f := f, t := t, pl := pl } tv eu ov) 181 (0, 0)) ∧
  Kp w ((((((w.setCell ⟨R, 3, none⟩ (I6 0)).setCell ⟨R, 4, none⟩ (.slice none 0 0)).setCell ⟨R, 5, none⟩ (I6 0)).setCell ⟨R, 6, none⟩ (I6 f)).setCell ⟨R, 7, none⟩ (I6 t)).setCell ⟨R, 8, none⟩ (.bool pl)) (some R) := by
 have h1 := heap_set (o := 8) (v := .bool pl) (heap_set (o := 7) (v := I6 t) (heap_set (o := 6) (v := I6 f) (heap_set (o := 5) (v := I6 0) (heap_set (o := 4) (v := .slice none 0 0) (heap_set (o := 3) (v := I6 0) h)))))
 exact ⟨h1, ((((((Kp.refl w (some R)).set _).set _).set _).set _).set _).set _⟩
theorem rspan139_any (W : World) (R : Nat) (st : Dl.St) (s : List UInt8) (w : World) (h : RfAt W R st w) (hs : s.length ≤ 1000000000) : Calls Tryz.prog 139 #[.pointer (some ⟨R, 0, none⟩), str s] w (SpanRIs W R st s w) := by
 obtain ⟨ph, tools, sel, f, t, pl, at_, es, out⟩ := st
 have KW0 := oh h.kp
 have H0 := oh h; have HSL := oh hs; clear h hs
 cases hsc : Dl.scan Dl.kSpan [[32], 32 :: Dl.kPlated] s with
 | some ns =>
  obtain ⟨a, b, rfl⟩ := len2 (Dl.scan_some hsc).1 rfl
  have HC := oh (fun V => nums_yes rpat_plated HSL.out hsc V)
  have HX : Hid (Dl.spanOf s = some (a, b, true)) := oh (by unfold Dl.spanOf; rw [hsc])
  clear hsc; go_enter Tryz.func139, Tryz.ntmps139
  go_upto_region 8 with (go_at_call 140; refine (HC.out _).mono ?_; rintro e wl ⟨⟨ao, cap, rfl, hla, _⟩, k1⟩; have HLA := oh hla; have KW := oh k1; clear hla k1)
  obtain ⟨g, off, rfl, hg, hcap, ca, cb⟩ := two_at HLA.out
  obtain ⟨tv, eu, ov, ts, hts, hb, hr⟩ := H0.out.keep KW.out
  dsimp only at hts hb hr
  have HT := oh hts; have HB := oh hb; have HRR := oh hr; have HRT := oh (fun V => rspan_any a b V)
  obtain ⟨sr, hsr⟩ : ∃ x, Dl.spanR a b = x := ⟨_, rfl⟩
  rw [hsr] at HRT; have HSR := oh hsr; have HCA : Hid (∀ V, Kp wl V none → V.cell? ⟨g, off, none⟩ = some (I6 a) ∧ V.cell? ⟨g, off + 1, none⟩ = some (I6 b)) := oh fun V k => ⟨(k.below.cell (p := ⟨g, off, none⟩) hg).trans ca, (k.below.cell (p := ⟨g, off + 1, none⟩) hg).trans cb⟩
  have HX2 : Hid (Dl.spanOf s = some (a, b, true)) := oh HX.out
  clear hts hb hr hsr; go_quiet ((refine (HRT.out _).mono ?_; rintro e wz ⟨rfl, rfl⟩; exact ⟨rfl, _, rfl⟩))
  clear ca cb
  cases sr with
  | false =>
   go_wp2_with fail
   go_ret2; unfold SpanRIs; rw [HX2.out]; dsimp only
   rw [if_neg (by rw [HSR.out]; simp)]
   exact ⟨rfl, KW0.out.trans (KW.out.drewN nq)⟩
  | true =>
   go_upto_region 10 with fail
   have KD : Hid (Kp wl (wl.drewN nq).drew none) := oh ((Kp.refl _ _).drewN nq).drew
   have HB2 := oh (blk HB.out KD.out); have HRR2 := oh (HRR.out.keep KD.out)
   refine wp_region_last (fun V => V.cell? ⟨g, off, none⟩ = some (I6 a) ∧ V.cell? ⟨g, off + 1, none⟩ = some (I6 b)) 11 (by kernel_rfl) ?_ (fun eh => ?_)
   ·exact HCA.out _ KD.out
   generalize (wl.drewN nq).drew = Y at *
   refine tjL 0 rfl ?_; refine tjL 1 rfl ?_; refine tjL 2 rfl ?_; refine tjL 3 rfl ?_; refine tjL 4 rfl ?_; refine tjL 5 rfl ?_; refine tjL 6 rfl ?_; refine tjL 7 rfl ?_; refine tjL 8 rfl ?_; refine rdL 9 rfl (fun K hK => ?_); have gS := eh; clear eh; go_simp; try go_wp2_with fail
   refine hK.out _ _ (gS) (fun eh => ?_)
   clear hK K gS; try simp only [Act.put, sm]
   refine rdL 10 rfl (fun K hK => ?_); have gS := eh; clear eh; go_simp; try go_wp2_with fail
   refine hK.out _ _ (gS) (fun eh => ?_)
   clear hK K gS; try simp only [Act.put, sm]
   refine rdE rfl (fun K hK => ?_)
   have f3 := fz HB2.out 3
   have f4 := fz HB2.out 4
   have f5 := fz HB2.out 5
   have f6 := fz HB2.out 6
   have f7 := fz HB2.out 7
   have f8 := fz HB2.out 8
   have c3 : Y.cell? ⟨R, 3, none⟩ = some (I6 0) := hcell HB2.out 3 rfl
   have c4 : Y.cell? ⟨R, 4, none⟩ = some (.slice none 0 0) := hcell HB2.out 4 rfl
   have c5 : Y.cell? ⟨R, 5, none⟩ = some (I6 0) := hcell HB2.out 5 rfl
   have c6 : Y.cell? ⟨R, 6, none⟩ = some (I6 f) := hcell HB2.out 6 rfl
   have c7 : Y.cell? ⟨R, 7, none⟩ = some (I6 t) := hcell HB2.out 7 rfl
   have c8 : Y.cell? ⟨R, 8, none⟩ = some (.bool pl) := hcell HB2.out 8 rfl
   clear eh; go_simp; try go_wp2_with fail
   refine hK.out _ _ ?_
   clear hK K f3 f4 f5 f6 f7 f8 c3 c4 c5 c6 c7 c8; try simp only [Act.put, sm]
   refine wpAnyL_done (by kernel_rfl) ?_ _
   have hs6 := rhole_set HB2.out a b true
   have HF := oh hs6; clear hs6; go_wp2_with fail
   go_ret2; unfold SpanRIs; rw [HX2.out]; dsimp only; rw [if_pos HSR.out]
   exact ⟨rfl, tv, eu, ov, ts, HT.out, HF.out.1, HRR2.out.set HF.out.2 HF.out.1⟩
 | none =>
  have HC := oh (fun V => nums_not rpat_plated HSL.out hsc V)
  cases hsd : Dl.scan Dl.kSpan [[32], 32 :: Dl.kPlain] s with
  | none =>
   have HC2 := oh (fun V => nums_not rpat_plain HSL.out hsd V)
   have HX : Hid (Dl.spanOf s = none) := oh (by unfold Dl.spanOf; rw [hsc, hsd])
   clear hsc hsd; go_enter Tryz.func139, Tryz.ntmps139
   go_wp2_with fail
   refine (HC.out _).mono ?_
   rintro e w1 ⟨⟨ao, n, cap, rfl⟩, k1⟩; have K1 := oh k1; clear k1; go_wp2_with fail
   refine (HC2.out _).mono ?_
   rintro e w2 ⟨⟨ao2, n2, cap2, rfl⟩, k2⟩; have K2 := oh (K1.out.trans k2); clear k2; go_wp2_with fail
   go_ret2; unfold SpanRIs; rw [HX.out]
   exact ⟨rfl, K2.out⟩
  | some ns =>
   obtain ⟨a, b, rfl⟩ := len2 (Dl.scan_some hsd).1 rfl
   have HC2 := oh (fun V => nums_yes rpat_plain HSL.out hsd V)
   have HX : Hid (Dl.spanOf s = some (a, b, false)) := oh (by unfold Dl.spanOf; rw [hsc, hsd])
   clear hsc hsd; go_enter Tryz.func139, Tryz.ntmps139
   go_wp2_with fail
   refine (HC.out _).mono ?_
   rintro e w1 ⟨⟨ao0, n0, cap0, rfl⟩, k1⟩; have K1 := oh k1; clear k1; go_wp2_with fail
   refine (HC2.out _).mono ?_
   rintro e wl ⟨⟨ao, cap, rfl, hla, _⟩, k2⟩; have HLA := oh hla; have KW := oh (K1.out.trans k2); clear k2 hla; go_upto_region 8 with fail
   obtain ⟨g, off, rfl, hg, hcap, ca, cb⟩ := two_at HLA.out
   obtain ⟨tv, eu, ov, ts, hts, hb, hr⟩ := H0.out.keep KW.out
   dsimp only at hts hb hr
   have HT := oh hts; have HB := oh hb; have HRR := oh hr; have HRT := oh (fun V => rspan_any a b V)
   obtain ⟨sr, hsr⟩ : ∃ x, Dl.spanR a b = x := ⟨_, rfl⟩
   rw [hsr] at HRT; have HSR := oh hsr; have HCA : Hid (∀ V, Kp wl V none → V.cell? ⟨g, off, none⟩ = some (I6 a) ∧ V.cell? ⟨g, off + 1, none⟩ = some (I6 b)) := oh fun V k => ⟨(k.below.cell (p := ⟨g, off, none⟩) hg).trans ca, (k.below.cell (p := ⟨g, off + 1, none⟩) hg).trans cb⟩
   have HX2 : Hid (Dl.spanOf s = some (a, b, false)) := oh HX.out
   clear hts hb hr hsr; go_quiet ((refine (HRT.out _).mono ?_; rintro e wz ⟨rfl, rfl⟩; exact ⟨rfl, _, rfl⟩))
   clear ca cb
   cases sr with
   | false =>
    go_wp2_with fail
    go_ret2; unfold SpanRIs; rw [HX2.out]; dsimp only
    rw [if_neg (by rw [HSR.out]; simp)]
    exact ⟨rfl, KW0.out.trans (KW.out.drewN nq)⟩
   | true =>
    go_upto_region 10 with fail
    have KD : Hid (Kp wl (wl.drewN nq).drew none) := oh ((Kp.refl _ _).drewN nq).drew
    have HB2 := oh (blk HB.out KD.out); have HRR2 := oh (HRR.out.keep KD.out)
    refine wp_region_last (fun V => V.cell? ⟨g, off, none⟩ = some (I6 a) ∧ V.cell? ⟨g, off + 1, none⟩ = some (I6 b)) 11 (by kernel_rfl) ?_ (fun eh => ?_)
    ·exact HCA.out _ KD.out
    generalize (wl.drewN nq).drew = Y at *
    refine tjL 0 rfl ?_; refine tjL 1 rfl ?_; refine tjL 2 rfl ?_; refine tjL 3 rfl ?_; refine tjL 4 rfl ?_; refine tjL 5 rfl ?_; refine tjL 6 rfl ?_; refine tjL 7 rfl ?_; refine tjL 8 rfl ?_; refine rdL 9 rfl (fun K hK => ?_); have gS := eh; clear eh; go_simp; try go_wp2_with fail
    refine hK.out _ _ (gS) (fun eh => ?_)
    clear hK K gS; try simp only [Act.put, sm]
    refine rdL 10 rfl (fun K hK => ?_); have gS := eh; clear eh; go_simp; try go_wp2_with fail
    refine hK.out _ _ (gS) (fun eh => ?_)
    clear hK K gS; try simp only [Act.put, sm]
    refine rdE rfl (fun K hK => ?_)
    have f3 := fz HB2.out 3
    have f4 := fz HB2.out 4
    have f5 := fz HB2.out 5
    have f6 := fz HB2.out 6
    have f7 := fz HB2.out 7
    have f8 := fz HB2.out 8
    have c3 : Y.cell? ⟨R, 3, none⟩ = some (I6 0) := hcell HB2.out 3 rfl
    have c4 : Y.cell? ⟨R, 4, none⟩ = some (.slice none 0 0) := hcell HB2.out 4 rfl
    have c5 : Y.cell? ⟨R, 5, none⟩ = some (I6 0) := hcell HB2.out 5 rfl
    have c6 : Y.cell? ⟨R, 6, none⟩ = some (I6 f) := hcell HB2.out 6 rfl
    have c7 : Y.cell? ⟨R, 7, none⟩ = some (I6 t) := hcell HB2.out 7 rfl
    have c8 : Y.cell? ⟨R, 8, none⟩ = some (.bool pl) := hcell HB2.out 8 rfl
    clear eh; go_simp; try go_wp2_with fail
    refine hK.out _ _ ?_
    clear hK K f3 f4 f5 f6 f7 f8 c3 c4 c5 c6 c7 c8; try simp only [Act.put, sm]
    refine wpAnyL_done (by kernel_rfl) ?_ _
    have hs6 := rhole_set HB2.out a b false
    have HF := oh hs6; clear hs6; go_wp2_with fail
    go_ret2; unfold SpanRIs; rw [HX2.out]; dsimp only; rw [if_pos HSR.out]
    exact ⟨rfl, tv, eu, ov, ts, HT.out, HF.out.1, HRR2.out.set HF.out.2 HF.out.1⟩
theorem rf_inl {W : World} {R : Nat} {x : Dl.St ⊕ Int} {u : Dl.St} {w' : World} (h : x = .inl u) (hr : RfAt W R u w') : RfIs W R x (.returned (I6 0)) w' := by subst h; exact ⟨rfl, hr⟩
theorem rf_inr {W : World} {R : Nat} {x : Dl.St ⊕ Int} {e : Int} {w' : World} (h : x = .inr e) (hr : Kp W w' none) : RfIs W R x (.returned (I6 e)) w' := by subst h; exact ⟨rfl, hr⟩
theorem infoTool : (Tryz.prog.info? 254).map (fun i => (i.zero, i.size, i.bytes)) = some (some (.agg #[I6 0, I6 0]), 2, 16) := by kernel_rfl
theorem toC_one : ∀ x, ∀ u ∈ toC x, u.oneCell' = true := by
 intro x u hu; simp [toC] at hu
 rcases hu with rfl | rfl <;> rfl
theorem tool_list {w : World} (a b : Int) : IsList 2 toC (w.alloc (.cells #[I6 a, I6 b] 254)) (.slice (some ⟨w.heap.size, 0, none⟩) 1 1) [(a, b)] := by
 refine .inr ⟨w.heap.size, 0, 1, rfl, by simp, by simp, fun k hk j hj => ?_⟩
 simp at hk; subst hk
 have hj' : j < 2 := by simpa [toC] using hj
 have : j = 0 ∨ j = 1 := by omega
 rcases this with rfl | rfl <;> exact hcell (heap_alloc_new w _) _ rfl
theorem rhead_1 (W : World) (R : Nat) (st : Dl.St) (s : List UInt8) (w : World) (h : RfAt W R st w) (hp : st.ph = 0) : Calls Tryz.prog 137 #[.pointer (some ⟨R, 0, none⟩), I6 1, str s] w (RfIs W R (Dl.step st s)) := by
 obtain ⟨ph, tools, sel, f, t, pl, at_, es, out⟩ := st
 dsimp only at hp
 subst hp; obtain ⟨tv, eu, ov, ts, hts, hb, hr⟩ := h
 have H0 : Hid (∀ V, Kp w V none → RfAt W R ⟨1, tools, sel, f, t, pl, at_, es, out⟩ V) := oh fun V k => ⟨tv, eu, ov, ts, hts, blk hb k, hr.keep k⟩
 have HK := oh hr.kp
 clear hts hb hr
 by_cases hk : s = [77, 52, 56]
 ·have e1 : (s == [77, 52, 56]) = true := by simpa using hk
  have HX : Hid (Dl.step ⟨0, tools, sel, f, t, pl, at_, es, out⟩ s = .inl ⟨1, tools, sel, f, t, pl, at_, es, out⟩) := oh (by subst hk; rfl)
  clear hk; go_enter Tryz.func137, Tryz.ntmps137
  go_wp2_with fail
  go_ret
  exact rf_inl HX.out (H0.out _ ((Kp.refl w none).alloc _))
 ·have e1 : (s == [77, 52, 56]) = false := by simpa using hk
  have HX : Hid (Dl.step ⟨0, tools, sel, f, t, pl, at_, es, out⟩ s = .inr 4) := oh (by unfold Dl.step; rw [if_pos rfl, if_neg (show ¬ s = Dl.kM48 from hk)])
  clear hk; go_enter Tryz.func137, Tryz.ntmps137
  go_wp2_with fail
  go_ret
  exact rf_inr HX.out (HK.out.alloc _)
theorem rhead_2 (W : World) (R : Nat) (st : Dl.St) (s : List UInt8) (w : World) (h : RfAt W R st w) (hp : st.ph = 1) : Calls Tryz.prog 137 #[.pointer (some ⟨R, 0, none⟩), I6 2, str s] w (RfIs W R (Dl.step st s)) := by
 obtain ⟨ph, tools, sel, f, t, pl, at_, es, out⟩ := st
 dsimp only at hp
 subst hp; obtain ⟨tv, eu, ov, ts, hts, hb, hr⟩ := h
 have H0 : Hid (∀ V, Kp w V none → RfAt W R ⟨2, tools, sel, f, t, pl, at_, es, out⟩ V) := oh fun V k => ⟨tv, eu, ov, ts, hts, blk hb k, hr.keep k⟩
 have HK := oh hr.kp
 clear hts hb hr
 by_cases hk : s = [59, 101, 116, 99, 104, 97, 110, 116]
 ·have e1 : (s == [59, 101, 116, 99, 104, 97, 110, 116]) = true := by simpa using hk
  have HX : Hid (Dl.step ⟨1, tools, sel, f, t, pl, at_, es, out⟩ s = .inl ⟨2, tools, sel, f, t, pl, at_, es, out⟩) := oh (by subst hk; rfl)
  clear hk; go_enter Tryz.func137, Tryz.ntmps137
  go_wp2_with fail
  go_ret
  exact rf_inl HX.out (H0.out _ ((Kp.refl w none).alloc _))
 ·have e1 : (s == [59, 101, 116, 99, 104, 97, 110, 116]) = false := by simpa using hk
  have HX : Hid (Dl.step ⟨1, tools, sel, f, t, pl, at_, es, out⟩ s = .inr 4) := oh (by unfold Dl.step; rw [if_neg (show ¬ (1 : Nat) = 0 by decide), if_pos rfl, if_neg (show ¬ s = Dl.kEt from hk)])
  clear hk; go_enter Tryz.func137, Tryz.ntmps137
  go_wp2_with fail
  go_ret
  exact rf_inr HX.out (HK.out.alloc _)
theorem rhead_any (W : World) (R : Nat) (st : Dl.St) (s : List UInt8) (n : Int) (hn : 3 ≤ n) (w : World) (h : RfAt W R st w) (hs : s.length ≤ 1000000000) (hp : st.ph = 2) (htl : st.tools.length ≤ 1000000) (hok : ∀ p ∈ st.tools, 2 ≤ p.2) : Calls Tryz.prog 137 #[.pointer (some ⟨R, 0, none⟩), I6 n, str s] w (RfIs W R (Dl.head st s)) := by
 have H0 := oh h; have HSL := oh hs; have HTL := oh htl; have HFD : Hid (∀ n d, Dl.find st.tools n = some d → 2 ≤ d) := oh fun n d hf => hok _ (Dl.find_mem hf)
 obtain ⟨ph, tools, sel, f, t, pl, at_, es, out⟩ := st
 dsimp only at hp htl HTL HFD
 subst hp; have hn2 : ¬ n ≤ 2 := by omega
 clear h hs hok
 by_cases hk : s = [37]
 ·have HST : Hid (Dl.head ⟨2, tools, sel, f, t, pl, at_, es, out⟩ s = .inl ⟨3, tools, sel, f, t, pl, at_, es, out⟩) := oh (by subst hk; rfl)
  have e1 : (s == [37]) = true := by simpa using hk
  clear hk; obtain ⟨tv, eu, ov, ts, hts, hb, hr⟩ := H0.out
  dsimp only at hts hb hr
  have HB := oh hb; have HR := oh hr; have HT := oh hts; have c0 : w.cell? ⟨R, 0, none⟩ = some (.bool false) := hcell hb 0 rfl
  have f0 : w.frozen? ⟨R, 0, none⟩ = false := fz hb 0
  clear hb hr hts; go_enter Tryz.func137, Tryz.ntmps137
  go_wp2_with fail
  go_ret
  have hb2 : (w.setCell ⟨R, 0, none⟩ (.bool true)).heap[R]? = some (.cells (RFC ⟨3, tools, sel, f, t, pl, at_, es, out⟩ tv eu ov) 181 (0, 0)) := heap_set HB.out
  exact rf_inl HST.out ⟨tv, eu, ov, ts, HT.out, hb2, HR.out.set ((Kp.refl w (some R)).set _) hb2⟩
 ·have hk1 : (s == [37]) = false := by simpa using hk
  cases hsc : Dl.scan [84] [[67], []] s with
  | none =>
   have HC := oh (fun V => nums_not rpat_head HSL.out hsc V)
   have HST : Hid (Dl.head ⟨2, tools, sel, f, t, pl, at_, es, out⟩ s = .inr 4) := oh (by unfold Dl.head; rw [if_neg (show ¬ s = Dl.kPc from hk), hsc])
   clear hsc hk; go_enter Tryz.func137, Tryz.ntmps137
   go_wp2_with (go_at_call 140; refine (HC.out _).mono ?_; rintro e w1 ⟨⟨ao, n, cap, rfl⟩, k1⟩; have K1 := oh k1; clear k1)
   go_ret
   exact rf_inr HST.out (H0.out.kp.trans K1.out)
  | some ns =>
   obtain ⟨a, b, rfl⟩ := len2 (Dl.scan_some hsc).1 rfl
   have hnb := (Dl.scan_some hsc).2 a (by simp)
   have hnb2 := (Dl.scan_some hsc).2 b (by simp)
   unfold Dl.NumB at hnb hnb2
   have HC := oh (fun V => nums_yes rpat_head HSL.out hsc V)
   have HST := oh (head_of (st := ⟨2, tools, sel, f, t, pl, at_, es, out⟩) (s := s) hk hsc)
   clear hsc hk
   by_cases hbad : a < 1 ∨ 990 < a ∨ b < 2 ∨ 8388608 < b ∨ b % 2 ≠ 0
   ·have HST2 : Hid (Dl.head ⟨2, tools, sel, f, t, pl, at_, es, out⟩ s = .inr 3) := oh (by rw [HST.out, if_pos hbad])
    clear HST
    by_cases h1 : a < 1
    ·clear hbad; go_enter Tryz.func137, Tryz.ntmps137
     go_wp2_with fail
     refine (HC.out _).mono ?_
     rintro e w1 ⟨⟨ao, cap, rfl, hla, _⟩, k1⟩; have HLA := oh hla; have K1 := oh k1; clear k1 hla; obtain ⟨g, off, rfl, hg, hcap, ca, cb⟩ := two_at HLA.out
     go_wp2_with fail
     go_ret
     exact rf_inr HST2.out (H0.out.kp.trans K1.out)
    ·by_cases h2 : 990 < a
     ·clear hbad; go_enter Tryz.func137, Tryz.ntmps137
      go_wp2_with fail
      refine (HC.out _).mono ?_
      rintro e w1 ⟨⟨ao, cap, rfl, hla, _⟩, k1⟩; have HLA := oh hla; have K1 := oh k1; clear k1 hla; obtain ⟨g, off, rfl, hg, hcap, ca, cb⟩ := two_at HLA.out
      go_wp2_with fail
      go_ret
      exact rf_inr HST2.out (H0.out.kp.trans K1.out)
     ·by_cases h3 : b < 2
      ·clear hbad; go_enter Tryz.func137, Tryz.ntmps137
       go_wp2_with fail
       refine (HC.out _).mono ?_
       rintro e w1 ⟨⟨ao, cap, rfl, hla, _⟩, k1⟩; have HLA := oh hla; have K1 := oh k1; clear k1 hla; obtain ⟨g, off, rfl, hg, hcap, ca, cb⟩ := two_at HLA.out
       go_wp2_with fail
       go_ret
       exact rf_inr HST2.out (H0.out.kp.trans K1.out)
      ·by_cases h4 : 8388608 < b
       ·clear hbad; go_enter Tryz.func137, Tryz.ntmps137
        go_wp2_with fail
        refine (HC.out _).mono ?_
        rintro e w1 ⟨⟨ao, cap, rfl, hla, _⟩, k1⟩; have HLA := oh hla; have K1 := oh k1; clear k1 hla; obtain ⟨g, off, rfl, hg, hcap, ca, cb⟩ := two_at HLA.out
        go_wp2_with fail
        go_ret
        exact rf_inr HST2.out (H0.out.kp.trans K1.out)
       ·have h5 : (b % 2 != 0) = true := by simp; omega
        have hq : b.tmod 2 = b % 2 := Int.tmod_eq_emod_of_nonneg (by omega)
        clear hbad; go_enter Tryz.func137, Tryz.ntmps137
        go_wp2_with fail
        refine (HC.out _).mono ?_
        rintro e w1 ⟨⟨ao, cap, rfl, hla, _⟩, k1⟩; have HLA := oh hla; have K1 := oh k1; clear k1 hla; obtain ⟨g, off, rfl, hg, hcap, ca, cb⟩ := two_at HLA.out
        go_wp2_with fail
        go_ret
        exact rf_inr HST2.out (H0.out.kp.trans K1.out)
   ·have h1 : ¬ a < 1 := by omega
    have h2 : ¬ 990 < a := by omega
    have h3 : ¬ b < 2 := by omega
    have h4 : ¬ 8388608 < b := by omega
    have h5 : (b % 2 != 0) = false := by simp; omega
    have hq : b.tmod 2 = b % 2 := Int.tmod_eq_emod_of_nonneg (by omega)
    have HST2 : Hid (Dl.head ⟨2, tools, sel, f, t, pl, at_, es, out⟩ s = if (Dl.find tools a).isSome then .inr 70 else .inl ⟨2, tools ++ [(a, b)], sel, f, t, pl, at_, es, out⟩) := oh (by rw [HST.out, if_neg hbad])
    have HFN := oh (fun V (k : Kp w V none) => rfind_any W R ⟨2, tools, sel, f, t, pl, at_, es, out⟩ a V (H0.out.keep k) HTL.out)
    dsimp only at HFN
    have HWB : Hid (∀ q, ∀ tv eu ov ts, RfRest W R tools es ts tv eu ov w → tv.ownBlock = some q → q < w.heap.size) := oh fun q tv eu ov ts hr hq => (hr.tl.lt q hq).2
    obtain ⟨i0, hi, hz0, hz1, hz2⟩ := info_parts infoTool
    clear HST hbad
    cases hf : Dl.find tools a with
    | some d =>
     have hd := HFD.out a d hf
     have HST3 : Hid (Dl.head ⟨2, tools, sel, f, t, pl, at_, es, out⟩ s = .inr 70) := oh (by rw [HST2.out, hf]; rfl)
     rw [hf] at HFN; have HFN2 : Hid (∀ V, Kp w V none → Calls Tryz.prog 141 #[.pointer (some ⟨R, 0, none⟩), I6 a] V fun E w' => E = .returned (I6 d) ∧ V = w') := oh HFN.out
     have hd0 : 0 < d := by omega
     clear hf HST2 HFN; go_enter Tryz.func137, Tryz.ntmps137
     go_wp2_with fail
     refine (HC.out _).mono ?_
     rintro e w1 ⟨⟨ao, cap, rfl, hla, _⟩, k1⟩; have HLA := oh hla; have K1 := oh k1; clear k1 hla; obtain ⟨g, off, rfl, hg, hcap, ca, cb⟩ := two_at HLA.out
     go_wp2_with (go_at_call 141; refine (HFN2.out _ K1.out).mono ?_; rintro e w2 ⟨rfl, rfl⟩)
     go_ret
     exact rf_inr HST3.out (H0.out.kp.trans K1.out)
    | none =>
     have HST3 : Hid (Dl.head ⟨2, tools, sel, f, t, pl, at_, es, out⟩ s = .inl ⟨2, tools ++ [(a, b)], sel, f, t, pl, at_, es, out⟩) := oh (by rw [HST2.out, hf]; rfl)
     rw [hf] at HFN; have HFN2 : Hid (∀ V, Kp w V none → Calls Tryz.prog 141 #[.pointer (some ⟨R, 0, none⟩), I6 a] V fun E w' => E = .returned (I6 0) ∧ V = w') := oh HFN.out
     clear hf HST2 HFN; go_enter Tryz.func137, Tryz.ntmps137
     go_wp2_with fail
     refine (HC.out _).mono ?_
     rintro e w1 ⟨⟨ao, cap, rfl, hla, hab⟩, k1⟩; have HLA := oh hla; have K1 := oh k1; obtain ⟨g, off, rfl, hg, hcap, ca, cb⟩ := two_at HLA.out
     have HGB : Hid (w.heap.size ≤ g) := oh (hab _ rfl)
     clear k1 hla hab; obtain ⟨tv, eu, ov, ts, hts, hb, hr⟩ := H0.out
     dsimp only at hts hb hr
     have HOB : Hid (∀ q, tv.ownBlock = some q → q < w.heap.size) := oh fun q hq => HWB.out q tv eu ov ts hr hq
     have HT := oh hts; have HB := oh (blk hb K1.out); have HRR := oh (hr.keep K1.out)
     have HCA : Hid (∀ V, Kp w1 V none → V.cell? ⟨g, off, none⟩ = some (I6 a) ∧ V.cell? ⟨g, off + 1, none⟩ = some (I6 b)) := oh fun V k => ⟨(k.below.cell (p := ⟨g, off, none⟩) hg).trans ca, (k.below.cell (p := ⟨g, off + 1, none⟩) hg).trans cb⟩
     clear hts hb hr; go_upto_region 15 with (go_at_call 141; refine (HFN2.out _ K1.out).mono ?_; rintro e w2 ⟨rfl, rfl⟩)
     clear ca cb; have KD : Hid (Kp w1 w1.drew none) := oh (Kp.refl _ _).drew
     have HR0 := oh (blk HB.out KD.out); have HRR0 := oh (HRR.out.keep KD.out)
     have HC0 := HCA.out _ KD.out
     refine wp_region_last (fun V => V.cell? ⟨R, 1, none⟩ = some tv ∧ V.cell? ⟨g, off, none⟩ = some (I6 a) ∧ V.cell? ⟨g, off + 1, none⟩ = some (I6 b)) 16 (by kernel_rfl) ?_ (fun eh => ?_)
     ·exact ⟨hcell HR0.out 1 rfl, HC0⟩
     generalize w1.drew = Y at *
     clear HC0; refine tjL 0 rfl ?_; refine tjL 1 rfl ?_; refine tjL 2 rfl ?_; refine tjL 3 rfl ?_; refine tjL 4 rfl ?_; refine tjL 5 rfl ?_; refine tjL 6 rfl ?_; refine tjL 7 rfl ?_; refine tjL 8 rfl ?_; refine tjL 9 rfl ?_; refine tjL 10 rfl ?_; refine tjL 11 rfl ?_; refine rdL 12 rfl (fun K hK => ?_); clear eh; go_simp; try go_wp2_with fail
     have ka := (Kp.refl Y none).alloc (.cells #[I6 a, I6 b] 254)
     have KD1 := oh (KD.out.trans ka); have HR1 := oh (blk HR0.out ka); have HRR1 := oh (HRR0.out.keep ka)
     have HLS := oh (tool_list (w := Y) a b)
     have HSB : Hid (W.heap.size ≤ (Y.alloc (.cells #[I6 a, I6 b] 254)).heap.size) := oh HRR1.out.kp.size
     refine hK.out _ _ ?_ (fun eh => ?_)
     ·exact ⟨hcell HR1.out 1 rfl, HCA.out _ KD1.out⟩
     clear hK K ka HR0 HRR0 KD; try simp only [Act.put, sm]
     generalize Y.alloc (.cells #[I6 a, I6 b] 254) = Z at *
     refine rdL 13 rfl (fun K hK => ?_); clear eh; refine step_app (f := toC) rfl (.tmp 69) (.tmp 77) W.heap.size 179 254 rfl i0 _ 2 16 Tryz.underlying179 hi hz0 hz1 hz2 rfl (by omega) (fun _ => rfl) toC_one tv tools.length _ rfl HRR1.out.tl _ [(a, b)] rfl HLS.out (by unfold maxLen; simp; omega) (by simp; omega) HSB.out ?_
     intro v3 w3 ho hgr _; obtain ⟨ea3, ec3, rfl⟩ := own_slice ho
     have HO3 := oh ho; have HG3 := oh hgr; have HR2 := oh (res_kept HR1.out hgr (fun q hq e => own_not HRR1.out.tl HR1.out (by decide) (by rw [hq, e])))
     have HC2 : Hid (w3.cell? ⟨g, off, none⟩ = some (I6 a) ∧ w3.cell? ⟨g, off + 1, none⟩ = some (I6 b)) := oh (by
      have hgz : g < Z.heap.size := Nat.lt_of_lt_of_le hg KD1.out.size
      have hne : tv.ownBlock ≠ some g := fun e => by have := HOB.out g e; have := HGB.out; omega
      have h1 := HCA.out _ KD1.out
      have kk : Kp Z w3 tv.ownBlock := hgr
      exact ⟨(kk.cell_far ⟨g, off, none⟩ hgz (fun e => hne e.symm)).trans h1.1, (kk.cell_far ⟨g, off + 1, none⟩ hgz (fun e => hne e.symm)).trans h1.2⟩)
     clear ho hgr; try simp only [Act.put, sm]
     refine hK _ _ ?_ (fun eh => ?_)
     ·exact ⟨hcell HR2.out 1 rfl, HC2.out⟩
     clear hK K; try simp only [Act.put, sm]
     refine rdL 14 rfl (fun K hK => ?_); have gS := eh; clear eh; go_simp; try go_wp2_with fail
     refine hK.out _ _ (gS) (fun eh => ?_)
     clear hK K gS; try simp only [Act.put, sm]
     refine tjL 15 rfl ?_; refine rdE rfl (fun K hK => ?_)
     have f1 := fz HR2.out 1
     have c1 : w3.cell? ⟨R, 1, none⟩ = some tv := hcell HR2.out 1 rfl
     clear eh; go_simp; try go_wp2_with fail
     refine hK.out _ _ ?_
     clear hK K f1 c1; try simp only [Act.put, sm]
     refine wpAnyL_done (by kernel_rfl) ?_ _
     have HRH : Hid (RfRest W R (tools ++ [(a, b)]) es ts (.slice ea3 (tools.length + [(a, b)].length) ec3) eu ov w3) := oh (HRR1.out.tool HG3.out (by rw [List.length_append, List.flatMap_append]; exact HO3.out))
     have hb4 : (w3.setCell ⟨R, 1, none⟩ (.slice ea3 (tools.length + [(a, b)].length) ec3)).heap[R]? = some (.cells (RFC ⟨2, tools ++ [(a, b)], sel, f, t, pl, at_, es, out⟩ (.slice ea3 (tools.length + [(a, b)].length) ec3) eu ov) 181 (0, 0)) := heap_set HR2.out
     have HF := oh (HRH.out.set ((Kp.refl w3 (some R)).set _) hb4)
     have HB4 := oh hb4; clear hb4 HRH HO3 HG3 HR2 HR1 HRR1 HLS
     generalize w3.setCell ⟨R, 1, none⟩ (.slice ea3 (tools.length + [(a, b)].length) ec3) = wF at *
     go_wp2_with fail
     go_ret
     exact rf_inl HST3.out ⟨_, eu, ov, ts, HT.out, HB4.out, HF.out⟩
end Go.Proofs.YtljjbdbgedmadaaGreatDoor
