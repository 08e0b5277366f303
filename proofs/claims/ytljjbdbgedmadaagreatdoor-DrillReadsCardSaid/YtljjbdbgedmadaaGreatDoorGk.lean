/- The reference's put: a hole added. Conditions: at most 10^6 holes; a diameter within its bounds.
  The reference's reader of a slot's line. Conditions: a line of at most 10^9 bytes; at most 10^6 edges and holes; a right state. -/
import Derived.Test.YtljjbdbgedmadaaGreatDoorGe
import Derived.Test.YtljjbdbgedmadaaGreatDoorRm
import Derived.Test.YtljjbdbgedmadaaGreatDoorGl
import Derived.Test.YtljjbdbgedmadaaGreatDoorQr
import Derived.Test.YtljjbdbgedmadaaGreatDoorRc
set_option maxHeartbeats 8000000
set_option maxRecDepth 100000
namespace Go.Proofs.YtljjbdbgedmadaaGreatDoor
open Go.RowKit Go.Lib
def PutRIs (W : World) (R : Nat) (tv xe eu : Value) (bg dn : Bool) (sl sel f t : Int) (pl : Bool) (ax ay : Int) (tools : List (Int × Int)) (es : List Pl.Ed) (ts : List HT) (l : List Pl.Ed) (ea : Option Addr) (ec : Nat) (c : Int) (w0 : World) (E : Ending) (w' : World) : Prop :=
 if c = 0 then E = .returned (I6 0) ∧ ∃ ov, w'.heap[R]? = some (.cells #[.bool bg, tv, I6 sel, I6 0, .slice none 0 0, I6 0, I6 f, I6 t, .bool pl, I6 sl, I6 ax, I6 ay, xe, ov, .bool dn] 181 (0, 0)) ∧ RfRest W R tools es (ts ++ [⟨⟨⟨1, l, sel / 2⟩, f, t, pl⟩, ea, ec⟩]) tv eu ov w'
 else E = .returned (I6 c) ∧ Kp w0 w' none
theorem rput_any (W : World) (R : Nat) (tv xe eu ov : Value) (bg dn : Bool) (sl sel f t : Int) (pl : Bool) (ax ay : Int) (tools : List (Int × Int)) (es : List Pl.Ed) (ts : List HT) (l : List Pl.Ed) (n : Nat) (hn : l.length = n) (ea : Option Addr) (ec : Nat) (w : World)
  (hb : w.heap[R]? = some (.cells #[.bool bg, tv, I6 sel, I6 0, .slice none 0 0, I6 0, I6 f, I6 t, .bool pl, I6 sl, I6 ax, I6 ay, xe, ov, .bool dn] 181 (0, 0))) (hr : RfRest W R tools es ts tv eu ov w) (hl : w.ownsRow W.heap.size 123 7 (.slice ea n ec) n (l.flatMap edC)) (hd : (Value.slice ea n ec).ownBlock = none ∨ (Value.slice ea n ec).ownBlock ≠ eu.ownBlock) (hs : 0 ≤ sel ∧ sel ≤ 8388608) (hts : ts.length ≤ 1000000) :
  Calls Tryz.prog 143 #[.pointer (some ⟨R, 0, none⟩), .slice ea n ec] w (PutRIs W R tv xe eu bg dn sl sel f t pl ax ay tools es ts l ea ec (Pl.chk ⟨1, l, sel / 2⟩) w) := by
 have hll : LiesAt 7 edC w ea ec l := (own_lies (m := 7) (f := edC) (fun _ => rfl) (xs := l) (n := n) (by rw [hn]; exact hl)).2
 have HCK := oh (fun V (kv : Kp w V none) => rscheck_any ⟨1, l, sel / 2⟩ n hn ea ec V (hll.keep kv))
 obtain ⟨c, hc⟩ : ∃ c, Pl.chk ⟨1, l, sel / 2⟩ = c := ⟨_, rfl⟩
 rw [hc] at HCK ⊢; dsimp only at HCK
 have HR := oh hb; have HRR := oh hr; have HL := oh hl; have HN := oh hn; have HD := oh hd; obtain ⟨i0, hi, hz0, hz1, hz2⟩ := info_parts infoHole
 have c2 : w.cell? ⟨R, 2, none⟩ = some (I6 sel) := hcell hb 2 rfl
 have c3 : w.cell? ⟨R, 3, none⟩ = some (I6 0) := hcell hb 3 rfl
 have c4 : w.cell? ⟨R, 4, none⟩ = some (.slice none 0 0) := hcell hb 4 rfl
 have c5 : w.cell? ⟨R, 5, none⟩ = some (I6 0) := hcell hb 5 rfl
 have c6 : w.cell? ⟨R, 6, none⟩ = some (I6 f) := hcell hb 6 rfl
 have c7 : w.cell? ⟨R, 7, none⟩ = some (I6 t) := hcell hb 7 rfl
 have c8 : w.cell? ⟨R, 8, none⟩ = some (.bool pl) := hcell hb 8 rfl
 have hRB : R < w.heap.size := lt_of_block hb
 have hs0 := hs.1
 have hs1 := hs.2
 have hq : sel.tdiv 2 = sel / 2 := Int.tdiv_eq_ediv_of_nonneg hs0
 clear hc hb hr hl hn hll hd hs; go_enter Tryz.func143, Tryz.ntmps143
 go_upto_region 3 with fail
 clear c2 c3 c4 c5 c6 c7 c8 hq; have HBX := oh (heap_alloc_new w (.cells #[I6 1, .slice ea n ec, I6 (sel / 2), I6 f, I6 t, .bool pl] 52))
 have KX : Hid (Kp w (w.alloc (.cells #[I6 1, .slice ea n ec, I6 (sel / 2), I6 f, I6 t, .bool pl] 52)) none) := oh ((Kp.refl w none).alloc _)
 generalize w.alloc (.cells #[I6 1, .slice ea n ec, I6 (sel / 2), I6 f, I6 t, .bool pl] 52) = X at *
 have HOB : Hid (∀ q, ov.ownBlock = some q → q < w.heap.size) := oh fun q hq => (HRR.out.oo.lt q hq).2
 obtain ⟨B, hB⟩ : ∃ x, w.heap.size = x := ⟨_, rfl⟩
 rw [hB] at HBX hRB HOB ⊢; clear hB; have x0 := hcell HBX.out 0 rfl
 have x1 := hcell HBX.out 1 rfl
 have x2 := hcell HBX.out 2 rfl
 by_cases hz : c = 0
 ·subst hz; go_upto_region 5 with (go_at_call 31; refine (HCK.out _ KX.out).mono ?_; rintro E w2 ⟨rfl, k2⟩; have K2 := oh k2; clear k2)
  clear x0 x1 x2; have KW := oh (KX.out.trans K2.out)
  have HR0 := oh (blk HR.out (KW.out.trans (Kp.refl _ none).drew))
  have HB0 := oh (blk HBX.out (K2.out.trans (Kp.refl _ none).drew))
  have HRR0 := oh (HRR.out.keep (KW.out.trans (Kp.refl _ none).drew))
  have HL0 := oh (own_kp HL.out (KW.out.trans (Kp.refl _ none).drew))
  clear HR HBX HRR HL KW K2 KX HCK; refine wp_region_last (fun V => V.cell? ⟨R, 13, none⟩ = some ov ∧ V.cell? ⟨B, 0, none⟩ = some (I6 1) ∧ V.cell? ⟨B, 1, none⟩ = some (.slice ea n ec) ∧ V.cell? ⟨B, 2, none⟩ = some (I6 (sel / 2)) ∧ V.cell? ⟨B, 3, none⟩ = some (I6 f) ∧ V.cell? ⟨B, 4, none⟩ = some (I6 t) ∧ V.cell? ⟨B, 5, none⟩ = some (.bool pl)) 10 (by kernel_rfl) ?_ (fun eh => ?_)
  ·exact ⟨hcell HR0.out 13 rfl, hcell HB0.out 0 rfl, hcell HB0.out 1 rfl, hcell HB0.out 2 rfl, hcell HB0.out 3 rfl, hcell HB0.out 4 rfl, hcell HB0.out 5 rfl⟩
  generalize w2.drew = Y at *
  refine tjL 0 rfl ?_; refine tjL 1 rfl ?_; refine tjL 2 rfl ?_; refine tjL 3 rfl ?_; refine tjL 4 rfl ?_; refine tjL 5 rfl ?_; refine rdL 6 rfl (fun K hK => ?_); clear eh; go_simp; try go_wp2_with fail
  have ka := (Kp.refl Y none).alloc (.cells #[I6 1, .slice ea n ec, I6 (sel / 2), I6 f, I6 t, .bool pl] 52)
  have HR1 := oh (blk HR0.out ka); have HB1 := oh (blk HB0.out ka); have HRR1 := oh (HRR0.out.keep ka); have HL1 := oh (own_kp HL0.out ka)
  have HLS : Hid (IsList 6 htC (Y.alloc (.cells #[I6 1, .slice ea n ec, I6 (sel / 2), I6 f, I6 t, .bool pl] 52)) (.slice (some ⟨Y.heap.size, 0, none⟩) 1 1) [(⟨⟨⟨1, l, sel / 2⟩, f, t, pl⟩, ea, ec⟩ : HT)]) := oh (by have h := hole_list (w := Y) (⟨⟨⟨1, l, sel / 2⟩, f, t, pl⟩, ea, ec⟩ : HT); dsimp only at h; rw [HN.out] at h; exact h)
  have HSB : Hid (W.heap.size ≤ (Y.alloc (.cells #[I6 1, .slice ea n ec, I6 (sel / 2), I6 f, I6 t, .bool pl] 52)).heap.size) := oh HRR1.out.kp.size
  refine hK.out _ _ ?_ (fun eh => ?_)
  ·exact ⟨hcell HR1.out 13 rfl, hcell HB1.out 0 rfl, hcell HB1.out 1 rfl, hcell HB1.out 2 rfl, hcell HB1.out 3 rfl, hcell HB1.out 4 rfl, hcell HB1.out 5 rfl⟩
  clear hK K ka HR0 HB0 HRR0 HL0; try simp only [Act.put, sm]
  generalize Y.alloc (.cells #[I6 1, .slice ea n ec, I6 (sel / 2), I6 f, I6 t, .bool pl] 52) = Z at *
  refine rdL 7 rfl (fun K hK => ?_); clear eh; refine step_app (f := htC) rfl (.tmp 28) (.tmp 30) W.heap.size 30 52 rfl i0 _ 6 64 Tryz.underlying30 hi hz0 hz1 hz2 rfl (by omega) (fun _ => rfl) ht_one ov ts.length _ rfl HRR1.out.oo _ [(⟨⟨⟨1, l, sel / 2⟩, f, t, pl⟩, ea, ec⟩ : HT)] rfl HLS.out (by unfold maxLen; simp; omega) (by simp; omega) HSB.out ?_
  intro v3 w3 ho hg _; obtain ⟨ea3, ec3, rfl⟩ := own_slice ho
  have HO3 := oh ho; have HG3 := oh hg; have HR2 := oh (res_kept HR1.out hg (fun q hq e => own_not HRR1.out.oo HR1.out (by decide) (by rw [hq, e])))
  have HB2 := oh (res_kept HB1.out hg (fun q hq => by have := HOB.out q hq; omega))
  clear ho hg; try simp only [Act.put, sm]
  refine hK _ _ ?_ (fun eh => ?_)
  ·exact ⟨hcell HR2.out 13 rfl, hcell HB2.out 0 rfl, hcell HB2.out 1 rfl, hcell HB2.out 2 rfl, hcell HB2.out 3 rfl, hcell HB2.out 4 rfl, hcell HB2.out 5 rfl⟩
  clear hK K; try simp only [Act.put, sm]
  refine rdL 8 rfl (fun K hK => ?_); clear eh; go_simp; try go_wp2_with fail
  refine hK.out _ _ ?_ (fun eh => ?_)
  ·exact ⟨hcell HR2.out 13 rfl, hcell HB2.out 0 rfl, hcell HB2.out 1 rfl, hcell HB2.out 2 rfl, hcell HB2.out 3 rfl, hcell HB2.out 4 rfl, hcell HB2.out 5 rfl⟩
  clear hK K; try simp only [Act.put, sm]
  refine tjL 9 rfl ?_; refine rdE rfl (fun K hK => ?_)
  have f3 := fz HR2.out 13
  have c3 : w3.cell? ⟨R, 13, none⟩ = some ov := hcell HR2.out 13 rfl
  clear eh; go_simp; try go_wp2_with fail
  refine hK.out _ _ ?_
  clear hK K; try simp only [Act.put, sm]
  refine wpAnyL_done (by kernel_rfl) ?_ _
  clear f3 c3; have HRH : Hid (RfRest W R tools es (ts ++ [(⟨⟨⟨1, l, sel / 2⟩, f, t, pl⟩, ea, ec⟩ : HT)]) tv eu (.slice ea3 (ts.length + [(⟨⟨⟨1, l, sel / 2⟩, f, t, pl⟩, ea, ec⟩ : HT)].length) ec3) w3) := oh (HRR1.out.hole HG3.out (t := (⟨⟨⟨1, l, sel / 2⟩, f, t, pl⟩, ea, ec⟩ : HT)) (by unfold HoleE; dsimp only; rw [HN.out]; exact HL1.out) (by unfold eBlock; dsimp only; rw [HN.out]; exact HD.out) (by rw [List.length_append, List.flatMap_append]; exact HO3.out))
  have hb4 : (w3.setCell ⟨R, 13, none⟩ (.slice ea3 (ts.length + [(⟨⟨⟨1, l, sel / 2⟩, f, t, pl⟩, ea, ec⟩ : HT)].length) ec3)).heap[R]? = some (.cells #[.bool bg, tv, I6 sel, I6 0, .slice none 0 0, I6 0, I6 f, I6 t, .bool pl, I6 sl, I6 ax, I6 ay, xe, (.slice ea3 (ts.length + [(⟨⟨⟨1, l, sel / 2⟩, f, t, pl⟩, ea, ec⟩ : HT)].length) ec3), .bool dn] 181 (0, 0)) := heap_set HR2.out
  have HF := oh (HRH.out.set ((Kp.refl w3 (some R)).set _) hb4)
  have HB4 := oh hb4; clear hb4 HRH HO3 HG3 HR2 HB2 HR1 HB1 HRR1 HL1 HLS
  generalize w3.setCell ⟨R, 13, none⟩ (.slice ea3 (ts.length + [(⟨⟨⟨1, l, sel / 2⟩, f, t, pl⟩, ea, ec⟩ : HT)].length) ec3) = wF at *
  go_wp2_with fail
  go_ret; unfold PutRIs; rw [if_pos rfl]
  exact ⟨rfl, _, HB4.out, HF.out⟩
 ·have HZ := oh hz; clear hz; have hcb : (c == 0) = false := by simpa using HZ.out
  go_wp2_with (go_at_call 31; refine (HCK.out _ KX.out).mono ?_; rintro E w2 ⟨rfl, k2⟩; have K2 := oh k2; clear k2)
  go_ret; unfold PutRIs; rw [if_neg HZ.out]
  exact ⟨rfl, KX.out.trans K2.out⟩
theorem edge_ret {p : Pl.Pt} {s : List UInt8} {w w' : World} {E : Ending} (h : EdgeRIs p s w E w') {o : Option Pl.Ed} (ho : Dl.edgeOf p s = o) : (match o with
 | some e => E = .returned (.tuple #[.agg #[I6 e.k, I6 e.a.x, I6 e.a.y, I6 e.b.x, I6 e.b.y, I6 e.c.x, I6 e.c.y], .bool true])
 | none => E = .returned (.tuple #[.agg #[I6 0, I6 0, I6 0, I6 0, I6 0, I6 0, I6 0], .bool false])) ∧ Kp w w' none := by
 unfold EdgeRIs at h; rw [ho] at h
 cases o <;> exact h
theorem rslot_4 (W : World) (R : Nat) (st : Dl.St) (s : List UInt8) (w : World) (h : RfAt W R st w) (hp : st.ph = 4) : Calls Tryz.prog 138 #[.pointer (some ⟨R, 0, none⟩), str s] w (RfIs W R (Dl.step st s)) := by
 obtain ⟨ph, tools, sel, f, t, pl, at_, es, out⟩ := st
 dsimp only at hp
 subst hp; obtain ⟨tv, eu, ov, ts, hts, hb, hr⟩ := h
 dsimp only at hts hb hr
 have HB := oh hb; have HR := oh hr; have HT := oh hts; have c9 : w.cell? ⟨R, 9, none⟩ = some (I6 1) := hcell hb 9 rfl
 have f9 : w.frozen? ⟨R, 9, none⟩ = false := fz hb 9
 clear hb hr hts
 by_cases hk : s = [77, 49, 53]
 ·have e1 : (s == [77, 49, 53]) = true := by simpa using hk
  have HX : Hid (Dl.step ⟨4, tools, sel, f, t, pl, at_, es, out⟩ s = .inl ⟨5, tools, sel, f, t, pl, at_, es, out⟩) := oh (by subst hk; rfl)
  clear hk; go_enter Tryz.func138, Tryz.ntmps138
  go_wp2_with fail
  go_ret
  have hb2 : (w.setCell ⟨R, 9, none⟩ (I6 2)).heap[R]? = some (.cells (RFC ⟨5, tools, sel, f, t, pl, at_, es, out⟩ tv eu ov) 181 (0, 0)) := heap_set HB.out
  exact rf_inl HX.out ⟨tv, eu, ov, ts, HT.out, hb2, HR.out.set ((Kp.refl w (some R)).set _) hb2⟩
 ·have e1 : (s == [77, 49, 53]) = false := by simpa using hk
  have HX : Hid (Dl.step ⟨4, tools, sel, f, t, pl, at_, es, out⟩ s = .inr 4) := oh (by
   unfold Dl.step
   rw [if_neg (show ¬ (4 : Nat) = 0 by decide), if_neg (show ¬ (4 : Nat) = 1 by decide), if_neg (show ¬ (4 : Nat) = 2 by decide), if_neg (show ¬ (4 : Nat) = 3 by decide), if_pos rfl, if_neg (show ¬ s = Dl.kM15 from hk)])
  clear hk; go_enter Tryz.func138, Tryz.ntmps138
  go_wp2_with fail
  go_ret
  exact rf_inr HX.out (Kp.of_own HR.out.kp ((Kp.refl w (some R)).set _) HR.out.hR)
theorem rslot_m16 (W : World) (R : Nat) (st : Dl.St) (s : List UInt8) (hk : s = [77, 49, 54]) (w : World) (h : RfAt W R st w) (hp : st.ph = 5) (hsl : 0 ≤ st.sel ∧ st.sel ≤ 8388608) (hol : st.out.length ≤ 1000000) : Calls Tryz.prog 138 #[.pointer (some ⟨R, 0, none⟩), str s] w (RfIs W R (Dl.routed st s)) := by
 obtain ⟨ph, tools, sel, f, t, pl, at_, es, out⟩ := st
 dsimp only at hp hsl hol
 subst hp; obtain ⟨tv, eu, ov, ts, hts, hb, hr⟩ := h
 dsimp only at hts hb hr
 obtain ⟨ea, ec, rfl⟩ := own_slice hr.eo
 have hn : es.length = es.length := rfl
 have hd : (Value.slice ea es.length ec).ownBlock = none ∨ (Value.slice ea es.length ec).ownBlock ≠ (Value.slice none 0 0).ownBlock := by
  cases hq : (Value.slice ea es.length ec).ownBlock with
  | none => exact .inl rfl
  | some g => exact .inr (by simp [Value.ownBlock])
 have htl : ts.length ≤ 1000000 := by rw [← hts, List.length_map] at hol; exact hol
 have HP := oh (rput_any W R tv (.slice ea es.length ec) (.slice none 0 0) ov true false 2 sel f t pl at_.x at_.y tools [] ts es es.length rfl ea ec w hb hr.drop hr.eo hd hsl htl)
 have HX : Hid (Dl.routed ⟨5, tools, sel, f, t, pl, at_, es, out⟩ s = if Pl.chk ⟨1, es, sel / 2⟩ = 0 then .inl ⟨3, tools, sel, f, t, pl, at_, [], out ++ [⟨⟨1, es, sel / 2⟩, f, t, pl⟩]⟩ else .inr (Pl.chk ⟨1, es, sel / 2⟩)) := oh (by
  unfold Dl.routed Dl.put; rw [if_pos (show s = Dl.kM16 from hk)]; dsimp only
  by_cases hc : Pl.chk ⟨1, es, sel / 2⟩ = 0
  ·rw [if_pos hc, if_pos hc]
  ·rw [if_neg hc, if_neg hc])
 have c9 : w.cell? ⟨R, 9, none⟩ = some (I6 2) := hcell hb 9 rfl
 have c12 : w.cell? ⟨R, 12, none⟩ = some (.slice ea es.length ec) := hcell hb 12 rfl
 have e1 : (s == [77, 49, 54]) = true := by simpa using hk
 have HB := oh hb; have HR := oh hr; have HT := oh hts; obtain ⟨c, hc⟩ : ∃ c, Pl.chk ⟨1, es, sel / 2⟩ = c := ⟨_, rfl⟩
 rw [hc] at HP HX; clear hb hr hts hn hd htl hk hsl hol hc
 by_cases hz : c = 0
 ·subst hz; have HP2 : Hid (Calls Tryz.prog 143 #[.pointer (some ⟨R, 0, none⟩), .slice ea es.length ec] w fun E w' => E = .returned (I6 0) ∧ ∃ ov, w'.heap[R]? = some (.cells #[.bool true, tv, I6 sel, I6 0, .slice none 0 0, I6 0, I6 f, I6 t, .bool pl, I6 2, I6 at_.x, I6 at_.y, .slice ea es.length ec, ov, .bool false] 181 (0, 0)) ∧ RfRest W R tools [] (ts ++ [⟨⟨⟨1, es, sel / 2⟩, f, t, pl⟩, ea, ec⟩]) tv (.slice none 0 0) ov w') := oh (HP.out.mono fun E w' hh => by unfold PutRIs at hh; rw [if_pos rfl] at hh; exact hh)
  have HX2 : Hid (Dl.routed ⟨5, tools, sel, f, t, pl, at_, es, out⟩ s = .inl ⟨3, tools, sel, f, t, pl, at_, [], out ++ [⟨⟨1, es, sel / 2⟩, f, t, pl⟩]⟩) := oh HX.out
  clear HP HX; go_enter Tryz.func138, Tryz.ntmps138
  go_upto_region 8 with (go_at_call 143; refine HP2.out.mono ?_; rintro E w2 ⟨rfl, ov2, hb2, hr2⟩; have HB2 := oh hb2; have HR2 := oh hr2; clear hb2 hr2)
  have c9' : w2.cell? ⟨R, 9, none⟩ = some (I6 2) := hcell HB2.out 9 rfl
  have f9 : w2.frozen? ⟨R, 9, none⟩ = false := fz HB2.out 9
  have c12' : w2.cell? ⟨R, 12, none⟩ = some (.slice ea es.length ec) := hcell HB2.out 12 rfl
  have f12 : w2.frozen? ⟨R, 12, none⟩ = false := fz HB2.out 12
  go_wp2_with fail
  go_ret
  have hb3 : ((w2.setCell ⟨R, 9, none⟩ (I6 0)).setCell ⟨R, 12, none⟩ (.slice none 0 0)).heap[R]? = some (.cells (RFC ⟨3, tools, sel, f, t, pl, at_, [], out ++ [⟨⟨1, es, sel / 2⟩, f, t, pl⟩]⟩ tv (.slice none 0 0) ov2) 181 (0, 0)) := heap_set (heap_set HB2.out)
  exact rf_inl HX2.out ⟨tv, _, ov2, _, by rw [List.map_append, HT.out]; rfl, hb3, HR2.out.set (((Kp.refl w2 (some R)).set _).set _) hb3⟩
 ·have HZ := oh hz; have HP2 : Hid (Calls Tryz.prog 143 #[.pointer (some ⟨R, 0, none⟩), .slice ea es.length ec] w fun E w' => E = .returned (I6 c) ∧ Kp w w' none) := oh (HP.out.mono fun E w' hh => by unfold PutRIs at hh; rw [if_neg HZ.out] at hh; exact hh)
  have HX2 : Hid (Dl.routed ⟨5, tools, sel, f, t, pl, at_, es, out⟩ s = .inr c) := oh (by rw [HX.out, if_neg HZ.out])
  clear HP HX hz; go_enter Tryz.func138, Tryz.ntmps138
  go_upto_region 8 with (go_at_call 143; refine HP2.out.mono ?_; rintro E w2 ⟨rfl, k2⟩; have K2 := oh k2; clear k2)
  have HB2 := oh (blk HB.out K2.out)
  have c9' : w2.cell? ⟨R, 9, none⟩ = some (I6 2) := hcell HB2.out 9 rfl
  have f9 : w2.frozen? ⟨R, 9, none⟩ = false := fz HB2.out 9
  have c12' : w2.cell? ⟨R, 12, none⟩ = some (.slice ea es.length ec) := hcell HB2.out 12 rfl
  have f12 : w2.frozen? ⟨R, 12, none⟩ = false := fz HB2.out 12
  go_wp2_with fail
  go_ret
  exact rf_inr HX2.out (Kp.of_own (HR.out.kp.trans K2.out) (((Kp.refl w2 (some R)).set _).set _) HR.out.hR)
theorem rslot_edge (W : World) (R : Nat) (st : Dl.St) (s : List UInt8) (hk : s ≠ [77, 49, 54]) (w : World) (h : RfAt W R st w) (hp : st.ph = 5) (hs : s.length ≤ 1000000000) (hel : st.es.length ≤ 1000000) (hat : Dl.NumB st.at_.x ∧ Dl.NumB st.at_.y) : Calls Tryz.prog 138 #[.pointer (some ⟨R, 0, none⟩), str s] w (RfIs W R (Dl.routed st s)) := by
 obtain ⟨ph, tools, sel, f, t, pl, at_, es, out⟩ := st
 dsimp only at hp hel hat
 subst hp; obtain ⟨tv, eu, ov, ts, hts, hb, hr⟩ := h
 dsimp only at hts hb hr
 obtain ⟨ea, ec, rfl⟩ := own_slice hr.eo
 have HE := oh (redge_any R at_.x at_.y s w _ hb rfl rfl hs hat.1 hat.2)
 have c9 : w.cell? ⟨R, 9, none⟩ = some (I6 2) := hcell hb 9 rfl
 have e1 : (s == [77, 49, 54]) = false := by simpa using hk
 have HB := oh hb; have HR := oh hr; have HT := oh hts; have HRW : Hid (R < w.heap.size) := oh (lt_of_block hb)
 have HOB : Hid (∀ q, (Value.slice ea es.length ec).ownBlock = some q → q < w.heap.size) := oh fun q hq => (hr.eo.lt q hq).2
 clear hb hr hts hs hat
 cases ho : Dl.edgeOf at_ s with
 | none =>
  have HE2 : Hid (Calls Tryz.prog 175 #[.pointer (some ⟨R, 0, none⟩), str s] w fun E w' => E = .returned (.tuple #[.agg #[I6 0, I6 0, I6 0, I6 0, I6 0, I6 0, I6 0], .bool false]) ∧ Kp w w' none) := oh (HE.out.mono fun E w' hh => edge_ret hh ho)
  have HX : Hid (Dl.routed ⟨5, tools, sel, f, t, pl, at_, es, out⟩ s = .inr 4) := oh (by unfold Dl.routed; rw [if_neg (show ¬ s = Dl.kM16 from hk)]; dsimp only; rw [ho])
  clear HE ho hk; go_enter Tryz.func138, Tryz.ntmps138
  go_wp2_with (go_at_call 175; refine HE2.out.mono ?_; rintro E w2 ⟨rfl, k2⟩; have K2 := oh k2; clear k2)
  go_ret
  exact rf_inr HX.out ((HR.out.kp.trans K2.out).alloc _)
 | some e =>
  obtain ⟨ek, ⟨e1x, e2⟩, ⟨e3, e4⟩, ⟨e5, e6⟩⟩ := e
  have HE2 : Hid (Calls Tryz.prog 175 #[.pointer (some ⟨R, 0, none⟩), str s] w fun E w' => E = .returned (.tuple #[.agg #[I6 ek, I6 e1x, I6 e2, I6 e3, I6 e4, I6 e5, I6 e6], .bool true]) ∧ Kp w w' none) := oh (HE.out.mono fun E w' hh => edge_ret hh ho)
  have HX : Hid (Dl.routed ⟨5, tools, sel, f, t, pl, at_, es, out⟩ s = if Pl.chkE (⟨ek, ⟨e1x, e2⟩, ⟨e3, e4⟩, ⟨e5, e6⟩⟩ : Pl.Ed) = 0 then .inl ⟨5, tools, sel, f, t, pl, ⟨e3, e4⟩, es ++ [(⟨ek, ⟨e1x, e2⟩, ⟨e3, e4⟩, ⟨e5, e6⟩⟩ : Pl.Ed)], out⟩ else .inr (Pl.chkE (⟨ek, ⟨e1x, e2⟩, ⟨e3, e4⟩, ⟨e5, e6⟩⟩ : Pl.Ed))) := oh (by unfold Dl.routed; rw [if_neg (show ¬ s = Dl.kM16 from hk)]; dsimp only; rw [ho])
  have HCE := oh (fun V => rcheck_any (⟨ek, ⟨e1x, e2⟩, ⟨e3, e4⟩, ⟨e5, e6⟩⟩ : Pl.Ed) V)
  dsimp only at HCE
  obtain ⟨i0, hi, hz0, hz1, hz2⟩ := info_parts infoEdge
  obtain ⟨cc, hcc⟩ : ∃ c, Pl.chkE (⟨ek, ⟨e1x, e2⟩, ⟨e3, e4⟩, ⟨e5, e6⟩⟩ : Pl.Ed) = c := ⟨_, rfl⟩
  rw [hcc] at HX HCE; clear HE ho hk hcc; go_enter Tryz.func138, Tryz.ntmps138
  go_upto_region 14 with (go_at_call 175; refine HE2.out.mono ?_; rintro E w2 ⟨rfl, k2⟩; have K2 := oh k2; clear k2)
  clear c9; have HB9 := oh (heap_alloc_new w2 (.cells #[I6 ek, I6 e1x, I6 e2, I6 e3, I6 e4, I6 e5, I6 e6] 123))
  have KX : Hid (Kp w (w2.alloc (.cells #[I6 ek, I6 e1x, I6 e2, I6 e3, I6 e4, I6 e5, I6 e6] 123)) none) := oh (K2.out.alloc _)
  have HBG : Hid (w.heap.size ≤ w2.heap.size) := oh K2.out.size
  generalize w2.alloc (.cells #[I6 ek, I6 e1x, I6 e2, I6 e3, I6 e4, I6 e5, I6 e6] 123) = X at *
  obtain ⟨B, hB⟩ : ∃ x, w2.heap.size = x := ⟨_, rfl⟩
  rw [hB] at HB9 HBG ⊢; clear hB K2; have kd : Kp X X.drew none := (Kp.refl _ _).drew
  have HR0 := oh (blk (blk HB.out KX.out) kd)
  have HB0 := oh (blk HB9.out kd)
  have HRR0 := oh ((HR.out.keep KX.out).keep kd)
  clear kd HB9 HB KX; refine wp_region_last (fun V => V.cell? ⟨R, 12, none⟩ = some (.slice ea es.length ec) ∧ V.cell? ⟨B, 0, none⟩ = some (I6 ek) ∧ V.cell? ⟨B, 1, none⟩ = some (I6 e1x) ∧ V.cell? ⟨B, 2, none⟩ = some (I6 e2) ∧ V.cell? ⟨B, 3, none⟩ = some (I6 e3) ∧ V.cell? ⟨B, 4, none⟩ = some (I6 e4) ∧ V.cell? ⟨B, 5, none⟩ = some (I6 e5) ∧ V.cell? ⟨B, 6, none⟩ = some (I6 e6)) 10 (by kernel_rfl) ?_ (fun eh => ?_)
  ·exact ⟨hcell HR0.out 12 rfl, hcell HB0.out 0 rfl, hcell HB0.out 1 rfl, hcell HB0.out 2 rfl, hcell HB0.out 3 rfl, hcell HB0.out 4 rfl, hcell HB0.out 5 rfl, hcell HB0.out 6 rfl⟩
  generalize X.drew = Y at *
  refine tjL 0 rfl ?_; refine tjL 1 rfl ?_; refine tjL 2 rfl ?_; refine tjL 3 rfl ?_; refine tjL 4 rfl ?_; refine tjL 5 rfl ?_; refine rdL 6 rfl (fun K hK => ?_); clear eh; go_simp; try go_wp2_with fail
  have ka := (Kp.refl Y none).alloc (.cells #[I6 ek, I6 e1x, I6 e2, I6 e3, I6 e4, I6 e5, I6 e6] 123)
  have HR1 := oh (blk HR0.out ka); have HB1 := oh (blk HB0.out ka); have HRR1 := oh (HRR0.out.keep ka)
  have HLS : Hid (IsList 7 edC (Y.alloc (.cells #[I6 ek, I6 e1x, I6 e2, I6 e3, I6 e4, I6 e5, I6 e6] 123)) (.slice (some ⟨Y.heap.size, 0, none⟩) 1 1) [(⟨ek, ⟨e1x, e2⟩, ⟨e3, e4⟩, ⟨e5, e6⟩⟩ : Pl.Ed)]) := oh (ed_list (w := Y) (⟨ek, ⟨e1x, e2⟩, ⟨e3, e4⟩, ⟨e5, e6⟩⟩ : Pl.Ed))
  have HSB : Hid (W.heap.size ≤ (Y.alloc (.cells #[I6 ek, I6 e1x, I6 e2, I6 e3, I6 e4, I6 e5, I6 e6] 123)).heap.size) := oh HRR1.out.kp.size
  refine hK.out _ _ ?_ (fun eh => ?_)
  ·exact ⟨hcell HR1.out 12 rfl, hcell HB1.out 0 rfl, hcell HB1.out 1 rfl, hcell HB1.out 2 rfl, hcell HB1.out 3 rfl, hcell HB1.out 4 rfl, hcell HB1.out 5 rfl, hcell HB1.out 6 rfl⟩
  clear hK K ka HR0 HB0 HRR0; try simp only [Act.put, sm]
  generalize Y.alloc (.cells #[I6 ek, I6 e1x, I6 e2, I6 e3, I6 e4, I6 e5, I6 e6] 123) = Z at *
  refine rdL 7 rfl (fun K hK => ?_); clear eh; refine step_app (f := edC) rfl (.tmp 45) (.tmp 47) W.heap.size 48 123 rfl i0 _ 7 56 Tryz.underlying48 hi hz0 hz1 hz2 rfl (by omega) (fun _ => rfl) ed_one (.slice ea es.length ec) es.length _ rfl HRR1.out.eo _ [(⟨ek, ⟨e1x, e2⟩, ⟨e3, e4⟩, ⟨e5, e6⟩⟩ : Pl.Ed)] rfl HLS.out (by unfold maxLen; simp; omega) (by simp; omega) HSB.out ?_
  intro v3 w3 ho hg hor; obtain ⟨ea3, ec3, rfl⟩ := own_slice ho
  have HO3 := oh ho; have HG3 := oh hg; have HOR := oh hor; have HR2 := oh (res_kept HR1.out hg (fun q hq e => own_not HRR1.out.eo HR1.out (by decide) (by rw [hq, e])))
  have HB2 := oh (res_kept HB1.out hg (fun q hq => by have h1 := HOB.out q hq; have h2 := HBG.out; omega))
  clear ho hg hor; try simp only [Act.put, sm]
  refine hK _ _ ?_ (fun eh => ?_)
  ·exact ⟨hcell HR2.out 12 rfl, hcell HB2.out 0 rfl, hcell HB2.out 1 rfl, hcell HB2.out 2 rfl, hcell HB2.out 3 rfl, hcell HB2.out 4 rfl, hcell HB2.out 5 rfl, hcell HB2.out 6 rfl⟩
  clear hK K; try simp only [Act.put, sm]
  refine rdL 8 rfl (fun K hK => ?_); have gS := eh; clear eh; go_simp; try go_wp2_with fail
  refine hK.out _ _ (gS) (fun eh => ?_)
  clear hK K gS; try simp only [Act.put, sm]
  refine tjL 9 rfl ?_; refine rdE rfl (fun K hK => ?_)
  have f3 := fz HR2.out 12
  have c3 : w3.cell? ⟨R, 12, none⟩ = some (.slice ea es.length ec) := hcell HR2.out 12 rfl
  clear eh; go_simp; try go_wp2_with fail
  refine hK.out _ _ ?_
  clear hK K f3 c3; try simp only [Act.put, sm]
  refine wpAnyL_done (by kernel_rfl) ?_ _
  have HRH : Hid (RfRest W R tools (es ++ [(⟨ek, ⟨e1x, e2⟩, ⟨e3, e4⟩, ⟨e5, e6⟩⟩ : Pl.Ed)]) ts tv (.slice ea3 (es.length + [(⟨ek, ⟨e1x, e2⟩, ⟨e3, e4⟩, ⟨e5, e6⟩⟩ : Pl.Ed)].length) ec3) ov w3) := oh (HRR1.out.edges HG3.out (by rw [List.length_append, List.flatMap_append]; exact HO3.out) HOR.out)
  have hb4 : (w3.setCell ⟨R, 12, none⟩ (.slice ea3 (es.length + [(⟨ek, ⟨e1x, e2⟩, ⟨e3, e4⟩, ⟨e5, e6⟩⟩ : Pl.Ed)].length) ec3)).heap[R]? = some (.cells (RFC ⟨5, tools, sel, f, t, pl, ⟨at_.x, at_.y⟩, es ++ [(⟨ek, ⟨e1x, e2⟩, ⟨e3, e4⟩, ⟨e5, e6⟩⟩ : Pl.Ed)], out⟩ tv (.slice ea3 (es.length + [(⟨ek, ⟨e1x, e2⟩, ⟨e3, e4⟩, ⟨e5, e6⟩⟩ : Pl.Ed)].length) ec3) ov) 181 (0, 0)) := heap_set HR2.out
  have ks : Kp w3 (w3.setCell ⟨R, 12, none⟩ (.slice ea3 (es.length + [(⟨ek, ⟨e1x, e2⟩, ⟨e3, e4⟩, ⟨e5, e6⟩⟩ : Pl.Ed)].length) ec3)) (some R) := (Kp.refl w3 (some R)).set _
  have HF := oh (HRH.out.set ks hb4); have HB4 := oh hb4
  have HB3 := oh (res_kept HB2.out ks (fun q hq => by injection hq with hq; have h1 := HRW.out; have h2 := HBG.out; omega))
  clear hb4 HRH HO3 HG3 HR2 HB2 HR1 HB1 HRR1 HLS HOR ks
  generalize w3.setCell ⟨R, 12, none⟩ (.slice ea3 (es.length + [(⟨ek, ⟨e1x, e2⟩, ⟨e3, e4⟩, ⟨e5, e6⟩⟩ : Pl.Ed)].length) ec3) = wF at *
  have y3 := hcell HB3.out 3 rfl
  have y4 := hcell HB3.out 4 rfl
  have x10 : wF.cell? ⟨R, 10, none⟩ = some (I6 at_.x) := hcell HB4.out 10 rfl
  have x11 : wF.cell? ⟨R, 11, none⟩ = some (I6 at_.y) := hcell HB4.out 11 rfl
  have f10 := fz HB4.out 10
  have f11 := fz HB4.out 11
  go_upto_region 16 with fail
  have hb5 : ((wF.setCell ⟨R, 10, none⟩ (I6 e3)).setCell ⟨R, 11, none⟩ (I6 e4)).heap[R]? = some (.cells (RFC ⟨5, tools, sel, f, t, pl, ⟨e3, e4⟩, es ++ [(⟨ek, ⟨e1x, e2⟩, ⟨e3, e4⟩, ⟨e5, e6⟩⟩ : Pl.Ed)], out⟩ tv (.slice ea3 (es.length + [(⟨ek, ⟨e1x, e2⟩, ⟨e3, e4⟩, ⟨e5, e6⟩⟩ : Pl.Ed)].length) ec3) ov) 181 (0, 0)) := heap_set (heap_set HB4.out)
  have ks : Kp wF ((wF.setCell ⟨R, 10, none⟩ (I6 e3)).setCell ⟨R, 11, none⟩ (I6 e4)) (some R) := ((Kp.refl wF (some R)).set _).set _
  have HF5 := oh (HF.out.set ks hb5); have HB5 := oh hb5
  have HB6 := oh (res_kept HB3.out ks (fun q hq => by injection hq with hq; have h1 := HRW.out; have h2 := HBG.out; omega))
  clear hb5 ks y3 y4 x10 x11 f10 f11 HF HB4 HB3
  generalize (wF.setCell ⟨R, 10, none⟩ (I6 e3)).setCell ⟨R, 11, none⟩ (I6 e4) = wG at *
  have y0 := hcell HB6.out 0 rfl
  have y1 := hcell HB6.out 1 rfl
  have y2 := hcell HB6.out 2 rfl
  have y3 := hcell HB6.out 3 rfl
  have y4 := hcell HB6.out 4 rfl
  have y5 := hcell HB6.out 5 rfl
  have y6 := hcell HB6.out 6 rfl
  go_wp2_with (go_at_call 86; refine (HCE.out _).mono ?_; rintro E w7 ⟨rfl, k7⟩; have K7 := oh k7; clear k7)
  go_ret
  by_cases hz : cc = 0
  ·subst hz; exact rf_inl HX.out ⟨tv, _, ov, ts, HT.out, blk HB5.out K7.out, HF5.out.keep K7.out⟩
  ·exact rf_inr (by rw [HX.out, if_neg hz]) (HF5.out.kp.trans K7.out)
end Go.Proofs.YtljjbdbgedmadaaGreatDoor
