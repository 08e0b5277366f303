/- The readers of a span, a tool, a slot's beginning and a point. Conditions: lines of at most 10^9 bytes; at most 10^6 holes. -/
import Derived.Test.YtljjbdbgedmadaaGreatDoorQa
import Derived.Test.YtljjbdbgedmadaaGreatDoorDrA
set_option maxHeartbeats 8000000
set_option maxRecDepth 100000
namespace Go.Proofs.YtljjbdbgedmadaaGreatDoor
open Go.RowKit Go.Lib
theorem pat_plated : Pat [59, 115, 112, 97, 110, 32, 35, 32, 35, 32, 112, 108, 97, 116, 101, 100] [59, 115, 112, 97, 110, 32] [[32], [32, 112, 108, 97, 116, 101, 100]] := ⟨by decide +kernel, by decide +kernel⟩
theorem pat_plain : Pat [59, 115, 112, 97, 110, 32, 35, 32, 35, 32, 112, 108, 97, 105, 110] [59, 115, 112, 97, 110, 32] [[32], [32, 112, 108, 97, 105, 110]] := ⟨by decide +kernel, by decide +kernel⟩
theorem pat_tool : Pat [84, 35] [84] [[]] := ⟨by decide +kernel, by decide +kernel⟩
theorem pat_slot : Pat [71, 48, 48, 88, 35, 89, 35] [71, 48, 48, 88] [[89], []] := ⟨by decide +kernel, by decide +kernel⟩
theorem pat_point : Pat [88, 35, 89, 35] [88] [[89], []] := ⟨by decide +kernel, by decide +kernel⟩
theorem pat_head : Pat [84, 35, 67, 35] [84] [[67], []] := ⟨by decide +kernel, by decide +kernel⟩
theorem pat_g1 : Pat [71, 48, 49, 88, 35, 89, 35] [71, 48, 49, 88] [[89], []] := ⟨by decide +kernel, by decide +kernel⟩
theorem pat_g3 : Pat [71, 48, 51, 88, 35, 89, 35, 73, 35, 74, 35] [71, 48, 51, 88] [[89], [73], [74], []] := ⟨by decide +kernel, by decide +kernel⟩
theorem pat_g2 : Pat [71, 48, 50, 88, 35, 89, 35, 73, 35, 74, 35] [71, 48, 50, 88] [[89], [73], [74], []] := ⟨by decide +kernel, by decide +kernel⟩
theorem scan_yes {pat p : List UInt8} {ps : List (List UInt8)} (hpat : Pat pat p ps) (hps : ps.length ≤ 100) (hpl : pat.length ≤ 1000) {s : List UInt8} (hs : s.length ≤ 1000000000) {ns : List Int} (h : Dl.scan p ps s = some ns) (w : World) (he : Env w) :
  Calls Tryz.prog 186 #[str s, str pat] w fun E w' => (∃ ao cap, E = .returned (.tuple #[.slice ao ns.length cap, .bool true]) ∧ LiesAt 1 intVal w' ao cap ns ∧ ∀ q, ao = some q → w.heap.size ≤ q.block) ∧ Kp w w' none := by
 have := scanned_any pat p ps hpat hps hpl s hs w he
 rw [h] at this; exact this
theorem scan_not {pat p : List UInt8} {ps : List (List UInt8)} (hpat : Pat pat p ps) (hps : ps.length ≤ 100) (hpl : pat.length ≤ 1000) {s : List UInt8} (hs : s.length ≤ 1000000000) (h : Dl.scan p ps s = none) (w : World) (he : Env w) :
  Calls Tryz.prog 186 #[str s, str pat] w fun E w' => (∃ ao n cap, E = .returned (.tuple #[.slice ao n cap, .bool false])) ∧ Kp w w' none := by
 have := scanned_any pat p ps hpat hps hpl s hs w he
 rw [h] at this; exact this
theorem len2 {ns : List Int} {l : List (List UInt8)} (h : ns.length = l.length) (h2 : l.length = 2) : ∃ a b, ns = [a, b] := by
 match ns, h with
 | [a, b], _ => exact ⟨a, b, rfl⟩
 | [], h => simp at h; omega
 | [_], h => simp at h; omega
 | _ :: _ :: _ :: _, h => simp at h; omega
theorem len1 {ns : List Int} {l : List (List UInt8)} (h : ns.length = l.length) (h2 : l.length = 1) : ∃ a, ns = [a] := by
 match ns, h with
 | [a], _ => exact ⟨a, rfl⟩
 | [], h => simp at h; omega
 | _ :: _ :: _, h => simp at h; omega
theorem two_at {w : World} {ao : Option Addr} {cap : Nat} {a b : Int} (h : LiesAt 1 intVal w ao cap [a, b]) : ∃ g off, ao = some ⟨g, off, none⟩ ∧ g < w.heap.size ∧ 2 ≤ cap ∧ w.cell? ⟨g, off, none⟩ = some (.int .i64 a) ∧ w.cell? ⟨g, off + 1, none⟩ = some (.int .i64 b) := by
 obtain ⟨g, off, e, hg, hc, hr⟩ := h.int 0 (by simp)
 exact ⟨g, off, e, hg, hc, hr 0 (by simp), hr 1 (by simp)⟩
theorem one_at {w : World} {ao : Option Addr} {cap : Nat} {a : Int} (h : LiesAt 1 intVal w ao cap [a]) : ∃ g off, ao = some ⟨g, off, none⟩ ∧ g < w.heap.size ∧ 1 ≤ cap ∧ w.cell? ⟨g, off, none⟩ = some (.int .i64 a) := by
 obtain ⟨g, off, e, hg, hc, hr⟩ := h.int 0 (by simp)
 exact ⟨g, off, e, hg, hc, hr 0 (by simp)⟩
def BodyIs (W : World) (L : Option Nat) (R m : Nat) (st : Dl.St) (w : World) (x : Option (Dl.St ⊕ Int)) (E : Ending) (w' : World) : Prop := match x with
 | none => E = .returned (.bool false) ∧ RdAt W L R m st w' ∧ Kp w w' none
 | some (.inl u) => E = .returned (.bool true) ∧ RdAt W L R m u w'
 | some (.inr e) => E = .panicked (bad e) ∧ KpL W L w'
theorem body_none {W : World} {L : Option Nat} {R m : Nat} {st : Dl.St} {w : World} {x : Option (Dl.St ⊕ Int)} {w' : World} (h : x = none) (k : Kp w w' none) (hr : RdAt W L R m st w) : BodyIs W L R m st w x (.returned (.bool false)) w' := by subst h; exact ⟨rfl, hr.keep k, k⟩
theorem body_inl {W : World} {L : Option Nat} {R m : Nat} {st u : Dl.St} {w : World} {x : Option (Dl.St ⊕ Int)} {w' : World} (h : x = some (.inl u)) (hr : RdAt W L R m u w') : BodyIs W L R m st w x (.returned (.bool true)) w' := by subst h; exact ⟨rfl, hr⟩
theorem body_inr {W : World} {L : Option Nat} {R m : Nat} {st : Dl.St} {w : World} {x : Option (Dl.St ⊕ Int)} {e : Int} {w' : World} (h : x = some (.inr e)) (hr : KpL W L w') : BodyIs W L R m st w x (.panicked (bad e)) w' := by subst h; exact ⟨rfl, hr⟩
def spanX (st : Dl.St) (s : List UInt8) : Option (Dl.St ⊕ Int) := match Dl.spanOf s with
 | some (f, t, p) => some (if Dl.spanR f t then .inl { st with f := f, t := t, pl := p } else .inr 72)
 | none => none
def toolX (st : Dl.St) (s : List UInt8) : Option (Dl.St ⊕ Int) := match Dl.scan [84] [[]] s with
 | some [n] => some (match Dl.find st.tools n with | some d => .inl { st with sel := d } | none => .inr 70)
 | _ => none
def slotX (st : Dl.St) (s : List UInt8) : Option (Dl.St ⊕ Int) := match Dl.scan [71, 48, 48, 88] [[89], []] s with
 | some [x, y] => some (if Dl.ready st = 0 then .inl { st with ph := 4, at_ := ⟨x, y⟩ } else .inr (Dl.ready st))
 | _ => none
def pointX (st : Dl.St) (s : List UInt8) : Option (Dl.St ⊕ Int) := match Dl.scan [88] [[89], []] s with
 | some [x, y] => some (if Dl.ready st = 0 then Dl.put st [⟨1, ⟨x, y⟩, ⟨x, y⟩, ⟨0, 0⟩⟩] else .inr (Dl.ready st))
 | _ => none
theorem body_parts (st : Dl.St) (s : List UInt8) (h : s ≠ Dl.kM30) : Dl.body st s = ((((spanX st s).or (toolX st s)).or (slotX st s)).or (pointX st s)).getD (.inr 4) := by
 unfold Dl.body spanX toolX slotX pointX; rw [if_neg h]
 cases h1 : Dl.spanOf s with
 | some p =>
  obtain ⟨f, t, b⟩ := p; dsimp only
  by_cases hs : Dl.spanR f t = true <;> simp [hs]
 | none =>
  dsimp only
  cases h2 : Dl.scan [84] [[]] s with
  | some ns =>
   obtain ⟨a, rfl⟩ := len1 (Dl.scan_some h2).1 rfl
   dsimp only
   cases hf : Dl.find st.tools a <;> simp
  | none =>
   dsimp only
   cases h3 : Dl.scan [71, 48, 48, 88] [[89], []] s with
   | some ns =>
    obtain ⟨a, b, rfl⟩ := len2 (Dl.scan_some h3).1 rfl
    simp
   | none =>
    dsimp only
    cases h4 : Dl.scan [88] [[89], []] s with
    | some ns =>
     obtain ⟨a, b, rfl⟩ := len2 (Dl.scan_some h4).1 rfl
     simp
    | none => simp
theorem hole_set {R m ph : Nat} {st : Dl.St} {eu ov : Value} {w : World} (h : w.heap[R]? = some (.cells (RC ph m st eu ov) 117 (0, 0))) (f t : Int) (pl : Bool) :
  ((((((w.setCell ⟨R, 3, none⟩ (.int .i64 0)).setCell ⟨R, 4, none⟩ (.slice none 0 0)).setCell ⟨R, 5, none⟩ (.int .i64 0)).setCell ⟨R, 6, none⟩ (.int .i64 f)).setCell ⟨R, 7, none⟩ (.int .i64 t)).setCell ⟨R, 8, none⟩ (.bool pl)).heap[R]? = some (.cells (RC ph m { st with f := f, t := t, pl := pl } eu ov) 117 (0, 0)) ∧
  Kp w ((((((w.setCell ⟨R, 3, none⟩ (.int .i64 0)).setCell ⟨R, 4, none⟩ (.slice none 0 0)).setCell ⟨R, 5, none⟩ (.int .i64 0)).setCell ⟨R, 6, none⟩ (.int .i64 f)).setCell ⟨R, 7, none⟩ (.int .i64 t)).setCell ⟨R, 8, none⟩ (.bool pl)) (some R) := by
 have h1 := heap_set (o := 8) (v := .bool pl) (heap_set (o := 7) (v := .int .i64 t) (heap_set (o := 6) (v := .int .i64 f) (heap_set (o := 5) (v := .int .i64 0) (heap_set (o := 4) (v := .slice none 0 0) (heap_set (o := 3) (v := .int .i64 0) h)))))
 exact ⟨h1, ((((((Kp.refl w (some R)).set _).set _).set _).set _).set _).set _⟩
theorem tool_any (W : World) (L : Option Nat) (R m : Nat) (st : Dl.St) (s : List UInt8) (w : World) (h : RdAt W L R m st w) (he : Env w) (hs : s.length ≤ 1000000000) : Calls Tryz.prog 210 #[.pointer (some ⟨R, 0, none⟩), str s] w (BodyIs W L R m st w (toolX st s)) := by
 have HEN : Hid (∀ V, Kp w V none → Env V) := oh fun V k => he.kp0 k
 have H0 := oh h; have HSL := oh hs; clear h hs he; obtain ⟨ph, tools, sel, f, t, pl, at_, es, out⟩ := st
 cases hsc : Dl.scan [84] [[]] s with
 | none =>
  have HC := oh (fun V (k : Kp w V none) => scan_not pat_tool (by decide) (by decide) HSL.out hsc V (HEN.out V k))
  have HX : Hid (toolX ⟨ph, tools, sel, f, t, pl, at_, es, out⟩ s = none) := oh (by unfold toolX; rw [hsc])
  clear hsc; go_enter Tryz.func210, Tryz.ntmps210
  go_wp2_with (go_at_call 186; refine (HC.out _ (Kp.refl _ _)).mono ?_; rintro e w1 ⟨⟨ao, n, cap, rfl⟩, k1⟩)
  go_ret
  exact body_none HX.out k1 H0.out
 | some ns =>
  obtain ⟨a, rfl⟩ := len1 (Dl.scan_some hsc).1 rfl
  have hnb := (Dl.scan_some hsc).2 a (by simp)
  have HC := oh (fun V (k : Kp w V none) => scan_yes pat_tool (by decide) (by decide) HSL.out hsc V (HEN.out V k))
  have HX : Hid (toolX ⟨ph, tools, sel, f, t, pl, at_, es, out⟩ s = some (match Dl.find tools a with | some d => .inl ⟨ph, tools, d, f, t, pl, at_, es, out⟩ | none => .inr 70)) := oh (by unfold toolX; rw [hsc])
  have hwf : (Lit.int .i64 a).wf = true := wf64 (by unfold Dl.NumB at hnb; omega) (by unfold Dl.NumB at hnb; omega)
  clear hsc hnb; go_enter Tryz.func210, Tryz.ntmps210
  go_upto_region 3 with (go_at_call 186; refine (HC.out _ (Kp.refl _ _)).mono ?_; rintro e w1 ⟨⟨ao, cap, rfl, hla, _⟩, k1⟩; have HLA := oh hla; have K1 := oh k1; clear hla k1)
  have HR1 := oh (H0.out.keep (K1.out.trans (Kp.refl _ none).drew))
  obtain ⟨eu, ov, ts, hts, hb, hr⟩ := H0.out.keep K1.out
  dsimp only at hts hb hr
  obtain ⟨D, nn, hmap, htl, hnn⟩ := hr.map
  have hrun : ∀ k, (Instr.lookup 114 (.map (some m)) (.int .i64 a) true).run Tryz.prog (w1.drewN k) = .ok (.tuple #[.int .i64 (tv D a), .bool (Dl.find tools a).isSome]) (w1.drewN k) := fun k => (hmap.keep (w' := w1.drewN k) rfl).look htl hwf
  have HTV : Hid (∀ d, Dl.find tools a = some d → tv D a = d) := oh fun d hd => tv_some htl hd
  have c1 : w1.cell? ⟨R, 1, none⟩ = some (.map (some m)) := hcell hb 1 rfl
  obtain ⟨g, off, rfl, hg, hcap, ca⟩ := one_at HLA.out
  obtain ⟨v, hv⟩ : ∃ v, tv D a = v := ⟨_, rfl⟩
  rw [hv] at HTV; simp only [hv] at hrun
  have HT := oh hts; have HB := oh hb; have HRR := oh hr; clear hmap htl hts hb hr hnn hv
  cases hf : Dl.find tools a with
  | none =>
   rw [hf] at HX; simp only [hf, Option.isSome_none] at hrun
   have HX2 : Hid (toolX ⟨ph, tools, sel, f, t, pl, at_, es, out⟩ s = some (.inr 70)) := oh HX.out
   clear hf HX HTV; go_quiet (fail)
   go_wp2_with (go_at_call 100; refine (need_no _ _).mono ?_; rintro e w' ⟨rfl, rfl⟩)
   exact ⟨rfl, body_inr HX2.out (HRR.out.kl.drewN nq)⟩
  | some d =>
   rw [hf] at HX; simp only [hf, Option.isSome_some] at hrun
   have hvd := HTV.out d hf
   subst hvd; have HX2 : Hid (toolX ⟨ph, tools, sel, f, t, pl, at_, es, out⟩ s = some (.inl ⟨ph, tools, v, f, t, pl, at_, es, out⟩)) := oh HX.out
   clear hf HX HTV; go_quiet (fail)
   have HB2 : Hid ((w1.drewN nq).heap[R]? = some (.cells (RC ph m ⟨ph, tools, sel, f, t, pl, at_, es, out⟩ eu ov) 117 (0, 0))) := oh HB.out
   have HRR2 := oh (HRR.out.keep ((Kp.refl w1 none).drewN nq))
   generalize w1.drewN nq = Y at *
   have f2 := fz HB2.out 2
   have c2 : Y.cell? ⟨R, 2, none⟩ = some (.int .i64 sel) := hcell HB2.out 2 rfl
   clear hrun c1 ca; go_wp2_with (go_at_call 100; refine (need_yes _ _).mono ?_; rintro e w' ⟨rfl, rfl⟩)
   go_ret
   have hb2 : (Y.setCell ⟨R, 2, none⟩ (.int .i64 v)).heap[R]? = some (.cells (RC ph m ⟨ph, tools, v, f, t, pl, at_, es, out⟩ eu ov) 117 (0, 0)) := heap_set HB2.out
   exact body_inl HX2.out ⟨eu, ov, ts, HT.out, hb2, HRR2.out.set ((Kp.refl _ (some R)).set _) hb2⟩
theorem slot_any (W : World) (L : Option Nat) (R m : Nat) (st : Dl.St) (s : List UInt8) (w : World) (h : RdAt W L R m st w) (he : Env w) (hs : s.length ≤ 1000000000) (hp : st.ph = 3) : Calls Tryz.prog 211 #[.pointer (some ⟨R, 0, none⟩), str s] w (BodyIs W L R m st w (slotX st s)) := by
 have HEN : Hid (∀ V, Kp w V none → Env V) := oh fun V k => he.kp0 k
 have H0 := oh h; have HSL := oh hs; clear h hs he; obtain ⟨ph, tools, sel, f, t, pl, at_, es, out⟩ := st
 dsimp only at hp
 subst hp
 cases hsc : Dl.scan [71, 48, 48, 88] [[89], []] s with
 | none =>
  have HC := oh (fun V (k : Kp w V none) => scan_not pat_slot (by decide) (by decide) HSL.out hsc V (HEN.out V k))
  have HX : Hid (slotX ⟨3, tools, sel, f, t, pl, at_, es, out⟩ s = none) := oh (by unfold slotX; rw [hsc])
  clear hsc; go_enter Tryz.func211, Tryz.ntmps211
  go_wp2_with (go_at_call 186; refine (HC.out _ (Kp.refl _ _)).mono ?_; rintro e w1 ⟨⟨ao, n, cap, rfl⟩, k1⟩)
  go_ret
  exact body_none HX.out k1 H0.out
 | some ns =>
  obtain ⟨a, b, rfl⟩ := len2 (Dl.scan_some hsc).1 rfl
  have HC := oh (fun V (k : Kp w V none) => scan_yes pat_slot (by decide) (by decide) HSL.out hsc V (HEN.out V k))
  have HX : Hid (slotX ⟨3, tools, sel, f, t, pl, at_, es, out⟩ s = some (if Dl.ready ⟨3, tools, sel, f, t, pl, at_, es, out⟩ = 0 then .inl ⟨4, tools, sel, f, t, pl, ⟨a, b⟩, es, out⟩ else .inr (Dl.ready ⟨3, tools, sel, f, t, pl, at_, es, out⟩))) := oh (by unfold slotX; rw [hsc])
  have HRD := oh (fun V (k : Kp w V none) => ready_any W L R m ⟨3, tools, sel, f, t, pl, at_, es, out⟩ V (H0.out.keep k))
  obtain ⟨x, hx⟩ : ∃ x, Dl.ready ⟨3, tools, sel, f, t, pl, at_, es, out⟩ = x := ⟨_, rfl⟩
  rw [hx] at HX HRD; have hRw : R < w.heap.size := by obtain ⟨_, _, _, _, hb, _⟩ := H0.out; exact lt_of_block hb
  clear hsc hx
  by_cases hz : x = 0
  ·subst hz; have HRD2 : Hid (∀ V, Kp w V none → Calls Tryz.prog 236 #[.pointer (some ⟨R, 0, none⟩)] V fun E w' => E = .returned (.tuple #[]) ∧ V = w') := oh fun V k => (HRD.out V k).mono fun E w' h => ⟨h.1.trans (if_pos rfl), h.2⟩
   have HX2 : Hid (slotX ⟨3, tools, sel, f, t, pl, at_, es, out⟩ s = some (.inl ⟨4, tools, sel, f, t, pl, ⟨a, b⟩, es, out⟩)) := oh HX.out
   clear HX HRD; go_enter Tryz.func211, Tryz.ntmps211
   go_upto_region 4 with (first | (go_at_call 186; refine (HC.out _ (Kp.refl _ _)).mono ?_; rintro e w1 ⟨⟨ao, cap, rfl, hla, hfr⟩, k1⟩; have HLA := oh hla; have HFR := oh hfr; have K1 := oh k1; clear hla k1 hfr) | (go_at_call 236; refine (HRD2.out _ K1.out).mono ?_; rintro e w2 ⟨rfl, rfl⟩))
   obtain ⟨g, off, rfl, hg, hcap, ca, cb⟩ := two_at HLA.out
   have HGR : Hid (g ≠ R) := oh (by have := HFR.out _ rfl; dsimp only at this; omega)
   obtain ⟨eu, ov, ts, hts, hb, hr⟩ := H0.out.keep (K1.out.trans (Kp.refl _ none).drew)
   dsimp only at hts hb hr
   have HT := oh hts; have HB := oh hb; have HRR := oh hr; have HCA : Hid (∀ V, Kp w1 V (some R) → V.cell? ⟨g, off, none⟩ = some (.int .i64 a) ∧ V.cell? ⟨g, off + 1, none⟩ = some (.int .i64 b)) := oh fun V k => ⟨(k.cell_far ⟨g, off, none⟩ hg (fun e => HGR.out (Option.some.inj e))).trans ca, (k.cell_far ⟨g, off + 1, none⟩ hg (fun e => HGR.out (Option.some.inj e))).trans cb⟩
   have KD : Hid (Kp w1 w1.drew (some R)) := oh (Kp.refl _ _).drew
   clear hts hb hr ca cb; refine wp_region_last (fun V => V.cell? ⟨g, off, none⟩ = some (.int .i64 a) ∧ V.cell? ⟨g, off + 1, none⟩ = some (.int .i64 b)) 14 (by kernel_rfl) ?_ (fun eh => ?_)
   ·exact HCA.out _ KD.out
   generalize w1.drew = Y at *
   refine tjL 0 rfl ?_; refine tjL 1 rfl ?_; refine tjL 2 rfl ?_; refine tjL 3 rfl ?_; refine tjL 4 rfl ?_; refine tjL 5 rfl ?_; refine tjL 6 rfl ?_; refine tjL 7 rfl ?_; refine tjL 8 rfl ?_
   have f9 := fz HB.out 9
   have f10 := fz HB.out 10
   have c9 : Y.cell? ⟨R, 9, none⟩ = some (.int .i64 at_.x) := hcell HB.out 9 rfl
   have c10 : Y.cell? ⟨R, 10, none⟩ = some (.int .i64 at_.y) := hcell HB.out 10 rfl
   refine rdL 9 rfl (fun K hK => ?_); have gS := eh; clear eh; go_simp; try go_wp2_with fail
   refine hK.out _ _ (gS) (fun eh => ?_)
   clear hK K gS; try simp only [Act.put, sm]
   refine rdL 10 rfl (fun K hK => ?_); have gS := eh; clear eh; go_simp; try go_wp2_with fail
   refine hK.out _ _ (gS) (fun eh => ?_)
   clear hK K gS; try simp only [Act.put, sm]
   refine rdL 11 rfl (fun K hK => ?_); clear eh; go_simp; try go_wp2_with fail
   have hb1 : ((Y.setCell ⟨R, 9, none⟩ (.int .i64 a)).setCell ⟨R, 10, none⟩ (.int .i64 b)).heap[R]? = some (.cells (RC 3 m ⟨3, tools, sel, f, t, pl, ⟨a, b⟩, es, out⟩ eu ov) 117 (0, 0)) := heap_set (heap_set HB.out)
   have ks : Kp Y ((Y.setCell ⟨R, 9, none⟩ (.int .i64 a)).setCell ⟨R, 10, none⟩ (.int .i64 b)) (some R) := ((Kp.refl Y (some R)).set _).set _
   have HRR2 := oh (HRR.out.set ks hb1); have HB2 := oh hb1; have KS := oh (KD.out.trans ks)
   refine hK.out _ _ (HCA.out _ KS.out) (fun eh => ?_)
   clear hK K f9 f10 c9 c10 hb1 ks HRR HB KD
   generalize (Y.setCell ⟨R, 9, none⟩ (.int .i64 a)).setCell ⟨R, 10, none⟩ (.int .i64 b) = Z at *
   try simp only [Act.put, sm]
   refine rdL 12 rfl (fun K hK => ?_); have gS := eh; clear eh; go_simp; try go_wp2_with fail
   refine hK.out _ _ (gS) (fun eh => ?_)
   clear hK K gS; try simp only [Act.put, sm]
   refine rdL 13 rfl (fun K hK => ?_); have gS := eh; clear eh; go_simp; try go_wp2_with fail
   refine hK.out _ _ (gS) (fun eh => ?_)
   clear hK K gS; try simp only [Act.put, sm]
   refine rdE rfl (fun K hK => ?_)
   have f0 := fz HB2.out 0
   have c0 : Z.cell? ⟨R, 0, none⟩ = some (fnV 3) := hcell HB2.out 0 rfl
   clear eh; go_simp; try go_wp2_with fail
   refine hK.out _ _ ?_
   clear hK K f0 c0; try simp only [Act.put, sm]
   refine wpAnyL_done (by kernel_rfl) ?_ _
   have hb3 : (Z.setCell ⟨R, 0, none⟩ (fnV 4)).heap[R]? = some (.cells (RC 4 m ⟨4, tools, sel, f, t, pl, ⟨a, b⟩, es, out⟩ eu ov) 117 (0, 0)) := heap_set HB2.out
   have HRD9 : Hid (RdAt W L R m ⟨4, tools, sel, f, t, pl, ⟨a, b⟩, es, out⟩ (Z.setCell ⟨R, 0, none⟩ (fnV 4))) := oh ⟨eu, ov, ts, HT.out, hb3, HRR2.out.set ((Kp.refl _ (some R)).set _) hb3⟩
   clear hb3; go_wp2_with fail
   go_ret
   exact body_inl HX2.out HRD9.out
  ·have HZ := oh hz; have HRD2 : Hid (∀ V, Kp w V none → Calls Tryz.prog 236 #[.pointer (some ⟨R, 0, none⟩)] V fun E w' => E = .panicked (bad x) ∧ V = w') := oh fun V k => (HRD.out V k).mono fun E w' h => ⟨h.1.trans (if_neg HZ.out), h.2⟩
   have HX2 : Hid (slotX ⟨3, tools, sel, f, t, pl, at_, es, out⟩ s = some (.inr x)) := oh (by rw [HX.out, if_neg HZ.out])
   clear HX HRD hz; go_enter Tryz.func211, Tryz.ntmps211
   go_wp2_with (first | (go_at_call 186; refine (HC.out _ (Kp.refl _ _)).mono ?_; rintro e w1 ⟨⟨ao, cap, rfl, hla, hfr⟩, k1⟩; have K1 := oh k1; clear hla k1 hfr) | (go_at_call 236; refine (HRD2.out _ K1.out).mono ?_; rintro e w2 ⟨rfl, rfl⟩))
   exact ⟨rfl, body_inr HX2.out (H0.out.kl.trans K1.out)⟩
theorem span_any (W : World) (L : Option Nat) (R m : Nat) (st : Dl.St) (s : List UInt8) (w : World) (h : RdAt W L R m st w) (he : Env w) (hs : s.length ≤ 1000000000) : Calls Tryz.prog 209 #[.pointer (some ⟨R, 0, none⟩), str s] w (BodyIs W L R m st w (spanX st s)) := by
 have HEN : Hid (∀ V, Kp w V none → Env V) := oh fun V k => he.kp0 k
 have H0 := oh h; have HSL := oh hs; clear h hs he; obtain ⟨ph, tools, sel, f, t, pl, at_, es, out⟩ := st
 cases hsc : Dl.scan Dl.kSpan [[32], 32 :: Dl.kPlated] s with
 | some ns =>
  obtain ⟨a, b, rfl⟩ := len2 (Dl.scan_some hsc).1 rfl
  have HC := oh (fun V (k : Kp w V none) => scan_yes pat_plated (by decide) (by decide) HSL.out hsc V (HEN.out V k))
  have HX : Hid (spanX ⟨ph, tools, sel, f, t, pl, at_, es, out⟩ s = some (if Dl.spanR a b then .inl ⟨ph, tools, sel, a, b, true, at_, es, out⟩ else .inr 72)) := oh (by unfold spanX Dl.spanOf; rw [hsc])
  clear hsc
  ·go_enter Tryz.func209, Tryz.ntmps209
   go_upto_region 7 with (go_at_call 186; refine (HC.out _ (Kp.refl _ _)).mono ?_; rintro e wl ⟨⟨ao, cap, rfl, hla, _⟩, k1⟩; have HLA := oh hla; have KW := oh k1; clear hla k1)
   obtain ⟨g, off, rfl, hg, hcap, ca, cb⟩ := two_at HLA.out
   obtain ⟨eu, ov, ts, hts, hb, hr⟩ := H0.out.keep (KW.out.trans (Kp.refl _ none).drew)
   dsimp only at hts hb hr
   have HT := oh hts; have HB := oh hb; have HRR := oh hr; have HCA : Hid (∀ V, Kp wl V none → V.cell? ⟨g, off, none⟩ = some (.int .i64 a) ∧ V.cell? ⟨g, off + 1, none⟩ = some (.int .i64 b)) := oh fun V k => ⟨(k.below.cell (p := ⟨g, off, none⟩) hg).trans ca, (k.below.cell (p := ⟨g, off + 1, none⟩) hg).trans cb⟩
   clear hts hb hr ca cb; refine wp_region_last (fun V => V.cell? ⟨g, off, none⟩ = some (.int .i64 a) ∧ V.cell? ⟨g, off + 1, none⟩ = some (.int .i64 b)) 9 (by kernel_rfl) ?_ (fun eh => ?_)
   ·exact HCA.out _ (Kp.refl _ none).drew
   have KD : Hid (Kp wl wl.drew none) := oh (Kp.refl _ _).drew
   generalize wl.drew = Y at *
   refine tjL 0 rfl ?_; refine tjL 1 rfl ?_; refine tjL 2 rfl ?_; refine tjL 3 rfl ?_; refine tjL 4 rfl ?_; refine tjL 5 rfl ?_; refine tjL 6 rfl ?_; refine tjL 7 rfl ?_; refine rdL 8 rfl (fun K hK => ?_); clear eh; go_simp; try go_wp2_with fail
   refine hK.out _ _ (HCA.out _ (KD.out.alloc _)) (fun eh => ?_)
   clear hK K; try simp only [Act.put, sm]
   have HE := oh (heap_alloc_new Y (.cells #[.int .i64 0, .slice none 0 0, .int .i64 0, .int .i64 0, .int .i64 0, .bool false] 52))
   refine rdE rfl (fun K hK => ?_)
   have f0 := fz HE.out 0
   have f1 := fz HE.out 1
   have f2 := fz HE.out 2
   have f3 := fz HE.out 3
   have f4 := fz HE.out 4
   have f5 := fz HE.out 5
   have c0 := hcell HE.out 0 rfl
   have c1 := hcell HE.out 1 rfl
   have c2 := hcell HE.out 2 rfl
   have c3 := hcell HE.out 3 rfl
   have c4 := hcell HE.out 4 rfl
   have c5 := hcell HE.out 5 rfl
   clear eh; go_simp; try go_wp2_with fail
   refine hK.out _ _ ?_
   clear hK K f0 f1 f2 f3 f4 f5 c0 c1 c2 c3 c4 c5; try simp only [Act.put, sm]
   refine wpAnyL_done (by kernel_rfl) ?_ _
   have kx := (Kp.refl Y none).alloc (.cells #[.int .i64 0, .slice none 0 0, .int .i64 0, .int .i64 a, .int .i64 b, .bool true] 52)
   have HBX := oh (heap_alloc_new Y (.cells #[.int .i64 0, .slice none 0 0, .int .i64 0, .int .i64 a, .int .i64 b, .bool true] 52))
   have HB1 := oh (blk HB.out kx); have HR1 := oh (HRR.out.keep kx); have KX := oh kx; clear kx HE HB HRR
   generalize Y.alloc (.cells #[.int .i64 0, .slice none 0 0, .int .i64 0, .int .i64 a, .int .i64 b, .bool true] 52) = X at *
   obtain ⟨B, hB⟩ : ∃ x, Y.heap.size = x := ⟨_, rfl⟩
   rw [hB] at HBX ⊢; clear hB; have x0 := hcell HBX.out 0 rfl
   have x1 := hcell HBX.out 1 rfl
   have x2 := hcell HBX.out 2 rfl
   have x3 := hcell HBX.out 3 rfl
   have x4 := hcell HBX.out 4 rfl
   have x5 := hcell HBX.out 5 rfl
   have HRT := oh (fun V => right_any 0 0 a b true none 0 0 V)
   obtain ⟨sr, hsr⟩ : ∃ x, Dl.spanR a b = x := ⟨_, rfl⟩
   rw [hsr] at HRT HX; clear hsr
   cases sr with
   | false =>
    have HX2 : Hid (spanX ⟨ph, tools, sel, f, t, pl, at_, es, out⟩ s = some (.inr 72)) := oh HX.out
    go_wp2_with (first | (go_at_call 94; refine (HRT.out _).mono ?_; rintro e w5 ⟨rfl, k5⟩; have K5 := oh k5; clear k5) | (go_at_call 100; refine (need_no _ _).mono ?_; rintro e w6 ⟨rfl, rfl⟩))
    exact ⟨rfl, body_inr HX2.out (HR1.out.kl.trans K5.out)⟩
   | true =>
    have HX2 : Hid (spanX ⟨ph, tools, sel, f, t, pl, at_, es, out⟩ s = some (.inl ⟨ph, tools, sel, a, b, true, at_, es, out⟩)) := oh HX.out
    go_upto_region 9 with (first | (go_at_call 94; refine (HRT.out _).mono ?_; rintro e w5 ⟨rfl, k5⟩; have K5 := oh k5; clear k5) | (go_at_call 100; refine (need_yes _ _).mono ?_; rintro e w6 ⟨rfl, rfl⟩))
    have HB2 := oh (blk HB1.out K5.out); have HR2 := oh (HR1.out.keep K5.out); have HBX2 := oh (blk HBX.out K5.out); clear x0 x1 x2 x3 x4 x5
    have x0 := hcell HBX2.out 0 rfl
    have x1 := hcell HBX2.out 1 rfl
    have x2 := hcell HBX2.out 2 rfl
    have x3 := hcell HBX2.out 3 rfl
    have x4 := hcell HBX2.out 4 rfl
    have x5 := hcell HBX2.out 5 rfl
    have y3 : w5.cell? ⟨R, 3, none⟩ = some (.int .i64 0) := hcell HB2.out 3 rfl
    have y4 : w5.cell? ⟨R, 4, none⟩ = some (.slice none 0 0) := hcell HB2.out 4 rfl
    have y5 : w5.cell? ⟨R, 5, none⟩ = some (.int .i64 0) := hcell HB2.out 5 rfl
    have y6 : w5.cell? ⟨R, 6, none⟩ = some (.int .i64 f) := hcell HB2.out 6 rfl
    have y7 : w5.cell? ⟨R, 7, none⟩ = some (.int .i64 t) := hcell HB2.out 7 rfl
    have y8 : w5.cell? ⟨R, 8, none⟩ = some (.bool pl) := hcell HB2.out 8 rfl
    have f3 := fz HB2.out 3
    have f4 := fz HB2.out 4
    have f5 := fz HB2.out 5
    have f6 := fz HB2.out 6
    have f7 := fz HB2.out 7
    have f8 := fz HB2.out 8
    go_wp2_with fail
    go_ret
    have hs6 := hole_set HB2.out a b true
    exact body_inl HX2.out ⟨eu, ov, ts, HT.out, hs6.1, HR2.out.set hs6.2 hs6.1⟩
 | none =>
  have HC := oh (fun V (k : Kp w V none) => scan_not pat_plated (by decide) (by decide) HSL.out hsc V (HEN.out V k))
  cases hsd : Dl.scan Dl.kSpan [[32], 32 :: Dl.kPlain] s with
  | none =>
   have HC2 := oh (fun V (k : Kp w V none) => scan_not pat_plain (by decide) (by decide) HSL.out hsd V (HEN.out V k))
   have HX : Hid (spanX ⟨ph, tools, sel, f, t, pl, at_, es, out⟩ s = none) := oh (by unfold spanX Dl.spanOf; rw [hsc, hsd])
   clear hsc hsd; go_enter Tryz.func209, Tryz.ntmps209
   go_wp2_with fail
   refine (HC.out _ (Kp.refl _ _)).mono ?_
   rintro e w1 ⟨⟨ao, n, cap, rfl⟩, k1⟩; have K1 := oh k1; clear k1; go_wp2_with fail
   refine (HC2.out _ K1.out).mono ?_
   rintro e w2 ⟨⟨ao2, n2, cap2, rfl⟩, k2⟩; have K2 := oh (K1.out.trans k2); clear k2; go_wp2_with fail
   go_ret
   exact body_none HX.out K2.out H0.out
  | some ns =>
   obtain ⟨a, b, rfl⟩ := len2 (Dl.scan_some hsd).1 rfl
   have HC2 := oh (fun V (k : Kp w V none) => scan_yes pat_plain (by decide) (by decide) HSL.out hsd V (HEN.out V k))
   have HX : Hid (spanX ⟨ph, tools, sel, f, t, pl, at_, es, out⟩ s = some (if Dl.spanR a b then .inl ⟨ph, tools, sel, a, b, false, at_, es, out⟩ else .inr 72)) := oh (by unfold spanX Dl.spanOf; rw [hsc, hsd])
   clear hsc hsd; go_enter Tryz.func209, Tryz.ntmps209
   go_wp2_with fail
   refine (HC.out _ (Kp.refl _ _)).mono ?_
   rintro e w1 ⟨⟨ao0, n0, cap0, rfl⟩, k1⟩; have K1 := oh k1; clear k1; go_wp2_with fail
   refine (HC2.out _ K1.out).mono ?_
   rintro e wl ⟨⟨ao, cap, rfl, hla, _⟩, k2⟩; have HLA := oh hla; have KW := oh (K1.out.trans k2); clear k2 hla; go_upto_region 7 with fail
   obtain ⟨g, off, rfl, hg, hcap, ca, cb⟩ := two_at HLA.out
   obtain ⟨eu, ov, ts, hts, hb, hr⟩ := H0.out.keep (KW.out.trans (Kp.refl _ none).drew)
   dsimp only at hts hb hr
   have HT := oh hts; have HB := oh hb; have HRR := oh hr; have HCA : Hid (∀ V, Kp wl V none → V.cell? ⟨g, off, none⟩ = some (.int .i64 a) ∧ V.cell? ⟨g, off + 1, none⟩ = some (.int .i64 b)) := oh fun V k => ⟨(k.below.cell (p := ⟨g, off, none⟩) hg).trans ca, (k.below.cell (p := ⟨g, off + 1, none⟩) hg).trans cb⟩
   clear hts hb hr ca cb; refine wp_region_last (fun V => V.cell? ⟨g, off, none⟩ = some (.int .i64 a) ∧ V.cell? ⟨g, off + 1, none⟩ = some (.int .i64 b)) 9 (by kernel_rfl) ?_ (fun eh => ?_)
   ·exact HCA.out _ (Kp.refl _ none).drew
   have KD : Hid (Kp wl wl.drew none) := oh (Kp.refl _ _).drew
   generalize wl.drew = Y at *
   refine tjL 0 rfl ?_; refine tjL 1 rfl ?_; refine tjL 2 rfl ?_; refine tjL 3 rfl ?_; refine tjL 4 rfl ?_; refine tjL 5 rfl ?_; refine tjL 6 rfl ?_; refine tjL 7 rfl ?_; refine rdL 8 rfl (fun K hK => ?_); clear eh; go_simp; try go_wp2_with fail
   refine hK.out _ _ (HCA.out _ (KD.out.alloc _)) (fun eh => ?_)
   clear hK K; try simp only [Act.put, sm]
   have HE := oh (heap_alloc_new Y (.cells #[.int .i64 0, .slice none 0 0, .int .i64 0, .int .i64 0, .int .i64 0, .bool false] 52))
   refine rdE rfl (fun K hK => ?_)
   have f0 := fz HE.out 0
   have f1 := fz HE.out 1
   have f2 := fz HE.out 2
   have f3 := fz HE.out 3
   have f4 := fz HE.out 4
   have f5 := fz HE.out 5
   have c0 := hcell HE.out 0 rfl
   have c1 := hcell HE.out 1 rfl
   have c2 := hcell HE.out 2 rfl
   have c3 := hcell HE.out 3 rfl
   have c4 := hcell HE.out 4 rfl
   have c5 := hcell HE.out 5 rfl
   clear eh; go_simp; try go_wp2_with fail
   refine hK.out _ _ ?_
   clear hK K f0 f1 f2 f3 f4 f5 c0 c1 c2 c3 c4 c5; try simp only [Act.put, sm]
   refine wpAnyL_done (by kernel_rfl) ?_ _
   have kx := (Kp.refl Y none).alloc (.cells #[.int .i64 0, .slice none 0 0, .int .i64 0, .int .i64 a, .int .i64 b, .bool false] 52)
   have HBX := oh (heap_alloc_new Y (.cells #[.int .i64 0, .slice none 0 0, .int .i64 0, .int .i64 a, .int .i64 b, .bool false] 52))
   have HB1 := oh (blk HB.out kx); have HR1 := oh (HRR.out.keep kx); have KX := oh kx; clear kx HE HB HRR
   generalize Y.alloc (.cells #[.int .i64 0, .slice none 0 0, .int .i64 0, .int .i64 a, .int .i64 b, .bool false] 52) = X at *
   obtain ⟨B, hB⟩ : ∃ x, Y.heap.size = x := ⟨_, rfl⟩
   rw [hB] at HBX ⊢; clear hB; have x0 := hcell HBX.out 0 rfl
   have x1 := hcell HBX.out 1 rfl
   have x2 := hcell HBX.out 2 rfl
   have x3 := hcell HBX.out 3 rfl
   have x4 := hcell HBX.out 4 rfl
   have x5 := hcell HBX.out 5 rfl
   have HRT := oh (fun V => right_any 0 0 a b false none 0 0 V)
   obtain ⟨sr, hsr⟩ : ∃ x, Dl.spanR a b = x := ⟨_, rfl⟩
   rw [hsr] at HRT HX; clear hsr
   cases sr with
   | false =>
    have HX2 : Hid (spanX ⟨ph, tools, sel, f, t, pl, at_, es, out⟩ s = some (.inr 72)) := oh HX.out
    go_wp2_with (first | (go_at_call 94; refine (HRT.out _).mono ?_; rintro e w5 ⟨rfl, k5⟩; have K5 := oh k5; clear k5) | (go_at_call 100; refine (need_no _ _).mono ?_; rintro e w6 ⟨rfl, rfl⟩))
    exact ⟨rfl, body_inr HX2.out (HR1.out.kl.trans K5.out)⟩
   | true =>
    have HX2 : Hid (spanX ⟨ph, tools, sel, f, t, pl, at_, es, out⟩ s = some (.inl ⟨ph, tools, sel, a, b, false, at_, es, out⟩)) := oh HX.out
    go_upto_region 9 with (first | (go_at_call 94; refine (HRT.out _).mono ?_; rintro e w5 ⟨rfl, k5⟩; have K5 := oh k5; clear k5) | (go_at_call 100; refine (need_yes _ _).mono ?_; rintro e w6 ⟨rfl, rfl⟩))
    have HB2 := oh (blk HB1.out K5.out); have HR2 := oh (HR1.out.keep K5.out); have HBX2 := oh (blk HBX.out K5.out); clear x0 x1 x2 x3 x4 x5
    have x0 := hcell HBX2.out 0 rfl
    have x1 := hcell HBX2.out 1 rfl
    have x2 := hcell HBX2.out 2 rfl
    have x3 := hcell HBX2.out 3 rfl
    have x4 := hcell HBX2.out 4 rfl
    have x5 := hcell HBX2.out 5 rfl
    have y3 : w5.cell? ⟨R, 3, none⟩ = some (.int .i64 0) := hcell HB2.out 3 rfl
    have y4 : w5.cell? ⟨R, 4, none⟩ = some (.slice none 0 0) := hcell HB2.out 4 rfl
    have y5 : w5.cell? ⟨R, 5, none⟩ = some (.int .i64 0) := hcell HB2.out 5 rfl
    have y6 : w5.cell? ⟨R, 6, none⟩ = some (.int .i64 f) := hcell HB2.out 6 rfl
    have y7 : w5.cell? ⟨R, 7, none⟩ = some (.int .i64 t) := hcell HB2.out 7 rfl
    have y8 : w5.cell? ⟨R, 8, none⟩ = some (.bool pl) := hcell HB2.out 8 rfl
    have f3 := fz HB2.out 3
    have f4 := fz HB2.out 4
    have f5 := fz HB2.out 5
    have f6 := fz HB2.out 6
    have f7 := fz HB2.out 7
    have f8 := fz HB2.out 8
    go_wp2_with fail
    go_ret
    have hs6 := hole_set HB2.out a b false
    exact body_inl HX2.out ⟨eu, ov, ts, HT.out, hs6.1, HR2.out.set hs6.2 hs6.1⟩
theorem edge_own {W X : World} (cs : Array Value) (h : cs.size = 7) (hW : W.heap.size ≤ X.heap.size) : (X.alloc (.cells cs 123)).ownsRow W.heap.size 123 7 (.slice (some ⟨X.heap.size, 0, none⟩) 1 1) 1 cs.toList :=
 ⟨by simpa using h, .inr ⟨X.heap.size, 1, cs, rfl, hW, heap_alloc_new X _, Nat.le_refl _, by decide, by simpa using h, by rw [List.take_of_length_le (by simp [h])]⟩⟩
theorem point_any (W : World) (L : Option Nat) (R m : Nat) (st : Dl.St) (s : List UInt8) (w : World) (h : RdAt W L R m st w) (he : Env w) (hs : s.length ≤ 1000000000) (hp : st.ph = 3) (hsl : 0 ≤ st.sel ∧ st.sel ≤ 8388608) (hol : st.out.length ≤ 1000000) : Calls Tryz.prog 212 #[.pointer (some ⟨R, 0, none⟩), str s] w (BodyIs W L R m st w (pointX st s)) := by
 have HEN : Hid (∀ V, Kp w V none → Env V) := oh fun V k => he.kp0 k
 have H0 := oh h; have HSL := oh hs; clear h hs he; obtain ⟨ph, tools, sel, f, t, pl, at_, es, out⟩ := st
 dsimp only at hp hsl hol
 subst hp
 cases hsc : Dl.scan [88] [[89], []] s with
 | none =>
  have HC := oh (fun V (k : Kp w V none) => scan_not pat_point (by decide) (by decide) HSL.out hsc V (HEN.out V k))
  have HX : Hid (pointX ⟨3, tools, sel, f, t, pl, at_, es, out⟩ s = none) := oh (by unfold pointX; rw [hsc])
  clear hsc; go_enter Tryz.func212, Tryz.ntmps212
  go_wp2_with (go_at_call 186; refine (HC.out _ (Kp.refl _ _)).mono ?_; rintro e w1 ⟨⟨ao, n, cap, rfl⟩, k1⟩)
  go_ret
  exact body_none HX.out k1 H0.out
 | some ns =>
  obtain ⟨a, b, rfl⟩ := len2 (Dl.scan_some hsc).1 rfl
  have HC := oh (fun V (k : Kp w V none) => scan_yes pat_point (by decide) (by decide) HSL.out hsc V (HEN.out V k))
  have HX : Hid (pointX ⟨3, tools, sel, f, t, pl, at_, es, out⟩ s = some (if Dl.ready ⟨3, tools, sel, f, t, pl, at_, es, out⟩ = 0 then Dl.put ⟨3, tools, sel, f, t, pl, at_, es, out⟩ [(⟨1, ⟨a, b⟩, ⟨a, b⟩, ⟨0, 0⟩⟩ : Pl.Ed)] else .inr (Dl.ready ⟨3, tools, sel, f, t, pl, at_, es, out⟩))) := oh (by unfold pointX; rw [hsc])
  have HRD := oh (fun V (k : Kp w V none) => ready_any W L R m ⟨3, tools, sel, f, t, pl, at_, es, out⟩ V (H0.out.keep k))
  obtain ⟨x, hx⟩ : ∃ x, Dl.ready ⟨3, tools, sel, f, t, pl, at_, es, out⟩ = x := ⟨_, rfl⟩
  rw [hx] at HX HRD; clear hsc hx
  by_cases hz : x = 0
  ·subst hz; have HRD2 : Hid (∀ V, Kp w V none → Calls Tryz.prog 236 #[.pointer (some ⟨R, 0, none⟩)] V fun E w' => E = .returned (.tuple #[]) ∧ V = w') := oh fun V k => (HRD.out V k).mono fun E w' h => ⟨h.1.trans (if_pos rfl), h.2⟩
   have HX2 : Hid (pointX ⟨3, tools, sel, f, t, pl, at_, es, out⟩ s = some (Dl.put ⟨3, tools, sel, f, t, pl, at_, es, out⟩ [(⟨1, ⟨a, b⟩, ⟨a, b⟩, ⟨0, 0⟩⟩ : Pl.Ed)])) := oh HX.out
   clear HX HRD; go_enter Tryz.func212, Tryz.ntmps212
   go_upto_region 4 with (first | (go_at_call 186; refine (HC.out _ (Kp.refl _ _)).mono ?_; rintro e wl ⟨⟨ao, cap, rfl, hla, _⟩, k1⟩; have HLA := oh hla; have K1 := oh k1; clear hla k1) | (go_at_call 236; refine (HRD2.out _ K1.out).mono ?_; rintro e w2 ⟨rfl, rfl⟩))
   obtain ⟨g, off, rfl, hg, hcap, ca, cb⟩ := two_at HLA.out
   have HCA : Hid (∀ V, Kp wl V none → V.cell? ⟨g, off, none⟩ = some (.int .i64 a) ∧ V.cell? ⟨g, off + 1, none⟩ = some (.int .i64 b)) := oh fun V k => ⟨(k.below.cell (p := ⟨g, off, none⟩) hg).trans ca, (k.below.cell (p := ⟨g, off + 1, none⟩) hg).trans cb⟩
   clear ca cb; refine wp_region_last (fun V => V.cell? ⟨g, off, none⟩ = some (.int .i64 a) ∧ V.cell? ⟨g, off + 1, none⟩ = some (.int .i64 b)) 8 (by kernel_rfl) ?_ (fun eh => ?_)
   ·exact HCA.out _ (Kp.refl _ none).drew
   have KD : Hid (Kp wl wl.drew none) := oh (Kp.refl _ _).drew
   have KY := oh (K1.out.trans KD.out)
   generalize wl.drew = Y at *
   refine tjL 0 rfl ?_; refine tjL 1 rfl ?_; refine tjL 2 rfl ?_; refine tjL 3 rfl ?_; refine tjL 4 rfl ?_; refine tjL 5 rfl ?_; refine tjL 6 rfl ?_; refine rdL 7 rfl (fun K hK => ?_); clear eh; go_simp; try go_wp2_with fail
   refine hK.out _ _ (HCA.out _ (KD.out.alloc _)) (fun eh => ?_)
   clear hK K; try simp only [Act.put, sm]
   have HE := oh (heap_alloc_new Y (.cells #[.int .i64 0, .int .i64 0] 42))
   refine rdE rfl (fun K hK => ?_)
   have f0 := fz HE.out 0
   have f1 := fz HE.out 1
   have c0 := hcell HE.out 0 rfl
   have c1 := hcell HE.out 1 rfl
   clear eh; go_simp; try go_wp2_with fail
   refine hK.out _ _ ?_
   clear hK K f0 f1 c0 c1; try simp only [Act.put, sm]
   refine wpAnyL_done (by kernel_rfl) ?_ _
   have HBX := oh (heap_alloc_new Y (.cells #[.int .i64 a, .int .i64 b] 42))
   have KX := oh (KY.out.trans ((Kp.refl Y none).alloc (.cells #[.int .i64 a, .int .i64 b] 42)))
   clear HE KY KD
   generalize Y.alloc (.cells #[.int .i64 a, .int .i64 b] 42) = X at *
   obtain ⟨B, hB⟩ : ∃ x, Y.heap.size = x := ⟨_, rfl⟩
   rw [hB] at HBX ⊢; clear hB; have x0 := hcell HBX.out 0 rfl
   have x1 := hcell HBX.out 1 rfl
   obtain ⟨eu, ov, ts, hts, hb, hr⟩ := H0.out.keep (KX.out.trans ((Kp.refl X none).alloc (.cells #[.int .i64 1, .int .i64 a, .int .i64 b, .int .i64 a, .int .i64 b, .int .i64 0, .int .i64 0] 123)))
   dsimp only at hts hb hr
   have hlt : ts.length ≤ 1000000 := by have := congrArg List.length hts; rw [List.length_map] at this; omega
   have hXW : W.heap.size ≤ X.heap.size := (H0.out.kp.trans KX.out).size
   have HEO := oh (edge_own (W := W) (X := X) #[.int .i64 1, .int .i64 a, .int .i64 b, .int .i64 a, .int .i64 b, .int .i64 0, .int .i64 0] rfl hXW)
   have hdis : (Value.slice (some ⟨X.heap.size, 0, none⟩) 1 1).ownBlock = none ∨ (Value.slice (some ⟨X.heap.size, 0, none⟩) 1 1).ownBlock ≠ eu.ownBlock := by
    obtain ⟨eu0, ov0, ts0, _, hb0, hr0⟩ := H0.out.keep KX.out
    dsimp only at hb0 hr0
    have e1 := (blk hb0 ((Kp.refl X none).alloc (.cells #[.int .i64 1, .int .i64 a, .int .i64 b, .int .i64 a, .int .i64 b, .int .i64 0, .int .i64 0] 123))).symm.trans hb
    have e2 : eu0 = eu := by
     injection e1 with e1; injection e1 with e1
     have := congrArg (fun c => c[11]?) e1
     simpa [RC] using this
    refine .inr fun e => ?_
    have := (hr0.eo.lt X.heap.size (by rw [e2, ← e]; rfl)).2
    omega
   have HP := oh (put_any W L R m (fnV 3) eu eu ov (decide (3 = 6)) sel f t pl at_.x at_.y tools es ts [(⟨1, ⟨a, b⟩, ⟨a, b⟩, ⟨0, 0⟩⟩ : Pl.Ed)] 1 rfl (some ⟨X.heap.size, 0, none⟩) 1 _ hb hr HEO.out hdis hsl hlt)
   have HT := oh hts; clear hts hb hr hlt hXW hdis; obtain ⟨c, hc⟩ : ∃ c, Pl.chk ⟨1, [(⟨1, ⟨a, b⟩, ⟨a, b⟩, ⟨0, 0⟩⟩ : Pl.Ed)], sel / 2⟩ = c := ⟨_, rfl⟩
   rw [hc] at HP; have HPX : Hid (Dl.put ⟨3, tools, sel, f, t, pl, at_, es, out⟩ [(⟨1, ⟨a, b⟩, ⟨a, b⟩, ⟨0, 0⟩⟩ : Pl.Ed)] = if c = 0 then .inl ⟨3, tools, sel, f, t, pl, at_, es, out ++ [⟨⟨1, [(⟨1, ⟨a, b⟩, ⟨a, b⟩, ⟨0, 0⟩⟩ : Pl.Ed)], sel / 2⟩, f, t, pl⟩]⟩ else .inr c) := oh (by unfold Dl.put; dsimp only; rw [hc])
   clear hc
   by_cases hcz : c = 0
   ·subst hcz; have HX3 : Hid (pointX ⟨3, tools, sel, f, t, pl, at_, es, out⟩ s = some (.inl ⟨3, tools, sel, f, t, pl, at_, es, out ++ [⟨⟨1, [(⟨1, ⟨a, b⟩, ⟨a, b⟩, ⟨0, 0⟩⟩ : Pl.Ed)], sel / 2⟩, f, t, pl⟩]⟩)) := oh (by rw [HX2.out, HPX.out]; rfl)
    go_wp2_with (go_at_call 238; refine HP.out.mono ?_; rintro e w7 hput; have HPU : Hid (e = .returned (.tuple #[]) ∧ _) := oh (by unfold PutIs at hput; rw [if_pos rfl] at hput; exact hput); obtain ⟨rfl, hpu⟩ := HPU.out; have HPV := oh hpu; clear hput hpu HPU)
    go_ret; obtain ⟨ov7, hb7, hr7⟩ := HPV.out
    exact body_inl HX3.out ⟨eu, ov7, _, by rw [List.map_append, HT.out]; rfl, hb7, hr7⟩
   ·have HX3 : Hid (pointX ⟨3, tools, sel, f, t, pl, at_, es, out⟩ s = some (.inr c)) := oh (by rw [HX2.out, HPX.out, if_neg hcz])
    have HCZ := oh hcz; clear hcz; go_wp2_with (go_at_call 238; refine HP.out.mono ?_; rintro e w7 hput; have HPU : Hid (e = .panicked (bad c) ∧ _) := oh (by unfold PutIs at hput; rw [if_neg HCZ.out] at hput; exact hput); obtain ⟨rfl, hpu⟩ := HPU.out; have HPV := oh hpu; clear hput hpu HPU)
    exact ⟨rfl, body_inr HX3.out HPV.out⟩
  ·have HZ := oh hz; have HRD2 : Hid (∀ V, Kp w V none → Calls Tryz.prog 236 #[.pointer (some ⟨R, 0, none⟩)] V fun E w' => E = .panicked (bad x) ∧ V = w') := oh fun V k => (HRD.out V k).mono fun E w' h => ⟨h.1.trans (if_neg HZ.out), h.2⟩
   have HX2 : Hid (pointX ⟨3, tools, sel, f, t, pl, at_, es, out⟩ s = some (.inr x)) := oh (by rw [HX.out, if_neg HZ.out])
   clear HX HRD hz; go_enter Tryz.func212, Tryz.ntmps212
   go_wp2_with (first | (go_at_call 186; refine (HC.out _ (Kp.refl _ _)).mono ?_; rintro e w1 ⟨⟨ao, cap, rfl, hla, hfr⟩, k1⟩; have K1 := oh k1; clear hla k1 hfr) | (go_at_call 236; refine (HRD2.out _ K1.out).mono ?_; rintro e w2 ⟨rfl, rfl⟩))
   exact ⟨rfl, body_inr HX2.out (H0.out.kl.trans K1.out)⟩
end Go.Proofs.YtljjbdbgedmadaaGreatDoor
