/- The reference's reader of a line. Conditions: a line of at most 10^9 bytes; at most 10^6 tools, edges and holes; a right state.
  The reference's Read. Condition: a text of at most 10^9 bytes.
  Both readers compared (same), given the reference's Read. Condition: a text of at most 10^9 bytes. -/
import Derived.Test.YtljjbdbgedmadaaGreatDoorGk
import Derived.Test.YtljjbdbgedmadaaGreatDoorRw
import Derived.Test.YtljjbdbgedmadaaGreatDoorSn
import Derived.Test.YtljjbdbgedmadaaGreatDoorGa
set_option maxHeartbeats 8000000
set_option maxRecDepth 100000
namespace Go.Proofs.YtljjbdbgedmadaaGreatDoor
open Go.RowKit Go.Lib
theorem rf_open {W : World} {R : Nat} {x : Dl.St ⊕ Int} {k : Nat} {vs : Array Value} {w : World} (h : Calls Tryz.prog k vs w (RfIs W R x)) : Calls Tryz.prog k vs w fun E w' => ∃ e : Int, E = .returned (I6 e) ∧ RfIs W R x (.returned (I6 e)) w' := h.mono fun E w' hh => by
 cases x with
 | inl u => exact ⟨0, hh.1, rfl, hh.2⟩
 | inr e => exact ⟨e, hh.1, rfl, hh.2⟩
theorem span_not {W : World} {R : Nat} {st : Dl.St} {s : List UInt8} {w : World} {k : Nat} {vs : Array Value} (hso : Dl.spanOf s = none) (h : Calls Tryz.prog k vs w (SpanRIs W R st s w)) : Calls Tryz.prog k vs w fun E w' => E = .returned (.tuple #[I6 0, .bool false]) ∧ Kp w w' none := h.mono fun E w' hh => by
 unfold SpanRIs at hh; rw [hso] at hh; exact hh
theorem rline_6 (W : World) (R : Nat) (st : Dl.St) (s : List UInt8) (n : Int) (w : World) (h : RfAt W R st w) (hp : st.ph = 6) : Calls Tryz.prog 92 #[.pointer (some ⟨R, 0, none⟩), I6 n, str s] w (RfIs W R (Dl.step st s)) := by
 obtain ⟨ph, tools, sel, f, t, pl, at_, es, out⟩ := st
 dsimp only at hp
 subst hp; have H0 := oh h; obtain ⟨tv0, eu0, ov0, ts0, hts0, hb0, hr0⟩ := h
 have c14 : w.cell? ⟨R, 14, none⟩ = some (.bool true) := hcell hb0 14 rfl
 have c0 : w.cell? ⟨R, 0, none⟩ = some (.bool true) := hcell hb0 0 rfl
 have c9 : w.cell? ⟨R, 9, none⟩ = some (I6 0) := hcell hb0 9 rfl
 have HRW : Hid (R < w.heap.size) := oh (lt_of_block hb0)
 clear hts0 hb0 hr0; have HX : Hid (Dl.step ⟨6, tools, sel, f, t, pl, at_, es, out⟩ s = .inr 4) := oh rfl
 go_enter Tryz.func92, Tryz.ntmps92
 go_wp2_with fail
 go_ret
 exact rf_inr HX.out H0.out.kp
theorem rline_0 (W : World) (R : Nat) (st : Dl.St) (s : List UInt8) (w : World) (h : RfAt W R st w) (hp : st.ph = 0) : Calls Tryz.prog 92 #[.pointer (some ⟨R, 0, none⟩), I6 1, str s] w (RfIs W R (Dl.step st s)) := by
 have HC := oh (rf_open (rhead_1 W R st s w h hp))
 obtain ⟨ph, tools, sel, f, t, pl, at_, es, out⟩ := st
 dsimp only at hp
 subst hp; have H0 := oh h; obtain ⟨tv0, eu0, ov0, ts0, hts0, hb0, hr0⟩ := h
 have c14 : w.cell? ⟨R, 14, none⟩ = some (.bool false) := hcell hb0 14 rfl
 have c0 : w.cell? ⟨R, 0, none⟩ = some (.bool false) := hcell hb0 0 rfl
 have c9 : w.cell? ⟨R, 9, none⟩ = some (I6 0) := hcell hb0 9 rfl
 have HRW : Hid (R < w.heap.size) := oh (lt_of_block hb0)
 clear hts0 hb0 hr0; go_enter Tryz.func92, Tryz.ntmps92
 go_wp2_with (go_at_call 137; refine HC.out.mono ?_; rintro E w2 ⟨x, rfl, hE⟩; have HE := oh hE; clear hE)
 go_ret
 exact HE.out
theorem rline_1 (W : World) (R : Nat) (st : Dl.St) (s : List UInt8) (w : World) (h : RfAt W R st w) (hp : st.ph = 1) : Calls Tryz.prog 92 #[.pointer (some ⟨R, 0, none⟩), I6 2, str s] w (RfIs W R (Dl.step st s)) := by
 have HC := oh (rf_open (rhead_2 W R st s w h hp))
 obtain ⟨ph, tools, sel, f, t, pl, at_, es, out⟩ := st
 dsimp only at hp
 subst hp; have H0 := oh h; obtain ⟨tv0, eu0, ov0, ts0, hts0, hb0, hr0⟩ := h
 have c14 : w.cell? ⟨R, 14, none⟩ = some (.bool false) := hcell hb0 14 rfl
 have c0 : w.cell? ⟨R, 0, none⟩ = some (.bool false) := hcell hb0 0 rfl
 have c9 : w.cell? ⟨R, 9, none⟩ = some (I6 0) := hcell hb0 9 rfl
 have HRW : Hid (R < w.heap.size) := oh (lt_of_block hb0)
 clear hts0 hb0 hr0; go_enter Tryz.func92, Tryz.ntmps92
 go_wp2_with (go_at_call 137; refine HC.out.mono ?_; rintro E w2 ⟨x, rfl, hE⟩; have HE := oh hE; clear hE)
 go_ret
 exact HE.out
theorem rline_2 (W : World) (R : Nat) (st : Dl.St) (s : List UInt8) (n : Int) (hn : 3 ≤ n) (w : World) (h : RfAt W R st w) (hp : st.ph = 2) (hs : s.length ≤ 1000000000) (htl : st.tools.length ≤ 1000000) (hok : ∀ p ∈ st.tools, 2 ≤ p.2) : Calls Tryz.prog 92 #[.pointer (some ⟨R, 0, none⟩), I6 n, str s] w (RfIs W R (Dl.step st s)) := by
 have hsp : Dl.step st s = Dl.head st s := by unfold Dl.step; rw [hp]; rfl
 rw [hsp]; have HC := oh (rf_open (rhead_any W R st s n hn w h hs hp htl hok))
 obtain ⟨ph, tools, sel, f, t, pl, at_, es, out⟩ := st
 dsimp only at hp
 subst hp; have H0 := oh h; obtain ⟨tv0, eu0, ov0, ts0, hts0, hb0, hr0⟩ := h
 have c14 : w.cell? ⟨R, 14, none⟩ = some (.bool false) := hcell hb0 14 rfl
 have c0 : w.cell? ⟨R, 0, none⟩ = some (.bool false) := hcell hb0 0 rfl
 have c9 : w.cell? ⟨R, 9, none⟩ = some (I6 0) := hcell hb0 9 rfl
 have HRW : Hid (R < w.heap.size) := oh (lt_of_block hb0)
 clear hts0 hb0 hr0; go_enter Tryz.func92, Tryz.ntmps92
 go_wp2_with (go_at_call 137; refine HC.out.mono ?_; rintro E w2 ⟨x, rfl, hE⟩; have HE := oh hE; clear hE)
 go_ret
 exact HE.out
theorem rline_4 (W : World) (R : Nat) (st : Dl.St) (s : List UInt8) (n : Int) (w : World) (h : RfAt W R st w) (hp : st.ph = 4) : Calls Tryz.prog 92 #[.pointer (some ⟨R, 0, none⟩), I6 n, str s] w (RfIs W R (Dl.step st s)) := by
 have HC := oh (rf_open (rslot_4 W R st s w h hp))
 obtain ⟨ph, tools, sel, f, t, pl, at_, es, out⟩ := st
 dsimp only at hp
 subst hp; have H0 := oh h; obtain ⟨tv0, eu0, ov0, ts0, hts0, hb0, hr0⟩ := h
 have c14 : w.cell? ⟨R, 14, none⟩ = some (.bool false) := hcell hb0 14 rfl
 have c0 : w.cell? ⟨R, 0, none⟩ = some (.bool true) := hcell hb0 0 rfl
 have c9 : w.cell? ⟨R, 9, none⟩ = some (I6 1) := hcell hb0 9 rfl
 have HRW : Hid (R < w.heap.size) := oh (lt_of_block hb0)
 clear hts0 hb0 hr0; go_enter Tryz.func92, Tryz.ntmps92
 go_wp2_with (go_at_call 138; refine HC.out.mono ?_; rintro E w2 ⟨x, rfl, hE⟩; have HE := oh hE; clear hE)
 go_ret
 exact HE.out
theorem rslot_5 (W : World) (R : Nat) (st : Dl.St) (s : List UInt8) (w : World) (h : RfAt W R st w) (hp : st.ph = 5) (hs : s.length ≤ 1000000000) (hsl : 0 ≤ st.sel ∧ st.sel ≤ 8388608) (hol : st.out.length ≤ 1000000) (hel : st.es.length ≤ 1000000) (hat : Dl.NumB st.at_.x ∧ Dl.NumB st.at_.y) : Calls Tryz.prog 138 #[.pointer (some ⟨R, 0, none⟩), str s] w (RfIs W R (Dl.routed st s)) := by
 by_cases hk : s = [77, 49, 54]
 ·exact rslot_m16 W R st s hk w h hp hsl hol
 ·exact rslot_edge W R st s hk w h hp hs hel hat
theorem rline_5 (W : World) (R : Nat) (st : Dl.St) (s : List UInt8) (n : Int) (w : World) (h : RfAt W R st w) (hp : st.ph = 5) (hs : s.length ≤ 1000000000) (hsl : 0 ≤ st.sel ∧ st.sel ≤ 8388608) (hol : st.out.length ≤ 1000000) (hel : st.es.length ≤ 1000000) (hat : Dl.NumB st.at_.x ∧ Dl.NumB st.at_.y) : Calls Tryz.prog 92 #[.pointer (some ⟨R, 0, none⟩), I6 n, str s] w (RfIs W R (Dl.step st s)) := by
 have hsp : Dl.step st s = Dl.routed st s := by unfold Dl.step; rw [hp]; rfl
 rw [hsp]; have HC := oh (rf_open (rslot_5 W R st s w h hp hs hsl hol hel hat))
 obtain ⟨ph, tools, sel, f, t, pl, at_, es, out⟩ := st
 dsimp only at hp
 subst hp; have H0 := oh h; obtain ⟨tv0, eu0, ov0, ts0, hts0, hb0, hr0⟩ := h
 have c14 : w.cell? ⟨R, 14, none⟩ = some (.bool false) := hcell hb0 14 rfl
 have c0 : w.cell? ⟨R, 0, none⟩ = some (.bool true) := hcell hb0 0 rfl
 have c9 : w.cell? ⟨R, 9, none⟩ = some (I6 2) := hcell hb0 9 rfl
 have HRW : Hid (R < w.heap.size) := oh (lt_of_block hb0)
 clear hts0 hb0 hr0; go_enter Tryz.func92, Tryz.ntmps92
 go_wp2_with (go_at_call 138; refine HC.out.mono ?_; rintro E w2 ⟨x, rfl, hE⟩; have HE := oh hE; clear hE)
 go_ret
 exact HE.out
theorem rbody_end (W : World) (R : Nat) (st : Dl.St) (s : List UInt8) (n : Int) (w : World) (h : RfAt W R st w) (hp : st.ph = 3) (hk : s = [77, 51, 48]) : Calls Tryz.prog 92 #[.pointer (some ⟨R, 0, none⟩), I6 n, str s] w (RfIs W R (Dl.body st s)) := by
 obtain ⟨ph, tools, sel, f, t, pl, at_, es, out⟩ := st
 dsimp only at hp
 subst hp; have H0 := oh h; obtain ⟨tv0, eu0, ov0, ts0, hts0, hb0, hr0⟩ := h
 have c14 : w.cell? ⟨R, 14, none⟩ = some (.bool false) := hcell hb0 14 rfl
 have c0 : w.cell? ⟨R, 0, none⟩ = some (.bool true) := hcell hb0 0 rfl
 have c9 : w.cell? ⟨R, 9, none⟩ = some (I6 0) := hcell hb0 9 rfl
 have HRW : Hid (R < w.heap.size) := oh (lt_of_block hb0)
 clear hts0 hb0 hr0; have HX : Hid (Dl.body ⟨3, tools, sel, f, t, pl, at_, es, out⟩ s = .inl ⟨6, tools, sel, f, t, pl, at_, es, out⟩) := oh (by subst hk; rfl)
 have e1 : (s == [77, 51, 48]) = true := by simpa using hk
 clear hk; obtain ⟨tv, eu, ov, ts, hts, hb, hr⟩ := H0.out
 have f14 : w.frozen? ⟨R, 14, none⟩ = false := fz hb 14
 have HB := oh hb; have HR := oh hr; have HT := oh hts; clear hb hr hts; go_enter Tryz.func92, Tryz.ntmps92
 go_wp2_with fail
 go_ret
 have hb2 : (w.setCell ⟨R, 14, none⟩ (.bool true)).heap[R]? = some (.cells (RFC ⟨6, tools, sel, f, t, pl, at_, es, out⟩ tv eu ov) 181 (0, 0)) := heap_set HB.out
 exact rf_inl HX.out ⟨tv, eu, ov, ts, HT.out, hb2, HR.out.set ((Kp.refl w (some R)).set _) hb2⟩
theorem rbody_span (W : World) (R : Nat) (st : Dl.St) (s : List UInt8) (n : Int) (w : World) (h : RfAt W R st w) (hp : st.ph = 3) (hk : s ≠ [77, 51, 48]) (hs : s.length ≤ 1000000000) {a b : Int} {p : Bool} (hso : Dl.spanOf s = some (a, b, p)) : Calls Tryz.prog 92 #[.pointer (some ⟨R, 0, none⟩), I6 n, str s] w (RfIs W R (Dl.body st s)) := by
 have HSP := oh (rspan139_any W R st s w h hs); obtain ⟨ph, tools, sel, f, t, pl, at_, es, out⟩ := st
 dsimp only at hp
 subst hp; have H0 := oh h; obtain ⟨tv0, eu0, ov0, ts0, hts0, hb0, hr0⟩ := h
 have c14 : w.cell? ⟨R, 14, none⟩ = some (.bool false) := hcell hb0 14 rfl
 have c0 : w.cell? ⟨R, 0, none⟩ = some (.bool true) := hcell hb0 0 rfl
 have c9 : w.cell? ⟨R, 9, none⟩ = some (I6 0) := hcell hb0 9 rfl
 have HRW : Hid (R < w.heap.size) := oh (lt_of_block hb0)
 clear hts0 hb0 hr0; have HX : Hid (Dl.body ⟨3, tools, sel, f, t, pl, at_, es, out⟩ s = if Dl.spanR a b then .inl ⟨3, tools, sel, a, b, p, at_, es, out⟩ else .inr 72) := oh (by unfold Dl.body; rw [if_neg (show ¬ s = Dl.kM30 from hk), hso])
 have e1 : (s == [77, 51, 48]) = false := by simpa using hk
 have HSO := oh hso; clear hk hso
 by_cases hr : Dl.spanR a b = true
 ·have HSP2 : Hid (Calls Tryz.prog 139 #[.pointer (some ⟨R, 0, none⟩), str s] w fun E w' => E = .returned (.tuple #[I6 0, .bool true]) ∧ RfAt W R ⟨3, tools, sel, a, b, p, at_, es, out⟩ w') := oh (HSP.out.mono fun E w' hh => by unfold SpanRIs at hh; rw [HSO.out] at hh; dsimp only at hh; rw [if_pos hr] at hh; exact hh)
  have HX2 : Hid (Dl.body ⟨3, tools, sel, f, t, pl, at_, es, out⟩ s = .inl ⟨3, tools, sel, a, b, p, at_, es, out⟩) := oh (by rw [HX.out, if_pos hr])
  clear hr HSP HX; go_enter Tryz.func92, Tryz.ntmps92
  go_wp2_with (go_at_call 139; refine HSP2.out.mono ?_; rintro E w2 ⟨rfl, hE⟩; have HE := oh hE; clear hE)
  go_ret
  exact rf_inl HX2.out HE.out
 ·have HSP2 : Hid (Calls Tryz.prog 139 #[.pointer (some ⟨R, 0, none⟩), str s] w fun E w' => E = .returned (.tuple #[I6 72, .bool true]) ∧ Kp W w' none) := oh (HSP.out.mono fun E w' hh => by unfold SpanRIs at hh; rw [HSO.out] at hh; dsimp only at hh; rw [if_neg hr] at hh; exact hh)
  have HX2 : Hid (Dl.body ⟨3, tools, sel, f, t, pl, at_, es, out⟩ s = .inr 72) := oh (by rw [HX.out, if_neg hr])
  clear hr HSP HX; go_enter Tryz.func92, Tryz.ntmps92
  go_wp2_with (go_at_call 139; refine HSP2.out.mono ?_; rintro E w2 ⟨rfl, hE⟩; have HE := oh hE; clear hE)
  go_ret
  exact rf_inr HX2.out HE.out
theorem rbody_tool (W : World) (R : Nat) (st : Dl.St) (s : List UInt8) (n : Int) (w : World) (h : RfAt W R st w) (hp : st.ph = 3) (hk : s ≠ [77, 51, 48]) (hs : s.length ≤ 1000000000) (hso : Dl.spanOf s = none) {a : Int} (h0 : Dl.scan [84] [[]] s = some [a]) (htl : st.tools.length ≤ 1000000) (hok : ∀ p ∈ st.tools, 2 ≤ p.2) : Calls Tryz.prog 92 #[.pointer (some ⟨R, 0, none⟩), I6 n, str s] w (RfIs W R (Dl.body st s)) := by
 have HSP := oh (span_not hso (rspan139_any W R st s w h hs))
 have HSL := oh hs; have HFN := oh (fun V (k : Kp w V none) => rfind_any W R st a V (h.keep k) htl)
 have HFD : Hid (∀ n d, Dl.find st.tools n = some d → 2 ≤ d) := oh fun n d hf => hok _ (Dl.find_mem hf)
 obtain ⟨ph, tools, sel, f, t, pl, at_, es, out⟩ := st
 dsimp only at hp
 subst hp; have H0 := oh h; obtain ⟨tv0, eu0, ov0, ts0, hts0, hb0, hr0⟩ := h
 have c14 : w.cell? ⟨R, 14, none⟩ = some (.bool false) := hcell hb0 14 rfl
 have c0 : w.cell? ⟨R, 0, none⟩ = some (.bool true) := hcell hb0 0 rfl
 have c9 : w.cell? ⟨R, 9, none⟩ = some (I6 0) := hcell hb0 9 rfl
 have HRW : Hid (R < w.heap.size) := oh (lt_of_block hb0)
 clear hts0 hb0 hr0
 have HX : Hid (Dl.body ⟨3, tools, sel, f, t, pl, at_, es, out⟩ s = match Dl.find tools a with | some d => .inl ⟨3, tools, d, f, t, pl, at_, es, out⟩ | none => .inr 70) := oh (by unfold Dl.body; rw [if_neg (show ¬ s = Dl.kM30 from hk), hso]; dsimp only; rw [h0]; dsimp only; cases Dl.find tools a <;> rfl)
 have HC0 := oh (fun V => nums_yes rpat_tool HSL.out h0 V)
 have e1 : (s == [77, 51, 48]) = false := by simpa using hk
 dsimp only at HFN HFD
 clear hk hso h0
 cases hf : Dl.find tools a with
 | none =>
  rw [hf] at HX HFN; have HFN2 : Hid (∀ V, Kp w V none → Calls Tryz.prog 141 #[.pointer (some ⟨R, 0, none⟩), I6 a] V fun E w' => E = .returned (I6 0) ∧ V = w') := oh HFN.out
  clear hf HFN; go_enter Tryz.func92, Tryz.ntmps92
  go_wp2_with fail
  refine HSP.out.mono ?_
  rintro E w1 ⟨rfl, k1⟩; have K1 := oh k1; clear k1; go_wp2_with fail
  refine (HC0.out _).mono ?_
  rintro E wl ⟨⟨ao, cap, rfl, hla, hab⟩, k⟩; have HLA := oh hla; have HAB := oh hab; have KB := K1; have KW := oh (K1.out.trans k); clear hla hab k
  obtain ⟨g, off, rfl, hg, hcap, ca⟩ := one_at HLA.out
  go_wp2_with (go_at_call 141; refine (HFN2.out _ KW.out).mono ?_; rintro E w3 ⟨rfl, rfl⟩)
  go_ret
  exact rf_inr HX.out (H0.out.kp.trans KW.out)
 | some d =>
  have hd := HFD.out a d hf
  rw [hf] at HX HFN; have hd0 : (d == 0) = false := by simp; omega
  have HFN2 : Hid (∀ V, Kp w V none → Calls Tryz.prog 141 #[.pointer (some ⟨R, 0, none⟩), I6 a] V fun E w' => E = .returned (I6 d) ∧ V = w') := oh HFN.out
  clear hf HFN hd; go_enter Tryz.func92, Tryz.ntmps92
  go_wp2_with fail
  refine HSP.out.mono ?_
  rintro E w1 ⟨rfl, k1⟩; have K1 := oh k1; clear k1; go_wp2_with fail
  refine (HC0.out _).mono ?_
  rintro E wl ⟨⟨ao, cap, rfl, hla, hab⟩, k⟩; have HLA := oh hla; have HAB := oh hab; have KB := K1; have KW := oh (K1.out.trans k); clear hla hab k
  obtain ⟨g, off, rfl, hg, hcap, ca⟩ := one_at HLA.out
  obtain ⟨tv, eu, ov, ts, hts, hb, hr⟩ := H0.out.keep KW.out
  dsimp only at hts hb hr
  have f2 : wl.frozen? ⟨R, 2, none⟩ = false := fz hb 2
  have c2 : wl.cell? ⟨R, 2, none⟩ = some (I6 sel) := hcell hb 2 rfl
  have HB := oh hb; have HR := oh hr; have HT := oh hts; clear hb hr hts; go_upto_region 17 with (go_at_call 141; refine (HFN2.out _ KW.out).mono ?_; rintro E w3 ⟨rfl, hw3⟩; subst hw3)
  go_wp2_with (go_at_call 141; refine (HFN2.out _ KW.out).mono ?_; rintro E w4 ⟨rfl, hw4⟩; subst hw4)
  go_ret
  have hb2 : (wl.setCell ⟨R, 2, none⟩ (I6 d)).heap[R]? = some (.cells (RFC ⟨3, tools, d, f, t, pl, at_, es, out⟩ tv eu ov) 181 (0, 0)) := heap_set HB.out
  exact rf_inl HX.out ⟨tv, eu, ov, ts, HT.out, hb2, HR.out.set ((Kp.refl wl (some R)).set _) hb2⟩
theorem rbody_slot (W : World) (R : Nat) (st : Dl.St) (s : List UInt8) (n : Int) (w : World) (h : RfAt W R st w) (hp : st.ph = 3) (hk : s ≠ [77, 51, 48]) (hs : s.length ≤ 1000000000) (hso : Dl.spanOf s = none) (h0 : Dl.scan [84] [[]] s = none) {a b : Int} (h1 : Dl.scan [71, 48, 48, 88] [[89], []] s = some [a, b]) (hsf : 0 ≤ st.sel ∧ 0 ≤ st.f) : Calls Tryz.prog 92 #[.pointer (some ⟨R, 0, none⟩), I6 n, str s] w (RfIs W R (Dl.body st s)) := by
 have HSP := oh (span_not hso (rspan139_any W R st s w h hs))
 have HSL := oh hs; obtain ⟨ph, tools, sel, f, t, pl, at_, es, out⟩ := st
 dsimp only at hp
 subst hp; have H0 := oh h; obtain ⟨tv0, eu0, ov0, ts0, hts0, hb0, hr0⟩ := h
 have c14 : w.cell? ⟨R, 14, none⟩ = some (.bool false) := hcell hb0 14 rfl
 have c0 : w.cell? ⟨R, 0, none⟩ = some (.bool true) := hcell hb0 0 rfl
 have c9 : w.cell? ⟨R, 9, none⟩ = some (I6 0) := hcell hb0 9 rfl
 have HRW : Hid (R < w.heap.size) := oh (lt_of_block hb0)
 clear hts0 hb0 hr0; dsimp only at hsf
 have HX : Hid (Dl.body ⟨3, tools, sel, f, t, pl, at_, es, out⟩ s = if Dl.ready ⟨3, tools, sel, f, t, pl, at_, es, out⟩ = 0 then .inl ⟨4, tools, sel, f, t, pl, ⟨a, b⟩, es, out⟩ else .inr (Dl.ready ⟨3, tools, sel, f, t, pl, at_, es, out⟩)) := oh (by unfold Dl.body; rw [if_neg (show ¬ s = Dl.kM30 from hk), hso]; dsimp only; rw [h0]; dsimp only; rw [h1])
 have HC0 := oh (fun V => nums_not rpat_tool HSL.out h0 V)
 have HC1 := oh (fun V => nums_yes rpat_slot HSL.out h1 V)
 have HRD := oh (fun V (hh : RfAt W R ⟨4, tools, sel, f, t, pl, ⟨a, b⟩, es, out⟩ V) => rready_any W R _ V hh hsf)
 have hrr : Dl.ready ⟨4, tools, sel, f, t, pl, ⟨a, b⟩, es, out⟩ = Dl.ready ⟨3, tools, sel, f, t, pl, at_, es, out⟩ := rfl
 rw [hrr] at HRD; obtain ⟨x, hx⟩ : ∃ x, Dl.ready ⟨3, tools, sel, f, t, pl, at_, es, out⟩ = x := ⟨_, rfl⟩
 rw [hx] at HX HRD; have e1 : (s == [77, 51, 48]) = false := by simpa using hk
 clear hk hso h0 h1 hsf hrr hx; go_enter Tryz.func92, Tryz.ntmps92
 go_wp2_with fail
 refine HSP.out.mono ?_
 rintro E w1 ⟨rfl, k1⟩; have K1 := oh k1; clear k1; go_wp2_with fail
 refine (HC0.out _).mono ?_
 rintro E v0 ⟨⟨ao0, n0, cap0, rfl⟩, k⟩; have L0 := oh (K1.out.trans k); clear k; go_wp2_with fail
 refine (HC1.out _).mono ?_
 rintro E wl ⟨⟨ao, cap, rfl, hla, hab⟩, k⟩; have HLA := oh hla; have HAB := oh hab; have KB := L0; have KW := oh (L0.out.trans k); clear hla hab k
 obtain ⟨g, off, rfl, hg, hcap, ca, cb⟩ := two_at HLA.out
 have HGR : Hid (g ≠ R) := oh (by have h1 := HAB.out _ rfl; have h2 := HRW.out; have h3 := KB.out.size; dsimp only at h1; omega)
 obtain ⟨tv, eu, ov, ts, hts, hb, hr⟩ := H0.out.keep KW.out
 dsimp only at hts hb hr
 have HT := oh hts; have HB := oh hb; have HRR := oh hr; have f9 : wl.frozen? ⟨R, 9, none⟩ = false := fz hb 9
 have c9' : wl.cell? ⟨R, 9, none⟩ = some (I6 0) := hcell hb 9 rfl
 have HCA : Hid (∀ V, Kp wl V (some R) → V.cell? ⟨g, off, none⟩ = some (I6 a) ∧ V.cell? ⟨g, off + 1, none⟩ = some (I6 b)) := oh fun V k => ⟨(k.cell_far ⟨g, off, none⟩ hg (fun e => HGR.out (Option.some.inj e))).trans ca, (k.cell_far ⟨g, off + 1, none⟩ hg (fun e => HGR.out (Option.some.inj e))).trans cb⟩
 clear hts hb hr ca cb; go_upto_region 22 with fail
 have hb1 : (wl.setCell ⟨R, 9, none⟩ (I6 1)).heap[R]? = some (.cells (RFC ⟨4, tools, sel, f, t, pl, at_, es, out⟩ tv eu ov) 181 (0, 0)) := heap_set HB.out
 have k1 : Kp wl (wl.setCell ⟨R, 9, none⟩ (I6 1)) (some R) := (Kp.refl _ _).set _
 have HR1 := oh ((HRR.out.set k1 hb1).keep (Kp.refl _ none).drew)
 have HB1 := oh (blk hb1 (Kp.refl _ none).drew)
 have KD : Hid (Kp wl (wl.setCell ⟨R, 9, none⟩ (I6 1)).drew (some R)) := oh k1.drew
 clear hb1 k1 f9 c9'; refine wp_region_last (fun V => V.cell? ⟨g, off, none⟩ = some (I6 a) ∧ V.cell? ⟨g, off + 1, none⟩ = some (I6 b)) 10 (by kernel_rfl) ?_ (fun eh => ?_)
 ·exact HCA.out _ KD.out
 generalize (wl.setCell ⟨R, 9, none⟩ (I6 1)).drew = Y at *
 refine tjL 0 rfl ?_; refine tjL 1 rfl ?_; refine tjL 2 rfl ?_; refine tjL 3 rfl ?_; refine tjL 4 rfl ?_; refine tjL 5 rfl ?_; refine tjL 6 rfl ?_; refine tjL 7 rfl ?_; refine rdL 8 rfl (fun K hK => ?_); have gS := eh; clear eh; go_simp; try go_wp2_with fail
 refine hK.out _ _ (gS) (fun eh => ?_)
 clear hK K gS; try simp only [Act.put, sm]
 refine rdL 9 rfl (fun K hK => ?_); have gS := eh; clear eh; go_simp; try go_wp2_with fail
 refine hK.out _ _ (gS) (fun eh => ?_)
 clear hK K gS; try simp only [Act.put, sm]
 refine rdE rfl (fun K hK => ?_)
 have f10 := fz HB1.out 10
 have f11 := fz HB1.out 11
 have c10 : Y.cell? ⟨R, 10, none⟩ = some (I6 at_.x) := hcell HB1.out 10 rfl
 have c11 : Y.cell? ⟨R, 11, none⟩ = some (I6 at_.y) := hcell HB1.out 11 rfl
 clear eh; go_simp; try go_wp2_with fail
 refine hK.out _ _ ?_
 clear hK K f10 f11 c10 c11; try simp only [Act.put, sm]
 refine wpAnyL_done (by kernel_rfl) ?_ _
 have hb2 : ((Y.setCell ⟨R, 10, none⟩ (I6 a)).setCell ⟨R, 11, none⟩ (I6 b)).heap[R]? = some (.cells (RFC ⟨4, tools, sel, f, t, pl, ⟨a, b⟩, es, out⟩ tv eu ov) 181 (0, 0)) := heap_set (heap_set HB1.out)
 have HAT : Hid (RfAt W R ⟨4, tools, sel, f, t, pl, ⟨a, b⟩, es, out⟩ ((Y.setCell ⟨R, 10, none⟩ (I6 a)).setCell ⟨R, 11, none⟩ (I6 b))) := oh ⟨tv, eu, ov, ts, HT.out, hb2, HR1.out.set (((Kp.refl Y (some R)).set _).set _) hb2⟩
 clear hb2
 generalize (Y.setCell ⟨R, 10, none⟩ (I6 a)).setCell ⟨R, 11, none⟩ (I6 b) = Z at *
 go_wp2_with (go_at_call 142; refine (HRD.out _ HAT.out).mono ?_; rintro E w9 ⟨rfl, rfl⟩)
 go_ret
 by_cases hz : x = 0
 ·subst hz; exact rf_inl HX.out HAT.out
 ·exact rf_inr (by rw [HX.out, if_neg hz]) HAT.out.kp
theorem rbody_point (W : World) (R : Nat) (st : Dl.St) (s : List UInt8) (n : Int) (w : World) (h : RfAt W R st w) (hp : st.ph = 3) (hk : s ≠ [77, 51, 48]) (hs : s.length ≤ 1000000000) (hso : Dl.spanOf s = none) (h0 : Dl.scan [84] [[]] s = none) (h1 : Dl.scan [71, 48, 48, 88] [[89], []] s = none) {a b : Int} (h2 : Dl.scan [88] [[89], []] s = some [a, b]) (hsl : 0 ≤ st.sel ∧ st.sel ≤ 8388608) (hsf : 0 ≤ st.f) (hol : st.out.length ≤ 1000000) : Calls Tryz.prog 92 #[.pointer (some ⟨R, 0, none⟩), I6 n, str s] w (RfIs W R (Dl.body st s)) := by
 have HSP := oh (span_not hso (rspan139_any W R st s w h hs))
 have HSL := oh hs; obtain ⟨ph, tools, sel, f, t, pl, at_, es, out⟩ := st
 dsimp only at hp
 subst hp; have H0 := oh h; obtain ⟨tv0, eu0, ov0, ts0, hts0, hb0, hr0⟩ := h
 have c14 : w.cell? ⟨R, 14, none⟩ = some (.bool false) := hcell hb0 14 rfl
 have c0 : w.cell? ⟨R, 0, none⟩ = some (.bool true) := hcell hb0 0 rfl
 have c9 : w.cell? ⟨R, 9, none⟩ = some (I6 0) := hcell hb0 9 rfl
 have HRW : Hid (R < w.heap.size) := oh (lt_of_block hb0)
 clear hts0 hb0 hr0; dsimp only at hsf hsl hol
 have HX : Hid (Dl.body ⟨3, tools, sel, f, t, pl, at_, es, out⟩ s = if Dl.ready ⟨3, tools, sel, f, t, pl, at_, es, out⟩ = 0 then Dl.put ⟨3, tools, sel, f, t, pl, at_, es, out⟩ [(⟨1, ⟨a, b⟩, ⟨a, b⟩, ⟨0, 0⟩⟩ : Pl.Ed)] else .inr (Dl.ready ⟨3, tools, sel, f, t, pl, at_, es, out⟩)) := oh (by unfold Dl.body; rw [if_neg (show ¬ s = Dl.kM30 from hk), hso]; dsimp only; rw [h0]; dsimp only; rw [h1]; dsimp only; rw [h2])
 have HC0 := oh (fun V => nums_not rpat_tool HSL.out h0 V)
 have HC1 := oh (fun V => nums_not rpat_slot HSL.out h1 V)
 have HC2 := oh (fun V => nums_yes rpat_point HSL.out h2 V)
 have HRD := oh (fun V (k : Kp w V none) => rready_any W R ⟨3, tools, sel, f, t, pl, at_, es, out⟩ V (H0.out.keep k) ⟨hsl.1, hsf⟩)
 obtain ⟨x, hx⟩ : ∃ x, Dl.ready ⟨3, tools, sel, f, t, pl, at_, es, out⟩ = x := ⟨_, rfl⟩
 rw [hx] at HX HRD; have e1 : (s == [77, 51, 48]) = false := by simpa using hk
 have HSE := oh hsl; have HOL := oh hol; clear hk hso h0 h1 h2 hsl hsf hol hx
 by_cases hz : x = 0
 ·subst hz; have HX2 : Hid (Dl.body ⟨3, tools, sel, f, t, pl, at_, es, out⟩ s = Dl.put ⟨3, tools, sel, f, t, pl, at_, es, out⟩ [(⟨1, ⟨a, b⟩, ⟨a, b⟩, ⟨0, 0⟩⟩ : Pl.Ed)]) := oh HX.out
  clear HX; go_enter Tryz.func92, Tryz.ntmps92
  go_wp2_with fail
  refine HSP.out.mono ?_
  rintro E w1 ⟨rfl, k1⟩; have K1 := oh k1; clear k1; go_wp2_with fail
  refine (HC0.out _).mono ?_
  rintro E v0 ⟨⟨ao0, n0, cap0, rfl⟩, k⟩; have L0 := oh (K1.out.trans k); clear k; go_wp2_with fail
  refine (HC1.out _).mono ?_
  rintro E v1 ⟨⟨ao1, n1, cap1, rfl⟩, k⟩; have L1 := oh (L0.out.trans k); clear k; go_wp2_with fail
  refine (HC2.out _).mono ?_
  rintro E wl ⟨⟨ao, cap, rfl, hla, hab⟩, k⟩; have HLA := oh hla; have HAB := oh hab; have KB := L1; have KW := oh (L1.out.trans k); clear hla hab k
  obtain ⟨g, off, rfl, hg, hcap, ca, cb⟩ := two_at HLA.out
  have HCA : Hid (∀ V, Kp wl V none → V.cell? ⟨g, off, none⟩ = some (I6 a) ∧ V.cell? ⟨g, off + 1, none⟩ = some (I6 b)) := oh fun V k => ⟨(k.below.cell (p := ⟨g, off, none⟩) hg).trans ca, (k.below.cell (p := ⟨g, off + 1, none⟩) hg).trans cb⟩
  clear ca cb; go_upto_region 30 with (go_at_call 142; refine (HRD.out _ KW.out).mono ?_; rintro E w9 ⟨rfl, rfl⟩)
  refine wp_region_last (fun V => V.cell? ⟨g, off, none⟩ = some (I6 a) ∧ V.cell? ⟨g, off + 1, none⟩ = some (I6 b)) 8 (by kernel_rfl) ?_ (fun eh => ?_)
  ·exact HCA.out _ (Kp.refl _ none).drew
  have KD : Hid (Kp wl wl.drew none) := oh (Kp.refl _ _).drew
  have KY := oh (KW.out.trans KD.out)
  generalize wl.drew = Y at *
  refine tjL 0 rfl ?_; refine tjL 1 rfl ?_; refine tjL 2 rfl ?_; refine tjL 3 rfl ?_; refine tjL 4 rfl ?_; refine tjL 5 rfl ?_; refine tjL 6 rfl ?_; refine rdL 7 rfl (fun K hK => ?_); clear eh; go_simp; try go_wp2_with fail
  refine hK.out _ _ (HCA.out _ (KD.out.alloc _)) (fun eh => ?_)
  clear hK K; try simp only [Act.put, sm]
  have HE := oh (heap_alloc_new Y (.cells #[I6 0, I6 0] 42))
  refine rdE rfl (fun K hK => ?_)
  have f0 := fz HE.out 0
  have f1 := fz HE.out 1
  have d0 := hcell HE.out 0 rfl
  have d1 := hcell HE.out 1 rfl
  clear eh; go_simp; try go_wp2_with fail
  refine hK.out _ _ ?_
  clear hK K f0 f1 d0 d1; try simp only [Act.put, sm]
  refine wpAnyL_done (by kernel_rfl) ?_ _
  have HBX := oh (heap_alloc_new Y (.cells #[I6 a, I6 b] 42))
  have KX := oh (KY.out.trans ((Kp.refl Y none).alloc (.cells #[I6 a, I6 b] 42)))
  clear HE KY KD
  generalize Y.alloc (.cells #[I6 a, I6 b] 42) = X at *
  obtain ⟨B, hB⟩ : ∃ x, Y.heap.size = x := ⟨_, rfl⟩
  rw [hB] at HBX ⊢; clear hB; have x0 := hcell HBX.out 0 rfl
  have x1 := hcell HBX.out 1 rfl
  obtain ⟨tv, eu, ov, ts, hts, hb, hr⟩ := H0.out.keep (KX.out.trans ((Kp.refl X none).alloc (.cells #[I6 1, I6 a, I6 b, I6 a, I6 b, I6 0, I6 0] 123)))
  dsimp only at hts hb hr
  have hlt : ts.length ≤ 1000000 := by have := congrArg List.length hts; rw [List.length_map] at this; have := HOL.out; omega
  have hXW : W.heap.size ≤ X.heap.size := (H0.out.kp.trans KX.out).size
  have HEO := oh (edge_own (W := W) (X := X) #[I6 1, I6 a, I6 b, I6 a, I6 b, I6 0, I6 0] rfl hXW)
  have hdis : (Value.slice (some ⟨X.heap.size, 0, none⟩) 1 1).ownBlock = none ∨ (Value.slice (some ⟨X.heap.size, 0, none⟩) 1 1).ownBlock ≠ eu.ownBlock := by
   obtain ⟨tv0, eu0, ov0, ts0, _, hb0, hr0⟩ := H0.out.keep KX.out
   dsimp only at hb0 hr0
   have e1 := (blk hb0 ((Kp.refl X none).alloc (.cells #[I6 1, I6 a, I6 b, I6 a, I6 b, I6 0, I6 0] 123))).symm.trans hb
   have e2 : eu0 = eu := by
    injection e1 with e1; injection e1 with e1
    have := congrArg (fun c => c[12]?) e1
    simpa [RFC] using this
   refine .inr fun e => ?_
   have := (hr0.eo.lt X.heap.size (by rw [e2, ← e]; rfl)).2
   omega
  have HP := oh (rput_any W R tv eu eu ov true false 0 sel f t pl at_.x at_.y tools es ts [(⟨1, ⟨a, b⟩, ⟨a, b⟩, ⟨0, 0⟩⟩ : Pl.Ed)] 1 rfl (some ⟨X.heap.size, 0, none⟩) 1 _ hb hr HEO.out hdis HSE.out hlt)
  have HT := oh hts; clear hts hb hr hlt hXW hdis; obtain ⟨c, hc⟩ : ∃ c, Pl.chk ⟨1, [(⟨1, ⟨a, b⟩, ⟨a, b⟩, ⟨0, 0⟩⟩ : Pl.Ed)], sel / 2⟩ = c := ⟨_, rfl⟩
  rw [hc] at HP; have HPX : Hid (Dl.put ⟨3, tools, sel, f, t, pl, at_, es, out⟩ [(⟨1, ⟨a, b⟩, ⟨a, b⟩, ⟨0, 0⟩⟩ : Pl.Ed)] = if c = 0 then .inl ⟨3, tools, sel, f, t, pl, at_, es, out ++ [⟨⟨1, [(⟨1, ⟨a, b⟩, ⟨a, b⟩, ⟨0, 0⟩⟩ : Pl.Ed)], sel / 2⟩, f, t, pl⟩]⟩ else .inr c) := oh (by unfold Dl.put; dsimp only; rw [hc])
  have HKA := oh ((H0.out.kp.trans KX.out).alloc (.cells #[I6 1, I6 a, I6 b, I6 a, I6 b, I6 0, I6 0] 123))
  clear hc
  by_cases hcz : c = 0
  ·subst hcz; have HX3 : Hid (Dl.body ⟨3, tools, sel, f, t, pl, at_, es, out⟩ s = .inl ⟨3, tools, sel, f, t, pl, at_, es, out ++ [⟨⟨1, [(⟨1, ⟨a, b⟩, ⟨a, b⟩, ⟨0, 0⟩⟩ : Pl.Ed)], sel / 2⟩, f, t, pl⟩]⟩) := oh (by rw [HX2.out, HPX.out]; rfl)
   go_wp2_with (go_at_call 143; refine HP.out.mono ?_; rintro e w7 hput; have HPU : Hid (e = .returned (I6 0) ∧ _) := oh (by unfold PutRIs at hput; rw [if_pos rfl] at hput; exact hput); obtain ⟨rfl, hpu⟩ := HPU.out; have HPV := oh hpu; clear hput hpu HPU)
   go_ret; obtain ⟨ov7, hb7, hr7⟩ := HPV.out
   exact rf_inl HX3.out ⟨tv, eu, ov7, _, by rw [List.map_append, HT.out]; rfl, hb7, hr7⟩
  ·have HX3 : Hid (Dl.body ⟨3, tools, sel, f, t, pl, at_, es, out⟩ s = .inr c) := oh (by rw [HX2.out, HPX.out, if_neg hcz])
   have HCZ := oh hcz; clear hcz; go_wp2_with (go_at_call 143; refine HP.out.mono ?_; rintro e w7 hput; have HPU : Hid (e = .returned (I6 c) ∧ _) := oh (by unfold PutRIs at hput; rw [if_neg HCZ.out] at hput; exact hput); obtain ⟨rfl, hpu⟩ := HPU.out; have HPV := oh hpu; clear hput hpu HPU)
   go_ret
   exact rf_inr HX3.out (HKA.out.trans HPV.out)
 ·have hzb : (x != 0) = true := by simpa using hz
  have HX2 : Hid (Dl.body ⟨3, tools, sel, f, t, pl, at_, es, out⟩ s = .inr x) := oh (by rw [HX.out, if_neg hz])
  clear HX hz; go_enter Tryz.func92, Tryz.ntmps92
  go_wp2_with fail
  refine HSP.out.mono ?_
  rintro E w1 ⟨rfl, k1⟩; have K1 := oh k1; clear k1; go_wp2_with fail
  refine (HC0.out _).mono ?_
  rintro E v0 ⟨⟨ao0, n0, cap0, rfl⟩, k⟩; have L0 := oh (K1.out.trans k); clear k; go_wp2_with fail
  refine (HC1.out _).mono ?_
  rintro E v1 ⟨⟨ao1, n1, cap1, rfl⟩, k⟩; have L1 := oh (L0.out.trans k); clear k; go_wp2_with fail
  refine (HC2.out _).mono ?_
  rintro E wl ⟨⟨ao, cap, rfl, hla, hab⟩, k⟩; have HLA := oh hla; have HAB := oh hab; have KB := L1; have KW := oh (L1.out.trans k); clear hla hab k
  go_wp2_with (go_at_call 142; refine (HRD.out _ KW.out).mono ?_; rintro E w9 ⟨rfl, rfl⟩)
  go_ret
  exact rf_inr HX2.out (H0.out.kp.trans KW.out)
theorem rbody_none (W : World) (R : Nat) (st : Dl.St) (s : List UInt8) (n : Int) (w : World) (h : RfAt W R st w) (hp : st.ph = 3) (hk : s ≠ [77, 51, 48]) (hs : s.length ≤ 1000000000) (hso : Dl.spanOf s = none) (h0 : Dl.scan [84] [[]] s = none) (h1 : Dl.scan [71, 48, 48, 88] [[89], []] s = none) (h2 : Dl.scan [88] [[89], []] s = none) : Calls Tryz.prog 92 #[.pointer (some ⟨R, 0, none⟩), I6 n, str s] w (RfIs W R (Dl.body st s)) := by
 have HSP := oh (span_not hso (rspan139_any W R st s w h hs))
 have HSL := oh hs; obtain ⟨ph, tools, sel, f, t, pl, at_, es, out⟩ := st
 dsimp only at hp
 subst hp; have H0 := oh h; obtain ⟨tv0, eu0, ov0, ts0, hts0, hb0, hr0⟩ := h
 have c14 : w.cell? ⟨R, 14, none⟩ = some (.bool false) := hcell hb0 14 rfl
 have c0 : w.cell? ⟨R, 0, none⟩ = some (.bool true) := hcell hb0 0 rfl
 have c9 : w.cell? ⟨R, 9, none⟩ = some (I6 0) := hcell hb0 9 rfl
 have HRW : Hid (R < w.heap.size) := oh (lt_of_block hb0)
 clear hts0 hb0 hr0; have HX : Hid (Dl.body ⟨3, tools, sel, f, t, pl, at_, es, out⟩ s = .inr 4) := oh (by unfold Dl.body; rw [if_neg (show ¬ s = Dl.kM30 from hk), hso]; dsimp only; rw [h0]; dsimp only; rw [h1]; dsimp only; rw [h2])
 have HC0 := oh (fun V => nums_not rpat_tool HSL.out h0 V)
 have HC1 := oh (fun V => nums_not rpat_slot HSL.out h1 V)
 have HC2 := oh (fun V => nums_not rpat_point HSL.out h2 V)
 have e1 : (s == [77, 51, 48]) = false := by simpa using hk
 clear hk hso h0 h1 h2; go_enter Tryz.func92, Tryz.ntmps92
 go_wp2_with fail
 refine HSP.out.mono ?_
 rintro E w1 ⟨rfl, k1⟩; have K1 := oh k1; clear k1; go_wp2_with fail
 refine (HC0.out _).mono ?_
 rintro E v0 ⟨⟨ao0, n0, cap0, rfl⟩, k⟩; have L0 := oh (K1.out.trans k); clear k; go_wp2_with fail
 refine (HC1.out _).mono ?_
 rintro E v1 ⟨⟨ao1, n1, cap1, rfl⟩, k⟩; have L1 := oh (L0.out.trans k); clear k; go_wp2_with fail
 refine (HC2.out _).mono ?_
 rintro E v2 ⟨⟨ao2, n2, cap2, rfl⟩, k⟩; have L2 := oh (L1.out.trans k); clear k; go_wp2_with fail
 go_ret
 exact rf_inr HX.out (H0.out.kp.trans L2.out)
theorem rline_3 (W : World) (R : Nat) (st : Dl.St) (s : List UInt8) (n : Int) (w : World) (h : RfAt W R st w) (hp : st.ph = 3) (hs : s.length ≤ 1000000000) (hok : Dl.Ok st) (htl : st.tools.length ≤ 1000000) (hol : st.out.length ≤ 1000000) : Calls Tryz.prog 92 #[.pointer (some ⟨R, 0, none⟩), I6 n, str s] w (RfIs W R (Dl.body st s)) := by
 by_cases hk : s = [77, 51, 48]
 ·exact rbody_end W R st s n w h hp hk
 cases hso : Dl.spanOf s with
 | some q => obtain ⟨a, b, p⟩ := q; exact rbody_span W R st s n w h hp hk hs hso
 | none =>
  cases h0 : Dl.scan [84] [[]] s with
  | some ns =>
   obtain ⟨a, rfl⟩ := len1 (Dl.scan_some h0).1 rfl
   exact rbody_tool W R st s n w h hp hk hs hso h0 htl (fun p hp => (hok.tools p hp).2.1)
  | none =>
   cases h1 : Dl.scan [71, 48, 48, 88] [[89], []] s with
   | some ns =>
    obtain ⟨a, b, rfl⟩ := len2 (Dl.scan_some h1).1 rfl
    exact rbody_slot W R st s n w h hp hk hs hso h0 h1 ⟨hok.sel.1, hok.f.1⟩
   | none =>
    cases h2 : Dl.scan [88] [[89], []] s with
    | some ns =>
     obtain ⟨a, b, rfl⟩ := len2 (Dl.scan_some h2).1 rfl
     exact rbody_point W R st s n w h hp hk hs hso h0 h1 h2 hok.sel hok.f.1 hol
    | none => exact rbody_none W R st s n w h hp hk hs hso h0 h1 h2
def PhN (ph : Nat) (n : Int) : Prop := (ph = 0 ∧ n = 1) ∨ (ph = 1 ∧ n = 2) ∨ (2 ≤ ph ∧ 3 ≤ n)
theorem rline92_any (W : World) (R : Nat) (st : Dl.St) (s : List UInt8) (n : Int) (w : World) (h : RfAt W R st w) (hn : PhN st.ph n) (hs : s.length ≤ 1000000000) (hok : Dl.Ok st) (htl : st.tools.length ≤ 1000000) (hel : st.es.length ≤ 1000000) (hol : st.out.length ≤ 1000000) : Calls Tryz.prog 92 #[.pointer (some ⟨R, 0, none⟩), I6 n, str s] w (RfIs W R (Dl.step st s)) := by
 rcases hn with ⟨h0, rfl⟩ | ⟨h1, rfl⟩ | ⟨h2, hn3⟩
 ·exact rline_0 W R st s w h h0
 ·exact rline_1 W R st s w h h1
 ·have hph := hok.ph
  have : st.ph = 2 ∨ st.ph = 3 ∨ st.ph = 4 ∨ st.ph = 5 ∨ st.ph = 6 := by omega
  rcases this with e | e | e | e | e
  ·exact rline_2 W R st s n hn3 w h e hs htl (fun p hp => (hok.tools p hp).2.1)
  ·have hsp : Dl.step st s = Dl.body st s := by unfold Dl.step; rw [e]; rfl
   rw [hsp]; exact rline_3 W R st s n w h e hs hok htl hol
  ·exact rline_4 W R st s n w h e
  ·exact rline_5 W R st s n w h e hs hok.sel hol hel hok.at_
  ·exact rline_6 W R st s n w h e
namespace Dl
theorem step_ph {st u : St} {s : Bytes} {n : Int} (e : step st s = .inl u) (h : PhN st.ph n) : PhN u.ph (n + 1) := by
 have key : (st.ph = 0 → u.ph = 1) ∧ (st.ph = 1 → u.ph = 2) ∧ (2 ≤ st.ph → 2 ≤ u.ph) := by
  unfold step at e
  split at e
  ·rename_i h0
   split at e
   ·injection e with e; subst e; exact ⟨fun _ => rfl, fun h => by omega, fun h => by omega⟩
   ·cases e
  split at e
  ·rename_i h0 h1
   split at e
   ·injection e with e; subst e; exact ⟨fun h => by omega, fun _ => rfl, fun h => by omega⟩
   ·cases e
  rename_i h0 h1
  refine ⟨fun h => absurd h h0, fun h => absurd h h1, fun h2 => ?_⟩
  split at e
  ·rename_i h3
   unfold head at e
   split at e
   ·injection e with e; subst e; show 2 ≤ 3; omega
   ·split at e
    ·split at e
     ·cases e
     ·split at e
      ·cases e
      ·injection e with e; subst e; exact h2
    ·cases e
  split at e
  ·rename_i h3 h4
   unfold body at e
   split at e
   ·injection e with e; subst e; show 2 ≤ 6; omega
   ·split at e
    ·split at e
     ·injection e with e; subst e; exact h2
     ·cases e
    ·split at e
     ·split at e
      ·injection e with e; subst e; exact h2
      ·cases e
     ·split at e
      ·split at e
       ·injection e with e; subst e; show 2 ≤ 4; omega
       ·cases e
      ·split at e
       ·split at e
        ·unfold put at e
         split at e
         ·injection e with e; subst e; exact h2
         ·cases e
        ·cases e
       ·cases e
  split at e
  ·split at e
   ·injection e with e; subst e; show 2 ≤ 5; omega
   ·cases e
  split at e
  ·unfold routed at e
   split at e
   ·split at e
    ·injection e with e; subst e; show 2 ≤ 3; omega
    ·cases e
   ·split at e
    ·split at e
     ·injection e with e; subst e; exact h2
     ·cases e
    ·cases e
  ·cases e
 unfold PhN at *
 rcases h with ⟨h, rfl⟩ | ⟨h, rfl⟩ | ⟨h, hn⟩
 ·exact .inr (.inl ⟨key.1 h, rfl⟩)
 ·exact .inr (.inr ⟨by rw [key.2.1 h]; omega, by omega⟩)
 ·exact .inr (.inr ⟨key.2.2 h, by omega⟩)
end Dl
theorem rstart_at (w : World) : RfAt w w.heap.size .start (w.alloc (.cells #[.bool false, .slice none 0 0, I6 0, I6 0, .slice none 0 0, I6 0, I6 0, I6 0, .bool false, I6 0, I6 0, I6 0, .slice none 0 0, .slice none 0 0, .bool false] 181)) := by
 have hb : (w.alloc (.cells #[.bool false, .slice none 0 0, I6 0, I6 0, .slice none 0 0, I6 0, I6 0, I6 0, .bool false, I6 0, I6 0, I6 0, .slice none 0 0, .slice none 0 0, .bool false] 181)).heap[w.heap.size]? = some (.cells (RFC .start (.slice none 0 0) (.slice none 0 0) (.slice none 0 0)) 181 (0, 0)) := heap_alloc_new w _
 exact ⟨.slice none 0 0, .slice none 0 0, .slice none 0 0, [], rfl, hb, ⟨Nat.le_refl _, ⟨_, hb⟩, ⟨rfl, .inl ⟨rfl, rfl⟩⟩, ⟨rfl, .inl ⟨rfl, rfl⟩⟩, ⟨rfl, .inl ⟨rfl, rfl⟩⟩, by simp, by simp, (Kp.refl w none).alloc _⟩⟩
theorem rholes_of {W : World} {R : Nat} {tools : List (Int × Int)} {es : List Pl.Ed} {ts : List HT} {tv eu ov : Value} {w : World} (h : RfRest W R tools es ts tv eu ov w) : ∃ ao cap, ov = .slice ao ts.length cap ∧ HolesAt w ao cap ts ∧ ∀ p, ao = some p → W.heap.size ≤ p.block := by
 obtain ⟨ao, cap, rfl⟩ := own_slice h.oo
 refine ⟨ao, cap, rfl, ⟨(own_lies (f := htC) (fun _ => rfl) h.oo).2, fun t ht => (own_lies (f := edC) (xs := t.h.s.es) (base := W.heap.size) (e := 123) (n := t.h.s.es.length) (fun _ => rfl) (h.he t ht)).2⟩, fun p hp => ?_⟩
 subst hp; exact (h.oo.lt p.block rfl).1
theorem rread_good {w w' : World} {R : Nat} {tools : List (Int × Int)} {es : List Pl.Ed} {ts : List HT} {tv eu ov : Value} {x : List Dl.Ho × Int × Int} (hx : x = (ts.map (·.h), 0, 0)) (h : RfRest w R tools es ts tv eu ov w') : ReadIs w x (.returned (.tuple #[ov, I6 0, I6 0])) w' := by
 obtain ⟨ao, cap, e, hh, hf⟩ := rholes_of h
 subst hx; exact ⟨h.kp, ao, cap, ts, rfl, by rw [e], hh, hf⟩
theorem ext_mid (t : List UInt8) (a b : Nat) : (⟨t.toArray⟩ : ByteArray).extract a b = ⟨((t.take b).drop a).toArray⟩ := by
 apply ByteArray.ext; rw [ByteArray.data_extract]; simp [List.drop_take]
theorem rread_any (s : List UInt8) (w : World) (hs : s.length ≤ 1000000000) : Calls Tryz.prog 41 #[str s] w (ReadIs w (Dl.read s)) := by
 obtain ⟨x, hx⟩ : ∃ x, Dl.read s = x := ⟨_, rfl⟩
 rw [hx]; have hl0 : (0 : Int) ≤ (s.length : Int) := Int.natCast_nonneg _
 by_cases hbig : 262144 < s.length
 ·have HX : Hid (x = ([], 0, 2)) := oh (by rw [← hx]; unfold Dl.read; rw [if_pos hbig])
  have hl : ((262144 : Int) < (s.length : Int)) := by omega
  clear hbig hx; go_enter Tryz.func41, Tryz.ntmps41
  go_wp2_with fail
  go_ret3
  exact read_bad HX.out (Kp.refl w none)
 ·have HX : Hid (x = Dl.readL 1 .start (Ru.pieces 10 s)) := oh (by rw [← hx]; unfold Dl.read; rw [if_neg hbig])
  have hl : ¬ (262144 : Int) < (s.length : Int) := by omega
  have HL : Hid (s.length ≤ 262144) := oh (by omega)
  have HS := oh (rstart_at w); clear hs hbig hx
  go_enter Tryz.func41, Tryz.ntmps41
  go_wp2_with fail
  generalize w.alloc (.cells #[.bool false, .slice none 0 0, I6 0, I6 0, .slice none 0 0, I6 0, I6 0, I6 0, .bool false, I6 0, I6 0, I6 0, .slice none 0 0, .slice none 0 0, .bool false] 181) = X at *
  obtain ⟨R, hR⟩ : ∃ R, w.heap.size = R := ⟨_, rfl⟩
  rw [hR] at HS ⊢; clear hR; go_loopw [6, 7, 8] (fun nv fv iv wr => ∃ (k fr : Nat) (n : Int) (st : Dl.St), k ≤ s.length ∧ fr ≤ k ∧ 1 ≤ n ∧ n ≤ (k : Int) + 1 ∧ nv = I6 n ∧ fv = I6 (fr : Int) ∧ iv = I6 (k : Int) ∧ Hid (RfAt w R st wr) ∧ Hid (PhN st.ph n) ∧ Hid (Dl.Ok st) ∧ Hid (Dl.sz st ≤ k) ∧ Hid (x = Dl.readL n st (Ru.pieces 10 (s.drop fr))) ∧ Hid (∀ i, fr ≤ i → i < k → s[i]? ≠ some 10)) (fun _ _ iv _ => s.length - (intOf iv).toNat)
  case atStart => exact ⟨0, 0, 1, .start, Nat.zero_le _, Nat.le_refl _, by omega, by omega, rfl, rfl, rfl, HS, oh (.inl ⟨rfl, rfl⟩), oh Dl.start_ok, oh (by simp [Dl.sz, Dl.St.start]), HX, oh (fun i h1 h2 => by omega)⟩
  case round =>
   obtain ⟨k, fr, n, st, hk, hfk, hn1, hnk, rfl, rfl, rfl, HAT, HPH, HOK, HSZ, HM, HNO⟩ := hrel
   have hk0 := nn k; have hf0 := nn fr; have hk9 : (k : Int) ≤ 262144 := by have := HL.out; omega
   by_cases hlt : k < s.length
   ·have hk1 : (k : Int) < (s.length : Int) := by omega
    have hix := idx_at s k hlt
    obtain ⟨c, hcc⟩ : ∃ c, (s[k]).toNat = c := ⟨_, rfl⟩
    rw [hcc] at hix; have HME : Hid (s.length - (intOf (I6 ((k : Int) + 1))).toNat < s.length - (intOf (I6 (k : Int))).toNat) := oh (by simp [intOf]; omega)
    by_cases h10 : c = 10
    ·have e10 : ((c : Int) != 10) = false := by rw [h10]; rfl
     have HC : Hid (s[k]? = some 10) := oh (by rw [List.getElem?_eq_getElem hlt]; congr 1; exact UInt8.toNat_inj.1 (by rw [hcc, h10]; rfl))
     obtain ⟨y, hy⟩ : ∃ y, (s.take k).drop fr = y := ⟨_, rfl⟩
     have hyl : y.length ≤ 1000000000 := by have := HL.out; rw [← hy, List.length_drop, List.length_take]; omega
     have hxp : (⟨s.toArray⟩ : ByteArray).extract fr k = ⟨y.toArray⟩ := by rw [ext_mid, hy]
     have hfs : (fr : Int) ≤ (k : Int) := by omega
     have HM2 : Hid (x = match Dl.step st y with
      | .inl u => Dl.readL (n + 1) u (Ru.pieces 10 (s.drop (k + 1)))
      | .inr e => ([], n, e)) := oh (by
      rw [HM.out, Ru.pieces_drop 10 s fr k hfk HC.out HNO.out, hy]
      cases hp : Ru.pieces 10 (s.drop (k + 1)) with
      | nil => exact absurd hp (Ru.pieces_ne _ _)
      | cons z t => rw [Dl.readL] <;> rfl)
     have hsz := HSZ.out; unfold Dl.sz at hsz; have hLL := HL.out
     have HC2 := oh (rline92_any w R st y n wr HAT.out HPH.out hyl HOK.out (by omega) (by omega) (by omega))
     clear hcc h10 hy hyl hsz hLL
     cases hst : Dl.step st y with
     | inr e =>
      have hne := Dl.step_err hst
      have hnb : (e != 0) = true := by simpa using hne
      rw [hst] at HC2 HM2; have HC3 : Hid (Calls Tryz.prog 92 #[.pointer (some ⟨R, 0, none⟩), I6 n, str y] wr fun E w' => E = .returned (I6 e) ∧ Kp w w' none) := oh HC2.out
      have HM3 : Hid (x = ([], n, e)) := oh HM2.out
      clear hst hne HC2 HM2; go_wp2_with (go_at_call 92; refine HC3.out.mono ?_; rintro E w2 ⟨rfl, hk2⟩; have K2 := oh hk2; clear hk2)
      go_ret3
      exact read_bad HM3.out K2.out
     | inl u =>
      rw [hst] at HC2 HM2; have HC3 : Hid (Calls Tryz.prog 92 #[.pointer (some ⟨R, 0, none⟩), I6 n, str y] wr fun E w' => E = .returned (I6 0) ∧ RfAt w R u w') := oh HC2.out
      have HM3 : Hid (x = Dl.readL (n + 1) u (Ru.pieces 10 (s.drop (k + 1)))) := oh HM2.out
      have HU : Hid (PhN u.ph (n + 1) ∧ Dl.Ok u ∧ Dl.sz u ≤ k + 1) := oh ⟨Dl.step_ph hst HPH.out, Dl.step_ok HOK.out hst, by have := Dl.step_sz hst; have := HSZ.out; omega⟩
      clear hst HC2 HM2; go_wp2_with (go_at_call 92; refine HC3.out.mono ?_; rintro E w2 ⟨rfl, hr2⟩; have HR2 := oh hr2; clear hr2)
      go_roundw
      case rel => exact ⟨k + 1, k + 1, n + 1, u, hlt, Nat.le_refl _, by omega, by omega, by go_num, by go_num, by go_num, HR2, oh HU.out.1, oh HU.out.2.1, oh HU.out.2.2, HM3, oh (fun i h1 h2 => by omega)⟩
      case measure => exact HME.out
    ·have e10 : ((c : Int) != 10) = true := by simp; omega
     have HNO2 : Hid (∀ i, fr ≤ i → i < k + 1 → s[i]? ≠ some 10) := oh fun i h1 h2 => by
      rcases Nat.lt_or_ge i k with h | h
      ·exact HNO.out i h1 h
      ·obtain rfl : i = k := by omega
       rw [List.getElem?_eq_getElem hlt]; intro e; injection e with e; exact h10 (by rw [← hcc, e]; rfl)
     have hsz : Dl.sz st ≤ k + 1 := by have := HSZ.out; omega
     clear hcc h10; go_wp2_with fail
     go_roundw
     case rel => exact ⟨k + 1, fr, n, st, hlt, by omega, by omega, by omega, rfl, rfl, by go_num, HAT, HPH, HOK, oh hsz, HM, HNO2⟩
     case measure => exact HME.out
   ·obtain rfl : k = s.length := by omega
    have HM2 : Hid (x = if s.drop fr ≠ [] ∨ st.ph ≠ 6 then ([], n, 4) else (st.out, 0, 0)) := oh (by rw [HM.out, Ru.pieces_last 10 s fr HNO.out]; rfl)
    have hk1 : ¬ (s.length : Int) < (s.length : Int) := by omega
    obtain ⟨tv, eu, ov, ts, hts, hb, hr⟩ := HAT.out; have HR := oh hr; have HT := oh hts
    by_cases hd : st.ph = 6
    ·have c14 : wr.cell? ⟨R, 14, none⟩ = some (.bool true) := by
      have h14 : wr.cell? ⟨R, 14, none⟩ = some (.bool (decide (st.ph = 6))) := hcell hb 14 rfl
      rw [decide_eq_true hd] at h14; exact h14
     have c13 : wr.cell? ⟨R, 13, none⟩ = some ov := hcell hb 13 rfl
     by_cases hend : fr < s.length
     ·have hfi : (fr : Int) < (s.length : Int) := by omega
      have HM3 : Hid (x = ([], n, 4)) := oh (by rw [HM2.out, if_pos]; refine .inl fun h => ?_; have := congrArg List.length h; rw [List.length_drop] at this; simp at this; omega)
      clear hd hend hb hr hts; go_wp2_with fail
      go_ret3
      exact read_bad HM3.out HR.out.kp
     ·have hfi : ¬ (fr : Int) < (s.length : Int) := by omega
      have HM3 : Hid (x = (ts.map (·.h), 0, 0)) := oh (by rw [HM2.out, if_neg, hts]; rw [List.drop_of_length_le (by omega)]; simp [hd])
      clear hd hend hb hr hts; go_wp2_with fail
      go_ret3
      exact rread_good HM3.out HR.out
    ·have c14 : wr.cell? ⟨R, 14, none⟩ = some (.bool false) := by
      have h14 : wr.cell? ⟨R, 14, none⟩ = some (.bool (decide (st.ph = 6))) := hcell hb 14 rfl
      rw [decide_eq_false hd] at h14; exact h14
     have HM3 : Hid (x = ([], n, 4)) := oh (by rw [HM2.out, if_pos (.inr hd)])
     clear hd hb hr hts; go_wp2_with fail
     go_ret3
     exact read_bad HM3.out HR.out.kp
theorem piece_num (e : UInt8) (l : List UInt8) : (Ru.pieces e l).length ≤ l.length + 1 := by
 induction l with
 | nil => simp [Ru.pieces]
 | cons c l ih =>
  unfold Ru.pieces
  split
  ·simp; exact ih
  ·split
   ·simp
   ·rename_i q r hq
    rw [hq] at ih; simp at ih ⊢; omega
namespace Dl
def Few (l : List Ho) : Prop := ∀ h ∈ l, h.s.es.length ≤ 1000000
theorem put_few {st u : St} {es : List Pl.Ed} (h : Few st.out) (e : put st es = .inl u) : Few u.out := by
  unfold put at e
  split at e
  · rename_i hc
    injection e with e; subst e
    intro x hx
    rcases List.mem_append.1 hx with hx | hx
    · exact h x hx
    · rw [List.mem_singleton.1 hx]
      have := chk_40 hc
      show es.length ≤ 1000000
      dsimp only at this
      omega
  · cases e
theorem body_few {st u : St} {s : Bytes} (h : Few st.out) (e : body st s = .inl u) : Few u.out := by
  unfold body at e
  split at e
  · injection e with e; subst e; exact h
  · split at e
    · split at e
      · injection e with e; subst e; exact h
      · cases e
    · split at e
      · split at e
        · injection e with e; subst e; exact h
        · cases e
      · split at e
        · split at e
          · injection e with e; subst e; exact h
          · cases e
        · split at e
          · split at e
            · exact put_few h e
            · cases e
          · cases e
theorem routed_few {st u : St} {s : Bytes} (h : Few st.out) (e : routed st s = .inl u) : Few u.out := by
  unfold routed at e
  split at e
  · split at e
    · rename_i v hv
      injection e with e; subst e
      have := put_few h hv
      exact this
    · cases e
  · split at e
    · split at e
      · injection e with e; subst e; exact h
      · cases e
    · cases e
theorem head_few {st u : St} {s : Bytes} (h : Few st.out) (e : head st s = .inl u) : Few u.out := by
  unfold head at e
  split at e
  · injection e with e; subst e; exact h
  · split at e
    · split at e
      · cases e
      · split at e
        · cases e
        · injection e with e; subst e; exact h
    · cases e
theorem step_few {st u : St} {s : Bytes} (h : Few st.out) (e : step st s = .inl u) : Few u.out := by
  unfold step at e
  split at e
  · split at e
    · injection e with e; subst e; exact h
    · cases e
  · split at e
    · split at e
      · injection e with e; subst e; exact h
      · cases e
    · split at e
      · exact head_few h e
      · split at e
        · exact body_few h e
        · split at e
          · split at e
            · injection e with e; subst e; exact h
            · cases e
          · split at e
            · exact routed_few h e
            · cases e
theorem readL_few : ∀ (L : List Bytes) (n : Int) (st : St), Few st.out → Few (readL n st L).1 ∧ (readL n st L).1.length ≤ sz st + L.length
  | [], n, st, h => by simp [readL, Few]
  | [z], n, st, h => by
    rw [readL]
    split
    · simp [Few]
    · exact ⟨h, by unfold sz; dsimp only; omega⟩
  | x :: y :: r, n, st, h => by
    rw [readL]
    split
    · rename_i u hu
      have h1 := readL_few (y :: r) (n + 1) u (step_few h hu)
      have h2 := step_sz hu
      refine ⟨h1.1, ?_⟩
      have := h1.2
      simp only [List.length_cons] at *
      omega
    · simp [Few]
theorem read_few (s : Bytes) : Few (read s).1 ∧ (read s).1.length ≤ 1000000 := by
  unfold read
  split
  · simp [Few]
  · rename_i hs
    have h1 := readL_few (Ru.pieces 10 s) 1 .start (by simp [Few, St.start])
    refine ⟨h1.1, ?_⟩
    have h2 := piece_num 10 s
    have h3 := h1.2
    have : sz .start = 0 := rfl
    omega
end Dl
set_option maxHeartbeats 4000000 in
set_option maxRecDepth 100000 in
/-- The law's comparison of both readers: true, once the reference's Read is known to be the same. -/
theorem same_of (s : List UInt8) (hs : s.length ≤ 1000000000) (href : ∀ V, Env V → Calls Tryz.prog 41 #[str s] V (ReadIs V (Dl.read s))) (w : World) (he : Env w) : Calls Tryz.prog 14 #[str s] w fun E w' => E = .returned (.bool true) ∧ Kp w w' none := by
  have HEN : Hid (∀ V, Kp w V none → Env V) := Lib.hid fun V k => he.kp0 k
  have HA := Lib.hid (read_any s w he hs)
  have HB := Lib.hid (fun V (k : Kp w V none) => href V (HEN.out V k))
  obtain ⟨hf, hn⟩ := Dl.read_few s
  obtain ⟨⟨l, n, e⟩, hx⟩ : ∃ x, Dl.read s = x := ⟨_, rfl⟩
  rw [hx] at HA HB hf hn
  have HF := Lib.hid hf
  have HSH : Hid (∀ V q ao cap ts bo cb us, l.length = q → ts.map (·.h) = l → HolesAt V ao cap ts → us.map (·.h) = l → HolesAt V bo cb us → Calls Tryz.prog 17 #[.slice ao q cap, .slice bo q cb] V fun E w' => E = .returned (.bool true) ∧ Kp V w' none) := Lib.hid fun V q ao cap ts bo cb us hq hts hh hus hu => by
    have := hsame_any ts us q q ((hol_len hts).trans hq) ((hol_len hus).trans hq) ao bo cap cb V hh hu (hol_small hts HF.out) (hol_small hus HF.out) (by rw [← hq]; exact hn) (by rw [← hq]; exact hn)
    rw [hts, hus, decide_eq_true rfl] at this
    exact this
  have HA2 : Hid (Calls Tryz.prog 16 #[str s] w fun E w' => (∃ ao cap ts, E = .returned (.tuple #[.slice ao l.length cap, .int .i64 n, .int .i64 e]) ∧ ts.map (·.h) = l ∧ HolesAt w' ao cap ts) ∧ Kp w w' none) := Lib.hid (HA.out.mono fun E w' hh => by
    obtain ⟨k, ao, cap, ts, hts, hE, hh, _⟩ := hh
    exact ⟨⟨ao, cap, ts, by rw [hE, hol_len hts], hts, hh⟩, k⟩)
  have HB2 : Hid (∀ V, Kp w V none → Calls Tryz.prog 41 #[str s] V fun E w' => (∃ ao cap ts, E = .returned (.tuple #[.slice ao l.length cap, .int .i64 n, .int .i64 e]) ∧ ts.map (·.h) = l ∧ HolesAt w' ao cap ts) ∧ Kp V w' none) := Lib.hid fun V k => (HB.out V k).mono fun E w' hh => by
    obtain ⟨k, ao, cap, ts, hts, hE, hh, _⟩ := hh
    exact ⟨⟨ao, cap, ts, by rw [hE, hol_len hts], hts, hh⟩, k⟩
  obtain ⟨q, hq⟩ : ∃ q, l.length = q := ⟨_, rfl⟩
  rw [hq] at HA2 HB2
  have HQ := Lib.hid hq
  clear he hs href HA HB hf hn hx hq
  go_enter Tryz.func14, Tryz.ntmps14
  go_wp2_with (first | (go_at_call 16; refine HA2.out.mono ?_; rintro E w1 ⟨⟨ao, cap, ts, rfl, hts, hh⟩, k1⟩; have HTS := Lib.hid hts; have HH := Lib.hid hh; have K := Lib.hid k1; clear hts hh k1) | (go_at_call 41; refine (HB2.out _ K.out).mono ?_; rintro E w2 ⟨⟨bo, cb, us, rfl, hus, hu⟩, k2⟩; have HUS := Lib.hid hus; have HU := Lib.hid hu; have HH := Lib.hid (HH.out.keep k2); have K := Lib.hid (K.out.trans k2); clear hus hu k2) | (go_at_call 17; refine (HSH.out _ _ _ _ _ _ _ _ HQ.out HTS.out HH.out HUS.out HU.out).mono ?_; rintro E w3 ⟨rfl, k3⟩; have K := Lib.hid (K.out.trans k3); clear k3))
  go_ret
  exact ⟨rfl, K.out⟩
end Go.Proofs.YtljjbdbgedmadaaGreatDoor
