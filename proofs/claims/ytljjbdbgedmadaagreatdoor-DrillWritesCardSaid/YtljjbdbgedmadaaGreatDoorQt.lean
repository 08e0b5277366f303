/- A line of a slot (routed), whole. Conditions as of the walks; the state is good.
  The reader of a line behind % (body). Conditions: lines of at most 10^9 bytes; at most 10^6 holes; the state is good. -/
import Derived.Test.YtljjbdbgedmadaaGreatDoorQr
set_option maxHeartbeats 16000000
set_option maxRecDepth 100000
namespace Go.Proofs.YtljjbdbgedmadaaGreatDoor
open Go.RowKit Go.Lib
theorem scan_pre {a : UInt8} {ps : List (List UInt8)} {s : List UInt8} {ns : List Int} (h : Dl.scan [71, 48, a, 88] ps s = some ns) : s[2]? = some a := by
 unfold Dl.scan at h
 obtain ⟨r, hr, _⟩ := Option.bind_eq_some_iff.1 h
 match s, hr with
 | [], hr => simp [Dl.strip] at hr
 | [x], hr => simp [Dl.strip] at hr
 | [x, y], hr => simp [Dl.strip] at hr
 | x :: y :: z :: l, hr =>
  simp only [Dl.strip] at hr
  split at hr
  ·split at hr
   ·split at hr
    ·rename_i e; rw [e]; rfl
    ·cases hr
   ·cases hr
  ·cases hr
theorem scan_apart {a b : UInt8} (hab : a ≠ b) {ps qs : List (List UInt8)} {s : List UInt8} {ns : List Int} (h : Dl.scan [71, 48, a, 88] ps s = some ns) : Dl.scan [71, 48, b, 88] qs s = none := by
 cases h2 : Dl.scan [71, 48, b, 88] qs s with
 | none => rfl
 | some ms =>
  have := (scan_pre h).symm.trans (scan_pre h2)
  injection this with this
  exact absurd this hab
theorem len4 {ns : List Int} {l : List (List UInt8)} (h : ns.length = l.length) (h2 : l.length = 4) : ∃ a b c d, ns = [a, b, c, d] := by
 match ns, h.trans h2 with
 | [a, b, c, d], _ => exact ⟨a, b, c, d, rfl⟩
theorem numB_wide {n : Int} (h : Dl.NumB n) : -4000000000 ≤ n ∧ n ≤ 4000000000 := by unfold Dl.NumB at h; omega
theorem routed_any (W : World) (L : Option Nat) (R m : Nat) (st : Dl.St) (s : List UInt8) (w : World) (h : RdAt W L R m st w) (he : Env w) (hs : s.length ≤ 1000000000) (hp : st.ph = 5) (hok : Dl.Ok st) (hol : st.out.length ≤ 1000000) (hel : st.es.length ≤ 1000000) :
  Calls Tryz.prog 252 #[.pointer (some ⟨R, 0, none⟩), str s] w (StepIs W L R m (Dl.routed st s)) := by
 by_cases hm : s = [77, 49, 54]
 ·subst hm; exact routed_end W L R m st w h hp hok.sel hol
 ·have hat := hok.at_
  obtain ⟨ph, tools, sel, f, t, pl, ⟨ax, ay⟩, es, out⟩ := st
  dsimp only at hp hat hel
  subst hp; have hax := And.intro (numB_wide hat.1) (numB_wide hat.2)
  have h0 : (-4000000000 : Int) ≤ 0 ∧ (0 : Int) ≤ 4000000000 := by omega
  have hrt : Dl.routed ⟨5, tools, sel, f, t, pl, ⟨ax, ay⟩, es, out⟩ s = match Dl.edgeOf ⟨ax, ay⟩ s with | some e => if Pl.chkE e = 0 then .inl ⟨5, tools, sel, f, t, pl, e.b, es ++ [e], out⟩ else .inr (Pl.chkE e) | none => .inr 4 := by
   unfold Dl.routed; rw [if_neg (show ¬ s = Dl.kM16 from hm)]; dsimp only
   cases Dl.edgeOf ⟨ax, ay⟩ s <;> rfl
  cases h1 : Dl.scan [71, 48, 49, 88] [[89], []] s with
  | some ns =>
   obtain ⟨x, y, rfl⟩ := len2 (Dl.scan_some h1).1 rfl
   refine routed_walk W L R m tools sel f t pl ax ay es out s w h he hs hm hel hax 2 (by decide) true x y 0 0 ⟨h0, h0⟩ h1 (fun _ => rfl) (scan_apart (by decide) h1) (scan_apart (by decide) h1) _ ?_
   rw [hrt]; unfold Dl.edgeOf; rw [h1]
   simp
  | none =>
   cases h3 : Dl.scan [71, 48, 51, 88] [[89], [73], [74], []] s with
   | some ns =>
    obtain ⟨x, y, i, j, rfl⟩ := len4 (Dl.scan_some h3).1 rfl
    have hb := (Dl.scan_some h3).2
    refine routed_walk W L R m tools sel f t pl ax ay es out s w h he hs hm hel hax 0 (by decide) false x y i j ⟨numB_wide (hb i (by simp)), numB_wide (hb j (by simp))⟩ h1 (by intro h; cases h) h3 (scan_apart (by decide) h3) _ ?_
    rw [hrt]; unfold Dl.edgeOf; rw [h1, h3]
    simp
   | none =>
    cases h2 : Dl.scan [71, 48, 50, 88] [[89], [73], [74], []] s with
    | some ns =>
     obtain ⟨x, y, i, j, rfl⟩ := len4 (Dl.scan_some h2).1 rfl
     have hb := (Dl.scan_some h2).2
     refine routed_walk W L R m tools sel f t pl ax ay es out s w h he hs hm hel hax 1 (by decide) false x y i j ⟨numB_wide (hb i (by simp)), numB_wide (hb j (by simp))⟩ h1 (by intro h; cases h) h3 h2 _ ?_
     rw [hrt]; unfold Dl.edgeOf; rw [h1, h3, h2]
     simp
    | none =>
     refine routed_walk W L R m tools sel f t pl ax ay es out s w h he hs hm hel hax 2 (by decide) false 0 0 0 0 ⟨h0, h0⟩ h1 (by intro h; cases h) h3 h2 _ ?_
     rw [hrt]; unfold Dl.edgeOf; rw [h1, h3, h2]
     simp
def bPart (st : Dl.St) (s : List UInt8) (k : Nat) : Option (Dl.St ⊕ Int) := if k = 0 then spanX st s else if k = 1 then toolX st s else if k = 2 then slotX st s else pointX st s
theorem body_at {st : Dl.St} {s : List UInt8} (hm : s ≠ Dl.kM30) {k : Nat} (hk : k < 4) (hn : ∀ j, j < k → bPart st s j = none) {x : Dl.St ⊕ Int} (hx : bPart st s k = some x) : Dl.body st s = x := by
 have n0 : 0 < k → spanX st s = none := fun h => hn 0 h
 have n1 : 1 < k → toolX st s = none := fun h => hn 1 h
 have n2 : 2 < k → slotX st s = none := fun h => hn 2 h
 rw [body_parts st s hm]
 match k, hk with
 | 0, _ => rw [show spanX st s = some x from hx]; rfl
 | 1, _ => rw [n0 (by decide), show toolX st s = some x from hx]; rfl
 | 2, _ => rw [n0 (by decide), n1 (by decide), show slotX st s = some x from hx]; rfl
 | 3, _ => rw [n0 (by decide), n1 (by decide), n2 (by decide), show pointX st s = some x from hx]; rfl
theorem body_not {st : Dl.St} {s : List UInt8} (hm : s ≠ Dl.kM30) (hn : ∀ j, j < 4 → bPart st s j = none) : Dl.body st s = .inr 4 := by
 rw [body_parts st s hm, show spanX st s = none from hn 0 (by decide), show toolX st s = none from hn 1 (by decide), show slotX st s = none from hn 2 (by decide), show pointX st s = none from hn 3 (by decide)]
 rfl
theorem part_any (W : World) (L : Option Nat) (R m : Nat) (st : Dl.St) (s : List UInt8) (w : World) (h : RdAt W L R m st w) (he : Env w) (hs : s.length ≤ 1000000000) (hp : st.ph = 3) (hok : Dl.Ok st) (hol : st.out.length ≤ 1000000) (k : Nat) (hk : k < 4) :
  Calls Tryz.prog (209 + k) #[.pointer (some ⟨R, 0, none⟩), str s] w (BodyIs W L R m st w (bPart st s k)) := by
 match k, hk with
 | 0, _ => exact span_any W L R m st s w h he hs
 | 1, _ => exact tool_any W L R m st s w h he hs
 | 2, _ => exact slot_any W L R m st s w h he hs hp
 | 3, _ => exact point_any W L R m st s w h he hs hp hok.sel hol
def fB (R : Nat) : Array Value := #[.func (.func 209) #[.pointer (some ⟨R, 0, none⟩)] #[], .func (.func 210) #[.pointer (some ⟨R, 0, none⟩)] #[], .func (.func 211) #[.pointer (some ⟨R, 0, none⟩)] #[], .func (.func 212) #[.pointer (some ⟨R, 0, none⟩)] #[]]
def BdRel (W : World) (L : Option Nat) (R m B : Nat) (st : Dl.St) (s : List UInt8) (w : World) (iv : Value) (wr : World) : Prop := ∃ k : Nat, k ≤ 4 ∧ iv = I6 (k : Int) ∧ (∀ j, j < k → bPart st s j = none) ∧ RdAt W L R m st wr ∧ wr.heap[B]? = some (.cells (fB R) 34 (0, 0)) ∧ Kp w wr none
theorem lt_succ {st : Dl.St} {s : List UInt8} {k : Nat} (h : ∀ j, j < k → bPart st s j = none) (hk : bPart st s k = none) : ∀ j, j < k + 1 → bPart st s j = none := fun j hj => by
 by_cases he : j = k
 ·rw [he]; exact hk
 ·exact h j (by omega)
theorem body_any (W : World) (L : Option Nat) (R m : Nat) (st : Dl.St) (s : List UInt8) (w : World) (h : RdAt W L R m st w) (he : Env w) (hs : s.length ≤ 1000000000) (hp : st.ph = 3) (hok : Dl.Ok st) (hol : st.out.length ≤ 1000000) :
  Calls Tryz.prog 185 #[.pointer (some ⟨R, 0, none⟩), str s] w (StepIs W L R m (Dl.body st s)) := by
 have H0 := oh h
 by_cases hm : s = [77, 51, 48]
 ·subst hm; obtain ⟨ph, tools, sel, f, t, pl, at_, es, out⟩ := st
  dsimp only at hp
  subst hp; have HST : Hid (Dl.body ⟨3, tools, sel, f, t, pl, at_, es, out⟩ [77, 51, 48] = .inl ⟨6, tools, sel, f, t, pl, at_, es, out⟩) := oh rfl
  obtain ⟨eu, ov, ts, hts, hb, hr⟩ := H0.out
  dsimp only at hts hb hr
  have HB := oh hb; have HR := oh hr; have HT := oh hts; have f0 : w.frozen? ⟨R, 0, none⟩ = false := fz hb 0
  have f13 : w.frozen? ⟨R, 13, none⟩ = false := fz hb 13
  have c0 : w.cell? ⟨R, 0, none⟩ = some (fnV 3) := hcell hb 0 rfl
  have c13 : w.cell? ⟨R, 13, none⟩ = some (.bool (decide (3 = 6))) := hcell hb 13 rfl
  clear hb hr hts h H0 he hs hok hol; go_enter Tryz.func185, Tryz.ntmps185
  go_wp2_with fail
  go_end0
  have hb2 : ((w.setCell ⟨R, 13, none⟩ (.bool true)).setCell ⟨R, 0, none⟩ (fnV 6)).heap[R]? = some (.cells (RC 6 m ⟨6, tools, sel, f, t, pl, at_, es, out⟩ eu ov) 117 (0, 0)) := heap_set (heap_set HB.out)
  exact step_inl HST.out ⟨eu, ov, ts, HT.out, hb2, HR.out.set (((Kp.refl w (some R)).set _).set _) hb2⟩
 ·have HM : Hid (s ≠ Dl.kM30) := oh hm
  have hm1 : (s == [77, 51, 48]) = false := by simpa using hm
  have HP : Hid (∀ V, RdAt W L R m st V → Kp w V none → ∀ k, k < 4 → Calls Tryz.prog (209 + k) #[.pointer (some ⟨R, 0, none⟩), str s] V (BodyIs W L R m st V (bPart st s k))) := oh fun V hV k i hi => part_any W L R m st s V hV (he.kp0 k) hs hp hok hol i hi
  have k1 := (Kp.refl w none).alloc (.cells (fB R) 34)
  have K1 := oh k1; have HR1 := oh (H0.out.keep k1)
  have HB1 := oh (heap_alloc_new w (.cells (fB R) 34))
  clear h he hs hp hok hol hm k1; go_enter Tryz.func185, Tryz.ntmps185
  go_wp2_with fail
  rw [show (.cells #[.func (.func 209) #[.pointer (some ⟨R, 0, none⟩)] #[], .func (.func 210) #[.pointer (some ⟨R, 0, none⟩)] #[], .func (.func 211) #[.pointer (some ⟨R, 0, none⟩)] #[], .func (.func 212) #[.pointer (some ⟨R, 0, none⟩)] #[]] 34) = Obj.cells (fB R) 34 from rfl]
  generalize w.alloc (.cells (fB R) 34) = w1 at *
  obtain ⟨B, hB⟩ : ∃ q, w.heap.size = q := ⟨_, rfl⟩
  rw [hB] at HB1 ⊢; clear hB; go_loopw [24] (fun iv wr => BdRel W L R m B st s w iv wr) (fun iv _ => 4 - (intOf iv).toNat)
  case atStart => exact ⟨0, by omega, rfl, (fun j hj => absurd hj (by omega)), HR1.out, HB1.out, K1.out⟩
  case round =>
   obtain ⟨k, hk, rfl, hn, hrr, hbb, hkk⟩ := hrel; have HN := oh hn; have HR := oh hrr; have HB := oh hbb; have HK := oh hkk
   have b0 : wr.cell? ⟨B, 0, none⟩ = some (.func (.func 209) #[.pointer (some ⟨R, 0, none⟩)] #[]) := hcell hbb 0 rfl
   have b1 : wr.cell? ⟨B, 1, none⟩ = some (.func (.func 210) #[.pointer (some ⟨R, 0, none⟩)] #[]) := hcell hbb 1 rfl
   have b2 : wr.cell? ⟨B, 2, none⟩ = some (.func (.func 211) #[.pointer (some ⟨R, 0, none⟩)] #[]) := hcell hbb 2 rfl
   have b3 : wr.cell? ⟨B, 3, none⟩ = some (.func (.func 212) #[.pointer (some ⟨R, 0, none⟩)] #[]) := hcell hbb 3 rfl
   clear hn hrr hbb hkk
   by_cases h4 : k = 4
   ·subst h4; rw [show ((4 : Nat) : Int) = 4 from rfl]; have HBD := oh (body_not HM.out HN.out); clear b0 b1 b2 b3 hk
    go_wp2_with (go_at_call 100; refine (need_no _ _).mono ?_; rintro e w' ⟨rfl, rfl⟩)
    exact ⟨rfl, step_inr HBD.out HR.out.kl⟩
   by_cases h0 : k = 0
   ·subst h0; rw [show ((0 : Nat) : Int) = 0 from rfl]; clear b1 b2 b3 hk h4; have HX := oh (HP.out wr HR.out HK.out 0 (by decide))
    clear HP
    cases hx : bPart st s 0 with
    | none =>
     have HC : Hid (Calls Tryz.prog 209 #[.pointer (some ⟨R, 0, none⟩), str s] wr fun E w' => E = .returned (.bool false) ∧ RdAt W L R m st w' ∧ Kp wr w' none) := oh (by have := HX.out; rw [hx] at this; exact this)
     have HNX := oh (lt_succ HN.out hx); clear hx HX
     go_wp2_with (go_at_call 209; refine HC.out.mono ?_; rintro e wl ⟨rfl, hrl, kl⟩; have HRL := oh hrl; have KL := oh kl; clear hrl kl)
     have HREL : Hid (BdRel W L R m B st s w (I6 1) wl) := oh ⟨1, by decide, by go_num, HNX.out, HRL.out, blk HB.out KL.out, HK.out.trans KL.out⟩
     first | exact ⟨HREL.out, by simp [intOf]⟩ | (go_roundw; all_goals first | exact HREL.out | (simp [intOf]))
    | some x =>
     have HBD := oh (body_at HM.out (k := 0) (by decide) HN.out hx)
     cases x with
     | inl u =>
      have HC : Hid (Calls Tryz.prog 209 #[.pointer (some ⟨R, 0, none⟩), str s] wr fun E w' => E = .returned (.bool true) ∧ RdAt W L R m u w') := oh (by have := HX.out; rw [hx] at this; exact this)
      clear hx HX; go_wp2_with (go_at_call 209; refine HC.out.mono ?_; rintro e wl ⟨rfl, hrl⟩; have HRL := oh hrl; clear hrl)
      go_end0
      exact step_inl HBD.out HRL.out
     | inr c =>
      have HC : Hid (Calls Tryz.prog 209 #[.pointer (some ⟨R, 0, none⟩), str s] wr fun E w' => E = .panicked (bad c) ∧ KpL W L w') := oh (by have := HX.out; rw [hx] at this; exact this)
      clear hx HX; go_wp2_with (go_at_call 209; refine HC.out.mono ?_; rintro e wl ⟨rfl, kl⟩; have KL := oh kl; clear kl)
      exact ⟨rfl, step_inr HBD.out KL.out⟩
   by_cases h1 : k = 1
   ·subst h1; rw [show ((1 : Nat) : Int) = 1 from rfl]; clear b0 b2 b3 hk h4; have HX := oh (HP.out wr HR.out HK.out 1 (by decide))
    clear HP
    cases hx : bPart st s 1 with
    | none =>
     have HC : Hid (Calls Tryz.prog 210 #[.pointer (some ⟨R, 0, none⟩), str s] wr fun E w' => E = .returned (.bool false) ∧ RdAt W L R m st w' ∧ Kp wr w' none) := oh (by have := HX.out; rw [hx] at this; exact this)
     have HNX := oh (lt_succ HN.out hx); clear hx HX
     go_wp2_with (go_at_call 210; refine HC.out.mono ?_; rintro e wl ⟨rfl, hrl, kl⟩; have HRL := oh hrl; have KL := oh kl; clear hrl kl)
     have HREL : Hid (BdRel W L R m B st s w (I6 2) wl) := oh ⟨2, by decide, by go_num, HNX.out, HRL.out, blk HB.out KL.out, HK.out.trans KL.out⟩
     first | exact ⟨HREL.out, by simp [intOf]⟩ | (go_roundw; all_goals first | exact HREL.out | (simp [intOf]))
    | some x =>
     have HBD := oh (body_at HM.out (k := 1) (by decide) HN.out hx)
     cases x with
     | inl u =>
      have HC : Hid (Calls Tryz.prog 210 #[.pointer (some ⟨R, 0, none⟩), str s] wr fun E w' => E = .returned (.bool true) ∧ RdAt W L R m u w') := oh (by have := HX.out; rw [hx] at this; exact this)
      clear hx HX; go_wp2_with (go_at_call 210; refine HC.out.mono ?_; rintro e wl ⟨rfl, hrl⟩; have HRL := oh hrl; clear hrl)
      go_end0
      exact step_inl HBD.out HRL.out
     | inr c =>
      have HC : Hid (Calls Tryz.prog 210 #[.pointer (some ⟨R, 0, none⟩), str s] wr fun E w' => E = .panicked (bad c) ∧ KpL W L w') := oh (by have := HX.out; rw [hx] at this; exact this)
      clear hx HX; go_wp2_with (go_at_call 210; refine HC.out.mono ?_; rintro e wl ⟨rfl, kl⟩; have KL := oh kl; clear kl)
      exact ⟨rfl, step_inr HBD.out KL.out⟩
   by_cases h2 : k = 2
   ·subst h2; rw [show ((2 : Nat) : Int) = 2 from rfl]; clear b0 b1 b3 hk h4; have HX := oh (HP.out wr HR.out HK.out 2 (by decide))
    clear HP
    cases hx : bPart st s 2 with
    | none =>
     have HC : Hid (Calls Tryz.prog 211 #[.pointer (some ⟨R, 0, none⟩), str s] wr fun E w' => E = .returned (.bool false) ∧ RdAt W L R m st w' ∧ Kp wr w' none) := oh (by have := HX.out; rw [hx] at this; exact this)
     have HNX := oh (lt_succ HN.out hx); clear hx HX
     go_wp2_with (go_at_call 211; refine HC.out.mono ?_; rintro e wl ⟨rfl, hrl, kl⟩; have HRL := oh hrl; have KL := oh kl; clear hrl kl)
     have HREL : Hid (BdRel W L R m B st s w (I6 3) wl) := oh ⟨3, by decide, by go_num, HNX.out, HRL.out, blk HB.out KL.out, HK.out.trans KL.out⟩
     first | exact ⟨HREL.out, by simp [intOf]⟩ | (go_roundw; all_goals first | exact HREL.out | (simp [intOf]))
    | some x =>
     have HBD := oh (body_at HM.out (k := 2) (by decide) HN.out hx)
     cases x with
     | inl u =>
      have HC : Hid (Calls Tryz.prog 211 #[.pointer (some ⟨R, 0, none⟩), str s] wr fun E w' => E = .returned (.bool true) ∧ RdAt W L R m u w') := oh (by have := HX.out; rw [hx] at this; exact this)
      clear hx HX; go_wp2_with (go_at_call 211; refine HC.out.mono ?_; rintro e wl ⟨rfl, hrl⟩; have HRL := oh hrl; clear hrl)
      go_end0
      exact step_inl HBD.out HRL.out
     | inr c =>
      have HC : Hid (Calls Tryz.prog 211 #[.pointer (some ⟨R, 0, none⟩), str s] wr fun E w' => E = .panicked (bad c) ∧ KpL W L w') := oh (by have := HX.out; rw [hx] at this; exact this)
      clear hx HX; go_wp2_with (go_at_call 211; refine HC.out.mono ?_; rintro e wl ⟨rfl, kl⟩; have KL := oh kl; clear kl)
      exact ⟨rfl, step_inr HBD.out KL.out⟩
   by_cases h3 : k = 3
   ·subst h3; rw [show ((3 : Nat) : Int) = 3 from rfl]; clear b0 b1 b2 hk h4; have HX := oh (HP.out wr HR.out HK.out 3 (by decide))
    clear HP
    cases hx : bPart st s 3 with
    | none =>
     have HC : Hid (Calls Tryz.prog 212 #[.pointer (some ⟨R, 0, none⟩), str s] wr fun E w' => E = .returned (.bool false) ∧ RdAt W L R m st w' ∧ Kp wr w' none) := oh (by have := HX.out; rw [hx] at this; exact this)
     have HNX := oh (lt_succ HN.out hx); clear hx HX
     go_wp2_with (go_at_call 212; refine HC.out.mono ?_; rintro e wl ⟨rfl, hrl, kl⟩; have HRL := oh hrl; have KL := oh kl; clear hrl kl)
     have HREL : Hid (BdRel W L R m B st s w (I6 4) wl) := oh ⟨4, by decide, by go_num, HNX.out, HRL.out, blk HB.out KL.out, HK.out.trans KL.out⟩
     first | exact ⟨HREL.out, by simp [intOf]⟩ | (go_roundw; all_goals first | exact HREL.out | (simp [intOf]))
    | some x =>
     have HBD := oh (body_at HM.out (k := 3) (by decide) HN.out hx)
     cases x with
     | inl u =>
      have HC : Hid (Calls Tryz.prog 212 #[.pointer (some ⟨R, 0, none⟩), str s] wr fun E w' => E = .returned (.bool true) ∧ RdAt W L R m u w') := oh (by have := HX.out; rw [hx] at this; exact this)
      clear hx HX; go_wp2_with (go_at_call 212; refine HC.out.mono ?_; rintro e wl ⟨rfl, hrl⟩; have HRL := oh hrl; clear hrl)
      go_end0
      exact step_inl HBD.out HRL.out
     | inr c =>
      have HC : Hid (Calls Tryz.prog 212 #[.pointer (some ⟨R, 0, none⟩), str s] wr fun E w' => E = .panicked (bad c) ∧ KpL W L w') := oh (by have := HX.out; rw [hx] at this; exact this)
      clear hx HX; go_wp2_with (go_at_call 212; refine HC.out.mono ?_; rintro e wl ⟨rfl, kl⟩; have KL := oh kl; clear kl)
      exact ⟨rfl, step_inr HBD.out KL.out⟩
   exact absurd hk (by omega)
end Go.Proofs.YtljjbdbgedmadaaGreatDoor
