/- The program's Read. Conditions: none but the model's bounds. -/
import Derived.Test.YtljjbdbgedmadaaGreatDoorQm
import Derived.Maps.Own
set_option maxHeartbeats 16000000
set_option maxRecDepth 100000
namespace Go.Proofs.YtljjbdbgedmadaaGreatDoor
open Go.RowKit Go.Lib Go.Maps
namespace Dl
def sz (st : St) : Nat := st.out.length + st.es.length + st.tools.length
theorem put_sz {st u : St} {es : List Pl.Ed} (e : put st es = .inl u) : u.out.length = st.out.length + 1 ∧ u.es = st.es ∧ u.tools = st.tools := by
 unfold put at e
 split at e
 ·injection e with e; subst e; simp
 ·cases e
theorem head_sz {st u : St} {s : Bytes} (e : head st s = .inl u) : sz u ≤ sz st + 1 := by
 unfold head at e
 split at e
 ·injection e with e; subst e; exact Nat.le_succ _
 ·split at e
  ·split at e
   ·cases e
   ·split at e
    ·cases e
    ·injection e with e; subst e; simp [sz]; omega
  ·cases e
theorem body_sz {st u : St} {s : Bytes} (e : body st s = .inl u) : sz u ≤ sz st + 1 := by
 unfold body at e
 split at e
 ·injection e with e; subst e; exact Nat.le_succ _
 ·split at e
  ·split at e
   ·injection e with e; subst e; exact Nat.le_succ _
   ·cases e
  ·split at e
   ·split at e
    ·injection e with e; subst e; exact Nat.le_succ _
    ·cases e
   ·split at e
    ·split at e
     ·injection e with e; subst e; exact Nat.le_succ _
     ·cases e
    ·split at e
     ·split at e
      ·obtain ⟨h1, h2, h3⟩ := put_sz e
       unfold sz; rw [h1, h2, h3]
       omega
      ·cases e
     ·cases e
theorem routed_sz {st u : St} {s : Bytes} (e : routed st s = .inl u) : sz u ≤ sz st + 1 := by
 unfold routed at e
 split at e
 ·split at e
  ·rename_i v hv
   injection e with e; subst e
   obtain ⟨h1, h2, h3⟩ := put_sz hv
   unfold sz
   simp only [h1, h3, List.length_nil]
   omega
  ·cases e
 ·split at e
  ·split at e
   ·injection e with e; subst e; simp [sz]; omega
   ·cases e
  ·cases e
theorem step_sz {st u : St} {s : Bytes} (e : step st s = .inl u) : sz u ≤ sz st + 1 := by
 unfold step at e
 split at e
 ·split at e
  ·injection e with e; subst e; exact Nat.le_succ _
  ·cases e
 ·split at e
  ·split at e
   ·injection e with e; subst e; exact Nat.le_succ _
   ·cases e
  ·split at e
   ·exact head_sz e
   ·split at e
    ·exact body_sz e
    ·split at e
     ·split at e
      ·injection e with e; subst e; exact Nat.le_succ _
      ·cases e
     ·split at e
      ·exact routed_sz e
      ·cases e
end Dl
theorem cut_any {s sep d r : List UInt8} {b : Bool} (h : Lib.cut s sep = (d, r, b)) (hs : s.length ≤ 1000000000) (w : World) (he : Env w) :
  Calls Tryz.prog 52 #[str s, str sep] w fun e w' => e = .returned (.tuple #[str d, str r, .bool b]) ∧ Kp w w' none := by
 obtain ⟨m, hm⟩ := he.mx
 refine (Tryz.strings_Cut ⟨s.toArray⟩ ⟨sep.toArray⟩ m w (by show s.toArray.size < _; simp; omega) hm).mono ?_
 rintro e w' ⟨rfl, n, rfl⟩; refine ⟨?_, (Kp.refl w none).drewN n⟩
 rw [show (⟨s.toArray⟩ : ByteArray).data.toList = s from rfl, show (⟨sep.toArray⟩ : ByteArray).data.toList = sep from rfl, h]
def ReadIs (w : World) (x : List Dl.Ho × Int × Int) (E : Ending) (w' : World) : Prop :=
 Kp w w' none ∧ ∃ (ao : Option Addr) (cap : Nat) (ts : List HT), ts.map (·.h) = x.1 ∧ E = .returned (.tuple #[.slice ao ts.length cap, I6 x.2.1, I6 x.2.2]) ∧ HolesAt w' ao cap ts ∧ ∀ p, ao = some p → w.heap.size ≤ p.block
theorem read_bad {w w' : World} {x : List Dl.Ho × Int × Int} {n e : Int} (hx : x = ([], n, e)) (k : Kp w w' none) : ReadIs w x (.returned (.tuple #[.slice none 0 0, I6 n, I6 e])) w' := by
 subst hx; exact ⟨k, none, 0, [], rfl, rfl, ⟨fun i hi => absurd hi (by simp), by simp⟩, by simp⟩
theorem holes_of {W : World} {L : Option Nat} {R m : Nat} {tools : List (Int × Int)} {es : List Pl.Ed} {ts : List HT} {eu ov : Value} {w : World} (h : RdRest W L R m tools es ts eu ov w) : ∃ ao cap, ov = .slice ao ts.length cap ∧ HolesAt w ao cap ts ∧ ∀ p, ao = some p → W.heap.size ≤ p.block := by
 obtain ⟨ao, cap, rfl⟩ := own_slice h.oo
 refine ⟨ao, cap, rfl, ⟨(own_lies (f := htC) (fun _ => rfl) h.oo).2, fun t ht => (own_lies (f := edC) (xs := t.h.s.es) (base := W.heap.size) (e := 123) (n := t.h.s.es.length) (fun _ => rfl) (h.he t ht)).2⟩, fun p hp => ?_⟩
 subst hp; exact (h.oo.lt p.block rfl).1
theorem read_good {w w' : World} {R m : Nat} {tools : List (Int × Int)} {es : List Pl.Ed} {ts : List HT} {eu ov : Value} {x : List Dl.Ho × Int × Int} (hx : x = (ts.map (·.h), 0, 0)) (h : RdRest w none R m tools es ts eu ov w') : ReadIs w x (.returned (.tuple #[ov, I6 0, I6 0])) w' := by
 obtain ⟨ao, cap, e, hh, hf⟩ := holes_of h
 subst hx; exact ⟨h.kp, ao, cap, ts, rfl, by rw [e], hh, hf⟩
def lenOf : Value → Nat
 | .string b => b.size
 | _ => 0
def RfRel (W : World) (R m : Nat) (x : List Dl.Ho × Int × Int) (N : Nat) (v0 v6 : Value) (wr : World) : Prop :=
 ∃ (st : Dl.St) (rest : List UInt8) (n : Nat), v0 = str rest ∧ v6 = I6 (n : Int) ∧ RdAt W none R m st wr ∧ Dl.Ok st ∧ Dl.readL n st (Ru.pieces 10 rest) = x ∧ Dl.sz st + 1 ≤ n ∧ n + rest.length ≤ N + 1
theorem start_at (w : World) : RdAt w none (w.heap.size + 1) w.heap.size .start ((w.alloc (.map #[] 0)).alloc (.cells (RC 0 w.heap.size .start (.slice none 0 0) (.slice none 0 0)) 117)) := by
 have hb : ((w.alloc (.map #[] 0)).alloc (.cells (RC 0 w.heap.size .start (.slice none 0 0) (.slice none 0 0)) 117)).heap[w.heap.size + 1]? = some (.cells (RC 0 w.heap.size .start (.slice none 0 0) (.slice none 0 0)) 117 (0, 0)) := by
  have := heap_alloc_new (w.alloc (.map #[] 0)) (.cells (RC 0 w.heap.size .start (.slice none 0 0) (.slice none 0 0)) 117)
  simpa using this
 refine ⟨.slice none 0 0, .slice none 0 0, [], rfl, hb, ⟨by omega, Nat.le_refl _, by omega, ⟨_, hb⟩, ⟨.map [], 0, (World.ownsMap_made w Tryz.prog 3 _).kept ((Kp.refl _ none).alloc _) (by simp), tools_nil, Nat.le_refl _⟩, ⟨rfl, .inl ⟨rfl, rfl⟩⟩, ⟨rfl, .inl ⟨rfl, rfl⟩⟩, by simp, by simp, ((Kp.refl w none).alloc _).alloc _, fun q hq => by cases hq⟩⟩
theorem read_any (s : List UInt8) (w : World) (he : Env w) (hs : s.length ≤ 1000000000) : Calls Tryz.prog 16 #[str s] w (ReadIs w (Dl.read s)) := by
 have HEN : Hid (∀ V, Kp w V none → Env V) := oh fun V k => he.kp0 k
 by_cases hbig : 262144 < s.length
 ·have HX : Hid (Dl.read s = ([], 0, 2)) := oh (by unfold Dl.read; rw [if_pos hbig])
  have hl : ((262144 : Int) < (s.length : Int)) := by omega
  clear hbig; go_enter Tryz.func16, Tryz.ntmps16
  go_wp2_with fail
  go_ret3
  exact read_bad HX.out (Kp.refl w none)
 ·obtain ⟨x, hx⟩ : ∃ x, Dl.read s = x := ⟨_, rfl⟩
  have HX : Hid (Dl.readL 1 .start (Ru.pieces 10 s) = x) := oh (by rw [← hx]; unfold Dl.read; rw [if_neg hbig])
  rw [hx]; have hl : decide ((262144 : Int) < (s.length : Int)) = false := by simp; omega
  have HL : Hid (s.length ≤ 262144) := oh (by omega)
  have hmm := @run_makeMap Tryz.prog
  have HS : Hid (RdAt w none (w.heap.size + 1) w.heap.size .start ((w.alloc (.map #[] 0)).alloc (.cells #[.func (.func 51) #[] #[], .map (some w.heap.size), I6 0, I6 0, .slice none 0 0, I6 0, I6 0, I6 0, .bool false, I6 0, I6 0, .slice none 0 0, .slice none 0 0, .bool false] 117))) := oh (start_at w)
  clear he hs hbig hx; go_enter Tryz.func16, Tryz.ntmps16
  go_wp2_with fail
  generalize (w.alloc (.map #[] 0)).alloc (.cells #[.func (.func 51) #[] #[], .map (some w.heap.size), I6 0, I6 0, .slice none 0 0, I6 0, I6 0, I6 0, .bool false, I6 0, I6 0, .slice none 0 0, .slice none 0 0, .bool false] 117) = X at *
  obtain ⟨R, hR⟩ : ∃ R, w.heap.size + 1 = R := ⟨_, rfl⟩
  obtain ⟨m, hm⟩ : ∃ m, w.heap.size = m := ⟨_, rfl⟩
  rw [hR] at HS ⊢; rw [hm] at HS ⊢; clear hR hm hmm hl; go_loopw [0, 6] (fun v0 v6 wr => RfRel w R m x s.length v0 v6 wr) (fun v0 _ _ => lenOf v0)
  case atStart => exact ⟨.start, s, 1, rfl, rfl, HS.out, Dl.start_ok, HX.out, by simp [Dl.sz, Dl.St.start], by omega⟩
  case round =>
   obtain ⟨st, rest, n, rfl, rfl, hrd, hok, hrl, hsz, hn⟩ := hrel; have HRD := oh hrd; have HOK := oh hok; have HRL := oh hrl
   have HSZ : Hid (st.out.length ≤ 1000000 ∧ st.es.length ≤ 1000000 ∧ st.tools.length ≤ 1000000 ∧ rest.length ≤ 1000000) := oh (by have := HL.out; unfold Dl.sz at hsz; omega)
   have HNN := oh hn; have HSS := oh hsz; have HNB : Hid (n ≤ 1000000) := oh (by have := HL.out; omega)
   have HW := oh (HEN.out wr HRD.out.kp); clear hrd hok hrl hsz hn
   cases hc : Wr.cut1 10 rest with
   | none =>
    have HC := oh (fun V (k : Kp wr V none) => cut_any (s := rest) (sep := [10]) (d := rest) (r := []) (b := false) (by rw [Wr.cut_eq, hc]) (by have := HSZ.out; omega) V (HW.out.kp0 k))
    have HP : Hid (Dl.readL n st [rest] = x) := oh (by rw [← HRL.out, Ru.pieces_plain 10 rest (Wr.cut1_none.1 hc)])
    clear hc HRL; obtain ⟨eu, ov, ts, hts, hb, hr⟩ := HRD.out; have HB := oh hb; have HR := oh hr; have HT := oh hts; clear hb hr hts
    by_cases h6 : st.ph = 6
    ·have HD : Hid ((RC st.ph m st eu ov)[13]? = some (.bool true)) := oh (by rw [show (RC st.ph m st eu ov)[13]? = some (.bool (decide (st.ph = 6))) from rfl, h6]; rfl)
     by_cases hre : rest = []
     ·have HX2 : Hid (x = (ts.map (·.h), 0, 0)) := oh (by rw [← HP.out, hre, HT.out]; simp [Dl.readL, h6])
      subst hre; clear h6 HP HX; go_wp2_with (go_at_call 52; refine (HC.out _ (Kp.refl _ _)).mono ?_; rintro e w1 ⟨rfl, k1⟩; have K1 := oh k1; have c13 : w1.cell? ⟨R, 13, none⟩ = some (.bool true) := hcell (blk HB.out k1) 13 HD.out; have c12 : w1.cell? ⟨R, 12, none⟩ = some ov := hcell (blk HB.out k1) 12 rfl; clear k1)
      go_ret3
      exact read_good HX2.out (HR.out.keep K1.out)
     ·have HX2 : Hid (x = ([], (n : Int), 4)) := oh (by rw [← HP.out]; simp [Dl.readL, hre])
      have hne : (rest == ([] : List UInt8)) = false := by simpa using hre
      clear h6 HP HX hre; go_wp2_with (go_at_call 52; refine (HC.out _ (Kp.refl _ _)).mono ?_; rintro e w1 ⟨rfl, k1⟩; have K1 := oh k1; have c13 : w1.cell? ⟨R, 13, none⟩ = some (.bool true) := hcell (blk HB.out k1) 13 HD.out; have c12 : w1.cell? ⟨R, 12, none⟩ = some ov := hcell (blk HB.out k1) 12 rfl; clear k1)
      go_ret3
      exact read_bad HX2.out (HR.out.kp.trans K1.out)
    ·have HD : Hid ((RC st.ph m st eu ov)[13]? = some (.bool false)) := oh (by rw [show (RC st.ph m st eu ov)[13]? = some (.bool (decide (st.ph = 6))) from rfl]; simp [h6])
     have HX2 : Hid (x = ([], (n : Int), 4)) := oh (by rw [← HP.out]; simp [Dl.readL, h6])
     clear h6 HP HX; go_wp2_with (go_at_call 52; refine (HC.out _ (Kp.refl _ _)).mono ?_; rintro e w1 ⟨rfl, k1⟩; have K1 := oh k1; have c13 : w1.cell? ⟨R, 13, none⟩ = some (.bool false) := hcell (blk HB.out k1) 13 HD.out; have c12 : w1.cell? ⟨R, 12, none⟩ = some ov := hcell (blk HB.out k1) 12 rfl; clear k1)
     go_ret3
     exact read_bad HX2.out (HR.out.kp.trans K1.out)
   | some p =>
    obtain ⟨d, r⟩ := p
    obtain ⟨hrest, hnd⟩ := Wr.cut1_some hc
    have hlen : rest.length = d.length + r.length + 1 := by rw [hrest]; simp; omega
    have HC := oh (fun V (k : Kp wr V none) => cut_any (s := rest) (sep := [10]) (d := d) (r := r) (b := true) (by rw [Wr.cut_eq, hc]) (by have := HSZ.out; omega) V (HW.out.kp0 k))
    have HP : Hid (Dl.readL n st (d :: Ru.pieces 10 r) = x) := oh (by rw [← HRL.out, hrest, Ru.pieces_app 10 d r hnd])
    have HLN := oh (fun V (k : Kp wr V none) => rline_any w R m st d V (HRD.out.keep k) (HW.out.kp0 k) (by have := HSZ.out; omega) HOK.out HSZ.out.1 HSZ.out.2.1 HSZ.out.2.2.1)
    have HLEN := oh hlen; clear hc HRL hrest hnd hlen; have hn0 := nn n; have hn1 : (n : Int) ≤ 1000000 := by have := HNB.out; omega
    cases hst : Dl.step st d with
    | inl u =>
     have HL2 : Hid (∀ V, Kp wr V none → Calls Tryz.prog 53 #[.pointer (some ⟨R, 0, none⟩), str d] V fun E w' => E = .returned (I6 0) ∧ RdAt w none R m u w') := oh (by have := HLN.out; rw [hst] at this; exact this)
     have HP2 : Hid (Dl.readL ((n : Int) + 1) u (Ru.pieces 10 r) = x) := oh (by rw [← HP.out, Dl.readL_good hst])
     have HOU := oh (Dl.step_ok HOK.out hst); have HSU := oh (Dl.step_sz hst); clear hst HLN HP
     go_wp2_with (first | (go_at_call 52; refine (HC.out _ (Kp.refl _ _)).mono ?_; rintro e w1 ⟨rfl, k1⟩; have K1 := oh k1; clear k1) | (go_at_call 53; refine (HL2.out _ K1.out).mono ?_; rintro e wl ⟨rfl, h2⟩; have H2 := oh h2; clear h2))
     have HREL : Hid (RfRel w R m x s.length (str r) (I6 ((n : Int) + 1)) wl) := oh ⟨u, r, n + 1, rfl, by push_cast; rfl, H2.out, HOU.out, by push_cast; exact HP2.out, by have := HSU.out; have := HSS.out; omega, by have := HLEN.out; have := HNN.out; omega⟩
     have HME : Hid (lenOf (str r) < lenOf (str rest)) := oh (by have := HLEN.out; show r.toArray.size < rest.toArray.size; simp; omega)
     first | exact ⟨HREL.out, HME.out⟩ | (go_roundw; all_goals first | exact HREL.out | exact HME.out)
    | inr e =>
     have HL2 : Hid (∀ V, Kp wr V none → Calls Tryz.prog 53 #[.pointer (some ⟨R, 0, none⟩), str d] V fun E w' => E = .returned (I6 e) ∧ Kp w w' none) := oh (by have := HLN.out; rw [hst] at this; exact this)
     have HP2 : Hid (x = ([], (n : Int), e)) := oh (by rw [← HP.out, Dl.readL_bad hst])
     have he0 : (e == 0) = false := by simpa using Dl.step_err hst
     clear hst HLN HP
     go_wp2_with (first | (go_at_call 52; refine (HC.out _ (Kp.refl _ _)).mono ?_; rintro E w1 ⟨rfl, k1⟩; have K1 := oh k1; clear k1) | (go_at_call 53; refine (HL2.out _ K1.out).mono ?_; rintro E wl ⟨rfl, h2⟩; have H2 := oh h2; clear h2))
     go_ret3
     exact read_bad HP2.out H2.out
end Go.Proofs.YtljjbdbgedmadaaGreatDoor
