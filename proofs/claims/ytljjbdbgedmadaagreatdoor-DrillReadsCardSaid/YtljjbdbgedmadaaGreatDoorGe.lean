/- Bytes of a text, as the walks read them. Condition: an index inside the text. The reference's numbers of a line in plain words: a number at a place, a pattern from a place on. No program here; no condition.
   The reference's number at a place of a text (number). Condition: a text of at most 10^9 bytes. The reference's numbers of a line of the form of a pattern (numbers). Conditions: a text of at most 10^9 bytes, a pattern of at most 1000. The patterns of the reference's lines, and what its numbers comes to at each. Condition: a text of at most 10^9 bytes. -/
import Derived.Test.YtljjbdbgedmadaaGreatDoorSq
import Derived.Test.YtljjbdbgedmadaaGreatDoorDrA
import Derived.Test.YtljjbdbgedmadaaGreatDoorSc
import Derived.BigQuiet
import Derived.Test.YtljjbdbgedmadaaGreatDoorGa
import Derived.Test.YtljjbdbgedmadaaGreatDoorQs
namespace Go.Proofs.YtljjbdbgedmadaaGreatDoor
open Go.RowKit Go.Lib
theorem idx_at (s : List UInt8) (i : Nat) (h : i < s.length) (W : World) : (Instr.index 9 (str s) (I6 (i : Int))).run Tryz.prog W = .ok (.int .u8 ((s[i]).toNat : Int)) W := by
 have h1 : (i : Int).toNat = i := rfl
 simp [go_sem, Instr.index, h]
 rfl
namespace Dl
def dg (d : Bytes) : Bytes := (d.takeWhile Ru.digit).take 10
theorem tw_get {p : UInt8 → Bool} : ∀ {l : Bytes} {k : Nat} (h : k < (l.takeWhile p).length), ∃ h2 : k < l.length, l[k] = (l.takeWhile p)[k] ∧ p l[k] = true
 | c :: l, k, h => by
  by_cases hc : p c = true
  ·cases k with
   | zero => exact ⟨by simp, by simp [hc], by simpa using hc⟩
   | succ k =>
    have h3 : k < (l.takeWhile p).length := by simpa [List.takeWhile_cons, hc] using h
    obtain ⟨h2, h4, h5⟩ := tw_get h3
    exact ⟨by simpa using h2, by simpa [List.takeWhile_cons, hc] using h4, by simpa using h5⟩
  ·simp [hc] at h
theorem tw_stop {p : UInt8 → Bool} : ∀ {l : Bytes} (h : (l.takeWhile p).length < l.length), p (l[(l.takeWhile p).length]) = false
 | c :: l, h => by
  by_cases hc : p c = true
  ·have h3 : (l.takeWhile p).length < l.length := by simpa [List.takeWhile_cons, hc] using h
   have := tw_stop h3
   simpa [List.takeWhile_cons, hc] using this
  ·simp [hc]
theorem dg_at {d : Bytes} {k : Nat} (h : k < (dg d).length) : ∃ h2 : k < d.length, d[k] = (dg d)[k] ∧ Ru.digit d[k] = true ∧ k < 10 := by
 have h1 : k < 10 ∧ k < (d.takeWhile Ru.digit).length := by simpa [dg, Nat.lt_min] using h
 obtain ⟨h2, h3, h4⟩ := tw_get h1.2
 exact ⟨h2, by rw [h3]; simp [dg], h4, h1.1⟩
theorem dg_end {d : Bytes} (h10 : (dg d).length < 10) (h : (dg d).length < d.length) : Ru.digit (d[(dg d).length]) = false := by
 have e : (dg d).length = (d.takeWhile Ru.digit).length := by
  simp only [dg, List.length_take] at h10 ⊢
  omega
 have h2 : (d.takeWhile Ru.digit).length < d.length := by omega
 have := tw_stop h2
 simp only [e]
 exact this
theorem dg_le (d : Bytes) : (dg d).length ≤ 10 := by simp [dg]; omega
end Dl
end Go.Proofs.YtljjbdbgedmadaaGreatDoor
namespace Go.Proofs.YtljjbdbgedmadaaGreatDoor.Dl
open Go Go.Proofs.YtljjbdbgedmadaaGreatDoor
open Go.RowKit
def nmR (d : Bytes) (ng : Bool) (st : Nat) : Int × Int := if (dg d).length = 0 ∨ 9 < (dg d).length ∨ (d.head? = some 48 ∧ (1 < (dg d).length ∨ ng = true)) then (0, -1) else (if ng then -(Wr.dv (dg d) : Int) else (Wr.dv (dg d) : Int), ((st + (dg d).length : Nat) : Int))
def numAt (s : Bytes) (a : Nat) : Int × Int := match refNum (s.drop a) with
 | some (n, r) => (n, ((s.length - r.length : Nat) : Int))
 | none => (0, -1)
theorem dg_len (d : Bytes) : (dg d).length ≤ d.length := by
 unfold dg; rw [List.length_take]
 have : (d.takeWhile Ru.digit).length ≤ d.length := (List.takeWhile_sublist _).length_le
 omega
theorem refNum_dg (l : Bytes) : refNum l = if (dg (Wr.mag l)).length = 0 ∨ 9 < (dg (Wr.mag l)).length ∨ ((Wr.mag l).head? = some 48 ∧ (1 < (dg (Wr.mag l)).length ∨ Wr.neg l = true)) then none else some (if Wr.neg l then -(Wr.dv (dg (Wr.mag l)) : Int) else (Wr.dv (dg (Wr.mag l)) : Int), (Wr.mag l).drop (dg (Wr.mag l)).length) := rfl
theorem numAt_gen {s : Bytes} {a st : Nat} {ng : Bool} (h1 : st ≤ s.length) (hn : Wr.neg (s.drop a) = ng) (hm : Wr.mag (s.drop a) = s.drop st) : numAt s a = nmR (s.drop st) ng st := by
 have hl := dg_len (s.drop st)
 have hd : (s.drop st).length = s.length - st := List.length_drop
 unfold numAt nmR; rw [refNum_dg, hm, hn]
 by_cases hc : (dg (s.drop st)).length = 0 ∨ 9 < (dg (s.drop st)).length ∨ ((s.drop st).head? = some 48 ∧ (1 < (dg (s.drop st)).length ∨ ng = true))
 ·rw [if_pos hc, if_pos hc]
 ·rw [if_neg hc, if_neg hc]; simp only [List.length_drop]
  have : s.length - (s.length - st - (dg (s.drop st)).length) = st + (dg (s.drop st)).length := by omega
  rw [this]
theorem numAt_plus {s : Bytes} {a : Nat} (h : a < s.length) (hn : s[a] ≠ 45) : numAt s a = nmR (s.drop a) false a := by
 have hneg : Wr.neg (s.drop a) = false := by
  rw [List.drop_eq_getElem_cons h]; have hh : (s[a] :: s.drop (a + 1)).head? = some s[a] := rfl
  unfold Wr.neg; rw [hh]
  simp [hn]
 exact numAt_gen (by omega) hneg (by unfold Wr.mag; rw [hneg]; rfl)
theorem numAt_end {s : Bytes} {a : Nat} (h : s.length ≤ a) : numAt s a = (0, -1) := by
 unfold numAt; rw [List.drop_eq_nil_of_le h]
 rfl
theorem numAt_minus {s : Bytes} {a : Nat} (h : a < s.length) (hn : s[a] = 45) : numAt s a = nmR (s.drop (a + 1)) true (a + 1) := by
 have hc := List.drop_eq_getElem_cons h
 have hneg : Wr.neg (s.drop a) = true := by
  rw [hc, hn]
  rfl
 exact numAt_gen (by omega) hneg (by unfold Wr.mag; rw [hneg, hc]; rfl)
theorem refNum_place {s r : Bytes} {a : Nat} {n : Int} (h : refNum (s.drop a) = some (n, r)) : numAt s a = (n, ((s.length - r.length : Nat) : Int)) ∧ r = s.drop (s.length - r.length) ∧ -1000000000 < n ∧ n < 1000000000 := by
 obtain ⟨h1, h2, _⟩ := refNum_some h
 refine ⟨by unfold numAt; rw [h], ?_, h2⟩
 have hs : r <:+ s := (by rw [h1]; exact ⟨_, rfl⟩ : r <:+ s.drop a).trans (List.drop_suffix a s)
 exact (List.suffix_iff_eq_drop.1 hs)
theorem refNum_none {s : Bytes} {a : Nat} (h : refNum (s.drop a) = none) : numAt s a = (0, -1) := by
 unfold numAt; rw [h]
theorem scan_ref {p : Bytes} {ps : List Bytes} (h35 : 35 ∉ p) (h : ∀ q ∈ ps, 35 ∉ q ∧ ∀ c, q.head? = some c → numC c = false) (hne : ∀ q ∈ ps.dropLast, q ≠ []) (l : Bytes) : refScan (p ++ patOf ps) l = scan p ps l := by
 rw [refScan_part _ _ _ h35]; unfold scan
 congr 1
 funext r
 exact scanR_ref ps r h hne
theorem refScan_num {ps l : Bytes} : refScan (35 :: ps) l = match refNum l with | some (n, r) => (refScan ps r).map (n :: ·) | none => none := by
 rw [refScan.eq_def]; simp only [if_true]
 cases refNum l <;> rfl
theorem refScan_byte {c : UInt8} {ps l : Bytes} (h : c ≠ 35) : refScan (c :: ps) l = match l with | d :: r => if d = c then refScan ps r else none | [] => none := by
 rw [refScan.eq_def]; simp only [if_neg h]
 cases l <;> rfl
def Upto (pat s : Bytes) (k a : Nat) (acc : List Int) : Prop := refScan pat s = (refScan (pat.drop k) (s.drop a)).map (acc ++ ·)
theorem upto_start (pat s : Bytes) : Upto pat s 0 0 [] := by
 unfold Upto
 cases h : refScan pat s <;> simp [h]
theorem upto_end {pat s : Bytes} {a : Nat} {acc : List Int} (h : Upto pat s pat.length a acc) (ha : a ≤ s.length) : refScan pat s = if a = s.length then some acc else none := by
 unfold Upto at h; rw [h, List.drop_length]
 by_cases e : a = s.length
 ·subst e; rw [List.drop_length, if_pos rfl]; simp [refScan]
 ·rw [if_neg e]; have : s.drop a ≠ [] := fun h => e (by have := List.drop_eq_nil_iff.1 h; omega)
  rw [refScan]; simp [this]
theorem upto_byte {pat s : Bytes} {k a : Nat} {acc : List Int} (h : Upto pat s k a acc) (hk : k < pat.length) (hc : pat[k] ≠ 35) (ha : a < s.length) (he : s[a] = pat[k]) : Upto pat s (k + 1) (a + 1) acc := by
 unfold Upto at *
 rw [h, List.drop_eq_getElem_cons hk, List.drop_eq_getElem_cons ha, refScan_byte hc]; simp only [he, if_true]
theorem upto_byte_end {pat s : Bytes} {k a : Nat} {acc : List Int} (h : Upto pat s k a acc) (hk : k < pat.length) (hc : pat[k] ≠ 35) (ha : s.length ≤ a) : refScan pat s = none := by
 unfold Upto at h; rw [h, List.drop_eq_getElem_cons hk, List.drop_eq_nil_of_le ha, refScan_byte hc]
 rfl
theorem upto_byte_no {pat s : Bytes} {k a : Nat} {acc : List Int} (h : Upto pat s k a acc) (hk : k < pat.length) (hc : pat[k] ≠ 35) (ha : a < s.length) (he : s[a] ≠ pat[k]) : refScan pat s = none := by
 unfold Upto at h; rw [h, List.drop_eq_getElem_cons hk, List.drop_eq_getElem_cons ha, refScan_byte hc]
 simp only [if_neg he]
 rfl
theorem upto_num {pat s r : Bytes} {k a : Nat} {acc : List Int} {n : Int} (h : Upto pat s k a acc) (hk : k < pat.length) (hc : pat[k] = 35) (hr : refNum (s.drop a) = some (n, r)) : Upto pat s (k + 1) (s.length - r.length) (acc ++ [n]) := by
 unfold Upto at *
 have e := (refNum_place hr).2.1
 rw [h, List.drop_eq_getElem_cons hk, hc, refScan_num, hr]; simp only
 rw [← e]
 cases refScan (pat.drop (k + 1)) r <;> simp
theorem upto_num_no {pat s : Bytes} {k a : Nat} {acc : List Int} (h : Upto pat s k a acc) (hk : k < pat.length) (hc : pat[k] = 35) (hr : refNum (s.drop a) = none) : refScan pat s = none := by
 unfold Upto at h; rw [h, List.drop_eq_getElem_cons hk, hc, refScan_num, hr]
 rfl
end Go.Proofs.YtljjbdbgedmadaaGreatDoor.Dl
set_option maxHeartbeats 8000000
set_option maxRecDepth 100000
namespace Go.Proofs.YtljjbdbgedmadaaGreatDoor
open Go.RowKit Go.Lib
def NmRel (d : List UInt8) (st : Nat) (w : World) (iv vv : Value) (wr : World) : Prop := ∃ k : Nat, k ≤ (Dl.dg d).length ∧ iv = I6 ((st + k : Nat) : Int) ∧ vv = I6 (Wr.dv ((Dl.dg d).take k) : Int) ∧ wr = w
theorem dv_small : ∀ (l : List UInt8) (k : Nat), k ≤ l.length → k ≤ 10 → (∀ c ∈ l, c.toNat ≤ 57) → Wr.dv (l.take k) < 10 ^ k
 | l, 0, _, _, _ => by simp [Wr.dv]
 | l, k + 1, h, h10, hc => by
  rw [Wr.dv_step l k (by omega), Nat.pow_succ]; have h1 := dv_small l k (by omega) (by omega) hc
  have h2 := hc l[k] (List.getElem_mem (by omega))
  omega
theorem dv_le {l : List UInt8} {k : Nat} (h : k ≤ l.length) (h10 : k ≤ 10) (hc : ∀ c ∈ l, c.toNat ≤ 57) : Wr.dv (l.take k) ≤ 10000000000 := by
 have h1 := dv_small l k h h10 hc
 have h2 : 10 ^ k ≤ 10 ^ 10 := Nat.pow_le_pow_right (by decide) h10
 omega
theorem dg_dig (d : List UInt8) : ∀ c ∈ Dl.dg d, c.toNat ≤ 57 := fun c hc => by
 obtain ⟨k, hk, rfl⟩ := List.mem_iff_getElem.1 hc
 obtain ⟨h2, h3, h4, _⟩ := Dl.dg_at hk
 rw [← h3]; exact (Dl.digit_iff.1 h4).2
theorem nm_no {d : List UInt8} {ng : Bool} {st : Nat} (h : (Dl.dg d).length = 0 ∨ 9 < (Dl.dg d).length ∨ (d.head? = some 48 ∧ (1 < (Dl.dg d).length ∨ ng = true))) : Dl.nmR d ng st = (0, -1) := by unfold Dl.nmR; rw [if_pos h]
theorem nm_yes {d : List UInt8} {ng : Bool} {st : Nat} (h : ¬ ((Dl.dg d).length = 0 ∨ 9 < (Dl.dg d).length ∨ (d.head? = some 48 ∧ (1 < (Dl.dg d).length ∨ ng = true)))) : Dl.nmR d ng st = (if ng then -(Wr.dv (Dl.dg d) : Int) else (Wr.dv (Dl.dg d) : Int), ((st + (Dl.dg d).length : Nat) : Int)) := by unfold Dl.nmR; rw [if_neg h]
theorem nm_ret {p : Int × Int} {a b : Int} (h : p = (a, b)) (w : World) : Ending.returned (.tuple #[I6 a, I6 b]) = .returned (.tuple #[I6 p.1, I6 p.2]) ∧ w = w := by subst h; exact ⟨rfl, rfl⟩
theorem wrap_number_plus (a : Nat) (h : a ≤ 1000000000) : Hid (wrap64 ((a : Int) + 10) = (a : Int) + 10 ∧ wrap64 ((a : Int) + 9) = (a : Int) + 9 ∧ wrap64 ((a : Int) + 1) = (a : Int) + 1) := oh ⟨by unfold wrap64; omega, by unfold wrap64; omega, by unfold wrap64; omega⟩
theorem number_plus (s : List UInt8) (a : Nat) (w : World) (hs : s.length ≤ 1000000000) (hst : a < s.length) (h45 : s[a] ≠ 45) : Calls Tryz.prog 176 #[str s, I6 (a : Int)] w fun E w' => E = .returned (.tuple #[I6 (Dl.numAt s a).1, I6 (Dl.numAt s a).2]) ∧ w = w' := by
 rw [Dl.numAt_plus (by omega) h45]; obtain ⟨d, hd⟩ : ∃ d, s.drop a = d := ⟨_, rfl⟩
 have HD := oh hd; rw [hd]; have hs0 : (a : Int) < (s.length : Int) := by omega
 have hs1 : (a : Int) < (s.length : Int) := by omega
 have ha0 := nn a; have ha9 : (a : Int) ≤ 1000000000 := by omega
 have hi0 := idx_at s a hst
 obtain ⟨c0, hc0⟩ : ∃ c, (s[a]).toNat = c := ⟨_, rfl⟩
 rw [hc0] at hi0
 have e0 : ((c0 : Int) == 45) = false := by
  have : c0 ≠ 45 := fun e => h45 (UInt8.toNat_inj.1 (by rw [hc0, e]; rfl))
  simp; omega
 have HH : Hid (d.head? = some s[a]) := oh (by rw [← hd, List.head?_drop, List.getElem?_eq_getElem hst])
 have HC0 : Hid ((s[a]).toNat = c0) := oh hc0
 have HC48 : Hid (c0 = 48 → d.head? = some 48) := oh (fun h => by rw [HH.out]; exact congrArg some (UInt8.toNat_inj.1 (by rw [HC0.out, h]; rfl)))
 have HC49 : Hid (d.head? = some 48 → c0 = 48) := oh (fun h => by rw [HH.out] at h; injection h with h; rw [← HC0.out, h]; rfl)
 have HX9 := wrap_number_plus a (by omega)
 clear hd hc0 h45; go_enter Tryz.func176, Tryz.ntmps176
 go_wp2_with fail
 go_loopw [8, 9] (fun iv vv wr => NmRel d a w iv vv wr) (fun iv _ _ => s.length - (intOf iv).toNat)
 case atStart => exact ⟨0, Nat.zero_le _, rfl, rfl, rfl⟩
 case round =>
  obtain ⟨k, hk, rfl, rfl, rfl⟩ := hrel
  have hk10 := Dl.dg_le d
  have hv := dv_le (l := Dl.dg d) hk (by omega) (dg_dig d)
  obtain ⟨v, hvv⟩ : ∃ v, Wr.dv ((Dl.dg d).take k) = v := ⟨_, rfl⟩
  have hdl : d.length = s.length - a := by rw [← HD.out, List.length_drop]
  rw [hvv] at hv ⊢; obtain ⟨j, hj⟩ : ∃ j, a + k = j := ⟨_, rfl⟩
  rw [hj]; have hj0 := nn j; have hv0 := nn v
  by_cases hlt : k < (Dl.dg d).length
  ·obtain ⟨h2, h3, h4, h5⟩ := Dl.dg_at hlt
   have hjs : j < s.length := by omega
   have hix := idx_at s j hjs
   have hsj : s[j] = (Dl.dg d)[k] := by rw [← h3]; subst hj; simp only [← HD.out, List.getElem_drop]
   have hdg := Dl.digit_iff.1 h4
   rw [h3, ← hsj] at hdg; have hst2 := Wr.dv_step (Dl.dg d) k hlt
   rw [hvv, ← hsj] at hst2; obtain ⟨c, hc⟩ : ∃ c, (s[j]).toNat = c := ⟨_, rfl⟩
   rw [hc] at hix hdg hst2; have hj1 : (j : Int) < (s.length : Int) := by omega
   have hj2 : (j : Int) < (a : Int) + 10 := by omega
   have hc1 : (48 : Int) ≤ (c : Int) := by omega
   have hc2 : (c : Int) ≤ 57 := by omega
   have HREL : Hid (NmRel d a wr (I6 ((j : Int) + 1)) (I6 (10 * (v : Int) + ((c : Int) - 48))) wr) := oh ⟨k + 1, hlt, by rw [← hj]; push_cast; first | rfl | (congr 1; omega), by rw [hst2]; congr 1; omega, rfl⟩
   have HME : Hid (s.length - (intOf (I6 ((j : Int) + 1))).toNat < s.length - (intOf (I6 (j : Int))).toNat) := oh (by simp [intOf]; omega)
   have w2 : wrap64 (10 * (v : Int)) = 10 * (v : Int) := by unfold wrap64; omega
   have w3 : IntKind.u8.wrap ((c : Int) - 48) = (c : Int) - 48 := by rw [IntKind.wrap_u8]; omega
   have W4 : Hid (wrap64 (10 * (v : Int) + ((c : Int) - 48)) = 10 * (v : Int) + ((c : Int) - 48)) := oh (by clear w2 w3; unfold wrap64; omega)
   clear hk hk10 hv hdl hlt h2 h3 h4 h5 hsj hdg hst2 hc hjs hvv hj; have w1 := HX9.out.1
   go_wp2_with fail
   try rw [W4.out]
   first | exact ⟨HREL.out, HME.out⟩ | (go_roundw; all_goals first | exact HREL.out | exact HME.out)
  ·have hkn : k = (Dl.dg d).length := by omega
   have HKN : Hid ((Dl.dg d).length = k) := oh hkn.symm
   have HV : Hid (Wr.dv (Dl.dg d) = v) := oh (by rw [← hvv, hkn, List.take_length])
   have HJ : Hid (a + k = j) := oh hj
   have hkd : (Dl.dg d).length = j - a ∧ a ≤ j := by omega
   have HDN : Hid (∀ c, k < 10 → j < s.length → s[j]? = some c → Ru.digit c = false) := oh (fun c h10 hjl hcc => by
    have h1 := Dl.dg_end (d := d) (by omega) (by omega)
    have h2 : s[j] = d[(Dl.dg d).length]'(by omega) := by subst hj; subst hkn; simp only [← HD.out, List.getElem_drop]
    rw [List.getElem?_eq_getElem hjl, h2] at hcc; injection hcc with hcc
    rw [← hcc]; exact h1)
   clear hvv hv hlt hkn hdl
   by_cases hjl : j < s.length
   ·have x1 : (j : Int) < (s.length : Int) := by omega
    by_cases h10 : k = 10
    ·have x2 : ¬ (j : Int) < (a : Int) + 10 := by omega
     clear hk10 HDN hjl; have q1 : ((j : Int) == (a : Int)) = false := by simp; omega
     have HR : Hid (Dl.nmR d false a = (0, -1)) := oh (nm_no (.inr (.inl (by omega))))
     have q3 : (a : Int) + 9 < (j : Int) := by omega
     clear hk hj h10 hkd; have x9 := HX9.out; go_wp2_with fail
     all_goals
      go_ret2
      exact nm_ret HR.out _
    ·have x2 : (j : Int) < (a : Int) + 10 := by omega
     have hix := idx_at s j hjl
     obtain ⟨c, hc⟩ : ∃ c, (s[j]).toNat = c := ⟨_, rfl⟩
     have hnd2 : ¬ (48 ≤ c ∧ c ≤ 57) := fun h => by
      have hnd := HDN.out s[j] (by omega) hjl (List.getElem?_eq_getElem hjl)
      rw [← hc] at h; rw [Dl.digit_iff.2 h] at hnd; cases hnd
     rw [hc] at hix; clear hk hk10 hj h10 HDN hjl hc
     by_cases h4 : 48 ≤ c
     ·have x3 : (48 : Int) ≤ (c : Int) := by omega
      have x4 : ¬ (c : Int) ≤ 57 := by omega
      clear hnd2 h4
      by_cases hn0 : j = a
      ·have HR : Hid (Dl.nmR d false a = (0, -1)) := oh (nm_no (.inl (by omega)))
       have q1 : ((j : Int) == (a : Int)) = true := by rw [hn0]; simp
       clear hn0; have x9 := HX9.out; go_wp2_with fail
       all_goals
        go_ret2
        exact nm_ret HR.out _
      ·have q1 : ((j : Int) == (a : Int)) = false := by simp; omega
       by_cases hn9 : a + 9 < j
       ·have HR : Hid (Dl.nmR d false a = (0, -1)) := oh (nm_no (.inr (.inl (by omega))))
        have q3 : (a : Int) + 9 < (j : Int) := by omega
        clear hn0 hn9; have x9 := HX9.out; go_wp2_with fail
        all_goals
         go_ret2
         exact nm_ret HR.out _
       have q3 : ¬ (a : Int) + 9 < (j : Int) := by omega
       by_cases h48 : c0 = 48
       ·have q4 : ((c0 : Int) == 48) = true := by rw [h48]; rfl
        by_cases hn1 : a + 1 < j
        ·have HR : Hid (Dl.nmR d false a = (0, -1)) := oh (nm_no (.inr (.inr ⟨HC48.out h48, .inl (by omega)⟩)))
         have q6 : (a : Int) + 1 < (j : Int) := by omega
         clear h48 hn1; have x9 := HX9.out; go_wp2_with fail
         all_goals
          go_ret2
          exact nm_ret HR.out _
        ·have HR : Hid (Dl.nmR d false a = ((v : Int), (j : Int))) := oh (by rw [nm_yes (by rintro (h | h | ⟨_, h | h⟩); exact hn0 (by omega); exact hn9 (by omega); exact hn1 (by omega); cases h), HV.out, ← HJ.out, HKN.out]; rfl)
         have q6 : ¬ (a : Int) + 1 < (j : Int) := by omega
         clear h48 hn1; have x9 := HX9.out; go_wp2_with fail
         all_goals
          go_ret2
          exact nm_ret HR.out _
       ·have HR : Hid (Dl.nmR d false a = ((v : Int), (j : Int))) := oh (by rw [nm_yes (by rintro (h | h | ⟨h, _⟩); exact hn0 (by omega); exact hn9 (by omega); exact h48 (HC49.out h)), HV.out, ← HJ.out, HKN.out]; rfl)
        have q4 : ((c0 : Int) == 48) = false := by simp; omega
        clear h48; have x9 := HX9.out; go_wp2_with fail
        all_goals
         go_ret2
         exact nm_ret HR.out _
     ·have x3 : ¬ (48 : Int) ≤ (c : Int) := by omega
      clear hnd2 h4
      by_cases hn0 : j = a
      ·have HR : Hid (Dl.nmR d false a = (0, -1)) := oh (nm_no (.inl (by omega)))
       have q1 : ((j : Int) == (a : Int)) = true := by rw [hn0]; simp
       clear hn0; have x9 := HX9.out; go_wp2_with fail
       all_goals
        go_ret2
        exact nm_ret HR.out _
      ·have q1 : ((j : Int) == (a : Int)) = false := by simp; omega
       by_cases hn9 : a + 9 < j
       ·have HR : Hid (Dl.nmR d false a = (0, -1)) := oh (nm_no (.inr (.inl (by omega))))
        have q3 : (a : Int) + 9 < (j : Int) := by omega
        clear hn0 hn9; have x9 := HX9.out; go_wp2_with fail
        all_goals
         go_ret2
         exact nm_ret HR.out _
       have q3 : ¬ (a : Int) + 9 < (j : Int) := by omega
       by_cases h48 : c0 = 48
       ·have q4 : ((c0 : Int) == 48) = true := by rw [h48]; rfl
        by_cases hn1 : a + 1 < j
        ·have HR : Hid (Dl.nmR d false a = (0, -1)) := oh (nm_no (.inr (.inr ⟨HC48.out h48, .inl (by omega)⟩)))
         have q6 : (a : Int) + 1 < (j : Int) := by omega
         clear h48 hn1; have x9 := HX9.out; go_wp2_with fail
         all_goals
          go_ret2
          exact nm_ret HR.out _
        ·have HR : Hid (Dl.nmR d false a = ((v : Int), (j : Int))) := oh (by rw [nm_yes (by rintro (h | h | ⟨_, h | h⟩); exact hn0 (by omega); exact hn9 (by omega); exact hn1 (by omega); cases h), HV.out, ← HJ.out, HKN.out]; rfl)
         have q6 : ¬ (a : Int) + 1 < (j : Int) := by omega
         clear h48 hn1; have x9 := HX9.out; go_wp2_with fail
         all_goals
          go_ret2
          exact nm_ret HR.out _
       ·have HR : Hid (Dl.nmR d false a = ((v : Int), (j : Int))) := oh (by rw [nm_yes (by rintro (h | h | ⟨h, _⟩); exact hn0 (by omega); exact hn9 (by omega); exact h48 (HC49.out h)), HV.out, ← HJ.out, HKN.out]; rfl)
        have q4 : ((c0 : Int) == 48) = false := by simp; omega
        clear h48; have x9 := HX9.out; go_wp2_with fail
        all_goals
         go_ret2
         exact nm_ret HR.out _
   ·have x1 : ¬ (j : Int) < (s.length : Int) := by omega
    clear hk hk10 hj HDN hjl
    by_cases hn0 : j = a
    ·have HR : Hid (Dl.nmR d false a = (0, -1)) := oh (nm_no (.inl (by omega)))
     have q1 : ((j : Int) == (a : Int)) = true := by rw [hn0]; simp
     clear hn0; have x9 := HX9.out; go_wp2_with fail
     all_goals
      go_ret2
      exact nm_ret HR.out _
    ·have q1 : ((j : Int) == (a : Int)) = false := by simp; omega
     by_cases hn9 : a + 9 < j
     ·have HR : Hid (Dl.nmR d false a = (0, -1)) := oh (nm_no (.inr (.inl (by omega))))
      have q3 : (a : Int) + 9 < (j : Int) := by omega
      clear hn0 hn9; have x9 := HX9.out; go_wp2_with fail
      all_goals
       go_ret2
       exact nm_ret HR.out _
     have q3 : ¬ (a : Int) + 9 < (j : Int) := by omega
     by_cases h48 : c0 = 48
     ·have q4 : ((c0 : Int) == 48) = true := by rw [h48]; rfl
      by_cases hn1 : a + 1 < j
      ·have HR : Hid (Dl.nmR d false a = (0, -1)) := oh (nm_no (.inr (.inr ⟨HC48.out h48, .inl (by omega)⟩)))
       have q6 : (a : Int) + 1 < (j : Int) := by omega
       clear h48 hn1; have x9 := HX9.out; go_wp2_with fail
       all_goals
        go_ret2
        exact nm_ret HR.out _
      ·have HR : Hid (Dl.nmR d false a = ((v : Int), (j : Int))) := oh (by rw [nm_yes (by rintro (h | h | ⟨_, h | h⟩); exact hn0 (by omega); exact hn9 (by omega); exact hn1 (by omega); cases h), HV.out, ← HJ.out, HKN.out]; rfl)
       have q6 : ¬ (a : Int) + 1 < (j : Int) := by omega
       clear h48 hn1; have x9 := HX9.out; go_wp2_with fail
       all_goals
        go_ret2
        exact nm_ret HR.out _
     ·have HR : Hid (Dl.nmR d false a = ((v : Int), (j : Int))) := oh (by rw [nm_yes (by rintro (h | h | ⟨h, _⟩); exact hn0 (by omega); exact hn9 (by omega); exact h48 (HC49.out h)), HV.out, ← HJ.out, HKN.out]; rfl)
      have q4 : ((c0 : Int) == 48) = false := by simp; omega
      clear h48; have x9 := HX9.out; go_wp2_with fail
      all_goals
       go_ret2
       exact nm_ret HR.out _
--MINUS
theorem wrap_number_minus (a : Nat) (h : a ≤ 1000000000) : Hid (wrap64 (((a : Int) + 1) + 10) = ((a : Int) + 1) + 10 ∧ wrap64 (((a : Int) + 1) + 9) = ((a : Int) + 1) + 9 ∧ wrap64 (((a : Int) + 1) + 1) = ((a : Int) + 1) + 1) := oh ⟨by unfold wrap64; omega, by unfold wrap64; omega, by unfold wrap64; omega⟩
theorem number_minus (s : List UInt8) (a : Nat) (w : World) (hs : s.length ≤ 1000000000) (hst : (a + 1) < s.length) (h45 : s[a] = 45) : Calls Tryz.prog 176 #[str s, I6 (a : Int)] w fun E w' => E = .returned (.tuple #[I6 (Dl.numAt s a).1, I6 (Dl.numAt s a).2]) ∧ w = w' := by
 rw [Dl.numAt_minus (by omega) h45]; obtain ⟨d, hd⟩ : ∃ d, s.drop (a + 1) = d := ⟨_, rfl⟩
 have HD := oh hd; rw [hd]; have hs0 : ((a : Int) + 1) < (s.length : Int) := by omega
 have hs1 : (a : Int) < (s.length : Int) := by omega
 have ha0 := nn a; have ha9 : (a : Int) ≤ 1000000000 := by omega
 have hi0 := idx_at s (a + 1) hst
 push_cast at hi0
 have hi1 := idx_at s a (by omega)
 rw [h45] at hi1; obtain ⟨c0, hc0⟩ : ∃ c, (s[(a + 1)]).toNat = c := ⟨_, rfl⟩
 rw [hc0] at hi0; have e0 : (((45 : UInt8).toNat : Int) == 45) = true := rfl
 have HH : Hid (d.head? = some s[(a + 1)]) := oh (by rw [← hd, List.head?_drop, List.getElem?_eq_getElem hst])
 have HC0 : Hid ((s[(a + 1)]).toNat = c0) := oh hc0
 have HC48 : Hid (c0 = 48 → d.head? = some 48) := oh (fun h => by rw [HH.out]; exact congrArg some (UInt8.toNat_inj.1 (by rw [HC0.out, h]; rfl)))
 have HC49 : Hid (d.head? = some 48 → c0 = 48) := oh (fun h => by rw [HH.out] at h; injection h with h; rw [← HC0.out, h]; rfl)
 have HX9 := wrap_number_minus a (by omega)
 clear hd hc0 h45; go_enter Tryz.func176, Tryz.ntmps176
 go_wp2_with fail
 go_loopw [8, 9] (fun iv vv wr => NmRel d (a + 1) w iv vv wr) (fun iv _ _ => s.length - (intOf iv).toNat)
 case atStart => exact ⟨0, Nat.zero_le _, by push_cast; rfl, rfl, rfl⟩
 case round =>
  obtain ⟨k, hk, rfl, rfl, rfl⟩ := hrel
  have hk10 := Dl.dg_le d
  have hv := dv_le (l := Dl.dg d) hk (by omega) (dg_dig d)
  obtain ⟨v, hvv⟩ : ∃ v, Wr.dv ((Dl.dg d).take k) = v := ⟨_, rfl⟩
  have hdl : d.length = s.length - (a + 1) := by rw [← HD.out, List.length_drop]
  rw [hvv] at hv ⊢; obtain ⟨j, hj⟩ : ∃ j, (a + 1) + k = j := ⟨_, rfl⟩
  rw [hj]; have hj0 := nn j; have hv0 := nn v
  by_cases hlt : k < (Dl.dg d).length
  ·obtain ⟨h2, h3, h4, h5⟩ := Dl.dg_at hlt
   have hjs : j < s.length := by omega
   have hix := idx_at s j hjs
   have hsj : s[j] = (Dl.dg d)[k] := by rw [← h3]; subst hj; simp only [← HD.out, List.getElem_drop]
   have hdg := Dl.digit_iff.1 h4
   rw [h3, ← hsj] at hdg; have hst2 := Wr.dv_step (Dl.dg d) k hlt
   rw [hvv, ← hsj] at hst2; obtain ⟨c, hc⟩ : ∃ c, (s[j]).toNat = c := ⟨_, rfl⟩
   rw [hc] at hix hdg hst2; have hj1 : (j : Int) < (s.length : Int) := by omega
   have hj2 : (j : Int) < ((a : Int) + 1) + 10 := by omega
   have hc1 : (48 : Int) ≤ (c : Int) := by omega
   have hc2 : (c : Int) ≤ 57 := by omega
   have HREL : Hid (NmRel d (a + 1) wr (I6 ((j : Int) + 1)) (I6 (10 * (v : Int) + ((c : Int) - 48))) wr) := oh ⟨k + 1, hlt, by rw [← hj]; push_cast; first | rfl | (congr 1; omega), by rw [hst2]; congr 1; omega, rfl⟩
   have HME : Hid (s.length - (intOf (I6 ((j : Int) + 1))).toNat < s.length - (intOf (I6 (j : Int))).toNat) := oh (by simp [intOf]; omega)
   have w2 : wrap64 (10 * (v : Int)) = 10 * (v : Int) := by unfold wrap64; omega
   have w3 : IntKind.u8.wrap ((c : Int) - 48) = (c : Int) - 48 := by rw [IntKind.wrap_u8]; omega
   have W4 : Hid (wrap64 (10 * (v : Int) + ((c : Int) - 48)) = 10 * (v : Int) + ((c : Int) - 48)) := oh (by clear w2 w3; unfold wrap64; omega)
   clear hk hk10 hv hdl hlt h2 h3 h4 h5 hsj hdg hst2 hc hjs hvv hj; have w1 := HX9.out.1
   go_wp2_with fail
   try rw [W4.out]
   first | exact ⟨HREL.out, HME.out⟩ | (go_roundw; all_goals first | exact HREL.out | exact HME.out)
  ·have hkn : k = (Dl.dg d).length := by omega
   have HKN : Hid ((Dl.dg d).length = k) := oh hkn.symm
   have HV : Hid (Wr.dv (Dl.dg d) = v) := oh (by rw [← hvv, hkn, List.take_length])
   have HJ : Hid ((a + 1) + k = j) := oh hj
   have hkd : (Dl.dg d).length = j - (a + 1) ∧ (a + 1) ≤ j := by omega
   have HDN : Hid (∀ c, k < 10 → j < s.length → s[j]? = some c → Ru.digit c = false) := oh (fun c h10 hjl hcc => by
    have h1 := Dl.dg_end (d := d) (by omega) (by omega)
    have h2 : s[j] = d[(Dl.dg d).length]'(by omega) := by subst hj; subst hkn; simp only [← HD.out, List.getElem_drop]
    rw [List.getElem?_eq_getElem hjl, h2] at hcc; injection hcc with hcc
    rw [← hcc]; exact h1)
   have HW7 : Hid (wrap64 (-(v : Int)) = -(v : Int)) := oh (by unfold wrap64; omega)
   clear hvv hv hlt hkn hdl
   by_cases hjl : j < s.length
   ·have x1 : (j : Int) < (s.length : Int) := by omega
    by_cases h10 : k = 10
    ·have x2 : ¬ (j : Int) < ((a : Int) + 1) + 10 := by omega
     clear hk10 HDN hjl; have q1 : ((j : Int) == ((a : Int) + 1)) = false := by simp; omega
     have HR : Hid (Dl.nmR d true (a + 1) = (0, -1)) := oh (nm_no (.inr (.inl (by omega))))
     have q3 : ((a : Int) + 1) + 9 < (j : Int) := by omega
     clear hk hj h10 hkd; have x9 := HX9.out; go_wp2_with fail
     all_goals
      go_ret2
      exact nm_ret HR.out _
    ·have x2 : (j : Int) < ((a : Int) + 1) + 10 := by omega
     have hix := idx_at s j hjl
     obtain ⟨c, hc⟩ : ∃ c, (s[j]).toNat = c := ⟨_, rfl⟩
     have hnd2 : ¬ (48 ≤ c ∧ c ≤ 57) := fun h => by
      have hnd := HDN.out s[j] (by omega) hjl (List.getElem?_eq_getElem hjl)
      rw [← hc] at h; rw [Dl.digit_iff.2 h] at hnd; cases hnd
     rw [hc] at hix; clear hk hk10 hj h10 HDN hjl hc
     by_cases h4 : 48 ≤ c
     ·have x3 : (48 : Int) ≤ (c : Int) := by omega
      have x4 : ¬ (c : Int) ≤ 57 := by omega
      clear hnd2 h4
      by_cases hn0 : j = (a + 1)
      ·have HR : Hid (Dl.nmR d true (a + 1) = (0, -1)) := oh (nm_no (.inl (by omega)))
       have q1 : ((j : Int) == ((a : Int) + 1)) = true := by rw [hn0]; simp
       clear hn0; have x9 := HX9.out; go_wp2_with fail
       all_goals
        go_ret2
        exact nm_ret HR.out _
      ·have q1 : ((j : Int) == ((a : Int) + 1)) = false := by simp; omega
       by_cases hn9 : (a + 1) + 9 < j
       ·have HR : Hid (Dl.nmR d true (a + 1) = (0, -1)) := oh (nm_no (.inr (.inl (by omega))))
        have q3 : ((a : Int) + 1) + 9 < (j : Int) := by omega
        clear hn0 hn9; have x9 := HX9.out; go_wp2_with fail
        all_goals
         go_ret2
         exact nm_ret HR.out _
       have q3 : ¬ ((a : Int) + 1) + 9 < (j : Int) := by omega
       by_cases h48 : c0 = 48
       ·have HR : Hid (Dl.nmR d true (a + 1) = (0, -1)) := oh (nm_no (.inr (.inr ⟨HC48.out h48, .inr rfl⟩)))
        have q4 : ((c0 : Int) == 48) = true := by rw [h48]; rfl
        clear h48; have x9 := HX9.out; go_wp2_with fail
        all_goals
         go_ret2
         exact nm_ret HR.out _
       ·have HR : Hid (Dl.nmR d true (a + 1) = (-(v : Int), (j : Int))) := oh (by rw [nm_yes (by rintro (h | h | ⟨h, _⟩); exact hn0 (by omega); exact hn9 (by omega); exact h48 (HC49.out h)), HV.out, ← HJ.out, HKN.out]; rfl)
        have q4 : ((c0 : Int) == 48) = false := by simp; omega
        clear h48; have x9 := HX9.out; have w7 := HW7.out; go_wp2_with fail
        all_goals
         go_ret2
         exact nm_ret HR.out _
     ·have x3 : ¬ (48 : Int) ≤ (c : Int) := by omega
      clear hnd2 h4
      by_cases hn0 : j = (a + 1)
      ·have HR : Hid (Dl.nmR d true (a + 1) = (0, -1)) := oh (nm_no (.inl (by omega)))
       have q1 : ((j : Int) == ((a : Int) + 1)) = true := by rw [hn0]; simp
       clear hn0; have x9 := HX9.out; go_wp2_with fail
       all_goals
        go_ret2
        exact nm_ret HR.out _
      ·have q1 : ((j : Int) == ((a : Int) + 1)) = false := by simp; omega
       by_cases hn9 : (a + 1) + 9 < j
       ·have HR : Hid (Dl.nmR d true (a + 1) = (0, -1)) := oh (nm_no (.inr (.inl (by omega))))
        have q3 : ((a : Int) + 1) + 9 < (j : Int) := by omega
        clear hn0 hn9; have x9 := HX9.out; go_wp2_with fail
        all_goals
         go_ret2
         exact nm_ret HR.out _
       have q3 : ¬ ((a : Int) + 1) + 9 < (j : Int) := by omega
       by_cases h48 : c0 = 48
       ·have HR : Hid (Dl.nmR d true (a + 1) = (0, -1)) := oh (nm_no (.inr (.inr ⟨HC48.out h48, .inr rfl⟩)))
        have q4 : ((c0 : Int) == 48) = true := by rw [h48]; rfl
        clear h48; have x9 := HX9.out; go_wp2_with fail
        all_goals
         go_ret2
         exact nm_ret HR.out _
       ·have HR : Hid (Dl.nmR d true (a + 1) = (-(v : Int), (j : Int))) := oh (by rw [nm_yes (by rintro (h | h | ⟨h, _⟩); exact hn0 (by omega); exact hn9 (by omega); exact h48 (HC49.out h)), HV.out, ← HJ.out, HKN.out]; rfl)
        have q4 : ((c0 : Int) == 48) = false := by simp; omega
        clear h48; have x9 := HX9.out; have w7 := HW7.out; go_wp2_with fail
        all_goals
         go_ret2
         exact nm_ret HR.out _
   ·have x1 : ¬ (j : Int) < (s.length : Int) := by omega
    clear hk hk10 hj HDN hjl
    by_cases hn0 : j = (a + 1)
    ·have HR : Hid (Dl.nmR d true (a + 1) = (0, -1)) := oh (nm_no (.inl (by omega)))
     have q1 : ((j : Int) == ((a : Int) + 1)) = true := by rw [hn0]; simp
     clear hn0; have x9 := HX9.out; go_wp2_with fail
     all_goals
      go_ret2
      exact nm_ret HR.out _
    ·have q1 : ((j : Int) == ((a : Int) + 1)) = false := by simp; omega
     by_cases hn9 : (a + 1) + 9 < j
     ·have HR : Hid (Dl.nmR d true (a + 1) = (0, -1)) := oh (nm_no (.inr (.inl (by omega))))
      have q3 : ((a : Int) + 1) + 9 < (j : Int) := by omega
      clear hn0 hn9; have x9 := HX9.out; go_wp2_with fail
      all_goals
       go_ret2
       exact nm_ret HR.out _
     have q3 : ¬ ((a : Int) + 1) + 9 < (j : Int) := by omega
     by_cases h48 : c0 = 48
     ·have HR : Hid (Dl.nmR d true (a + 1) = (0, -1)) := oh (nm_no (.inr (.inr ⟨HC48.out h48, .inr rfl⟩)))
      have q4 : ((c0 : Int) == 48) = true := by rw [h48]; rfl
      clear h48; have x9 := HX9.out; go_wp2_with fail
      all_goals
       go_ret2
       exact nm_ret HR.out _
     ·have HR : Hid (Dl.nmR d true (a + 1) = (-(v : Int), (j : Int))) := oh (by rw [nm_yes (by rintro (h | h | ⟨h, _⟩); exact hn0 (by omega); exact hn9 (by omega); exact h48 (HC49.out h)), HV.out, ← HJ.out, HKN.out]; rfl)
      have q4 : ((c0 : Int) == 48) = false := by simp; omega
      clear h48; have x9 := HX9.out; have w7 := HW7.out; go_wp2_with fail
      all_goals
       go_ret2
       exact nm_ret HR.out _
theorem nm_ret2 {p : Int × Int} {a b : Int} (h : p = (a, b)) (w : World) : Ending.returned (.tuple #[I6 a, I6 b]) = .returned (.tuple #[I6 p.1, I6 p.2]) ∧ w = w := by subst h; exact ⟨rfl, rfl⟩
theorem number_end (s : List UInt8) (a : Nat) (w : World) (_hs : s.length ≤ 1000000000) (ha : a = s.length) : Calls Tryz.prog 176 #[str s, I6 (a : Int)] w fun E w' => E = .returned (.tuple #[I6 (Dl.numAt s a).1, I6 (Dl.numAt s a).2]) ∧ w = w' := by
 have HR : Hid (Dl.numAt s a = (0, -1)) := oh (Dl.numAt_end (by omega))
 have h0 : ¬ (a : Int) < (s.length : Int) := by omega
 clear ha; go_enter Tryz.func176, Tryz.ntmps176
 go_wp2_with fail
 go_loopw [8, 9] (fun iv vv wr => iv = I6 (a : Int) ∧ vv = I6 0 ∧ wr = w) (fun _ _ _ => 0)
 case atStart => exact ⟨rfl, rfl, rfl⟩
 case round =>
  obtain ⟨rfl, rfl, rfl⟩ := hrel; go_wp2_with fail
  go_ret2
  exact nm_ret2 HR.out _
theorem number_sign (s : List UInt8) (a : Nat) (w : World) (hs : s.length ≤ 1000000000) (ha : a + 1 = s.length) (h45 : s[a] = 45) : Calls Tryz.prog 176 #[str s, I6 (a : Int)] w fun E w' => E = .returned (.tuple #[I6 (Dl.numAt s a).1, I6 (Dl.numAt s a).2]) ∧ w = w' := by
 have HR : Hid (Dl.numAt s a = (0, -1)) := oh (by
  rw [Dl.numAt_minus (by omega) h45, List.drop_eq_nil_of_le (by omega)]
  rfl)
 have ha0 := nn a; have h0 : (a : Int) < (s.length : Int) := by omega
 have h1 : ¬ (a : Int) + 1 < (s.length : Int) := by omega
 have ha9 : (a : Int) ≤ 1000000000 := by omega
 have hi1 := idx_at s a (by omega)
 rw [h45] at hi1; have e0 : (((45 : UInt8).toNat : Int) == 45) = true := rfl
 clear ha h45; go_enter Tryz.func176, Tryz.ntmps176
 go_wp2_with fail
 go_loopw [8, 9] (fun iv vv wr => iv = I6 ((a : Int) + 1) ∧ vv = I6 0 ∧ wr = w) (fun _ _ _ => 0)
 case atStart => exact ⟨rfl, rfl, rfl⟩
 case round =>
  obtain ⟨rfl, rfl, rfl⟩ := hrel; go_wp2_with fail
  go_ret2
  exact nm_ret2 HR.out _
theorem number_any (s : List UInt8) (a : Nat) (w : World) (hs : s.length ≤ 1000000000) (ha : a ≤ s.length) : Calls Tryz.prog 176 #[str s, I6 (a : Int)] w fun E w' => E = .returned (.tuple #[I6 (Dl.numAt s a).1, I6 (Dl.numAt s a).2]) ∧ w = w' := by
 by_cases h1 : a = s.length
 ·exact number_end s a w hs h1
 have h2 : a < s.length := by omega
 by_cases h45 : s[a] = 45
 ·by_cases h3 : a + 1 = s.length
  ·exact number_sign s a w hs h3 h45
  ·exact number_minus s a w hs (by omega) h45
 ·exact number_plus s a w hs h2 h45
def NsRel (pat s : List UInt8) (w : World) (ov av iv : Value) (wr : World) : Prop := ∃ (k a : Nat) (acc : List Int), k ≤ pat.length ∧ a ≤ s.length ∧ acc.length ≤ k ∧ iv = I6 (k : Int) ∧ av = I6 (a : Int) ∧ wr.ownsRow w.heap.size 3 1 ov acc.length (acc.flatMap intVal) ∧ Kp w wr none ∧ Dl.Upto pat s k a acc
theorem own_above {w w' : World} {n cap : Nat} {ao : Option Addr} {row : List Value} (h : w'.ownsRow w.heap.size 3 1 (.slice ao n cap) n row) : ∀ q, ao = some q → w.heap.size ≤ q.block := fun q hq => by
 subst hq
 rcases h.2 with ⟨h, _⟩ | ⟨g, cap', cur, h, hb, _⟩
 ·cases h
 ·injection h with h; injection h with h; rw [h]; exact hb
theorem numbers_any (pat s : List UInt8) (w : World) (hp : pat.length ≤ 1000) (hs : s.length ≤ 1000000000) : Calls Tryz.prog 140 #[str s, str pat] w fun E w' => ScanIs (Dl.refScan pat s) w E w' := by
 obtain ⟨x, hx⟩ : ∃ x, Dl.refScan pat s = x := ⟨_, rfl⟩
 rw [hx]; have HX := oh hx; obtain ⟨i0, hi, hz0, hz1, hz2⟩ := info_parts infoInt
 have hl0 : (0 : Int) ≤ (s.length : Int) := Int.natCast_nonneg _
 clear hx; go_enter Tryz.func140, Tryz.ntmps140
 go_wp2_with fail
 go_loopw [6, 7, 8] (fun ov av iv wr => NsRel pat s w ov av iv wr) (fun _ _ iv _ => pat.length - (intOf iv).toNat)
 case atStart => exact ⟨0, 0, [], Nat.zero_le _, Nat.zero_le _, Nat.le_refl _, rfl, rfl, ⟨rfl, .inl ⟨rfl, rfl⟩⟩, Kp.refl _ _, Dl.upto_start _ _⟩
 case round =>
  obtain ⟨k, a, acc, hk, ha, hacc, rfl, rfl, hown, hkp, hup⟩ := hrel; have HO := oh hown; have HK := oh hkp; have HU := oh hup
  have hk0 := nn k; have ha0 := nn a; have hk9 : (k : Int) ≤ 1000 := by omega
  have ha9 : (a : Int) ≤ 1000000000 := by omega
  clear hown hkp hup
  by_cases hlt : k < pat.length
  ·have hk1 : (k : Int) < (pat.length : Int) := by omega
   have hix := idx_at pat k hlt
   have HME : Hid (pat.length - (intOf (I6 ((k : Int) + 1))).toNat < pat.length - (intOf (I6 (k : Int))).toNat) := oh (by simp [intOf]; omega)
   by_cases hc : pat[k] = 35
   ·rw [hc] at hix; have e1 : (((35 : UInt8).toNat : Int) != 35) = false := rfl
    cases hr : Dl.refNum (s.drop a) with
    | none =>
     have HN : Hid (∀ V, Calls Tryz.prog 176 #[str s, I6 (a : Int)] V fun E w' => E = .returned (.tuple #[I6 0, I6 (-1)]) ∧ V = w') := oh fun V => by
      have := number_any s a V hs ha
      rw [Dl.refNum_none hr] at this; exact this
     have HR : Hid (x = none) := oh (by rw [← HX.out]; exact Dl.upto_num_no HU.out hlt hc hr)
     clear hr hc; go_wp2_with (go_at_call 176; refine (HN.out _).mono ?_; rintro e w2 ⟨rfl, rfl⟩)
     go_ret2
     exact scan_no HR.out none 0 0 HK.out
    | some q =>
     obtain ⟨n, r⟩ := q
     obtain ⟨hq1, hq2, hq3⟩ := Dl.refNum_place hr
     have hu2 := Dl.upto_num HU.out hlt hc hr
     obtain ⟨p, hpp⟩ : ∃ p, s.length - r.length = p := ⟨_, rfl⟩
     rw [hpp] at hq1 hu2; have hps : p ≤ s.length := by omega
     have hp0 := nn p; have HU2 := oh hu2
     have HN : Hid (∀ V, Calls Tryz.prog 176 #[str s, I6 (a : Int)] V fun E w' => E = .returned (.tuple #[I6 n, I6 (p : Int)]) ∧ V = w') := oh fun V => by
      have := number_any s a V hs ha
      rw [hq1] at this; exact this
     clear hr hc hq1 hq2 hq3 hu2 hpp
     go_wp2_with (first | (go_at_call 176; refine (HN.out _).mono ?_; rintro e w2 ⟨rfl, rfl⟩) | (at_builtin; go_must (refine wpList_app (f := intVal) rfl (.tmp 44) (.tmp 46) w.heap.size 83 3 rfl i0 _ 1 8 Tryz.underlying83 hi hz0 hz1 hz2 rfl (by omega) (fun _ => rfl) (by intro x u hu; simp [intVal] at hu; subst hu; rfl) u6 acc.length _ rfl (own_kp HO.out ((Kp.refl _ none).alloc _)) _ [n] rfl (int_list n) (by unfold maxLen; simp; omega) (by simp; omega) (by have := HK.out.size; simp; omega) ?_); intro v3 w7 ho hg _; have HO7 := oh ho; have HG7 := oh hg; have KA := oh (Kp.row (HK.out.alloc (.cells #[I6 n] 3)) hg (fun q hq => (HO.out.lt q hq).1)); clear ho hg))
     have HREL : Hid (NsRel pat s w v3 (I6 (p : Int)) (I6 ((k : Int) + 1)) w7) := oh ⟨k + 1, p, acc ++ [n], hlt, hps, by rw [List.length_append]; simp; omega, by push_cast; rfl, rfl, by rw [List.length_append, List.flatMap_append]; exact HO7.out, KA.out, HU2.out⟩
     first | exact ⟨HREL.out, HME.out⟩ | (go_roundw; all_goals first | exact HREL.out | exact HME.out)
   ·obtain ⟨c, hcc⟩ : ∃ c, (pat[k]).toNat = c := ⟨_, rfl⟩
    rw [hcc] at hix
    have e1 : ((c : Int) != 35) = true := by
     have : c ≠ 35 := fun e => hc (UInt8.toNat_inj.1 (by rw [hcc, e]; rfl))
     simp; omega
    by_cases has : a < s.length
    ·have ha1 : decide (s.length ≤ a) = false := by simp; omega
     have hix2 := idx_at s a has
     obtain ⟨d, hdd⟩ : ∃ d, (s[a]).toNat = d := ⟨_, rfl⟩
     rw [hdd] at hix2
     by_cases he : s[a] = pat[k]
     ·have e2 : ((d : Int) != (c : Int)) = false := by rw [← hdd, ← hcc, he]; simp
      have HU2 := oh (Dl.upto_byte HU.out hlt hc has he)
      have has' : a + 1 ≤ s.length := has
      clear hc he hcc hdd has; go_upto_region 7 with fail
      go_quiet (fail)
      go_wp2_with fail
      have HREL : Hid (NsRel pat s w u6 (I6 ((a : Int) + 1)) (I6 ((k : Int) + 1)) (wr.drewN nq)) := oh ⟨k + 1, a + 1, acc, hlt, has', by omega, by push_cast; rfl, by push_cast; rfl, own_kp HO.out ((Kp.refl _ none).drewN nq), HK.out.drewN nq, HU2.out⟩
      first | exact ⟨HREL.out, HME.out⟩ | (go_roundw; all_goals first | exact HREL.out | exact HME.out)
     ·have e2 : ((d : Int) != (c : Int)) = true := by
       have : d ≠ c := fun e => he (UInt8.toNat_inj.1 (by rw [hcc, hdd, e]))
       simp; omega
      have HR : Hid (x = none) := oh (by rw [← HX.out]; exact Dl.upto_byte_no HU.out hlt hc has he)
      clear hc he hcc hdd has; go_upto_region 7 with fail
      go_quiet (fail)
      go_wp2_with fail
      go_ret2
      exact scan_no HR.out none 0 0 (HK.out.drewN nq)
    ·have ha1 : decide (s.length ≤ a) = true := by simp; omega
     have HR : Hid (x = none) := oh (by rw [← HX.out]; exact Dl.upto_byte_end HU.out hlt hc (by omega))
     clear hc has hcc; go_upto_region 7 with fail
     go_quiet (fail)
     go_wp2_with fail
     go_ret2
     exact scan_no HR.out none 0 0 (HK.out.drewN nq)
  ·have hkk : k = pat.length := by omega
   have hk1 : ¬ (k : Int) < (pat.length : Int) := by omega
   obtain ⟨ao, cap, hlv⟩ := own_slice HO.out
   subst hlv; have HE : Hid (x = if a = s.length then some acc else none) := oh (by rw [← HX.out]; exact Dl.upto_end (hkk ▸ HU.out) ha)
   have HL := oh (own_lies (m := 1) (f := intVal) (fun _ => rfl) HO.out).2
   have HAB := oh (own_above HO.out); clear hkk
   by_cases hae : a = s.length
   ·have e3 : ((a : Int) == (s.length : Int)) = true := by rw [hae]; simp
    have HR : Hid (x = some acc) := oh (by rw [HE.out, if_pos hae])
    clear hae; go_wp2_with fail
    go_ret2; rw [HR.out]
    exact ⟨⟨ao, cap, rfl, HL.out, HAB.out⟩, HK.out⟩
   ·have e3 : ((a : Int) == (s.length : Int)) = false := by simp; omega
    have HR : Hid (x = none) := oh (by rw [HE.out, if_neg hae])
    clear hae; go_wp2_with fail
    go_ret2
    exact scan_no HR.out ao _ cap HK.out
structure RPat (pat p : List UInt8) (ps : List (List UInt8)) : Prop where
 eq : pat = p ++ Dl.patOf ps
 no : 35 ∉ p
 all : ∀ q ∈ ps, 35 ∉ q ∧ (q.head?.map Dl.numC).getD false = false
 ne : ∀ q ∈ ps.dropLast, q ≠ []
 len : pat.length ≤ 1000
theorem RPat.scan {pat p : List UInt8} {ps : List (List UInt8)} (h : RPat pat p ps) (s : List UInt8) : Dl.refScan pat s = Dl.scan p ps s := by
 rw [h.eq]; exact Dl.scan_ref h.no (fun q hq => ⟨(h.all q hq).1, fun c hc => by have := (h.all q hq).2; rw [hc] at this; exact this⟩) h.ne s
theorem nums_yes {pat p : List UInt8} {ps : List (List UInt8)} (hp : RPat pat p ps) {s : List UInt8} (hs : s.length ≤ 1000000000) {ns : List Int} (h : Dl.scan p ps s = some ns) (w : World) :
  Calls Tryz.prog 140 #[str s, str pat] w fun E w' => (∃ ao cap, E = .returned (.tuple #[.slice ao ns.length cap, .bool true]) ∧ LiesAt 1 intVal w' ao cap ns ∧ ∀ q, ao = some q → w.heap.size ≤ q.block) ∧ Kp w w' none := by
 have := numbers_any pat s w hp.len hs
 rw [hp.scan, h] at this; exact this
theorem nums_not {pat p : List UInt8} {ps : List (List UInt8)} (hp : RPat pat p ps) {s : List UInt8} (hs : s.length ≤ 1000000000) (h : Dl.scan p ps s = none) (w : World) :
  Calls Tryz.prog 140 #[str s, str pat] w fun E w' => (∃ ao n cap, E = .returned (.tuple #[.slice ao n cap, .bool false])) ∧ Kp w w' none := by
 have := numbers_any pat s w hp.len hs
 rw [hp.scan, h] at this; exact this
theorem rpat_plated : RPat [59, 115, 112, 97, 110, 32, 35, 32, 35, 32, 112, 108, 97, 116, 101, 100] [59, 115, 112, 97, 110, 32] [[32], [32, 112, 108, 97, 116, 101, 100]] := ⟨by decide +kernel, by decide +kernel, by decide +kernel, by decide +kernel, by decide +kernel⟩
theorem rpat_plain : RPat [59, 115, 112, 97, 110, 32, 35, 32, 35, 32, 112, 108, 97, 105, 110] [59, 115, 112, 97, 110, 32] [[32], [32, 112, 108, 97, 105, 110]] := ⟨by decide +kernel, by decide +kernel, by decide +kernel, by decide +kernel, by decide +kernel⟩
theorem rpat_tool : RPat [84, 35] [84] [[]] := ⟨by decide +kernel, by decide +kernel, by decide +kernel, by decide +kernel, by decide +kernel⟩
theorem rpat_slot : RPat [71, 48, 48, 88, 35, 89, 35] [71, 48, 48, 88] [[89], []] := ⟨by decide +kernel, by decide +kernel, by decide +kernel, by decide +kernel, by decide +kernel⟩
theorem rpat_point : RPat [88, 35, 89, 35] [88] [[89], []] := ⟨by decide +kernel, by decide +kernel, by decide +kernel, by decide +kernel, by decide +kernel⟩
theorem rpat_head : RPat [84, 35, 67, 35] [84] [[67], []] := ⟨by decide +kernel, by decide +kernel, by decide +kernel, by decide +kernel, by decide +kernel⟩
theorem rpat_g1 : RPat [71, 48, 49, 88, 35, 89, 35] [71, 48, 49, 88] [[89], []] := ⟨by decide +kernel, by decide +kernel, by decide +kernel, by decide +kernel, by decide +kernel⟩
theorem rpat_g3 : RPat [71, 48, 51, 88, 35, 89, 35, 73, 35, 74, 35] [71, 48, 51, 88] [[89], [73], [74], []] := ⟨by decide +kernel, by decide +kernel, by decide +kernel, by decide +kernel, by decide +kernel⟩
theorem rpat_g2 : RPat [71, 48, 50, 88, 35, 89, 35, 73, 35, 74, 35] [71, 48, 50, 88] [[89], [73], [74], []] := ⟨by decide +kernel, by decide +kernel, by decide +kernel, by decide +kernel, by decide +kernel⟩
end Go.Proofs.YtljjbdbgedmadaaGreatDoor
