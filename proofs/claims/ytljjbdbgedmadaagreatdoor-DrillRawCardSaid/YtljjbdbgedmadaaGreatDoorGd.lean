/- Bytes of a text, as the walks read them. Condition: an index inside the text.
   The reference's numbers of a line in plain words: a number at a place, a pattern from a place on. No program here; no condition. -/
import Derived.Test.YtljjbdbgedmadaaGreatDoorSq
import Derived.Test.YtljjbdbgedmadaaGreatDoorDrA

namespace Go.Proofs.YtljjbdbgedmadaaGreatDoor
open Go.RowKit Go.Lib

theorem idx_at (s : List UInt8) (i : Nat) (h : i < s.length) (W : World) : (Instr.index 9 (str s) (.int .i64 (i : Int))).run Tryz.prog W = .ok (.int .u8 ((s[i]).toNat : Int)) W := by
  have h1 : (i : Int).toNat = i := rfl
  simp [go_sem, Instr.index, h]
  rfl
namespace Dl
/-- The digits that are read, at most ten. -/
def dg (d : Bytes) : Bytes := (d.takeWhile Ru.digit).take 10
theorem tw_get {p : UInt8 → Bool} : ∀ {l : Bytes} {k : Nat} (h : k < (l.takeWhile p).length), ∃ h2 : k < l.length, l[k] = (l.takeWhile p)[k] ∧ p l[k] = true
  | c :: l, k, h => by
    by_cases hc : p c = true
    · cases k with
      | zero => exact ⟨by simp, by simp [hc], by simpa using hc⟩
      | succ k =>
        have h3 : k < (l.takeWhile p).length := by simpa [List.takeWhile_cons, hc] using h
        obtain ⟨h2, h4, h5⟩ := tw_get h3
        exact ⟨by simpa using h2, by simpa [List.takeWhile_cons, hc] using h4, by simpa using h5⟩
    · simp [hc] at h
theorem tw_stop {p : UInt8 → Bool} : ∀ {l : Bytes} (h : (l.takeWhile p).length < l.length), p (l[(l.takeWhile p).length]) = false
  | c :: l, h => by
    by_cases hc : p c = true
    · have h3 : (l.takeWhile p).length < l.length := by simpa [List.takeWhile_cons, hc] using h
      have := tw_stop h3
      simpa [List.takeWhile_cons, hc] using this
    · simp [hc]
theorem dg_at {d : Bytes} {k : Nat} (h : k < (dg d).length) : ∃ h2 : k < d.length, d[k] = (dg d)[k] ∧ Ru.digit d[k] = true ∧ k < 10 := by
  have h1 : k < 10 ∧ k < (d.takeWhile Ru.digit).length := by simpa [dg, Nat.lt_min] using h
  obtain ⟨h2, h3, h4⟩ := tw_get h1.2
  exact ⟨h2, by rw [h3]; simp [dg], h4, h1.1⟩
theorem dg_end {d : Bytes} (h10 : (dg d).length < 10) (h : (dg d).length < d.length) : Ru.digit (d[(dg d).length]) = false := by
  have e : (dg d).length = (d.takeWhile Ru.digit).length := by
    simp only [dg, List.length_take] at h10 ⊢
    omega
  have h2 : (d.takeWhile Ru.digit).length < d.length := by omega
  have := tw_stop h2
  simp only [e]
  exact this
theorem dg_le (d : Bytes) : (dg d).length ≤ 10 := by simp [dg]; omega
end Dl
end Go.Proofs.YtljjbdbgedmadaaGreatDoor

namespace Go.Proofs.YtljjbdbgedmadaaGreatDoor.Dl
open Go Go.Proofs.YtljjbdbgedmadaaGreatDoor
open Go.RowKit

/-- The number behind a sign, or behind none. -/
def nmR (d : Bytes) (ng : Bool) (st : Nat) : Int × Int := if (dg d).length = 0 ∨ 9 < (dg d).length ∨ (d.head? = some 48 ∧ (1 < (dg d).length ∨ ng = true)) then (0, -1) else (if ng then -(Wr.dv (dg d) : Int) else (Wr.dv (dg d) : Int), ((st + (dg d).length : Nat) : Int))
/-- The number at a place, and the place behind it. -/
def numAt (s : Bytes) (a : Nat) : Int × Int := match refNum (s.drop a) with
  | some (n, r) => (n, ((s.length - r.length : Nat) : Int))
  | none => (0, -1)
theorem dg_len (d : Bytes) : (dg d).length ≤ d.length := by
  unfold dg
  rw [List.length_take]
  have : (d.takeWhile Ru.digit).length ≤ d.length := (List.takeWhile_sublist _).length_le
  omega
theorem refNum_dg (l : Bytes) : refNum l = if (dg (Wr.mag l)).length = 0 ∨ 9 < (dg (Wr.mag l)).length ∨ ((Wr.mag l).head? = some 48 ∧ (1 < (dg (Wr.mag l)).length ∨ Wr.neg l = true)) then none else some (if Wr.neg l then -(Wr.dv (dg (Wr.mag l)) : Int) else (Wr.dv (dg (Wr.mag l)) : Int), (Wr.mag l).drop (dg (Wr.mag l)).length) := rfl
theorem numAt_gen {s : Bytes} {a st : Nat} {ng : Bool} (h1 : st ≤ s.length) (hn : Wr.neg (s.drop a) = ng) (hm : Wr.mag (s.drop a) = s.drop st) : numAt s a = nmR (s.drop st) ng st := by
  have hl := dg_len (s.drop st)
  have hd : (s.drop st).length = s.length - st := List.length_drop
  unfold numAt nmR
  rw [refNum_dg, hm, hn]
  by_cases hc : (dg (s.drop st)).length = 0 ∨ 9 < (dg (s.drop st)).length ∨ ((s.drop st).head? = some 48 ∧ (1 < (dg (s.drop st)).length ∨ ng = true))
  · rw [if_pos hc, if_pos hc]
  · rw [if_neg hc, if_neg hc]
    simp only [List.length_drop]
    have : s.length - (s.length - st - (dg (s.drop st)).length) = st + (dg (s.drop st)).length := by omega
    rw [this]
theorem numAt_plus {s : Bytes} {a : Nat} (h : a < s.length) (hn : s[a] ≠ 45) : numAt s a = nmR (s.drop a) false a := by
  have hneg : Wr.neg (s.drop a) = false := by
    rw [List.drop_eq_getElem_cons h]
    have hh : (s[a] :: s.drop (a + 1)).head? = some s[a] := rfl
    unfold Wr.neg
    rw [hh]
    simp [hn]
  exact numAt_gen (by omega) hneg (by unfold Wr.mag; rw [hneg]; rfl)
theorem numAt_end {s : Bytes} {a : Nat} (h : s.length ≤ a) : numAt s a = (0, -1) := by
  unfold numAt
  rw [List.drop_eq_nil_of_le h]
  rfl
theorem numAt_minus {s : Bytes} {a : Nat} (h : a < s.length) (hn : s[a] = 45) : numAt s a = nmR (s.drop (a + 1)) true (a + 1) := by
  have hc := List.drop_eq_getElem_cons h
  have hneg : Wr.neg (s.drop a) = true := by
    rw [hc, hn]
    rfl
  exact numAt_gen (by omega) hneg (by unfold Wr.mag; rw [hneg, hc]; rfl)
theorem refNum_place {s r : Bytes} {a : Nat} {n : Int} (h : refNum (s.drop a) = some (n, r)) : numAt s a = (n, ((s.length - r.length : Nat) : Int)) ∧ r = s.drop (s.length - r.length) ∧ -1000000000 < n ∧ n < 1000000000 := by
  obtain ⟨h1, h2, _⟩ := refNum_some h
  refine ⟨by unfold numAt; rw [h], ?_, h2⟩
  have hs : r <:+ s := (by rw [h1]; exact ⟨_, rfl⟩ : r <:+ s.drop a).trans (List.drop_suffix a s)
  exact (List.suffix_iff_eq_drop.1 hs)
theorem refNum_none {s : Bytes} {a : Nat} (h : refNum (s.drop a) = none) : numAt s a = (0, -1) := by
  unfold numAt; rw [h]
/-- A pattern and its parts. -/
theorem scan_ref {p : Bytes} {ps : List Bytes} (h35 : 35 ∉ p) (h : ∀ q ∈ ps, 35 ∉ q ∧ ∀ c, q.head? = some c → numC c = false) (hne : ∀ q ∈ ps.dropLast, q ≠ []) (l : Bytes) : refScan (p ++ patOf ps) l = scan p ps l := by
  rw [refScan_part _ _ _ h35]
  unfold scan
  congr 1
  funext r
  exact scanR_ref ps r h hne
theorem refScan_num {ps l : Bytes} : refScan (35 :: ps) l = match refNum l with | some (n, r) => (refScan ps r).map (n :: ·) | none => none := by
  rw [refScan.eq_def]
  simp only [if_true]
  cases refNum l <;> rfl
theorem refScan_byte {c : UInt8} {ps l : Bytes} (h : c ≠ 35) : refScan (c :: ps) l = match l with | d :: r => if d = c then refScan ps r else none | [] => none := by
  rw [refScan.eq_def]; simp only [if_neg h]
  cases l <;> rfl
/-- A pattern from a place on, in a text from a place on, behind the numbers read so far. -/
def Upto (pat s : Bytes) (k a : Nat) (acc : List Int) : Prop := refScan pat s = (refScan (pat.drop k) (s.drop a)).map (acc ++ ·)
theorem upto_start (pat s : Bytes) : Upto pat s 0 0 [] := by
  unfold Upto
  cases h : refScan pat s <;> simp [h]
theorem upto_end {pat s : Bytes} {a : Nat} {acc : List Int} (h : Upto pat s pat.length a acc) (ha : a ≤ s.length) : refScan pat s = if a = s.length then some acc else none := by
  unfold Upto at h
  rw [h, List.drop_length]
  by_cases e : a = s.length
  · subst e; rw [List.drop_length, if_pos rfl]; simp [refScan]
  · rw [if_neg e]
    have : s.drop a ≠ [] := fun h => e (by have := List.drop_eq_nil_iff.1 h; omega)
    rw [refScan]; simp [this]
theorem upto_byte {pat s : Bytes} {k a : Nat} {acc : List Int} (h : Upto pat s k a acc) (hk : k < pat.length) (hc : pat[k] ≠ 35) (ha : a < s.length) (he : s[a] = pat[k]) : Upto pat s (k + 1) (a + 1) acc := by
  unfold Upto at *
  rw [h, List.drop_eq_getElem_cons hk, List.drop_eq_getElem_cons ha, refScan_byte hc]
  simp only [he, if_true]
theorem upto_byte_end {pat s : Bytes} {k a : Nat} {acc : List Int} (h : Upto pat s k a acc) (hk : k < pat.length) (hc : pat[k] ≠ 35) (ha : s.length ≤ a) : refScan pat s = none := by
  unfold Upto at h
  rw [h, List.drop_eq_getElem_cons hk, List.drop_eq_nil_of_le ha, refScan_byte hc]
  rfl
theorem upto_byte_no {pat s : Bytes} {k a : Nat} {acc : List Int} (h : Upto pat s k a acc) (hk : k < pat.length) (hc : pat[k] ≠ 35) (ha : a < s.length) (he : s[a] ≠ pat[k]) : refScan pat s = none := by
  unfold Upto at h
  rw [h, List.drop_eq_getElem_cons hk, List.drop_eq_getElem_cons ha, refScan_byte hc]
  simp only [if_neg he]
  rfl
theorem upto_num {pat s r : Bytes} {k a : Nat} {acc : List Int} {n : Int} (h : Upto pat s k a acc) (hk : k < pat.length) (hc : pat[k] = 35) (hr : refNum (s.drop a) = some (n, r)) : Upto pat s (k + 1) (s.length - r.length) (acc ++ [n]) := by
  unfold Upto at *
  have e := (refNum_place hr).2.1
  rw [h, List.drop_eq_getElem_cons hk, hc, refScan_num, hr]
  simp only
  rw [← e]
  cases refScan (pat.drop (k + 1)) r <;> simp
theorem upto_num_no {pat s : Bytes} {k a : Nat} {acc : List Int} (h : Upto pat s k a acc) (hk : k < pat.length) (hc : pat[k] = 35) (hr : refNum (s.drop a) = none) : refScan pat s = none := by
  unfold Upto at h
  rw [h, List.drop_eq_getElem_cons hk, hc, refScan_num, hr]
  rfl
end Go.Proofs.YtljjbdbgedmadaaGreatDoor.Dl
