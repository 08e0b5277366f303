/- The plain law of the lists, third part: the number with which a text begins. No program is in sight. -/
import Derived.Test.YtldjhjbodhhnbaaDoorLiQ
import Derived.Test.YtldjhjbodhhnbaaDoorPlainB
namespace Go.Proofs.YtldjhjbodhhnbaaDoor.Li
open Go Go.Proofs.YtldjhjbodhhnbaaDoor

def dg (c : UInt8) : Prop := 48 ≤ c.toNat ∧ c.toNat ≤ 57
structure IsNum (S : Bytes) (n : Int) (r : Bytes) : Prop where
  eq : S = Lib.itoa n ++ r
  i : Wr.I64 n
  stop : ∀ c, r.head? = some c → ¬ dg c
/-- How many bytes stand ahead of the digits. -/
def sgn (S : Bytes) : Nat := if Wr.neg S then 1 else 0
/-- What the loop over the digits has computed. -/
def val (S : Bytes) (j : Nat) : Nat := Wr.dv ((Wr.mag S).take (j - sgn S))

theorem IsNum.neg {S : Bytes} {n : Int} {r : Bytes} (h : IsNum S n r) : Wr.neg S = Wr.neg (Lib.itoa n) := by
  rw [h.eq]
  unfold Wr.neg
  cases hd : Lib.itoa n with
  | nil => exact absurd hd (Wr.itoa_ne n)
  | cons c t => rfl
theorem IsNum.sgn {S : Bytes} {n : Int} {r : Bytes} (h : IsNum S n r) : sgn S = if Wr.neg (Lib.itoa n) then 1 else 0 := by unfold Li.sgn; rw [h.neg]
theorem IsNum.mag {S : Bytes} {n : Int} {r : Bytes} (h : IsNum S n r) : Wr.mag S = Wr.mag (Lib.itoa n) ++ r := by
  unfold Wr.mag
  rw [h.neg]
  rw [h.eq]
  split
  · cases hd : Lib.itoa n with
    | nil => exact absurd hd (Wr.itoa_ne n)
    | cons c t => rfl
  · rfl
theorem IsNum.par {S : Bytes} {n : Int} {r : Bytes} (h : IsNum S n r) : Wr.parse (Lib.itoa n) = some n := Wr.parse_some.2 ⟨rfl, h.i⟩
theorem IsNum.val {S : Bytes} {n : Int} {r : Bytes} (h : IsNum S n r) {j : Nat} (hj : j ≤ (Lib.itoa n).length) : Li.val S j = Wr.dv ((Wr.mag (Lib.itoa n)).take (j - Li.sgn S)) := by
  unfold Li.val
  rw [h.mag, List.take_append_of_le_length]
  have := Wr.mag_length (Lib.itoa n)
  have := h.sgn
  omega
theorem IsNum.get {S : Bytes} {n : Int} {r : Bytes} (h : IsNum S n r) {j : Nat} (hj : j < (Lib.itoa n).length) : S[j]? = some (Lib.itoa n)[j] := by
  rw [h.eq, List.getElem?_append_left hj, List.getElem?_eq_getElem hj]
theorem IsNum.after {S : Bytes} {n : Int} {r : Bytes} (h : IsNum S n r) : S[(Lib.itoa n).length]? = r.head? := by
  rw [h.eq, List.getElem?_append_right (Nat.le_refl _), Nat.sub_self]; cases r <;> rfl
/-- Where the loop may stand. -/
structure Digs (S : Bytes) (j : Nat) : Prop where
  lo : sgn S ≤ j
  hi : j ≤ S.length
  to : j ≤ 21
  all : ∀ i, sgn S ≤ i → i < j → ∃ c, S[i]? = some c ∧ dg c
theorem IsNum.le {S : Bytes} {n : Int} {r : Bytes} (h : IsNum S n r) {j : Nat} (d : Digs S j) : j ≤ (Lib.itoa n).length := by
  rcases Nat.lt_or_ge (Lib.itoa n).length j with hlt | hle
  · exfalso
    have hs : Li.sgn S ≤ (Lib.itoa n).length := by
      have := Wr.mag_length (Lib.itoa n)
      have := h.sgn
      omega
    obtain ⟨c, hc, hd⟩ := d.all _ hs hlt
    rw [h.after] at hc
    exact h.stop c hc hd
  · exact hle
theorem IsNum.go {S : Bytes} {n : Int} {r : Bytes} (h : IsNum S n r) {j : Nat} (d : Digs S j) {c : UInt8} (hc : S[j]? = some c) (hd : dg c) : 10 * Li.val S j + (c.toNat - 48) ≤ 9223372036854775808 := by
  have hle := h.le d
  have hlt : j < (Lib.itoa n).length := by
    rcases Nat.eq_or_lt_of_le hle with e | e
    · rw [e, h.after] at hc
      exact absurd hd (h.stop c hc)
    · exact e
  have h1 := Wr.step_canon h.par (Li.sgn S) h.sgn j d.lo hlt
  rw [h.get hlt] at hc
  injection hc with hc
  rw [h.val hle, ← hc]
  exact h1.2.2
theorem IsNum.stop_ {S : Bytes} {n : Int} {r : Bytes} (h : IsNum S n r) {j : Nat} (d : Digs S j) (hs : j = S.length ∨ j = 21 ∨ ∃ c, S[j]? = some c ∧ ¬ dg c) : n = (if Wr.neg S then -(Li.val S j : Int) else Li.val S j) ∧ j = (Lib.itoa n).length := by
  have hle := h.le d
  have hl := Wr.itoa_length n h.i
  have hj : j = (Lib.itoa n).length := by
    rcases Nat.eq_or_lt_of_le hle with e | e
    · exact e
    · exfalso
      rcases hs with rfl | rfl | ⟨c, hc, hd⟩
      · have := congrArg List.length h.eq; simp at this; omega
      · omega
      · have h1 := Wr.step_canon h.par (Li.sgn S) h.sgn j d.lo e
        rw [h.get e] at hc
        injection hc with hc
        rw [← hc] at hd
        exact hd ⟨h1.1, h1.2.1⟩
  refine ⟨?_, hj⟩
  have hv := h.val hle
  rw [hj, Wr.whole (Lib.itoa n) (Li.sgn S) h.sgn] at hv
  rw [hj, hv, h.neg]
  exact (Wr.parse_spec h.par).2.1
theorem val_step {S : Bytes} {j : Nat} (hlo : sgn S ≤ j) {c : UInt8} (hc : S[j]? = some c) : val S (j + 1) = 10 * val S j + (c.toNat - 48) := by
  obtain ⟨hlt, hg⟩ := List.getElem?_eq_some_iff.1 hc
  unfold val
  rw [Wr.step_any S (sgn S) rfl j hlo hlt, hg]
theorem val_start (S : Bytes) : val S (sgn S) = 0 := by unfold val; simp [Wr.dv]
theorem Digs.start {S : Bytes} : Digs S (sgn S) where
  lo := Nat.le_refl _
  hi := by
    unfold sgn
    split
    · rename_i h
      cases S with
      | nil => simp [Wr.neg] at h
      | cons => simp
    · omega
  to := by unfold sgn; split <;> omega
  all := fun i h1 h2 => by omega
theorem Digs.step {S : Bytes} {j : Nat} (d : Digs S j) (h21 : j < 21) {c : UInt8} (hc : S[j]? = some c) (hd : dg c) : Digs S (j + 1) where
  lo := by have := d.lo; omega
  hi := (List.getElem?_eq_some_iff.1 hc).1
  to := by omega
  all := fun i h1 h2 => by
    rcases Nat.lt_or_ge i j with h | h
    · exact d.all i h1 h
    · obtain rfl : i = j := by omega
      exact ⟨c, hc, hd⟩
theorem isNum_unique {S : Bytes} {n m : Int} {r t : Bytes} (h : IsNum S n r) (k : IsNum S m t) : n = m ∧ r = t := by
  have aux : ∀ {n m : Int} {r t : Bytes}, IsNum S n r → IsNum S m t → ¬ (Lib.itoa n).length < (Lib.itoa m).length := fun {n m r t} h k hlt => by
    have hs : sgn S ≤ (Lib.itoa n).length := by
      have := Wr.mag_length (Lib.itoa n)
      have := h.sgn
      omega
    have h1 := Wr.step_canon k.par (sgn S) k.sgn _ hs hlt
    have h2 := h.after
    rw [k.get hlt] at h2
    exact h.stop _ h2.symm ⟨h1.1, h1.2.1⟩
  have hl : (Lib.itoa n).length = (Lib.itoa m).length := by have := aux h k; have := aux k h; omega
  have he := h.eq.symm.trans k.eq
  obtain ⟨a, b⟩ := List.append_inj he hl
  have := h.par
  rw [a, k.par] at this
  injection this with this
  exact ⟨this.symm, b⟩
end Go.Proofs.YtldjhjbodhhnbaaDoor.Li
