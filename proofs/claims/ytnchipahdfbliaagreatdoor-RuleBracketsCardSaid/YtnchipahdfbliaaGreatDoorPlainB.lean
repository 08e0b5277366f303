/- The plain law of the wire chapter, second part: what the reference's own reading of a numeral comes to. No program here; no condition. -/
import Derived.Test.YtnchipahdfbliaaGreatDoorPlain
namespace Wr
open Go

/-- The number that a row of digits spells, byte for byte. -/
def dv (l : Bytes) : Nat := l.foldl (fun a c => 10 * a + (c.toNat - 48)) 0
theorem dv_snoc (l : Bytes) (c : UInt8) : dv (l ++ [c]) = 10 * dv l + (c.toNat - 48) := by simp [dv]
theorem dv_dec (u : Nat) : dv (Lib.decDigits u) = u := by
  induction u using Nat.strongRecOn with
  | _ u ih =>
    by_cases h : u < 10
    · rw [dec_small h]; unfold dv; simp only [List.foldl_cons, List.foldl_nil]; rw [digit_toNat h]; omega
    · rw [dec_big h, dv_snoc, ih _ (by omega), digit_toNat (by omega)]; omega
theorem foldl_ge (r : Bytes) : ∀ a : Nat, a ≤ r.foldl (fun a c => 10 * a + (c.toNat - 48)) a := by
  induction r with
  | nil => intro a; exact Nat.le_refl _
  | cons c r ih => intro a; exact Nat.le_trans (show a ≤ 10 * a + (c.toNat - 48) by omega) (ih _)
theorem dv_take (l : Bytes) (j : Nat) : dv (l.take j) ≤ dv l := by
  have h : dv l = (l.drop j).foldl (fun a c => 10 * a + (c.toNat - 48)) (dv (l.take j)) := by
    unfold dv; rw [← List.foldl_append, List.take_append_drop]
  rw [h]; exact foldl_ge _ _
theorem dv_step (l : Bytes) (j : Nat) (h : j < l.length) : dv (l.take (j + 1)) = 10 * dv (l.take j) + (l[j].toNat - 48) := by
  rw [List.take_succ_eq_append_getElem h, dv_snoc]

def neg (d : Bytes) : Bool := d.head? == some 45
def mag (d : Bytes) : Bytes := if neg d then d.tail else d

theorem dec_head (u : Nat) : neg (Lib.decDigits u) = false := by
  cases h : Lib.decDigits u with
  | nil => rfl
  | cons c r =>
    have := dec_digit u c (by rw [h]; simp)
    simp only [neg, List.head?_cons, beq_eq_false_iff_ne, ne_eq, Option.some.injEq]
    rintro rfl
    revert this; decide

theorem parse_spec {d : Bytes} {m : Int} (h : parse d = some m) : (∀ c ∈ mag d, 48 ≤ c.toNat ∧ c.toNat ≤ 57) ∧ m = (if neg d then -(dv (mag d) : Int) else dv (mag d)) ∧ I64 m ∧ d = Lib.itoa m := by
  obtain ⟨rfl, hI⟩ := parse_some.1 h
  refine ⟨?_, ?_, hI, rfl⟩
  · by_cases hm : m < 0
    · have e : Lib.itoa m = 45 :: Lib.decDigits m.natAbs := by unfold Lib.itoa; rw [if_pos hm]
      rw [e]
      have : mag (45 :: Lib.decDigits m.natAbs) = Lib.decDigits m.natAbs := rfl
      rw [this]; exact dec_digit _
    · have e : Lib.itoa m = Lib.decDigits m.toNat := by unfold Lib.itoa; rw [if_neg hm]
      rw [e]
      unfold mag; rw [dec_head]; exact dec_digit _
  · by_cases hm : m < 0
    · have e : Lib.itoa m = 45 :: Lib.decDigits m.natAbs := by unfold Lib.itoa; rw [if_pos hm]
      rw [e]
      have : mag (45 :: Lib.decDigits m.natAbs) = Lib.decDigits m.natAbs := rfl
      rw [this, dv_dec]
      have h2 : neg (45 :: Lib.decDigits m.natAbs) = true := rfl
      rw [h2, if_pos rfl]; omega
    · have e : Lib.itoa m = Lib.decDigits m.toNat := by unfold Lib.itoa; rw [if_neg hm]
      rw [e]
      unfold mag; rw [dec_head]
      simp [dv_dec]; omega

/-- Where a numeral is canonical, each step of its reading is one digit more, and within 64 bits. -/
theorem parse_step {d : Bytes} {m : Int} (h : parse d = some m) (j : Nat) (hj : j < (mag d).length) : 48 ≤ (mag d)[j].toNat ∧ (mag d)[j].toNat ≤ 57 ∧ 10 * dv ((mag d).take j) + ((mag d)[j].toNat - 48) ≤ 9223372036854775808 := by
  obtain ⟨h1, h2, h3, _⟩ := parse_spec h
  obtain ⟨a, b⟩ := h1 _ (List.getElem_mem hj)
  refine ⟨a, b, ?_⟩
  rw [← dv_step _ _ hj]
  refine Nat.le_trans (dv_take _ _) ?_
  unfold I64 at h3
  cases hn : neg d <;> simp [hn] at h2 <;> omega

theorem mag_length (d : Bytes) : (mag d).length + (if neg d then 1 else 0) = d.length := by
  unfold mag
  cases d with
  | nil => rfl
  | cons c r =>
    by_cases h : neg (c :: r)
    · simp [h]
    · simp [h]

theorem mag_get (d : Bytes) (j : Nat) : (mag d)[j]? = d[j + (if neg d then 1 else 0)]? := by
  unfold mag
  cases d with
  | nil => rfl
  | cons c r =>
    by_cases h : neg (c :: r)
    · simp [h]
    · simp [h]

theorem long_none {d : Bytes} (h : 20 < d.length) : parse d = none := by
  cases hp : parse d with
  | none => rfl
  | some m =>
    obtain ⟨rfl, hI⟩ := parse_some.1 hp
    have := itoa_length m hI
    omega

theorem cut1_of_prefix {e : UInt8} {l : Bytes} (j : Nat) (h : ∀ i, i < j → l[i]? ≠ some e) (hj : l[j]? = some e) : cut1 e l = some (l.take j, l.drop (j + 1)) := by
  have hlt : j < l.length := by
    rcases Nat.lt_or_ge j l.length with h' | h'
    · exact h'
    · rw [List.getElem?_eq_none h'] at hj; cases hj
  have hd : l.drop j = e :: l.drop (j + 1) := by
    rw [List.drop_eq_getElem_cons hlt]
    rw [List.getElem?_eq_getElem hlt] at hj
    injection hj with hj
    rw [hj]
  have he : e ∉ l.take j := by
    intro hm
    obtain ⟨i, hi, he⟩ := List.getElem_of_mem hm
    rw [List.length_take] at hi
    refine h i (by omega) ?_
    rw [List.getElem_take] at he
    rw [List.getElem?_eq_getElem (by omega), he]
  have := cut1_append (l.drop (j + 1)) he
  rw [← hd, List.take_append_drop] at this
  exact this

theorem cut1_none_of {e : UInt8} {l : Bytes} (h : ∀ i, i < l.length → l[i]? ≠ some e) : cut1 e l = none := by
  rw [cut1_none]
  intro hm
  obtain ⟨i, hi, he⟩ := List.getElem_of_mem hm
  exact h i hi (by rw [List.getElem?_eq_getElem hi, he])

/-- No end among the first 21 bytes: no number. -/
theorem num_far {e : UInt8} {l : Bytes} (h : ∀ i, i < 21 → l[i]? ≠ some e) (h21 : l[21]? ≠ some e) : pNum e l = none := by
  unfold pNum
  cases hc : cut1 e l with
  | none => rfl
  | some q =>
    obtain ⟨d, r⟩ := q
    obtain ⟨rfl, _⟩ := cut1_some hc
    have hd : 20 < d.length := by
      rcases Nat.lt_or_ge 20 d.length with h' | h'
      · exact h'
      · exact absurd (by simp) (h d.length (by omega))
    simp [long_none hd]

theorem step_any (d : Bytes) (F : Nat) (hF : F = if neg d then 1 else 0) (j : Nat) (hj : F ≤ j) (hlt : j < d.length) : dv ((mag d).take (j + 1 - F)) = 10 * dv ((mag d).take (j - F)) + (d[j].toNat - 48) := by
  have hl := mag_length d
  rw [← hF] at hl
  have hj' : j - F < (mag d).length := by omega
  have hg := mag_get d (j - F)
  rw [← hF, show j - F + F = j by omega, List.getElem?_eq_getElem hj', List.getElem?_eq_getElem hlt] at hg
  injection hg with hg
  rw [show j + 1 - F = j - F + 1 by omega, dv_step _ _ hj', hg]
theorem step_canon {d : Bytes} {m : Int} (h : parse d = some m) (F : Nat) (hF : F = if neg d then 1 else 0) (j : Nat) (hj : F ≤ j) (hlt : j < d.length) : 48 ≤ d[j].toNat ∧ d[j].toNat ≤ 57 ∧ 10 * dv ((mag d).take (j - F)) + (d[j].toNat - 48) ≤ 9223372036854775808 := by
  have hl := mag_length d
  rw [← hF] at hl
  have hj' : j - F < (mag d).length := by omega
  have hg := mag_get d (j - F)
  rw [← hF, show j - F + F = j by omega, List.getElem?_eq_getElem hj', List.getElem?_eq_getElem hlt] at hg
  injection hg with hg
  have := parse_step h (j - F) hj'
  rw [hg] at this
  exact this
theorem whole (d : Bytes) (F : Nat) (hF : F = if neg d then 1 else 0) : (mag d).take (d.length - F) = mag d := by
  have hl := mag_length d
  rw [← hF] at hl
  exact List.take_of_length_le (by omega)
end Wr
