/- The plain law of the wire chapter: serializations as lists of bytes, decoding, and what they are to each other. No program here; no condition.
  The plain law of the wire chapter, second part: what the reference's own reading of a numeral comes to. No program here; no condition. -/
import Derived.Lib.AtoiAll
import Derived.Lib.ItoaNum
import Derived.Lib.IndexMore
import Derived.Lib.IndexBytes

namespace Wr
open Go

abbrev Bytes := List UInt8

/-! ### Numerals -/

theorem dec_small {u : Nat} (h : u < 10) : Lib.decDigits u = [UInt8.ofNat (48 + u)] := by rw [Lib.decDigits, dif_pos h]
theorem dec_big {u : Nat} (h : ¬ u < 10) : Lib.decDigits u = Lib.decDigits (u / 10) ++ [UInt8.ofNat (48 + u % 10)] := by rw [Lib.decDigits, dif_neg h]

theorem digit_toNat {d : Nat} (h : d < 10) : (UInt8.ofNat (48 + d)).toNat = 48 + d := by
 simp [UInt8.toNat_ofNat']; omega

theorem dec_digit (u : Nat) : ∀ c ∈ Lib.decDigits u, 48 ≤ c.toNat ∧ c.toNat ≤ 57 := by
 induction u using Nat.strongRecOn with
 | _ u ih =>
  intro c hc
  by_cases h : u < 10
  ·rw [dec_small h] at hc
   simp only [List.mem_singleton] at hc
   rw [hc, digit_toNat h]; omega
  ·rw [dec_big h] at hc
   rcases List.mem_append.1 hc with hc | hc
   ·exact ih _ (by omega) c hc
   ·simp only [List.mem_singleton] at hc
    rw [hc, digit_toNat (by omega)]; omega

theorem dec_ne (u : Nat) : Lib.decDigits u ≠ [] := by
 by_cases h : u < 10
 ·rw [dec_small h]; simp
 ·rw [dec_big h]; simp

/-- Behind the digits that spell 'acc', the digits of u: uint64. -/
theorem parse_append (l : Bytes) (c : UInt8) (a u : Nat) (hc : 48 ≤ c.toNat ∧ c.toNat ≤ 57) (h : Lib.parseUint10 a l = .ok u) (hu : u < 1844674407370955162) (hv : u * 10 + (c.toNat - 48) < 18446744073709551616) :
  Lib.parseUint10 a (l ++ [c]) = .ok (u * 10 + (c.toNat - 48)) := by
 induction l generalizing a with
 | nil =>
  simp only [Lib.parseUint10] at h
  injection h with h
  subst h
  simp only [List.nil_append, Lib.parseUint10, if_pos hc]
  rw [if_neg (by omega), if_neg (by omega)]
 | cons d l ih =>
  simp only [Lib.parseUint10] at h
  simp only [List.cons_append, Lib.parseUint10]
  split at h
  ·rename_i hd
   rw [if_pos hd]
   split at h
   ·cases h
   ·rename_i h1
    rw [if_neg h1]
    split at h
    ·cases h
    ·rename_i h2
     rw [if_neg h2]
     exact ih _ h
  ·cases h

theorem parse_dec (u : Nat) (hu : u < 18446744073709551616) : Lib.parseUint10 0 (Lib.decDigits u) = .ok u := by
 induction u using Nat.strongRecOn with
 | _ u ih =>
  by_cases h : u < 10
  ·rw [dec_small h]
   have e := digit_toNat h
   simp only [Lib.parseUint10, e]
   rw [if_pos (by omega), if_neg (by omega), if_neg (by omega)]
   congr 1; omega
  ·rw [dec_big h, parse_append _ _ 0 (u / 10) (by rw [digit_toNat (by omega)]; omega) (ih _ (by omega) (by omega)) (by omega) (by rw [digit_toNat (by omega)]; omega)]
   rw [digit_toNat (by omega)]
   congr 1; omega

/-- An integer of 64 bits. -/
def I64 (n : Int) : Prop := -9223372036854775808 ≤ n ∧ n ≤ 9223372036854775807

theorem atoi_itoa (n : Int) (h : I64 n) : Lib.atoiAll (Lib.itoa n) = .ok n := by
 unfold I64 at h
 unfold Lib.itoa
 by_cases hn : n < 0
 ·rw [if_pos hn]
  have hp := parse_dec n.natAbs (by omega)
  simp only [Lib.atoiAll]
  have e : (45 : UInt8).toNat = 45 := rfl
  rw [if_pos (Or.inr e)]
  simp only [Lib.parseMag, if_neg (dec_ne _), hp, e, not_true_eq_false, false_and, if_false, true_and, if_true]
  rw [if_neg (by omega)]
  congr 1; omega
 ·rw [if_neg hn]
  have hp := parse_dec n.toNat (by omega)
  cases hl : Lib.decDigits n.toNat with
  | nil => exact absurd hl (dec_ne _)
  | cons c r =>
   have hc := dec_digit n.toNat c (by rw [hl]; exact List.mem_cons_self)
   simp only [Lib.atoiAll]
   rw [if_neg (by omega)]
   rw [← hl]
   simp only [Lib.parseMag, if_neg (dec_ne _), hp]
   rw [if_neg (by omega), if_neg (by omega), if_neg (by omega)]
   congr 1; omega

theorem itoa_ne (n : Int) : Lib.itoa n ≠ [] := by unfold Lib.itoa; split; simp; exact dec_ne _

theorem itoa_byte (n : Int) : ∀ c ∈ Lib.itoa n, c = 45 ∨ 48 ≤ c.toNat ∧ c.toNat ≤ 57 := by
 intro c hc
 unfold Lib.itoa at hc
 split at hc
 ·rcases List.mem_cons.1 hc with hc | hc
  ·exact .inl hc
  ·exact .inr (dec_digit _ c hc)
 ·exact .inr (dec_digit _ c hc)

theorem nDig_le (u : Nat) (h : u < 10000000000000000000) : Lib.nDigits u ≤ 19 := by
 refine Nat.le_of_not_lt fun h' => ?_
 have hp : ∀ k u, k < Lib.nDigits u → 1 ≤ k → 10 ^ k ≤ u := by
  intro k
  induction k with
  | zero => intro u _ h; omega
  | succ k ih =>
   intro u hu _
   by_cases h10 : u < 10
   ·rw [Lib.nDigits_small h10] at hu; omega
   ·rw [Lib.nDigits_big h10] at hu
    by_cases hk : k = 0
    ·subst hk; omega
    ·have := ih (u / 10) (by omega) (by omega)
     rw [Nat.pow_succ]; omega
 have := hp 19 u h' (by omega)
 simp at this
 omega

theorem itoa_length (n : Int) (h : I64 n) : (Lib.itoa n).length ≤ 20 := by
 unfold I64 at h
 unfold Lib.itoa
 split
 ·rw [List.length_cons, Lib.decDigits_length]; have := nDig_le n.natAbs (by omega); omega
 ·rw [Lib.decDigits_length]; have := nDig_le n.toNat (by omega); omega

/-- The number that a canonical numeral spells. -/
def parse (d : Bytes) : Option Int := match Lib.atoiAll d with
 | .ok n => if Lib.itoa n = d then some n else none
 | _ => none

theorem atoi_range {l : Bytes} {n : Int} (h : Lib.atoiAll l = .ok n) : I64 n := by
 unfold I64
 unfold Lib.atoiAll at h
 split at h
 ·cases h
 ·rename_i c r
  simp only at h
  split at h
  ·cases h
  ·cases h
  ·rename_i u hu
   split at h
   ·cases h
   ·split at h
    ·cases h
    ·rename_i h1 h2
     injection h with h
     subst h
     split <;> omega

theorem parse_some {d : Bytes} {n : Int} : parse d = some n ↔ d = Lib.itoa n ∧ I64 n := by
 constructor
 ·intro h
  unfold parse at h
  split at h
  ·rename_i m hm
   split at h
   ·rename_i e
    injection h with h
    subst h
    exact ⟨e.symm, atoi_range hm⟩
   ·cases h
  ·cases h
 ·rintro ⟨rfl, h⟩
  unfold parse
  rw [atoi_itoa n h]
  simp

/-! ### Cutting at a byte -/

def cut1 (e : UInt8) : Bytes → Option (Bytes × Bytes)
 | [] => none
 | c :: r => if c = e then some ([], r) else (cut1 e r).map fun p => (c :: p.1, p.2)

theorem cut1_some {e : UInt8} : ∀ {l d r : Bytes}, cut1 e l = some (d, r) → l = d ++ e :: r ∧ e ∉ d
 | [], d, r, h => by cases h
 | c :: t, d, r, h => by
  unfold cut1 at h
  split at h
  ·rename_i hc
   simp only [Option.some.injEq, Prod.mk.injEq] at h
   obtain ⟨rfl, rfl⟩ := h
   exact ⟨by rw [hc]; rfl, by simp⟩
  ·rename_i hc
   simp only [Option.map_eq_some_iff, Prod.exists, Prod.mk.injEq] at h
   obtain ⟨d', r', h', rfl, rfl⟩ := h
   obtain ⟨a, b⟩ := cut1_some h'
   exact ⟨by rw [a]; rfl, by simp [b, Ne.symm hc]⟩

theorem cut1_none {e : UInt8} : ∀ {l : Bytes}, cut1 e l = none ↔ e ∉ l
 | [] => by simp [cut1]
 | c :: t => by
  unfold cut1
  split
  ·rename_i h; simp [h]
  ·rename_i h; simp [cut1_none, Ne.symm h]

theorem indexByte_cut (e : UInt8) : ∀ (l : Bytes), Lib.indexByte l e = match cut1 e l with | some (d, _) => (d.length : Int) | none => -1
 | [] => rfl
 | c :: t => by
  have ih := indexByte_cut e t
  unfold Lib.indexByte cut1
  by_cases h : c = e
  ·simp [h]
  ·simp only [beq_iff_eq, h, if_false]
   rw [ih]
   cases cut1 e t with
   | none => simp
   | some p =>
    simp only [Option.map_some, List.length_cons]
    rw [if_neg (by omega)]; simp

theorem cut_eq (l : Bytes) (e : UInt8) : Lib.cut l [e] = match cut1 e l with | some (d, r) => (d, r, true) | none => (l, [], false) := by
 unfold Lib.cut
 rw [Lib.index_one, indexByte_cut]
 cases h : cut1 e l with
 | none => simp
 | some p =>
  obtain ⟨d, r⟩ := p
  obtain ⟨rfl, _⟩ := cut1_some h
  simp only []
  rw [if_pos (by omega)]
  simp

/-! ### The serializations -/

/-! ### Decoding -/

/-- A decoder, for its own serialization: what it makes of any bytes, and of what was serialized. -/
structure Codec (α : Type) (ok : α → Prop) (w : α → Bytes) (p : Bytes → Option (α × Bytes)) : Prop where
 inv : ∀ x r, ok x → p (w x ++ r) = some (x, r)
 can : ∀ l x r, p l = some (x, r) → l = w x ++ r ∧ ok x
 pos : ∀ x, w x ≠ []

theorem Codec.lt {α : Type} {ok : α → Prop} {w : α → Bytes} {p : Bytes → Option (α × Bytes)} (h : Codec α ok w p) {l r : Bytes} {x : α} (e : p l = some (x, r)) : r.length < l.length := by
 obtain ⟨rfl, _⟩ := h.can _ _ _ e
 have := List.length_pos_iff.2 (h.pos x)
 simp; omega

section lists
variable {α : Type} {ok : α → Prop} {w : α → Bytes} {p : Bytes → Option (α × Bytes)}

end lists

/-- None of two serializations is a proper prefix of the other. -/
theorem Codec.inj {α : Type} {ok : α → Prop} {w : α → Bytes} {p : Bytes → Option (α × Bytes)} (h : Codec α ok w p) {x y : α} {r t : Bytes} (hx : ok x) (hy : ok y) (e : w x ++ r = w y ++ t) : x = y ∧ r = t := by
 have a := h.inv x r hx
 rw [e, h.inv y t hy] at a
 simp only [Option.some.injEq, Prod.mk.injEq] at a
 exact ⟨a.1.symm, a.2.symm⟩

end Wr

namespace Wr
open Go

/-- The number that a row of digits spells, byte for byte. -/
def dv (l : Bytes) : Nat := l.foldl (fun a c => 10 * a + (c.toNat - 48)) 0
theorem dv_snoc (l : Bytes) (c : UInt8) : dv (l ++ [c]) = 10 * dv l + (c.toNat - 48) := by simp [dv]
theorem dv_dec (u : Nat) : dv (Lib.decDigits u) = u := by
 induction u using Nat.strongRecOn with
 | _ u ih =>
  by_cases h : u < 10
  ·rw [dec_small h]; unfold dv; simp only [List.foldl_cons, List.foldl_nil]; rw [digit_toNat h]; omega
  ·rw [dec_big h, dv_snoc, ih _ (by omega), digit_toNat (by omega)]; omega
theorem dv_step (l : Bytes) (j : Nat) (h : j < l.length) : dv (l.take (j + 1)) = 10 * dv (l.take j) + (l[j].toNat - 48) := by
 rw [List.take_succ_eq_append_getElem h, dv_snoc]

def neg (d : Bytes) : Bool := d.head? == some 45
def mag (d : Bytes) : Bytes := if neg d then d.tail else d

theorem dec_head (u : Nat) : neg (Lib.decDigits u) = false := by
 cases h : Lib.decDigits u with
 | nil => rfl
 | cons c r =>
  have := dec_digit u c (by rw [h]; simp)
  simp only [neg, List.head?_cons, beq_eq_false_iff_ne, ne_eq, Option.some.injEq]
  rintro rfl
  revert this; decide

theorem mag_length (d : Bytes) : (mag d).length + (if neg d then 1 else 0) = d.length := by
 unfold mag
 cases d with
 | nil => rfl
 | cons c r =>
  by_cases h : neg (c :: r)
  ·simp [h]
  ·simp [h]

theorem whole (d : Bytes) (F : Nat) (hF : F = if neg d then 1 else 0) : (mag d).take (d.length - F) = mag d := by
 have hl := mag_length d
 rw [← hF] at hl
 exact List.take_of_length_le (by omega)
end Wr
