/- The plain law of the wire chapter: serializations as lists of bytes, decoding, and what they are to each other. No program here; no condition.
  The plain law of the wire chapter, second part: what the reference's own reading of a numeral comes to. No program here; no condition. -/
import Derived.Lib.AtoiAll
import Derived.Lib.ItoaNum
import Derived.Lib.IndexMore
import Derived.Lib.IndexBytes

namespace Wr
open Go

abbrev Bytes := List UInt8

/-! ### Numerals -/

theorem dec_small {u : Nat} (h : u < 10) : Lib.decDigits u = [UInt8.ofNat (48 + u)] := by rw [Lib.decDigits, dif_pos h]
theorem dec_big {u : Nat} (h : ¬ u < 10) : Lib.decDigits u = Lib.decDigits (u / 10) ++ [UInt8.ofNat (48 + u % 10)] := by rw [Lib.decDigits, dif_neg h]

theorem digit_toNat {d : Nat} (h : d < 10) : (UInt8.ofNat (48 + d)).toNat = 48 + d := by
 simp [UInt8.toNat_ofNat']; omega

theorem dec_digit (u : Nat) : ∀ c ∈ Lib.decDigits u, 48 ≤ c.toNat ∧ c.toNat ≤ 57 := by
 induction u using Nat.strongRecOn with
 | _ u ih =>
  intro c hc
  by_cases h : u < 10
  ·rw [dec_small h] at hc
   simp only [List.mem_singleton] at hc
   rw [hc, digit_toNat h]; omega
  ·rw [dec_big h] at hc
   rcases List.mem_append.1 hc with hc | hc
   ·exact ih _ (by omega) c hc
   ·simp only [List.mem_singleton] at hc
    rw [hc, digit_toNat (by omega)]; omega

theorem dec_ne (u : Nat) : Lib.decDigits u ≠ [] := by
 by_cases h : u < 10
 ·rw [dec_small h]; simp
 ·rw [dec_big h]; simp

/-- Behind the digits that spell 'acc', the digits of u: uint64. -/
theorem parse_append (l : Bytes) (c : UInt8) (a u : Nat) (hc : 48 ≤ c.toNat ∧ c.toNat ≤ 57) (h : Lib.parseUint10 a l = .ok u) (hu : u < 1844674407370955162) (hv : u * 10 + (c.toNat - 48) < 18446744073709551616) :
  Lib.parseUint10 a (l ++ [c]) = .ok (u * 10 + (c.toNat - 48)) := by
 induction l generalizing a with
 | nil =>
  simp only [Lib.parseUint10] at h
  injection h with h
  subst h
  simp only [List.nil_append, Lib.parseUint10, if_pos hc]
  rw [if_neg (by omega), if_neg (by omega)]
 | cons d l ih =>
  simp only [Lib.parseUint10] at h
  simp only [List.cons_append, Lib.parseUint10]
  split at h
  ·rename_i hd
   rw [if_pos hd]
   split at h
   ·cases h
   ·rename_i h1
    rw [if_neg h1]
    split at h
    ·cases h
    ·rename_i h2
     rw [if_neg h2]
     exact ih _ h
  ·cases h

theorem parse_dec (u : Nat) (hu : u < 18446744073709551616) : Lib.parseUint10 0 (Lib.decDigits u) = .ok u := by
 induction u using Nat.strongRecOn with
 | _ u ih =>
  by_cases h : u < 10
  ·rw [dec_small h]
   have e := digit_toNat h
   simp only [Lib.parseUint10, e]
   rw [if_pos (by omega), if_neg (by omega), if_neg (by omega)]
   congr 1; omega
  ·rw [dec_big h, parse_append _ _ 0 (u / 10) (by rw [digit_toNat (by omega)]; omega) (ih _ (by omega) (by omega)) (by omega) (by rw [digit_toNat (by omega)]; omega)]
   rw [digit_toNat (by omega)]
   congr 1; omega

/-- An integer of 64 bits. -/
def I64 (n : Int) : Prop := -9223372036854775808 ≤ n ∧ n ≤ 9223372036854775807

theorem atoi_itoa (n : Int) (h : I64 n) : Lib.atoiAll (Lib.itoa n) = .ok n := by
 unfold I64 at h
 unfold Lib.itoa
 by_cases hn : n < 0
 ·rw [if_pos hn]
  have hp := parse_dec n.natAbs (by omega)
  simp only [Lib.atoiAll]
  have e : (45 : UInt8).toNat = 45 := rfl
  rw [if_pos (Or.inr e)]
  simp only [Lib.parseMag, if_neg (dec_ne _), hp, e, not_true_eq_false, false_and, if_false, true_and, if_true]
  rw [if_neg (by omega)]
  congr 1; omega
 ·rw [if_neg hn]
  have hp := parse_dec n.toNat (by omega)
  cases hl : Lib.decDigits n.toNat with
  | nil => exact absurd hl (dec_ne _)
  | cons c r =>
   have hc := dec_digit n.toNat c (by rw [hl]; exact List.mem_cons_self)
   simp only [Lib.atoiAll]
   rw [if_neg (by omega)]
   rw [← hl]
   simp only [Lib.parseMag, if_neg (dec_ne _), hp]
   rw [if_neg (by omega), if_neg (by omega), if_neg (by omega)]
   congr 1; omega

theorem itoa_ne (n : Int) : Lib.itoa n ≠ [] := by unfold Lib.itoa; split; simp; exact dec_ne _

theorem itoa_byte (n : Int) : ∀ c ∈ Lib.itoa n, c = 45 ∨ 48 ≤ c.toNat ∧ c.toNat ≤ 57 := by
 intro c hc
 unfold Lib.itoa at hc
 split at hc
 ·rcases List.mem_cons.1 hc with hc | hc
  ·exact .inl hc
  ·exact .inr (dec_digit _ c hc)
 ·exact .inr (dec_digit _ c hc)

theorem nDig_le (u : Nat) (h : u < 10000000000000000000) : Lib.nDigits u ≤ 19 := by
 refine Nat.le_of_not_lt fun h' => ?_
 have hp : ∀ k u, k < Lib.nDigits u → 1 ≤ k → 10 ^ k ≤ u := by
  intro k
  induction k with
  | zero => intro u _ h; omega
  | succ k ih =>
   intro u hu _
   by_cases h10 : u < 10
   ·rw [Lib.nDigits_small h10] at hu; omega
   ·rw [Lib.nDigits_big h10] at hu
    by_cases hk : k = 0
    ·subst hk; omega
    ·have := ih (u / 10) (by omega) (by omega)
     rw [Nat.pow_succ]; omega
 have := hp 19 u h' (by omega)
 simp at this
 omega

theorem itoa_length (n : Int) (h : I64 n) : (Lib.itoa n).length ≤ 20 := by
 unfold I64 at h
 unfold Lib.itoa
 split
 ·rw [List.length_cons, Lib.decDigits_length]; have := nDig_le n.natAbs (by omega); omega
 ·rw [Lib.decDigits_length]; have := nDig_le n.toNat (by omega); omega

/-- The number that a canonical numeral spells. -/
def parse (d : Bytes) : Option Int := match Lib.atoiAll d with
 | .ok n => if Lib.itoa n = d then some n else none
 | _ => none

theorem atoi_range {l : Bytes} {n : Int} (h : Lib.atoiAll l = .ok n) : I64 n := by
 unfold I64
 unfold Lib.atoiAll at h
 split at h
 ·cases h
 ·rename_i c r
  simp only at h
  split at h
  ·cases h
  ·cases h
  ·rename_i u hu
   split at h
   ·cases h
   ·split at h
    ·cases h
    ·rename_i h1 h2
     injection h with h
     subst h
     split <;> omega

theorem parse_some {d : Bytes} {n : Int} : parse d = some n ↔ d = Lib.itoa n ∧ I64 n := by
 constructor
 ·intro h
  unfold parse at h
  split at h
  ·rename_i m hm
   split at h
   ·rename_i e
    injection h with h
    subst h
    exact ⟨e.symm, atoi_range hm⟩
   ·cases h
  ·cases h
 ·rintro ⟨rfl, h⟩
  unfold parse
  rw [atoi_itoa n h]
  simp

/-! ### Cutting at a byte -/

def cut1 (e : UInt8) : Bytes → Option (Bytes × Bytes)
 | [] => none
 | c :: r => if c = e then some ([], r) else (cut1 e r).map fun p => (c :: p.1, p.2)

theorem cut1_some {e : UInt8} : ∀ {l d r : Bytes}, cut1 e l = some (d, r) → l = d ++ e :: r ∧ e ∉ d
 | [], d, r, h => by cases h
 | c :: t, d, r, h => by
  unfold cut1 at h
  split at h
  ·rename_i hc
   simp only [Option.some.injEq, Prod.mk.injEq] at h
   obtain ⟨rfl, rfl⟩ := h
   exact ⟨by rw [hc]; rfl, by simp⟩
  ·rename_i hc
   simp only [Option.map_eq_some_iff, Prod.exists, Prod.mk.injEq] at h
   obtain ⟨d', r', h', rfl, rfl⟩ := h
   obtain ⟨a, b⟩ := cut1_some h'
   exact ⟨by rw [a]; rfl, by simp [b, Ne.symm hc]⟩

theorem cut1_append {e : UInt8} : ∀ {d : Bytes} (r : Bytes), e ∉ d → cut1 e (d ++ e :: r) = some (d, r)
 | [], r, _ => by simp [cut1]
 | c :: d, r, h => by
  simp only [List.mem_cons, not_or] at h
  simp [cut1, Ne.symm h.1, cut1_append r h.2]

theorem cut1_none {e : UInt8} : ∀ {l : Bytes}, cut1 e l = none ↔ e ∉ l
 | [] => by simp [cut1]
 | c :: t => by
  unfold cut1
  split
  ·rename_i h; simp [h]
  ·rename_i h; simp [cut1_none, Ne.symm h]

theorem indexByte_cut (e : UInt8) : ∀ (l : Bytes), Lib.indexByte l e = match cut1 e l with | some (d, _) => (d.length : Int) | none => -1
 | [] => rfl
 | c :: t => by
  have ih := indexByte_cut e t
  unfold Lib.indexByte cut1
  by_cases h : c = e
  ·simp [h]
  ·simp only [beq_iff_eq, h, if_false]
   rw [ih]
   cases cut1 e t with
   | none => simp
   | some p =>
    simp only [Option.map_some, List.length_cons]
    rw [if_neg (by omega)]; simp

theorem cut_eq (l : Bytes) (e : UInt8) : Lib.cut l [e] = match cut1 e l with | some (d, r) => (d, r, true) | none => (l, [], false) := by
 unfold Lib.cut
 rw [Lib.index_one, indexByte_cut]
 cases h : cut1 e l with
 | none => simp
 | some p =>
  obtain ⟨d, r⟩ := p
  obtain ⟨rfl, _⟩ := cut1_some h
  simp only []
  rw [if_pos (by omega)]
  simp

/-! ### The serializations -/

def wInt (n : Int) : Bytes := Lib.itoa n ++ [59]
def wText (s : Bytes) : Bytes := Lib.itoa s.length ++ [58] ++ s
def wInts (l : List Int) : Bytes := 91 :: l.flatMap wInt ++ [93]
def wTexts (l : List Bytes) : Bytes := 91 :: l.flatMap wText ++ [93]

/-! ### Decoding -/

def pNum (e : UInt8) (l : Bytes) : Option (Int × Bytes) := (cut1 e l).bind fun p => (parse p.1).map fun n => (n, p.2)
def pInt (l : Bytes) : Option (Int × Bytes) := pNum 59 l
def pText (l : Bytes) : Option (Bytes × Bytes) := (pNum 58 l).bind fun p => if 0 ≤ p.1 ∧ p.1 ≤ p.2.length then some (p.2.take p.1.toNat, p.2.drop p.1.toNat) else none

def pEls {α : Type} (p : Bytes → Option (α × Bytes)) : Nat → Bytes → List α → Option (List α × Bytes)
 | 0, _, _ => none
 | _ + 1, [], _ => none
 | f + 1, c :: r, acc => if c = 93 then some (acc, r) else match p (c :: r) with
  | none => none
  | some (x, r') => pEls p f r' (acc ++ [x])
def pList {α : Type} (p : Bytes → Option (α × Bytes)) : Bytes → Option (List α × Bytes)
 | [] => none
 | c :: r => if c = 91 then pEls p (r.length + 1) r [] else none
def pInts : Bytes → Option (List Int × Bytes) := pList pInt
def pTexts : Bytes → Option (List Bytes × Bytes) := pList pText

/-- A decoder, for its own serialization: what it makes of any bytes, and of what was serialized. -/
structure Codec (α : Type) (ok : α → Prop) (w : α → Bytes) (p : Bytes → Option (α × Bytes)) : Prop where
 inv : ∀ x r, ok x → p (w x ++ r) = some (x, r)
 can : ∀ l x r, p l = some (x, r) → l = w x ++ r ∧ ok x
 pos : ∀ x, w x ≠ []

theorem Codec.lt {α : Type} {ok : α → Prop} {w : α → Bytes} {p : Bytes → Option (α × Bytes)} (h : Codec α ok w p) {l r : Bytes} {x : α} (e : p l = some (x, r)) : r.length < l.length := by
 obtain ⟨rfl, _⟩ := h.can _ _ _ e
 have := List.length_pos_iff.2 (h.pos x)
 simp; omega

theorem num_inv (e : UInt8) (he : e ≠ 45) (he' : ¬ (48 ≤ e.toNat ∧ e.toNat ≤ 57)) (n : Int) (r : Bytes) (h : I64 n) : pNum e (Lib.itoa n ++ e :: r) = some (n, r) := by
 have hm : e ∉ Lib.itoa n := fun hm => by rcases itoa_byte n e hm with h | h; exact he h; exact he' h
 unfold pNum
 rw [cut1_append r hm]
 simp [parse_some.2 ⟨rfl, h⟩]

theorem num_can {e : UInt8} {l r : Bytes} {n : Int} (h : pNum e l = some (n, r)) : l = Lib.itoa n ++ e :: r ∧ I64 n := by
 unfold pNum at h
 simp only [Option.bind_eq_some_iff, Option.map_eq_some_iff, Prod.mk.injEq, Prod.exists] at h
 obtain ⟨d, r', hc, n', hp, rfl, rfl⟩ := h
 obtain ⟨rfl, hr⟩ := parse_some.1 hp
 exact ⟨(cut1_some hc).1, hr⟩

theorem int_codec : Codec Int I64 wInt pInt where
 inv x r h := by
  have := num_inv 59 (by decide) (by decide) x r h
  simpa [pInt, wInt] using this
 can l x r h := by
  obtain ⟨a, b⟩ := num_can h
  exact ⟨by simpa [wInt] using a, b⟩
 pos x := by simp [wInt]

theorem text_codec : Codec Bytes (fun s => I64 s.length) wText pText where
 inv x r h := by
  have := num_inv 58 (by decide) (by decide) x.length (x ++ r) h
  unfold pText
  rw [show wText x ++ r = Lib.itoa x.length ++ 58 :: (x ++ r) by simp [wText], this]
  simp
  omega
 can l x r h := by
  unfold pText at h
  simp only [Option.bind_eq_some_iff, Prod.exists] at h
  obtain ⟨n, r', hn, h⟩ := h
  split at h
  ·rename_i hb
   simp only [Option.some.injEq, Prod.mk.injEq] at h
   obtain ⟨rfl, rfl⟩ := h
   obtain ⟨rfl, hi⟩ := num_can hn
   have e : ((r'.take n.toNat).length : Int) = n := by rw [List.length_take]; omega
   refine ⟨?_, by rw [e]; exact hi⟩
   unfold wText
   rw [e]
   simp
  ·cases h
 pos x := by simp [wText]

section lists
variable {α : Type} {ok : α → Prop} {w : α → Bytes} {p : Bytes → Option (α × Bytes)}

theorem els_fuel (h : Codec α ok w p) : ∀ (f f' : Nat) (l : Bytes) (acc : List α), l.length < f → l.length < f' → pEls p f l acc = pEls p f' l acc
 | 0, _, _, _, h1, _ => by omega
 | _, 0, _, _, _, h2 => by omega
 | f + 1, f' + 1, [], acc, _, _ => rfl
 | f + 1, f' + 1, c :: r, acc, h1, h2 => by
  unfold pEls
  split
  ·rfl
  ·cases hp : p (c :: r) with
   | none => rfl
   | some q =>
    obtain ⟨x, r'⟩ := q
    have hl := h.lt hp
    exact els_fuel h f f' r' _ (by simp at h1 hl; omega) (by simp at h2 hl; omega)

/-- What the loop over a list's elements makes of the rest, behind the elements 'acc'. -/
def pRest (p : Bytes → Option (α × Bytes)) (l : Bytes) (acc : List α) : Option (List α × Bytes) := pEls p (l.length + 1) l acc

theorem rest_nil (acc : List α) : pRest p [] acc = none := rfl
theorem rest_end (r : Bytes) (acc : List α) : pRest p (93 :: r) acc = some (acc, r) := by simp [pRest, pEls]
theorem rest_bad {c : UInt8} {r : Bytes} (acc : List α) (hc : c ≠ 93) (hp : p (c :: r) = none) : pRest p (c :: r) acc = none := by simp [pRest, pEls, hc, hp]
theorem rest_step (h : Codec α ok w p) {c : UInt8} {r r' : Bytes} {x : α} (acc : List α) (hc : c ≠ 93) (hp : p (c :: r) = some (x, r')) : pRest p (c :: r) acc = pRest p r' (acc ++ [x]) := by
 have hl := h.lt hp
 simp only [pRest, pEls, List.length_cons, hc, if_false, hp]
 exact els_fuel h _ _ _ _ (by simp at hl; omega) (by omega)

theorem els_inv (h : Codec α ok w p) (hne : ∀ x, (w x).head? ≠ some 93) : ∀ (l acc : List α) (r : Bytes), (∀ x ∈ l, ok x) → pRest p (l.flatMap w ++ 93 :: r) acc = some (acc ++ l, r)
 | [], acc, r, _ => by simp [rest_end]
 | x :: l, acc, r, hok => by
  rw [List.flatMap_cons, List.append_assoc]
  cases hw : w x with
  | nil => exact absurd hw (h.pos x)
  | cons c t =>
   have hp := h.inv x (l.flatMap w ++ 93 :: r) (hok x (by simp))
   rw [hw] at hp
   have hc : c ≠ 93 := fun e => hne x (by rw [hw, e]; rfl)
   rw [List.cons_append] at hp ⊢
   rw [rest_step h acc hc hp, els_inv h hne l _ r (fun y hy => hok y (by simp [hy]))]
   simp

theorem els_can (h : Codec α ok w p) : ∀ (f : Nat) (l : Bytes) (acc xs : List α) (r : Bytes), pEls p f l acc = some (xs, r) → ∃ ys, xs = acc ++ ys ∧ l = ys.flatMap w ++ 93 :: r ∧ ∀ y ∈ ys, ok y
 | 0, _, _, _, _, e => by cases e
 | f + 1, [], _, _, _, e => by cases e
 | f + 1, c :: t, acc, xs, r, e => by
  unfold pEls at e
  split at e
  ·rename_i hc
   simp only [Option.some.injEq, Prod.mk.injEq] at e
   obtain ⟨rfl, rfl⟩ := e
   exact ⟨[], by simp, by simp [hc], by simp⟩
  ·cases hp : p (c :: t) with
   | none => rw [hp] at e; cases e
   | some q =>
    obtain ⟨x, r'⟩ := q
    rw [hp] at e
    obtain ⟨hl, hx⟩ := h.can _ _ _ hp
    obtain ⟨ys, rfl, rfl, hy⟩ := els_can h f r' _ xs r e
    refine ⟨x :: ys, by simp, by rw [hl]; simp, ?_⟩
    intro y hm
    rcases List.mem_cons.1 hm with rfl | hm
    ·exact hx
    ·exact hy y hm

theorem list_codec (h : Codec α ok w p) (hne : ∀ x, (w x).head? ≠ some 93) : Codec (List α) (fun l => ∀ x ∈ l, ok x) (fun l => 91 :: l.flatMap w ++ [93]) (pList p) where
 inv x r hx := by
  have := els_inv h hne x [] r hx
  simp only [List.cons_append, List.append_assoc, List.nil_append, pList, if_true]
  simpa [pRest] using this
 can l x r e := by
  cases l with
  | nil => cases e
  | cons c t =>
   simp only [pList] at e
   by_cases hc : c = 91
   ·rw [if_pos hc] at e
    obtain ⟨ys, rfl, rfl, hy⟩ := els_can h _ _ _ _ _ e
    exact ⟨by simp [hc], by simpa using hy⟩
   ·rw [if_neg hc] at e
    cases e
 pos x := by simp
end lists

theorem head_itoa (n : Int) (t : Bytes) : (Lib.itoa n ++ t).head? ≠ some 93 := by
 cases h : Lib.itoa n with
 | nil => exact absurd h (itoa_ne n)
 | cons c r =>
  have := itoa_byte n c (by rw [h]; simp)
  simp only [List.cons_append, List.head?_cons, ne_eq, Option.some.injEq]
  rintro rfl
  rcases this with h | h
  ·cases h
  ·revert h; decide

theorem ints_codec : Codec (List Int) (fun l => ∀ x ∈ l, I64 x) wInts pInts := list_codec int_codec (fun x => head_itoa x _)
theorem texts_codec : Codec (List Bytes) (fun l => ∀ x ∈ l, I64 (x.length : Int)) wTexts pTexts := list_codec text_codec (fun x => by simpa [wText] using head_itoa x.length (58 :: x))

/-- None of two serializations is a proper prefix of the other. -/
theorem Codec.inj {α : Type} {ok : α → Prop} {w : α → Bytes} {p : Bytes → Option (α × Bytes)} (h : Codec α ok w p) {x y : α} {r t : Bytes} (hx : ok x) (hy : ok y) (e : w x ++ r = w y ++ t) : x = y ∧ r = t := by
 have a := h.inv x r hx
 rw [e, h.inv y t hy] at a
 simp only [Option.some.injEq, Prod.mk.injEq] at a
 exact ⟨a.1.symm, a.2.symm⟩

/-- A serialization without its end is not decoded. -/
theorem Codec.cutoff {α : Type} {ok : α → Prop} {w : α → Bytes} {p : Bytes → Option (α × Bytes)} (h : Codec α ok w p) {x : α} (hx : ok x) {k : Nat} (hk : k < (w x).length) : p ((w x).take k) = none := by
 cases e : p ((w x).take k) with
 | none => rfl
 | some q =>
  obtain ⟨y, r⟩ := q
  obtain ⟨a, b⟩ := h.can _ _ _ e
  have := List.take_append_drop k (w x)
  rw [a, List.append_assoc] at this
  obtain ⟨rfl, e2⟩ := h.inj (r := r ++ (w x).drop k) (t := []) b hx (by simpa using this)
  have := congrArg List.length e2
  simp at this
  omega

/-- Of two serializations the first bytes, as many as the shorter one has, are alike only if the values are. -/
theorem Codec.prefix_ {α : Type} {ok : α → Prop} {w : α → Bytes} {p : Bytes → Option (α × Bytes)} (h : Codec α ok w p) {x y : α} (hx : ok x) (hy : ok y)
  (e : (w x).take (min (w x).length (w y).length) = (w y).take (min (w x).length (w y).length)) : x = y := by
 rcases Nat.le_total (w x).length (w y).length with hl | hl
 ·rw [Nat.min_eq_left hl, List.take_length] at e
  have := List.take_append_drop (w x).length (w y)
  rw [← e] at this
  exact (h.inj (r := (w y).drop (w x).length) (t := []) hx hy (by simpa using this)).1
 ·rw [Nat.min_eq_right hl, List.take_length] at e
  have := List.take_append_drop (w y).length (w x)
  rw [e] at this
  exact (h.inj (r := []) (t := (w x).drop (w y).length) hx hy (by simpa using this.symm)).1

end Wr

namespace Wr
open Go

/-- The number that a row of digits spells, byte for byte. -/
def dv (l : Bytes) : Nat := l.foldl (fun a c => 10 * a + (c.toNat - 48)) 0
theorem dv_snoc (l : Bytes) (c : UInt8) : dv (l ++ [c]) = 10 * dv l + (c.toNat - 48) := by simp [dv]
theorem dv_dec (u : Nat) : dv (Lib.decDigits u) = u := by
 induction u using Nat.strongRecOn with
 | _ u ih =>
  by_cases h : u < 10
  ·rw [dec_small h]; unfold dv; simp only [List.foldl_cons, List.foldl_nil]; rw [digit_toNat h]; omega
  ·rw [dec_big h, dv_snoc, ih _ (by omega), digit_toNat (by omega)]; omega
theorem foldl_ge (r : Bytes) : ∀ a : Nat, a ≤ r.foldl (fun a c => 10 * a + (c.toNat - 48)) a := by
 induction r with
 | nil => intro a; exact Nat.le_refl _
 | cons c r ih => intro a; exact Nat.le_trans (show a ≤ 10 * a + (c.toNat - 48) by omega) (ih _)
theorem dv_take (l : Bytes) (j : Nat) : dv (l.take j) ≤ dv l := by
 have h : dv l = (l.drop j).foldl (fun a c => 10 * a + (c.toNat - 48)) (dv (l.take j)) := by
  unfold dv; rw [← List.foldl_append, List.take_append_drop]
 rw [h]; exact foldl_ge _ _
theorem dv_step (l : Bytes) (j : Nat) (h : j < l.length) : dv (l.take (j + 1)) = 10 * dv (l.take j) + (l[j].toNat - 48) := by
 rw [List.take_succ_eq_append_getElem h, dv_snoc]

def neg (d : Bytes) : Bool := d.head? == some 45
def mag (d : Bytes) : Bytes := if neg d then d.tail else d

theorem dec_head (u : Nat) : neg (Lib.decDigits u) = false := by
 cases h : Lib.decDigits u with
 | nil => rfl
 | cons c r =>
  have := dec_digit u c (by rw [h]; simp)
  simp only [neg, List.head?_cons, beq_eq_false_iff_ne, ne_eq, Option.some.injEq]
  rintro rfl
  revert this; decide

theorem parse_spec {d : Bytes} {m : Int} (h : parse d = some m) : (∀ c ∈ mag d, 48 ≤ c.toNat ∧ c.toNat ≤ 57) ∧ m = (if neg d then -(dv (mag d) : Int) else dv (mag d)) ∧ I64 m ∧ d = Lib.itoa m := by
 obtain ⟨rfl, hI⟩ := parse_some.1 h
 refine ⟨?_, ?_, hI, rfl⟩
 ·by_cases hm : m < 0
  ·have e : Lib.itoa m = 45 :: Lib.decDigits m.natAbs := by unfold Lib.itoa; rw [if_pos hm]
   rw [e]
   have : mag (45 :: Lib.decDigits m.natAbs) = Lib.decDigits m.natAbs := rfl
   rw [this]; exact dec_digit _
  ·have e : Lib.itoa m = Lib.decDigits m.toNat := by unfold Lib.itoa; rw [if_neg hm]
   rw [e]
   unfold mag; rw [dec_head]; exact dec_digit _
 ·by_cases hm : m < 0
  ·have e : Lib.itoa m = 45 :: Lib.decDigits m.natAbs := by unfold Lib.itoa; rw [if_pos hm]
   rw [e]
   have : mag (45 :: Lib.decDigits m.natAbs) = Lib.decDigits m.natAbs := rfl
   rw [this, dv_dec]
   have h2 : neg (45 :: Lib.decDigits m.natAbs) = true := rfl
   rw [h2, if_pos rfl]; omega
  ·have e : Lib.itoa m = Lib.decDigits m.toNat := by unfold Lib.itoa; rw [if_neg hm]
   rw [e]
   unfold mag; rw [dec_head]
   simp [dv_dec]; omega

/-- Where a numeral is canonical, each step of its reading is one digit more, and within 64 bits. -/
theorem parse_step {d : Bytes} {m : Int} (h : parse d = some m) (j : Nat) (hj : j < (mag d).length) : 48 ≤ (mag d)[j].toNat ∧ (mag d)[j].toNat ≤ 57 ∧ 10 * dv ((mag d).take j) + ((mag d)[j].toNat - 48) ≤ 9223372036854775808 := by
 obtain ⟨h1, h2, h3, _⟩ := parse_spec h
 obtain ⟨a, b⟩ := h1 _ (List.getElem_mem hj)
 refine ⟨a, b, ?_⟩
 rw [← dv_step _ _ hj]
 refine Nat.le_trans (dv_take _ _) ?_
 unfold I64 at h3
 cases hn : neg d <;> simp [hn] at h2 <;> omega

theorem mag_length (d : Bytes) : (mag d).length + (if neg d then 1 else 0) = d.length := by
 unfold mag
 cases d with
 | nil => rfl
 | cons c r =>
  by_cases h : neg (c :: r)
  ·simp [h]
  ·simp [h]

theorem mag_get (d : Bytes) (j : Nat) : (mag d)[j]? = d[j + (if neg d then 1 else 0)]? := by
 unfold mag
 cases d with
 | nil => rfl
 | cons c r =>
  by_cases h : neg (c :: r)
  ·simp [h]
  ·simp [h]

theorem long_none {d : Bytes} (h : 20 < d.length) : parse d = none := by
 cases hp : parse d with
 | none => rfl
 | some m =>
  obtain ⟨rfl, hI⟩ := parse_some.1 hp
  have := itoa_length m hI
  omega

theorem cut1_of_prefix {e : UInt8} {l : Bytes} (j : Nat) (h : ∀ i, i < j → l[i]? ≠ some e) (hj : l[j]? = some e) : cut1 e l = some (l.take j, l.drop (j + 1)) := by
 have hlt : j < l.length := by
  rcases Nat.lt_or_ge j l.length with h' | h'
  ·exact h'
  ·rw [List.getElem?_eq_none h'] at hj; cases hj
 have hd : l.drop j = e :: l.drop (j + 1) := by
  rw [List.drop_eq_getElem_cons hlt]
  rw [List.getElem?_eq_getElem hlt] at hj
  injection hj with hj
  rw [hj]
 have he : e ∉ l.take j := by
  intro hm
  obtain ⟨i, hi, he⟩ := List.getElem_of_mem hm
  rw [List.length_take] at hi
  refine h i (by omega) ?_
  rw [List.getElem_take] at he
  rw [List.getElem?_eq_getElem (by omega), he]
 have := cut1_append (l.drop (j + 1)) he
 rw [← hd, List.take_append_drop] at this
 exact this

theorem cut1_none_of {e : UInt8} {l : Bytes} (h : ∀ i, i < l.length → l[i]? ≠ some e) : cut1 e l = none := by
 rw [cut1_none]
 intro hm
 obtain ⟨i, hi, he⟩ := List.getElem_of_mem hm
 exact h i hi (by rw [List.getElem?_eq_getElem hi, he])

/-- No end among the first 21 bytes: no number. -/
theorem num_far {e : UInt8} {l : Bytes} (h : ∀ i, i < 21 → l[i]? ≠ some e) (h21 : l[21]? ≠ some e) : pNum e l = none := by
 unfold pNum
 cases hc : cut1 e l with
 | none => rfl
 | some q =>
  obtain ⟨d, r⟩ := q
  obtain ⟨rfl, _⟩ := cut1_some hc
  have hd : 20 < d.length := by
   rcases Nat.lt_or_ge 20 d.length with h' | h'
   ·exact h'
   ·exact absurd (by simp) (h d.length (by omega))
  simp [long_none hd]

theorem step_any (d : Bytes) (F : Nat) (hF : F = if neg d then 1 else 0) (j : Nat) (hj : F ≤ j) (hlt : j < d.length) : dv ((mag d).take (j + 1 - F)) = 10 * dv ((mag d).take (j - F)) + (d[j].toNat - 48) := by
 have hl := mag_length d
 rw [← hF] at hl
 have hj' : j - F < (mag d).length := by omega
 have hg := mag_get d (j - F)
 rw [← hF, show j - F + F = j by omega, List.getElem?_eq_getElem hj', List.getElem?_eq_getElem hlt] at hg
 injection hg with hg
 rw [show j + 1 - F = j - F + 1 by omega, dv_step _ _ hj', hg]
theorem step_canon {d : Bytes} {m : Int} (h : parse d = some m) (F : Nat) (hF : F = if neg d then 1 else 0) (j : Nat) (hj : F ≤ j) (hlt : j < d.length) : 48 ≤ d[j].toNat ∧ d[j].toNat ≤ 57 ∧ 10 * dv ((mag d).take (j - F)) + (d[j].toNat - 48) ≤ 9223372036854775808 := by
 have hl := mag_length d
 rw [← hF] at hl
 have hj' : j - F < (mag d).length := by omega
 have hg := mag_get d (j - F)
 rw [← hF, show j - F + F = j by omega, List.getElem?_eq_getElem hj', List.getElem?_eq_getElem hlt] at hg
 injection hg with hg
 have := parse_step h (j - F) hj'
 rw [hg] at this
 exact this
theorem whole (d : Bytes) (F : Nat) (hF : F = if neg d then 1 else 0) : (mag d).take (d.length - F) = mag d := by
 have hl := mag_length d
 rw [← hF] at hl
 exact List.take_of_length_le (by omega)
end Wr
