/- The plain law of the wire chapter: serializations as lists of bytes, decoding, and what they are to each other. No program here; no condition.
  The plain law of the wire chapter, second part: what the reference's own reading of a numeral comes to. No program here; no condition.
   The plain law of the rules: names, conditions, their words, rules, and the reading of lines. No program is in sight; no condition.
  The plain law of the rules, second part: what is written is read again. No program is in sight; no condition.
  The plain law of the rules, third part: lines and files; what is written is read as it was; brackets; spoiled lines. No program is in sight; no condition.
  The plain law of the rules, fourth part: reading leaves no more words than there were. No program is in sight; no condition.
  The plain law of the rules, sixth part: what is read is no larger than its words. No program is in sight; no condition.
   The plain law of the rules, fifth part: the chapter's examples, and lines that are none. No program is in sight; no condition.
  The plain law of the rules, seventh part: the texts of RuleBrackets. No program is in sight; no condition.
  The plain law of the reference's names and numbers: what it decides is what the program decides. No program is in sight; no condition. -/
import Derived.Lib.AtoiAll
import Derived.Lib.ItoaNum
import Derived.Lib.IndexMore
import Derived.Lib.IndexBytes
import Derived.Lib.Hide

namespace Wr
open Go

abbrev Bytes := List UInt8

/-! ### Numerals -/

theorem dec_small {u : Nat} (h : u < 10) : Lib.decDigits u = [UInt8.ofNat (48 + u)] := by rw [Lib.decDigits, dif_pos h]
theorem dec_big {u : Nat} (h : ¬ u < 10) : Lib.decDigits u = Lib.decDigits (u / 10) ++ [UInt8.ofNat (48 + u % 10)] := by rw [Lib.decDigits, dif_neg h]

theorem digit_toNat {d : Nat} (h : d < 10) : (UInt8.ofNat (48 + d)).toNat = 48 + d := by
 simp [UInt8.toNat_ofNat']; omega

theorem dec_digit (u : Nat) : ∀ c ∈ Lib.decDigits u, 48 ≤ c.toNat ∧ c.toNat ≤ 57 := by
 induction u using Nat.strongRecOn with
 | _ u ih =>
  intro c hc
  by_cases h : u < 10
  ·rw [dec_small h] at hc
   simp only [List.mem_singleton] at hc
   rw [hc, digit_toNat h]; omega
  ·rw [dec_big h] at hc
   rcases List.mem_append.1 hc with hc | hc
   ·exact ih _ (by omega) c hc
   ·simp only [List.mem_singleton] at hc
    rw [hc, digit_toNat (by omega)]; omega

theorem dec_ne (u : Nat) : Lib.decDigits u ≠ [] := by
 by_cases h : u < 10
 ·rw [dec_small h]; simp
 ·rw [dec_big h]; simp

/-- Behind the digits that spell 'acc', the digits of u: uint64. -/
theorem parse_append (l : Bytes) (c : UInt8) (a u : Nat) (hc : 48 ≤ c.toNat ∧ c.toNat ≤ 57) (h : Lib.parseUint10 a l = .ok u) (hu : u < 1844674407370955162) (hv : u * 10 + (c.toNat - 48) < 18446744073709551616) :
  Lib.parseUint10 a (l ++ [c]) = .ok (u * 10 + (c.toNat - 48)) := by
 induction l generalizing a with
 | nil =>
  simp only [Lib.parseUint10] at h
  injection h with h
  subst h
  simp only [List.nil_append, Lib.parseUint10, if_pos hc]
  rw [if_neg (by omega), if_neg (by omega)]
 | cons d l ih =>
  simp only [Lib.parseUint10] at h
  simp only [List.cons_append, Lib.parseUint10]
  split at h
  ·rename_i hd
   rw [if_pos hd]
   split at h
   ·cases h
   ·rename_i h1
    rw [if_neg h1]
    split at h
    ·cases h
    ·rename_i h2
     rw [if_neg h2]
     exact ih _ h
  ·cases h

theorem parse_dec (u : Nat) (hu : u < 18446744073709551616) : Lib.parseUint10 0 (Lib.decDigits u) = .ok u := by
 induction u using Nat.strongRecOn with
 | _ u ih =>
  by_cases h : u < 10
  ·rw [dec_small h]
   have e := digit_toNat h
   simp only [Lib.parseUint10, e]
   rw [if_pos (by omega), if_neg (by omega), if_neg (by omega)]
   congr 1; omega
  ·rw [dec_big h, parse_append _ _ 0 (u / 10) (by rw [digit_toNat (by omega)]; omega) (ih _ (by omega) (by omega)) (by omega) (by rw [digit_toNat (by omega)]; omega)]
   rw [digit_toNat (by omega)]
   congr 1; omega

/-- An integer of 64 bits. -/
def I64 (n : Int) : Prop := -9223372036854775808 ≤ n ∧ n ≤ 9223372036854775807

theorem atoi_itoa (n : Int) (h : I64 n) : Lib.atoiAll (Lib.itoa n) = .ok n := by
 unfold I64 at h
 unfold Lib.itoa
 by_cases hn : n < 0
 ·rw [if_pos hn]
  have hp := parse_dec n.natAbs (by omega)
  simp only [Lib.atoiAll]
  have e : (45 : UInt8).toNat = 45 := rfl
  rw [if_pos (Or.inr e)]
  simp only [Lib.parseMag, if_neg (dec_ne _), hp, e, not_true_eq_false, false_and, if_false, true_and, if_true]
  rw [if_neg (by omega)]
  congr 1; omega
 ·rw [if_neg hn]
  have hp := parse_dec n.toNat (by omega)
  cases hl : Lib.decDigits n.toNat with
  | nil => exact absurd hl (dec_ne _)
  | cons c r =>
   have hc := dec_digit n.toNat c (by rw [hl]; exact List.mem_cons_self)
   simp only [Lib.atoiAll]
   rw [if_neg (by omega)]
   rw [← hl]
   simp only [Lib.parseMag, if_neg (dec_ne _), hp]
   rw [if_neg (by omega), if_neg (by omega), if_neg (by omega)]
   congr 1; omega

theorem itoa_ne (n : Int) : Lib.itoa n ≠ [] := by unfold Lib.itoa; split; simp; exact dec_ne _

theorem itoa_byte (n : Int) : ∀ c ∈ Lib.itoa n, c = 45 ∨ 48 ≤ c.toNat ∧ c.toNat ≤ 57 := by
 intro c hc
 unfold Lib.itoa at hc
 split at hc
 ·rcases List.mem_cons.1 hc with hc | hc
  ·exact .inl hc
  ·exact .inr (dec_digit _ c hc)
 ·exact .inr (dec_digit _ c hc)

theorem nDig_le (u : Nat) (h : u < 10000000000000000000) : Lib.nDigits u ≤ 19 := by
 refine Nat.le_of_not_lt fun h' => ?_
 have hp : ∀ k u, k < Lib.nDigits u → 1 ≤ k → 10 ^ k ≤ u := by
  intro k
  induction k with
  | zero => intro u _ h; omega
  | succ k ih =>
   intro u hu _
   by_cases h10 : u < 10
   ·rw [Lib.nDigits_small h10] at hu; omega
   ·rw [Lib.nDigits_big h10] at hu
    by_cases hk : k = 0
    ·subst hk; omega
    ·have := ih (u / 10) (by omega) (by omega)
     rw [Nat.pow_succ]; omega
 have := hp 19 u h' (by omega)
 simp at this
 omega

theorem itoa_length (n : Int) (h : I64 n) : (Lib.itoa n).length ≤ 20 := by
 unfold I64 at h
 unfold Lib.itoa
 split
 ·rw [List.length_cons, Lib.decDigits_length]; have := nDig_le n.natAbs (by omega); omega
 ·rw [Lib.decDigits_length]; have := nDig_le n.toNat (by omega); omega

/-- The number that a canonical numeral spells. -/
def parse (d : Bytes) : Option Int := match Lib.atoiAll d with
 | .ok n => if Lib.itoa n = d then some n else none
 | _ => none

theorem atoi_range {l : Bytes} {n : Int} (h : Lib.atoiAll l = .ok n) : I64 n := by
 unfold I64
 unfold Lib.atoiAll at h
 split at h
 ·cases h
 ·rename_i c r
  simp only at h
  split at h
  ·cases h
  ·cases h
  ·rename_i u hu
   split at h
   ·cases h
   ·split at h
    ·cases h
    ·rename_i h1 h2
     injection h with h
     subst h
     split <;> omega

theorem parse_some {d : Bytes} {n : Int} : parse d = some n ↔ d = Lib.itoa n ∧ I64 n := by
 constructor
 ·intro h
  unfold parse at h
  split at h
  ·rename_i m hm
   split at h
   ·rename_i e
    injection h with h
    subst h
    exact ⟨e.symm, atoi_range hm⟩
   ·cases h
  ·cases h
 ·rintro ⟨rfl, h⟩
  unfold parse
  rw [atoi_itoa n h]
  simp

/-! ### Cutting at a byte -/

def cut1 (e : UInt8) : Bytes → Option (Bytes × Bytes)
 | [] => none
 | c :: r => if c = e then some ([], r) else (cut1 e r).map fun p => (c :: p.1, p.2)

theorem cut1_some {e : UInt8} : ∀ {l d r : Bytes}, cut1 e l = some (d, r) → l = d ++ e :: r ∧ e ∉ d
 | [], d, r, h => by cases h
 | c :: t, d, r, h => by
  unfold cut1 at h
  split at h
  ·rename_i hc
   simp only [Option.some.injEq, Prod.mk.injEq] at h
   obtain ⟨rfl, rfl⟩ := h
   exact ⟨by rw [hc]; rfl, by simp⟩
  ·rename_i hc
   simp only [Option.map_eq_some_iff, Prod.exists, Prod.mk.injEq] at h
   obtain ⟨d', r', h', rfl, rfl⟩ := h
   obtain ⟨a, b⟩ := cut1_some h'
   exact ⟨by rw [a]; rfl, by simp [b, Ne.symm hc]⟩

theorem cut1_none {e : UInt8} : ∀ {l : Bytes}, cut1 e l = none ↔ e ∉ l
 | [] => by simp [cut1]
 | c :: t => by
  unfold cut1
  split
  ·rename_i h; simp [h]
  ·rename_i h; simp [cut1_none, Ne.symm h]

theorem indexByte_cut (e : UInt8) : ∀ (l : Bytes), Lib.indexByte l e = match cut1 e l with | some (d, _) => (d.length : Int) | none => -1
 | [] => rfl
 | c :: t => by
  have ih := indexByte_cut e t
  unfold Lib.indexByte cut1
  by_cases h : c = e
  ·simp [h]
  ·simp only [beq_iff_eq, h, if_false]
   rw [ih]
   cases cut1 e t with
   | none => simp
   | some p =>
    simp only [Option.map_some, List.length_cons]
    rw [if_neg (by omega)]; simp

theorem cut_eq (l : Bytes) (e : UInt8) : Lib.cut l [e] = match cut1 e l with | some (d, r) => (d, r, true) | none => (l, [], false) := by
 unfold Lib.cut
 rw [Lib.index_one, indexByte_cut]
 cases h : cut1 e l with
 | none => simp
 | some p =>
  obtain ⟨d, r⟩ := p
  obtain ⟨rfl, _⟩ := cut1_some h
  simp only []
  rw [if_pos (by omega)]
  simp

/-! ### The serializations -/

/-! ### Decoding -/

/-- A decoder, for its own serialization: what it makes of any bytes, and of what was serialized. -/
structure Codec (α : Type) (ok : α → Prop) (w : α → Bytes) (p : Bytes → Option (α × Bytes)) : Prop where
 inv : ∀ x r, ok x → p (w x ++ r) = some (x, r)
 can : ∀ l x r, p l = some (x, r) → l = w x ++ r ∧ ok x
 pos : ∀ x, w x ≠ []

theorem Codec.lt {α : Type} {ok : α → Prop} {w : α → Bytes} {p : Bytes → Option (α × Bytes)} (h : Codec α ok w p) {l r : Bytes} {x : α} (e : p l = some (x, r)) : r.length < l.length := by
 obtain ⟨rfl, _⟩ := h.can _ _ _ e
 have := List.length_pos_iff.2 (h.pos x)
 simp; omega

section lists
variable {α : Type} {ok : α → Prop} {w : α → Bytes} {p : Bytes → Option (α × Bytes)}

end lists

/-- None of two serializations is a proper prefix of the other. -/
theorem Codec.inj {α : Type} {ok : α → Prop} {w : α → Bytes} {p : Bytes → Option (α × Bytes)} (h : Codec α ok w p) {x y : α} {r t : Bytes} (hx : ok x) (hy : ok y) (e : w x ++ r = w y ++ t) : x = y ∧ r = t := by
 have a := h.inv x r hx
 rw [e, h.inv y t hy] at a
 simp only [Option.some.injEq, Prod.mk.injEq] at a
 exact ⟨a.1.symm, a.2.symm⟩

end Wr

namespace Wr
open Go

/-- The number that a row of digits spells, byte for byte. -/
def dv (l : Bytes) : Nat := l.foldl (fun a c => 10 * a + (c.toNat - 48)) 0
theorem dv_snoc (l : Bytes) (c : UInt8) : dv (l ++ [c]) = 10 * dv l + (c.toNat - 48) := by simp [dv]
theorem dv_dec (u : Nat) : dv (Lib.decDigits u) = u := by
 induction u using Nat.strongRecOn with
 | _ u ih =>
  by_cases h : u < 10
  ·rw [dec_small h]; unfold dv; simp only [List.foldl_cons, List.foldl_nil]; rw [digit_toNat h]; omega
  ·rw [dec_big h, dv_snoc, ih _ (by omega), digit_toNat (by omega)]; omega
theorem dv_step (l : Bytes) (j : Nat) (h : j < l.length) : dv (l.take (j + 1)) = 10 * dv (l.take j) + (l[j].toNat - 48) := by
 rw [List.take_succ_eq_append_getElem h, dv_snoc]

def neg (d : Bytes) : Bool := d.head? == some 45
def mag (d : Bytes) : Bytes := if neg d then d.tail else d

theorem dec_head (u : Nat) : neg (Lib.decDigits u) = false := by
 cases h : Lib.decDigits u with
 | nil => rfl
 | cons c r =>
  have := dec_digit u c (by rw [h]; simp)
  simp only [neg, List.head?_cons, beq_eq_false_iff_ne, ne_eq, Option.some.injEq]
  rintro rfl
  revert this; decide

theorem mag_length (d : Bytes) : (mag d).length + (if neg d then 1 else 0) = d.length := by
 unfold mag
 cases d with
 | nil => rfl
 | cons c r =>
  by_cases h : neg (c :: r)
  ·simp [h]
  ·simp [h]

theorem whole (d : Bytes) (F : Nat) (hF : F = if neg d then 1 else 0) : (mag d).take (d.length - F) = mag d := by
 have hl := mag_length d
 rw [← hF] at hl
 exact List.take_of_length_le (by omega)
end Wr

namespace Go.Proofs.YtljjbdbgedmadaaGreatDoor.Ru
open Go Go.Proofs.YtljjbdbgedmadaaGreatDoor
abbrev Bytes := List UInt8

/-! ### Pieces between bytes -/
/-- The pieces of a string between bytes e. -/
def pieces (e : UInt8) : Bytes → List Bytes
 | [] => [[]]
 | c :: l => if c = e then [] :: pieces e l else match pieces e l with
  | [] => [[c]]
  | p :: r => (c :: p) :: r
theorem pieces_ne (e : UInt8) (l : Bytes) : pieces e l ≠ [] := by
 cases l with
 | nil => simp [pieces]
 | cons c l => unfold pieces; split; simp; split <;> simp
/-- Words with a byte between them. -/
def joinB (e : UInt8) : List Bytes → Bytes
 | [] => []
 | [w] => w
 | w :: v :: r => w ++ e :: joinB e (v :: r)
theorem pieces_plain (e : UInt8) : ∀ (w : Bytes), e ∉ w → pieces e w = [w]
 | [], _ => rfl
 | c :: w, h => by
  have hc : c ≠ e := fun x => h (by simp [x])
  rw [pieces, if_neg hc, pieces_plain e w (fun x => h (by simp [x]))]
theorem pieces_app (e : UInt8) : ∀ (w r : Bytes), e ∉ w → pieces e (w ++ e :: r) = w :: pieces e r
 | [], r, _ => by simp [pieces]
 | c :: w, r, h => by
  have hc : c ≠ e := fun x => h (by simp [x])
  rw [List.cons_append, pieces, if_neg hc, pieces_app e w r (fun x => h (by simp [x]))]
theorem pieces_join (e : UInt8) : ∀ (ws : List Bytes), ws ≠ [] → (∀ w ∈ ws, e ∉ w) → pieces e (joinB e ws) = ws
 | [], h, _ => absurd rfl h
 | [w], _, h => pieces_plain e w (h w (by simp))
 | w :: v :: r, _, h => by
  rw [joinB, pieces_app e w _ (h w (by simp)), pieces_join e (v :: r) (by simp) (fun x hx => h x (by simp [hx]))]
theorem join_pieces (e : UInt8) : ∀ (l : Bytes), joinB e (pieces e l) = l
 | [] => rfl
 | c :: l => by
  have ih := join_pieces e l
  unfold pieces
  split
  ·rename_i hc
   have hn := pieces_ne e l
   cases hp : pieces e l with
   | nil => exact absurd hp hn
   | cons p r => rw [joinB, ← hp, ih, hc]; rfl
  ·cases hp : pieces e l with
   | nil => exact absurd hp (pieces_ne e l)
   | cons p r =>
    rw [hp] at ih
    cases r with
    | nil => simp only [joinB] at ih ⊢; rw [ih]
    | cons q r => simp only [joinB] at ih ⊢; rw [← ih]; rfl
/-! ### Names -/
def letter (c : UInt8) : Bool := decide (97 ≤ c.toNat ∧ c.toNat ≤ 122) || decide (65 ≤ c.toNat ∧ c.toNat ≤ 90)
def digit (c : UInt8) : Bool := decide (48 ≤ c.toNat ∧ c.toNat ≤ 57)
def nameC (c : UInt8) : Bool := letter c || digit c || c == 95 || c == 43 || c == 45
def nameR (s : Bytes) : Bool := match s with
 | [] => false
 | c :: _ => decide (s.length ≤ 16) && s.all nameC && (letter c || c == 43)
/-- What an index is: canonical, from 0 to 999. -/
def idx (s : Bytes) : Option Int := match Wr.parse s with
 | some n => if 0 ≤ n ∧ n ≤ 999 then some n else none
 | none => none
/-- The members of a bus from a on, towards b. -/
def memb (name : Bytes) (n : Int) : Bytes := name ++ 91 :: Lib.itoa n ++ [93]
def members (name : Bytes) (a b : Int) : List Bytes :=
 if a ≤ b then (List.range ((b - a).toNat + 1)).map fun k : Nat => memb name (a + (k : Int)) else (List.range ((a - b).toNat + 1)).map fun k : Nat => memb name (a - (k : Int))
/-- The two indices between the brackets. -/
def ends (inner : Bytes) : Option (Int × Int) := match Lib.cut inner [46, 46] with
 | (f, t, sev) => match idx f, idx (if sev then t else f) with
  | some a, some b => if a - b ≤ 15 ∧ b - a ≤ 15 then some (a, b) else none
  | _, _ => none
/-- What is in brackets behind a name. -/
def bus (s : Bytes) : Option (Bytes × Int × Int) := match Wr.cut1 91 s with
 | none => none
 | some (name, rest) => match rest.getLast? with
  | some 93 => if nameR name then (ends rest.dropLast).map fun p => (name, p.1, p.2) else none
  | _ => none
def expand (s : Bytes) : Option (List Bytes) := if nameR s then some [s] else (bus s).map fun p => members p.1 p.2.1 p.2.2
def member (s : Bytes) : Bool := expand s == some [s]
def split (s : Bytes) : Option (List Bytes) := if (pieces 47 s).all member then some (pieces 47 s) else none

/-! ### Conditions -/
structure Box where
 x0 : Int
 y0 : Int
 x1 : Int
 y1 : Int
 deriving DecidableEq, Repr
def Box.none : Box := ⟨0, 0, 0, 0⟩
inductive Cond where
 | mk (op : Int) (text : Bytes) (n : Int) (box : Box) (l : List Cond)
namespace Cond
def op : Cond → Int | .mk o _ _ _ _ => o
def text : Cond → Bytes | .mk _ t _ _ _ => t
def n : Cond → Int | .mk _ _ n _ _ => n
def box : Cond → Box | .mk _ _ _ b _ => b
def l : Cond → List Cond | .mk _ _ _ _ l => l
theorem ind {P : Cond → Prop} (h : ∀ op t n b l, (∀ c ∈ l, P c) → P (.mk op t n b l)) : ∀ c, P c
 | .mk op t n b l => h op t n b l (fun c _ => ind h c)
end Cond
def cAny : Cond := .mk 1 [] 0 .none []

mutual
def size : Cond → Nat
 | .mk _ _ _ _ l => sizes l + 1
def sizes : List Cond → Nat
 | [] => 0
 | c :: l => size c + sizes l
end
theorem size_mk (op : Int) (t : Bytes) (n : Int) (b : Box) (l : List Cond) : size (.mk op t n b l) = sizes l + 1 := by rw [size]
theorem size_pos (c : Cond) : 1 ≤ size c := by cases c; rw [size]; omega
def coordR (x : Int) : Bool := decide (-67108864 ≤ x ∧ x ≤ 67108864)
def boxR (b : Box) : Bool := decide (b.x0 ≤ b.x1) && decide (b.y0 ≤ b.y1) && (coordR b.x0 && coordR b.y0) && (coordR b.x1 && coordR b.y1)
def splitR (t : Bytes) : Bool := match split t with
 | some l => decide (l.length ≤ 5)
 | none => false
def fine (op : Int) (t : Bytes) (n : Int) (b : Box) (k : Nat) : Bool :=
 if op = 1 then true else if op = 2 then splitR t else if op = 3 then nameR t else if op = 4 then decide (1 ≤ n ∧ n ≤ 5) else if op = 5 then decide (1 ≤ n ∧ n ≤ 4)
 else if op = 6 then decide (1 ≤ n ∧ n ≤ 1000000000) else if op = 7 then boxR b else if op = 8 then k == 1 else if op = 9 ∨ op = 10 then decide (2 ≤ k) else false
def rest (op : Int) (t : Bytes) (n : Int) (b : Box) (k : Nat) : Bool :=
 (decide (op = 2 ∨ op = 3) || t.isEmpty) && (decide (op = 4 ∨ op = 5 ∨ op = 6) || n == 0) && (decide (op = 7) || decide (b = .none)) && (decide (op = 8 ∨ op = 9 ∨ op = 10) || k == 0)
mutual
def right : Cond → Bool
 | .mk op t n b l => fine op t n b l.length && rest op t n b l.length && rights l
def rights : List Cond → Bool
 | [] => true
 | c :: l => right c && rights l
end
theorem right_mk (op : Int) (t : Bytes) (n : Int) (b : Box) (l : List Cond) : right (.mk op t n b l) = (fine op t n b l.length && rest op t n b l.length && rights l) := by rw [right]
theorem rights_all (l : List Cond) : rights l = l.all right := by
 induction l with
 | nil => simp [rights]
 | cons c l ih => rw [rights, ih, List.all_cons]

/-! ### Words -/
def kwAny : Bytes := [97, 110, 121]
def kwNet : Bytes := [110, 101, 116]
def kwClass : Bytes := [99, 108, 97, 115, 115]
def kwKind : Bytes := [107, 105, 110, 100]
def kwLayer : Bytes := [108, 97, 121, 101, 114]
def kwPart : Bytes := [112, 97, 114, 116]
def kwIn : Bytes := [105, 110]
def kwNot : Bytes := [110, 111, 116]
def kwAnd : Bytes := [97, 110, 100]
def kwOr : Bytes := [111, 114]
def kwL : Bytes := [40]
def kwR : Bytes := [41]
def kwRule : Bytes := [114, 117, 108, 101]
def kwWhen : Bytes := [119, 104, 101, 110]
def kwTo : Bytes := [116, 111]
def whats : List Bytes := [[99, 108, 101, 97, 114], [119, 105, 100, 116, 104], [101, 100, 103, 101], [114, 105, 110, 103]]

/-- Whether a condition stands in brackets within another one. -/
def brk (ar op : Int) : Bool := decide (op = 10 ∧ ar ≠ 0) || decide (op = 9 ∧ ar ≠ 0 ∧ ar ≠ 10)
def inB (b : Bool) (ws : List Bytes) : List Bytes := if b then kwL :: ws ++ [kwR] else ws
mutual
def write : Int → Cond → List Bytes
 | ar, .mk op t n b l =>
  if op = 1 then [kwAny] else if op = 2 then [kwNet, t] else if op = 3 then [kwClass, t] else if op = 4 then [kwKind, Lib.itoa n] else if op = 5 then [kwLayer, Lib.itoa n]
  else if op = 6 then [kwPart, Lib.itoa n] else if op = 7 then [kwIn, Lib.itoa b.x0, Lib.itoa b.y0, Lib.itoa b.x1, Lib.itoa b.y1]
  else if op = 8 then kwNot :: writeH op l
  else inB (brk ar op) (writes (if op = 10 then kwOr else kwAnd) op l)
def writeH : Int → List Cond → List Bytes
 | _, [] => []
 | op, c :: _ => write op c
def writes : Bytes → Int → List Cond → List Bytes
 | _, _, [] => []
 | w, op, c :: l => write op c ++ writesT w op l
def writesT : Bytes → Int → List Cond → List Bytes
 | _, _, [] => []
 | w, op, c :: l => w :: write op c ++ writesT w op l
end

/-! ### Rules -/
structure Rule where
 name : Bytes
 prio : Int
 what : Int
 value : Int
 a : Cond
 b : Cond
def one (r : Rule) (before : List Bytes) : Int :=
 if nameR r.name = false then 20 else if r.name ∈ before then 6 else if r.prio < 0 ∨ 1000 < r.prio then 3 else if r.what < 1 ∨ 4 < r.what then 40 else if r.value < 0 ∨ 4194304 < r.value then 3
 else if right r.a = false ∨ right r.b = false then 40 else if 20 < size r.a ∨ 20 < size r.b then 2 else if r.what ≠ 1 ∧ r.b.op ≠ 1 then 40 else 0
def checkL (before : List Bytes) : List Rule → Int
 | [] => 0
 | r :: l => if one r before = 0 then checkL (before ++ [r.name]) l else one r before
def check (l : List Rule) : Int := if 24 < l.length then 2 else checkL [] l
def wordsOf (r : Rule) : List Bytes :=
 [kwRule, r.name, Lib.itoa r.prio, whats.getD (r.what - 1).toNat [], Lib.itoa r.value, kwWhen] ++ write 0 r.a ++ (if r.what = 1 then kwTo :: write 0 r.b else [])
def lineOf (r : Rule) : Bytes := joinB 32 (wordsOf r) ++ [10]
def textOf (l : List Rule) : Bytes := l.flatMap lineOf
def text (l : List Rule) : Bytes × Int := if check l = 0 then (textOf l, 0) else ([], check l)

/-! ### Reading -/
abbrev Ws := List Bytes
def next : Ws → Option (Bytes × Ws)
 | [] => none
 | w :: r => if w = [] then none else some (w, r)
def num (s : Bytes) : Option Int := match Wr.parse s with
 | some n => if -10000000000 < n ∧ n < 10000000000 then some n else none
 | none => none
def number (ws : Ws) : Option (Int × Ws) := match next ws with
 | none => none
 | some (w, r) => (num w).map fun n => (n, r)
def must (k : Bytes) (ws : Ws) : Option Ws := match next ws with
 | none => none
 | some (w, r) => if w = k then some r else none
def four (ws : Ws) : Option (Box × Ws) :=
 (number ws).bind fun (x0, r) => (number r).bind fun (y0, r) => (number r).bind fun (x1, r) => (number r).map fun (y1, r) => (⟨x0, y0, x1, y1⟩, r)
/-- One condition alone, or several under an operator. -/
def mk1 (op : Int) (l : List Cond) : Cond := match l with | [c] => c | _ => .mk op [] 0 .none l
/-- More conditions with a word between them. -/
def more (word : Bytes) (op : Int) (rd : Ws → Option (Cond × Ws)) : Nat → List Cond → Ws → Option (Cond × Ws)
 | 0, l, r => some (mk1 op l, r)
 | k + 1, l, r => if r.head? = some word then match rd r.tail with
  | none => none
  | some (c, r') => more word op rd k (l ++ [c]) r' else some (mk1 op l, r)
def lst (word : Bytes) (op : Int) (rd : Ws → Option (Cond × Ws)) (ws : Ws) : Option (Cond × Ws) := match rd ws with
 | none => none
 | some (c, r) => more word op rd r.length [c] r
def leaf (op : Int) (t : Bytes) (n : Int) (b : Box) : Cond := .mk op t n b []
def orc (fac : Ws → Option (Cond × Ws)) (ws : Ws) : Option (Cond × Ws) := lst kwOr 10 (lst kwAnd 9 fac) ws
def fac : Nat → Ws → Option (Cond × Ws)
 | 0, _ => none
 | n + 1, ws => match next ws with
  | none => none
  | some (w, r) =>
   if w = kwNet then (next r).map fun p => (leaf 2 p.1 0 .none, p.2)
   else if w = kwClass then (next r).map fun p => (leaf 3 p.1 0 .none, p.2)
   else if w = kwKind then (number r).map fun p => (leaf 4 [] p.1 .none, p.2)
   else if w = kwLayer then (number r).map fun p => (leaf 5 [] p.1 .none, p.2)
   else if w = kwPart then (number r).map fun p => (leaf 6 [] p.1 .none, p.2)
   else if w = kwAny then some (cAny, r)
   else if w = kwIn then (four r).map fun p => (leaf 7 [] 0 p.1, p.2)
   else if w = kwNot then (fac n r).map fun p => (.mk 8 [] 0 .none [p.1], p.2)
   else if w = kwL then (orc (fac n) r).bind fun p => (must kwR p.2).map fun q => (p.1, q)
   else none
def whatOf (w : Bytes) : Int := match whats.idxOf? w with
 | some k => k + 1
 | none => 0
def lineW (ws : Ws) : Option Rule :=
 (must kwRule ws).bind fun r => (next r).bind fun (nm, r) => (number r).bind fun (prio, r) => (next r).bind fun (wh, r) => (number r).bind fun (v, r) => (must kwWhen r).bind fun r =>
 (orc (fac r.length) r).bind fun (a, r) =>
 if whatOf wh = 1 then (must kwTo r).bind fun r => (orc (fac r.length) r).bind fun (b, r) => if r = [] then some ⟨nm, prio, 1, v, a, b⟩ else none
 else if 0 < whatOf wh ∧ r = [] then some ⟨nm, prio, whatOf wh, v, a, cAny⟩ else none
def line (s : Bytes) : Option Rule := lineW (pieces 32 s)
/-- What reading gives: rules, the number of a line, an error. -/
def parseL (n : Int) (acc : List Rule) : List Bytes → List Rule × Int × Int
 | [] => ([], 0, 0)
 | [z] => if z ≠ [] then ([], n, 4) else if check acc = 0 then (acc, 0, 0) else ([], 0, check acc)
 | x :: y :: r => match line x with
  | none => ([], n, 4)
  | some q => parseL (n + 1) (acc ++ [q]) (y :: r)
def parse (s : Bytes) : List Rule × Int × Int := if 262144 < s.length then ([], 0, 2) else parseL 1 [] (pieces 10 s)

end Go.Proofs.YtljjbdbgedmadaaGreatDoor.Ru

namespace Go.Proofs.YtljjbdbgedmadaaGreatDoor.Ru
open Go Go.Proofs.YtljjbdbgedmadaaGreatDoor

/-! ### Good words -/
def WordOk (w : Bytes) : Prop := w ≠ [] ∧ 32 ∉ w ∧ 10 ∉ w
theorem itoa_ok (n : Int) : WordOk (Lib.itoa n) := ⟨Wr.itoa_ne n, fun h => by
  rcases Wr.itoa_byte n _ h with h | h <;> revert h <;> decide, fun h => by
  rcases Wr.itoa_byte n _ h with h | h <;> revert h <;> decide⟩
theorem nameC_ok {c : UInt8} (h : nameC c = true) : c ≠ 32 ∧ c ≠ 10 := by
 constructor <;> (intro e; subst e; revert h; decide)
theorem nameR_ok {s : Bytes} (h : nameR s = true) : WordOk s := by
 cases s with
 | nil => simp [nameR] at h
 | cons c l =>
  simp only [nameR, Bool.and_eq_true] at h
  have ha := List.all_eq_true.1 h.1.2
  exact ⟨by simp, fun hx => (nameC_ok (ha _ hx)).1 rfl, fun hx => (nameC_ok (ha _ hx)).2 rfl⟩
theorem memb_ok {name : Bytes} {n : Int} (h : nameR name = true) : WordOk (memb name n) := by
 obtain ⟨h1, h2, h3⟩ := nameR_ok h
 obtain ⟨i1, i2, i3⟩ := itoa_ok n
 unfold memb
 refine ⟨by simp, ?_, ?_⟩ <;> simp_all
theorem bus_name {s : Bytes} {p : Bytes × Int × Int} (h : bus s = some p) : nameR p.1 = true := by
 unfold bus at h
 split at h
 ·cases h
 ·split at h
  ·split at h
   ·rename_i hn
    simp only [Option.map_eq_some_iff] at h
    obtain ⟨q, _, rfl⟩ := h
    exact hn
   ·cases h
  ·cases h
theorem member_ok {s : Bytes} (h : member s = true) : WordOk s := by
 unfold member expand at h
 split at h
 ·rename_i hn; exact nameR_ok hn
 ·have h := eq_of_beq h
  simp only [Option.map_eq_some_iff] at h
  obtain ⟨p, hp, he⟩ := h
  have hn := bus_name hp
  unfold members at he
  split at he
  ·rw [List.range_succ_eq_map] at he
   simp only [List.map_cons] at he
   injection he with he _
   rw [← he]; exact memb_ok hn
  ·rw [List.range_succ_eq_map] at he
   simp only [List.map_cons] at he
   injection he with he _
   rw [← he]; exact memb_ok hn
theorem join_mem {e : UInt8} {c : UInt8} : ∀ {ws : List Bytes}, c ∈ joinB e ws → c = e ∨ ∃ w ∈ ws, c ∈ w
 | [], h => by simp [joinB] at h
 | [w], h => .inr ⟨w, by simp, h⟩
 | w :: v :: r, h => by
  rw [joinB] at h
  rcases List.mem_append.1 h with h | h
  ·exact .inr ⟨w, by simp, h⟩
  ·rcases List.mem_cons.1 h with h | h
   ·exact .inl h
   ·rcases join_mem h with h | ⟨x, hx, h⟩
    ·exact .inl h
    ·exact .inr ⟨x, by simp [hx], h⟩
theorem splitR_ok {t : Bytes} (h : splitR t = true) : WordOk t := by
 unfold splitR split at h
 split at h
 ·rename_i l hl
  split at hl
  ·rename_i ha
   have ha := List.all_eq_true.1 ha
   refine ⟨fun e => ?_, fun hx => ?_, fun hx => ?_⟩
   ·subst e
    have := ha [] (by simp [pieces])
    revert this; decide
   ·rw [← join_pieces 47 t] at hx
    rcases join_mem hx with hx | ⟨w, hw, hx⟩
    ·revert hx; decide
    ·exact (member_ok (ha w hw)).2.1 hx
   ·rw [← join_pieces 47 t] at hx
    rcases join_mem hx with hx | ⟨w, hw, hx⟩
    ·revert hx; decide
    ·exact (member_ok (ha w hw)).2.2 hx
  ·cases hl
 ·cases h

/-! ### A condition's form -/
theorem kw_ok : WordOk kwAny ∧ WordOk kwNet ∧ WordOk kwClass ∧ WordOk kwKind ∧ WordOk kwLayer ∧ WordOk kwPart ∧ WordOk kwIn ∧ WordOk kwNot ∧ WordOk kwAnd ∧ WordOk kwOr ∧ WordOk kwL ∧ WordOk kwR ∧ WordOk kwRule ∧ WordOk kwWhen ∧ WordOk kwTo := by
 refine ⟨?_, ?_, ?_, ?_, ?_, ?_, ?_, ?_, ?_, ?_, ?_, ?_, ?_, ?_, ?_⟩ <;> (unfold WordOk; decide)
theorem whats_ok : ∀ w ∈ whats, WordOk w := by unfold WordOk; decide

/-- The operators of right conditions, with what else they have. -/
inductive Form : Cond → Prop
 | any : Form cAny
 | net (t : Bytes) : splitR t = true → Form (leaf 2 t 0 .none)
 | cls (t : Bytes) : nameR t = true → Form (leaf 3 t 0 .none)
 | kind (n : Int) : 1 ≤ n → n ≤ 5 → Form (leaf 4 [] n .none)
 | layer (n : Int) : 1 ≤ n → n ≤ 4 → Form (leaf 5 [] n .none)
 | part (n : Int) : 1 ≤ n → n ≤ 1000000000 → Form (leaf 6 [] n .none)
 | box (b : Box) : boxR b = true → Form (leaf 7 [] 0 b)
 | not (c : Cond) : right c = true → Form (.mk 8 [] 0 .none [c])
 | and (l : List Cond) : 2 ≤ l.length → (∀ c ∈ l, right c = true) → Form (.mk 9 [] 0 .none l)
 | or (l : List Cond) : 2 ≤ l.length → (∀ c ∈ l, right c = true) → Form (.mk 10 [] 0 .none l)
theorem right_form {c : Cond} (h : right c = true) : Form c := by
 obtain ⟨op, t, n, b, l⟩ := c
 rw [right_mk, rights_all, Bool.and_eq_true, Bool.and_eq_true] at h
 obtain ⟨⟨h1, h2⟩, h3⟩ := h
 unfold fine at h1
 unfold rest at h2
 simp only [Bool.and_eq_true, Bool.or_eq_true, decide_eq_true_eq, beq_iff_eq, List.isEmpty_iff, List.length_eq_zero_iff] at h2
 have h3 := List.all_eq_true.1 h3
 obtain ⟨⟨⟨a1, a2⟩, a3⟩, a4⟩ := h2
 split at h1
 ·subst op
  have e1 : t = [] := by simpa using a1
  have e2 : n = 0 := by simpa using a2
  have e3 : b = .none := by simpa using a3
  have e4 : l = [] := by simpa using a4
  subst e1 e2 e3 e4; exact .any
 split at h1
 ·subst op
  have e2 : n = 0 := by simpa using a2
  have e3 : b = .none := by simpa using a3
  have e4 : l = [] := by simpa using a4
  subst e2 e3 e4; exact .net t h1
 split at h1
 ·subst op
  have e2 : n = 0 := by simpa using a2
  have e3 : b = .none := by simpa using a3
  have e4 : l = [] := by simpa using a4
  subst e2 e3 e4; exact .cls t h1
 split at h1
 ·subst op
  have e1 : t = [] := by simpa using a1
  have e3 : b = .none := by simpa using a3
  have e4 : l = [] := by simpa using a4
  simp only [decide_eq_true_eq] at h1
  subst e1 e3 e4; exact .kind n h1.1 h1.2
 split at h1
 ·subst op
  have e1 : t = [] := by simpa using a1
  have e3 : b = .none := by simpa using a3
  have e4 : l = [] := by simpa using a4
  simp only [decide_eq_true_eq] at h1
  subst e1 e3 e4; exact .layer n h1.1 h1.2
 split at h1
 ·subst op
  have e1 : t = [] := by simpa using a1
  have e3 : b = .none := by simpa using a3
  have e4 : l = [] := by simpa using a4
  simp only [decide_eq_true_eq] at h1
  subst e1 e3 e4; exact .part n h1.1 h1.2
 split at h1
 ·subst op
  have e1 : t = [] := by simpa using a1
  have e2 : n = 0 := by simpa using a2
  have e4 : l = [] := by simpa using a4
  subst e1 e2 e4; exact .box b h1
 split at h1
 ·subst op
  have e1 : t = [] := by simpa using a1
  have e2 : n = 0 := by simpa using a2
  have e3 : b = .none := by simpa using a3
  subst e1 e2 e3
  have hl : l.length = 1 := by simpa using h1
  obtain ⟨c, rfl⟩ := List.length_eq_one_iff.1 hl
  exact .not c (h3 c (by simp))
 split at h1
 ·rename_i ho
  have h1 := of_decide_eq_true h1
  rcases ho with rfl | rfl
  all_goals
   have e1 : t = [] := by simpa using a1
   have e2 : n = 0 := by simpa using a2
   have e3 : b = .none := by simpa using a3
   subst e1 e2 e3
  ·exact .and l h1 h3
  ·exact .or l h1 h3
 ·cases h1

theorem writes_eq (w : Bytes) (op : Int) (c : Cond) (l : List Cond) : writes w op (c :: l) = write op c ++ writesT w op l := by rw [writes]
theorem writesT_eq (w : Bytes) (op : Int) (c : Cond) (l : List Cond) : writesT w op (c :: l) = w :: write op c ++ writesT w op l := by rw [writesT]
theorem write_any (ar : Int) : write ar cAny = [kwAny] := by simp [cAny, write]
theorem write_net (ar : Int) (t : Bytes) : write ar (leaf 2 t 0 .none) = [kwNet, t] := by simp [leaf, write]
theorem write_cls (ar : Int) (t : Bytes) : write ar (leaf 3 t 0 .none) = [kwClass, t] := by simp [leaf, write]
theorem write_kind (ar n : Int) : write ar (leaf 4 [] n .none) = [kwKind, Lib.itoa n] := by simp [leaf, write]
theorem write_layer (ar n : Int) : write ar (leaf 5 [] n .none) = [kwLayer, Lib.itoa n] := by simp [leaf, write]
theorem write_part (ar n : Int) : write ar (leaf 6 [] n .none) = [kwPart, Lib.itoa n] := by simp [leaf, write]
theorem write_box (ar : Int) (b : Box) : write ar (leaf 7 [] 0 b) = [kwIn, Lib.itoa b.x0, Lib.itoa b.y0, Lib.itoa b.x1, Lib.itoa b.y1] := by simp [leaf, write]
theorem write_not (ar : Int) (c : Cond) : write ar (.mk 8 [] 0 .none [c]) = kwNot :: write 8 c := by simp [write, writeH]
theorem write_and (ar : Int) (l : List Cond) : write ar (.mk 9 [] 0 .none l) = inB (brk ar 9) (writes kwAnd 9 l) := by rw [write]; simp
theorem write_or (ar : Int) (l : List Cond) : write ar (.mk 10 [] 0 .none l) = inB (brk ar 10) (writes kwOr 10 l) := by rw [write]; simp

/-! ### What is written is read -/
theorem num_itoa {n : Int} (h : -10000000000 < n) (h' : n < 10000000000) : num (Lib.itoa n) = some n := by
 unfold num
 rw [Wr.parse_some.2 ⟨rfl, by unfold Wr.I64; omega⟩]
 simp only [h, h', and_self, if_true]
theorem next_cons {w : Bytes} {r : Ws} (h : w ≠ []) : next (w :: r) = some (w, r) := by simp [next, h]
theorem number_itoa {n : Int} (r : Ws) (h : -10000000000 < n) (h' : n < 10000000000) : number (Lib.itoa n :: r) = some (n, r) := by
 unfold number
 rw [next_cons (itoa_ok n).1]
 dsimp only
 rw [num_itoa h h']; rfl
theorem must_cons {k : Bytes} {r : Ws} (h : k ≠ []) : must k (k :: r) = some r := by simp [must, next_cons h]
theorem more_stop {word : Bytes} {op : Int} {rd : Ws → Option (Cond × Ws)} {k : Nat} {l : List Cond} {r : Ws} (h : r.head? ≠ some word) : more word op rd k l r = some (mk1 op l, r) := by
 cases k with
 | zero => rfl
 | succ k => rw [more, if_neg h]
theorem more_go {word : Bytes} {op : Int} {rd : Ws → Option (Cond × Ws)} {k : Nat} {l : List Cond} {r : Ws} : more word op rd (k + 1) l (word :: r) = match rd r with
  | none => none
  | some (c, r') => more word op rd k (l ++ [c]) r' := by
 rw [more, if_pos (by simp)]; rfl
theorem more_writes {word : Bytes} {op : Int} {rd : Ws → Option (Cond × Ws)} {N : Nat} {B : Ws → Prop} (hb : ∀ t, B (word :: t)) : ∀ (l acc : List Cond) (r : Ws) (k : Nat),
  (∀ x ∈ l, ∀ r', B r' → (write op x ++ r').length ≤ N → rd (write op x ++ r') = some (x, r')) → B r → r.head? ≠ some word → (writesT word op l ++ r).length ≤ N → (writesT word op l ++ r).length ≤ k →
  more word op rd k acc (writesT word op l ++ r) = some (mk1 op (acc ++ l), r)
 | [], acc, r, k, _, _, hw, _, _ => by
  rw [writesT, List.nil_append, more_stop hw, List.append_nil]
 | x :: l, acc, r, k, hx, hbd, hw, hN, hk => by
  rw [writesT_eq] at hN hk ⊢
  simp only [List.cons_append, List.append_assoc, List.length_cons, List.length_append] at hN hk ⊢
  obtain ⟨k, rfl⟩ : ∃ j, k = j + 1 := ⟨k - 1, by omega⟩
  rw [more_go, hx x (by simp) (writesT word op l ++ r) ?_ (by simp; omega)]
  ·dsimp only
   rw [more_writes hb l (acc ++ [x]) r k (fun y hy => hx y (by simp [hy])) hbd hw (by simp; omega) (by simp; omega), List.append_assoc]; rfl
  ·cases l with
   | nil => simpa [writesT] using hbd
   | cons y l => rw [writesT_eq]; exact hb _
theorem lst_writes {word : Bytes} {op : Int} {rd : Ws → Option (Cond × Ws)} {N : Nat} {B : Ws → Prop} (hb : ∀ t, B (word :: t)) {l : List Cond} {r : Ws} (hl : l ≠ [])
  (hx : ∀ x ∈ l, ∀ r', B r' → (write op x ++ r').length ≤ N → rd (write op x ++ r') = some (x, r')) (hbd : B r) (hw : r.head? ≠ some word) (hN : (writes word op l ++ r).length ≤ N) :
  lst word op rd (writes word op l ++ r) = some (mk1 op l, r) := by
 cases l with
 | nil => exact absurd rfl hl
 | cons x l =>
  rw [writes_eq, List.append_assoc] at hN ⊢
  unfold lst
  rw [hx x (by simp) _ ?_ hN]
  ·dsimp only
   simp only [List.length_append] at hN
   rw [more_writes hb l [x] r _ (fun y hy => hx y (by simp [hy])) hbd hw (by simp; omega) (Nat.le_refl _)]; rfl
  ·cases l with
   | nil => simpa [writesT] using hbd
   | cons y l => rw [writesT_eq]; exact hb _

def Fac (c : Cond) : Prop := ∀ n rest ar, (ar = 8 ∨ ar = 9) → (write ar c ++ rest).length ≤ n → fac n (write ar c ++ rest) = some (c, rest)
def And' (c : Cond) : Prop := ∀ n rest, rest.head? ≠ some kwAnd → (write 10 c ++ rest).length ≤ n → lst kwAnd 9 (fac n) (write 10 c ++ rest) = some (c, rest)
def Or' (c : Cond) : Prop := ∀ n rest, rest.head? ≠ some kwAnd → rest.head? ≠ some kwOr → (write 0 c ++ rest).length ≤ n → orc (fac n) (write 0 c ++ rest) = some (c, rest)
theorem lst_one {word : Bytes} {op : Int} {rd : Ws → Option (Cond × Ws)} {ws r : Ws} {c : Cond} (h : rd ws = some (c, r)) (hw : r.head? ≠ some word) : lst word op rd ws = some (c, r) := by
 unfold lst; rw [h]; dsimp only; rw [more_stop hw]; rfl
theorem all_of_fac {c : Cond} (h : Fac c) (he : ∀ ar, write ar c = write 8 c) : Fac c ∧ And' c ∧ Or' c := by
 have ha : And' c := fun n rest h1 hn => by
  rw [he] at hn ⊢
  exact lst_one (h n rest 8 (.inl rfl) hn) h1
 refine ⟨h, ha, fun n rest h1 h2 hn => ?_⟩
 rw [he, ← he 10] at hn ⊢
 exact lst_one (ha n rest h1 hn) h2
theorem fac_word {n : Nat} {w : Bytes} {r : Ws} (h : w ≠ []) : fac (n + 1) (w :: r) =
   (if w = kwNet then (next r).map fun p => (leaf 2 p.1 0 .none, p.2)
   else if w = kwClass then (next r).map fun p => (leaf 3 p.1 0 .none, p.2)
   else if w = kwKind then (number r).map fun p => (leaf 4 [] p.1 .none, p.2)
   else if w = kwLayer then (number r).map fun p => (leaf 5 [] p.1 .none, p.2)
   else if w = kwPart then (number r).map fun p => (leaf 6 [] p.1 .none, p.2)
   else if w = kwAny then some (cAny, r)
   else if w = kwIn then (four r).map fun p => (leaf 7 [] 0 p.1, p.2)
   else if w = kwNot then (fac n r).map fun p => (.mk 8 [] 0 .none [p.1], p.2)
   else if w = kwL then (orc (fac n) r).bind fun p => (must kwR p.2).map fun q => (p.1, q)
   else none) := by
 rw [fac, next_cons h]
theorem fac_bracket {c : Cond} (h : Or' c) {n : Nat} {rest : Ws} (hn : (kwL :: write 0 c ++ kwR :: rest).length ≤ n) : fac n (kwL :: write 0 c ++ kwR :: rest) = some (c, rest) := by
 simp only [List.cons_append, List.length_cons, List.length_append] at hn
 obtain ⟨n, rfl⟩ : ∃ j, n = j + 1 := ⟨n - 1, by omega⟩
 rw [List.cons_append, fac_word (by decide)]
 simp only [show (kwL = kwNet) = False by decide, show (kwL = kwClass) = False by decide, show (kwL = kwKind) = False by decide, show (kwL = kwLayer) = False by decide, show (kwL = kwPart) = False by decide, show (kwL = kwAny) = False by decide, show (kwL = kwIn) = False by decide, show (kwL = kwNot) = False by decide, if_false, if_true]
 rw [h n (kwR :: rest) (by simp [kwR, kwAnd]) (by simp [kwR, kwOr]) (by simp; omega)]
 simp [must_cons (show kwR ≠ [] by decide)]
theorem inB_true (ws : List Bytes) : inB true ws = kwL :: ws ++ [kwR] := rfl
theorem inB_false (ws : List Bytes) : inB false ws = ws := rfl
theorem coord_num {x : Int} (h : coordR x = true) : -10000000000 < x ∧ x < 10000000000 := by
 have := of_decide_eq_true h; omega
theorem boxR_num {b : Box} (h : boxR b = true) : (coordR b.x0 = true ∧ coordR b.y0 = true) ∧ coordR b.x1 = true ∧ coordR b.y1 = true := by
 simp only [boxR, Bool.and_eq_true] at h
 exact ⟨h.1.2, h.2⟩
theorem four_write {b : Box} (r : Ws) (h : boxR b = true) : four (Lib.itoa b.x0 :: Lib.itoa b.y0 :: Lib.itoa b.x1 :: Lib.itoa b.y1 :: r) = some (b, r) := by
 obtain ⟨⟨h0, h1⟩, h2, h3⟩ := boxR_num h
 unfold four
 rw [number_itoa _ (coord_num h0).1 (coord_num h0).2]
 simp only [Option.bind_some]
 rw [number_itoa _ (coord_num h1).1 (coord_num h1).2]
 simp only [Option.bind_some]
 rw [number_itoa _ (coord_num h2).1 (coord_num h2).2]
 simp only [Option.bind_some]
 rw [number_itoa _ (coord_num h3).1 (coord_num h3).2]
 rfl
theorem reads (c : Cond) : right c = true → Fac c ∧ And' c ∧ Or' c := by
 refine Cond.ind (P := fun c => right c = true → Fac c ∧ And' c ∧ Or' c) (fun op t n b l ih h => ?_) c
 have hf := right_form h
 generalize hc : Cond.mk op t n b l = c at hf h
 cases hf with
 | any =>
  refine all_of_fac (fun n rest ar _ hn => ?_) (fun ar => by rw [write_any, write_any])
  rw [write_any] at hn ⊢
  obtain ⟨n, rfl⟩ : ∃ j, n = j + 1 := ⟨n - 1, by simp at hn; omega⟩
  rw [List.cons_append, fac_word (by decide)]; rfl
 | net t ht =>
  refine all_of_fac (fun n rest ar _ hn => ?_) (fun ar => by rw [write_net, write_net])
  rw [write_net] at hn ⊢
  obtain ⟨n, rfl⟩ : ∃ j, n = j + 1 := ⟨n - 1, by simp at hn; omega⟩
  rw [List.cons_append, fac_word (by decide), if_pos rfl, List.cons_append, next_cons (splitR_ok ht).1]; rfl
 | cls t ht =>
  refine all_of_fac (fun n rest ar _ hn => ?_) (fun ar => by rw [write_cls, write_cls])
  rw [write_cls] at hn ⊢
  obtain ⟨n, rfl⟩ : ∃ j, n = j + 1 := ⟨n - 1, by simp at hn; omega⟩
  rw [List.cons_append, fac_word (by decide), if_neg (by decide), if_pos rfl, List.cons_append, next_cons (nameR_ok ht).1]; rfl
 | kind m h1 h2 =>
  refine all_of_fac (fun n rest ar _ hn => ?_) (fun ar => by rw [write_kind, write_kind])
  rw [write_kind] at hn ⊢
  obtain ⟨n, rfl⟩ : ∃ j, n = j + 1 := ⟨n - 1, by simp at hn; omega⟩
  rw [List.cons_append, fac_word (by decide), if_neg (by decide), if_neg (by decide), if_pos rfl, List.cons_append, number_itoa _ (by omega) (by omega)]; rfl
 | layer m h1 h2 =>
  refine all_of_fac (fun n rest ar _ hn => ?_) (fun ar => by rw [write_layer, write_layer])
  rw [write_layer] at hn ⊢
  obtain ⟨n, rfl⟩ : ∃ j, n = j + 1 := ⟨n - 1, by simp at hn; omega⟩
  rw [List.cons_append, fac_word (by decide), if_neg (by decide), if_neg (by decide), if_neg (by decide), if_pos rfl, List.cons_append, number_itoa _ (by omega) (by omega)]; rfl
 | part m h1 h2 =>
  refine all_of_fac (fun n rest ar _ hn => ?_) (fun ar => by rw [write_part, write_part])
  rw [write_part] at hn ⊢
  obtain ⟨n, rfl⟩ : ∃ j, n = j + 1 := ⟨n - 1, by simp at hn; omega⟩
  rw [List.cons_append, fac_word (by decide), if_neg (by decide), if_neg (by decide), if_neg (by decide), if_neg (by decide), if_pos rfl, List.cons_append, number_itoa _ (by omega) (by omega)]; rfl
 | box b hb =>
  refine all_of_fac (fun n rest ar _ hn => ?_) (fun ar => by rw [write_box, write_box])
  rw [write_box] at hn ⊢
  obtain ⟨n, rfl⟩ : ∃ j, n = j + 1 := ⟨n - 1, by simp at hn; omega⟩
  rw [List.cons_append, fac_word (by decide), if_neg (by decide), if_neg (by decide), if_neg (by decide), if_neg (by decide), if_neg (by decide), if_neg (by decide), if_pos rfl]
  simp only [List.cons_append, List.nil_append]
  rw [four_write _ hb]; rfl
 | not d hd =>
  injection hc with _ _ _ _ hl
  have hi := (ih d (by rw [hl]; simp) hd).1
  refine all_of_fac (fun n rest ar _ hn => ?_) (fun ar => by rw [write_not, write_not])
  rw [write_not] at hn ⊢
  obtain ⟨n, rfl⟩ : ∃ j, n = j + 1 := ⟨n - 1, by simp at hn; omega⟩
  rw [List.cons_append, fac_word (by decide), if_neg (by decide), if_neg (by decide), if_neg (by decide), if_neg (by decide), if_neg (by decide), if_neg (by decide), if_neg (by decide), if_pos rfl, hi n rest 8 (.inl rfl) (by simpa using hn)]; rfl
 | and m h2 hr =>
  injection hc with _ _ _ _ hl
  subst hl
  have hm : mk1 9 l = .mk 9 [] 0 .none l := by
   unfold mk1; split
   ·simp at h2
   ·rfl
  have e10 : write 10 (.mk 9 [] 0 .none l) = writes kwAnd 9 l := by rw [write_and]; rfl
  have e0 : write 0 (.mk 9 [] 0 .none l) = writes kwAnd 9 l := by rw [write_and]; rfl
  have ha : And' (.mk 9 [] 0 .none l) := fun n rest h1 hn => by
   rw [e10] at hn ⊢
   rw [← hm]
   exact lst_writes (B := fun _ => True) (fun _ => trivial) (by intro e; subst e; simp at h2) (fun x hx r' _ hN => (ih x hx (hr x hx)).1 n r' 9 (.inr rfl) hN) trivial h1 hn
  have ho : Or' (.mk 9 [] 0 .none l) := fun n rest h1 h2 hn => by
   rw [e0, ← e10] at hn ⊢
   exact lst_one (ha n rest h1 hn) h2
  refine ⟨fun n rest ar har hn => ?_, ha, ho⟩
  have e : write ar (.mk 9 [] 0 .none l) ++ rest = kwL :: write 0 (.mk 9 [] 0 .none l) ++ kwR :: rest := by
   rw [write_and, e0]; rcases har with rfl | rfl <;> simp [brk, inB]
  rw [e] at hn ⊢
  exact fac_bracket ho hn
 | or m h2 hr =>
  injection hc with _ _ _ _ hl
  subst hl
  have hm : mk1 10 l = .mk 10 [] 0 .none l := by
   unfold mk1; split
   ·simp at h2
   ·rfl
  have e0 : write 0 (.mk 10 [] 0 .none l) = writes kwOr 10 l := by rw [write_or]; rfl
  have ho : Or' (.mk 10 [] 0 .none l) := fun n rest h1 h2' hn => by
   rw [e0] at hn ⊢
   rw [← hm]
   exact lst_writes (B := fun r => r.head? ≠ some kwAnd) (fun t => by simp [kwOr, kwAnd]) (by intro e; subst e; simp at h2) (fun x hx r' hr' hN => (ih x hx (hr x hx)).2.1 n r' hr' hN) h1 h2' hn
  have hfc : Fac (.mk 10 [] 0 .none l) := fun n rest ar har hn => by
   have e : write ar (.mk 10 [] 0 .none l) ++ rest = kwL :: write 0 (.mk 10 [] 0 .none l) ++ kwR :: rest := by
    rw [write_or, e0]; rcases har with rfl | rfl <;> simp [brk, inB]
   rw [e] at hn ⊢
   exact fac_bracket ho hn
  refine ⟨hfc, fun n rest h1 hn => ?_, ho⟩
  have e : write 10 (.mk 10 [] 0 .none l) = write 8 (.mk 10 [] 0 .none l) := by rw [write_or, write_or]; rfl
  rw [e] at hn ⊢
  exact lst_one (hfc n rest 8 (.inl rfl) hn) h1
end Go.Proofs.YtljjbdbgedmadaaGreatDoor.Ru

namespace Go.Proofs.YtljjbdbgedmadaaGreatDoor.Ru
open Go Go.Proofs.YtljjbdbgedmadaaGreatDoor

/-! ### The words of a condition are good ones -/
theorem mem_inB {b : Bool} {ws : List Bytes} (h : ∀ w ∈ ws, WordOk w) : ∀ w ∈ inB b ws, WordOk w := by
 intro w hw
 cases b with
 | false => exact h w hw
 | true =>
  rw [inB_true] at hw
  simp only [List.cons_append, List.mem_cons, List.mem_append, List.not_mem_nil, or_false] at hw
  rcases hw with rfl | hw | rfl
  ·exact kw_ok.2.2.2.2.2.2.2.2.2.2.1
  ·exact h w hw
  ·exact kw_ok.2.2.2.2.2.2.2.2.2.2.2.1
theorem writesT_ok {w : Bytes} {op : Int} (hw : WordOk w) : ∀ (l : List Cond), (∀ c ∈ l, ∀ x ∈ write op c, WordOk x) → ∀ x ∈ writesT w op l, WordOk x
 | [], _, x, hx => by rw [writesT] at hx; cases hx
 | c :: l, h, x, hx => by
  rw [writesT_eq] at hx
  simp only [List.cons_append, List.mem_cons, List.mem_append] at hx
  rcases hx with rfl | hx | hx
  ·exact hw
  ·exact h c (by simp) x hx
  ·exact writesT_ok hw l (fun c hc => h c (by simp [hc])) x hx
theorem writes_ok {w : Bytes} {op : Int} (hw : WordOk w) (l : List Cond) (h : ∀ c ∈ l, ∀ x ∈ write op c, WordOk x) : ∀ x ∈ writes w op l, WordOk x := by
 cases l with
 | nil => intro x hx; rw [writes] at hx; cases hx
 | cons c l =>
  intro x hx
  rw [writes_eq] at hx
  rcases List.mem_append.1 hx with hx | hx
  ·exact h c (by simp) x hx
  ·exact writesT_ok hw l (fun c hc => h c (by simp [hc])) x hx
theorem write_ok (c : Cond) : right c = true → ∀ ar, ∀ w ∈ write ar c, WordOk w := by
 refine Cond.ind (P := fun c => right c = true → ∀ ar, ∀ w ∈ write ar c, WordOk w) (fun op t n b l ih h => ?_) c
 have hf := right_form h
 generalize hc : Cond.mk op t n b l = c at hf h
 obtain ⟨k1, k2, k3, k4, k5, k6, k7, k8, k9, k10, _⟩ := kw_ok
 cases hf with
 | any => intro ar w hw; rw [write_any] at hw; simp at hw; subst hw; exact k1
 | net t ht => intro ar w hw; rw [write_net] at hw; simp at hw; rcases hw with rfl | rfl; exact k2; exact splitR_ok ht
 | cls t ht => intro ar w hw; rw [write_cls] at hw; simp at hw; rcases hw with rfl | rfl; exact k3; exact nameR_ok ht
 | kind m h1 h2 => intro ar w hw; rw [write_kind] at hw; simp at hw; rcases hw with rfl | rfl; exact k4; exact itoa_ok _
 | layer m h1 h2 => intro ar w hw; rw [write_layer] at hw; simp at hw; rcases hw with rfl | rfl; exact k5; exact itoa_ok _
 | part m h1 h2 => intro ar w hw; rw [write_part] at hw; simp at hw; rcases hw with rfl | rfl; exact k6; exact itoa_ok _
 | box b hb => intro ar w hw; rw [write_box] at hw; simp at hw; rcases hw with rfl | rfl | rfl | rfl | rfl; exact k7; all_goals exact itoa_ok _
 | not d hd =>
  injection hc with _ _ _ _ hl
  intro ar w hw
  rw [write_not] at hw
  rcases List.mem_cons.1 hw with rfl | hw
  ·exact k8
  ·exact ih d (by rw [hl]; simp) hd 8 w hw
 | and m h2 hr =>
  injection hc with _ _ _ _ hl
  subst hl
  intro ar
  rw [write_and]
  exact mem_inB (writes_ok k9 l fun d hd => ih d hd (hr d hd) 9)
 | or m h2 hr =>
  injection hc with _ _ _ _ hl
  subst hl
  intro ar
  rw [write_or]
  exact mem_inB (writes_ok k10 l fun d hd => ih d hd (hr d hd) 10)
/-! ### Rules -/
/-- What a rule that Check lets by is. -/
structure Good (r : Rule) : Prop where
 name : nameR r.name = true
 prio : 0 ≤ r.prio ∧ r.prio ≤ 1000
 what : 1 ≤ r.what ∧ r.what ≤ 4
 value : 0 ≤ r.value ∧ r.value ≤ 4194304
 a : right r.a = true
 b : right r.b = true
 sa : size r.a ≤ 20
 sb : size r.b ≤ 20
 any : r.what ≠ 1 → r.b = cAny
theorem op_any {c : Cond} (h : right c = true) (ho : c.op = 1) : c = cAny := by
 have hf := right_form h
 cases hf <;> first | rfl | (simp [Cond.op, leaf] at ho)
theorem one_zero {r : Rule} {before : List Bytes} (h : one r before = 0) : Good r ∧ r.name ∉ before := by
 unfold one at h
 split at h; · cases h
 rename_i h1
 split at h; · cases h
 rename_i h2
 split at h; · cases h
 rename_i h3
 split at h; · cases h
 rename_i h4
 split at h; · cases h
 rename_i h5
 split at h; · cases h
 rename_i h6
 split at h; · cases h
 rename_i h7
 split at h; · cases h
 rename_i h8
 have hb : right r.b = true := by cases hx : right r.b <;> simp_all
 refine ⟨⟨by simpa using h1, by omega, by omega, by omega, by cases hx : right r.a <;> simp_all, hb, by omega, by omega, fun hw => op_any hb ?_⟩, h2⟩
 by_cases ho : r.b.op = 1
 ·exact ho
 ·exact absurd ⟨hw, ho⟩ h8
theorem checkL_zero : ∀ {l : List Rule} {before : List Bytes}, checkL before l = 0 → (∀ r ∈ l, Good r)
 | [], _, _ => by simp
 | r :: l, before, h => by
  rw [checkL] at h
  split at h
  ·rename_i h1
   intro q hq
   rcases List.mem_cons.1 hq with rfl | hq
   ·exact (one_zero h1).1
   ·exact checkL_zero h q hq
  ·rename_i h1; exact absurd h h1
theorem check_good {l : List Rule} (h : check l = 0) : l.length ≤ 24 ∧ ∀ r ∈ l, Good r := by
 unfold check at h
 split at h
 ·cases h
 ·exact ⟨by omega, checkL_zero h⟩
theorem whats_get {w : Int} (h : 1 ≤ w ∧ w ≤ 4) : whats.getD (w - 1).toNat [] ∈ whats ∧ whatOf (whats.getD (w - 1).toNat []) = w := by
 have : w = 1 ∨ w = 2 ∨ w = 3 ∨ w = 4 := by omega
 rcases this with rfl | rfl | rfl | rfl <;> decide
theorem words_ok {r : Rule} (h : Good r) : ∀ w ∈ wordsOf r, WordOk w := by
 intro w hw
 unfold wordsOf at hw
 rcases List.mem_append.1 hw with hw | hw
 ·rcases List.mem_append.1 hw with hw | hw
  ·simp only [List.mem_cons, List.not_mem_nil, or_false] at hw
   rcases hw with rfl | rfl | rfl | rfl | rfl | rfl
   ·exact kw_ok.2.2.2.2.2.2.2.2.2.2.2.2.1
   ·exact nameR_ok h.name
   ·exact itoa_ok _
   ·exact whats_ok _ (whats_get h.what).1
   ·exact itoa_ok _
   ·exact kw_ok.2.2.2.2.2.2.2.2.2.2.2.2.2.1
  ·exact write_ok _ h.a 0 w hw
 ·split at hw
  ·rcases List.mem_cons.1 hw with rfl | hw
   ·exact kw_ok.2.2.2.2.2.2.2.2.2.2.2.2.2.2
   ·exact write_ok _ h.b 0 w hw
  ·cases hw
theorem words_ne (r : Rule) : wordsOf r ≠ [] := by simp [wordsOf]
theorem lineW_words {r : Rule} (h : Good r) : lineW (wordsOf r) = some r := by
 obtain ⟨nm, prio, what, value, a, b⟩ := r
 have h1 := h.prio; have h2 := h.what; have h3 := h.value
 have hw := (whats_get h2).2
 have hne := (whats_ok _ (whats_get h2).1).1
 simp only at h1 h2 h3 hw hne
 unfold lineW wordsOf
 simp only [List.cons_append, List.nil_append]
 rw [must_cons (by decide)]
 simp only [Option.bind_some]
 rw [next_cons (nameR_ok h.name).1]
 simp only [Option.bind_some]
 rw [number_itoa _ (by omega) (by omega)]
 simp only [Option.bind_some]
 rw [next_cons hne]
 simp only [Option.bind_some]
 rw [number_itoa _ (by omega) (by omega)]
 simp only [Option.bind_some]
 rw [must_cons (by decide)]
 simp only [Option.bind_some]
 rw [hw]
 by_cases h1' : what = 1
 ·subst h1'
  rw [if_pos rfl, (reads a h.a).2.2 _ _ (by simp [kwTo, kwAnd]) (by simp [kwTo, kwOr]) (Nat.le_refl _)]
  simp only [Option.bind_some, if_true]
  rw [must_cons (by decide)]
  simp only [Option.bind_some]
  have := (reads b h.b).2.2 (write 0 b).length [] (by simp) (by simp) (by simp)
  rw [List.append_nil] at this
  rw [this]
  simp
 ·rw [if_neg h1', (reads a h.a).2.2 _ _ (by simp) (by simp) (Nat.le_refl _)]
  simp only [Option.bind_some]
  rw [if_neg h1', if_pos (by refine ⟨by omega, ?_⟩; simp)]
  have := h.any h1'
  simp only at this
  rw [this]
theorem line_words {ws : List Bytes} (h : ∀ w ∈ ws, WordOk w) (hne : ws ≠ []) : line (joinB 32 ws) = lineW ws := by
 unfold line; rw [pieces_join 32 ws hne (fun w hw => (h w hw).2.1)]
theorem line_of {r : Rule} (h : Good r) : line (joinB 32 (wordsOf r)) = some r := by
 rw [line_words (words_ok h) (words_ne r), lineW_words h]
theorem join_no {e : UInt8} {c : UInt8} {ws : List Bytes} (h : ∀ w ∈ ws, c ∉ w) (hc : c ≠ e) : c ∉ joinB e ws := fun hx => by
 rcases join_mem hx with hx | ⟨w, hw, hx⟩
 ·exact hc hx
 ·exact h w hw hx
theorem line_no {r : Rule} (h : Good r) : 10 ∉ joinB 32 (wordsOf r) := join_no (fun w hw => (words_ok h w hw).2.2) (by decide)
theorem pieces_text : ∀ (l : List Rule) (z : Bytes), (∀ r ∈ l, Good r) → pieces 10 (textOf l ++ z) = l.map (fun r => joinB 32 (wordsOf r)) ++ pieces 10 z
 | [], z, _ => by simp [textOf]
 | r :: l, z, h => by
  have ih := pieces_text l z (fun q hq => h q (by simp [hq]))
  have e : textOf (r :: l) ++ z = joinB 32 (wordsOf r) ++ 10 :: (textOf l ++ z) := by simp [textOf, lineOf]
  rw [e, pieces_app 10 _ _ (line_no (h r (by simp))), ih]; rfl
theorem parseL_lines : ∀ (l : List Rule) (n : Int) (acc : List Rule) (ps : List Bytes), (∀ r ∈ l, Good r) → ps ≠ [] → parseL n acc (l.map (fun r => joinB 32 (wordsOf r)) ++ ps) = parseL (n + l.length) (acc ++ l) ps
 | [], n, acc, ps, _, _ => by simp
 | r :: l, n, acc, ps, h, hp => by
  have ih := parseL_lines l (n + 1) (acc ++ [r]) ps (fun q hq => h q (by simp [hq])) hp
  have e : ∃ y t, l.map (fun r => joinB 32 (wordsOf r)) ++ ps = y :: t := by
   cases hq : l.map (fun r => joinB 32 (wordsOf r)) ++ ps with
   | nil => exact absurd (List.append_eq_nil_iff.1 hq).2 hp
   | cons y t => exact ⟨y, t, rfl⟩
  obtain ⟨y, t, e⟩ := e
  rw [List.map_cons, List.cons_append, e, parseL, line_of (h r (by simp))]
  dsimp only
  rw [← e, ih]
  simp only [List.length_cons, List.append_assoc, List.cons_append, List.nil_append]
  congr 1
  simp; omega
/-- What is written is read. -/
theorem parse_text {l : List Rule} (h : check l = 0) (hs : (textOf l).length ≤ 262144) : parse (textOf l) = (l, 0, 0) := by
 unfold parse
 have hp := pieces_text l [] (check_good h).2
 rw [List.append_nil] at hp
 rw [if_neg (by omega), hp, parseL_lines l 1 [] _ (check_good h).2 (by simp [pieces])]
 simp [pieces, parseL, h]
/-! ### How long the text is -/
theorem join_len (e : UInt8) : ∀ (ws : List Bytes), (joinB e ws).length ≤ (ws.map List.length).sum + ws.length
 | [] => by simp [joinB]
 | [w] => by simp [joinB]
 | w :: v :: r => by
  have ih := join_len e (v :: r)
  rw [joinB]
  simp only [List.length_append, List.length_cons, List.map_cons, List.sum_cons] at ih ⊢
  omega
def wl (ws : List Bytes) : Nat := (ws.map fun w => w.length + 1).sum
theorem wl_app (a b : List Bytes) : wl (a ++ b) = wl a + wl b := by simp [wl]
theorem wl_cons (a : Bytes) (b : List Bytes) : wl (a :: b) = a.length + 1 + wl b := by simp [wl]
theorem join_wl (e : UInt8) (ws : List Bytes) : (joinB e ws).length ≤ wl ws := by
 have h := join_len e ws
 have e : wl ws = (ws.map List.length).sum + ws.length := by
  unfold wl
  induction ws with
  | nil => rfl
  | cons w ws ih => simp only [List.map_cons, List.sum_cons, List.length_cons]; have := ih (join_len e ws); omega
 omega
theorem itoa_len {n : Int} (h : -10000000000 < n) (h' : n < 10000000000) : (Lib.itoa n).length ≤ 20 := Wr.itoa_length n (by unfold Wr.I64; omega)
theorem name_len {s : Bytes} (h : nameR s = true) : s.length ≤ 16 := by
 cases s with
 | nil => simp
 | cons c l => simp only [nameR, Bool.and_eq_true, decide_eq_true_eq] at h; exact h.1.1
theorem idx_range {s : Bytes} {n : Int} (h : idx s = some n) : 0 ≤ n ∧ n ≤ 999 := by
 unfold idx at h
 split at h
 ·split at h
  ·injection h with h; subst h; assumption
  ·cases h
 ·cases h
theorem ends_range {s : Bytes} {p : Int × Int} (h : ends s = some p) : (0 ≤ p.1 ∧ p.1 ≤ 999) ∧ 0 ≤ p.2 ∧ p.2 ≤ 999 := by
 unfold ends at h
 split at h
 split at h
 ·rename_i a b ha hb
  split at h
  ·injection h with h; subst h; exact ⟨idx_range ha, idx_range hb⟩
  ·cases h
 ·cases h
theorem bus_range {s : Bytes} {p : Bytes × Int × Int} (h : bus s = some p) : (0 ≤ p.2.1 ∧ p.2.1 ≤ 999) ∧ 0 ≤ p.2.2 ∧ p.2.2 ≤ 999 := by
 unfold bus at h
 split at h
 ·cases h
 ·split at h
  ·split at h
   ·simp only [Option.map_eq_some_iff] at h
    obtain ⟨q, hq, rfl⟩ := h
    exact ends_range hq
   ·cases h
  ·cases h
theorem member_len {s : Bytes} (h : member s = true) : s.length ≤ 38 := by
 unfold member expand at h
 split at h
 ·rename_i hn; have := name_len hn; omega
 ·have h := eq_of_beq h
  simp only [Option.map_eq_some_iff] at h
  obtain ⟨p, hp, he⟩ := h
  have hn := name_len (bus_name hp)
  have hr := bus_range hp
  unfold members at he
  have hx : ∃ n : Int, 0 ≤ n ∧ n ≤ 999 ∧ memb p.1 n = s := by
   split at he
   ·rw [List.range_succ_eq_map] at he
    simp only [List.map_cons] at he
    injection he with he _
    exact ⟨_, by omega, by simp; omega, he⟩
   ·rw [List.range_succ_eq_map] at he
    simp only [List.map_cons] at he
    injection he with he _
    exact ⟨_, by simp; omega, by simp; omega, he⟩
  obtain ⟨n, h0, h1, rfl⟩ := hx
  have := itoa_len (n := n) (by omega) (by omega)
  unfold memb
  simp only [List.length_append, List.length_cons, List.length_nil]
  omega
theorem wl_members : ∀ (l : List Bytes), l.all member = true → wl l ≤ 39 * l.length
 | [], _ => by simp [wl]
 | w :: l, h => by
  rw [List.all_cons, Bool.and_eq_true] at h
  have := wl_members l h.2
  have := member_len h.1
  rw [wl_cons, List.length_cons]; omega
theorem splitR_len {t : Bytes} (h : splitR t = true) : t.length ≤ 195 := by
 unfold splitR split at h
 split at h
 ·rename_i l hl
  split at hl
  ·rename_i ha
   injection hl with hl
   have h := of_decide_eq_true h
   have h1 := wl_members _ ha
   have h2 := join_wl 47 (pieces 47 t)
   rw [join_pieces] at h2
   rw [hl] at h1 h2
   omega
  ·cases hl
 ·cases h
theorem wl_inB (b : Bool) (ws : List Bytes) : wl (inB b ws) ≤ wl ws + 4 := by
 cases b with
 | false => rw [inB_false]; omega
 | true => rw [inB_true, wl_app, wl_cons]; simp [wl, kwL, kwR]; omega
theorem wl_writesT {w : Bytes} {op : Int} (hw : w.length ≤ 3) : ∀ (l : List Cond), (∀ c ∈ l, wl (write op c) + 4 ≤ 220 * size c) → wl (writesT w op l) ≤ 220 * sizes l
 | [], _ => by rw [writesT]; simp [wl]
 | c :: l, h => by
  have h1 := wl_writesT hw l (fun d hd => h d (by simp [hd]))
  have h2 := h c (by simp)
  rw [writesT_eq, sizes, List.cons_append, wl_cons, wl_app]
  omega
theorem wl_writes {w : Bytes} {op : Int} (hw : w.length ≤ 3) (l : List Cond) (h : ∀ c ∈ l, wl (write op c) + 4 ≤ 220 * size c) : wl (writes w op l) ≤ 220 * sizes l := by
 cases l with
 | nil => rw [writes]; simp [wl]
 | cons c l =>
  have h1 := wl_writesT (op := op) hw l (fun d hd => h d (by simp [hd]))
  have h2 := h c (by simp)
  rw [writes_eq, sizes, wl_app]
  omega
theorem write_len (c : Cond) : right c = true → ∀ ar, wl (write ar c) + 4 ≤ 220 * size c := by
 refine Cond.ind (P := fun c => right c = true → ∀ ar, wl (write ar c) + 4 ≤ 220 * size c) (fun op t n b l ih h => ?_) c
 have hf := right_form h
 generalize hc : Cond.mk op t n b l = c at hf h
 have hp := size_pos c
 cases hf with
 | any => intro ar; rw [write_any]; simp [wl, kwAny]; omega
 | net t ht => intro ar; have := splitR_len ht; rw [write_net]; simp [wl, kwNet]; omega
 | cls t ht => intro ar; have := name_len ht; rw [write_cls]; simp [wl, kwClass]; omega
 | kind m h1 h2 => intro ar; have := itoa_len (n := m) (by omega) (by omega); rw [write_kind]; simp [wl, kwKind]; omega
 | layer m h1 h2 => intro ar; have := itoa_len (n := m) (by omega) (by omega); rw [write_layer]; simp [wl, kwLayer]; omega
 | part m h1 h2 => intro ar; have := itoa_len (n := m) (by omega) (by omega); rw [write_part]; simp [wl, kwPart]; omega
 | box b hb =>
  intro ar
  obtain ⟨⟨h0, h1⟩, h2, h3⟩ := boxR_num hb
  have := itoa_len (coord_num h0).1 (coord_num h0).2
  have := itoa_len (coord_num h1).1 (coord_num h1).2
  have := itoa_len (coord_num h2).1 (coord_num h2).2
  have := itoa_len (coord_num h3).1 (coord_num h3).2
  rw [write_box]; simp [wl, kwIn]; omega
 | not d hd =>
  injection hc with _ _ _ _ hl
  intro ar
  have := ih d (by rw [hl]; simp) hd 8
  rw [write_not, size_mk, wl_cons, sizes, sizes]; simp [kwNot]; omega
 | and m h2 hr =>
  injection hc with _ _ _ _ hl
  subst hl
  intro ar
  have h1 := wl_writes (w := kwAnd) (op := 9) (by decide) l (fun d hd => ih d hd (hr d hd) 9)
  have h2 := wl_inB (brk ar 9) (writes kwAnd 9 l)
  rw [write_and, size_mk]; omega
 | or m h2 hr =>
  injection hc with _ _ _ _ hl
  subst hl
  intro ar
  have h1 := wl_writes (w := kwOr) (op := 10) (by decide) l (fun d hd => ih d hd (hr d hd) 10)
  have h2 := wl_inB (brk ar 10) (writes kwOr 10 l)
  rw [write_or, size_mk]; omega
theorem line_len {r : Rule} (h : Good r) : (lineOf r).length ≤ 8900 := by
 have h1 := write_len r.a h.a 0
 have h2 := write_len r.b h.b 0
 have := h.sa; have := h.sb; have := h.prio; have := h.value
 have h3 := join_wl 32 (wordsOf r)
 have h4 := name_len h.name
 have h5 := itoa_len (n := r.prio) (by omega) (by omega)
 have h6 := itoa_len (n := r.value) (by omega) (by omega)
 have h7 : (whats.getD (r.what - 1).toNat []).length ≤ 5 := by
  have := (whats_get h.what).1
  have hall : ∀ w ∈ whats, w.length ≤ 5 := by decide
  exact hall _ this
 have h8 : wl (wordsOf r) ≤ 8890 := by
  unfold wordsOf
  rw [wl_app, wl_app]
  have h9 : wl (if r.what = 1 then kwTo :: write 0 r.b else []) ≤ 3 + wl (write 0 r.b) := by
   split
   ·rw [wl_cons]; simp [kwTo]
   ·simp [wl]
  simp only [wl_cons]
  have e0 : wl [] = 0 := rfl
  rw [e0]
  simp only [kwRule, kwWhen, List.length_cons, List.length_nil]
  omega
 unfold lineOf
 simp only [List.length_append, List.length_cons, List.length_nil]
 omega
theorem text_len : ∀ {l : List Rule}, (∀ r ∈ l, Good r) → (textOf l).length ≤ 8900 * l.length
 | [], _ => by simp [textOf]
 | r :: l, h => by
  have h1 := text_len (l := l) (fun q hq => h q (by simp [hq]))
  have h2 := line_len (h r (by simp))
  have e : textOf (r :: l) = lineOf r ++ textOf l := by simp [textOf]
  rw [e, List.length_append, List.length_cons]; omega
theorem text_bound {l : List Rule} (h : check l = 0) : (textOf l).length ≤ 213600 := by
 obtain ⟨h1, h2⟩ := check_good h
 have := text_len h2
 omega
theorem back {l : List Rule} (h : check l = 0) : parse (textOf l) = (l, 0, 0) := parse_text h (by have := text_bound h; omega)
/-! ### Brackets around a whole condition -/
def headB : List Bytes := [kwRule, [114], [48], [101, 100, 103, 101], [48], kwWhen]
theorem head_ok : ∀ w ∈ headB, WordOk w := by unfold WordOk; decide
end Go.Proofs.YtljjbdbgedmadaaGreatDoor.Ru

namespace Go.Proofs.YtljjbdbgedmadaaGreatDoor.Ru
open Go Go.Proofs.YtljjbdbgedmadaaGreatDoor

end Go.Proofs.YtljjbdbgedmadaaGreatDoor.Ru

namespace Go.Proofs.YtljjbdbgedmadaaGreatDoor.Ru
open Go Go.Proofs.YtljjbdbgedmadaaGreatDoor

/-- Texts of a machine's size. -/
inductive Lim : Cond → Prop
 | mk (op : Int) (t : Bytes) (n : Int) (b : Box) (l : List Cond) : t.length ≤ 1000000000 → (∀ c ∈ l, Lim c) → Lim (.mk op t n b l)
def WLen (ws : Ws) : Prop := ∀ x ∈ ws, x.length ≤ 1000000000
/-- A reader takes words, at least as many as the condition is large. -/
def Fits (rd : Ws → Option (Cond × Ws)) : Prop := ∀ ws c r, rd ws = some (c, r) → ∃ p, ws = p ++ r ∧ size c ≤ p.length ∧ (WLen p → Lim c)
end Go.Proofs.YtljjbdbgedmadaaGreatDoor.Ru

namespace Go.Proofs.YtljjbdbgedmadaaGreatDoor.Ru
open Go Go.Proofs.YtljjbdbgedmadaaGreatDoor
open Go.RowKit

def kindC (n : Int) : Cond := .mk 4 [] n .none []
def clsP : Cond := .mk 3 [112] 0 .none []
def a3 : Cond := .mk 10 [] 0 .none [kindC 1, .mk 9 [] 0 .none [kindC 2, clsP]]
def a4 : Cond := .mk 9 [] 0 .none [.mk 10 [] 0 .none [kindC 1, kindC 2], clsP]
def s1 : Bytes := [114, 117, 108, 101, 32, 99, 49, 32, 49, 32, 99, 108, 101, 97, 114, 32, 49, 48, 32, 119, 104, 101, 110, 32, 97, 110, 121, 32, 116, 111, 32, 97, 110, 121]
def s2 : Bytes := [114, 117, 108, 101, 32, 101, 32, 48, 32, 101, 100, 103, 101, 32, 53, 32, 119, 104, 101, 110, 32, 40, 32, 97, 110, 121, 32, 41]
def s3 : Bytes := [114, 117, 108, 101, 32, 119, 32, 50, 32, 119, 105, 100, 116, 104, 32, 56, 32, 119, 104, 101, 110, 32, 110, 101, 116, 32, 71, 78, 68, 32, 97, 110, 100, 32, 110, 111, 116, 32, 108, 97, 121, 101, 114, 32, 50]
def s4 : Bytes := [114, 117, 108, 101, 32, 101, 32, 48, 32, 101, 100, 103, 101, 32, 53, 32, 119, 104, 101, 110, 32, 107, 105, 110, 100, 32, 49, 32, 111, 114, 32, 107, 105, 110, 100, 32, 50, 32, 97, 110, 100, 32, 99, 108, 97, 115, 115, 32, 112]
def s5 : Bytes := [114, 117, 108, 101, 32, 101, 32, 48, 32, 101, 100, 103, 101, 32, 53, 32, 119, 104, 101, 110, 32, 40, 32, 107, 105, 110, 100, 32, 49, 32, 111, 114, 32, 107, 105, 110, 100, 32, 50, 32, 41, 32, 97, 110, 100, 32, 99, 108, 97, 115, 115, 32, 112]
def s6 : Bytes := [114, 117, 108, 101, 32, 101, 32, 48, 32, 101, 100, 103, 101, 32, 53, 32, 119, 104, 101, 110, 32, 97, 110, 121, 32, 116, 111, 32, 97, 110, 121]
def z0 : Bytes := [114, 117, 108, 101]
def z1 : Bytes := []
def z2 : Bytes := [114, 117, 108, 101, 32, 97, 32, 49, 32, 99, 108, 101, 97, 114, 32, 53, 32, 119, 104, 101, 110, 32, 97, 110, 121]
def z3 : Bytes := [114, 117, 108, 101, 115, 32, 97, 32, 49, 32, 101, 100, 103, 101, 32, 53, 32, 119, 104, 101, 110, 32, 97, 110, 121]
end Go.Proofs.YtljjbdbgedmadaaGreatDoor.Ru

namespace Go.Proofs.YtljjbdbgedmadaaGreatDoor.Ru
open Go Go.Proofs.YtljjbdbgedmadaaGreatDoor
open Go.RowKit

def tx (c : Cond) : Bytes := joinB 32 (write 0 c)
/-! ### Rules that are made -/
end Go.Proofs.YtljjbdbgedmadaaGreatDoor.Ru

namespace Go.Proofs.YtljjbdbgedmadaaGreatDoor.Ru
open Go Go.Proofs.YtljjbdbgedmadaaGreatDoor

/-! ### Numbers -/
theorem dec_len : ∀ (k u : Nat), u < 10 ^ (k + 1) → (Lib.decDigits u).length ≤ k + 1
 | 0, u, h => by rw [Wr.dec_small (by simpa using h)]; simp
 | k + 1, u, h => by
  by_cases h1 : u < 10
  ·rw [Wr.dec_small h1]; simp
  ·rw [Wr.dec_big h1, List.length_append]
   have := dec_len k (u / 10) (by rw [Nat.pow_succ] at h; omega)
   simp; omega
theorem dv_lt {l : Bytes} (h : ∀ c ∈ l, 48 ≤ c.toNat ∧ c.toNat ≤ 57) : ∀ j, j ≤ l.length → Wr.dv (l.take j) < 10 ^ j
 | 0, _ => by simp [Wr.dv]
 | j + 1, hj => by
  have ih := dv_lt h j (by omega)
  rw [Wr.dv_step l j (by omega)]
  have := h l[j] (List.getElem_mem _)
  rw [Nat.pow_succ]; omega
theorem dv_all {l : Bytes} (h : ∀ c ∈ l, 48 ≤ c.toNat ∧ c.toNat ≤ 57) : Wr.dv l < 10 ^ l.length := by
 have := dv_lt h l.length (Nat.le_refl _)
 rwa [List.take_length] at this
def digits (s : Bytes) : Prop := ∀ c ∈ s, 48 ≤ c.toNat ∧ c.toNat ≤ 57
instance (s : Bytes) : Decidable (digits s) := by unfold digits; infer_instance
/-! ### Indices -/
end Go.Proofs.YtljjbdbgedmadaaGreatDoor.Ru
