/- The plain law of the wire chapter: serializations as lists of bytes, decoding, and what they are to each other. No program here; no condition. The plain law of the wire chapter, second part: what the reference's own reading of a numeral comes to. No program here; no condition.
   The plain law of the rules: names, conditions, their words, rules, and the reading of lines. No program is in sight; no condition. The plain law of the rules, second part: what is written is read again. No program is in sight; no condition. The plain law of the rules, third part: lines and files; what is written is read as it was; brackets; spoiled lines. No program is in sight; no condition. The plain law of the rules, fourth part: reading leaves no more words than there were. No program is in sight; no condition. The plain law of the rules, sixth part: what is read is no larger than its words. No program is in sight; no condition.
   The plain law of the rules, fifth part: the chapter's examples, and lines that are none. No program is in sight; no condition. The plain law of the rules, seventh part: the texts of RuleBrackets. No program is in sight; no condition. The plain law of the reference's names and numbers: what it decides is what the program decides. No program is in sight; no condition. -/
import Derived.Lib.AtoiAll
import Derived.Lib.ItoaNum
import Derived.Lib.IndexMore
import Derived.Lib.IndexBytes
import Derived.Lib.Hide
namespace Wr
open Go
abbrev Bytes := List UInt8
/-! ### Numerals -/
theorem dec_small {u : Nat} (h : u < 10) : Lib.decDigits u = [UInt8.ofNat (48 + u)] := by rw [Lib.decDigits, dif_pos h]
theorem dec_big {u : Nat} (h : ¬ u < 10) : Lib.decDigits u = Lib.decDigits (u / 10) ++ [UInt8.ofNat (48 + u % 10)] := by rw [Lib.decDigits, dif_neg h]
theorem digit_toNat {d : Nat} (h : d < 10) : (UInt8.ofNat (48 + d)).toNat = 48 + d := by
 simp [UInt8.toNat_ofNat']; omega
theorem dec_digit (u : Nat) : ∀ c ∈ Lib.decDigits u, 48 ≤ c.toNat ∧ c.toNat ≤ 57 := by
 induction u using Nat.strongRecOn with
 | _ u ih =>
  intro c hc
  by_cases h : u < 10
  ·rw [dec_small h] at hc; simp only [List.mem_singleton] at hc
   rw [hc, digit_toNat h]; omega
  ·rw [dec_big h] at hc
   rcases List.mem_append.1 hc with hc | hc
   ·exact ih _ (by omega) c hc
   ·simp only [List.mem_singleton] at hc
    rw [hc, digit_toNat (by omega)]; omega
theorem dec_ne (u : Nat) : Lib.decDigits u ≠ [] := by
 by_cases h : u < 10
 ·rw [dec_small h]; simp
 ·rw [dec_big h]; simp
theorem parse_append (l : Bytes) (c : UInt8) (a u : Nat) (hc : 48 ≤ c.toNat ∧ c.toNat ≤ 57) (h : Lib.parseUint10 a l = .ok u) (hu : u < 1844674407370955162) (hv : u * 10 + (c.toNat - 48) < 18446744073709551616) :
  Lib.parseUint10 a (l ++ [c]) = .ok (u * 10 + (c.toNat - 48)) := by
 induction l generalizing a with
 | nil =>
  simp only [Lib.parseUint10] at h
  injection h with h; subst h
  simp only [List.nil_append, Lib.parseUint10, if_pos hc]
  rw [if_neg (by omega), if_neg (by omega)]
 | cons d l ih =>
  simp only [Lib.parseUint10] at h
  simp only [List.cons_append, Lib.parseUint10]
  split at h
  ·rename_i hd
   rw [if_pos hd]
   split at h
   ·cases h
   ·rename_i h1
    rw [if_neg h1]
    split at h
    ·cases h
    ·rename_i h2
     rw [if_neg h2]; exact ih _ h
  ·cases h
theorem parse_dec (u : Nat) (hu : u < 18446744073709551616) : Lib.parseUint10 0 (Lib.decDigits u) = .ok u := by
 induction u using Nat.strongRecOn with
 | _ u ih =>
  by_cases h : u < 10
  ·rw [dec_small h]; have e := digit_toNat h
   simp only [Lib.parseUint10, e]
   rw [if_pos (by omega), if_neg (by omega), if_neg (by omega)]
   congr 1; omega
  ·rw [dec_big h, parse_append _ _ 0 (u / 10) (by rw [digit_toNat (by omega)]; omega) (ih _ (by omega) (by omega)) (by omega) (by rw [digit_toNat (by omega)]; omega)]
   rw [digit_toNat (by omega)]
   congr 1; omega
def I64 (n : Int) : Prop := -9223372036854775808 ≤ n ∧ n ≤ 9223372036854775807
theorem atoi_itoa (n : Int) (h : I64 n) : Lib.atoiAll (Lib.itoa n) = .ok n := by
 unfold I64 at h; unfold Lib.itoa
 by_cases hn : n < 0
 ·rw [if_pos hn]; have hp := parse_dec n.natAbs (by omega)
  simp only [Lib.atoiAll]
  have e : (45 : UInt8).toNat = 45 := rfl
  rw [if_pos (Or.inr e)]; simp only [Lib.parseMag, if_neg (dec_ne _), hp, e, not_true_eq_false, false_and, if_false, true_and, if_true]
  rw [if_neg (by omega)]
  congr 1; omega
 ·rw [if_neg hn]; have hp := parse_dec n.toNat (by omega)
  cases hl : Lib.decDigits n.toNat with
  | nil => exact absurd hl (dec_ne _)
  | cons c r =>
   have hc := dec_digit n.toNat c (by rw [hl]; exact List.mem_cons_self)
   simp only [Lib.atoiAll]
   rw [if_neg (by omega)]; rw [← hl]; simp only [Lib.parseMag, if_neg (dec_ne _), hp]
   rw [if_neg (by omega), if_neg (by omega), if_neg (by omega)]
   congr 1; omega
theorem itoa_byte (n : Int) : ∀ c ∈ Lib.itoa n, c = 45 ∨ 48 ≤ c.toNat ∧ c.toNat ≤ 57 := by
 intro c hc; unfold Lib.itoa at hc
 split at hc
 ·rcases List.mem_cons.1 hc with hc | hc
  ·exact .inl hc
  ·exact .inr (dec_digit _ c hc)
 ·exact .inr (dec_digit _ c hc)
def parse (d : Bytes) : Option Int := match Lib.atoiAll d with
 | .ok n => if Lib.itoa n = d then some n else none
 | _ => none
theorem atoi_range {l : Bytes} {n : Int} (h : Lib.atoiAll l = .ok n) : I64 n := by
 unfold I64; unfold Lib.atoiAll at h
 split at h
 ·cases h
 ·rename_i c r
  simp only at h
  split at h
  ·cases h
  ·cases h
  ·rename_i u hu
   split at h
   ·cases h
   ·split at h
    ·cases h
    ·rename_i h1 h2
     injection h with h; subst h
     split <;> omega
theorem parse_some {d : Bytes} {n : Int} : parse d = some n ↔ d = Lib.itoa n ∧ I64 n := by
 constructor
 ·intro h; unfold parse at h
  split at h
  ·rename_i m hm
   split at h
   ·rename_i e
    injection h with h; subst h
    exact ⟨e.symm, atoi_range hm⟩
   ·cases h
  ·cases h
 ·rintro ⟨rfl, h⟩; unfold parse; rw [atoi_itoa n h]
  simp
/-! ### Cutting at a byte -/
def cut1 (e : UInt8) : Bytes → Option (Bytes × Bytes)
 | [] => none
 | c :: r => if c = e then some ([], r) else (cut1 e r).map fun p => (c :: p.1, p.2)
theorem cut1_some {e : UInt8} : ∀ {l d r : Bytes}, cut1 e l = some (d, r) → l = d ++ e :: r ∧ e ∉ d
 | [], d, r, h => by cases h
 | c :: t, d, r, h => by
  unfold cut1 at h
  split at h
  ·rename_i hc
   simp only [Option.some.injEq, Prod.mk.injEq] at h
   obtain ⟨rfl, rfl⟩ := h
   exact ⟨by rw [hc]; rfl, by simp⟩
  ·rename_i hc
   simp only [Option.map_eq_some_iff, Prod.exists, Prod.mk.injEq] at h
   obtain ⟨d', r', h', rfl, rfl⟩ := h
   obtain ⟨a, b⟩ := cut1_some h'
   exact ⟨by rw [a]; rfl, by simp [b, Ne.symm hc]⟩
theorem cut1_none {e : UInt8} : ∀ {l : Bytes}, cut1 e l = none ↔ e ∉ l
 | [] => by simp [cut1]
 | c :: t => by
  unfold cut1
  split
  ·rename_i h; simp [h]
  ·rename_i h; simp [cut1_none, Ne.symm h]
theorem indexByte_cut (e : UInt8) : ∀ (l : Bytes), Lib.indexByte l e = match cut1 e l with | some (d, _) => (d.length : Int) | none => -1
 | [] => rfl
 | c :: t => by
  have ih := indexByte_cut e t
  unfold Lib.indexByte cut1
  by_cases h : c = e
  ·simp [h]
  ·simp only [beq_iff_eq, h, if_false]
   rw [ih]
   cases cut1 e t with
   | none => simp
   | some p =>
    simp only [Option.map_some, List.length_cons]
    rw [if_neg (by omega)]; simp
theorem cut_eq (l : Bytes) (e : UInt8) : Lib.cut l [e] = match cut1 e l with | some (d, r) => (d, r, true) | none => (l, [], false) := by
 unfold Lib.cut; rw [Lib.index_one, indexByte_cut]
 cases h : cut1 e l with
 | none => simp
 | some p =>
  obtain ⟨d, r⟩ := p
  obtain ⟨rfl, _⟩ := cut1_some h
  simp only []
  rw [if_pos (by omega)]; simp
/-! ### The serializations -/
/-! ### Decoding -/
structure Codec (α : Type) (ok : α → Prop) (w : α → Bytes) (p : Bytes → Option (α × Bytes)) : Prop where
 inv : ∀ x r, ok x → p (w x ++ r) = some (x, r)
 can : ∀ l x r, p l = some (x, r) → l = w x ++ r ∧ ok x
 pos : ∀ x, w x ≠ []
section lists
variable {α : Type} {ok : α → Prop} {w : α → Bytes} {p : Bytes → Option (α × Bytes)}
end lists
end Wr
namespace Wr
open Go
def dv (l : Bytes) : Nat := l.foldl (fun a c => 10 * a + (c.toNat - 48)) 0
theorem dv_snoc (l : Bytes) (c : UInt8) : dv (l ++ [c]) = 10 * dv l + (c.toNat - 48) := by simp [dv]
theorem dv_dec (u : Nat) : dv (Lib.decDigits u) = u := by
 induction u using Nat.strongRecOn with
 | _ u ih =>
  by_cases h : u < 10
  ·rw [dec_small h]; unfold dv; simp only [List.foldl_cons, List.foldl_nil]; rw [digit_toNat h]; omega
  ·rw [dec_big h, dv_snoc, ih _ (by omega), digit_toNat (by omega)]; omega
theorem dv_step (l : Bytes) (j : Nat) (h : j < l.length) : dv (l.take (j + 1)) = 10 * dv (l.take j) + (l[j].toNat - 48) := by
 rw [List.take_succ_eq_append_getElem h, dv_snoc]
def neg (d : Bytes) : Bool := d.head? == some 45
def mag (d : Bytes) : Bytes := if neg d then d.tail else d
theorem dec_head (u : Nat) : neg (Lib.decDigits u) = false := by
 cases h : Lib.decDigits u with
 | nil => rfl
 | cons c r =>
  have := dec_digit u c (by rw [h]; simp)
  simp only [neg, List.head?_cons, beq_eq_false_iff_ne, ne_eq, Option.some.injEq]
  rintro rfl
  revert this; decide
end Wr
namespace Go.Proofs.YtljjbdbgedmadaaGreatDoor.Ru
open Go Go.Proofs.YtljjbdbgedmadaaGreatDoor
abbrev Bytes := List UInt8
/-! ### Pieces between bytes -/
def pieces (e : UInt8) : Bytes → List Bytes
 | [] => [[]]
 | c :: l => if c = e then [] :: pieces e l else match pieces e l with
  | [] => [[c]]
  | p :: r => (c :: p) :: r
theorem pieces_ne (e : UInt8) (l : Bytes) : pieces e l ≠ [] := by
 cases l with
 | nil => simp [pieces]
 | cons c l => unfold pieces; split; simp; split <;> simp
def joinB (e : UInt8) : List Bytes → Bytes
 | [] => []
 | [w] => w
 | w :: v :: r => w ++ e :: joinB e (v :: r)
theorem pieces_plain (e : UInt8) : ∀ (w : Bytes), e ∉ w → pieces e w = [w]
 | [], _ => rfl
 | c :: w, h => by
  have hc : c ≠ e := fun x => h (by simp [x])
  rw [pieces, if_neg hc, pieces_plain e w (fun x => h (by simp [x]))]
theorem pieces_app (e : UInt8) : ∀ (w r : Bytes), e ∉ w → pieces e (w ++ e :: r) = w :: pieces e r
 | [], r, _ => by simp [pieces]
 | c :: w, r, h => by
  have hc : c ≠ e := fun x => h (by simp [x])
  rw [List.cons_append, pieces, if_neg hc, pieces_app e w r (fun x => h (by simp [x]))]
/-! ### Names -/
def letter (c : UInt8) : Bool := decide (97 ≤ c.toNat ∧ c.toNat ≤ 122) || decide (65 ≤ c.toNat ∧ c.toNat ≤ 90)
def digit (c : UInt8) : Bool := decide (48 ≤ c.toNat ∧ c.toNat ≤ 57)
def nameC (c : UInt8) : Bool := letter c || digit c || c == 95 || c == 43 || c == 45
def nameR (s : Bytes) : Bool := match s with
 | [] => false
 | c :: _ => decide (s.length ≤ 16) && s.all nameC && (letter c || c == 43)
def idx (s : Bytes) : Option Int := match Wr.parse s with
 | some n => if 0 ≤ n ∧ n ≤ 999 then some n else none
 | none => none
def memb (name : Bytes) (n : Int) : Bytes := name ++ 91 :: Lib.itoa n ++ [93]
def members (name : Bytes) (a b : Int) : List Bytes :=
 if a ≤ b then (List.range ((b - a).toNat + 1)).map fun k : Nat => memb name (a + (k : Int)) else (List.range ((a - b).toNat + 1)).map fun k : Nat => memb name (a - (k : Int))
def ends (inner : Bytes) : Option (Int × Int) := match Lib.cut inner [46, 46] with
 | (f, t, sev) => match idx f, idx (if sev then t else f) with
  | some a, some b => if a - b ≤ 15 ∧ b - a ≤ 15 then some (a, b) else none
  | _, _ => none
def bus (s : Bytes) : Option (Bytes × Int × Int) := match Wr.cut1 91 s with
 | none => none
 | some (name, rest) => match rest.getLast? with
  | some 93 => if nameR name then (ends rest.dropLast).map fun p => (name, p.1, p.2) else none
  | _ => none
def expand (s : Bytes) : Option (List Bytes) := if nameR s then some [s] else (bus s).map fun p => members p.1 p.2.1 p.2.2
def member (s : Bytes) : Bool := expand s == some [s]
def split (s : Bytes) : Option (List Bytes) := if (pieces 47 s).all member then some (pieces 47 s) else none
/-! ### Conditions -/
structure Box where
 x0 : Int
 y0 : Int
 x1 : Int
 y1 : Int
 deriving DecidableEq, Repr
def Box.none : Box := ⟨0, 0, 0, 0⟩
inductive Cond where
 | mk (op : Int) (text : Bytes) (n : Int) (box : Box) (l : List Cond)
namespace Cond
def op : Cond → Int | .mk o _ _ _ _ => o
def text : Cond → Bytes | .mk _ t _ _ _ => t
def n : Cond → Int | .mk _ _ n _ _ => n
def box : Cond → Box | .mk _ _ _ b _ => b
def l : Cond → List Cond | .mk _ _ _ _ l => l
end Cond
def cAny : Cond := .mk 1 [] 0 .none []
mutual
def size : Cond → Nat
 | .mk _ _ _ _ l => sizes l + 1
def sizes : List Cond → Nat
 | [] => 0
 | c :: l => size c + sizes l
end
def coordR (x : Int) : Bool := decide (-67108864 ≤ x ∧ x ≤ 67108864)
def boxR (b : Box) : Bool := decide (b.x0 ≤ b.x1) && decide (b.y0 ≤ b.y1) && (coordR b.x0 && coordR b.y0) && (coordR b.x1 && coordR b.y1)
def splitR (t : Bytes) : Bool := match split t with
 | some l => decide (l.length ≤ 5)
 | none => false
def fine (op : Int) (t : Bytes) (n : Int) (b : Box) (k : Nat) : Bool :=
 if op = 1 then true else if op = 2 then splitR t else if op = 3 then nameR t else if op = 4 then decide (1 ≤ n ∧ n ≤ 5) else if op = 5 then decide (1 ≤ n ∧ n ≤ 4)
 else if op = 6 then decide (1 ≤ n ∧ n ≤ 1000000000) else if op = 7 then boxR b else if op = 8 then k == 1 else if op = 9 ∨ op = 10 then decide (2 ≤ k) else false
def rest (op : Int) (t : Bytes) (n : Int) (b : Box) (k : Nat) : Bool :=
 (decide (op = 2 ∨ op = 3) || t.isEmpty) && (decide (op = 4 ∨ op = 5 ∨ op = 6) || n == 0) && (decide (op = 7) || decide (b = .none)) && (decide (op = 8 ∨ op = 9 ∨ op = 10) || k == 0)
mutual
def right : Cond → Bool
 | .mk op t n b l => fine op t n b l.length && rest op t n b l.length && rights l
def rights : List Cond → Bool
 | [] => true
 | c :: l => right c && rights l
end
/-! ### Words -/
def kwAny : Bytes := [97, 110, 121]
def kwNet : Bytes := [110, 101, 116]
def kwClass : Bytes := [99, 108, 97, 115, 115]
def kwKind : Bytes := [107, 105, 110, 100]
def kwLayer : Bytes := [108, 97, 121, 101, 114]
def kwPart : Bytes := [112, 97, 114, 116]
def kwIn : Bytes := [105, 110]
def kwNot : Bytes := [110, 111, 116]
def kwAnd : Bytes := [97, 110, 100]
def kwOr : Bytes := [111, 114]
def kwL : Bytes := [40]
def kwR : Bytes := [41]
def kwRule : Bytes := [114, 117, 108, 101]
def kwWhen : Bytes := [119, 104, 101, 110]
def kwTo : Bytes := [116, 111]
def whats : List Bytes := [[99, 108, 101, 97, 114], [119, 105, 100, 116, 104], [101, 100, 103, 101], [114, 105, 110, 103]]
def brk (ar op : Int) : Bool := decide (op = 10 ∧ ar ≠ 0) || decide (op = 9 ∧ ar ≠ 0 ∧ ar ≠ 10)
def inB (b : Bool) (ws : List Bytes) : List Bytes := if b then kwL :: ws ++ [kwR] else ws
mutual
def write : Int → Cond → List Bytes
 | ar, .mk op t n b l =>
  if op = 1 then [kwAny] else if op = 2 then [kwNet, t] else if op = 3 then [kwClass, t] else if op = 4 then [kwKind, Lib.itoa n] else if op = 5 then [kwLayer, Lib.itoa n]
  else if op = 6 then [kwPart, Lib.itoa n] else if op = 7 then [kwIn, Lib.itoa b.x0, Lib.itoa b.y0, Lib.itoa b.x1, Lib.itoa b.y1]
  else if op = 8 then kwNot :: writeH op l
  else inB (brk ar op) (writes (if op = 10 then kwOr else kwAnd) op l)
def writeH : Int → List Cond → List Bytes
 | _, [] => []
 | op, c :: _ => write op c
def writes : Bytes → Int → List Cond → List Bytes
 | _, _, [] => []
 | w, op, c :: l => write op c ++ writesT w op l
def writesT : Bytes → Int → List Cond → List Bytes
 | _, _, [] => []
 | w, op, c :: l => w :: write op c ++ writesT w op l
end
/-! ### Rules -/
structure Rule where
 name : Bytes
 prio : Int
 what : Int
 value : Int
 a : Cond
 b : Cond
def one (r : Rule) (before : List Bytes) : Int :=
 if nameR r.name = false then 20 else if r.name ∈ before then 6 else if r.prio < 0 ∨ 1000 < r.prio then 3 else if r.what < 1 ∨ 4 < r.what then 40 else if r.value < 0 ∨ 4194304 < r.value then 3
 else if right r.a = false ∨ right r.b = false then 40 else if 20 < size r.a ∨ 20 < size r.b then 2 else if r.what ≠ 1 ∧ r.b.op ≠ 1 then 40 else 0
def checkL (before : List Bytes) : List Rule → Int
 | [] => 0
 | r :: l => if one r before = 0 then checkL (before ++ [r.name]) l else one r before
def check (l : List Rule) : Int := if 24 < l.length then 2 else checkL [] l
def wordsOf (r : Rule) : List Bytes :=
 [kwRule, r.name, Lib.itoa r.prio, whats.getD (r.what - 1).toNat [], Lib.itoa r.value, kwWhen] ++ write 0 r.a ++ (if r.what = 1 then kwTo :: write 0 r.b else [])
def lineOf (r : Rule) : Bytes := joinB 32 (wordsOf r) ++ [10]
def textOf (l : List Rule) : Bytes := l.flatMap lineOf
def text (l : List Rule) : Bytes × Int := if check l = 0 then (textOf l, 0) else ([], check l)
/-! ### Reading -/
abbrev Ws := List Bytes
def next : Ws → Option (Bytes × Ws)
 | [] => none
 | w :: r => if w = [] then none else some (w, r)
def num (s : Bytes) : Option Int := match Wr.parse s with
 | some n => if -10000000000 < n ∧ n < 10000000000 then some n else none
 | none => none
def number (ws : Ws) : Option (Int × Ws) := match next ws with
 | none => none
 | some (w, r) => (num w).map fun n => (n, r)
def must (k : Bytes) (ws : Ws) : Option Ws := match next ws with
 | none => none
 | some (w, r) => if w = k then some r else none
def four (ws : Ws) : Option (Box × Ws) :=
 (number ws).bind fun (x0, r) => (number r).bind fun (y0, r) => (number r).bind fun (x1, r) => (number r).map fun (y1, r) => (⟨x0, y0, x1, y1⟩, r)
def mk1 (op : Int) (l : List Cond) : Cond := match l with | [c] => c | _ => .mk op [] 0 .none l
def more (word : Bytes) (op : Int) (rd : Ws → Option (Cond × Ws)) : Nat → List Cond → Ws → Option (Cond × Ws)
 | 0, l, r => some (mk1 op l, r)
 | k + 1, l, r => if r.head? = some word then match rd r.tail with
  | none => none
  | some (c, r') => more word op rd k (l ++ [c]) r' else some (mk1 op l, r)
def lst (word : Bytes) (op : Int) (rd : Ws → Option (Cond × Ws)) (ws : Ws) : Option (Cond × Ws) := match rd ws with
 | none => none
 | some (c, r) => more word op rd r.length [c] r
def leaf (op : Int) (t : Bytes) (n : Int) (b : Box) : Cond := .mk op t n b []
def orc (fac : Ws → Option (Cond × Ws)) (ws : Ws) : Option (Cond × Ws) := lst kwOr 10 (lst kwAnd 9 fac) ws
def fac : Nat → Ws → Option (Cond × Ws)
 | 0, _ => none
 | n + 1, ws => match next ws with
  | none => none
  | some (w, r) =>
   if w = kwNet then (next r).map fun p => (leaf 2 p.1 0 .none, p.2)
   else if w = kwClass then (next r).map fun p => (leaf 3 p.1 0 .none, p.2)
   else if w = kwKind then (number r).map fun p => (leaf 4 [] p.1 .none, p.2)
   else if w = kwLayer then (number r).map fun p => (leaf 5 [] p.1 .none, p.2)
   else if w = kwPart then (number r).map fun p => (leaf 6 [] p.1 .none, p.2)
   else if w = kwAny then some (cAny, r)
   else if w = kwIn then (four r).map fun p => (leaf 7 [] 0 p.1, p.2)
   else if w = kwNot then (fac n r).map fun p => (.mk 8 [] 0 .none [p.1], p.2)
   else if w = kwL then (orc (fac n) r).bind fun p => (must kwR p.2).map fun q => (p.1, q)
   else none
def whatOf (w : Bytes) : Int := match whats.idxOf? w with
 | some k => k + 1
 | none => 0
def lineW (ws : Ws) : Option Rule :=
 (must kwRule ws).bind fun r => (next r).bind fun (nm, r) => (number r).bind fun (prio, r) => (next r).bind fun (wh, r) => (number r).bind fun (v, r) => (must kwWhen r).bind fun r =>
 (orc (fac r.length) r).bind fun (a, r) =>
 if whatOf wh = 1 then (must kwTo r).bind fun r => (orc (fac r.length) r).bind fun (b, r) => if r = [] then some ⟨nm, prio, 1, v, a, b⟩ else none
 else if 0 < whatOf wh ∧ r = [] then some ⟨nm, prio, whatOf wh, v, a, cAny⟩ else none
def line (s : Bytes) : Option Rule := lineW (pieces 32 s)
def parseL (n : Int) (acc : List Rule) : List Bytes → List Rule × Int × Int
 | [] => ([], 0, 0)
 | [z] => if z ≠ [] then ([], n, 4) else if check acc = 0 then (acc, 0, 0) else ([], 0, check acc)
 | x :: y :: r => match line x with
  | none => ([], n, 4)
  | some q => parseL (n + 1) (acc ++ [q]) (y :: r)
def parse (s : Bytes) : List Rule × Int × Int := if 262144 < s.length then ([], 0, 2) else parseL 1 [] (pieces 10 s)
end Go.Proofs.YtljjbdbgedmadaaGreatDoor.Ru
namespace Go.Proofs.YtljjbdbgedmadaaGreatDoor.Ru
open Go Go.Proofs.YtljjbdbgedmadaaGreatDoor
/-! ### Good words -/
def WordOk (w : Bytes) : Prop := w ≠ [] ∧ 32 ∉ w ∧ 10 ∉ w
/-! ### A condition's form -/
inductive Form : Cond → Prop
 | any : Form cAny
 | net (t : Bytes) : splitR t = true → Form (leaf 2 t 0 .none)
 | cls (t : Bytes) : nameR t = true → Form (leaf 3 t 0 .none)
 | kind (n : Int) : 1 ≤ n → n ≤ 5 → Form (leaf 4 [] n .none)
 | layer (n : Int) : 1 ≤ n → n ≤ 4 → Form (leaf 5 [] n .none)
 | part (n : Int) : 1 ≤ n → n ≤ 1000000000 → Form (leaf 6 [] n .none)
 | box (b : Box) : boxR b = true → Form (leaf 7 [] 0 b)
 | not (c : Cond) : right c = true → Form (.mk 8 [] 0 .none [c])
 | and (l : List Cond) : 2 ≤ l.length → (∀ c ∈ l, right c = true) → Form (.mk 9 [] 0 .none l)
 | or (l : List Cond) : 2 ≤ l.length → (∀ c ∈ l, right c = true) → Form (.mk 10 [] 0 .none l)
/-! ### What is written is read -/
def Fac (c : Cond) : Prop := ∀ n rest ar, (ar = 8 ∨ ar = 9) → (write ar c ++ rest).length ≤ n → fac n (write ar c ++ rest) = some (c, rest)
def And' (c : Cond) : Prop := ∀ n rest, rest.head? ≠ some kwAnd → (write 10 c ++ rest).length ≤ n → lst kwAnd 9 (fac n) (write 10 c ++ rest) = some (c, rest)
def Or' (c : Cond) : Prop := ∀ n rest, rest.head? ≠ some kwAnd → rest.head? ≠ some kwOr → (write 0 c ++ rest).length ≤ n → orc (fac n) (write 0 c ++ rest) = some (c, rest)
end Go.Proofs.YtljjbdbgedmadaaGreatDoor.Ru
namespace Go.Proofs.YtljjbdbgedmadaaGreatDoor.Ru
open Go Go.Proofs.YtljjbdbgedmadaaGreatDoor
/-! ### The words of a condition are good ones -/
/-! ### Rules -/
structure Good (r : Rule) : Prop where
 name : nameR r.name = true
 prio : 0 ≤ r.prio ∧ r.prio ≤ 1000
 what : 1 ≤ r.what ∧ r.what ≤ 4
 value : 0 ≤ r.value ∧ r.value ≤ 4194304
 a : right r.a = true
 b : right r.b = true
 sa : size r.a ≤ 20
 sb : size r.b ≤ 20
 any : r.what ≠ 1 → r.b = cAny
/-! ### How long the text is -/
def wl (ws : List Bytes) : Nat := (ws.map fun w => w.length + 1).sum
/-! ### Brackets around a whole condition -/
def headB : List Bytes := [kwRule, [114], [48], [101, 100, 103, 101], [48], kwWhen]
end Go.Proofs.YtljjbdbgedmadaaGreatDoor.Ru
namespace Go.Proofs.YtljjbdbgedmadaaGreatDoor.Ru
open Go Go.Proofs.YtljjbdbgedmadaaGreatDoor
end Go.Proofs.YtljjbdbgedmadaaGreatDoor.Ru
namespace Go.Proofs.YtljjbdbgedmadaaGreatDoor.Ru
open Go Go.Proofs.YtljjbdbgedmadaaGreatDoor
inductive Lim : Cond → Prop
 | mk (op : Int) (t : Bytes) (n : Int) (b : Box) (l : List Cond) : t.length ≤ 1000000000 → (∀ c ∈ l, Lim c) → Lim (.mk op t n b l)
end Go.Proofs.YtljjbdbgedmadaaGreatDoor.Ru
namespace Go.Proofs.YtljjbdbgedmadaaGreatDoor.Ru
open Go Go.Proofs.YtljjbdbgedmadaaGreatDoor
open Go.RowKit
def kindC (n : Int) : Cond := .mk 4 [] n .none []
def clsP : Cond := .mk 3 [112] 0 .none []
def a3 : Cond := .mk 10 [] 0 .none [kindC 1, .mk 9 [] 0 .none [kindC 2, clsP]]
def a4 : Cond := .mk 9 [] 0 .none [.mk 10 [] 0 .none [kindC 1, kindC 2], clsP]
def s1 : Bytes := [114, 117, 108, 101, 32, 99, 49, 32, 49, 32, 99, 108, 101, 97, 114, 32, 49, 48, 32, 119, 104, 101, 110, 32, 97, 110, 121, 32, 116, 111, 32, 97, 110, 121]
def s2 : Bytes := [114, 117, 108, 101, 32, 101, 32, 48, 32, 101, 100, 103, 101, 32, 53, 32, 119, 104, 101, 110, 32, 40, 32, 97, 110, 121, 32, 41]
def s3 : Bytes := [114, 117, 108, 101, 32, 119, 32, 50, 32, 119, 105, 100, 116, 104, 32, 56, 32, 119, 104, 101, 110, 32, 110, 101, 116, 32, 71, 78, 68, 32, 97, 110, 100, 32, 110, 111, 116, 32, 108, 97, 121, 101, 114, 32, 50]
def s4 : Bytes := [114, 117, 108, 101, 32, 101, 32, 48, 32, 101, 100, 103, 101, 32, 53, 32, 119, 104, 101, 110, 32, 107, 105, 110, 100, 32, 49, 32, 111, 114, 32, 107, 105, 110, 100, 32, 50, 32, 97, 110, 100, 32, 99, 108, 97, 115, 115, 32, 112]
def s5 : Bytes := [114, 117, 108, 101, 32, 101, 32, 48, 32, 101, 100, 103, 101, 32, 53, 32, 119, 104, 101, 110, 32, 40, 32, 107, 105, 110, 100, 32, 49, 32, 111, 114, 32, 107, 105, 110, 100, 32, 50, 32, 41, 32, 97, 110, 100, 32, 99, 108, 97, 115, 115, 32, 112]
def s6 : Bytes := [114, 117, 108, 101, 32, 101, 32, 48, 32, 101, 100, 103, 101, 32, 53, 32, 119, 104, 101, 110, 32, 97, 110, 121, 32, 116, 111, 32, 97, 110, 121]
def z0 : Bytes := [114, 117, 108, 101]
def z1 : Bytes := []
def z2 : Bytes := [114, 117, 108, 101, 32, 97, 32, 49, 32, 99, 108, 101, 97, 114, 32, 53, 32, 119, 104, 101, 110, 32, 97, 110, 121]
def z3 : Bytes := [114, 117, 108, 101, 115, 32, 97, 32, 49, 32, 101, 100, 103, 101, 32, 53, 32, 119, 104, 101, 110, 32, 97, 110, 121]
end Go.Proofs.YtljjbdbgedmadaaGreatDoor.Ru
namespace Go.Proofs.YtljjbdbgedmadaaGreatDoor.Ru
open Go Go.Proofs.YtljjbdbgedmadaaGreatDoor
open Go.RowKit
def tx (c : Cond) : Bytes := joinB 32 (write 0 c)
/-! ### Rules that are made -/
end Go.Proofs.YtljjbdbgedmadaaGreatDoor.Ru
namespace Go.Proofs.YtljjbdbgedmadaaGreatDoor.Ru
open Go Go.Proofs.YtljjbdbgedmadaaGreatDoor
/-! ### Numbers -/
theorem dec_len : ∀ (k u : Nat), u < 10 ^ (k + 1) → (Lib.decDigits u).length ≤ k + 1
 | 0, u, h => by rw [Wr.dec_small (by simpa using h)]; simp
 | k + 1, u, h => by
  by_cases h1 : u < 10
  ·rw [Wr.dec_small h1]; simp
  ·rw [Wr.dec_big h1, List.length_append]; have := dec_len k (u / 10) (by rw [Nat.pow_succ] at h; omega)
   simp; omega
theorem dv_lt {l : Bytes} (h : ∀ c ∈ l, 48 ≤ c.toNat ∧ c.toNat ≤ 57) : ∀ j, j ≤ l.length → Wr.dv (l.take j) < 10 ^ j
 | 0, _ => by simp [Wr.dv]
 | j + 1, hj => by
  have ih := dv_lt h j (by omega)
  rw [Wr.dv_step l j (by omega)]; have := h l[j] (List.getElem_mem _)
  rw [Nat.pow_succ]; omega
theorem dv_all {l : Bytes} (h : ∀ c ∈ l, 48 ≤ c.toNat ∧ c.toNat ≤ 57) : Wr.dv l < 10 ^ l.length := by
 have := dv_lt h l.length (Nat.le_refl _)
 rwa [List.take_length] at this
def digits (s : Bytes) : Prop := ∀ c ∈ s, 48 ≤ c.toNat ∧ c.toNat ≤ 57
instance (s : Bytes) : Decidable (digits s) := by unfold digits; infer_instance
/-! ### Indices -/
theorem dec_lead (u : Nat) : 0 < u → (Lib.decDigits u).head? ≠ some 48 := by
 induction u using Nat.strongRecOn with
 | _ u ih =>
  intro h0
  by_cases h : u < 10
  ·rw [Wr.dec_small h]; intro e; have e1 : UInt8.ofNat (48 + u) = 48 := by simpa using e
   have := Wr.digit_toNat h
   rw [e1] at this; simp at this; omega
  ·rw [Wr.dec_big h]; have h2 := ih (u / 10) (by omega) (by omega)
   have h3 := Wr.dec_ne (u / 10)
   cases hd : Lib.decDigits (u / 10) with
   | nil => exact absurd hd h3
   | cons c t => rw [hd] at h2; simpa using h2
theorem dec_dv : ∀ (l : Bytes), digits l → l ≠ [] → (1 < l.length → l.head? ≠ some 48) → Lib.decDigits (Wr.dv l) = l := by
 intro l
 induction h : l.length generalizing l with
 | zero => intro _ hne; exact absurd (List.length_eq_zero_iff.1 h) hne
 | succ n ih =>
  intro hd hne hz; obtain ⟨m, c, rfl⟩ : ∃ m c, l = m ++ [c] := ⟨l.dropLast, l.getLast hne, (List.dropLast_concat_getLast hne).symm⟩
  have hc := hd c (by simp)
  have hcn : UInt8.ofNat (48 + (c.toNat - 48)) = c := by
   apply UInt8.toNat_inj.1
   rw [Wr.digit_toNat (by omega)]; omega
  rw [Wr.dv_snoc]
  cases hm : m with
  | nil =>
   simp only [Wr.dv, List.foldl_nil, Nat.mul_zero, Nat.zero_add, List.nil_append]
   rw [Wr.dec_small (by omega), hcn]
  | cons x t =>
   have hml : m.length = n := by simp at h; omega
   have hdm : digits m := fun y hy => hd y (by simp [hy])
   have hne2 : m ≠ [] := by rw [hm]; simp
   have hhead : (m ++ [c]).head? = m.head? := by rw [hm]; rfl
   have hz2 : m.head? ≠ some 48 := by
    rw [← hhead]; exact hz (by rw [hm] at hml; simp at hml; omega)
   have hih := ih m hml hdm hne2 (fun _ => hz2)
   have hpos : 0 < Wr.dv m := by
    rcases Nat.eq_zero_or_pos (Wr.dv m) with h0 | h0
    ·rw [h0, Wr.dec_small (by omega)] at hih; rw [← hih] at hz2; exact absurd rfl hz2
    ·exact h0
   rw [← hm, Wr.dec_big (by omega), show (10 * Wr.dv m + (c.toNat - 48)) / 10 = Wr.dv m by omega, show (10 * Wr.dv m + (c.toNat - 48)) % 10 = c.toNat - 48 by omega, hih, hcn]
theorem pieces_drop (e : UInt8) (s : Bytes) (a k : Nat) (hak : a ≤ k) (hk : s[k]? = some e) (hn : ∀ i, a ≤ i → i < k → s[i]? ≠ some e) : pieces e (s.drop a) = (s.take k).drop a :: pieces e (s.drop (k + 1)) := by
 have hlt : k < s.length := (List.getElem?_eq_some_iff.1 hk).1
 have h1 : s.drop a = (s.take k).drop a ++ e :: s.drop (k + 1) := by
  have h2 : s = s.take k ++ e :: s.drop (k + 1) := by
   have h3 : s[k] = e := (List.getElem?_eq_some_iff.1 hk).2
   rw [← h3, List.getElem_cons_drop, List.take_append_drop]
  conv => lhs; rw [h2]
  rw [List.drop_append_of_le_length (by rw [List.length_take]; omega)]
 rw [h1]
 exact pieces_app e _ _ (fun h => by
  obtain ⟨i, hi, h2⟩ := List.getElem_of_mem h
  rw [List.length_drop, List.length_take] at hi
  have h3 : s[a + i]? = some e := by
   rw [List.getElem_drop, List.getElem_take] at h2; rw [List.getElem?_eq_getElem (by omega), h2]
  exact hn (a + i) (by omega) (by omega) h3)
theorem pieces_last (e : UInt8) (s : Bytes) (a : Nat) (hn : ∀ i, a ≤ i → i < s.length → s[i]? ≠ some e) : pieces e (s.drop a) = [s.drop a] :=
 pieces_plain e _ (fun h => by
  obtain ⟨i, hi, h2⟩ := List.getElem_of_mem h
  rw [List.length_drop] at hi
  have h3 : s[a + i]? = some e := by
   rw [List.getElem_drop] at h2; rw [List.getElem?_eq_getElem (by omega), h2]
  exact hn (a + i) (by omega) (by omega) h3)
end Go.Proofs.YtljjbdbgedmadaaGreatDoor.Ru
