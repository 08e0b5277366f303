/- The chapter's holes in plain words: the text of a file of them, and what is read of a text. No program here; no condition.
  Numbers of a line, as the reference reads them. No program here; no condition.
  What is written of holes is read as these holes. No program here; no condition.
  What is written of holes is read as these holes: the whole file. No program here; no condition.
  A file that is cut off anywhere is not read. No program here; no condition.
  What holds of a reader's state all along. No program here; no condition.
  How long a file of holes is: few holes can be written. No program here; no condition.
  Holes in order. No program here; no condition.
  Radii sorted, each once. No program here; no condition.
  A number of at most nine digits, as the program tells one. No program here; no condition.
  A file of holes, hole after hole; a reader's lines, line after line. No program here; no condition.
  The library's insertion sort puts a row in order as norm does. No program here; no condition.
  The chapter's example, its file, and files in which a line is another one. No program here; no condition.
  What DrillNorms asks of holes in order. No program here; no condition. -/
import Derived.Test.YtljjbdbgedmadaaGreatDoorPlA
import Derived.Test.YtljjbdbgedmadaaGreatDoorRuA
import Derived.Lib.SlicesCompact
import Derived.Sort.Defs
namespace Go.Proofs.YtljjbdbgedmadaaGreatDoor.Dl
open Go Go.Proofs.YtljjbdbgedmadaaGreatDoor
open Go.RowKit
abbrev Bytes := List UInt8
structure Ho where
 s : Pl.Sh
 f : Int
 t : Int
 pl : Bool
/-! ### Writing -/
def spanR (f t : Int) : Bool := decide (1 ≤ f ∧ f ≤ t ∧ t ≤ 4)
def chkH (h : Ho) : Int := if Pl.chk h.s ≠ 0 then Pl.chk h.s else if h.s.k ≠ 1 ∨ h.s.r = 0 then 12 else if spanR h.f h.t = false then 72 else 0
def firstBad : List Ho → Int
 | [] => 0
 | h :: l => if chkH h = 0 then firstBad l else chkH h
def radii (l : List Ho) : List Int := (l.map (·.s.r)).foldl (fun rs r => Pl.ins r rs) []
def kM48 : Bytes := [77, 52, 56]
def kEt : Bytes := [59, 101, 116, 99, 104, 97, 110, 116]
def kPc : Bytes := [37]
def kM30 : Bytes := [77, 51, 48]
def kM15 : Bytes := [77, 49, 53]
def kM16 : Bytes := [77, 49, 54]
def kSpan : Bytes := [59, 115, 112, 97, 110, 32]
def kPlated : Bytes := [112, 108, 97, 116, 101, 100]
def kPlain : Bytes := [112, 108, 97, 105, 110]
def ln (l : Bytes) : Bytes := l ++ [10]
def toolLn (k : Nat) (r : Int) : Bytes := ln ([84] ++ Lib.itoa ((k : Int) + 1) ++ [67] ++ Lib.itoa (2 * r))
def toolsTo (rs : List Int) : Nat → Bytes
 | 0 => []
 | k + 1 => toolsTo rs k ++ toolLn k (rs.getD k 0)
def spanLn (h : Ho) : Bytes := ln (kSpan ++ Lib.itoa h.f ++ [32] ++ Lib.itoa h.t ++ [32] ++ (if h.pl then kPlated else kPlain))
def selLn (rs : List Int) (r : Int) : Bytes := ln ([84] ++ Lib.itoa ((rs.idxOf r : Int) + 1))
def edgeLn (e : Pl.Ed) : Bytes := ln (Pl.gOf e.k ++ Pl.pnt 88 e.b 89 ++ Pl.arcT e)
def pathT (s : Pl.Sh) : Bytes := match s.es with
 | [] => []
 | e :: l => if l = [] ∧ e.k = 1 ∧ e.a = e.b then ln (Pl.pnt 88 e.a 89) else ln ([71, 48, 48] ++ Pl.pnt 88 e.a 89) ++ ln kM15 ++ (e :: l).flatMap edgeLn ++ ln kM16
def sameSpan (a b : Ho) : Bool := decide (a.f = b.f) && decide (a.t = b.t) && (a.pl == b.pl)
def holeT (rs : List Int) (p : Option Ho) (h : Ho) : Bytes :=
 (match p with | none => spanLn h | some q => if sameSpan h q then [] else spanLn h) ++ (match p with | none => selLn rs h.s.r | some q => if h.s.r = q.s.r then [] else selLn rs h.s.r) ++ pathT h.s
def holesT (rs : List Int) : Option Ho → List Ho → Bytes
 | _, [] => []
 | p, h :: l => holeT rs p h ++ holesT rs (some h) l
def fileT (l : List Ho) : Bytes := ln kM48 ++ ln kEt ++ toolsTo (radii l) (radii l).length ++ ln kPc ++ holesT (radii l) none l ++ ln kM30
def write (l : List Ho) : Bytes × Int := if firstBad l ≠ 0 then ([], firstBad l) else if 990 < (radii l).length then ([], 2) else if 262144 < (fileT l).length then ([], 2) else (fileT l, 0)
/-! ### Numbers of a line -/
def numC (c : UInt8) : Bool := c == 45 || decide (48 ≤ c.toNat ∧ c.toNat ≤ 57)
def canon (s : Bytes) : Option Int := match Wr.parse s with
 | some n => if -1000000000 < n ∧ n < 1000000000 then some n else none
 | none => none
def strip : Bytes → Bytes → Option Bytes
 | [], l => some l
 | _ :: _, [] => none
 | p :: ps, c :: l => if p = c then strip ps l else none
def scanR : List Bytes → Bytes → Option (List Int)
 | [], l => if l = [] then some [] else none
 | p :: ps, l => match canon (l.takeWhile numC), strip p (l.dropWhile numC) with
  | some n, some r => (scanR ps r).map (n :: ·)
  | _, _ => none
def scan (p : Bytes) (ps : List Bytes) (l : Bytes) : Option (List Int) := (strip p l).bind (scanR ps)
/-! ### Reading -/
structure St where
 ph : Nat
 tools : List (Int × Int)
 sel : Int
 f : Int
 t : Int
 pl : Bool
 at_ : Pl.Pt
 es : List Pl.Ed
 out : List Ho
def St.start : St := ⟨0, [], 0, 0, 0, false, ⟨0, 0⟩, [], []⟩
def find (ts : List (Int × Int)) (n : Int) : Option Int := (ts.find? fun p => p.1 == n).map (·.2)
def head (st : St) (s : Bytes) : St ⊕ Int :=
 if s = kPc then .inl { st with ph := 3 } else match scan [84] [[67], []] s with
 | some [n, d] => if n < 1 ∨ 990 < n ∨ d < 2 ∨ 8388608 < d ∨ d % 2 ≠ 0 then .inr 3 else if (find st.tools n).isSome then .inr 70 else .inl { st with tools := st.tools ++ [(n, d)] }
 | _ => .inr 4
def put (st : St) (l : List Pl.Ed) : St ⊕ Int :=
 if Pl.chk ⟨1, l, st.sel / 2⟩ = 0 then .inl { st with out := st.out ++ [⟨⟨1, l, st.sel / 2⟩, st.f, st.t, st.pl⟩] } else .inr (Pl.chk ⟨1, l, st.sel / 2⟩)
def ready (st : St) : Int := if st.sel ≤ 0 then 70 else if st.f ≤ 0 then 72 else 0
def spanOf (s : Bytes) : Option (Int × Int × Bool) := match scan kSpan [[32], 32 :: kPlated] s with
 | some [f, t] => some (f, t, true)
 | _ => match scan kSpan [[32], 32 :: kPlain] s with
  | some [f, t] => some (f, t, false)
  | _ => none
def edgeOf (p : Pl.Pt) (s : Bytes) : Option Pl.Ed := match scan [71, 48, 49, 88] [[89], []] s with
 | some [x, y] => some ⟨1, p, ⟨x, y⟩, ⟨0, 0⟩⟩
 | _ => match scan [71, 48, 51, 88] [[89], [73], [74], []] s with
  | some [x, y, i, j] => some ⟨2, p, ⟨x, y⟩, ⟨p.x + i, p.y + j⟩⟩
  | _ => match scan [71, 48, 50, 88] [[89], [73], [74], []] s with
   | some [x, y, i, j] => some ⟨3, p, ⟨x, y⟩, ⟨p.x + i, p.y + j⟩⟩
   | _ => none
def body (st : St) (s : Bytes) : St ⊕ Int :=
 if s = kM30 then .inl { st with ph := 6 } else match spanOf s with
 | some (f, t, p) => if spanR f t then .inl { st with f := f, t := t, pl := p } else .inr 72
 | none => match scan [84] [[]] s with
  | some [n] => (match find st.tools n with | some d => .inl { st with sel := d } | none => .inr 70)
  | _ => match scan [71, 48, 48, 88] [[89], []] s with
   | some [x, y] => if ready st = 0 then .inl { st with ph := 4, at_ := ⟨x, y⟩ } else .inr (ready st)
   | _ => match scan [88] [[89], []] s with
    | some [x, y] => if ready st = 0 then put st [⟨1, ⟨x, y⟩, ⟨x, y⟩, ⟨0, 0⟩⟩] else .inr (ready st)
    | _ => .inr 4
def routed (st : St) (s : Bytes) : St ⊕ Int :=
 if s = kM16 then (match put st st.es with | .inl u => .inl { u with es := [], ph := 3 } | .inr e => .inr e) else match edgeOf st.at_ s with
 | some e => if Pl.chkE e = 0 then .inl { st with es := st.es ++ [e], at_ := e.b } else .inr (Pl.chkE e)
 | none => .inr 4
def step (st : St) (s : Bytes) : St ⊕ Int :=
 if st.ph = 0 then (if s = kM48 then .inl { st with ph := 1 } else .inr 4) else if st.ph = 1 then (if s = kEt then .inl { st with ph := 2 } else .inr 4)
 else if st.ph = 2 then head st s else if st.ph = 3 then body st s else if st.ph = 4 then (if s = kM15 then .inl { st with ph := 5 } else .inr 4) else if st.ph = 5 then routed st s else .inr 4
def readL (n : Int) (st : St) : List Bytes → List Ho × Int × Int
 | [] => ([], n, 4)
 | [z] => if z ≠ [] ∨ st.ph ≠ 6 then ([], n, 4) else (st.out, 0, 0)
 | x :: y :: r => match step st x with
  | .inl u => readL (n + 1) u (y :: r)
  | .inr e => ([], n, e)
def read (s : Bytes) : List Ho × Int × Int := if 262144 < s.length then ([], 0, 2) else readL 1 .start (Ru.pieces 10 s)
end Go.Proofs.YtljjbdbgedmadaaGreatDoor.Dl
namespace Go.Proofs.YtljjbdbgedmadaaGreatDoor.Dl
open Go Go.Proofs.YtljjbdbgedmadaaGreatDoor
open Go.RowKit
theorem canon_some {s : Bytes} {n : Int} : canon s = some n ↔ s = Lib.itoa n ∧ -1000000000 < n ∧ n < 1000000000 := by
 unfold canon
 cases h : Wr.parse s with
 | none =>
  refine ⟨fun e => (by cases e), fun ⟨e, h1, h2⟩ => ?_⟩
  have := Wr.parse_some.2 ⟨e, by unfold Wr.I64; omega⟩
  rw [h] at this; cases this
 | some m =>
  have hm := Wr.parse_some.1 h
  simp only
  constructor
  ·intro e
   split at e
   ·rename_i hb; injection e with e; subst e; exact ⟨hm.1, hb⟩
   ·cases e
  ·rintro ⟨e, hb⟩; have : Wr.parse s = some n := Wr.parse_some.2 ⟨e, by unfold Wr.I64; omega⟩
   rw [h] at this; injection this with this; rw [this, if_pos hb]
def refNum (l : Bytes) : Option (Int × Bytes) :=
 let d := Wr.mag l
 let ds := (d.takeWhile Ru.digit).take 10
 if ds.length = 0 ∨ 9 < ds.length ∨ (d.head? = some 48 ∧ (1 < ds.length ∨ Wr.neg l = true)) then none else some (if Wr.neg l then -(Wr.dv ds : Int) else Wr.dv ds, d.drop ds.length)
theorem digit_iff {c : UInt8} : Ru.digit c = true ↔ 48 ≤ c.toNat ∧ c.toNat ≤ 57 := by unfold Ru.digit; simp
theorem dec_all (u : Nat) : ∀ c ∈ Lib.decDigits u, Ru.digit c = true := fun c hc => digit_iff.2 (Wr.dec_digit u c hc)
theorem tw_app {p : UInt8 → Bool} : ∀ {a r : Bytes}, (∀ c ∈ a, p c = true) → (∀ c, r.head? = some c → p c = false) → (a ++ r).takeWhile p = a ∧ (a ++ r).dropWhile p = r
 | [], r, _, h => by
  cases r with
  | nil => simp
  | cons c r => have := h c rfl; simp [this]
 | x :: a, r, ha, h => by
  have hx := ha x (by simp)
  have ih := tw_app (a := a) (r := r) (fun c hc => ha c (by simp [hc])) h
  simp [hx, ih.1, ih.2]
theorem itoa_form (n : Int) : (n < 0 ∧ Lib.itoa n = 45 :: Lib.decDigits n.natAbs) ∨ (0 ≤ n ∧ Lib.itoa n = Lib.decDigits n.toNat) := by
 unfold Lib.itoa
 by_cases h : n < 0
 ·exact .inl ⟨h, by rw [if_pos h]⟩
 ·exact .inr ⟨by omega, by rw [if_neg h]⟩
theorem dec_short {u : Nat} (h : u < 1000000000) : (Lib.decDigits u).length ≤ 9 := Ru.dec_len 8 u (by simpa using h)
theorem refNum_itoa {n : Int} {r : Bytes} (h : -1000000000 < n ∧ n < 1000000000) (hr : ∀ c, r.head? = some c → Ru.digit c = false) : refNum (Lib.itoa n ++ r) = some (n, r) := by
 rcases itoa_form n with ⟨hn, e⟩ | ⟨hn, e⟩
 ·have hu : n.natAbs < 1000000000 := by omega
  have hs := dec_short hu
  have h0 : 0 < (Lib.decDigits n.natAbs).length := List.length_pos_iff.2 (Wr.dec_ne _)
  have ht := (tw_app (dec_all n.natAbs) hr).1
  have hng : Wr.neg (45 :: Lib.decDigits n.natAbs ++ r) = true := rfl
  have hmg : Wr.mag (45 :: Lib.decDigits n.natAbs ++ r) = Lib.decDigits n.natAbs ++ r := rfl
  have hld := Ru.dec_lead n.natAbs (by omega)
  have hhd : (Lib.decDigits n.natAbs ++ r).head? ≠ some 48 := by
   cases hd : Lib.decDigits n.natAbs with
   | nil => rw [hd] at h0; simp at h0
   | cons c l => rw [hd] at hld; simpa using hld
  rw [e, refNum, hmg, hng, ht, List.take_of_length_le (by omega), if_neg (by simp only [not_or, not_and]; exact ⟨by omega, by omega, fun h => absurd h hhd⟩), Wr.dv_dec, List.drop_left]
  simp only [if_true]
  congr 2
  omega
 ·have hu : n.toNat < 1000000000 := by omega
  have hs := dec_short hu
  have h0 : 0 < (Lib.decDigits n.toNat).length := List.length_pos_iff.2 (Wr.dec_ne _)
  have ht := (tw_app (dec_all n.toNat) hr).1
  have hnn := Wr.dec_head n.toNat
  obtain ⟨c, l, hd⟩ : ∃ c l, Lib.decDigits n.toNat = c :: l := by
   cases hd : Lib.decDigits n.toNat with
   | nil => rw [hd] at h0; simp at h0
   | cons c l => exact ⟨c, l, rfl⟩
  have hng : Wr.neg (Lib.decDigits n.toNat ++ r) = false := by rw [hd] at hnn ⊢; exact hnn
  have hmg : Wr.mag (Lib.decDigits n.toNat ++ r) = Lib.decDigits n.toNat ++ r := by unfold Wr.mag; rw [hng]; rfl
  have hld : (Lib.decDigits n.toNat ++ r).head? = some 48 → (Lib.decDigits n.toNat).length ≤ 1 := fun hh => by
   rcases Nat.eq_zero_or_pos n.toNat with h | h
   ·rw [h, Wr.dec_small (by omega)]; simp
   ·exfalso
    have := Ru.dec_lead n.toNat h
    rw [hd] at this hh; exact this (by simpa using hh)
  rw [e, refNum, hmg, hng, ht, List.take_of_length_le (by omega), if_neg (by simp only [not_or, not_and]; exact ⟨by omega, by omega, fun h => ⟨by have := hld h; omega, by simp⟩⟩), Wr.dv_dec, List.drop_left]
  simp only [Bool.false_eq_true, if_false]
  congr 2
  omega
theorem tw_split (p : UInt8 → Bool) : ∀ (l : Bytes), l = l.takeWhile p ++ l.dropWhile p ∧ (∀ c ∈ l.takeWhile p, p c = true) ∧ ∀ c, (l.dropWhile p).head? = some c → p c = false
 | [] => by simp
 | x :: l => by
  obtain ⟨h1, h2, h3⟩ := tw_split p l
  cases hx : p x with
  | true =>
   simp only [List.takeWhile, List.dropWhile, hx]
   exact ⟨by rw [List.cons_append, ← h1], fun c hc => by
    rcases List.mem_cons.1 hc with rfl | hc
    ·exact hx
    ·exact h2 c hc, h3⟩
  | false =>
   simp only [List.takeWhile, List.dropWhile, hx]
   exact ⟨rfl, by simp, fun c hc => by simp at hc; subst hc; exact hx⟩
theorem refNum_some {l r : Bytes} {n : Int} (h : refNum l = some (n, r)) : l = Lib.itoa n ++ r ∧ (-1000000000 < n ∧ n < 1000000000) ∧ ∀ c, r.head? = some c → Ru.digit c = false := by
 unfold refNum at h
 simp only at h
 split at h
 ·cases h
 rename_i hc
 simp only [not_or, not_and] at hc
 obtain ⟨c1, c2, c3⟩ := hc
 obtain ⟨h1, h2, h3⟩ := tw_split Ru.digit (Wr.mag l)
 obtain ⟨D, hD⟩ : ∃ D, (Wr.mag l).takeWhile Ru.digit = D := ⟨_, rfl⟩
 obtain ⟨R, hR⟩ : ∃ R, (Wr.mag l).dropWhile Ru.digit = R := ⟨_, rfl⟩
 rw [hD, hR] at h1; rw [hD] at h2 h c1 c2 c3; rw [hR] at h3; have hlt : D.length ≤ 9 := by rw [List.length_take] at c2; omega
 rw [List.take_of_length_le (by omega)] at h c1 c2 c3; have hdg : Ru.digits D := fun c hc => digit_iff.1 (h2 c hc)
 have hdrop : (Wr.mag l).drop D.length = R := by rw [h1, List.drop_left]
 rw [hdrop] at h; have hne : D ≠ [] := fun e => by rw [e] at c1; simp at c1
 have hhead : (Wr.mag l).head? = D.head? := by
  rw [h1]
  cases D with
  | nil => exact absurd rfl hne
  | cons c t => rfl
 rw [hhead] at c3; have hdd : Lib.decDigits (Wr.dv D) = D := Ru.dec_dv D hdg hne (fun hl he => (c3 he).1 hl)
 have hb : Wr.dv D < 1000000000 := by
  have h := Ru.dv_all hdg
  have h' : 10 ^ D.length ≤ 10 ^ 9 := Nat.pow_le_pow_right (by omega) hlt
  have e9 : (10 : Nat) ^ 9 = 1000000000 := by decide
  omega
 cases hn : Wr.neg l with
 | true =>
  rw [hn] at h c3; simp only [if_true, Option.some.injEq, Prod.mk.injEq] at h
  obtain ⟨rfl, rfl⟩ := h
  have hpos : 0 < Wr.dv D := by
   rcases Nat.eq_zero_or_pos (Wr.dv D) with h0 | h0
   ·exfalso
    rw [h0, Wr.dec_small (by omega)] at hdd; exact (c3 (by rw [← hdd]; rfl)).2 rfl
   ·exact h0
  refine ⟨?_, by omega, h3⟩
  rcases itoa_form (-(Wr.dv D : Int)) with ⟨_, e⟩ | ⟨hx, _⟩
  ·rw [e, show (-(Wr.dv D : Int)).natAbs = Wr.dv D by omega, hdd, List.cons_append, ← h1]; unfold Wr.neg at hn; unfold Wr.mag
   have hh : l.head? = some 45 := by simpa using hn
   cases l with
   | nil => cases hh
   | cons c t => rw [show Wr.neg (c :: t) = true from hn]; simp at hh ⊢; exact hh
  ·omega
 | false =>
  rw [hn] at h; simp only [Bool.false_eq_true, if_false, Option.some.injEq, Prod.mk.injEq] at h
  obtain ⟨rfl, rfl⟩ := h
  refine ⟨?_, by omega, h3⟩
  rcases itoa_form (Wr.dv D : Int) with ⟨hx, _⟩ | ⟨_, e⟩
  ·omega
  ·rw [e, show (Wr.dv D : Int).toNat = Wr.dv D by omega, hdd, ← h1]; unfold Wr.mag; rw [hn]; rfl
def refScan : Bytes → Bytes → Option (List Int)
 | [], l => if l = [] then some [] else none
 | c :: ps, l => if c = 35 then (match refNum l with | some (n, r) => (refScan ps r).map (n :: ·) | none => none) else match l with
  | d :: r => if d = c then refScan ps r else none
  | [] => none
def patOf : List Bytes → Bytes
 | [] => []
 | p :: ps => 35 :: p ++ patOf ps
theorem refScan_part (ps : Bytes) : ∀ (p l : Bytes), 35 ∉ p → refScan (p ++ ps) l = (strip p l).bind (refScan ps)
 | [], l, _ => rfl
 | c :: p, l, h => by
  have hc : c ≠ 35 := fun e => h (by simp [e])
  rw [List.cons_append, refScan.eq_def]; simp only [if_neg hc]
  cases l with
  | nil => rfl
  | cons d r =>
   simp only [strip]
   by_cases hd : c = d
   ·rw [if_pos hd, if_pos hd.symm]; exact refScan_part ps p r (fun e => h (by simp [e]))
   ·rw [if_neg hd, if_neg (fun e => hd e.symm)]; rfl
theorem num_digit {c : UInt8} (h : numC c = false) : Ru.digit c = false := by
 unfold numC at h; unfold Ru.digit
 simp only [Bool.or_eq_false_iff] at h
 exact h.2
theorem itoa_num (n : Int) : ∀ c ∈ Lib.itoa n, numC c = true := fun c hc => by
 unfold numC
 rcases Wr.itoa_byte n c hc with h | h
 ·simp [h]
 ·simp [h]
theorem scanR_ref : ∀ (ps : List Bytes) (l : Bytes), (∀ p ∈ ps, 35 ∉ p ∧ ∀ c, p.head? = some c → numC c = false) → (∀ p ∈ ps.dropLast, p ≠ []) → refScan (patOf ps) l = scanR ps l
 | [], l, _, _ => rfl
 | p :: ps, l, h, hne => by
  obtain ⟨h35, hnum⟩ := h p (by simp)
  obtain ⟨e1, e2, e3⟩ := tw_split numC l
  rw [patOf, List.cons_append, refScan.eq_def, scanR]; simp only [if_true]
  cases hc : canon (l.takeWhile numC) with
  | some n =>
   obtain ⟨f1, f2⟩ := canon_some.1 hc
   have hr : refNum l = some (n, l.dropWhile numC) := by
    conv => lhs; rw [e1, f1]
    exact refNum_itoa f2 (fun c hcc => num_digit (e3 c hcc))
   rw [hr]; simp only
   rw [refScan_part _ _ _ h35]
   cases hs : strip p (l.dropWhile numC) with
   | none => rfl
   | some r =>
    simp only [Option.bind_some]
    rw [scanR_ref ps r (fun q hq => h q (by simp [hq])) (fun q hq => hne q (by cases ps with | nil => simp at hq | cons x y => rw [List.dropLast_cons_cons]; exact List.mem_cons_of_mem _ hq))]
  | none =>
   simp only
   cases hr : refNum l with
   | none => rfl
   | some q =>
    obtain ⟨n, r⟩ := q
    simp only
    obtain ⟨g1, g2, g3⟩ := refNum_some hr
    rw [refScan_part _ _ _ h35]
    -- what stands behind the number is a sign
    cases hrr : r with
    | nil =>
     exfalso
     have := (tw_app (p := numC) (a := Lib.itoa n) (r := []) (itoa_num n) (by simp)).1
     rw [hrr] at g1; rw [g1, this] at hc; rw [canon_some.2 ⟨rfl, g2⟩] at hc; cases hc
    | cons c t =>
     cases hcn : numC c with
     | false =>
      exfalso
      have := (tw_app (p := numC) (a := Lib.itoa n) (r := c :: t) (itoa_num n) (by intro d hd; simp at hd; subst hd; exact hcn)).1
      rw [hrr] at g1; rw [g1, this] at hc; rw [canon_some.2 ⟨rfl, g2⟩] at hc; cases hc
     | true =>
      cases p with
      | nil =>
       cases ps with
       | nil => simp [strip, refScan, patOf]
       | cons p2 ps2 =>
        exact absurd rfl (hne [] (by simp))
      | cons d p =>
       have hdc : d ≠ c := fun e => by have := hnum d rfl; rw [e, hcn] at this; cases this
       simp [strip, hdc]
end Go.Proofs.YtljjbdbgedmadaaGreatDoor.Dl
namespace Go.Proofs.YtljjbdbgedmadaaGreatDoor.Dl
open Go Go.Proofs.YtljjbdbgedmadaaGreatDoor
open Go.RowKit
theorem strip_self : ∀ (p r : Bytes), strip p (p ++ r) = some r
 | [], _ => rfl
 | c :: p, r => by simp only [List.cons_append, strip, if_true]; exact strip_self p r
def flat : List Int → List Bytes → Bytes
 | n :: ns, p :: ps => Lib.itoa n ++ (p ++ flat ns ps)
 | _, _ => []
def NumB (n : Int) : Prop := -1000000000 < n ∧ n < 1000000000
inductive Parts : List Bytes → Prop
 | last : Parts [[]]
 | one (c : UInt8) (p : Bytes) : numC c = false → Parts [c :: p]
 | cons (c : UInt8) (p : Bytes) (ps : List Bytes) : numC c = false → Parts ps → Parts ((c :: p) :: ps)
theorem scanR_flat : ∀ {ps : List Bytes}, Parts ps → ∀ {ns : List Int}, ns.length = ps.length → (∀ n ∈ ns, NumB n) → scanR ps (flat ns ps) = some ns := by
 intro ps hp
 have key : ∀ (n : Int) (p r : Bytes) (ps : List Bytes), NumB n → (∀ c, (p ++ r).head? = some c → numC c = false) → scanR (p :: ps) (Lib.itoa n ++ (p ++ r)) = (scanR ps r).map (n :: ·) := fun n p r ps hn hh => by
  obtain ⟨e1, e2⟩ := tw_app (p := numC) (a := Lib.itoa n) (r := p ++ r) (itoa_num n) hh
  rw [scanR, e1, e2, canon_some.2 ⟨rfl, hn⟩, strip_self]
 induction hp with
 | last =>
  intro ns hl hn
  match ns, hl with
  | [n], _ =>
   rw [flat, key n [] _ [] (hn n (by simp)) (by simp [flat])]
   simp [flat, scanR]
 | one c p hc =>
  intro ns hl hn
  match ns, hl with
  | [n], _ =>
   rw [flat, key n (c :: p) _ [] (hn n (by simp)) (by simp; exact hc)]
   simp [flat, scanR]
 | cons c p ps hc _ ih =>
  intro ns hl hn
  match ns, hl with
  | n :: ns, hl =>
   rw [flat, key n (c :: p) _ ps (hn n (by simp)) (by simp; exact hc), ih (by simpa using hl) (fun m hm => hn m (by simp [hm]))]
   rfl
theorem scan_flat {p : Bytes} {ps : List Bytes} (hp : Parts ps) {ns : List Int} (hl : ns.length = ps.length) (hn : ∀ n ∈ ns, NumB n) : scan p ps (p ++ flat ns ps) = some ns := by
 rw [scan, strip_self, Option.bind_some, scanR_flat hp hl hn]
theorem strip_ne {c d : UInt8} {p l : Bytes} (h : c ≠ d) : strip (c :: p) (d :: l) = none := by rw [strip, if_neg h]
theorem scan_ne {c d : UInt8} {p l : Bytes} {ps : List Bytes} (h : c ≠ d) : scan (c :: p) ps (d :: l) = none := by rw [scan, strip_ne h]; rfl
theorem pXY : Parts [[89], []] := .cons 89 [] _ (by decide) .last
theorem pC : Parts [[67], []] := .cons 67 [] _ (by decide) .last
theorem pXYIJ : Parts [[89], [73], [74], []] := .cons 89 [] _ (by decide) (.cons 73 [] _ (by decide) (.cons 74 [] _ (by decide) .last))
theorem pPlated : Parts [[32], 32 :: kPlated] := .cons 32 [] _ (by decide) (.one 32 _ (by decide))
theorem pPlain : Parts [[32], 32 :: kPlain] := .cons 32 [] _ (by decide) (.one 32 _ (by decide))
/-! ### Lines -/
def runs (st : St) : List Bytes → St ⊕ Int
 | [] => .inl st
 | x :: l => match step st x with
  | .inl u => runs u l
  | .inr e => .inr e
theorem readL_runs : ∀ (L : List Bytes) (n : Int) (st u : St), runs st L = .inl u → u.ph = 6 → readL n st (L ++ [[]]) = (u.out, 0, 0)
 | [], n, st, u, h, h6 => by injection h with h; subst h; simp [readL, h6]
 | x :: L, n, st, u, h, h6 => by
  rw [runs] at h
  cases hs : step st x with
  | inl v =>
   rw [hs] at h
   obtain ⟨y, r, hy⟩ : ∃ y r, L ++ [[]] = y :: r := by cases L with
    | nil => exact ⟨_, _, rfl⟩
    | cons a b => exact ⟨_, _, rfl⟩
   rw [List.cons_append, hy, readL, hs]; simp only
   rw [← hy]; exact readL_runs L _ v u h h6
  | inr e => rw [hs] at h; cases h
theorem numB_in {n : Int} (h : Pl.In n) : NumB n := by unfold Pl.In at h; unfold NumB; omega
theorem spanR_iff {f t : Int} : spanR f t = true ↔ 1 ≤ f ∧ f ≤ t ∧ t ≤ 4 := by unfold spanR; simp
def spanL (h : Ho) : Bytes := kSpan ++ flat [h.f, h.t] [[32], 32 :: (if h.pl then kPlated else kPlain)]
theorem spanLn_eq (h : Ho) : spanLn h = ln (spanL h) := by cases hp : h.pl <;> simp [spanLn, spanL, flat, hp]
theorem scanR_num {n : Int} {p r : Bytes} {ps : List Bytes} (hn : NumB n) (hh : ∀ c, r.head? = some c → numC c = false) : scanR (p :: ps) (Lib.itoa n ++ r) = (strip p r).bind fun x => (scanR ps x).map (n :: ·) := by
 obtain ⟨e1, e2⟩ := tw_app (p := numC) (a := Lib.itoa n) (r := r) (itoa_num n) hh
 rw [scanR, e1, e2, canon_some.2 ⟨rfl, hn⟩]
 cases strip p r <;> rfl
theorem span_of (h : Ho) (hs : spanR h.f h.t = true) : spanOf (spanL h) = some (h.f, h.t, h.pl) := by
 have hb := spanR_iff.1 hs
 have hn : ∀ n ∈ [h.f, h.t], NumB n := by intro n hn; simp at hn; unfold NumB; omega
 unfold spanOf spanL
 cases hp : h.pl with
 | true => simp only [if_true]; rw [scan_flat pPlated rfl hn]
 | false =>
  simp only [Bool.false_eq_true, if_false]
  have h0 : scan kSpan [[32], 32 :: kPlated] (kSpan ++ flat [h.f, h.t] [[32], 32 :: kPlain]) = none := by
   rw [scan, strip_self, Option.bind_some, flat, scanR_num (hn _ (by simp)) (by simp [numC]), strip_self, Option.bind_some, flat, scanR_num (hn _ (by simp)) (by simp [numC])]
   rfl
  rw [h0, scan_flat pPlain rfl hn]
theorem body_span {st : St} (h : Ho) (hs : spanR h.f h.t = true) : body st (spanL h) = .inl { st with f := h.f, t := h.t, pl := h.pl } := by
 unfold body
 rw [if_neg (by unfold spanL kSpan kM30; simp), span_of h hs]
 simp only
 rw [if_pos hs]
theorem span_no {c : UInt8} {l : Bytes} (h : (59 : UInt8) ≠ c) : spanOf (c :: l) = none := by
 unfold spanOf kSpan; rw [scan_ne h, scan_ne h]
theorem body_sel {st : St} {n d : Int} (hn : NumB n) (hf : find st.tools n = some d) : body st ([84] ++ Lib.itoa n) = .inl { st with sel := d } := by
 unfold body
 have e : [84] ++ Lib.itoa n = [84] ++ flat [n] [[]] := by simp [flat]
 rw [if_neg (by unfold kM30; simp), show ([84] ++ Lib.itoa n : Bytes) = 84 :: Lib.itoa n from rfl, span_no (by decide)]
 simp only
 rw [show (84 :: Lib.itoa n : Bytes) = [84] ++ flat [n] [[]] from e, scan_flat .last rfl (by intro m hm; simp at hm; subst hm; exact hn)]
 simp only [hf]
theorem pnt_flat (c : UInt8) (p : Pl.Pt) : Pl.pnt c p 89 = [c] ++ flat [p.x, p.y] [[89], []] := by simp [Pl.pnt, flat]
theorem pt_num {p : Pl.Pt} (h : p.ok) : ∀ n ∈ [p.x, p.y], NumB n := by
 intro n hn; simp at hn
 rcases hn with rfl | rfl
 ·exact numB_in h.1
 ·exact numB_in h.2
theorem body_pt {st : St} {p : Pl.Pt} (hr : ready st = 0) (hp : p.ok) : body st (Pl.pnt 88 p 89) = put st [⟨1, p, p, ⟨0, 0⟩⟩] := by
 unfold body
 rw [if_neg (by unfold kM30 Pl.pnt; simp), show Pl.pnt 88 p 89 = 88 :: (Lib.itoa p.x ++ 89 :: Lib.itoa p.y) from rfl, span_no (by decide)]
 simp only
 rw [scan_ne (by decide)]; simp only
 rw [scan_ne (by decide)]; simp only
 rw [show (88 :: (Lib.itoa p.x ++ 89 :: Lib.itoa p.y) : Bytes) = [88] ++ flat [p.x, p.y] [[89], []] from pnt_flat 88 p, scan_flat pXY rfl (pt_num hp)]
 simp only
 rw [if_pos hr]
theorem body_g0 {st : St} {p : Pl.Pt} (hr : ready st = 0) (hp : p.ok) : body st ([71, 48, 48] ++ Pl.pnt 88 p 89) = .inl { st with ph := 4, at_ := p } := by
 have e : [71, 48, 48] ++ Pl.pnt 88 p 89 = [71, 48, 48, 88] ++ flat [p.x, p.y] [[89], []] := by rw [pnt_flat]; rfl
 unfold body
 rw [if_neg (by unfold kM30; simp), show ([71, 48, 48] ++ Pl.pnt 88 p 89 : Bytes) = 71 :: ([48, 48] ++ Pl.pnt 88 p 89) from rfl, span_no (by decide)]
 simp only
 rw [scan_ne (by decide)]; simp only
 rw [show (71 :: ([48, 48] ++ Pl.pnt 88 p 89) : Bytes) = [71, 48, 48, 88] ++ flat [p.x, p.y] [[89], []] from e, scan_flat pXY rfl (pt_num hp)]
 simp only
 rw [if_pos hr]
def edgeL (e : Pl.Ed) : Bytes := Pl.gOf e.k ++ Pl.pnt 88 e.b 89 ++ Pl.arcT e
theorem chkE_parts {e : Pl.Ed} (h : Pl.chkE e = 0) : (1 ≤ e.k ∧ e.k ≤ 3) ∧ (e.a.ok ∧ e.b.ok ∧ e.c.ok) ∧ (e.k = 1 → e.c = ⟨0, 0⟩) := by
 unfold Pl.chkE at h
 split at h
 ·cases h
 rename_i h1
 split at h
 ·cases h
 rename_i h2
 refine ⟨by omega, by simpa using h2, fun hk => ?_⟩
 rw [if_pos hk] at h
 split at h
 ·assumption
 ·cases h
theorem edge_of {e : Pl.Ed} (h : Pl.chkE e = 0) : edgeOf e.a (edgeL e) = some e := by
 obtain ⟨hk, ⟨ha, hb, hc⟩, h1⟩ := chkE_parts h
 have hd : ∀ n ∈ [e.b.x, e.b.y, e.c.x - e.a.x, e.c.y - e.a.y], NumB n := by
  obtain ⟨a1, a2⟩ := ha; obtain ⟨b1, b2⟩ := hb; obtain ⟨c1, c2⟩ := hc; unfold Pl.In at a1 a2 b1 b2 c1 c2; intro n hn
  simp at hn
  unfold NumB
  rcases hn with rfl | rfl | rfl | rfl <;> omega
 have hk3 : e.k = 1 ∨ e.k = 2 ∨ e.k = 3 := by omega
 have hm : ∀ (x y : UInt8) (l : Bytes) (ps : List Bytes), x ≠ y → scan [71, 48, x, 88] ps ([71, 48, y] ++ l) = none := fun x y l ps hxy => by
  simp [scan, strip, hxy]
 unfold edgeOf edgeL
 rcases hk3 with hk1 | hk2 | hk3
 ·rw [show Pl.gOf e.k = [71, 48, 49] by rw [hk1]; rfl, show Pl.arcT e = [] by unfold Pl.arcT; rw [if_pos hk1], List.append_nil, pnt_flat, show ([71, 48, 49] ++ ([88] ++ flat [e.b.x, e.b.y] [[89], []]) : Bytes) = [71, 48, 49, 88] ++ flat [e.b.x, e.b.y] [[89], []] from rfl, scan_flat pXY rfl (pt_num hb)]
  simp only
  obtain ⟨k, a, b, c⟩ := e
  have hc0 := h1 hk1
  simp only at hk1 hc0
  rw [hk1, hc0]
 ·have ea : Pl.arcT e = Pl.pnt 73 (Pl.sub e.c e.a) 74 := by unfold Pl.arcT; rw [if_neg (by omega)]
  have ef : [71, 48, 51] ++ Pl.pnt 88 e.b 89 ++ Pl.pnt 73 (Pl.sub e.c e.a) 74 = [71, 48, 51, 88] ++ flat [e.b.x, e.b.y, e.c.x - e.a.x, e.c.y - e.a.y] [[89], [73], [74], []] := by
   simp [Pl.pnt, flat, Pl.sub]
  rw [show Pl.gOf e.k = [71, 48, 51] by rw [hk2]; rfl, ea, List.append_assoc, hm 49 51 _ _ (by decide)]
  simp only
  rw [← List.append_assoc, ef, scan_flat pXYIJ rfl hd]; simp only
  obtain ⟨k, a, b, c⟩ := e
  simp only at hk2
  rw [hk2]; simp only [Option.some.injEq, Pl.Ed.mk.injEq, true_and]
  obtain ⟨cx, cy⟩ := c
  simp only [Pl.Pt.mk.injEq]
  exact ⟨by omega, by omega⟩
 ·have ea : Pl.arcT e = Pl.pnt 73 (Pl.sub e.c e.a) 74 := by unfold Pl.arcT; rw [if_neg (by omega)]
  have ef : [71, 48, 50] ++ Pl.pnt 88 e.b 89 ++ Pl.pnt 73 (Pl.sub e.c e.a) 74 = [71, 48, 50, 88] ++ flat [e.b.x, e.b.y, e.c.x - e.a.x, e.c.y - e.a.y] [[89], [73], [74], []] := by
   simp [Pl.pnt, flat, Pl.sub]
  rw [show Pl.gOf e.k = [71, 48, 50] by rw [hk3]; rfl, ea, List.append_assoc, hm 49 50 _ _ (by decide), hm 51 50 _ _ (by decide)]
  simp only
  rw [← List.append_assoc, ef, scan_flat pXYIJ rfl hd]; simp only
  obtain ⟨k, a, b, c⟩ := e
  simp only at hk3
  rw [hk3]; simp only [Option.some.injEq, Pl.Ed.mk.injEq, true_and]
  obtain ⟨cx, cy⟩ := c
  simp only [Pl.Pt.mk.injEq]
  exact ⟨by omega, by omega⟩
theorem routed_edge {st : St} {e : Pl.Ed} (h : Pl.chkE e = 0) (ha : e.a = st.at_) : routed st (edgeL e) = .inl { st with es := st.es ++ [e], at_ := e.b } := by
 unfold routed
 rw [if_neg (by unfold edgeL kM16 Pl.gOf; split <;> simp <;> split <;> simp), ← ha, edge_of h]
 simp only
 rw [if_pos h]
/-! ### Holes -/
def pathL (s : Pl.Sh) : List Bytes := match s.es with
 | [] => []
 | e :: l => if l = [] ∧ e.k = 1 ∧ e.a = e.b then [Pl.pnt 88 e.a 89] else ([71, 48, 48] ++ Pl.pnt 88 e.a 89) :: kM15 :: (e :: l).map edgeL ++ [kM16]
theorem pathT_eq (s : Pl.Sh) : pathT s = (pathL s).flatMap ln := by
 unfold pathT pathL
 cases s.es with
 | nil => rfl
 | cons e l =>
  simp only
  split
  ·simp
  ·have h : ∀ l : List Pl.Ed, l.flatMap edgeLn = (l.map edgeL).flatMap ln := fun l => by rw [List.flatMap_map]; rfl
   rw [h]; simp
def selL (rs : List Int) (r : Int) : Bytes := [84] ++ Lib.itoa ((rs.idxOf r : Int) + 1)
def holeL (rs : List Int) (p : Option Ho) (h : Ho) : List Bytes :=
 (match p with | none => [spanL h] | some q => if sameSpan h q then [] else [spanL h]) ++ (match p with | none => [selL rs h.s.r] | some q => if h.s.r = q.s.r then [] else [selL rs h.s.r]) ++ pathL h.s
theorem holeT_eq (rs : List Int) (p : Option Ho) (h : Ho) : holeT rs p h = (holeL rs p h).flatMap ln := by
 unfold holeT holeL; rw [List.flatMap_append, List.flatMap_append, ← pathT_eq]
 congr 1
 congr 1
 ·cases p with
  | none => simp [spanLn_eq]
  | some q => simp only; split <;> simp [spanLn_eq]
 ·cases p with
  | none => simp [selLn, selL]
  | some q => simp only; split <;> simp [selLn, selL]
def holesL (rs : List Int) : Option Ho → List Ho → List Bytes
 | _, [] => []
 | p, h :: l => holeL rs p h ++ holesL rs (some h) l
theorem holesT_eq (rs : List Int) : ∀ (p : Option Ho) (l : List Ho), holesT rs p l = (holesL rs p l).flatMap ln
 | _, [] => rfl
 | p, h :: l => by rw [holesT, holesL, List.flatMap_append, holeT_eq, holesT_eq rs (some h) l]
theorem put_ok {st : St} {es : List Pl.Ed} {r : Int} (hs : st.sel = 2 * r) (hc : Pl.chk ⟨1, es, r⟩ = 0) : put st es = .inl { st with out := st.out ++ [⟨⟨1, es, r⟩, st.f, st.t, st.pl⟩] } := by
 have e : st.sel / 2 = r := by rw [hs]; omega
 unfold put; rw [e, if_pos hc]
theorem runs_edges : ∀ (l : List Pl.Ed) (st : St) (R : List Bytes), st.ph = 5 → (∀ e ∈ l, Pl.chkE e = 0) → Pl.chain l = true → (∀ e, l.head? = some e → e.a = st.at_) → ∃ p, runs st (l.map edgeL ++ R) = runs { st with es := st.es ++ l, at_ := p } R
 | [], st, R, _, _, _, _ => ⟨st.at_, by simp⟩
 | e :: l, st, R, hp, hc, hch, ha => by
  have hs : step st (edgeL e) = .inl { st with es := st.es ++ [e], at_ := e.b } := by
   unfold step; rw [if_neg (by omega), if_neg (by omega), if_neg (by omega), if_neg (by omega), if_neg (by omega), if_pos hp]
   exact routed_edge (hc e (by simp)) (ha e rfl)
  rw [List.map_cons, List.cons_append, runs, hs]; simp only
  obtain ⟨p, h⟩ := runs_edges l { st with es := st.es ++ [e], at_ := e.b } R hp (fun x hx => hc x (by simp [hx])) (by
   cases l with
   | nil => rfl
   | cons f l => simp [Pl.chain] at hch; exact hch.2) (fun f hf => by
   cases l with
   | nil => cases hf
   | cons g l => simp at hf; subst hf; simp [Pl.chain] at hch; exact hch.1.symm)
  exact ⟨p, by rw [h]; simp⟩
structure Inv (rs : List Int) (p : Option Ho) (st : St) : Prop where
 ph : st.ph = 3
 es : st.es = []
 tools : ∀ r ∈ rs, find st.tools ((rs.idxOf r : Int) + 1) = some (2 * r)
 prev : ∀ q, p = some q → st.sel = 2 * q.s.r ∧ st.f = q.f ∧ st.t = q.t ∧ st.pl = q.pl
theorem step_body {st : St} {x : Bytes} (h : st.ph = 3) : step st x = body st x := by
 unfold step; rw [if_neg (by omega), if_neg (by omega), if_neg (by omega), if_pos h]
theorem chkH_parts {h : Ho} (hc : chkH h = 0) : Pl.chk h.s = 0 ∧ h.s.k = 1 ∧ h.s.r ≠ 0 ∧ spanR h.f h.t = true := by
 unfold chkH at hc
 split at hc
 ·rename_i h1; exact absurd hc h1
 rename_i h1
 split at hc
 ·cases hc
 rename_i h2
 split at hc
 ·cases hc
 rename_i h3
 refine ⟨by simpa using h1, ?_, ?_, by simpa using h3⟩
 ·simp only [not_or] at h2; simpa using h2.1
 ·simp only [not_or] at h2; exact h2.2
theorem chk_facts {s : Pl.Sh} (h : Pl.chk s = 0) (_hk : s.k = 1) : s.es ≠ [] ∧ (∀ e ∈ s.es, Pl.chkE e = 0) ∧ Pl.chain s.es = true ∧ 0 ≤ s.r ∧ s.r ≤ 4194304 := by
 unfold Pl.chk at h
 split at h
 ·cases h
 rename_i h1
 split at h
 ·cases h
 split at h
 ·rename_i h3; exact absurd h h3
 rename_i h3
 split at h
 ·cases h
 rename_i h4
 split at h
 ·cases h
 rename_i h5
 refine ⟨fun e => h1 (.inr (.inl (by rw [e]; rfl))), Pl.firstErr_zero.1 (by simpa using h3), ?_, by omega, by omega⟩
 cases hch : Pl.chain s.es with
 | true => rfl
 | false => exact absurd (.inl hch) h4
theorem runs_path {st : St} {s : Pl.Sh} {R : List Bytes} (h3 : st.ph = 3) (he : st.es = []) (hs : st.sel = 2 * s.r) (hf : 0 < st.f) (hc : Pl.chk s = 0) (hk : s.k = 1) (hr : s.r ≠ 0) :
  ∃ p, runs st (pathL s ++ R) = runs { st with at_ := p, out := st.out ++ [⟨s, st.f, st.t, st.pl⟩] } R := by
 obtain ⟨hne, hce, hch, hr0, hr1⟩ := chk_facts hc hk
 have hrd : ready st = 0 := by unfold ready; rw [if_neg (by omega), if_neg (by omega)]
 obtain ⟨k, es, r⟩ := s
 have hk : k = 1 := hk
 subst hk; have hs : st.sel = 2 * r := hs
 cases es with
 | nil => exact absurd rfl hne
 | cons e l =>
  have hee := hce e (by simp)
  obtain ⟨_, ⟨hao, _, _⟩, hl1⟩ := chkE_parts hee
  unfold pathL
  simp only
  split
  ·rename_i hfl
   obtain ⟨rfl, hk1, hab⟩ := hfl
   have hput : put st [⟨1, e.a, e.a, ⟨0, 0⟩⟩] = .inl { st with out := st.out ++ [⟨⟨1, [e], r⟩, st.f, st.t, st.pl⟩] } := by
    have e' : (⟨1, e.a, e.a, ⟨0, 0⟩⟩ : Pl.Ed) = e := by
     obtain ⟨k, a, b, c⟩ := e
     simp only at hk1 hab hl1
     rw [← hab, hl1 hk1, hk1]
    rw [e']; exact put_ok hs hc
   exact ⟨st.at_, by rw [List.cons_append, List.nil_append, runs, step_body h3, body_pt hrd hao, hput]⟩
  ·show ∃ p, runs st (([71, 48, 48] ++ Pl.pnt 88 e.a 89) :: kM15 :: ((e :: l).map edgeL ++ [kM16] ++ R)) = _
   rw [runs, step_body h3, body_g0 hrd hao]; simp only
   rw [runs, show step { st with ph := 4, at_ := e.a } kM15 = .inl { st with ph := 5, at_ := e.a } by
    unfold step; rw [if_neg (by decide : ¬ (4 = 0)), if_neg (by decide : ¬ (4 = 1)), if_neg (by decide : ¬ (4 = 2)), if_neg (by decide : ¬ (4 = 3)), if_pos rfl, if_pos rfl]]
   simp only
   rw [List.append_assoc]; obtain ⟨p, hp⟩ := runs_edges (e :: l) { st with ph := 5, at_ := e.a } ([kM16] ++ R) rfl hce hch (fun x hx => by simp at hx; subst hx; rfl)
   refine ⟨p, ?_⟩
   rw [hp]
   show runs _ (kM16 :: R) = _
   have hst : step { st with ph := 5, es := st.es ++ (e :: l), at_ := p } kM16 = .inl { st with at_ := p, out := st.out ++ [⟨⟨1, e :: l, r⟩, st.f, st.t, st.pl⟩] } := by
    unfold step routed; rw [if_neg (by decide : ¬ (5 = 0)), if_neg (by decide : ¬ (5 = 1)), if_neg (by decide : ¬ (5 = 2)), if_neg (by decide : ¬ (5 = 3)), if_neg (by decide : ¬ (5 = 4)), if_pos rfl, if_pos rfl]
    have hp2 := put_ok (st := { st with ph := 5, es := e :: l, at_ := p }) (es := e :: l) (r := r) hs hc
    rw [he, List.nil_append]; simp only at hp2 ⊢
    rw [hp2]; simp [h3]
   rw [runs.eq_def]; simp only
   rw [hst]
end Go.Proofs.YtljjbdbgedmadaaGreatDoor.Dl
namespace Go.Proofs.YtljjbdbgedmadaaGreatDoor.Dl
open Go Go.Proofs.YtljjbdbgedmadaaGreatDoor
open Go.RowKit
theorem idx_num {rs : List Int} {r : Int} (hl : rs.length ≤ 990) : NumB ((rs.idxOf r : Int) + 1) := by
 have : rs.idxOf r ≤ rs.length := List.idxOf_le_length
 unfold NumB; omega
def spanPart (h : Ho) (p : Option Ho) : List Bytes := match p with | none => [spanL h] | some q => if sameSpan h q then [] else [spanL h]
def selPart (rs : List Int) (r : Int) (p : Option Ho) : List Bytes := match p with | none => [selL rs r] | some q => if r = q.s.r then [] else [selL rs r]
theorem holeL_parts (rs : List Int) (p : Option Ho) (h : Ho) : holeL rs p h = spanPart h p ++ selPart rs h.s.r p ++ pathL h.s := rfl
def St.span (st : St) (h : Ho) : St := { st with f := h.f, t := h.t, pl := h.pl }
theorem runs_span {rs : List Int} {p : Option Ho} {st : St} {h : Ho} (hi : Inv rs p st) (c4 : spanR h.f h.t = true) (X : List Bytes) : runs st (spanPart h p ++ X) = runs (st.span h) X := by
 have hw : runs st ([spanL h] ++ X) = runs (st.span h) X := by
  rw [List.cons_append, List.nil_append, runs, step_body hi.ph, body_span h c4]; rfl
 unfold spanPart
 cases p with
 | none => exact hw
 | some q =>
  simp only
  split
  ·rename_i hs
   obtain ⟨_, e2, e3, e4⟩ := hi.prev q rfl
   unfold sameSpan at hs
   simp only [Bool.and_eq_true, decide_eq_true_eq, beq_iff_eq] at hs
   obtain ⟨⟨g1, g2⟩, g3⟩ := hs
   have : st.span h = st := by
    obtain ⟨ph, tools, sel, f, t, pl, at_, es, out⟩ := st
    simp only at e2 e3 e4
    unfold St.span; rw [g1, g2, g3, ← e2, ← e3, ← e4]
   rw [this, List.nil_append]
  ·exact hw
def St.pick (st : St) (r : Int) : St := { st with sel := 2 * r }
theorem runs_sel {rs : List Int} {p : Option Ho} {st : St} {h : Ho} (h3 : st.ph = 3) (ht : find st.tools ((rs.idxOf h.s.r : Int) + 1) = some (2 * h.s.r)) (hp : ∀ q, p = some q → st.sel = 2 * q.s.r) (hl : rs.length ≤ 990) (X : List Bytes) : runs st (selPart rs h.s.r p ++ X) = runs (st.pick h.s.r) X := by
 have hw : runs st ([selL rs h.s.r] ++ X) = runs (st.pick h.s.r) X := by
  rw [List.cons_append, List.nil_append, runs, step_body h3, selL, body_sel (idx_num hl) ht]; rfl
 unfold selPart
 cases p with
 | none => exact hw
 | some q =>
  simp only
  split
  ·rename_i hs
   have e1 := hp q rfl
   rw [List.nil_append]
   have : st.pick h.s.r = st := by
    obtain ⟨ph, tools, sel, f, t, pl, at_, es, out⟩ := st
    simp only at e1
    unfold St.pick; rw [hs, ← e1]
   rw [this]
  ·exact hw
theorem runs_hole {rs : List Int} {p : Option Ho} {st : St} {h : Ho} {R : List Bytes} (hi : Inv rs p st) (hc : chkH h = 0) (hm : h.s.r ∈ rs) (hl : rs.length ≤ 990) : ∃ u, runs st (holeL rs p h ++ R) = runs u R ∧ Inv rs (some h) u ∧ u.out = st.out ++ [h] := by
 obtain ⟨c1, c2, c3, c4⟩ := chkH_parts hc
 have hb := spanR_iff.1 c4
 obtain ⟨pt, h3⟩ := runs_path (st := (st.span h).pick h.s.r) (s := h.s) (R := R) hi.ph hi.es rfl (show 0 < h.f by omega) c1 c2 c3
 refine ⟨{ (st.span h).pick h.s.r with at_ := pt, out := st.out ++ [h] }, ?_, ⟨hi.ph, hi.es, hi.tools, fun q hq => by injection hq with hq; subst hq; exact ⟨rfl, rfl, rfl, rfl⟩⟩, rfl⟩
 have h4 : runs st (holeL rs p h ++ R) = runs ((st.span h).pick h.s.r) (pathL h.s ++ R) := by
  rw [holeL_parts, List.append_assoc, List.append_assoc, runs_span hi c4, runs_sel (st := st.span h) hi.ph (hi.tools _ hm) (fun q hq => (hi.prev q hq).1) hl]
 exact h4.trans h3
theorem runs_holes {rs : List Int} (hl : rs.length ≤ 990) : ∀ (l : List Ho) (p : Option Ho) (st : St) (R : List Bytes), Inv rs p st → (∀ h ∈ l, chkH h = 0 ∧ h.s.r ∈ rs) → ∃ u, runs st (holesL rs p l ++ R) = runs u R ∧ u.ph = 3 ∧ u.out = st.out ++ l
 | [], p, st, R, hi, _ => ⟨st, rfl, hi.ph, by simp⟩
 | h :: l, p, st, R, hi, hc => by
  obtain ⟨u, e1, hu, e2⟩ := runs_hole (R := holesL rs (some h) l ++ R) hi (hc h (by simp)).1 (hc h (by simp)).2 hl
  obtain ⟨v, f1, f2, f3⟩ := runs_holes hl l (some h) u R hu (fun x hx => hc x (by simp [hx]))
  exact ⟨v, by rw [holesL, List.append_assoc, e1, f1], f2, by rw [f3, e2]; simp⟩
/-! ### Tools -/
def toolL (k : Nat) (r : Int) : Bytes := [84] ++ flat [(k : Int) + 1, 2 * r] [[67], []]
theorem toolLn_eq (k : Nat) (r : Int) : toolLn k r = ln (toolL k r) := by simp [toolLn, toolL, flat]
def toolsL (rs : List Int) (k : Nat) : List Bytes := (List.range k).map fun (i : Nat) => toolL i (rs.getD i 0)
theorem toolsTo_eq (rs : List Int) : ∀ k, toolsTo rs k = (toolsL rs k).flatMap ln
 | 0 => rfl
 | k + 1 => by rw [toolsTo, toolsTo_eq rs k, toolsL, toolsL, List.range_succ, List.map_append, List.flatMap_append, toolLn_eq]; simp
def toolT (rs : List Int) (k : Nat) : List (Int × Int) := (List.range k).map fun (i : Nat) => ((i : Int) + 1, 2 * rs.getD i 0)
theorem find_none {rs : List Int} {k : Nat} {n : Int} (h : (k : Int) < n) : find (toolT rs k) n = none := by
 unfold find toolT; rw [Option.map_eq_none_iff, List.find?_eq_none]; intro x hx
 obtain ⟨i, hi, rfl⟩ := List.mem_map.1 hx
 have := List.mem_range.1 hi
 simp; omega
theorem find_some {rs : List Int} {k i : Nat} (h : i < k) : find (toolT rs k) ((i : Int) + 1) = some (2 * rs.getD i 0) := by
 unfold find toolT; rw [Option.map_eq_some_iff]
 refine ⟨((i : Int) + 1, 2 * rs.getD i 0), ?_, rfl⟩
 rw [List.find?_eq_some_iff_append]; refine ⟨by simp, (List.range i).map (fun (i : Nat) => ((i : Int) + 1, 2 * rs.getD i 0)), ((List.range' (i + 1) (k - i - 1)).map fun (i : Nat) => ((i : Int) + 1, 2 * rs.getD i 0)), ?_, ?_⟩
 ·rw [show (List.range k) = List.range i ++ (i :: List.range' (i + 1) (k - i - 1)) by
   rw [List.range_eq_range', List.range_eq_range', ← List.range'_succ, show k - i - 1 + 1 = k - i by omega]; have := List.range'_append (s := 0) (m := i) (n := k - i) (step := 1)
   rw [Nat.zero_add, Nat.one_mul] at this; rw [this, show i + (k - i) = k by omega]]
  simp
 ·intro x hx; obtain ⟨j, hj, rfl⟩ := List.mem_map.1 hx
  have := List.mem_range.1 hj
  simp; omega
theorem tool_num {k : Nat} {r : Int} (hk : k < 990) (hr : 1 ≤ r ∧ r ≤ 4194304) : ∀ n ∈ [(k : Int) + 1, 2 * r], NumB n := by
 intro n hn; unfold NumB
 rcases List.mem_cons.1 hn with h | h
 ·omega
 ·have := List.mem_singleton.1 h
  omega
theorem runs_tools {rs : List Int} (hl : rs.length ≤ 990) (hr : ∀ r ∈ rs, 1 ≤ r ∧ r ≤ 4194304) (st : St) (h2 : st.ph = 2) (h0 : st.tools = []) (R : List Bytes) : ∀ k, k ≤ rs.length → runs st (toolsL rs k ++ R) = runs { st with tools := toolT rs k } R := by
 have : ∀ k, k ≤ rs.length → ∀ X, runs st (toolsL rs k ++ X) = runs { st with tools := toolT rs k } X := by
  intro k
  induction k with
  | zero =>
   intro _ X; have : ({ st with tools := toolT rs 0 } : St) = st := by obtain ⟨ph, tools, sel, f, t, pl, at_, es, out⟩ := st; simp only at h0; subst h0; simp [toolT]
   rw [this]; rfl
  | succ k ih =>
   intro hk X; have hm : rs.getD k 0 ∈ rs := by rw [List.getD_eq_getElem?_getD, List.getElem?_eq_getElem (by omega)]; exact List.getElem_mem _
   have hb := hr _ hm
   rw [toolsL, List.range_succ, List.map_append, List.append_assoc]; have := ih (by omega) ([toolL k (rs.getD k 0)] ++ X)
   rw [toolsL] at this; rw [show List.map (fun i => toolL i (rs.getD i 0)) [k] = [toolL k (rs.getD k 0)] from rfl, this, List.cons_append, List.nil_append, runs]
   have hs : step { st with tools := toolT rs k } (toolL k (rs.getD k 0)) = .inl { st with tools := toolT rs (k + 1) } := by
    unfold step
    rw [if_neg (by show ¬ st.ph = 0; omega), if_neg (by show ¬ st.ph = 1; omega), if_pos (show st.ph = 2 from h2)]
    unfold head
    rw [if_neg (by unfold toolL kPc; simp), show toolL k (rs.getD k 0) = [84] ++ flat [(k : Int) + 1, 2 * rs.getD k 0] [[67], []] from rfl, scan_flat pC rfl (tool_num (by omega) hb)]
    simp only
    rw [if_neg (by omega), show find (toolT rs k) ((k : Int) + 1) = none from find_none (by omega), if_neg (by simp)]
    congr 2
    unfold toolT
    rw [List.range_succ, List.map_append]; rfl
   rw [hs]
 exact fun k hk => this k hk R
theorem mem_ins {x r : Int} : ∀ {l : List Int}, x ∈ Pl.ins r l ↔ x = r ∨ x ∈ l
 | [] => by simp [Pl.ins]
 | y :: l => by
  unfold Pl.ins
  split
  ·rw [List.mem_cons, mem_ins, List.mem_cons]
   constructor
   ·rintro (h | h | h) <;> simp [h]
   ·rintro (h | h | h) <;> simp [h]
  ·split
   ·rename_i h; simp [h]
   ·simp
theorem mem_radii {l : List Ho} {x : Int} : x ∈ radii l ↔ ∃ h ∈ l, h.s.r = x := by
 have go : ∀ (m : List Int) (acc : List Int), x ∈ m.foldl (fun rs r => Pl.ins r rs) acc ↔ x ∈ acc ∨ x ∈ m := by
  intro m
  induction m with
  | nil => intro acc; simp
  | cons y m ih =>
   intro acc; rw [List.foldl_cons, ih, mem_ins, List.mem_cons]
   constructor
   ·rintro ((h | h) | h) <;> simp [h]
   ·rintro (h | h | h) <;> simp [h]
 unfold radii; rw [go]
 simp
theorem firstBad_zero : ∀ {l : List Ho}, firstBad l = 0 → ∀ h ∈ l, chkH h = 0
 | [], _, h, hm => by cases hm
 | x :: l, hb, h, hm => by
  rw [firstBad] at hb
  split at hb
  ·rename_i hx
   rcases List.mem_cons.1 hm with rfl | hm
   ·exact hx
   ·exact firstBad_zero hb h hm
  ·rename_i hx; exact absurd hb hx
def linesOf (l : List Ho) : List Bytes := [kM48, kEt] ++ toolsL (radii l) (radii l).length ++ [kPc] ++ holesL (radii l) none l ++ [kM30]
theorem file_lines (l : List Ho) : fileT l = (linesOf l).flatMap ln := by
 unfold fileT linesOf; rw [toolsTo_eq, holesT_eq]
 simp
theorem pieces_lines : ∀ (L : List Bytes), (∀ x ∈ L, 10 ∉ x) → Ru.pieces 10 (L.flatMap ln) = L ++ [[]]
 | [], _ => rfl
 | x :: L, h => by
  rw [List.flatMap_cons, ln, List.append_assoc, List.cons_append, List.nil_append, Ru.pieces_app 10 _ _ (h x (by simp)), pieces_lines L (fun y hy => h y (by simp [hy]))]
  rfl
/-! ### The whole file -/
theorem itoa_no (n : Int) : (10 : UInt8) ∉ Lib.itoa n := fun h => by have := itoa_num n _ h; revert this; decide
theorem flat_no : ∀ (ns : List Int) {ps : List Bytes}, (∀ p ∈ ps, (10 : UInt8) ∉ p) → (10 : UInt8) ∉ flat ns ps
 | [], [], _ => by simp [flat]
 | [], _ :: _, _ => by simp [flat]
 | _ :: _, [], _ => by simp [flat]
 | n :: ns, p :: ps, h => by
  rw [flat, List.mem_append, List.mem_append]
  rintro (g | g | g)
  ·exact itoa_no n g
  ·exact h p (by simp) g
  ·exact flat_no ns (fun q hq => h q (by simp [hq])) g
theorem app_no {a b : Bytes} (ha : (10 : UInt8) ∉ a) (hb : (10 : UInt8) ∉ b) : (10 : UInt8) ∉ a ++ b := fun h => (List.mem_append.1 h).elim ha hb
theorem tool_no (k : Nat) (r : Int) : (10 : UInt8) ∉ toolL k r := app_no (by decide) (flat_no _ (by decide))
theorem spanL_no (h : Ho) : (10 : UInt8) ∉ spanL h := app_no (by decide) (flat_no _ (by cases h.pl <;> decide))
theorem selL_no (rs : List Int) (r : Int) : (10 : UInt8) ∉ selL rs r := app_no (by decide) (itoa_no _)
theorem pnt_no {c d : UInt8} (hc : c ≠ 10) (hd : d ≠ 10) (p : Pl.Pt) : (10 : UInt8) ∉ Pl.pnt c p d := by
 unfold Pl.pnt; intro h
 rcases List.mem_cons.1 h with h | h
 ·exact hc h.symm
 ·rcases List.mem_append.1 h with h | h
  ·exact itoa_no _ h
  ·rcases List.mem_cons.1 h with h | h
   ·exact hd h.symm
   ·exact itoa_no _ h
theorem edge_no (e : Pl.Ed) : (10 : UInt8) ∉ edgeL e := by
 unfold edgeL Pl.gOf Pl.arcT
 refine app_no (app_no ?_ (pnt_no (by decide) (by decide) _)) ?_
 ·split
  ·decide
  ·split <;> decide
 ·split
  ·simp
  ·exact pnt_no (by decide) (by decide) _
theorem path_no (s : Pl.Sh) : ∀ x ∈ pathL s, (10 : UInt8) ∉ x := by
 unfold pathL
 split
 ·intro x hx; cases hx
 ·split
  ·intro x hx; rw [List.mem_singleton.1 hx]; exact pnt_no (by decide) (by decide) _
  ·intro x hx
   rcases List.mem_append.1 hx with hx | hx
   ·rcases List.mem_cons.1 hx with rfl | hx
    ·exact app_no (by decide) (pnt_no (by decide) (by decide) _)
    ·rcases List.mem_cons.1 hx with rfl | hx
     ·decide
     ·obtain ⟨e, _, rfl⟩ := List.mem_map.1 hx; exact edge_no e
   ·rw [List.mem_singleton.1 hx]; decide
theorem hole_no (rs : List Int) (p : Option Ho) (h : Ho) : ∀ x ∈ holeL rs p h, (10 : UInt8) ∉ x := by
 rw [holeL_parts]; intro x hx
 rcases List.mem_append.1 hx with hx | hx
 ·rcases List.mem_append.1 hx with hx | hx
  ·unfold spanPart at hx
   split at hx
   ·rw [List.mem_singleton.1 hx]; exact spanL_no h
   ·split at hx
    ·cases hx
    ·rw [List.mem_singleton.1 hx]; exact spanL_no h
  ·unfold selPart at hx
   split at hx
   ·rw [List.mem_singleton.1 hx]; exact selL_no _ _
   ·split at hx
    ·cases hx
    ·rw [List.mem_singleton.1 hx]; exact selL_no _ _
 ·exact path_no _ x hx
theorem holes_no (rs : List Int) : ∀ (p : Option Ho) (l : List Ho), ∀ x ∈ holesL rs p l, (10 : UInt8) ∉ x
 | _, [], x, hx => by cases hx
 | p, h :: l, x, hx => by
  rw [holesL] at hx; exact (List.mem_append.1 hx).elim (hole_no rs p h x) (holes_no rs (some h) l x)
theorem lines_no (l : List Ho) : ∀ x ∈ linesOf l, (10 : UInt8) ∉ x := by
 intro x hx; unfold linesOf at hx
 rcases List.mem_append.1 hx with hx | hx
 ·rcases List.mem_append.1 hx with hx | hx
  ·rcases List.mem_append.1 hx with hx | hx
   ·rcases List.mem_append.1 hx with hx | hx
    ·rcases List.mem_cons.1 hx with rfl | hx
     ·decide
     ·rw [List.mem_singleton.1 hx]; decide
    ·obtain ⟨i, _, rfl⟩ := List.mem_map.1 hx; exact tool_no _ _
   ·rw [List.mem_singleton.1 hx]; decide
  ·exact holes_no _ _ _ x hx
 ·rw [List.mem_singleton.1 hx]; decide
theorem runs_lines {l : List Ho} (hb : firstBad l = 0) (hl : (radii l).length ≤ 990) : ∃ u, runs .start (linesOf l) = .inl u ∧ u.ph = 6 ∧ u.out = l := by
 have hc := firstBad_zero hb
 have hr : ∀ r ∈ radii l, 1 ≤ r ∧ r ≤ 4194304 := fun r hr => by
  obtain ⟨h, hm, rfl⟩ := mem_radii.1 hr
  obtain ⟨c1, c2, c3, _⟩ := chkH_parts (hc h hm)
  obtain ⟨_, _, _, h0, h1⟩ := chk_facts c1 c2
  omega
 have e0 : linesOf l = kM48 :: kEt :: (toolsL (radii l) (radii l).length ++ (kPc :: (holesL (radii l) none l ++ [kM30]))) := by simp [linesOf]
 rw [e0, runs, show step .start kM48 = .inl { St.start with ph := 1 } from rfl]; simp only
 rw [runs, show step { St.start with ph := 1 } kEt = .inl { St.start with ph := 2 } from rfl]; simp only
 rw [runs_tools hl hr _ rfl rfl _ _ (Nat.le_refl _), runs]; rw [show step { ({ St.start with ph := 2 } : St) with tools := toolT (radii l) (radii l).length } kPc = .inl { St.start with ph := 3, tools := toolT (radii l) (radii l).length } from rfl]; simp only
 have hi : Inv (radii l) none { St.start with ph := 3, tools := toolT (radii l) (radii l).length } := ⟨rfl, rfl, fun r hr => by
  have hlt := List.idxOf_lt_length_of_mem hr
  show find (toolT (radii l) (radii l).length) _ = _
  rw [find_some hlt, List.getD_eq_getElem?_getD, List.getElem?_eq_getElem hlt, List.getElem_idxOf hlt]; rfl, fun q hq => by cases hq⟩
 obtain ⟨u, e1, e2, e3⟩ := runs_holes hl l none _ [kM30] hi (fun h hm => ⟨hc h hm, mem_radii.2 ⟨h, hm, rfl⟩⟩)
 refine ⟨{ u with ph := 6 }, ?_, rfl, e3⟩
 rw [e1, runs, step_body e2, show body u kM30 = .inl { u with ph := 6 } by unfold body; rw [if_pos rfl]]
 rfl
theorem file_read {l : List Ho} (hb : firstBad l = 0) (hl : (radii l).length ≤ 990) (h6 : (fileT l).length ≤ 262144) : read (fileT l) = (l, 0, 0) := by
 obtain ⟨u, e1, e2, e3⟩ := runs_lines hb hl
 unfold read; rw [if_neg (by omega), file_lines, pieces_lines _ (lines_no l), readL_runs _ 1 _ u e1 e2, e3]
theorem back {l : List Ho} (h : (write l).2 = 0) : read (write l).1 = (l, 0, 0) := by
 unfold write at h ⊢
 split at h
 ·rename_i h0; exact absurd h h0
 ·rename_i h0
  split at h
  ·cases h
  ·rename_i h1
   split at h
   ·cases h
   ·rename_i h2
    rw [if_neg h0, if_neg h1, if_neg h2]; exact file_read (by simpa using h0) (by omega) (by omega)
end Go.Proofs.YtljjbdbgedmadaaGreatDoor.Dl
namespace Go.Proofs.YtljjbdbgedmadaaGreatDoor.Dl
open Go Go.Proofs.YtljjbdbgedmadaaGreatDoor
open Go.RowKit
end Go.Proofs.YtljjbdbgedmadaaGreatDoor.Dl
namespace Go.Proofs.YtljjbdbgedmadaaGreatDoor.Dl
open Go Go.Proofs.YtljjbdbgedmadaaGreatDoor
open Go.RowKit
theorem scanR_some : ∀ {ps : List Bytes} {l : Bytes} {ns : List Int}, scanR ps l = some ns → ns.length = ps.length ∧ ∀ n ∈ ns, NumB n
 | [], l, ns, h => by
  rw [scanR] at h
  split at h
  ·injection h with h; subst h; simp
  ·cases h
 | p :: ps, l, ns, h => by
  rw [scanR] at h
  split at h
  ·rename_i n r hn hr
   obtain ⟨ms, hm, rfl⟩ := Option.map_eq_some_iff.1 h
   obtain ⟨e, hb⟩ := scanR_some hm
   refine ⟨by simp [e], fun k hk => ?_⟩
   rcases List.mem_cons.1 hk with rfl | hk
   ·exact (canon_some.1 hn).2
   ·exact hb k hk
  ·cases h
theorem scan_some {p : Bytes} {ps : List Bytes} {l : Bytes} {ns : List Int} (h : scan p ps l = some ns) : ns.length = ps.length ∧ ∀ n ∈ ns, NumB n := by
 unfold scan at h
 obtain ⟨r, _, h⟩ := Option.bind_eq_some_iff.1 h
 exact scanR_some h
structure Ok (st : St) : Prop where
 ph : st.ph ≤ 6
 tools : ∀ p ∈ st.tools, (1 ≤ p.1 ∧ p.1 ≤ 990) ∧ 2 ≤ p.2 ∧ p.2 ≤ 8388608
 keys : (st.tools.map (·.1)).Nodup
 sel : 0 ≤ st.sel ∧ st.sel ≤ 8388608
 f : 0 ≤ st.f ∧ st.f ≤ 4
 t : 0 ≤ st.t ∧ st.t ≤ 4
 at_ : NumB st.at_.x ∧ NumB st.at_.y
theorem start_ok : Ok .start := ⟨by decide, by simp [St.start], by simp [St.start], by decide, by decide, by decide, by constructor <;> (unfold NumB; decide)⟩
theorem find_mem {ts : List (Int × Int)} {n d : Int} (h : find ts n = some d) : (n, d) ∈ ts := by
 unfold find at h
 obtain ⟨p, hp, rfl⟩ := Option.map_eq_some_iff.1 h
 have h1 := List.find?_some hp
 have h2 := List.mem_of_find?_eq_some hp
 simp only [beq_iff_eq] at h1
 rw [← h1]; exact h2
theorem find_key {ts : List (Int × Int)} {n : Int} (h : find ts n = none) : n ∉ ts.map (·.1) := by
 unfold find at h; rw [Option.map_eq_none_iff, List.find?_eq_none] at h; intro hm
 obtain ⟨p, hp, rfl⟩ := List.mem_map.1 hm
 exact h p hp (by simp)
theorem head_ok {st u : St} {s : Bytes} (h : Ok st) (e : head st s = .inl u) : Ok u := by
 unfold head at e
 split at e
 ·injection e with e; subst e; exact ⟨by show 3 ≤ 6; omega, h.tools, h.keys, h.sel, h.f, h.t, h.at_⟩
 ·split at e
  ·rename_i n d hs
   split at e
   ·cases e
   ·rename_i hr
    split at e
    ·cases e
    ·rename_i hf
     injection e with e; subst e
     refine ⟨h.ph, fun p hp => ?_, ?_, h.sel, h.f, h.t, h.at_⟩
     ·rcases List.mem_append.1 hp with hp | hp
      ·exact h.tools p hp
      ·rw [List.mem_singleton.1 hp]; simp only; omega
     ·show (List.map (·.1) (st.tools ++ [(n, d)])).Nodup
      rw [List.map_append, List.nodup_append]; refine ⟨h.keys, by simp, fun a ha b hb => ?_⟩
      have hb : b = n := by simpa using hb
      have := find_key (by simpa using hf)
      intro e; rw [e, hb] at ha; exact this ha
  ·cases e
theorem put_ok' {st u : St} {es : List Pl.Ed} (h : Ok st) (e : put st es = .inl u) : Ok u := by
 unfold put at e
 split at e
 ·injection e with e; subst e; exact ⟨h.ph, h.tools, h.keys, h.sel, h.f, h.t, h.at_⟩
 ·cases e
theorem body_ok {st u : St} {s : Bytes} (h : Ok st) (e : body st s = .inl u) : Ok u := by
 unfold body at e
 split at e
 ·injection e with e; subst e; exact ⟨by show 6 ≤ 6; omega, h.tools, h.keys, h.sel, h.f, h.t, h.at_⟩
 ·split at e
  ·split at e
   ·rename_i hs
    injection e with e; subst e
    have := spanR_iff.1 hs
    exact ⟨h.ph, h.tools, h.keys, h.sel, by constructor <;> (simp only; omega), by constructor <;> (simp only; omega), h.at_⟩
   ·cases e
  ·split at e
   ·split at e
    ·rename_i hf
     injection e with e; subst e
     have := h.tools _ (find_mem hf)
     exact ⟨h.ph, h.tools, h.keys, by constructor <;> (simp only at this ⊢; omega), h.f, h.t, h.at_⟩
    ·cases e
   ·split at e
    ·rename_i hg
     split at e
     ·injection e with e; subst e
      have := (scan_some hg).2
      exact ⟨by show 4 ≤ 6; omega, h.tools, h.keys, h.sel, h.f, h.t, this _ (by simp), this _ (by simp)⟩
     ·cases e
    ·split at e
     ·split at e
      ·exact put_ok' h e
      ·cases e
     ·cases e
theorem edge_b {p : Pl.Pt} {s : Bytes} {e : Pl.Ed} (h : edgeOf p s = some e) : NumB e.b.x ∧ NumB e.b.y := by
 unfold edgeOf at h
 split at h
 ·rename_i hg; have := (scan_some hg).2; injection h with h; subst h; exact ⟨this _ (by simp), this _ (by simp)⟩
 ·split at h
  ·rename_i hg; have := (scan_some hg).2; injection h with h; subst h; exact ⟨this _ (by simp), this _ (by simp)⟩
  ·split at h
   ·rename_i hg; have := (scan_some hg).2; injection h with h; subst h; exact ⟨this _ (by simp), this _ (by simp)⟩
   ·cases h
theorem routed_ok {st u : St} {s : Bytes} (h : Ok st) (e : routed st s = .inl u) : Ok u := by
 unfold routed at e
 split at e
 ·split at e
  ·rename_i v hv
   injection e with e; subst e
   have := put_ok' h hv
   exact ⟨by show 3 ≤ 6; omega, this.tools, this.keys, this.sel, this.f, this.t, this.at_⟩
  ·cases e
 ·split at e
  ·rename_i e' he
   split at e
   ·injection e with e; subst e
    exact ⟨h.ph, h.tools, h.keys, h.sel, h.f, h.t, edge_b he⟩
   ·cases e
  ·cases e
theorem step_ok {st u : St} {s : Bytes} (h : Ok st) (e : step st s = .inl u) : Ok u := by
 unfold step at e
 split at e
 ·split at e
  ·injection e with e; subst e; exact ⟨by show 1 ≤ 6; omega, h.tools, h.keys, h.sel, h.f, h.t, h.at_⟩
  ·cases e
 split at e
 ·split at e
  ·injection e with e; subst e; exact ⟨by show 2 ≤ 6; omega, h.tools, h.keys, h.sel, h.f, h.t, h.at_⟩
  ·cases e
 split at e
 ·exact head_ok h e
 split at e
 ·exact body_ok h e
 split at e
 ·split at e
  ·injection e with e; subst e; exact ⟨by show 5 ≤ 6; omega, h.tools, h.keys, h.sel, h.f, h.t, h.at_⟩
  ·cases e
 split at e
 ·exact routed_ok h e
 ·cases e
theorem put_err {st : St} {es : List Pl.Ed} {e : Int} (h : put st es = .inr e) : e ≠ 0 := by
 unfold put at h
 split at h
 ·cases h
 ·rename_i hn; injection h with h; subst h; exact hn
theorem step_err {st : St} {s : Bytes} {e : Int} (h : step st s = .inr e) : e ≠ 0 := by
 unfold step at h
 split at h
 ·split at h <;> cases h; decide
 split at h
 ·split at h <;> cases h; decide
 split at h
 ·unfold head at h
  split at h
  ·cases h
  ·split at h
   ·split at h
    ·injection h with h; subst h; decide
    ·split at h <;> cases h; decide
   ·injection h with h; subst h; decide
 split at h
 ·unfold body at h
  split at h
  ·cases h
  split at h
  ·split at h <;> cases h; decide
  split at h
  ·split at h <;> cases h; decide
  split at h
  ·split at h
   ·cases h
   ·rename_i hr; injection h with h; subst h; exact hr
  split at h
  ·split at h
   ·exact put_err h
   ·rename_i hr; injection h with h; subst h; exact hr
  ·injection h with h; subst h; decide
 split at h
 ·split at h <;> cases h; decide
 split at h
 ·unfold routed at h
  split at h
  ·split at h
   ·cases h
   ·rename_i e' he; injection h with h; subst h; exact put_err he
  ·split at h
   ·split at h
    ·cases h
    ·rename_i hn; injection h with h; subst h; exact hn
   ·injection h with h; subst h; decide
 ·injection h with h; subst h; decide
end Go.Proofs.YtljjbdbgedmadaaGreatDoor.Dl
namespace Go.Proofs.YtljjbdbgedmadaaGreatDoor.Dl
open Go Go.Proofs.YtljjbdbgedmadaaGreatDoor
open Go.RowKit
theorem itoa_len {n : Int} (h : NumB n) : (Lib.itoa n).length ≤ 10 := by
 unfold NumB at h
 rcases itoa_form n with ⟨hn, e⟩ | ⟨hn, e⟩
 ·have := dec_short (u := n.natAbs) (by omega)
  rw [e, List.length_cons]; omega
 ·have := dec_short (u := n.toNat) (by omega)
  rw [e]; omega
theorem ins_len (r : Int) : ∀ l : List Int, (Pl.ins r l).length ≤ l.length + 1
 | [] => by simp [Pl.ins]
 | x :: l => by
  unfold Pl.ins
  have := ins_len r l
  split
  ·rw [List.length_cons, List.length_cons]; omega
  ·split
   ·omega
   ·simp
theorem radii_len (l : List Ho) : (radii l).length ≤ l.length := by
 have go : ∀ (m acc : List Int), (m.foldl (fun rs r => Pl.ins r rs) acc).length ≤ acc.length + m.length := by
  intro m
  induction m with
  | nil => intro acc; simp
  | cons y m ih =>
   intro acc; have := ih (Pl.ins y acc)
   have h2 := ins_len y acc
   rw [List.foldl_cons, List.length_cons]; omega
 have := go (l.map (·.s.r)) []
 unfold radii
 simpa using this
theorem ln_len (l : Bytes) : (ln l).length = l.length + 1 := by simp [ln]
theorem pnt_len {c d : UInt8} {p : Pl.Pt} (h : NumB p.x ∧ NumB p.y) : (Pl.pnt c p d).length ≤ 22 := by
 have h1 := itoa_len h.1
 have h2 := itoa_len h.2
 simp only [Pl.pnt, List.length_cons, List.length_append]; omega
theorem ok_num {p : Pl.Pt} (h : p.ok) : NumB p.x ∧ NumB p.y := ⟨numB_in h.1, numB_in h.2⟩
theorem edge_len {e : Pl.Ed} (h : Pl.chkE e = 0) : (edgeLn e).length ≤ 48 := by
 obtain ⟨_, ⟨ha, hb, hc⟩, _⟩ := chkE_parts h
 have h1 : (Pl.gOf e.k).length = 3 := by unfold Pl.gOf; split; rfl; split <;> rfl
 have h2 := pnt_len (c := 88) (d := 89) (ok_num hb)
 have h3 : (Pl.arcT e).length ≤ 22 := by
  unfold Pl.arcT
  split
  ·simp
  ·refine pnt_len ?_
   obtain ⟨a1, a2⟩ := ha; obtain ⟨c1, c2⟩ := hc; unfold Pl.In at a1 a2 c1 c2; unfold NumB Pl.sub
   simp only
   omega
 unfold edgeLn
 rw [ln_len, List.length_append, List.length_append]; omega
theorem edges_len : ∀ {l : List Pl.Ed}, (∀ e ∈ l, Pl.chkE e = 0) → (l.flatMap edgeLn).length ≤ 48 * l.length
 | [], _ => by simp
 | e :: l, h => by
  have h1 := edge_len (h e (by simp))
  have h2 := edges_len (l := l) (fun x hx => h x (by simp [hx]))
  rw [List.flatMap_cons, List.length_append, List.length_cons]; omega
theorem path_len {s : Pl.Sh} (hc : Pl.chk s = 0) (hk : s.k = 1) (h40 : s.es.length ≤ 40) : (pathT s).length ≤ 1960 := by
 obtain ⟨_, hce, _, _, _⟩ := chk_facts hc hk
 unfold pathT
 split
 ·simp
 ·rename_i e l he
  rw [he] at hce h40; obtain ⟨_, ⟨ha, _, _⟩, _⟩ := chkE_parts (hce e (by simp))
  have h1 := pnt_len (c := 88) (d := 89) (ok_num ha)
  have h2 := edges_len hce
  split
  ·rw [ln_len]; omega
  ·rw [List.length_append, List.length_append, List.length_append, ln_len, ln_len, ln_len, List.length_append]; have e1 : kM15.length = 3 := rfl
   have e2 : kM16.length = 3 := rfl
   have e3 : ([71, 48, 48] : Bytes).length = 3 := rfl
   omega
theorem chk_40 {s : Pl.Sh} (hc : Pl.chk s = 0) : s.es.length ≤ 40 := by
 unfold Pl.chk at hc
 split at hc
 ·cases hc
 split at hc
 ·cases hc
 ·omega
theorem span_len {h : Ho} (hs : spanR h.f h.t = true) : (spanLn h).length ≤ 36 := by
 have hb := spanR_iff.1 hs
 have h1 := itoa_len (n := h.f) (by unfold NumB; omega)
 have h2 := itoa_len (n := h.t) (by unfold NumB; omega)
 unfold spanLn; rw [ln_len]
 simp only [List.length_append, List.length_cons, List.length_nil]
 have e1 : kSpan.length = 6 := rfl
 have e2 : (if h.pl then kPlated else kPlain).length ≤ 6 := by cases h.pl <;> decide
 omega
theorem sel_len {rs : List Int} {r : Int} (hl : rs.length ≤ 990) : (selLn rs r).length ≤ 12 := by
 have := itoa_len (idx_num (r := r) hl)
 unfold selLn; rw [ln_len]
 simp only [List.length_append, List.length_cons, List.length_nil]
 omega
theorem hole_len {rs : List Int} {p : Option Ho} {h : Ho} (hl : rs.length ≤ 990) (hc : chkH h = 0) : (holeT rs p h).length ≤ 2010 := by
 obtain ⟨c1, c2, _, c4⟩ := chkH_parts hc
 have h1 := span_len c4
 have h2 := sel_len (r := h.s.r) hl
 have h3 := path_len c1 c2 (chk_40 c1)
 unfold holeT; rw [List.length_append, List.length_append]
 refine Nat.le_trans (Nat.add_le_add (Nat.add_le_add (b := 36) (d := 12) ?_ ?_) h3) (by omega)
 ·cases p with
  | none => exact h1
  | some q =>
   simp only
   split
   ·simp
   ·exact h1
 ·cases p with
  | none => exact h2
  | some q =>
   simp only
   split
   ·simp
   ·exact h2
theorem holes_len {rs : List Int} (hl : rs.length ≤ 990) : ∀ {l : List Ho} {p : Option Ho}, (∀ h ∈ l, chkH h = 0) → (holesT rs p l).length ≤ 2010 * l.length
 | [], _, _ => by simp [holesT]
 | h :: l, p, hc => by
  have h1 := hole_len (p := p) hl (hc h (by simp))
  have h2 := holes_len hl (l := l) (p := some h) (fun x hx => hc x (by simp [hx]))
  rw [holesT, List.length_append, List.length_cons]; omega
theorem tools_len {rs : List Int} (hl : rs.length ≤ 990) (hr : ∀ r ∈ rs, 1 ≤ r ∧ r ≤ 4194304) : ∀ k, k ≤ rs.length → (toolsTo rs k).length ≤ 23 * k
 | 0, _ => by simp [toolsTo]
 | k + 1, hk => by
  have h1 := tools_len hl hr k (by omega)
  have hm : rs.getD k 0 ∈ rs := by rw [List.getD_eq_getElem?_getD, List.getElem?_eq_getElem (by omega)]; exact List.getElem_mem _
  have hb := hr _ hm
  have h2 := itoa_len (n := (k : Int) + 1) (by unfold NumB; omega)
  have h3 := itoa_len (n := 2 * rs.getD k 0) (by unfold NumB; omega)
  rw [toolsTo, List.length_append, toolLn, ln_len]; simp only [List.length_append, List.length_cons, List.length_nil]
  omega
theorem file_len {l : List Ho} (hc : ∀ h ∈ l, chkH h = 0) (hl : (radii l).length ≤ 990) : (fileT l).length ≤ 20 + 2040 * l.length := by
 have hr : ∀ r ∈ radii l, 1 ≤ r ∧ r ≤ 4194304 := fun r hr => by
  obtain ⟨h, hm, rfl⟩ := mem_radii.1 hr
  obtain ⟨c1, c2, c3, _⟩ := chkH_parts (hc h hm)
  obtain ⟨_, _, _, h0, h1⟩ := chk_facts c1 c2
  omega
 have h1 := tools_len hl hr _ (Nat.le_refl _)
 have h2 := holes_len hl (p := none) hc
 have h3 := radii_len l
 unfold fileT
 simp only [List.length_append, ln_len]
 have e1 : kM48.length = 3 := rfl
 have e2 : kEt.length = 8 := rfl
 have e3 : kPc.length = 1 := rfl
 have e4 : kM30.length = 3 := rfl
 omega
theorem firstBad_all : ∀ {l : List Ho}, (∀ h ∈ l, chkH h = 0) → firstBad l = 0
 | [], _ => rfl
 | x :: l, h => by rw [firstBad, if_pos (h x (by simp)), firstBad_all (fun y hy => h y (by simp [hy]))]
theorem write_few {l : List Ho} (hc : ∀ h ∈ l, chkH h = 0) (hn : l.length ≤ 128) : write l = (fileT l, 0) ∧ 0 < (fileT l).length ∧ (fileT l).length ≤ 262144 := by
 have hl : (radii l).length ≤ 990 := by have := radii_len l; omega
 have h1 := file_len hc hl
 refine ⟨?_, by unfold fileT; simp only [List.length_append, ln_len]; omega, by omega⟩
 unfold write
 rw [if_neg (by rw [firstBad_all hc]; simp), if_neg (by omega), if_neg (by omega)]
end Go.Proofs.YtljjbdbgedmadaaGreatDoor.Dl
namespace Go.Proofs.YtljjbdbgedmadaaGreatDoor.Dl
open Go Go.Proofs.YtljjbdbgedmadaaGreatDoor
open Go.RowKit
def lexLt : List Int → List Int → Bool
 | a :: as, b :: bs => if a ≠ b then decide (a < b) else lexLt as bs
 | _, _ => false
def startH (h : Ho) : Pl.Pt := match h.s.es with
 | [] => ⟨0, 0⟩
 | e :: _ => e.a
def keyH (h : Ho) : List Int := [h.f, h.t, if h.pl then 0 else 1, h.s.r, (startH h).x, (startH h).y]
def ltH (a b : Ho) : Bool := lexLt (keyH a) (keyH b)
def insB {α : Type} (lt : α → α → Bool) (h : α) : List α → List α
 | [] => [h]
 | x :: r => if lt h x then x :: insB lt h r else h :: x :: r
def sortB {α : Type} (lt : α → α → Bool) (l : List α) : List α := (l.foldl (fun acc h => insB lt h acc) []).reverse
def norm (l : List Ho) : List Ho := sortB ltH l
end Go.Proofs.YtljjbdbgedmadaaGreatDoor.Dl
namespace Go.Proofs.YtljjbdbgedmadaaGreatDoor.Dl
open Go Go.Proofs.YtljjbdbgedmadaaGreatDoor
open Go.RowKit
theorem sorted_int (l : List Int) : (l.mergeSort fun x y => decide (x ≤ y)).Pairwise (· ≤ ·) := by
 have h := List.pairwise_mergeSort (le := fun x y : Int => decide (x ≤ y)) (fun a b c h1 h2 => by simp at *; omega) (fun a b => by simp; omega) l
 exact h.imp (fun h => by simpa using h)
theorem sorted_ext : ∀ {a b : List Int}, a.Pairwise (· < ·) → b.Pairwise (· < ·) → (∀ x, x ∈ a ↔ x ∈ b) → a = b
 | [], [], _, _, _ => rfl
 | [], y :: b, _, _, h => by have := (h y).2 (by simp); cases this
 | x :: a, [], _, _, h => by have := (h x).1 (by simp); cases this
 | x :: a, y :: b, ha, hb, h => by
  obtain ⟨ha1, ha2⟩ := List.pairwise_cons.1 ha
  obtain ⟨hb1, hb2⟩ := List.pairwise_cons.1 hb
  have e : x = y := by
   have h1 := (h x).1 (by simp)
   have h2 := (h y).2 (by simp)
   rcases List.mem_cons.1 h1 with h1 | h1
   ·exact h1
   ·rcases List.mem_cons.1 h2 with h2 | h2
    ·exact h2.symm
    ·have := hb1 x h1; have := ha1 y h2; omega
  subst e
  congr 1
  refine sorted_ext ha2 hb2 fun z => ⟨fun hz => ?_, fun hz => ?_⟩
  ·have h3 := ha1 z hz
   rcases List.mem_cons.1 ((h z).1 (by simp [hz])) with h4 | h4
   ·omega
   ·exact h4
  ·have h3 := hb1 z hz
   rcases List.mem_cons.1 ((h z).2 (by simp [hz])) with h4 | h4
   ·omega
   ·exact h4
theorem keeps_iff (zs : List Int) (j : Nat) : Lib.keeps zs.toArray j = true ↔ j = 0 ∨ zs.toArray[j]! ≠ zs.toArray[j - 1]! := by
 unfold Lib.keeps; rw [decide_eq_true_eq]
theorem at_pos (zs : List Int) (j : Nat) (h : j < zs.length) : zs.toArray[j]! = zs[j] := by
 rw [getElem!_pos zs.toArray j (by simpa using h)]; rfl
theorem compact_lt {zs : List Int} (h : zs.Pairwise (· ≤ ·)) : (Lib.compact zs).Pairwise (· < ·) := by
 unfold Lib.compact Lib.compactUpTo; rw [List.pairwise_map]
 refine List.Pairwise.imp_of_mem ?_ (List.pairwise_lt_range.sublist List.filter_sublist)
 intro i j hi hj hij; have hj1 := List.mem_filter.1 hj
 have hjl : j < zs.length := List.mem_range.1 hj1.1
 have hk := (keeps_iff zs j).1 hj1.2
 rcases hk with hk | hk
 ·omega
 ·rw [at_pos zs i (by omega), at_pos zs j hjl]; rw [at_pos zs j hjl, at_pos zs (j - 1) (by omega)] at hk; have h1 := List.pairwise_iff_getElem.1 h (j - 1) j (by omega) hjl (by omega)
  by_cases e : i = j - 1
  ·subst e; omega
  ·have h2 := List.pairwise_iff_getElem.1 h i (j - 1) (by omega) (by omega) (by omega)
   omega
theorem mem_compact {zs : List Int} {x : Int} : x ∈ Lib.compact zs ↔ x ∈ zs := by
 unfold Lib.compact Lib.compactUpTo; rw [List.mem_map]
 constructor
 ·rintro ⟨j, hj, rfl⟩; have hjl : j < zs.length := List.mem_range.1 (List.mem_filter.1 hj).1
  rw [at_pos zs j hjl]; exact List.getElem_mem hjl
 ·intro hx; obtain ⟨j, hj, rfl⟩ := List.getElem_of_mem hx
  have key : ∀ j (hj : j < zs.length), ∃ i, i ∈ (List.range zs.length).filter (Lib.keeps zs.toArray) ∧ zs.toArray[i]! = zs[j] := by
   intro j
   induction j with
   | zero => exact fun hj => ⟨0, List.mem_filter.2 ⟨List.mem_range.2 hj, (keeps_iff zs 0).2 (.inl rfl)⟩, at_pos zs 0 hj⟩
   | succ j ih =>
    intro hj
    by_cases hk : Lib.keeps zs.toArray (j + 1) = true
    ·exact ⟨j + 1, List.mem_filter.2 ⟨List.mem_range.2 hj, hk⟩, at_pos zs (j + 1) hj⟩
    ·obtain ⟨i, hi, he⟩ := ih (by omega)
     refine ⟨i, hi, he.trans ?_⟩
     rw [keeps_iff] at hk; have h2 : zs.toArray[j + 1]! = zs.toArray[j + 1 - 1]! := Decidable.byContradiction fun h => hk (.inr h)
     rw [at_pos zs (j + 1) hj, Nat.add_sub_cancel, at_pos zs j (by omega)] at h2; exact h2.symm
  exact key j hj
theorem ins_sorted (r : Int) : ∀ {l : List Int}, l.Pairwise (· < ·) → (Pl.ins r l).Pairwise (· < ·)
 | [], _ => by simp [Pl.ins]
 | y :: l, h => by
  obtain ⟨h1, h2⟩ := List.pairwise_cons.1 h
  unfold Pl.ins
  split
  ·rename_i hy
   refine List.pairwise_cons.2 ⟨fun x hx => ?_, ins_sorted r h2⟩
   rcases mem_ins.1 hx with rfl | hx
   ·exact hy
   ·exact h1 x hx
  ·split
   ·exact h
   ·rename_i hy hn
    refine List.pairwise_cons.2 ⟨fun x hx => ?_, h⟩
    rcases List.mem_cons.1 hx with rfl | hx
    ·omega
    ·have := h1 x hx; omega
theorem radii_asc (l : List Ho) : (radii l).Pairwise (· < ·) := by
 have go : ∀ (m acc : List Int), acc.Pairwise (· < ·) → (m.foldl (fun rs r => Pl.ins r rs) acc).Pairwise (· < ·) := by
  intro m
  induction m with
  | nil => exact fun acc h => h
  | cons y m ih => exact fun acc h => ih _ (ins_sorted y h)
 exact go _ [] List.Pairwise.nil
theorem compact_radii (l : List Ho) : Lib.compact ((l.map (·.s.r)).mergeSort fun x y => decide (x ≤ y)) = radii l := by
 refine sorted_ext (compact_lt (sorted_int _)) (radii_asc l) fun x => ?_
 rw [mem_compact, List.mem_mergeSort, List.mem_map, mem_radii]
end Go.Proofs.YtljjbdbgedmadaaGreatDoor.Dl
namespace Go.Proofs.YtljjbdbgedmadaaGreatDoor.Dl
open Go Go.Proofs.YtljjbdbgedmadaaGreatDoor
open Go.RowKit
theorem dec_long {u : Nat} (h : (Lib.decDigits u).length ≤ 9) : u < 1000000000 := by
 have h1 := Ru.dv_all (l := Lib.decDigits u) (fun c hc => digit_iff.1 (dec_all u c hc))
 rw [Wr.dv_dec] at h1; have h2 : 10 ^ (Lib.decDigits u).length ≤ 10 ^ 9 := Nat.pow_le_pow_right (by omega) h
 have e9 : (10 : Nat) ^ 9 = 1000000000 := by decide
 omega
theorem mag_len (n : Int) : (Wr.mag (Lib.itoa n)).length ≤ 9 ↔ NumB n := by
 unfold NumB
 rcases itoa_form n with ⟨hn, e⟩ | ⟨hn, e⟩
 ·rw [e, show Wr.mag (45 :: Lib.decDigits n.natAbs) = Lib.decDigits n.natAbs from rfl]
  constructor
  ·intro h; have := dec_long h; omega
  ·intro h; exact dec_short (by omega)
 ·obtain ⟨c, l, hd⟩ : ∃ c l, Lib.decDigits n.toNat = c :: l := by
   cases hd : Lib.decDigits n.toNat with
   | nil => exact absurd hd (Wr.dec_ne _)
   | cons c l => exact ⟨c, l, rfl⟩
  have hnn := Wr.dec_head n.toNat
  have hm : Wr.mag (Lib.decDigits n.toNat) = Lib.decDigits n.toNat := by unfold Wr.mag; rw [show Wr.neg (Lib.decDigits n.toNat) = false by rw [hd] at hnn ⊢; exact hnn]; rfl
  rw [e, hm]
  constructor
  ·intro h; have := dec_long h; omega
  ·intro h; exact dec_short (by omega)
theorem canon_of {s : Bytes} {n : Int} (h : Wr.parse s = some n) : canon s = if (Wr.mag s).length ≤ 9 then some n else none := by
 have hs := (Wr.parse_some.1 h).1
 unfold canon; rw [h]
 simp only
 by_cases hb : -1000000000 < n ∧ n < 1000000000
 ·rw [if_pos hb, if_pos (by rw [hs]; exact (mag_len n).2 hb)]
 ·rw [if_neg hb, if_neg (fun h => hb ((mag_len n).1 (by rw [← hs]; exact h)))]
theorem canon_no {s : Bytes} (h : Wr.parse s = none) : canon s = none := by unfold canon; rw [h]
end Go.Proofs.YtljjbdbgedmadaaGreatDoor.Dl
namespace Go.Proofs.YtljjbdbgedmadaaGreatDoor.Dl
open Go Go.Proofs.YtljjbdbgedmadaaGreatDoor
open Go.RowKit
theorem holesT_app (rs : List Int) : ∀ (p : Option Ho) (a b : List Ho), holesT rs p (a ++ b) = holesT rs p a ++ holesT rs (a.getLast?.or p) b
 | p, [], b => by simp [holesT]
 | p, h :: a, b => by
  rw [List.cons_append, holesT, holesT, holesT_app rs (some h) a b, List.append_assoc]
  congr 2
  cases a with
  | nil => rfl
  | cons x a => rw [List.getLast?_cons_cons]; cases hx : (x :: a).getLast? with
   | none => simp at hx
   | some y => rfl
def prev (l : List Ho) (k : Nat) : Option Ho := if k = 0 then none else l[k - 1]?
theorem holes_step (rs : List Int) {l : List Ho} {k : Nat} (h : k < l.length) : holesT rs none (l.take (k + 1)) = holesT rs none (l.take k) ++ holeT rs (prev l k) l[k] := by
 rw [List.take_succ_eq_append_getElem h, holesT_app]
 congr 1
 rw [holesT, holesT, List.append_nil]
 congr 1
 unfold prev
 by_cases h0 : k = 0
 ·subst h0; simp
 ·rw [if_neg h0, Option.or_none, List.getLast?_eq_getElem?, List.length_take, Nat.min_eq_left (by omega), List.getElem?_take_of_lt (by omega)]
theorem prev_pos {l : List Ho} {k : Nat} (h : k + 1 < l.length) : prev l (k + 1) = some l[k] := by
 unfold prev; rw [if_neg (by omega), Nat.add_sub_cancel, List.getElem?_eq_getElem (by omega)]
theorem tools_step (rs : List Int) {k : Nat} (h : k < rs.length) : toolsTo rs (k + 1) = toolsTo rs k ++ toolLn k rs[k] := by
 rw [toolsTo, List.getD_eq_getElem?_getD, List.getElem?_eq_getElem h]; rfl
theorem holes_le (rs : List Int) (l : List Ho) (k : Nat) : (holesT rs none (l.take k)).length ≤ (holesT rs none l).length := by
 have := holesT_app rs none (l.take k) (l.drop k)
 rw [List.take_append_drop] at this; rw [this, List.length_append]; omega
theorem firstBad_at {l : List Ho} {k : Nat} (hk : k < l.length) (h : ∀ i, (hi : i < k) → chkH (l[i]'(by omega)) = 0) (hb : chkH l[k] ≠ 0) : firstBad l = chkH l[k] := by
 induction l generalizing k with
 | nil => simp at hk
 | cons x l ih =>
  cases k with
  | zero => rw [firstBad, if_neg (by simpa using hb)]; rfl
  | succ k =>
   have h0 : chkH x = 0 := h 0 (by omega)
   rw [firstBad, if_pos h0]; simp only [List.getElem_cons_succ] at hb ⊢
   exact ih (by simpa using hk) (fun i hi => by have := h (i + 1) (by omega); simpa using this) hb
/-! ### Reading line after line -/
theorem readL_good {n : Int} {st u : St} {x : Bytes} {s : Bytes} (h : step st x = .inl u) : readL n st (x :: Ru.pieces 10 s) = readL (n + 1) u (Ru.pieces 10 s) := by
 cases hp : Ru.pieces 10 s with
 | nil => exact absurd hp (Ru.pieces_ne 10 s)
 | cons y r => rw [readL, h]
theorem readL_bad {n : Int} {st : St} {x : Bytes} {e : Int} {s : Bytes} (h : step st x = .inr e) : readL n st (x :: Ru.pieces 10 s) = ([], n, e) := by
 cases hp : Ru.pieces 10 s with
 | nil => exact absurd hp (Ru.pieces_ne 10 s)
 | cons y r => rw [readL, h]
end Go.Proofs.YtljjbdbgedmadaaGreatDoor.Dl
namespace Go.Proofs.YtljjbdbgedmadaaGreatDoor.Dl
open Go Go.Proofs.YtljjbdbgedmadaaGreatDoor
open Go.RowKit
end Go.Proofs.YtljjbdbgedmadaaGreatDoor.Dl
namespace Go.Proofs.YtljjbdbgedmadaaGreatDoor.Dl
open Go Go.Proofs.YtljjbdbgedmadaaGreatDoor
open Go.RowKit
def exL : List Bytes := [[77, 52, 56],
 [59, 101, 116, 99, 104, 97, 110, 116],
 [84, 49, 67, 52],
 [84, 50, 67, 54],
 [37],
 [59, 115, 112, 97, 110, 32, 49, 32, 50, 32, 112, 108, 97, 116, 101, 100],
 [84, 49],
 [88, 53, 89, 45, 51],
 [59, 115, 112, 97, 110, 32, 49, 32, 50, 32, 112, 108, 97, 105, 110],
 [84, 50],
 [71, 48, 48, 88, 48, 89, 48],
 [77, 49, 53],
 [71, 48, 49, 88, 57, 89, 48],
 [71, 48, 51, 88, 49, 52, 89, 53, 73, 48, 74, 53],
 [77, 49, 54],
 [77, 51, 48]]
def exFile (no : Nat) (text : Bytes) : Bytes := exL.zipIdx.flatMap fun x => let s := if x.2 + 1 = no then text else x.1; if s = [] then [] else ln s
def exH : List Ho := [⟨⟨1, [⟨1, ⟨5, -3⟩, ⟨5, -3⟩, ⟨0, 0⟩⟩], 2⟩, 1, 2, true⟩, ⟨⟨1, [⟨1, ⟨0, 0⟩, ⟨9, 0⟩, ⟨0, 0⟩⟩, ⟨2, ⟨9, 0⟩, ⟨14, 5⟩, ⟨9, 5⟩⟩], 3⟩, 1, 2, false⟩]
def Fails (s : Bytes) (n e : Int) : Prop := read s = ([], n, e)
theorem fails_of {s : Bytes} {n e : Int} (h : ((read s).1.isEmpty, (read s).2) = (true, n, e)) : Fails s n e := by
 unfold Fails
 obtain ⟨h1, h2⟩ := Prod.mk.inj h
 rw [List.isEmpty_iff] at h1; exact Prod.ext h1 h2
theorem ex_write : write exH = (exFile 0 [], 0) := by decide +kernel
theorem ex_read : read (exFile 0 []) = (exH, 0, 0) := by
 have := back (l := exH) (by rw [ex_write])
 rwa [ex_write] at this
theorem fail_tool : Fails (exFile 4 [84, 49, 67, 54]) 4 70 := fails_of (by decide +kernel)
theorem fail_pick : Fails (exFile 10 [84, 51]) 10 70 := fails_of (by decide +kernel)
theorem fail_span : Fails (exFile 9 [59, 115, 112, 97, 110, 32, 50, 32, 49, 32, 112, 108, 97, 105, 110]) 9 72 := fails_of (by decide +kernel)
theorem fail_none : Fails (exFile 6 []) 7 72 := fails_of (by decide +kernel)
theorem fail_edge : Fails (exFile 14 [71, 48, 51, 88, 49, 52, 89, 53, 73, 48, 74, 54]) 14 11 := fails_of (by decide +kernel)
theorem fail_end : Fails (exFile 16 []) 16 4 := fails_of (by decide +kernel)
def exM : List Ho := [⟨⟨1, [⟨1, ⟨5, -3⟩, ⟨5, -3⟩, ⟨0, 0⟩⟩], 2⟩, 1, 2, true⟩, ⟨⟨1, [⟨1, ⟨0, 0⟩, ⟨9, 0⟩, ⟨0, 0⟩⟩], 3⟩, 1, 2, false⟩]
theorem mid_write : write exM = (exFile 14 [], 0) := by decide +kernel
theorem mid_read : read (exFile 14 []) = (exM, 0, 0) := by
 have := back (l := exM) (by rw [mid_write])
 rwa [mid_write] at this
end Go.Proofs.YtljjbdbgedmadaaGreatDoor.Dl
namespace Go.Proofs.YtljjbdbgedmadaaGreatDoor.Dl
open Go Go.Proofs.YtljjbdbgedmadaaGreatDoor
open Go.RowKit
def turned (l : List Ho) (k : Nat) : List Ho := l.drop k ++ l.take k
end Go.Proofs.YtljjbdbgedmadaaGreatDoor.Dl
namespace Go.Proofs.YtljjbdbgedmadaaGreatDoor.Dl
open Go Go.Proofs.YtljjbdbgedmadaaGreatDoor
open Go.RowKit
theorem insB_perm {α : Type} (lt : α → α → Bool) (h : α) : ∀ l, (insB lt h l).Perm (h :: l)
  | [] => .refl _
  | x :: r => by
    unfold insB
    split
    · exact ((insB_perm lt h r).cons x).trans (.swap h x r)
    · exact .refl _
theorem fold_perm {α : Type} (lt : α → α → Bool) : ∀ (l acc : List α), (l.foldl (fun acc h => insB lt h acc) acc).Perm (l ++ acc)
  | [], acc => .refl _
  | h :: l, acc => by
    rw [List.foldl_cons]
    refine (fold_perm lt l _).trans (((insB_perm lt h acc).append_left l).trans ?_)
    exact List.perm_middle
theorem sortB_perm {α : Type} (lt : α → α → Bool) (l : List α) : (sortB lt l).Perm l := by
  unfold sortB
  refine (List.reverse_perm _).trans ((fold_perm lt l []).trans ?_)
  rw [List.append_nil]
theorem norm_len (l : List Ho) : (norm l).length = l.length := (sortB_perm ltH l).length_eq
theorem at_len {α : Type} [Inhabited α] (A S : List α) (x : α) : (A ++ x :: S).toArray[A.length]! = x := by
  rw [getElem!_pos _ _ (by simp)]
  simp
theorem at_len1 {α : Type} [Inhabited α] (A S : List α) (x y : α) : (A ++ x :: y :: S).toArray[A.length + 1]! = y := by
  have := at_len (A ++ [x]) S y
  rwa [List.append_assoc, List.length_append] at this
theorem set_len {α : Type} (A S : List α) (x z : α) : (A ++ x :: S).set A.length z = A ++ z :: S := by
  rw [List.set_append_right _ _ (Nat.le_refl _), Nat.sub_self]; rfl
theorem swp_len {α : Type} [Inhabited α] (A S : List α) (x y : α) : Sort.swp (A ++ x :: y :: S).toArray (A.length + 1) A.length = (A ++ y :: x :: S).toArray := by
  unfold Sort.swp
  rw [at_len, at_len1, List.setIfInBounds_toArray, List.setIfInBounds_toArray]
  congr 1
  have e1 : (A ++ x :: y :: S).set (A.length + 1) x = A ++ x :: x :: S := by
    have := set_len (A ++ [x]) S y x
    rwa [List.append_assoc, List.append_assoc, List.length_append] at this
  rw [e1, set_len]
theorem inner_list {α : Type} [Inhabited α] (lt : α → α → Bool) : ∀ (Q : List α) (h : α) (S : List α), Sort.insInner lt 0 Q.length (Q.reverse ++ h :: S).toArray = ((insB lt h Q).reverse ++ S).toArray
  | [], h, S => by simp [Sort.insInner, insB]
  | x :: Q, h, S => by
    have e : (x :: Q).reverse ++ h :: S = Q.reverse ++ x :: h :: S := by simp
    have hl : Q.reverse.length = Q.length := List.length_reverse
    rw [e, List.length_cons, Sort.insInner]
    have e1 := at_len1 Q.reverse S x h
    have e2 := at_len Q.reverse (h :: S) x
    have e3 := swp_len Q.reverse S x h
    rw [hl] at e1 e2 e3
    rw [e1, e2, e3, insB]
    by_cases hx : lt h x = true
    · rw [if_pos (by simp [hx]), if_pos hx, inner_list lt Q h (x :: S)]
      simp
    · rw [if_neg (by simp [hx]), if_neg hx]
      simp
theorem outer_list {α : Type} [Inhabited α] (lt : α → α → Bool) : ∀ (S Q : List α) (i b : Nat), i = Q.length → b = Q.length + S.length → Sort.insOuter lt 0 b i (Q.reverse ++ S).toArray = (S.foldl (fun acc h => insB lt h acc) Q).reverse.toArray
  | [], Q, i, b, hi, hb => by
    rw [Sort.insOuter, if_neg (by rw [hb, hi]; simp)]
    simp
  | h :: S, Q, i, b, hi, hb => by
    rw [List.length_cons] at hb
    rw [Sort.insOuter, if_pos (by omega), hi, inner_list, List.foldl_cons]
    have hl : (insB lt h Q).length = Q.length + 1 := by rw [(insB_perm lt h Q).length_eq, List.length_cons]
    exact outer_list lt S (insB lt h Q) _ b (by omega) (by omega)
theorem insertion_list {α : Type} [Inhabited α] (lt : α → α → Bool) (l : List α) : Sort.insertionSort lt l.toArray 0 l.length = (sortB lt l).toArray := by
  unfold Sort.insertionSort sortB
  cases l with
  | nil => rw [Sort.insOuter, if_neg (by simp)]; rfl
  | cons x l =>
    have := outer_list lt l [x] 1 (l.length + 1) rfl (by simp; omega)
    rw [List.length_cons, List.foldl_cons, show insB lt x [] = [x] from rfl]
    exact this
theorem insB_map {α β : Type} (f : α → β) (lu : β → β → Bool) (h : α) : ∀ l : List α, (insB (fun a b => lu (f a) (f b)) h l).map f = insB lu (f h) (l.map f)
  | [] => rfl
  | x :: l => by
    rw [insB, List.map_cons, insB]
    split
    · rw [List.map_cons, insB_map f lu h l]
    · rfl
theorem sortB_map {α β : Type} (f : α → β) (lu : β → β → Bool) (l : List α) : (sortB (fun a b => lu (f a) (f b)) l).map f = sortB lu (l.map f) := by
  unfold sortB
  rw [List.map_reverse]
  congr 1
  have go : ∀ (l acc : List α), (l.foldl (fun acc h => insB (fun a b => lu (f a) (f b)) h acc) acc).map f = (l.map f).foldl (fun acc h => insB lu h acc) (acc.map f) := by
    intro l
    induction l with
    | nil => intro acc; rfl
    | cons x l ih => intro acc; rw [List.foldl_cons, ih, insB_map, List.map_cons, List.foldl_cons]
  exact go l []
end Go.Proofs.YtljjbdbgedmadaaGreatDoor.Dl
