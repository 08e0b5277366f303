/- The chapter's drawings in plain words, when they are valid, and the text of a file of them. No program here; no condition.
  What a shape's joints say of it. No program here; no condition.
  The error of a shape by its joints, path and area. No program here; no condition.
  Shapes that numbers choose are valid: arcs, lines, paths, polygons, circles, rounded rectangles. No program here; no condition. -/
import Derived.Lib.ItoaNum
namespace Pl
open Go
abbrev Bytes := List UInt8
structure Pt where
 x : Int
 y : Int
deriving DecidableEq
structure Ed where
 k : Int
 a : Pt
 b : Pt
 c : Pt
deriving DecidableEq
structure Sh where
 k : Int
 es : List Ed
 r : Int
deriving DecidableEq
structure Dr where
 s : Sh
 clear : Bool
deriving DecidableEq
/-! ### Validity -/
def In (n : Int) : Prop := -67108864 ≤ n ∧ n ≤ 67108864
instance (n : Int) : Decidable (In n) := inferInstanceAs (Decidable (_ ∧ _))
def Pt.ok (p : Pt) : Prop := In p.x ∧ In p.y
instance (p : Pt) : Decidable p.ok := inferInstanceAs (Decidable (_ ∧ _))
def add (a b : Pt) : Pt := ⟨a.x + b.x, a.y + b.y⟩
def sub (a b : Pt) : Pt := ⟨a.x - b.x, a.y - b.y⟩
def quarter (k : Int) (d : Pt) : Pt := if k = 2 then ⟨-d.y, d.x⟩ else ⟨d.y, -d.x⟩
def Arc (e : Ed) : Prop := ¬ ((sub e.a e.c).x = 0 ↔ (sub e.a e.c).y = 0) ∧ sub e.b e.c = quarter e.k (sub e.a e.c)
instance (e : Ed) : Decidable (Arc e) := inferInstanceAs (Decidable (_ ∧ _))
def chkE (e : Ed) : Int :=
 if e.k < 1 ∨ 3 < e.k then 11
 else if ¬ (e.a.ok ∧ e.b.ok ∧ e.c.ok) then 10
 else if e.k = 1 then (if e.c = ⟨0, 0⟩ then 0 else 11)
 else if Arc e then 0 else 11
def firstErr : List Ed → Int
 | [] => 0
 | e :: l => if chkE e = 0 then firstErr l else chkE e
def chain : List Ed → Bool
 | e :: f :: l => decide (e.b = f.a) && chain (f :: l)
 | _ => true
def closes (l : List Ed) : Bool := match l.head?, l.getLast? with
 | some a, some z => decide (z.b = a.a)
 | _, _ => true
def chk (s : Sh) : Int :=
 if (s.k ≠ 1 ∧ s.k ≠ 2) ∨ s.es.length = 0 ∨ (s.k = 2 ∧ s.es.length < 2) then 12
 else if 40 < s.es.length then 2
 else if firstErr s.es ≠ 0 then firstErr s.es
 else if chain s.es = false ∨ (s.k = 2 ∧ closes s.es = false) then 12
 else if (s.k = 2 ∧ s.r ≠ 0) ∨ s.r < 0 ∨ 4194304 < s.r then 3
 else 0
def firstBad : List Dr → Int
 | [] => 0
 | d :: l => if chk d.s = 0 then firstBad l else chk d.s
theorem firstErr_drop (l : List Ed) (k : Nat) (h : k < l.length) : firstErr (l.drop k) = if chkE l[k] = 0 then firstErr (l.drop (k + 1)) else chkE l[k] := by
 rw [List.drop_eq_getElem_cons h]; rfl
theorem firstErr_end (l : List Ed) (k : Nat) (h : l.length ≤ k) : firstErr (l.drop k) = 0 := by rw [List.drop_eq_nil_of_le h]; rfl
theorem chain_drop (l : List Ed) (k : Nat) (h : k + 1 < l.length) : chain (l.drop k) = (decide (l[k].b = l[k + 1].a) && chain (l.drop (k + 1))) := by
 rw [List.drop_eq_getElem_cons (i := k) (by omega), List.drop_eq_getElem_cons h]; rfl
theorem chain_end (l : List Ed) (k : Nat) (h : l.length ≤ k + 1) : chain (l.drop k) = true := by
 have : (l.drop k).length ≤ 1 := by rw [List.length_drop]; omega
 match hl : l.drop k with
 | [] => rfl
 | [_] => rfl
 | _ :: _ :: _ => rw [hl] at this; simp at this
theorem closes_eq (l : List Ed) (h : 0 < l.length) : closes l = decide (l[l.length - 1].b = l[0].a) := by
 unfold closes; rw [List.head?_eq_getElem?, List.getLast?_eq_getElem?, List.getElem?_eq_getElem h, List.getElem?_eq_getElem (show l.length - 1 < l.length by omega)]
theorem firstErr_zero {l : List Ed} : firstErr l = 0 ↔ ∀ e ∈ l, chkE e = 0 := by
 induction l with
 | nil => simp [firstErr]
 | cons e l ih =>
  by_cases h : chkE e = 0
  ·simp [firstErr, h, ih]
  ·simp [firstErr, h]
/-! ### The text -/
def pnt (x : UInt8) (p : Pt) (y : UInt8) : Bytes := x :: (Lib.itoa p.x ++ y :: Lib.itoa p.y)
def gOf (k : Int) : Bytes := if k = 1 then [71, 48, 49] else if k = 2 then [71, 48, 51] else [71, 48, 50]
def arcT (e : Ed) : Bytes := if e.k = 1 then [] else pnt 73 (sub e.c e.a) 74
def edgeT (e : Ed) : Bytes := gOf e.k ++ pnt 88 e.b 89 ++ arcT e ++ [68, 48, 49, 42, 10]
def edgesT : List Ed → Bytes
 | [] => []
 | e :: l => pnt 88 e.a 89 ++ [68, 48, 50, 42, 10] ++ (e :: l).flatMap edgeT
def flash (s : Sh) : Option Pt := match s.es with
 | [e] => if e.k = 1 ∧ e.a = e.b then some e.a else none
 | _ => none
def pathT (s : Sh) : Bytes := match flash s with
 | some p => pnt 88 p 89 ++ [68, 48, 51, 42, 10]
 | none => edgesT s.es
def num (rs : List Int) (r : Int) : Nat := 10 + rs.idxOf r
def selT (rs : List Int) (ap : Nat) (s : Sh) : Bytes := if s.k = 2 ∨ num rs s.r = ap then [] else 68 :: (Lib.itoa (num rs s.r) ++ [42, 10])
def apOf (rs : List Int) (ap : Nat) (s : Sh) : Nat := if s.k = 2 then ap else num rs s.r
def shapeT (s : Sh) : Bytes := if s.k = 2 then [71, 51, 54, 42, 10] ++ edgesT s.es ++ [71, 51, 55, 42, 10] else pathT s
def polOf (c : Bool) : Bytes := if c then [37, 76, 80, 67, 42, 37, 10] else [37, 76, 80, 68, 42, 37, 10]
def polT (c d : Bool) : Bytes := if d = c then [] else polOf d
structure St where
 t : Bytes
 c : Bool
 ap : Nat
def step (rs : List Int) (st : St) (d : Dr) : St := ⟨st.t ++ polT st.c d.clear ++ selT rs st.ap d.s ++ shapeT d.s, d.clear, apOf rs st.ap d.s⟩
def head : Bytes := [71, 48, 52, 32, 101, 116, 99, 104, 97, 110, 116, 42, 10, 37, 70, 83, 76, 65, 88, 57, 48, 89, 57, 48, 42, 37, 10, 37, 77, 79, 77, 77, 42, 37, 10]
def apT (k : Nat) (r : Int) : Bytes := [37, 65, 68, 68] ++ Lib.itoa (10 + k : Nat) ++ [67, 44] ++ Lib.itoa (2 * r) ++ [42, 37, 10]
def apsTo (rs : List Int) : Nat → Bytes
 | 0 => head
 | k + 1 => apsTo rs k ++ (match rs[k]? with | some r => apT k r | none => [])
def start (rs : List Int) : Bytes := apsTo rs rs.length ++ polOf false
def runTo (rs : List Int) (ds : List Dr) (k : Nat) : St := (ds.take k).foldl (step rs) ⟨start rs, false, 0⟩
def ins (r : Int) : List Int → List Int
 | [] => [r]
 | x :: l => if x < r then x :: ins r l else if x = r then x :: l else r :: x :: l
def addR (l : List Int) (d : Dr) : List Int := if d.s.k = 1 then ins d.s.r l else l
def radii (ds : List Dr) : List Int := ds.foldl addR []
def fileT (ds : List Dr) : Bytes := (runTo (radii ds) ds ds.length).t ++ [77, 48, 50, 42, 10]
def write (ds : List Dr) : Bytes × Int :=
 if firstBad ds ≠ 0 then ([], firstBad ds)
 else if 990 < (radii ds).length then ([], 2)
 else if 262144 < (fileT ds).length then ([], 2)
 else (fileT ds, 0)
/-! ### Motions -/
structure Mo where
 at_ : Pt
 turn : Int
 mirror : Bool
deriving DecidableEq
def turn (n : Int) (p : Pt) : Pt := if n % 4 = 1 then ⟨-p.y, p.x⟩ else if n % 4 = 2 then ⟨-p.x, -p.y⟩ else if n % 4 = 3 then ⟨p.y, -p.x⟩ else p
def apply (m : Mo) (p : Pt) : Pt := add (turn m.turn ⟨if m.mirror then -p.x else p.x, p.y⟩) m.at_
end Pl
namespace Pl
def pairs : List Ed → List (Ed × Ed)
 | y :: z :: r => (y, z) :: pairs (z :: r)
 | _ => []
theorem pairs_length : ∀ (l : List Ed), (pairs l).length = l.length - 1
 | [] => rfl
 | [_] => rfl
 | y :: z :: r => by rw [pairs, List.length_cons, pairs_length (z :: r)]; simp
theorem pairs_take : ∀ (l : List Ed) (k : Nat) (h : k + 1 < l.length), (pairs l).take (k + 1) = (pairs l).take k ++ [(l[k], l[k + 1])]
 | [], _, h => by simp at h
 | [_], _, h => by simp at h
 | y :: z :: r, 0, _ => by simp [pairs]
 | y :: z :: r, k + 1, h => by
  have ih := pairs_take (z :: r) k (by simpa using h)
  simp only [pairs, List.take_succ_cons, ih, List.cons_append, List.getElem_cons_succ]
def joints (l : List Ed) (closed : Bool) : List (Ed × Ed) := pairs l ++ (if closed then (match l.getLast?, l.head? with | some z, some a => [(z, a)] | _, _ => []) else [])
theorem joints_closed (l : List Ed) (h : 0 < l.length) : joints l true = pairs l ++ [(l[l.length - 1], l[0])] := by
 unfold joints; rw [List.head?_eq_getElem?, List.getLast?_eq_getElem?, List.getElem?_eq_getElem h, List.getElem?_eq_getElem (show l.length - 1 < l.length by omega)]
 rfl
theorem joints_open (l : List Ed) : joints l false = pairs l := by simp [joints]
def Joined (p : Ed × Ed) : Prop := p.1.b = p.2.a
instance (p : Ed × Ed) : Decidable (Joined p) := inferInstanceAs (Decidable (p.1.b = p.2.a))
theorem chain_iff : ∀ (l : List Ed), chain l = true ↔ ∀ p ∈ pairs l, Joined p
 | [] => by simp [chain, pairs]
 | [_] => by simp [chain, pairs]
 | y :: z :: r => by
  have ih := chain_iff (z :: r)
  simp only [chain, pairs, Bool.and_eq_true, decide_eq_true_eq, List.mem_cons, forall_eq_or_imp, ih]
  rfl
theorem joints_iff (l : List Ed) (closed : Bool) (h : 0 < l.length) : (∀ p ∈ joints l closed, Joined p) ↔ chain l = true ∧ (closed = true → closes l = true) := by
 cases closed
 ·rw [joints_open, chain_iff]; simp
 ·rw [joints_closed l h, chain_iff, closes_eq l h]
  constructor
  ·intro hp; exact ⟨fun p hq => hp p (List.mem_append_left _ hq), fun _ => decide_eq_true (hp (l[l.length - 1], l[0]) (by simp))⟩
  ·rintro ⟨h1, h2⟩ p hp
   rcases List.mem_append.1 hp with hp | hp
   ·exact h1 p hp
   ·rw [List.mem_singleton.1 hp]; exact of_decide_eq_true (h2 rfl)
theorem chk_main (s : Sh) (hk : s.k = 1 ∨ s.k = 2) (h0 : 0 < s.es.length) (h2 : s.k = 2 → 2 ≤ s.es.length) (h40 : s.es.length ≤ 40) (he : firstErr s.es = 0) :
  chk s = if ∀ p ∈ joints s.es (decide (s.k = 2)), Joined p then (if (s.k = 2 ∧ s.r ≠ 0) ∨ s.r < 0 ∨ 4194304 < s.r then 3 else 0) else 12 := by
 unfold chk
 rw [if_neg (by omega), if_neg (by omega), if_neg (by rw [he]; simp)]
 have hj := joints_iff s.es (decide (s.k = 2)) h0
 by_cases hp : ∀ p ∈ joints s.es (decide (s.k = 2)), Joined p
 ·obtain ⟨h3, h4⟩ := hj.1 hp
  rw [if_pos hp, if_neg]
  rintro (h | ⟨h, h'⟩)
  ·rw [h3] at h; cases h
  ·rw [h4 (decide_eq_true h)] at h'; cases h'
 ·rw [if_neg hp, if_pos]
  by_cases h3 : chain s.es = true
  ·refine .inr ⟨?_, ?_⟩
   ·refine Classical.byContradiction fun h => hp (hj.2 ⟨h3, fun h' => absurd (of_decide_eq_true h') h⟩)
   ·cases h5 : closes s.es
    ·rfl
    ·exact absurd (hj.2 ⟨h3, fun _ => h5⟩) hp
  ·exact .inl (by cases h : chain s.es; rfl; exact absurd h h3)
theorem chk_many (s : Sh) (hk : s.k = 1 ∨ s.k = 2) (h : 40 < s.es.length) : chk s = 2 := by unfold chk; rw [if_neg (by omega), if_pos h]
theorem chk_few (s : Sh) (h : (s.k ≠ 1 ∧ s.k ≠ 2) ∨ s.es.length = 0 ∨ (s.k = 2 ∧ s.es.length < 2)) : chk s = 12 := by unfold chk; rw [if_pos h]
theorem chk_err (s : Sh) (hk : s.k = 1 ∨ s.k = 2) (h0 : 0 < s.es.length) (h2 : s.k = 2 → 2 ≤ s.es.length) (h40 : s.es.length ≤ 40) (he : firstErr s.es ≠ 0) : chk s = firstErr s.es := by
 unfold chk; rw [if_neg (by omega), if_neg (by omega), if_pos he]
end Pl
namespace Pl
theorem chk_path (es : List Ed) (r : Int) (h0 : 1 ≤ es.length) (h40 : es.length ≤ 40) (he : firstErr es = 0) :
  chk ⟨1, es, r⟩ = if ∀ p ∈ joints es false, Joined p then (if r < 0 ∨ 4194304 < r then 3 else 0) else 12 := by
 have h := chk_main ⟨1, es, r⟩ (.inl rfl) h0 (fun h => absurd h (by show ¬ ((1 : Int) = 2); decide)) h40 he
 rw [h]
 by_cases hj : ∀ p ∈ joints es false, Joined p
 ·rw [if_pos hj, if_pos (show ∀ p ∈ joints es (decide ((1 : Int) = 2)), Joined p from hj)]
  by_cases h1 : r < 0 ∨ 4194304 < r
  ·rw [if_pos h1, if_pos (.inr h1)]
  ·rw [if_neg h1, if_neg]
   rintro (⟨h2, _⟩ | h2)
   ·exact absurd h2 (by show ¬ ((1 : Int) = 2); decide)
   ·exact h1 h2
 ·rw [if_neg hj, if_neg (show ¬ ∀ p ∈ joints es (decide ((1 : Int) = 2)), Joined p from hj)]
theorem chk_area (es : List Ed) (r : Int) (h0 : 2 ≤ es.length) (h40 : es.length ≤ 40) (he : firstErr es = 0) :
  chk ⟨2, es, r⟩ = if ∀ p ∈ joints es true, Joined p then (if r ≠ 0 ∨ r < 0 ∨ 4194304 < r then 3 else 0) else 12 := by
 have h := chk_main ⟨2, es, r⟩ (.inr rfl) (by show 0 < es.length; omega) (fun _ => h0) h40 he
 rw [h]
 by_cases hj : ∀ p ∈ joints es true, Joined p
 ·rw [if_pos hj, if_pos (show ∀ p ∈ joints es (decide ((2 : Int) = 2)), Joined p from hj)]
  by_cases h1 : r ≠ 0 ∨ r < 0 ∨ 4194304 < r
  ·rw [if_pos h1, if_pos]
   rcases h1 with h1 | h1
   ·exact .inl ⟨rfl, h1⟩
   ·exact .inr h1
  ·rw [if_neg h1, if_neg]
   rintro (⟨_, h2⟩ | h2)
   ·exact h1 (.inl h2)
   ·exact h1 (.inr h2)
 ·rw [if_neg hj, if_neg (show ¬ ∀ p ∈ joints es (decide ((2 : Int) = 2)), Joined p from hj)]
end Pl
namespace Pl
def Lim (b : Int) (p : Pt) : Prop := (-b ≤ p.x ∧ p.x ≤ b) ∧ (-b ≤ p.y ∧ p.y ≤ b)
def LimE (e : Ed) : Prop := Lim 1000 e.a ∧ Lim 1000 e.b ∧ Lim 1000 e.c
def GoodE (e : Ed) : Prop := chkE e = 0 ∧ LimE e
def Fine (s : Sh) : Prop := chk s = 0 ∧ s.es.length ≤ 8 ∧ ∀ e ∈ s.es, LimE e
def line (a b : Pt) : Ed := ⟨1, a, b, ⟨0, 0⟩⟩
def arc (c : Pt) (r t k : Int) : Ed := ⟨k, add c (turn t ⟨r, 0⟩), add c (turn (if k = 3 then t + 3 else t + 1) ⟨r, 0⟩), c⟩
theorem good_line {a b : Pt} (ha : Lim 1000 a) (hb : Lim 1000 b) : GoodE (line a b) := by
 obtain ⟨ax, ay⟩ := a; obtain ⟨bx, bY⟩ := b; unfold Lim at ha hb
 dsimp only at ha hb
 refine ⟨?_, ha, hb, by unfold Lim line; dsimp only; omega⟩
 unfold chkE line; dsimp only; rw [if_neg (by omega), if_neg, if_pos rfl, if_pos rfl]; intro h
 apply h
 unfold Pt.ok In; dsimp only
 omega
theorem good_arc {c : Pt} {r t k : Int} (hc : Lim 600 c) (hr : 0 < r) (hr2 : r ≤ 200) (hk : k = 2 ∨ k = 3) : GoodE (arc c r t k) := by
 obtain ⟨cx, cy⟩ := c; unfold Lim at hc
 dsimp only at hc
 have h4 : t % 4 = 0 ∨ t % 4 = 1 ∨ t % 4 = 2 ∨ t % 4 = 3 := by omega
 refine ⟨?_, ?_⟩
 ·unfold chkE
  have hkk : (arc ⟨cx, cy⟩ r t k).k = k := rfl
  rw [hkk, if_neg (by omega), if_neg, if_neg (by omega), if_pos]
  ·unfold Arc arc sub add turn quarter
   rcases hk with rfl | rfl <;> rcases h4 with h | h | h | h
   all_goals have h1 : (t + 1) % 4 = (t % 4 + 1) % 4 := by omega
   all_goals have h3 : (t + 3) % 4 = (t % 4 + 3) % 4 := by omega
   all_goals rw [h] at h1 h3
   all_goals simp only [h, h1, h3, Int.reduceEq, Int.reduceAdd, Int.reduceMod, if_true, if_false, Pt.mk.injEq]
   all_goals omega
  ·intro hn
   apply hn
   unfold Pt.ok In arc add turn
   rcases hk with rfl | rfl <;> rcases h4 with h | h | h | h
   all_goals have h1 : (t + 1) % 4 = (t % 4 + 1) % 4 := by omega
   all_goals have h3 : (t + 3) % 4 = (t % 4 + 3) % 4 := by omega
   all_goals rw [h] at h1 h3
   all_goals simp only [h, h1, h3, Int.reduceEq, Int.reduceAdd, Int.reduceMod, if_true, if_false]
   all_goals omega
 ·unfold LimE Lim arc add turn
  rcases hk with rfl | rfl <;> rcases h4 with h | h | h | h
  all_goals have h1 : (t + 1) % 4 = (t % 4 + 1) % 4 := by omega
  all_goals have h3 : (t + 3) % 4 = (t % 4 + 3) % 4 := by omega
  all_goals rw [h] at h1 h3
  all_goals simp only [h, h1, h3, Int.reduceEq, Int.reduceAdd, Int.reduceMod, if_true, if_false]
  all_goals omega
/-! ### Chains -/
theorem chain_get {l : List Ed} : (∀ k, (h : k + 1 < l.length) → l[k].b = l[k + 1].a) → chain l = true := by
 induction l with
 | nil => intro _; rfl
 | cons e l ih =>
  intro h
  match l, ih, h with
  | [], _, _ => rfl
  | f :: l, ih, h =>
   unfold chain
   have h0 := h 0 (by simp)
   rw [Bool.and_eq_true]; refine ⟨decide_eq_true h0, ih fun k hk => ?_⟩
   have := h (k + 1) (by simp at hk ⊢; omega)
   simpa using this
theorem get_chain {l : List Ed} (hc : chain l = true) : ∀ k, (h : k + 1 < l.length) → l[k].b = l[k + 1].a := by
 induction l with
 | nil => intro k h; simp at h
 | cons e l ih =>
  match l, ih, hc with
  | [], _, _ => intro k h; simp at h
  | f :: l, ih, hc =>
   unfold chain at hc; rw [Bool.and_eq_true] at hc; intro k h
   cases k with
   | zero => exact of_decide_eq_true hc.1
   | succ k => exact ih hc.2 k (by simpa using h)
def EndsAt (l : List Ed) (p : Pt) : Prop := ∀ h : 0 < l.length, l[l.length - 1].b = p
theorem chain_snoc {l : List Ed} {e : Ed} (hc : chain l = true) (he : EndsAt l e.a) : chain (l ++ [e]) = true := by
 refine chain_get fun k hk => ?_
 simp only [List.length_append, List.length_cons, List.length_nil] at hk
 by_cases h : k + 1 < l.length
 ·rw [List.getElem_append_left (by omega), List.getElem_append_left h]; exact get_chain hc k h
 ·have e1 : k = l.length - 1 := by omega
  subst e1; have h0 : 0 < l.length := by omega
  have h1 : (l ++ [e])[l.length - 1 + 1]'(by simp; omega) = e := by
   rw [List.getElem_append_right (by omega)]; simp [show l.length - 1 + 1 - l.length = 0 by omega]
  rw [List.getElem_append_left (by omega), h1]; exact he h0
theorem ends_snoc (l : List Ed) (e : Ed) : EndsAt (l ++ [e]) e.b := by
 intro h; have e1 : (l ++ [e]).length - 1 = l.length := by simp
 simp only [e1]
 rw [List.getElem_append_right (Nat.le_refl _)]; simp
theorem firstErr_good {l : List Ed} (h : ∀ e ∈ l, GoodE e) : firstErr l = 0 := firstErr_zero.2 fun e he => (h e he).1
theorem fine_path {es : List Ed} {r : Int} (h0 : 0 < es.length) (h8 : es.length ≤ 8) (hg : ∀ e ∈ es, GoodE e) (hc : chain es = true) (hr : 0 ≤ r) (hr2 : r ≤ 100) : Fine ⟨1, es, r⟩ := by
 refine ⟨?_, h8, fun e he => (hg e he).2⟩
 have e1 := firstErr_good hg
 unfold chk; dsimp only
 rw [if_neg (by omega), if_neg (by omega), if_neg (by rw [e1]; simp), if_neg (by rw [hc]; simp), if_neg (by omega)]
/-! ### Polygons -/
def loopAt (ps : List Pt) (k : Nat) : Ed := line (ps.getD k ⟨0, 0⟩) (ps.getD ((k + 1) % ps.length) ⟨0, 0⟩)
def loopE (ps : List Pt) (n : Nat) : List Ed := (List.range n).map (loopAt ps)
theorem loopE_step (ps : List Pt) (n : Nat) : loopE ps (n + 1) = loopE ps n ++ [loopAt ps n] := by unfold loopE; rw [List.range_succ, List.map_append]; rfl
theorem loopE_length (ps : List Pt) (n : Nat) : (loopE ps n).length = n := by unfold loopE; simp
/-! ### Circles -/
/-! ### Rounded rectangles -/
structure Box where
 x0 : Int
 y0 : Int
 x1 : Int
 y1 : Int
/-! ### Discs -/
def disc (p : Pt) (r : Int) : Sh := ⟨1, [line p p], r⟩
theorem fine_disc {p : Pt} {r : Int} (hp : Lim 1000 p) (hr : 0 ≤ r) (hr2 : r ≤ 100) : Fine (disc p r) :=
 fine_path (by simp) (by simp) (fun e he => by rw [List.mem_singleton.1 he]; exact good_line hp hp) rfl hr hr2
end Pl
