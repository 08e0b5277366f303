/- The plain law of the rules: names, conditions, their words, rules, and the reading of lines. No program is in sight; no condition. -/
import Derived.Test.YtnchipahdfbliaaGreatDoorPlain
namespace Go.Proofs.YtnchipahdfbliaaGreatDoor.Ru
open Go Go.Proofs.YtnchipahdfbliaaGreatDoor
abbrev Bytes := List UInt8

/-! ### Pieces between bytes -/
/-- The pieces of a string between bytes e. -/
def pieces (e : UInt8) : Bytes → List Bytes
  | [] => [[]]
  | c :: l => if c = e then [] :: pieces e l else match pieces e l with
    | [] => [[c]]
    | p :: r => (c :: p) :: r
theorem pieces_ne (e : UInt8) (l : Bytes) : pieces e l ≠ [] := by
  cases l with
  | nil => simp [pieces]
  | cons c l => unfold pieces; split; simp; split <;> simp
/-- Words with a byte between them. -/
def joinB (e : UInt8) : List Bytes → Bytes
  | [] => []
  | [w] => w
  | w :: v :: r => w ++ e :: joinB e (v :: r)
theorem pieces_plain (e : UInt8) : ∀ (w : Bytes), e ∉ w → pieces e w = [w]
  | [], _ => rfl
  | c :: w, h => by
    have hc : c ≠ e := fun x => h (by simp [x])
    rw [pieces, if_neg hc, pieces_plain e w (fun x => h (by simp [x]))]
theorem pieces_app (e : UInt8) : ∀ (w r : Bytes), e ∉ w → pieces e (w ++ e :: r) = w :: pieces e r
  | [], r, _ => by simp [pieces]
  | c :: w, r, h => by
    have hc : c ≠ e := fun x => h (by simp [x])
    rw [List.cons_append, pieces, if_neg hc, pieces_app e w r (fun x => h (by simp [x]))]
theorem pieces_join (e : UInt8) : ∀ (ws : List Bytes), ws ≠ [] → (∀ w ∈ ws, e ∉ w) → pieces e (joinB e ws) = ws
  | [], h, _ => absurd rfl h
  | [w], _, h => pieces_plain e w (h w (by simp))
  | w :: v :: r, _, h => by
    rw [joinB, pieces_app e w _ (h w (by simp)), pieces_join e (v :: r) (by simp) (fun x hx => h x (by simp [hx]))]
theorem join_pieces (e : UInt8) : ∀ (l : Bytes), joinB e (pieces e l) = l
  | [] => rfl
  | c :: l => by
    have ih := join_pieces e l
    unfold pieces
    split
    · rename_i hc
      have hn := pieces_ne e l
      cases hp : pieces e l with
      | nil => exact absurd hp hn
      | cons p r => rw [joinB, ← hp, ih, hc]; rfl
    · cases hp : pieces e l with
      | nil => exact absurd hp (pieces_ne e l)
      | cons p r =>
        rw [hp] at ih
        cases r with
        | nil => simp only [joinB] at ih ⊢; rw [ih]
        | cons q r => simp only [joinB] at ih ⊢; rw [← ih]; rfl
theorem pieces_no (e : UInt8) : ∀ (l : Bytes), ∀ p ∈ pieces e l, e ∉ p
  | [], p, h => by simp [pieces] at h; subst h; simp
  | c :: l, p, h => by
    have ih := pieces_no e l
    unfold pieces at h
    split at h
    · rcases List.mem_cons.1 h with rfl | h
      · simp
      · exact ih p h
    · rename_i hc
      split at h
      · simp at h; subst h; simp; exact fun x => hc x.symm
      · rename_i q r hq
        rcases List.mem_cons.1 h with rfl | h
        · intro hx
          rcases List.mem_cons.1 hx with hx | hx
          · exact hc hx.symm
          · exact ih q (by rw [hq]; simp) hx
        · exact ih p (by rw [hq]; simp [h])
theorem join_app (e : UInt8) : ∀ (a b : List Bytes), a ≠ [] → b ≠ [] → joinB e (a ++ b) = joinB e a ++ e :: joinB e b
  | [], _, h, _ => absurd rfl h
  | [w], b, _, hb => by
    cases b with
    | nil => exact absurd rfl hb
    | cons v r => rfl
  | w :: v :: r, b, _, hb => by
    have ih := join_app e (v :: r) b (by simp) hb
    rw [List.cons_append, List.cons_append, joinB, ← List.cons_append, ih, joinB]; simp

/-! ### Names -/
def letter (c : UInt8) : Bool := decide (97 ≤ c.toNat ∧ c.toNat ≤ 122) || decide (65 ≤ c.toNat ∧ c.toNat ≤ 90)
def digit (c : UInt8) : Bool := decide (48 ≤ c.toNat ∧ c.toNat ≤ 57)
def nameC (c : UInt8) : Bool := letter c || digit c || c == 95 || c == 43 || c == 45
def nameR (s : Bytes) : Bool := match s with
  | [] => false
  | c :: _ => decide (s.length ≤ 16) && s.all nameC && (letter c || c == 43)
/-- What an index is: canonical, from 0 to 999. -/
def idx (s : Bytes) : Option Int := match Wr.parse s with
  | some n => if 0 ≤ n ∧ n ≤ 999 then some n else none
  | none => none
/-- The members of a bus from a on, towards b. -/
def memb (name : Bytes) (n : Int) : Bytes := name ++ 91 :: Lib.itoa n ++ [93]
def members (name : Bytes) (a b : Int) : List Bytes :=
  if a ≤ b then (List.range ((b - a).toNat + 1)).map fun k : Nat => memb name (a + (k : Int)) else (List.range ((a - b).toNat + 1)).map fun k : Nat => memb name (a - (k : Int))
/-- The two indices between the brackets. -/
def ends (inner : Bytes) : Option (Int × Int) := match Lib.cut inner [46, 46] with
  | (f, t, sev) => match idx f, idx (if sev then t else f) with
    | some a, some b => if a - b ≤ 15 ∧ b - a ≤ 15 then some (a, b) else none
    | _, _ => none
/-- What is in brackets behind a name. -/
def bus (s : Bytes) : Option (Bytes × Int × Int) := match Wr.cut1 91 s with
  | none => none
  | some (name, rest) => match rest.getLast? with
    | some 93 => if nameR name then (ends rest.dropLast).map fun p => (name, p.1, p.2) else none
    | _ => none
def expand (s : Bytes) : Option (List Bytes) := if nameR s then some [s] else (bus s).map fun p => members p.1 p.2.1 p.2.2
def member (s : Bytes) : Bool := expand s == some [s]
def split (s : Bytes) : Option (List Bytes) := if (pieces 47 s).all member then some (pieces 47 s) else none

/-! ### Conditions -/
structure Box where
  x0 : Int
  y0 : Int
  x1 : Int
  y1 : Int
  deriving DecidableEq, Repr
def Box.none : Box := ⟨0, 0, 0, 0⟩
inductive Cond where
  | mk (op : Int) (text : Bytes) (n : Int) (box : Box) (l : List Cond)
namespace Cond
def op : Cond → Int | .mk o _ _ _ _ => o
def text : Cond → Bytes | .mk _ t _ _ _ => t
def n : Cond → Int | .mk _ _ n _ _ => n
def box : Cond → Box | .mk _ _ _ b _ => b
def l : Cond → List Cond | .mk _ _ _ _ l => l
theorem ind {P : Cond → Prop} (h : ∀ op t n b l, (∀ c ∈ l, P c) → P (.mk op t n b l)) : ∀ c, P c
  | .mk op t n b l => h op t n b l (fun c _ => ind h c)
end Cond
def cAny : Cond := .mk 1 [] 0 .none []

mutual
def size : Cond → Nat
  | .mk _ _ _ _ l => sizes l + 1
def sizes : List Cond → Nat
  | [] => 0
  | c :: l => size c + sizes l
end
theorem size_mk (op : Int) (t : Bytes) (n : Int) (b : Box) (l : List Cond) : size (.mk op t n b l) = sizes l + 1 := by rw [size]
theorem sizes_app (a b : List Cond) : sizes (a ++ b) = sizes a + sizes b := by
  induction a with
  | nil => simp [sizes]
  | cons c a ih => simp [sizes, ih, Nat.add_assoc]
theorem size_pos (c : Cond) : 1 ≤ size c := by cases c; rw [size]; omega
theorem size_le {c : Cond} {l : List Cond} (h : c ∈ l) : size c ≤ sizes l := by
  induction l with
  | nil => cases h
  | cons d l ih =>
    rw [sizes]
    rcases List.mem_cons.1 h with rfl | h
    · omega
    · have := ih h; omega

def coordR (x : Int) : Bool := decide (-67108864 ≤ x ∧ x ≤ 67108864)
def boxR (b : Box) : Bool := decide (b.x0 ≤ b.x1) && decide (b.y0 ≤ b.y1) && (coordR b.x0 && coordR b.y0) && (coordR b.x1 && coordR b.y1)
def splitR (t : Bytes) : Bool := match split t with
  | some l => decide (l.length ≤ 5)
  | none => false
def fine (op : Int) (t : Bytes) (n : Int) (b : Box) (k : Nat) : Bool :=
  if op = 1 then true else if op = 2 then splitR t else if op = 3 then nameR t else if op = 4 then decide (1 ≤ n ∧ n ≤ 5) else if op = 5 then decide (1 ≤ n ∧ n ≤ 4)
  else if op = 6 then decide (1 ≤ n ∧ n ≤ 1000000000) else if op = 7 then boxR b else if op = 8 then k == 1 else if op = 9 ∨ op = 10 then decide (2 ≤ k) else false
def rest (op : Int) (t : Bytes) (n : Int) (b : Box) (k : Nat) : Bool :=
  (decide (op = 2 ∨ op = 3) || t.isEmpty) && (decide (op = 4 ∨ op = 5 ∨ op = 6) || n == 0) && (decide (op = 7) || decide (b = .none)) && (decide (op = 8 ∨ op = 9 ∨ op = 10) || k == 0)
mutual
def right : Cond → Bool
  | .mk op t n b l => fine op t n b l.length && rest op t n b l.length && rights l
def rights : List Cond → Bool
  | [] => true
  | c :: l => right c && rights l
end
theorem right_mk (op : Int) (t : Bytes) (n : Int) (b : Box) (l : List Cond) : right (.mk op t n b l) = (fine op t n b l.length && rest op t n b l.length && rights l) := by rw [right]
theorem rights_all (l : List Cond) : rights l = l.all right := by
  induction l with
  | nil => simp [rights]
  | cons c l ih => rw [rights, ih, List.all_cons]

/-! ### Words -/
def kwAny : Bytes := [97, 110, 121]
def kwNet : Bytes := [110, 101, 116]
def kwClass : Bytes := [99, 108, 97, 115, 115]
def kwKind : Bytes := [107, 105, 110, 100]
def kwLayer : Bytes := [108, 97, 121, 101, 114]
def kwPart : Bytes := [112, 97, 114, 116]
def kwIn : Bytes := [105, 110]
def kwNot : Bytes := [110, 111, 116]
def kwAnd : Bytes := [97, 110, 100]
def kwOr : Bytes := [111, 114]
def kwL : Bytes := [40]
def kwR : Bytes := [41]
def kwRule : Bytes := [114, 117, 108, 101]
def kwWhen : Bytes := [119, 104, 101, 110]
def kwTo : Bytes := [116, 111]
def whats : List Bytes := [[99, 108, 101, 97, 114], [119, 105, 100, 116, 104], [101, 100, 103, 101], [114, 105, 110, 103]]

/-- Whether a condition stands in brackets within another one. -/
def brk (ar op : Int) : Bool := decide (op = 10 ∧ ar ≠ 0) || decide (op = 9 ∧ ar ≠ 0 ∧ ar ≠ 10)
def inB (b : Bool) (ws : List Bytes) : List Bytes := if b then kwL :: ws ++ [kwR] else ws
mutual
def write : Int → Cond → List Bytes
  | ar, .mk op t n b l =>
    if op = 1 then [kwAny] else if op = 2 then [kwNet, t] else if op = 3 then [kwClass, t] else if op = 4 then [kwKind, Lib.itoa n] else if op = 5 then [kwLayer, Lib.itoa n]
    else if op = 6 then [kwPart, Lib.itoa n] else if op = 7 then [kwIn, Lib.itoa b.x0, Lib.itoa b.y0, Lib.itoa b.x1, Lib.itoa b.y1]
    else if op = 8 then kwNot :: writeH op l
    else inB (brk ar op) (writes (if op = 10 then kwOr else kwAnd) op l)
def writeH : Int → List Cond → List Bytes
  | _, [] => []
  | op, c :: _ => write op c
def writes : Bytes → Int → List Cond → List Bytes
  | _, _, [] => []
  | w, op, c :: l => write op c ++ writesT w op l
def writesT : Bytes → Int → List Cond → List Bytes
  | _, _, [] => []
  | w, op, c :: l => w :: write op c ++ writesT w op l
end

/-! ### Rules -/
structure Rule where
  name : Bytes
  prio : Int
  what : Int
  value : Int
  a : Cond
  b : Cond
def one (r : Rule) (before : List Bytes) : Int :=
  if nameR r.name = false then 20 else if r.name ∈ before then 6 else if r.prio < 0 ∨ 1000 < r.prio then 3 else if r.what < 1 ∨ 4 < r.what then 40 else if r.value < 0 ∨ 4194304 < r.value then 3
  else if right r.a = false ∨ right r.b = false then 40 else if 20 < size r.a ∨ 20 < size r.b then 2 else if r.what ≠ 1 ∧ r.b.op ≠ 1 then 40 else 0
def checkL (before : List Bytes) : List Rule → Int
  | [] => 0
  | r :: l => if one r before = 0 then checkL (before ++ [r.name]) l else one r before
def check (l : List Rule) : Int := if 24 < l.length then 2 else checkL [] l
def wordsOf (r : Rule) : List Bytes :=
  [kwRule, r.name, Lib.itoa r.prio, whats.getD (r.what - 1).toNat [], Lib.itoa r.value, kwWhen] ++ write 0 r.a ++ (if r.what = 1 then kwTo :: write 0 r.b else [])
def lineOf (r : Rule) : Bytes := joinB 32 (wordsOf r) ++ [10]
def textOf (l : List Rule) : Bytes := l.flatMap lineOf
def text (l : List Rule) : Bytes × Int := if check l = 0 then (textOf l, 0) else ([], check l)

/-! ### Reading -/
abbrev Ws := List Bytes
def next : Ws → Option (Bytes × Ws)
  | [] => none
  | w :: r => if w = [] then none else some (w, r)
def num (s : Bytes) : Option Int := match Wr.parse s with
  | some n => if -10000000000 < n ∧ n < 10000000000 then some n else none
  | none => none
def number (ws : Ws) : Option (Int × Ws) := match next ws with
  | none => none
  | some (w, r) => (num w).map fun n => (n, r)
def must (k : Bytes) (ws : Ws) : Option Ws := match next ws with
  | none => none
  | some (w, r) => if w = k then some r else none
def four (ws : Ws) : Option (Box × Ws) :=
  (number ws).bind fun (x0, r) => (number r).bind fun (y0, r) => (number r).bind fun (x1, r) => (number r).map fun (y1, r) => (⟨x0, y0, x1, y1⟩, r)
/-- One condition alone, or several under an operator. -/
def mk1 (op : Int) (l : List Cond) : Cond := match l with | [c] => c | _ => .mk op [] 0 .none l
/-- More conditions with a word between them. -/
def more (word : Bytes) (op : Int) (rd : Ws → Option (Cond × Ws)) : Nat → List Cond → Ws → Option (Cond × Ws)
  | 0, l, r => some (mk1 op l, r)
  | k + 1, l, r => if r.head? = some word then match rd r.tail with
    | none => none
    | some (c, r') => more word op rd k (l ++ [c]) r' else some (mk1 op l, r)
def lst (word : Bytes) (op : Int) (rd : Ws → Option (Cond × Ws)) (ws : Ws) : Option (Cond × Ws) := match rd ws with
  | none => none
  | some (c, r) => more word op rd r.length [c] r
def leaf (op : Int) (t : Bytes) (n : Int) (b : Box) : Cond := .mk op t n b []
def orc (fac : Ws → Option (Cond × Ws)) (ws : Ws) : Option (Cond × Ws) := lst kwOr 10 (lst kwAnd 9 fac) ws
def fac : Nat → Ws → Option (Cond × Ws)
  | 0, _ => none
  | n + 1, ws => match next ws with
    | none => none
    | some (w, r) =>
      if w = kwNet then (next r).map fun p => (leaf 2 p.1 0 .none, p.2)
      else if w = kwClass then (next r).map fun p => (leaf 3 p.1 0 .none, p.2)
      else if w = kwKind then (number r).map fun p => (leaf 4 [] p.1 .none, p.2)
      else if w = kwLayer then (number r).map fun p => (leaf 5 [] p.1 .none, p.2)
      else if w = kwPart then (number r).map fun p => (leaf 6 [] p.1 .none, p.2)
      else if w = kwAny then some (cAny, r)
      else if w = kwIn then (four r).map fun p => (leaf 7 [] 0 p.1, p.2)
      else if w = kwNot then (fac n r).map fun p => (.mk 8 [] 0 .none [p.1], p.2)
      else if w = kwL then (orc (fac n) r).bind fun p => (must kwR p.2).map fun q => (p.1, q)
      else none
def whatOf (w : Bytes) : Int := match whats.idxOf? w with
  | some k => k + 1
  | none => 0
def lineW (ws : Ws) : Option Rule :=
  (must kwRule ws).bind fun r => (next r).bind fun (nm, r) => (number r).bind fun (prio, r) => (next r).bind fun (wh, r) => (number r).bind fun (v, r) => (must kwWhen r).bind fun r =>
  (orc (fac r.length) r).bind fun (a, r) =>
  if whatOf wh = 1 then (must kwTo r).bind fun r => (orc (fac r.length) r).bind fun (b, r) => if r = [] then some ⟨nm, prio, 1, v, a, b⟩ else none
  else if 0 < whatOf wh ∧ r = [] then some ⟨nm, prio, whatOf wh, v, a, cAny⟩ else none
def line (s : Bytes) : Option Rule := lineW (pieces 32 s)
/-- What reading gives: rules, the number of a line, an error. -/
def parseL (n : Int) (acc : List Rule) : List Bytes → List Rule × Int × Int
  | [] => ([], 0, 0)
  | [z] => if z ≠ [] then ([], n, 4) else if check acc = 0 then (acc, 0, 0) else ([], 0, check acc)
  | x :: y :: r => match line x with
    | none => ([], n, 4)
    | some q => parseL (n + 1) (acc ++ [q]) (y :: r)
def parse (s : Bytes) : List Rule × Int × Int := if 262144 < s.length then ([], 0, 2) else parseL 1 [] (pieces 10 s)

end Go.Proofs.YtnchipahdfbliaaGreatDoor.Ru
