/- Conditions and rules in memory: trees of slices, and what keeps them. No condition. -/
import Derived.Test.YtnchipahdfbliaaGreatDoorBase
import Derived.Test.YtnchipahdfbliaaGreatDoorRuC
namespace Go.Proofs.YtnchipahdfbliaaGreatDoor
open Go.RowKit

abbrev str (s : List UInt8) : Value := .string ⟨s.toArray⟩
/-- A condition's cells; v is where its conditions lie. -/
def cC (p : Ru.Cond × Value) : List Value := [.int .i64 p.1.op, str p.1.text, .int .i64 p.1.n, .int .i64 p.1.box.x0, .int .i64 p.1.box.y0, .int .i64 p.1.box.x1, .int .i64 p.1.box.y1, p.2]
/-- A condition as one value. -/
def cA (c : Ru.Cond) (v : Value) : Value := .agg #[.int .i64 c.op, str c.text, .int .i64 c.n, .int .i64 c.box.x0, .int .i64 c.box.y0, .int .i64 c.box.x1, .int .i64 c.box.y1, v]
theorem cC_len (p : Ru.Cond × Value) : (cC p).length = 8 := rfl
abbrev IsConds := @IsList (Ru.Cond × Value) 8 cC
/-- v is where the conditions of c lie, and theirs, and so on. -/
inductive Tree (w : World) : Ru.Cond → Value → Prop
  | mk (op : Int) (t : List UInt8) (n : Int) (b : Ru.Box) (ps : List (Ru.Cond × Value)) (v : Value) : IsConds w v ps → (∀ p ∈ ps, Tree w p.1 p.2) → Tree w (.mk op t n b (ps.map (·.1))) v
theorem Tree.keep {w w' : World} (k : Kp w w' none) {c : Ru.Cond} {v : Value} (h : Tree w c v) : Tree w' c v := by
  induction h with
  | mk op t n b ps v hl _ ih => exact .mk op t n b ps v (hl.keep k) ih
/-- What lies in v. -/
theorem Tree.open {w : World} {c : Ru.Cond} {v : Value} (h : Tree w c v) : ∃ ps : List (Ru.Cond × Value), c.l = ps.map (·.1) ∧ IsConds w v ps ∧ ∀ p ∈ ps, Tree w p.1 p.2 := by
  cases h with
  | mk op t n b ps v hl ht => exact ⟨ps, rfl, hl, ht⟩
theorem Tree.of {w : World} {c : Ru.Cond} {v : Value} {ps : List (Ru.Cond × Value)} (h : c.l = ps.map (·.1)) (hl : IsConds w v ps) (ht : ∀ p ∈ ps, Tree w p.1 p.2) : Tree w c v := by
  obtain ⟨op, t, n, b, l⟩ := c
  have h : l = ps.map (·.1) := h
  subst h
  exact .mk op t n b ps v hl ht
theorem Tree.leaf {w : World} {c : Ru.Cond} (h : c.l = []) : Tree w c (.slice none 0 0) := Tree.of (ps := []) h (.inl ⟨_, _, rfl, rfl⟩) (by simp)
/-- The value that holds a condition's conditions is a slice of one cell. -/
theorem IsList.one {α : Type} {m : Nat} {f : α → List Value} {w : World} {v : Value} {xs : List α} (h : IsList m f w v xs) : v.oneCell' = true := by
  rcases h with ⟨ao, cap, rfl, _⟩ | ⟨b, off, cap, rfl, _⟩ <;> rfl
theorem Tree.one {w : World} {c : Ru.Cond} {v : Value} (h : Tree w c v) : v.oneCell' = true := by
  obtain ⟨ps, _, hl, _⟩ := h.open
  exact hl.one

/-! ### Rules -/
structure RV where
  r : Ru.Rule
  a : Value
  b : Value
def rC (p : RV) : List Value := [str p.r.name, .int .i64 p.r.prio, .int .i64 p.r.what] ++ cC (p.r.a, p.a) ++ cC (p.r.b, p.b) ++ [.int .i64 p.r.value]
def rA (p : RV) : Value := .agg (rC p).toArray
theorem rC_len (p : RV) : (rC p).length = 20 := rfl
abbrev IsRules := @IsList RV 20 rC
def RV.Tree (w : World) (p : RV) : Prop := Go.Proofs.YtnchipahdfbliaaGreatDoor.Tree w p.r.a p.a ∧ Go.Proofs.YtnchipahdfbliaaGreatDoor.Tree w p.r.b p.b
theorem RV.Tree.keep {w w' : World} (k : Kp w w' none) {p : RV} (h : p.Tree w) : p.Tree w' := ⟨Go.Proofs.YtnchipahdfbliaaGreatDoor.Tree.keep k h.1, Go.Proofs.YtnchipahdfbliaaGreatDoor.Tree.keep k h.2⟩
/-- v is a slice of these rules, with all their conditions. -/
def Rules (w : World) (v : Value) (l : List Ru.Rule) : Prop := ∃ ps : List RV, l = ps.map (·.r) ∧ IsRules w v ps ∧ ∀ p ∈ ps, p.Tree w
theorem Rules.keep {w w' : World} (k : Kp w w' none) {v : Value} {l : List Ru.Rule} (h : Rules w v l) : Rules w' v l := by
  obtain ⟨ps, h1, h2, h3⟩ := h
  exact ⟨ps, h1, h2.keep k, fun p hp => (h3 p hp).keep k⟩
end Go.Proofs.YtnchipahdfbliaaGreatDoor
