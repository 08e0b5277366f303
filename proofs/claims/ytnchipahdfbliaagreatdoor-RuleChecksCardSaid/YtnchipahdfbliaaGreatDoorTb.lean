/- Conditions in memory whose blocks meet a condition. No further condition. -/
import Derived.Test.YtnchipahdfbliaaGreatDoorRd
import Derived.Test.YtnchipahdfbliaaGreatDoorRuA
namespace Go.Proofs.YtnchipahdfbliaaGreatDoor
open Go.RowKit

/-- v is where the conditions of c lie, and theirs, and so on; all in blocks that meet S. -/
inductive TreeP (S : Nat → Prop) (w : World) : Ru.Cond → Value → Prop
 | mk (op : Int) (t : List UInt8) (n : Int) (b : Ru.Box) (ps : List (Ru.Cond × Value)) (v : Value) : IsConds w v ps → (∀ a m c, v = .slice (some a) m c → ps ≠ [] → S a.block) → (∀ p ∈ ps, TreeP S w p.1 p.2) → TreeP S w (.mk op t n b (ps.map (·.1))) v
theorem TreeP.tree {S : Nat → Prop} {w : World} {c : Ru.Cond} {v : Value} (h : TreeP S w c v) : Tree w c v := by
 induction h with
 | mk op t n b ps v hl _ _ ih => exact .mk op t n b ps v hl ih
theorem TreeP.mono {S T : Nat → Prop} {w : World} {c : Ru.Cond} {v : Value} (h : TreeP S w c v) (hC : ∀ b, b < w.heap.size → S b → T b) : TreeP T w c v := by
 induction h with
 | mk op t n b ps v hl hb _ ih =>
  refine .mk op t n b ps v hl (fun a m c e h0 => ?_) ih
  refine hC _ ?_ (hb a m c e h0)
  rcases hl with ⟨_, _, e2, e3⟩ | ⟨b2, off, cap, e2, _, hlt, _⟩
  ·exact absurd e3 h0
  ·rw [e] at e2; injection e2 with e2; injection e2 with e2; rw [e2]; exact hlt
theorem isConds_row {S : Nat → Prop} {w w' : World} {v : Value} {ps : List (Ru.Cond × Value)} {row : Option Nat} (h : IsConds w v ps) (hb : ∀ a m c, v = .slice (some a) m c → ps ≠ [] → S a.block) (k : Kp w w' row) (hr : ∀ r, row = some r → ¬ S r) : IsConds w' v ps := by
 rcases h with ⟨ao, cap, rfl, rfl⟩ | ⟨b, off, cap, rfl, hc, hlt, hcell⟩
 ·exact .inl ⟨ao, cap, rfl, rfl⟩
 ·by_cases h0 : ps = []
  ·subst h0; exact .inl ⟨_, _, rfl, rfl⟩
  ·have hbb : S b := hb _ _ _ rfl h0
   exact .inr ⟨b, off, cap, rfl, hc, Nat.lt_of_lt_of_le hlt k.size, fun i hi j hj => by
    rw [World.grownBy.cell_far k ⟨b, off + i * 8 + j, none⟩ hlt (fun e => hr b e.symm hbb)]; exact hcell i hi j hj⟩
theorem TreeP.row {S : Nat → Prop} {w w' : World} {row : Option Nat} {c : Ru.Cond} {v : Value} (h : TreeP S w c v) (k : Kp w w' row) (hr : ∀ r, row = some r → ¬ S r) : TreeP S w' c v := by
 induction h with
 | mk op t n b ps v hl hb _ ih => exact .mk op t n b ps v (isConds_row hl hb k hr) hb ih
theorem TreeP.keep {S : Nat → Prop} {w w' : World} {c : Ru.Cond} {v : Value} (h : TreeP S w c v) (k : Kp w w' none) : TreeP S w' c v := h.row k (by simp)
theorem TreeP.of {S : Nat → Prop} {w : World} {c : Ru.Cond} {v : Value} {ps : List (Ru.Cond × Value)} (h : c.l = ps.map (·.1)) (hl : IsConds w v ps) (hb : ∀ a m c, v = .slice (some a) m c → ps ≠ [] → S a.block) (ht : ∀ p ∈ ps, TreeP S w p.1 p.2) : TreeP S w c v := by
 obtain ⟨op, t, n, b, l⟩ := c
 have h : l = ps.map (·.1) := h
 subst h
 exact .mk op t n b ps v hl hb ht
theorem TreeP.leaf {S : Nat → Prop} {w : World} {c : Ru.Cond} (h : c.l = []) : TreeP S w c (.slice none 0 0) := TreeP.of (ps := []) h (.inl ⟨_, _, rfl, rfl⟩) (fun _ _ _ _ h => absurd rfl h) (by simp)
theorem TreeP.slice {S : Nat → Prop} {w : World} {c : Ru.Cond} {v : Value} (h : TreeP S w c v) : ∃ ao n cap, v = .slice ao n cap := h.tree.slice
/-- All in blocks from base on. -/
abbrev TreeB (base : Nat) := TreeP (fun b => base ≤ b)
end Go.Proofs.YtnchipahdfbliaaGreatDoor
