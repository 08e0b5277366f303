/- Lists of conditions: appended to, cut, and one stored among them. Conditions: lists of at most 10^6. -/
import Derived.Test.YtnchipahdfbliaaGreatDoorFw
namespace Go.Proofs.YtnchipahdfbliaaGreatDoor
open Go.RowKit

/-- A condition with where its own lie. -/
abbrev CD : Type := Ru.Cond × Option Addr × Nat × Nat
def toP (d : CD) : Ru.Cond × Value := (d.1, .slice d.2.1 d.2.2.1 d.2.2.2)
def cD (d : CD) : List Value := cC (toP d)
theorem to_ds : ∀ (ps : List (Ru.Cond × Value)), (∀ p ∈ ps, ∃ a m c, p.2 = .slice a m c) → ∃ ds : List CD, ps = ds.map toP
 | [], _ => ⟨[], rfl⟩
 | p :: ps, h => by
  obtain ⟨a, m, c, e⟩ := h p (by simp)
  obtain ⟨ds, hd⟩ := to_ds ps (fun q hq => h q (by simp [hq]))
  exact ⟨(p.1, a, m, c) :: ds, by rw [List.map_cons, ← hd]; congr 1; exact Prod.ext rfl e⟩
theorem isList_ds {w : World} {v : Value} {ds : List CD} (h : IsList 8 cC w v (ds.map toP)) : IsList 8 cD w v ds := by
 rcases h with ⟨ao, cap, e1, e2⟩ | ⟨b, off, cap, e1, h1, h2, h3⟩
 ·exact .inl ⟨ao, cap, e1, List.map_eq_nil_iff.1 e2⟩
 ·rw [List.length_map] at e1 h1
  refine .inr ⟨b, off, cap, e1, h1, h2, fun k h j h4 => ?_⟩
  have := h3 k (by rw [List.length_map]; exact h) j (by rw [List.getElem_map]; exact h4)
  simp only [List.getElem_map] at this
  exact this
theorem cD_flat (ds : List CD) : ds.flatMap cD = (ds.map toP).flatMap cC := by rw [List.flatMap_map]; rfl
theorem app_conds {w : World} {ops : Array Oper} {rest : List Oper} {o : Oper} {a : Act} {Q : Exit → Act → World → Prop} (hgd : o.guard = none) (s xo : Operand) (base : Nat)
  (ho : o.op = .call { callee := .builtin .append, args := #[s, xo], argTypes := #[38, 38] }) (v : Value) (n : Nat) (xs : List Value) (hs : a.eval s = v) (hown : w.ownsRow base 40 8 v n xs) (x : Value) (ps : List (Ru.Cond × Value)) (hxo : a.eval xo = x) (hx : IsList 8 cC w x ps) (hsl : ∀ p ∈ ps, ∃ a m c, p.2 = .slice a m c)
  (h63 : n + ps.length ≤ 1000000) (hbase : base ≤ w.heap.size)
  (h : ∀ v' w', w'.ownsRow base 40 8 v' (n + ps.length) (xs ++ ps.flatMap cC) → w.grownBy w' v.ownBlock → (v'.ownBlock = v.ownBlock ∨ v'.ownBlock = some w.heap.size) → wpList Tryz.prog ops Q rest (a.put o.dst v') w') : wpList Tryz.prog ops Q (o :: rest) a w := by
 obtain ⟨ds, hd⟩ := to_ds ps hsl
 obtain ⟨i0, hi, hz0, hz1, hz2⟩ := info_parts info40
 subst hd
 have hl : (ds.map toP).length = ds.length := List.length_map ..
 rw [hl] at h63
 refine wpList_app (f := cD) hgd s xo base 38 40 ho i0 _ 8 88 Tryz.underlying38 hi hz0 hz1 hz2 rfl (by omega) (fun _ => rfl) (fun d => by simp [cD, cC, toP, Value.oneCell']) v n xs hs hown x ds hxo (isList_ds hx) (by unfold maxLen; omega) (by omega) hbase (fun v' w' h1 h2 h3 => h v' w' (by rw [hl, ← cD_flat]; exact h1) h2 h3)
theorem own_empty {w : World} {base : Nat} (hb : base ≤ w.heap.size) : (w.alloc (.cells #[] 40)).ownsRow base 40 8 (.slice (some ⟨w.heap.size, 0, none⟩) 0 0) 0 [] :=
 ⟨rfl, .inr ⟨w.heap.size, 0, #[], rfl, hb, heap_alloc_new w _, Nat.le_refl _, by unfold maxLen; omega, rfl, rfl⟩⟩
theorem tree_slice {S : Nat → Prop} {w : World} {ps : List (Ru.Cond × Value)} (h : ∀ p ∈ ps, TreeP S w p.1 p.2) : ∀ p ∈ ps, ∃ a m c, p.2 = .slice a m c := fun p hp => (h p hp).slice
/-- Conditions that a list of the call's own holds. -/
theorem tree_own {S : Nat → Prop} {w : World} {base : Nat} {c : Ru.Cond} {a : Option Addr} {m p : Nat} {xs : List (Ru.Cond × Value)} (hc : c.l = xs.map (·.1)) (ho : w.ownsRow base 40 8 (.slice a m p) xs.length (xs.flatMap cC)) (hS : ∀ b, base ≤ b → S b) (ht : ∀ x ∈ xs, TreeP S w x.1 x.2) : TreeP S w c (.slice a m p) :=
 TreeP.of hc (isList_own (m := 8) (f := cC) (fun _ => rfl) ho) (fun a' m' c' e _ => hS _ (by
  injection e with e
  exact (ho.lt a'.block (by rw [e]; rfl)).1)) ht
/-- A list without its first condition. -/
theorem isConds_tail {w : World} {b off cap n : Nat} {x : Ru.Cond × Value} {ps : List (Ru.Cond × Value)} (h : LiesAt 8 cC w (some ⟨b, off, none⟩) cap (x :: ps)) (hn : ps.length = n) : IsList 8 cC w (.slice (some ⟨b, off + 8, none⟩) n (cap - 1)) ps := by
 obtain ⟨b', off', e, hb, hc, _⟩ := h 0 (by simp)
 injection e with e; injection e with e1 e2
 subst e1; subst e2; subst hn
 refine .inr ⟨b, off + 8, cap - 1, rfl, by simp at hc; omega, hb, fun k hk j hj => ?_⟩
 obtain ⟨b2, off2, e, _, _, hr⟩ := h (k + 1) (by simp; omega)
 injection e with e; injection e with e1 e2
 subst e1; subst e2
 have := hr j (by simpa using hj)
 rw [show off + 8 + k * 8 + j = off + (k + 1) * 8 + j by omega]
 simpa using this
end Go.Proofs.YtnchipahdfbliaaGreatDoor
