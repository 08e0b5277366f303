/- Lists of rules: appended to, and a field of one stored. Conditions: lists of at most 10^6. -/
import Derived.Test.YtnchipahdfbliaaGreatDoorOe
namespace Go.Proofs.YtnchipahdfbliaaGreatDoor
open Go.RowKit

theorem treeP_of {w : World} {c : Ru.Cond} {v : Value} (h : Tree w c v) : TreeP (fun b => b < w.heap.size) w c v := by
 induction h with
 | mk op t n b ps v hl _ ih =>
  refine .mk op t n b ps v hl (fun a m p e h0 => ?_) ih
  rcases hl with ⟨_, _, _, e3⟩ | ⟨b2, off, cap, e2, _, hlt, _⟩
  ·exact absurd e3 h0
  ·rw [e] at e2; injection e2 with e2; injection e2 with e2; rw [e2]; exact hlt
/-- A rule with where its conditions lie. -/
abbrev RD : Type := Ru.Rule × (Option Addr × Nat × Nat) × (Option Addr × Nat × Nat)
def toR (d : RD) : RV := ⟨d.1, .slice d.2.1.1 d.2.1.2.1 d.2.1.2.2, .slice d.2.2.1 d.2.2.2.1 d.2.2.2.2⟩
def rD (d : RD) : List Value := rC (toR d)
def RSl (p : RV) : Prop := (∃ a m c, p.a = .slice a m c) ∧ ∃ a m c, p.b = .slice a m c
theorem to_rs : ∀ (ps : List RV), (∀ p ∈ ps, RSl p) → ∃ ds : List RD, ps = ds.map toR
 | [], _ => ⟨[], rfl⟩
 | p :: ps, h => by
  obtain ⟨⟨a, m, c, e⟩, a', m', c', e'⟩ := h p (by simp)
  obtain ⟨ds, hd⟩ := to_rs ps (fun q hq => h q (by simp [hq]))
  refine ⟨(p.r, (a, m, c), (a', m', c')) :: ds, ?_⟩
  rw [List.map_cons, ← hd]
  congr 1
  obtain ⟨r, va, vb⟩ := p
  simp only at e e'
  subst e; subst e'
  rfl
theorem isList_rs {w : World} {v : Value} {ds : List RD} (h : IsList 20 rC w v (ds.map toR)) : IsList 20 rD w v ds := by
 rcases h with ⟨ao, cap, e1, e2⟩ | ⟨b, off, cap, e1, h1, h2, h3⟩
 ·exact .inl ⟨ao, cap, e1, List.map_eq_nil_iff.1 e2⟩
 ·rw [List.length_map] at e1 h1
  refine .inr ⟨b, off, cap, e1, h1, h2, fun k h j h4 => ?_⟩
  have := h3 k (by rw [List.length_map]; exact h) j (by rw [List.getElem_map]; exact h4)
  simp only [List.getElem_map] at this
  exact this
theorem rD_flat (ds : List RD) : ds.flatMap rD = (ds.map toR).flatMap rC := by rw [List.flatMap_map]; rfl
theorem app_rules {w : World} {ops : Array Oper} {rest : List Oper} {o : Oper} {a : Act} {Q : Exit → Act → World → Prop} (hgd : o.guard = none) (s xo : Operand) (base : Nat)
  (ho : o.op = .call { callee := .builtin .append, args := #[s, xo], argTypes := #[25, 25] }) (v : Value) (n : Nat) (xs : List Value) (hs : a.eval s = v) (hown : w.ownsRow base 42 20 v n xs) (x : Value) (ps : List RV) (hxo : a.eval xo = x) (hx : IsList 20 rC w x ps) (hsl : ∀ p ∈ ps, RSl p)
  (h63 : n + ps.length ≤ 1000000) (hbase : base ≤ w.heap.size)
  (h : ∀ v' w', w'.ownsRow base 42 20 v' (n + ps.length) (xs ++ ps.flatMap rC) → w.grownBy w' v.ownBlock → (v'.ownBlock = v.ownBlock ∨ v'.ownBlock = some w.heap.size) → wpList Tryz.prog ops Q rest (a.put o.dst v') w') : wpList Tryz.prog ops Q (o :: rest) a w := by
 obtain ⟨ds, hd⟩ := to_rs ps hsl
 obtain ⟨i0, hi, hz0, hz1, hz2⟩ := info_parts info42f
 subst hd
 have hl : (ds.map toR).length = ds.length := List.length_map ..
 rw [hl] at h63
 refine wpList_app (f := rD) hgd s xo base 25 42 ho i0 _ 20 216 Tryz.underlying25 hi hz0 hz1 hz2 rfl (by omega) (fun _ => rfl) (fun d => by simp [rD, rC, cC, toR, Value.oneCell']) v n xs hs hown x ds hxo (isList_rs hx) (by unfold maxLen; omega) (by omega) hbase (fun v' w' h1 h2 h3 => h v' w' (by rw [hl, ← rD_flat]; exact h1) h2 h3)
theorem ownr_empty {w : World} {base : Nat} (hb : base ≤ w.heap.size) : (w.alloc (.cells #[] 42)).ownsRow base 42 20 (.slice (some ⟨w.heap.size, 0, none⟩) 0 0) 0 [] :=
 ⟨rfl, .inr ⟨w.heap.size, 0, #[], rfl, hb, heap_alloc_new w _, Nat.le_refl _, by unfold maxLen; omega, rfl, rfl⟩⟩
theorem ownr_one {w : World} {base : Nat} (p : RV) (hb : base ≤ w.heap.size) : (w.alloc (.cells (rC p).toArray 42)).ownsRow base 42 20 (.slice (some ⟨w.heap.size, 0, none⟩) 1 1) [p].length ([p].flatMap rC) :=
 ⟨rfl, .inr ⟨w.heap.size, 1, (rC p).toArray, rfl, hb, heap_alloc_new w _, Nat.le_refl _, by unfold maxLen; omega, rfl, rfl⟩⟩
/-- The list in a block, of whose element number k some cells are stored anew. -/
theorem ownr_put {w' : World} {base g cap n k off : Nat} {cs : Array Value} {ps : List RV} {x y : RV} {vs : List Value} (hn : ps.length = n) (hk : k < n) (hx : ps[k]'(by omega) = x) (hb : base ≤ g) (hcap : n ≤ cap) (hm : cap ≤ maxLen) (hs : cs.size = cap * 20) (ht : cs.toList.take (n * 20) = ps.flatMap rC)
  (hoff : off + vs.length ≤ 20) (hy : rC y = (rC x).take off ++ (vs ++ (rC x).drop (off + vs.length)))
  (h : w'.heap[g]? = some (.cells (putAll cs (k * 20 + off) vs) 42 (0, 0))) : w'.ownsRow base 42 20 (.slice (some ⟨g, 0, none⟩) n cap) n ((ps.set k y).flatMap rC) := by
 have hkp : k < ps.length := by omega
 have hcl : ∀ z, (rC z).length = 20 := fun _ => rfl
 have hle : k * 20 + 20 ≤ n * 20 := by omega
 have hcn : n * 20 ≤ cap * 20 := Nat.mul_le_mul_right _ hcap
 have hpl := putAll_list vs cs (k * 20 + off) (by rw [hs]; omega)
 have hsz : (putAll cs (k * 20 + off) vs).size = cap * 20 := by
  have := congrArg List.length hpl
  simp only [Array.length_toList, List.length_append, List.length_take, List.length_drop, hs] at this
  omega
 have ha : ((ps.take k).flatMap rC).length = k * 20 := by rw [flat_len (m := 20) hcl, List.length_take, Nat.min_eq_left (Nat.le_of_lt hkp)]
 have ho : ((rC x).take off).length = off := by rw [List.length_take, hcl]; omega
 have hmid : (((rC x).drop off).take vs.length).length = vs.length := by rw [List.length_take, List.length_drop, hcl]; omega
 have hxx : rC x = (rC x).take off ++ (((rC x).drop off).take vs.length ++ (rC x).drop (off + vs.length)) := by
  conv => lhs; rw [← List.take_append_drop off (rC x), ← List.take_append_drop vs.length ((rC x).drop off), List.drop_drop]
 have hps : ps.flatMap rC = ((ps.take k).flatMap rC ++ (rC x).take off) ++ (((rC x).drop off).take vs.length ++ ((rC x).drop (off + vs.length) ++ (ps.drop (k + 1)).flatMap rC)) := by
  conv => lhs; rw [← List.take_append_drop k ps, List.drop_eq_getElem_cons hkp, hx, List.flatMap_append, List.flatMap_cons, hxx]
  simp only [List.append_assoc]
 have hset : (ps.set k y).flatMap rC = ((ps.take k).flatMap rC ++ (rC x).take off) ++ (vs ++ ((rC x).drop (off + vs.length) ++ (ps.drop (k + 1)).flatMap rC)) := by
  rw [List.set_eq_take_append_cons_drop, if_pos hkp, List.flatMap_append, List.flatMap_cons, hy]
  simp only [List.append_assoc]
 have hfin := list_put (L := cs.toList) (A := (ps.take k).flatMap rC ++ (rC x).take off) (x := ((rC x).drop off).take vs.length) (B := (rC x).drop (off + vs.length) ++ (ps.drop (k + 1)).flatMap rC) (y := vs) (m := n * 20) (ht.trans hps) hmid.symm (by rw [Array.length_toList, hs]; exact hcn)
 rw [List.length_append, ha, ho] at hfin
 refine ⟨by rw [flat_len (m := 20) hcl, List.length_set, hn], .inr ⟨g, cap, _, rfl, hb, h, hcap, hm, hsz, ?_⟩⟩
 rw [hpl, hset]; exact hfin
end Go.Proofs.YtnchipahdfbliaaGreatDoor
