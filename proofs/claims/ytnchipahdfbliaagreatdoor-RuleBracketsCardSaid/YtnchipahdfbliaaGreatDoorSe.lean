/- The examples of the chapter, run. Conditions: what a machine holds. -/
import Derived.Test.YtnchipahdfbliaaGreatDoorSd
import Derived.Test.YtnchipahdfbliaaGreatDoorRuE
namespace Go.Proofs.YtnchipahdfbliaaGreatDoor
open Go.RowKit

theorem wpList_want {P : Program} {ops : Array Oper} {Q : Exit → Act → World → Prop} {a : Act} {w : World} {rest : List Oper} {o : Oper} (hw : Region.wanted o (yielded ops a.tmps) = true) (h : ∀ K : Act → World → Prop, (∀ a w, wpList P ops Q rest a w → K a w) → o.wp P a w K Q) : wpList P ops Q (o :: rest) a w :=
  wpList_step fun K hK => by rw [if_pos hw]; exact h K hK
theorem wpList_load_want {P : Program} {ops : Array Oper} {rest : List Oper} {op : Oper} {a : Act} {w : World} {Q : Exit → Act → World → Prop} (hw : Region.wanted op (yielded ops a.tmps) = true) (ty : TypeId) (x : Operand) (ho : op.op = .load ty x)
    (b o : Nat) (hx : a.eval x = .pointer (some ⟨b, o, none⟩)) (cs : List Value) (d : TypeDesc) (hc : w.rangeAt b o cs) (hu : P.underlying ty = some d) (hd : d.isRow = true) (hi : (P.info? ty).map (·.size) = some cs.length)
    (h : wpList P ops Q rest (a.put op.dst (.agg cs.toArray)) w) : wpList P ops Q (op :: rest) a w :=
  wpList_want hw fun _ hK => wp_load_mid ty x ho b o hx cs d hc hu hd hi (hK _ _ h)
theorem wp_store_to {op : Oper} {a : Act} {w : World} {K : Act → World → Prop} {Q : Exit → Act → World → Prop} (ty : TypeId) (x y : Operand) (ho : op.op = .store ty x y)
    (g o : Nat) (old : Array Value) (t : TypeId) (hg : w.heap[g]? = some (.cells old t (0, 0))) (c' : Array Value) (hx : a.eval x = .pointer (some ⟨g, o, none⟩)) (hy : a.eval y = .agg c') (hi : (Tryz.prog.info? ty).map (·.size) = some c'.size) (hs : o + c'.size ≤ old.size) (h1 : ∀ v ∈ c'.toList, v.oneCell' = true) (new : Array Value) (hn : putAll old o c'.toList = new)
    (h : ∀ V, V.heap[g]? = some (.cells new t (0, 0)) → Kp w V (some g) → K (a.put op.dst undef) V) : op.wp Tryz.prog a w K Q := by
  have hh := heap_setCells c'.toList o w old hg
  refine wp_store_mid ty x y ho g o c' hx hy (fun j hj => ⟨?_, Lib.frozen_of_heap hg (o + j)⟩) hi (Array.all_eq_true_iff_forall_mem.2 (fun v hv => h1 v (by simpa using hv))) (h _ (hn ▸ hh.1) hh.2)
  rw [Lib.cell_of_heap hg]
  have : o + j < old.size := by omega
  simp [this]
theorem tree_one {w : World} {b : Nat} {p : Ru.Cond × Value} {op : Int} {t : List UInt8} {n : Int} {bx : Ru.Box} (h : w.heap[b]? = some (.cells (cC p).toArray 40 (0, 0))) (hp : Tree w p.1 p.2) : Tree w (.mk op t n bx [p.1]) (.slice (some ⟨b, 0, none⟩) 1 1) :=
  Tree.of (ps := [p]) rfl (.inr ⟨b, 0, 1, rfl, by simp, lt_of_block h, fun k hk j hj => by
    have e : k = 0 := by simp at hk; omega
    subst e
    exact hcell h _ (by simp)⟩) (fun q hq => by rw [List.mem_singleton] at hq; subst hq; exact hp)
theorem tree_two {w : World} {b : Nat} {p q : Ru.Cond × Value} {op : Int} {t : List UInt8} {n : Int} {bx : Ru.Box} (h : w.heap[b]? = some (.cells (cC p ++ cC q).toArray 40 (0, 0))) (hp : Tree w p.1 p.2) (hq : Tree w q.1 q.2) : Tree w (.mk op t n bx [p.1, q.1]) (.slice (some ⟨b, 0, none⟩) 2 2) :=
  Tree.of (ps := [p, q]) rfl (.inr ⟨b, 0, 2, rfl, by simp, lt_of_block h, fun k hk j hj => by
    have hj8 : j < 8 := by
      have e : k = 0 ∨ k = 1 := by simp at hk; omega
      rcases e with rfl | rfl <;> exact hj
    have e : k = 0 ∨ k = 1 := by simp at hk; omega
    rcases e with rfl | rfl
    · refine hcell h _ ?_
      simp only [Nat.zero_mul, Nat.zero_add]
      rw [List.getElem?_toArray, List.getElem?_append_left (by exact hj8)]
      exact List.getElem?_eq_getElem hj
    · refine hcell h _ ?_
      simp only [Nat.one_mul, Nat.zero_add]
      rw [List.getElem?_toArray, List.getElem?_append_right (by rw [cC_len]; omega), cC_len, show 8 + j - 8 = j by omega]
      exact List.getElem?_eq_getElem hj⟩) (fun r hr => by
    simp only [List.mem_cons, List.not_mem_nil, or_false] at hr
    rcases hr with rfl | rfl
    · exact hp
    · exact hq)
theorem says_t (s : List UInt8) (q : Ru.Rule) (a3 : Option Addr) (m3 c3 : Nat) (a4 : Option Addr) (m4 c4 : Nat) (w : World) (he : Env w) (h : Ru.parse (s ++ [10]) = ([q], 0, 0)) (hf : Fit q) (hs : s.length ≤ 1000000000) (hq : RV.Tree w ⟨q, .slice a3 m3 c3, .slice a4 m4 c4⟩) : Calls Tryz.prog 26 #[str s, rA ⟨q, .slice a3 m3 c3, .slice a4 m4 c4⟩] w (SameIs true w) := by
  have h := says_walk s q q a3 m3 c3 a4 m4 c4 w he h hf hs hq
  rw [eqB_t rfl] at h
  exact h
theorem good_fit {r : Ru.Rule} (h : Ru.Good r) : Fit r := by
  have hl : ∀ c : Ru.Cond, Ru.right c = true → Ru.Lim c := by
    intro c
    refine Ru.Cond.ind (P := fun c => Ru.right c = true → Ru.Lim c) (fun op t n b l ih hr => ?_) c
    have hf := Ru.right_form hr
    generalize hc : Ru.Cond.mk op t n b l = c at hf hr
    cases hf with
    | any => exact Ru.lim_leaf (by simp)
    | net t h1 => exact Ru.lim_leaf (by have := Ru.splitR_len h1; omega)
    | cls t h1 => exact Ru.lim_leaf (by have := Ru.name_len h1; omega)
    | kind k h1 h2 => exact Ru.lim_leaf (by simp)
    | layer k h1 h2 => exact Ru.lim_leaf (by simp)
    | part k h1 h2 => exact Ru.lim_leaf (by simp)
    | box b h1 => exact Ru.lim_leaf (by simp)
    | not d hd => injection hc with _ _ _ _ hl; exact .mk _ _ _ _ _ (by simp) (fun c hc => by rw [List.mem_singleton] at hc; subst hc; exact ih c (by rw [hl]; simp) hd)
    | and m h2 hra => injection hc with _ _ _ _ hl; subst hl; exact .mk _ _ _ _ _ (by simp) (fun c hc => ih c hc (hra c hc))
    | or m h2 hra => injection hc with _ _ _ _ hl; subst hl; exact .mk _ _ _ _ _ (by simp) (fun c hc => ih c hc (hra c hc))
  have := h.sa; have := h.sb
  exact ⟨by have := Ru.name_len h.name; omega, lim_short _ (hl _ h.a) (by omega), lim_short _ (hl _ h.b) (by omega), by omega, by omega⟩
theorem lies_one {w : World} {b : Nat} {p : RV} (h : w.heap[b]? = some (.cells (rC p).toArray 42 (0, 0))) : LiesAt 20 rC w (some ⟨b, 0, none⟩) 1 [p] := fun k hk => by
  have e : k = 0 := by simp at hk; omega
  subst e
  exact ⟨b, 0, rfl, lt_of_block h, Nat.le_refl _, fun j hj => hcell h _ (by simp)⟩
theorem parsed_fit {q : Ru.Rule} (h : Ru.check [q] = 0) : Fit q := good_fit ((Ru.check_good h).2 q (by simp))
end Go.Proofs.YtnchipahdfbliaaGreatDoor
