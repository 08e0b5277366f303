/- A struct stored in the middle of a block. Condition: the block has so many cells. -/
import Derived.Test.YtnchipahdfbliaaGreatDoorLx
namespace Go.Proofs.YtnchipahdfbliaaGreatDoor
open Go.RowKit

def putAll (old : Array Value) (o : Nat) : List Value → Array Value
  | [] => old
  | v :: vs => putAll (old.setIfInBounds o v) (o + 1) vs
theorem heap_setCells {g : Nat} {t : TypeId} : ∀ (vs : List Value) (o : Nat) (w : World) (old : Array Value), w.heap[g]? = some (.cells old t (0, 0)) → (w.setCells g o vs).heap[g]? = some (.cells (putAll old o vs) t (0, 0)) ∧ Kp w (w.setCells g o vs) (some g)
  | [], _, w, _, h => ⟨h, Kp.refl w _⟩
  | v :: vs, o, w, old, h => by
    have := heap_setCells vs (o + 1) (w.setCell ⟨g, o, none⟩ v) _ (heap_set h)
    exact ⟨this.1, ((Kp.refl w (some g)).set v).trans this.2⟩
theorem wpList_store_at {ops : Array Oper} {rest : List Oper} {op : Oper} {a : Act} {w : World} {Q : Exit → Act → World → Prop} (hgd : op.guard = none) (ty : TypeId) (x y : Operand) (ho : op.op = .store ty x y)
    (g o : Nat) (old : Array Value) (t : TypeId) (hg : w.heap[g]? = some (.cells old t (0, 0))) (c' : Array Value) (hx : a.eval x = .pointer (some ⟨g, o, none⟩)) (hy : a.eval y = .agg c') (hi : (Tryz.prog.info? ty).map (·.size) = some c'.size) (hs : o + c'.size ≤ old.size) (h1 : ∀ v ∈ c'.toList, v.oneCell' = true)
    (h : ∀ V, V.heap[g]? = some (.cells (putAll old o c'.toList) t (0, 0)) → Kp w V (some g) → wpList Tryz.prog ops Q rest (a.put op.dst undef) V) : wpList Tryz.prog ops Q (op :: rest) a w := by
  have hh := heap_setCells c'.toList o w old hg
  refine wpList_store_mid hgd ty x y ho g o c' hx hy (fun j hj => ⟨?_, Lib.frozen_of_heap hg (o + j)⟩) hi (Array.all_eq_true_iff_forall_mem.2 (fun v hv => h1 v (by simpa using hv))) (h _ hh.1 hh.2)
  rw [Lib.cell_of_heap hg]
  have : o + j < old.size := by omega
  simp [this]
end Go.Proofs.YtnchipahdfbliaaGreatDoor
