/- The two maps of factor: literals with strings for keys, and what is looked up in them. No condition. -/
import Derived.Test.YtnchipahdfbliaaGreatDoorFb
import Derived.MapKept
namespace Go.Proofs.YtnchipahdfbliaaGreatDoor
open Go.RowKit

/-- An entry. -/
def ent (k : List UInt8) (v : Int) (n : Nat) : MapEntry := { key := str k, val := .int .i64 v, born := n }
theorem set_last (w : World) (o o' : Obj) : ({ w.alloc o with heap := (w.alloc o).heap.setIfInBounds w.heap.size o' } : World) = w.alloc o' := by
  show ({ w with heap := (w.heap.push o).setIfInBounds w.heap.size o' } : World) = { w with heap := w.heap.push o' }
  congr 1
  apply Array.ext_getElem?
  intro i
  rw [Array.getElem?_setIfInBounds, Array.getElem?_push, Array.getElem?_push]
  by_cases h : w.heap.size = i
  · subst h; simp
  · have h' : ¬ i = w.heap.size := fun e => h e.symm
    simp [h, h']
theorem run_insert {t kt et : TypeId} (ht : Tryz.prog.underlying t = some (.map kt et)) (hk : Tryz.prog.underlying kt = some .string) (w : World) (es : Array MapEntry) (n : Nat) (k : List UInt8) (v : Int) (hf : Instr.findNow .string (str k) es.toList 0 = some none) :
    (Instr.mapUpdate t (.map (some w.heap.size)) (str k) (.int .i64 v)).run Tryz.prog (w.alloc (.map es n)) = .ok () (w.alloc (.map (es.push (ent k v n)) (n + 1))) := by
  have hb := heap_alloc_new w (.map es n)
  have hc : (Instr.checkKey false 10000 kt (str k)).run Tryz.prog (w.alloc (.map es n)) = .ok () (w.alloc (.map es n)) := MapKept.run_checkKey (k := str k) hk (by simp [MapKept.IsKey]) false 9999
  simp only [Instr.mapUpdate, Sem.run_bind, run_underlying ht, MapKept.run_getObj_map hb, hc, MapKept.run_findKey hk hf, Result.andThen]
  rw [MapKept.run_setObj_map _ hb, set_last]
  rfl
theorem run_look {t kt et : TypeId} (ht : Tryz.prog.underlying t = some (.map kt et)) (hk : Tryz.prog.underlying kt = some .string) (hz : ∀ w, (zeroValue et).run Tryz.prog w = .ok (.int .i64 0) w) (w : World) (r : Nat) (es : Array MapEntry) (n : Nat) (x : List UInt8) (hb : w.heap[r]? = some (.map es n)) (a : Option (Nat × Value)) (hf : Instr.findNow .string (str x) es.toList 0 = some a) :
    (Instr.lookup t (.map (some r)) (str x) true).run Tryz.prog w = .ok (.tuple (match a with | some p => #[p.2, .bool true] | none => #[.int .i64 0, .bool false])) w := by
  have hc : ∀ e, (Instr.checkKey e 10000 kt (str x)).run Tryz.prog w = .ok () w := fun e => MapKept.run_checkKey (k := str x) hk (by simp [MapKept.IsKey]) e 9999
  cases a with
  | none => simp [Instr.lookup, Sem.run_bind, run_underlying ht, MapKept.run_getObj_map hb, hc, MapKept.run_findKey hk hf, Result.andThen, hz]
  | some p => simp [Instr.lookup, Sem.run_bind, run_underlying ht, MapKept.run_getObj_map hb, hc, MapKept.run_findKey hk hf, Result.andThen]
theorem find_cons (x k : List UInt8) (v : Int) (n i : Nat) (es : List MapEntry) : Instr.findNow .string (str x) (ent k v n :: es) i = if x = k then some (some (i, .int .i64 v)) else Instr.findNow .string (str x) es (i + 1) := by
  have h : Instr.sameNow .string (str x) (str k) = some (decide (x = k)) := by
    simp only [Instr.sameNow]
    congr 1
    show (x.toArray == k.toArray) = _
    rw [Bool.eq_iff_iff, beq_iff_eq, decide_eq_true_iff]
    exact ⟨fun e => by simpa using e, fun e => by rw [e]⟩
  rw [Instr.findNow, show (ent k v n).key = str k from rfl, h]
  by_cases e : x = k
  · rw [decide_eq_true e, if_pos e]; rfl
  · rw [decide_eq_false e, if_neg e]
theorem und158 : Tryz.prog.underlying 158 = some (.map 9 3) := by kernel_rfl
end Go.Proofs.YtnchipahdfbliaaGreatDoor
