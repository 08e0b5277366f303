/- The frame of the walks over the lists' seat: strings, builders, rows of cells, bytes of a string. No condition. -/
import Derived.Test.YtldjhjbodhhnbaaDoorBld
import Derived.Test.YtldjhjbodhhnbaaDoorLiL
import Derived.Deep.RegionHeld3
import Derived.Deep.AppendLies
import Derived.Lib.ConvBytes
namespace Go.Proofs.YtldjhjbodhhnbaaDoor
open Go.RowKit

theorem lt_of_block {w : World} {b : Nat} {o : Obj} (h : w.heap[b]? = some o) : b < w.heap.size := (Array.getElem?_eq_some_iff.1 h).1
theorem cell_lt {w : World} {b o : Nat} {v : Value} (h : w.cell? ⟨b, o, none⟩ = some v) : b < w.heap.size := World.block_lt_of_cell? w _ h
theorem heap_alloc_new (w : World) (o : Obj) : (w.alloc o).heap[w.heap.size]? = some o := by simp [World.alloc, -World.alloc_eq]
theorem heap_set {w : World} {r o : Nat} {cs : Array Value} {T : TypeId} {v : Value} (h : w.heap[r]? = some (.cells cs T (0, 0))) : (w.setCell ⟨r, o, none⟩ v).heap[r]? = some (.cells (cs.setIfInBounds o v) T (0, 0)) := by
  have hlt := lt_of_block h
  have h' : w.heap[r] = .cells cs T (0, 0) := by simpa [Array.getElem?_eq_getElem hlt] using h
  show (w.heap.modify r _)[r]? = _
  rw [Array.getElem?_eq_getElem (by simpa using hlt), Array.getElem_modify_self, h']
  rfl
theorem kpt {a b c : World} (h : Hid (Kp a b none)) (k : Kp b c none) : Kp a c none := h.out.trans k
theorem kpo {a b : World} (h : Hid (Kp a b none)) : Kp a b none := h.out
theorem ckr {wB w' : World} {b : Nat} {T : TypeId} {cs : Array Value} {row : Option Nat} (h : wB.heap[b]? = some (.cells cs T (0, 0))) (k : Kp wB w' row) (hne : row ≠ some b) (i : Nat) {v : Value} (hv : cs[i]? = some v) : w'.cell? ⟨b, i, none⟩ = some v := by
  have h' := (k.block b (lt_of_block h) (fun e => hne e.symm)).trans h
  simp [World.cell?, h', hv]
theorem ret_str {a b : ByteArray} (h : a = b) : Ending.returned (.string a) = .returned (.string b) := by rw [h]
theorem cat_eq (a b : List UInt8) : ((⟨a.toArray⟩ : ByteArray) ++ ⟨b.toArray⟩) = ⟨(a ++ b).toArray⟩ := ByteArray.mk_append_mk a b
theorem ext_take (t : List UInt8) (n : Nat) : (⟨t.toArray⟩ : ByteArray).extract 0 n = ⟨(t.take n).toArray⟩ := by
  apply ByteArray.ext; rw [ByteArray.data_extract]; simp
theorem ext_mid (t : List UInt8) (a b : Nat) : (⟨t.toArray⟩ : ByteArray).extract a b = ⟨((t.take b).drop a).toArray⟩ := by
  apply ByteArray.ext; rw [ByteArray.data_extract]; simp [List.drop_take]
theorem ext_drop (t : List UInt8) (n : Nat) : (⟨t.toArray⟩ : ByteArray).extract n t.length = ⟨(t.drop n).toArray⟩ := by
  rw [ext_mid, List.take_length]
theorem builder_kp {B b : Nat} {bs : List Value} {w w' : World} (h : Lib.IsBuilderF 71 5 B b bs w) (k : Kp w w' none) : Lib.IsBuilderF 71 5 B b bs w' := by
  have key : ∀ p, Lib.BuilderAtF 71 5 B b p bs w → Lib.BuilderAtF 71 5 B b p bs w' := by
    rintro p ⟨hB, v, hb, ⟨hl, ho⟩, hne⟩
    refine ⟨hB, v, (k.block b (lt_of_block hb) (by simp)).trans hb, ⟨hl, ?_⟩, hne⟩
    rcases ho with ho | ⟨g, cap, cur, fz, hv, hg, hh, r⟩
    · exact .inl ho
    · exact .inr ⟨g, cap, cur, fz, hv, hg, (k.block g (lt_of_block hh) (by simp)).trans hh, r⟩
  exact h.elim (fun x => .inl (key _ x)) (fun x => .inr (key _ x))
theorem wr_bound (a s : List UInt8) (h : a.length + s.length ≤ 140737488355328) : (Lib.byteCells a).length + (⟨s.toArray⟩ : ByteArray).size ≤ 140737488355328 := by
  have e : (⟨s.toArray⟩ : ByteArray).size = s.length := by show s.toArray.size = _; simp
  rw [e]; simpa [Lib.byteCells] using h
theorem cells_lit (l : List UInt8) (c : UInt8) (n : Int) (h : (c.toNat : Int) = n) : Lib.byteCells l ++ [.int .u8 n] = Lib.byteCells (l ++ [c]) := by
  rw [Lib.byteCells_append, ← h]; rfl
theorem cells_str (l s : List UInt8) : Lib.byteCells l ++ Lib.strCells ⟨s.toArray⟩ = Lib.byteCells (l ++ s) := by
  rw [Lib.byteCells_append, Lib.strCells_eq]
theorem conv_bytes (s : List UInt8) (w : World) : ∃ cap w', (convert 9 34 (.string ⟨s.toArray⟩)).run Tryd.prog w = .ok (.slice (some ⟨w.heap.size, 0, none⟩) s.length cap) w' ∧ s.length ≤ cap ∧ Kp w w' none ∧ w.heap.size < w'.heap.size ∧ ∀ j, (h : j < s.length) → w'.cell? ⟨w.heap.size, j, none⟩ = some (.int .u8 s[j].toNat) := by
  refine ⟨_, _, Lib.run_convert_string_bytes w 9 34 5 ⟨s.toArray⟩ Tryd.underlying9 Tryd.underlying34 Tryd.underlying5, ?_, ?_, ?_, fun j hj => ?_⟩
  · exact grownCap_ge _ _ _ _
  · exact Kp.of_below (Lib.bytesWorld_below _ _ _)
  · rw [Lib.bytesWorld_size]; omega
  · rw [Lib.bytesWorld_cell _ _ _ _ (show j < s.toArray.size by simpa using hj)]; simp [List.getD, hj]

end Go.Proofs.YtldjhjbodhhnbaaDoor
