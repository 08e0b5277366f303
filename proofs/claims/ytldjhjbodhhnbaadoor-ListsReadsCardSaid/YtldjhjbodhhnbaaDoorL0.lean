/- A line that does not begin with its word. No condition. -/
import Derived.Test.YtldjhjbodhhnbaaDoorLn
namespace Go.Proofs.YtldjhjbodhhnbaaDoor
open Go.RowKit
set_option maxHeartbeats 2000000 in
set_option maxRecDepth 100000 in
theorem line_noprefix (s kind : List UInt8) (v : Value) (w : World) (h : ¬ s.take kind.length = kind) : Calls Tryd.prog 42 #[.string ⟨s.toArray⟩, .string ⟨kind.toArray⟩, v] w fun E w' => E = .returned (.bool false) ∧ Kp w w' none := by
  have hmf : ∀ (fn : Fn) (first cap : Array Value) (w : World), (Instr.makeFunc fn first cap).run Tryd.prog w = .ok (.func fn first cap) w := fun _ _ _ _ => rfl
  have H := Lib.hid h
  have HB := Lib.hid (heap_alloc_new w (.cells #[.bool false] 4))
  clear h
  go_enter_defers Tryd.func42, Tryd.ntmps42
  go_wp2_with fail
  refine (cutPrefix_no s kind _ H.out).mono ?_
  rintro e w' ⟨rfl, rfl⟩
  go_wp2_with fail
  refine (need_no _).mono ?_
  rintro e w' ⟨rfl, rfl⟩
  refine leaves_cons (f := 49) (args := #[.pointer (some ⟨w.heap.size, 0, none⟩)]) (by simp) (by simp [go_sem]) ?_
  refine (catch_panicking w.heap.size false [] _ HB.out).mono ?_
  rintro e u' w'' ⟨rfl, rfl, rfl⟩
  have hb2 := heap_set (o := 0) (v := .bool false) ((((Kp.refl (w.alloc (.cells #[.bool false] 4)) none).alloc (.cells #[] 93)).block w.heap.size (by simp) (by simp)).trans HB.out)
  have hc : (((w.alloc (.cells #[.bool false] 4)).alloc (.cells #[] 93)).setCell ⟨w.heap.size, 0, none⟩ (.bool false)).cell? ⟨w.heap.size, 0, none⟩ = some (.bool false) := by rw [Lib.cell_of_heap hb2]; rfl
  simp [Leaves, settle, results, Tryd.results42, go_sem]
  exact ((Kp.refl w none).alloc _).alloc _
end Go.Proofs.YtldjhjbodhhnbaaDoor
