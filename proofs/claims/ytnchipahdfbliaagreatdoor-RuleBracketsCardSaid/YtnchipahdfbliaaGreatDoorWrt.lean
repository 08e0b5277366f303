/- The program's write: conditions with no conditions in them. Conditions: what a machine holds. -/
import Derived.Test.YtnchipahdfbliaaGreatDoorPa
namespace Go.Proofs.YtnchipahdfbliaaGreatDoor
open Go.RowKit

/-- A call gives these strings, in a slice of its own. -/
def OwnStrs (l : List (List UInt8)) (w : World) (e : Ending) (w' : World) : Prop := ∃ v, e = .returned v ∧ w'.ownsRow w.heap.size 9 1 v l.length (l.flatMap strVal) ∧ Kp w w' none
theorem own_strs {w : World} {base : Nat} (l : List (List UInt8)) (hb : base ≤ w.heap.size) (hl : l.length ≤ 140737488355328) : (w.alloc (.cells (l.map str).toArray 9)).ownsRow base 9 1 (.slice (some ⟨w.heap.size, 0, none⟩) l.length l.length) l.length (l.flatMap strVal) := by
  have e : l.flatMap strVal = l.map str := by induction l with
    | nil => rfl
    | cons x l ih => rw [List.flatMap_cons, ih (by simp at hl; omega)]; rfl
  rw [e]
  exact ⟨by simp, .inr ⟨w.heap.size, l.length, (l.map str).toArray, rfl, hb, heap_alloc_new w _, Nat.le_refl _, by unfold maxLen; omega, by simp, by rw [List.take_of_length_le (by simp)]⟩⟩
theorem ownStrs_new {l : List (List UInt8)} {w w2 : World} {g : Nat} (hg : w2.heap.size = g) (k : Kp w w2 none) (hl : l.length ≤ 140737488355328) : OwnStrs l w (.returned (.slice (some ⟨g, 0, none⟩) l.length l.length)) (w2.alloc (.cells (l.map str).toArray 9)) :=
  hg ▸ ⟨_, rfl, own_strs l k.size hl, k.alloc _⟩
section
variable (ar : Int) (a : Option Addr) (m p : Nat) (w : World)
set_option maxHeartbeats 2000000 in
set_option maxRecDepth 100000 in
theorem write_l1 : Calls Tryz.prog 42 #[.agg #[.int .i64 1, .string ⟨#[]⟩, .int .i64 0, .int .i64 0, .int .i64 0, .int .i64 0, .int .i64 0, .slice a m p], .int .i64 ar] w (OwnStrs [Ru.kwAny] w) := by
  go_enter Tryz.func42, Tryz.ntmps42
  go_wp2_with fail
  go_ret
  exact ownStrs_new (l := [Ru.kwAny]) (by simp) ((Kp.refl w none).alloc (.cells #[.int .i64 1, .string ⟨#[]⟩, .int .i64 0, .int .i64 0, .int .i64 0, .int .i64 0, .int .i64 0, .slice a m p] 40)) (by simp)
set_option maxHeartbeats 2000000 in
set_option maxRecDepth 100000 in
theorem write_l2 (t : List UInt8) : Calls Tryz.prog 42 #[.agg #[.int .i64 2, str t, .int .i64 0, .int .i64 0, .int .i64 0, .int .i64 0, .int .i64 0, .slice a m p], .int .i64 ar] w (OwnStrs [Ru.kwNet, t] w) := by
  go_enter Tryz.func42, Tryz.ntmps42
  go_wp2_with fail
  go_ret
  exact ownStrs_new (l := [Ru.kwNet, t]) (by simp) ((Kp.refl w none).alloc (.cells #[.int .i64 2, str t, .int .i64 0, .int .i64 0, .int .i64 0, .int .i64 0, .int .i64 0, .slice a m p] 40)) (by simp)
set_option maxHeartbeats 2000000 in
set_option maxRecDepth 100000 in
theorem write_l3 (t : List UInt8) : Calls Tryz.prog 42 #[.agg #[.int .i64 3, str t, .int .i64 0, .int .i64 0, .int .i64 0, .int .i64 0, .int .i64 0, .slice a m p], .int .i64 ar] w (OwnStrs [Ru.kwClass, t] w) := by
  go_enter Tryz.func42, Tryz.ntmps42
  go_wp2_with fail
  go_ret
  exact ownStrs_new (l := [Ru.kwClass, t]) (by simp) ((Kp.refl w none).alloc (.cells #[.int .i64 3, str t, .int .i64 0, .int .i64 0, .int .i64 0, .int .i64 0, .int .i64 0, .slice a m p] 40)) (by simp)
set_option maxHeartbeats 2000000 in
set_option maxRecDepth 100000 in
theorem write_l4 (n : Int) (he : Env w) (hn : Wr.I64 n) : Calls Tryz.prog 42 #[.agg #[.int .i64 4, .string ⟨#[]⟩, .int .i64 n, .int .i64 0, .int .i64 0, .int .i64 0, .int .i64 0, .slice a m p], .int .i64 ar] w (OwnStrs [Ru.kwKind, Lib.itoa n] w) := by
  have k1 : Kp w (w.alloc (.cells #[.int .i64 4, .string ⟨#[]⟩, .int .i64 n, .int .i64 0, .int .i64 0, .int .i64 0, .int .i64 0, .slice a m p] 40)) none := (Kp.refl _ _).alloc _
  have cI := itoa_any n _ (he.kp0 k1) hn
  have K1 := Lib.hid k1
  clear k1 he hn
  go_enter Tryz.func42, Tryz.ntmps42
  go_wp2_with (go_at_call 40; refine cI.mono ?_; rintro e w2 ⟨rfl, hk2⟩)
  go_ret
  exact ownStrs_new (l := [Ru.kwKind, Lib.itoa n]) (by simp) (K1.out.trans hk2) (by simp)
set_option maxHeartbeats 2000000 in
set_option maxRecDepth 100000 in
theorem write_l5 (n : Int) (he : Env w) (hn : Wr.I64 n) : Calls Tryz.prog 42 #[.agg #[.int .i64 5, .string ⟨#[]⟩, .int .i64 n, .int .i64 0, .int .i64 0, .int .i64 0, .int .i64 0, .slice a m p], .int .i64 ar] w (OwnStrs [Ru.kwLayer, Lib.itoa n] w) := by
  have k1 : Kp w (w.alloc (.cells #[.int .i64 5, .string ⟨#[]⟩, .int .i64 n, .int .i64 0, .int .i64 0, .int .i64 0, .int .i64 0, .slice a m p] 40)) none := (Kp.refl _ _).alloc _
  have cI := itoa_any n _ (he.kp0 k1) hn
  have K1 := Lib.hid k1
  clear k1 he hn
  go_enter Tryz.func42, Tryz.ntmps42
  go_wp2_with (go_at_call 40; refine cI.mono ?_; rintro e w2 ⟨rfl, hk2⟩)
  go_ret
  exact ownStrs_new (l := [Ru.kwLayer, Lib.itoa n]) (by simp) (K1.out.trans hk2) (by simp)
set_option maxHeartbeats 2000000 in
set_option maxRecDepth 100000 in
theorem write_l6 (n : Int) (he : Env w) (hn : Wr.I64 n) : Calls Tryz.prog 42 #[.agg #[.int .i64 6, .string ⟨#[]⟩, .int .i64 n, .int .i64 0, .int .i64 0, .int .i64 0, .int .i64 0, .slice a m p], .int .i64 ar] w (OwnStrs [Ru.kwPart, Lib.itoa n] w) := by
  have k1 : Kp w (w.alloc (.cells #[.int .i64 6, .string ⟨#[]⟩, .int .i64 n, .int .i64 0, .int .i64 0, .int .i64 0, .int .i64 0, .slice a m p] 40)) none := (Kp.refl _ _).alloc _
  have cI := itoa_any n _ (he.kp0 k1) hn
  have K1 := Lib.hid k1
  clear k1 he hn
  go_enter Tryz.func42, Tryz.ntmps42
  go_wp2_with (go_at_call 40; refine cI.mono ?_; rintro e w2 ⟨rfl, hk2⟩)
  go_ret
  exact ownStrs_new (l := [Ru.kwPart, Lib.itoa n]) (by simp) (K1.out.trans hk2) (by simp)
end
end Go.Proofs.YtnchipahdfbliaaGreatDoor
