/- The library's Grow at a nil slice: what it returns is the call's own. Condition: a number below 10^9. -/
import Derived.Test.YtpakiabnhdoijaaShelf
import Derived.Test.YtpakiabnhdoijaaFp
namespace Go.Proofs.Ytpakiabnhdoijaa
open Go.RowKit

theorem zeros_size (z : Array Value) (n : Nat) : (Builtin.zeroCells z n).size = n * z.size := by simp [Builtin.zeroCells]

theorem grow_own {f : Nat} {e : TypeId} {size bytes : Nat} (_hs : 0 < size) (i : TypeInfo) (z : Value) (_hz1 : i.size = size) (hz2 : i.bytes = bytes) (hzs : z.cells.size = size) (hb9 : bytes ≤ 100) (n : Nat) (hn : n ≤ 1000000000) (w : World)
    (hroom : n = 0 → Calls Try.prog f #[.slice none 0 0, .int .i64 n] w fun e w' => e = .returned (.slice none 0 0) ∧ w' = w)
    (hgrow : 0 < n → (0 + n) * i.bytes ≤ 140737488355328 → Calls Try.prog f #[.slice none 0 0, .int .i64 n] w fun E w' => E = .returned (.slice (some ⟨w.heap.size, 0, none⟩) 0 (grownCap w (0 + n) 0 e)) ∧
      w' = w.drew.alloc (.cells (#[] ++ Builtin.zeroCells z.cells (0 + n - 0) ++ Builtin.zeroCells z.cells (grownCap w (0 + n) 0 e - (0 + n))) e)) :
    Calls Try.prog f #[.slice none 0 0, .int .i64 n] w fun E w' => ∃ v, E = .returned v ∧ w'.ownsRow w.heap.size e size v 0 [] ∧ Kp w w' none := by
  by_cases h0 : n = 0
  · refine (hroom h0).mono ?_
    rintro E w' ⟨rfl, rfl⟩
    exact ⟨_, rfl, World.ownsRow_nil _ _ _ _, Kp.refl _ _⟩
  · have hbb : (0 + n) * i.bytes ≤ 140737488355328 := by
      rw [hz2]
      have : (0 + n) * bytes ≤ 1000000000 * 100 := Nat.mul_le_mul (by omega) hb9
      omega
    refine (hgrow (by omega) hbb).mono ?_
    rintro E w' ⟨rfl, rfl⟩
    have hge := grownCap_ge w (0 + n) 0 e
    have hle := grownCap_le_maxLen w (0 + n) 0 e (by unfold maxLen; omega)
    refine ⟨_, rfl, ⟨by simp, .inr ⟨w.heap.size, _, _, rfl, Nat.le_refl _, heap_alloc_new w.drew _, Nat.zero_le _, hle, ?_, by simp⟩⟩, (Kp.refl w none).drew.alloc _⟩
    simp only [Array.size_append, zeros_size, hzs]
    rw [show (#[] : Array Value).size = 0 from rfl, Nat.zero_add, ← Nat.add_mul]
    congr 1
    omega

theorem growSpan_own (n : Nat) (hn : n ≤ 1000000000) (w : World) : Calls Try.prog 67 #[.slice none 0 0, .int .i64 n] w fun E w' => ∃ v, E = .returned v ∧ w'.ownsRow w.heap.size 24 2 v 0 [] ∧ Kp w w' none := by
  obtain ⟨i, hi, hz0, hz1, hz2⟩ := info_parts infoSpan
  refine grow_own (by omega) i (.agg #[.int .i64 0, .int .i64 0]) hz1 hz2 rfl (by omega) n hn w (fun h => ?_) (fun h hb => ?_)
  · subst h
    exact Any8.slices_Grow_room Try.growSpan none 0 0 0 w (by omega) (by omega) (by omega) (by omega)
  · exact Any8.slices_Grow_grow Try.growSpan i _ hi hz0 (by omega) none 0 0 n [] w (by omega) (by omega) hb (by omega) (by simp) (fun _ => rfl) (by simp)

theorem growRect_own (n : Nat) (hn : n ≤ 1000000000) (w : World) : Calls Try.prog 61 #[.slice none 0 0, .int .i64 n] w fun E w' => ∃ v, E = .returned v ∧ w'.ownsRow w.heap.size 44 4 v 0 [] ∧ Kp w w' none := by
  obtain ⟨i, hi, hz0, hz1, hz2⟩ := info_parts infoRect
  refine grow_own (by omega) i (.agg #[.int .i64 0, .int .i64 0, .int .i64 0, .int .i64 0]) hz1 hz2 rfl (by omega) n hn w (fun h => ?_) (fun h hb => ?_)
  · subst h
    exact Any8.slices_Grow_room Try.growRect none 0 0 0 w (by omega) (by omega) (by omega) (by omega)
  · exact Any8.slices_Grow_grow Try.growRect i _ hi hz0 (by omega) none 0 0 n [] w (by omega) (by omega) hb (by omega) (by simp) (fun _ => rfl) (by simp)

end Go.Proofs.Ytpakiabnhdoijaa
