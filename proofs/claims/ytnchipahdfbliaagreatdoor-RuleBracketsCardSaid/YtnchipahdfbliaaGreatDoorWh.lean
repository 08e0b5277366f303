/- The words for what a rule asks: the list, and a word's place in it. No condition. -/
import Derived.Test.YtnchipahdfbliaaGreatDoorLe
namespace Go.Proofs.YtnchipahdfbliaaGreatDoor
open Go.RowKit

theorem whats_any (w : World) : Calls Tryz.prog 41 #[] w fun e w' => e = .returned (.slice (some ⟨w.heap.size, 0, none⟩) 4 4) ∧ w' = w.alloc (.cells (Ru.whats.map str).toArray 9) := by
  go_enter Tryz.func41, Tryz.ntmps41
  go_wp2_with fail
  go_ret
  exact ⟨rfl, rfl⟩
theorem str_inj (a x : List UInt8) : ((⟨a.toArray⟩ : ByteArray) = ⟨x.toArray⟩) ↔ (a = x) := by
  exact ⟨fun h => by injection h with h; injection h, fun h => by rw [h]⟩
theorem whats_idx (x : List UInt8) : Lib.idxOfS (Ru.whats.map fun s => (⟨s.toArray⟩ : ByteArray)) ⟨x.toArray⟩ = Ru.whatOf x - 1 := by
  by_cases h0 : x = Ru.whats[0]
  · subst h0; rfl
  by_cases h1 : x = Ru.whats[1]
  · subst h1; rfl
  by_cases h2 : x = Ru.whats[2]
  · subst h2; rfl
  by_cases h3 : x = Ru.whats[3]
  · subst h3; rfl
  have hn : x ∉ Ru.whats := by
    unfold Ru.whats at *
    simp only [List.mem_cons, List.not_mem_nil, or_false]
    rintro (h | h | h | h)
    · exact h0 h
    · exact h1 h
    · exact h2 h
    · exact h3 h
  have e1 : Ru.whatOf x = 0 := by
    unfold Ru.whatOf
    rw [List.idxOf?_eq_none_iff.2 hn]
  rw [e1]
  refine Lib.idxOfS_miss (Ru.whats.map fun s => (⟨s.toArray⟩ : ByteArray)) 4 ⟨x.toArray⟩ (fun j hj => ?_)
  match j, hj with
  | 0, _ => exact fun e => h0 ((str_inj _ _).1 e).symm
  | 1, _ => exact fun e => h1 ((str_inj _ _).1 e).symm
  | 2, _ => exact fun e => h2 ((str_inj _ _).1 e).symm
  | 3, _ => exact fun e => h3 ((str_inj _ _).1 e).symm
theorem index_what (b : Nat) (x : List UInt8) (w : World) (hb : w.heap[b]? = some (.cells (Ru.whats.map str).toArray 9 (0, 0))) : Calls Tryz.prog 77 #[.slice (some ⟨b, 0, none⟩) 4 4, str x] w fun e w' => e = .returned (.int .i64 (Ru.whatOf x - 1)) ∧ w' = w := by
  refine (Tryz.slices_Index_string b 0 4 4 (Ru.whats.map fun s => (⟨s.toArray⟩ : ByteArray)) ⟨x.toArray⟩ w (by decide) (by decide) (fun j hj => ?_)).mono ?_
  · match j, hj with
    | 0, _ => exact hcell hb 0 rfl
    | 1, _ => exact hcell hb 1 rfl
    | 2, _ => exact hcell hb 2 rfl
    | 3, _ => exact hcell hb 3 rfl
    | n + 4, h => exact absurd h (by simp [Ru.whats])
  · rintro e w' ⟨rfl, rfl⟩
    exact ⟨by rw [show (Ru.whats.map fun s => (⟨s.toArray⟩ : ByteArray)).take 4 = Ru.whats.map fun s => (⟨s.toArray⟩ : ByteArray) from rfl, whats_idx], rfl⟩
end Go.Proofs.YtnchipahdfbliaaGreatDoor
