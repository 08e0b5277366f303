/- The reference's sorted list with a further number (with), where the number is there already. Condition: at most 2^16 elements. -/
import Derived.Test.YtpakiabnhdoijaaOw
import Derived.Test.YtpakiabnhdoijaaRcW
namespace Go.Proofs.Ytpakiabnhdoijaa
open Go.RowKit

def WithRel (xs : List Int) (n : Int) (i : Value) : Prop := ∃ k : Nat, k ≤ xs.length ∧ i = .int .i64 k ∧ ∀ x ∈ xs.take k, x < n

set_option maxHeartbeats 4000000 in
set_option maxRecDepth 100000 in
theorem with_old (b off cap : Nat) (xs : List Int) (n : Int) (w : World) (_hc : xs.length ≤ cap) (hl : xs.length ≤ 65536) (hn : ∃ (k : Nat) (h : k < xs.length), xs[k] = n ∧ ∀ x ∈ xs.take k, x < n)
    (hr : ∀ k, (h : k < xs.length) → w.cell? ⟨b, off + k, none⟩ = some (.int .i64 xs[k])) :
    Calls Try.prog 48 #[.slice (some ⟨b, off, none⟩) xs.length cap, .int .i64 n] w fun E w' => E = .returned (.slice (some ⟨b, off, none⟩) xs.length cap) ∧ w = w' := by
  have HR := Lib.hid hr
  have HN := Lib.hid hn
  clear hr hn
  go_enter Try.func48, Try.ntmps48
  go_wp2_with fail
  go_loopw [5] (fun i wr => WithRel xs n i ∧ w = wr) (fun i _ => xs.length - (intOf i).toNat)
  case atStart => exact ⟨⟨0, Nat.zero_le _, rfl, fun _ h => by cases h⟩, rfl⟩
  case round =>
    obtain ⟨⟨k, hk, rfl, hk2⟩, rfl⟩ := hrel
    have HK := Lib.hid hk2
    have hk0 : (0 : Int) ≤ (k : Int) := Int.natCast_nonneg _
    have hlt : k < xs.length := by
      obtain ⟨m, hm, he, _⟩ := HN.out
      refine Decidable.byContradiction fun hx => ?_
      have := hk2 n (by rw [List.take_of_length_le (by omega), ← he]; exact List.getElem_mem hm)
      omega
    clear hk2
    have hk1 : (k : Int) < (xs.length : Int) := by omega
    obtain ⟨x, hx⟩ : ∃ x, xs[k] = x := ⟨_, rfl⟩
    have c0 : w.cell? ⟨b, off + k, none⟩ = some (.int .i64 x) := by subst hx; exact HR.out k hlt
    have hle : x ≤ n := by
      obtain ⟨m, hm, he, hb⟩ := HN.out
      refine Decidable.byContradiction fun hgt => ?_
      have hmk : ¬ m < k := fun hmk => by
        have h2 : xs[m] < n := HK.out xs[m] (by rw [List.mem_take_iff_getElem]; exact ⟨m, by omega, rfl⟩)
        omega
      have hmk2 : m ≠ k := fun e => by subst e; omega
      have h2 : xs[k] < n := hb xs[k] (by rw [List.mem_take_iff_getElem]; exact ⟨k, by omega, rfl⟩)
      omega
    have HS : Hid (x < n → WithRel xs n (.int .i64 (k + 1))) := Lib.hid fun h => ⟨k + 1, hlt, by go_num, fun y hy => by
      rw [List.take_succ_eq_append_getElem hlt, List.mem_append] at hy
      rcases hy with hy | hy
      · exact HK.out y hy
      · rw [List.mem_singleton] at hy; rw [hy, hx]; exact h⟩
    clear hx
    by_cases h1 : x < n
    · have HT := Lib.hid (HS.out h1)
      clear HS hle
      go_wp2_with fail
      go_roundw
      case rel => exact ⟨HT.out, by trivial⟩
      case measure => simp [intOf]; omega
    · have e : x = n := by omega
      clear HS hle
      subst e
      go_wp2_with fail
      go_ret
      exact ⟨rfl, rfl⟩

end Go.Proofs.Ytpakiabnhdoijaa
