/- The reference's comparisons of lists, at equal ones. Condition: at most 2^16 elements. -/
import Derived.Test.YtldjhjbodhhnbaaDoorWf
namespace Go.Proofs.YtldjhjbodhhnbaaDoor
open Go.RowKit

set_option maxHeartbeats 4000000 in
set_option maxRecDepth 100000 in
theorem sameRows_row (b off cap b2 off2 cap2 : Nat) (xs : List (List Li.Fld)) (w : World) (_hc : xs.length ≤ cap) (_hc2 : xs.length ≤ cap2) (hl : xs.length ≤ 65536)
    (hr : ∀ k, (h : k < xs.length) → ∀ j, (h2 : j < xs[k].length) → w.cell? ⟨b, off + k * 6 + j, none⟩ = some (fldVal xs[k][j])) (hr2 : ∀ k, (h : k < xs.length) → ∀ j, (h2 : j < xs[k].length) → w.cell? ⟨b2, off2 + k * 6 + j, none⟩ = some (fldVal xs[k][j])) (hg : ∀ x ∈ xs, Li.Good Li.rowK x) :
    Calls Tryd.prog 18 #[.slice (some ⟨b, off, none⟩) xs.length cap, .slice (some ⟨b2, off2, none⟩) xs.length cap2] w fun E w' => E = .returned (.bool true) ∧ ∃ n, w.drewN n = w' := by
  have HR := Lib.hid hr
  have HR2 := Lib.hid hr2
  have HG := Lib.hid hg
  clear hr hr2 hg
  go_enter Tryd.func18, Tryd.ntmps18
  go_wp2_with fail
  go_loopw [5] (fun i wr => ∃ k m : Nat, k ≤ xs.length ∧ i = .int .i64 k ∧ w.drewN m = wr) (fun i _ => xs.length - (intOf i).toNat)
  case atStart => exact ⟨0, 0, Nat.zero_le _, rfl, rfl⟩
  case round =>
    obtain ⟨k, m, hk, rfl, hw⟩ := hrel
    subst hw
    by_cases hlt : k < xs.length
    · obtain ⟨x, hx⟩ : ∃ x, xs[k] = x := ⟨_, rfl⟩
      have HA : Hid (∀ j, (h2 : j < x.length) → w.cell? ⟨b, off + k * 6 + j, none⟩ = some (fldVal x[j])) := Lib.hid (by subst hx; exact HR.out k hlt)
      have HB : Hid (∀ j, (h2 : j < x.length) → w.cell? ⟨b2, off2 + k * 6 + j, none⟩ = some (fldVal x[j])) := Lib.hid (by subst hx; exact HR2.out k hlt)
      have hgx : Li.Good Li.rowK x := by subst hx; exact HG.out _ (List.getElem_mem hlt)
      clear hx
      obtain ⟨ra, rb, rx, ry, rt, ru, rfl, _, _, _⟩ := Li.good_row hgx
      clear hgx
      have c0 : w.cell? ⟨b, off + k * 6, none⟩ = some (.string ⟨ra.toArray⟩) := HA.out 0 (by simp)
      have d0 : w.cell? ⟨b2, off2 + k * 6, none⟩ = some (.string ⟨ra.toArray⟩) := HB.out 0 (by simp)
      have c1 : w.cell? ⟨b, off + k * 6 + 1, none⟩ = some (.string ⟨rb.toArray⟩) := HA.out 1 (by simp)
      have d1 : w.cell? ⟨b2, off2 + k * 6 + 1, none⟩ = some (.string ⟨rb.toArray⟩) := HB.out 1 (by simp)
      have c2 : w.cell? ⟨b, off + k * 6 + 2, none⟩ = some (.int .i64 rx) := HA.out 2 (by simp)
      have d2 : w.cell? ⟨b2, off2 + k * 6 + 2, none⟩ = some (.int .i64 rx) := HB.out 2 (by simp)
      have c3 : w.cell? ⟨b, off + k * 6 + 3, none⟩ = some (.int .i64 ry) := HA.out 3 (by simp)
      have d3 : w.cell? ⟨b2, off2 + k * 6 + 3, none⟩ = some (.int .i64 ry) := HB.out 3 (by simp)
      have c4 : w.cell? ⟨b, off + k * 6 + 4, none⟩ = some (.int .i64 rt) := HA.out 4 (by simp)
      have d4 : w.cell? ⟨b2, off2 + k * 6 + 4, none⟩ = some (.int .i64 rt) := HB.out 4 (by simp)
      have c5 : w.cell? ⟨b, off + k * 6 + 5, none⟩ = some (.bool ru) := HA.out 5 (by simp)
      have d5 : w.cell? ⟨b2, off2 + k * 6 + 5, none⟩ = some (.bool ru) := HB.out 5 (by simp)
      have hk0 : (0 : Int) ≤ (k : Int) := Int.natCast_nonneg _
      have hk1 : (k : Int) < (xs.length : Int) := by omega
      go_wp2_with fail
      go_quiet (fail)
      go_wp2_with fail
      go_roundw
      case rel => exact ⟨k + 1, _, hlt, by go_num, rfl⟩
      case measure => simp [intOf]; omega
    · go_wp2_with fail
      go_ret
      exact ⟨rfl, m, rfl⟩

set_option maxHeartbeats 4000000 in
set_option maxRecDepth 100000 in
theorem sameProbes_row (b off cap b2 off2 cap2 : Nat) (xs : List (List Li.Fld)) (w : World) (_hc : xs.length ≤ cap) (_hc2 : xs.length ≤ cap2) (hl : xs.length ≤ 65536)
    (hr : ∀ k, (h : k < xs.length) → ∀ j, (h2 : j < xs[k].length) → w.cell? ⟨b, off + k * 6 + j, none⟩ = some (fldVal xs[k][j])) (hr2 : ∀ k, (h : k < xs.length) → ∀ j, (h2 : j < xs[k].length) → w.cell? ⟨b2, off2 + k * 6 + j, none⟩ = some (fldVal xs[k][j])) (hg : ∀ x ∈ xs, Li.Good Li.probeK x) :
    Calls Tryd.prog 21 #[.slice (some ⟨b, off, none⟩) xs.length cap, .slice (some ⟨b2, off2, none⟩) xs.length cap2] w fun E w' => E = .returned (.bool true) ∧ ∃ n, w.drewN n = w' := by
  have HR := Lib.hid hr
  have HR2 := Lib.hid hr2
  have HG := Lib.hid hg
  clear hr hr2 hg
  go_enter Tryd.func21, Tryd.ntmps21
  go_wp2_with fail
  go_loopw [5] (fun i wr => ∃ k m : Nat, k ≤ xs.length ∧ i = .int .i64 k ∧ w.drewN m = wr) (fun i _ => xs.length - (intOf i).toNat)
  case atStart => exact ⟨0, 0, Nat.zero_le _, rfl, rfl⟩
  case round =>
    obtain ⟨k, m, hk, rfl, hw⟩ := hrel
    subst hw
    by_cases hlt : k < xs.length
    · obtain ⟨x, hx⟩ : ∃ x, xs[k] = x := ⟨_, rfl⟩
      have HA : Hid (∀ j, (h2 : j < x.length) → w.cell? ⟨b, off + k * 6 + j, none⟩ = some (fldVal x[j])) := Lib.hid (by subst hx; exact HR.out k hlt)
      have HB : Hid (∀ j, (h2 : j < x.length) → w.cell? ⟨b2, off2 + k * 6 + j, none⟩ = some (fldVal x[j])) := Lib.hid (by subst hx; exact HR2.out k hlt)
      have hgx : Li.Good Li.probeK x := by subst hx; exact HG.out _ (List.getElem_mem hlt)
      clear hx
      obtain ⟨rc, ra, rb, rx, ry, rt, rfl, _, _, _, _⟩ := Li.good_probe hgx
      clear hgx
      have c0 : w.cell? ⟨b, off + k * 6, none⟩ = some (.int .i64 rc) := HA.out 0 (by simp)
      have d0 : w.cell? ⟨b2, off2 + k * 6, none⟩ = some (.int .i64 rc) := HB.out 0 (by simp)
      have c1 : w.cell? ⟨b, off + k * 6 + 1, none⟩ = some (.string ⟨ra.toArray⟩) := HA.out 1 (by simp)
      have d1 : w.cell? ⟨b2, off2 + k * 6 + 1, none⟩ = some (.string ⟨ra.toArray⟩) := HB.out 1 (by simp)
      have c2 : w.cell? ⟨b, off + k * 6 + 2, none⟩ = some (.string ⟨rb.toArray⟩) := HA.out 2 (by simp)
      have d2 : w.cell? ⟨b2, off2 + k * 6 + 2, none⟩ = some (.string ⟨rb.toArray⟩) := HB.out 2 (by simp)
      have c3 : w.cell? ⟨b, off + k * 6 + 3, none⟩ = some (.int .i64 rx) := HA.out 3 (by simp)
      have d3 : w.cell? ⟨b2, off2 + k * 6 + 3, none⟩ = some (.int .i64 rx) := HB.out 3 (by simp)
      have c4 : w.cell? ⟨b, off + k * 6 + 4, none⟩ = some (.int .i64 ry) := HA.out 4 (by simp)
      have d4 : w.cell? ⟨b2, off2 + k * 6 + 4, none⟩ = some (.int .i64 ry) := HB.out 4 (by simp)
      have c5 : w.cell? ⟨b, off + k * 6 + 5, none⟩ = some (.int .i64 rt) := HA.out 5 (by simp)
      have d5 : w.cell? ⟨b2, off2 + k * 6 + 5, none⟩ = some (.int .i64 rt) := HB.out 5 (by simp)
      have hk0 : (0 : Int) ≤ (k : Int) := Int.natCast_nonneg _
      have hk1 : (k : Int) < (xs.length : Int) := by omega
      go_wp2_with fail
      go_quiet (fail)
      go_wp2_with fail
      go_roundw
      case rel => exact ⟨k + 1, _, hlt, by go_num, rfl⟩
      case measure => simp [intOf]; omega
    · go_wp2_with fail
      go_ret
      exact ⟨rfl, m, rfl⟩

set_option maxHeartbeats 1000000 in
theorem sameRows_nil (ao bo : Option Addr) (c d : Nat) (w : World) : Calls Tryd.prog 18 #[.slice ao 0 c, .slice bo 0 d] w fun E w' => E = .returned (.bool true) ∧ ∃ n, w.drewN n = w' := by
  go_enter Tryd.func18, Tryd.ntmps18
  go_wp2_with fail
  go_loopw [5] (fun i wr => i = .int .i64 0 ∧ w = wr) (fun _ _ => 0)
  case atStart => exact ⟨rfl, rfl⟩
  case round =>
    obtain ⟨rfl, rfl⟩ := hrel
    go_wp2_with fail
    go_ret
    exact ⟨rfl, 0, rfl⟩
theorem sameRows_any (a b : Value) (xs : List (List Li.Fld)) (w : World) (ha : IsRows w a xs) (hb : IsRows w b xs) (hl : xs.length ≤ 65536) (hg : ∀ x ∈ xs, Li.Good Li.rowK x) : Calls Tryd.prog 18 #[a, b] w fun E w' => E = .returned (.bool true) ∧ ∃ n, w.drewN n = w' := by
  rcases ha with ⟨ao, c, rfl, hx⟩ | ⟨b1, o1, c1, rfl, hc1, _, hr1⟩
  · subst hx
    rcases hb with ⟨bo, d, rfl, _⟩ | ⟨b2, o2, c2, rfl, hc2, _, hr2⟩
    · exact sameRows_nil ao bo c d w
    · exact sameRows_nil ao _ c c2 w
  · rcases hb with ⟨bo, d, rfl, hx⟩ | ⟨b2, o2, c2, rfl, hc2, _, hr2⟩
    · subst hx; exact sameRows_nil _ bo c1 d w
    · exact sameRows_row b1 o1 c1 b2 o2 c2 xs w hc1 hc2 hl hr1 hr2 hg

set_option maxHeartbeats 1000000 in
theorem sameProbes_nil (ao bo : Option Addr) (c d : Nat) (w : World) : Calls Tryd.prog 21 #[.slice ao 0 c, .slice bo 0 d] w fun E w' => E = .returned (.bool true) ∧ ∃ n, w.drewN n = w' := by
  go_enter Tryd.func21, Tryd.ntmps21
  go_wp2_with fail
  go_loopw [5] (fun i wr => i = .int .i64 0 ∧ w = wr) (fun _ _ => 0)
  case atStart => exact ⟨rfl, rfl⟩
  case round =>
    obtain ⟨rfl, rfl⟩ := hrel
    go_wp2_with fail
    go_ret
    exact ⟨rfl, 0, rfl⟩
theorem sameProbes_any (a b : Value) (xs : List (List Li.Fld)) (w : World) (ha : IsRows w a xs) (hb : IsRows w b xs) (hl : xs.length ≤ 65536) (hg : ∀ x ∈ xs, Li.Good Li.probeK x) : Calls Tryd.prog 21 #[a, b] w fun E w' => E = .returned (.bool true) ∧ ∃ n, w.drewN n = w' := by
  rcases ha with ⟨ao, c, rfl, hx⟩ | ⟨b1, o1, c1, rfl, hc1, _, hr1⟩
  · subst hx
    rcases hb with ⟨bo, d, rfl, _⟩ | ⟨b2, o2, c2, rfl, hc2, _, hr2⟩
    · exact sameProbes_nil ao bo c d w
    · exact sameProbes_nil ao _ c c2 w
  · rcases hb with ⟨bo, d, rfl, hx⟩ | ⟨b2, o2, c2, rfl, hc2, _, hr2⟩
    · subst hx; exact sameProbes_nil _ bo c1 d w
    · exact sameProbes_row b1 o1 c1 b2 o2 c2 xs w hc1 hc2 hl hr1 hr2 hg

end Go.Proofs.YtldjhjbodhhnbaaDoor
