/- A changed text: how long it is at most. Condition: the text is shorter than 2^31 bytes. -/
import Derived.Test.YtldjhjbodhhnbaaDoorWf
namespace Go.Proofs.YtldjhjbodhhnbaaDoor
open Go.RowKit
set_option maxHeartbeats 8000000 in
set_option maxRecDepth 100000 in
theorem apply_any (a c : Int) (ha : 0 ≤ a) (_ha2 : a < 65536) (hc : 0 ≤ c) (_hc2 : c < 256) (inn s : List UInt8) (hin : inn.length ≤ 9223372036854775807) (hs : s.length < 2147483648) (w : World) :
    Calls Tryd.prog 16 #[.agg #[.int .u16 a, .int .u8 c, .string ⟨inn.toArray⟩], .string ⟨s.toArray⟩] w fun E w' => (∃ r : List UInt8, E = .returned (.string ⟨r.toArray⟩) ∧ r.length ≤ 2 * s.length + 30) ∧ Kp w w' none := by
  have hm0 : 0 ≤ a % ((s.length : Int) + 1) := Int.emod_nonneg _ (by omega)
  have hm1 : a % ((s.length : Int) + 1) < (s.length : Int) + 1 := Int.emod_lt_of_pos _ (by omega)
  obtain ⟨m, hm⟩ : ∃ m : Nat, a % ((s.length : Int) + 1) = (m : Int) := ⟨(a % ((s.length : Int) + 1)).toNat, by omega⟩
  obtain ⟨q, hq⟩ : ∃ q : Nat, c % 20 = (q : Int) := ⟨(c % 20).toNat, by omega⟩
  have hqt : c.tmod 20 = (q : Int) := by rw [Int.tmod_eq_emod_of_nonneg hc]; exact hq
  have hq20 : q < 20 := by omega
  have hms : (m : Int) ≤ (s.length : Int) := by omega
  have hmn : (0 : Int) ≤ (m : Int) := by omega
  have ew0 : IntKind.i64.wrap c = c := by exact IntWalk.i64_in _ (by omega)
  have ew1 : IntKind.i64.wrap (q : Int) = (q : Int) := by exact IntWalk.i64_in _ (by omega)
  have ew2 : IntKind.i64.wrap ((m : Int) + (q : Int)) = (m : Int) + (q : Int) := by exact IntWalk.i64_in _ (by omega)
  obtain ⟨p, hp⟩ : ∃ p : Nat, min (s.length : Int) ((m : Int) + (q : Int)) = (p : Int) := ⟨(min (s.length : Int) ((m : Int) + (q : Int))).toNat, by omega⟩
  have hps : (p : Int) ≤ (s.length : Int) := by omega
  have hpn : (0 : Int) ≤ (p : Int) := by omega
  have hi0 : (0 : Int) ≤ min (inn.length : Int) 30 := by omega
  have hi1 : min (inn.length : Int) 30 ≤ (inn.length : Int) := by omega
  obtain ⟨x1, h1⟩ : ∃ x1, s.take m = x1 := ⟨_, rfl⟩
  obtain ⟨x2, h2⟩ : ∃ x2, inn.take 30 = x2 := ⟨_, rfl⟩
  obtain ⟨x3, h3⟩ : ∃ x3, s.drop p = x3 := ⟨_, rfl⟩
  have l1 : x1.length ≤ s.length := by rw [← h1, List.length_take]; omega
  have l2 : x2.length ≤ 30 := by rw [← h2, List.length_take]; omega
  have l3 : x3.length ≤ s.length := by rw [← h3, List.length_drop]; omega
  have e1 : (⟨s.toArray⟩ : ByteArray).extract 0 m = ⟨x1.toArray⟩ := by rw [ext_take, h1]
  have e2 : (⟨inn.toArray⟩ : ByteArray).extract 0 (min (inn.length : Int) 30).toNat = ⟨x2.toArray⟩ := by
    rw [ext_take, ← h2]; congr 2
    by_cases h : inn.length ≤ 30
    · rw [List.take_of_length_le (by omega), List.take_of_length_le h]
    · congr 1; omega
  have e3 : (⟨s.toArray⟩ : ByteArray).extract p s.length = ⟨x3.toArray⟩ := by rw [ext_drop, h3]
  obtain ⟨y, hy⟩ : ∃ y, x1 ++ x2 = y := ⟨_, rfl⟩
  have ly : y.length ≤ s.length + 30 := by rw [← hy, List.length_append]; omega
  have g1 : (9223372036854775807 < x1.length + x2.length) = False := eq_false (by omega)
  have g2 : (9223372036854775807 < y.length + x3.length) = False := eq_false (by omega)
  have ce : ∀ a b : List UInt8, ((⟨a.toArray⟩ : ByteArray) ++ ⟨b.toArray⟩) = ⟨(a ++ b).toArray⟩ := cat_eq
  clear h1 h2 h3 hq hm0 hm1
  go_enter Tryd.func16, Tryd.ntmps16
  go_wp2_with fail
  refine wp_region_held_drew (S := fun w' => w'.cell? ⟨w.heap.size, 0, none⟩ = some (.int .u16 a) ∧ w'.cell? ⟨w.heap.size, 1, none⟩ = some (.int .u8 c) ∧ w'.cell? ⟨w.heap.size, 2, none⟩ = some (.string ⟨inn.toArray⟩)) (by kernel_rfl) ?_ (fun hHeld => ?_)
  · exact ⟨ckr (heap_alloc_new w (.cells #[.int .u16 a, .int .u8 c, .string ⟨inn.toArray⟩] 41)) ((Kp.refl (w.alloc (.cells #[.int .u16 a, .int .u8 c, .string ⟨inn.toArray⟩] 41)) none).drew) (by simp) 0 rfl, ckr (heap_alloc_new w (.cells #[.int .u16 a, .int .u8 c, .string ⟨inn.toArray⟩] 41)) ((Kp.refl (w.alloc (.cells #[.int .u16 a, .int .u8 c, .string ⟨inn.toArray⟩] 41)) none).drew) (by simp) 1 rfl, ckr (heap_alloc_new w (.cells #[.int .u16 a, .int .u8 c, .string ⟨inn.toArray⟩] 41)) ((Kp.refl (w.alloc (.cells #[.int .u16 a, .int .u8 c, .string ⟨inn.toArray⟩] 41)) none).drew) (by simp) 2 rfl⟩
  refine wpAnyH_take (i := 0) (oi := _) (v := ?_) rfl (by kernel_rfl) (by kernel_rfl) (by kernel_rfl) (fun _ _ _ h => h) (Or.inl ⟨by rfl, ?_⟩) (by assumption) ?_
  rotate_left
  · (intro w hSw; (try dsimp only at hSw); go_simp <;> with_reducible rfl)
  try simp only [Act.put, List.setIfInBounds_toArray]
  refine wpAnyH_take (i := 1) (oi := _) (v := ?_) rfl (by kernel_rfl) (by kernel_rfl) (by kernel_rfl) (fun _ _ _ h => h) (Or.inl ⟨by rfl, ?_⟩) (by assumption) ?_
  rotate_left
  · (intro w hSw; (try dsimp only at hSw); go_simp <;> with_reducible rfl)
  try simp only [Act.put]
  refine wpAnyH_take (i := 2) (oi := _) (v := ?_) rfl (by kernel_rfl) (by kernel_rfl) (by kernel_rfl) (fun _ _ _ h => h) (Or.inl ⟨by rfl, ?_⟩) (by assumption) ?_
  rotate_left
  · (intro w hSw; (try dsimp only at hSw); go_simp <;> with_reducible rfl)
  try simp only [Act.put]
  refine wpAnyH_take (i := 3) (oi := _) (v := ?_) rfl (by kernel_rfl) (by kernel_rfl) (by kernel_rfl) (fun _ _ _ h => h) (Or.inl ⟨by rfl, ?_⟩) (by assumption) ?_
  rotate_left
  · (intro w hSw; (try dsimp only at hSw); go_simp <;> with_reducible rfl)
  try simp only [Act.put]
  refine wpAnyH_take (i := 4) (oi := _) (v := ?_) rfl (by kernel_rfl) (by kernel_rfl) (by kernel_rfl) (fun _ _ _ h => h) (Or.inl ⟨by rfl, ?_⟩) (by assumption) ?_
  rotate_left
  · (intro w hSw; (try dsimp only at hSw); go_simp <;> with_reducible rfl)
  try simp only [Act.put]
  refine wpAnyH_take (i := 5) (oi := _) (v := ?_) rfl (by kernel_rfl) (by kernel_rfl) (by kernel_rfl) (fun _ _ _ h => h) (Or.inl ⟨by rfl, ?_⟩) (by assumption) ?_
  rotate_left
  · (intro w hSw; (try dsimp only at hSw); go_simp <;> with_reducible rfl)
  try simp only [Act.put]
  refine wpAnyH_take (i := 6) (oi := _) (v := ?_) rfl (by kernel_rfl) (by kernel_rfl) (by kernel_rfl) (fun _ _ _ h => h) (Or.inl ⟨by rfl, ?_⟩) (by assumption) ?_
  rotate_left
  · (intro w hSw; (try dsimp only at hSw); go_simp <;> with_reducible rfl)
  try simp only [Act.put]
  refine wpAnyH_take (i := 7) (oi := _) (v := ?_) rfl (by kernel_rfl) (by kernel_rfl) (by kernel_rfl) (fun _ _ _ h => h) (Or.inl ⟨by rfl, ?_⟩) (by assumption) ?_
  rotate_left
  · (intro w hSw; (try dsimp only at hSw); go_simp <;> with_reducible rfl)
  try simp only [Act.put]
  refine wpAnyH_take (i := 8) (oi := _) (v := ?_) rfl (by kernel_rfl) (by kernel_rfl) (by kernel_rfl) (fun _ _ _ h => h) (Or.inl ⟨by rfl, ?_⟩) (by assumption) ?_
  rotate_left
  · (intro w hSw; (try dsimp only at hSw); go_simp <;> with_reducible rfl)
  try simp only [Act.put]
  refine wpAnyH_take (i := 9) (oi := _) (v := ?_) rfl (by kernel_rfl) (by kernel_rfl) (by kernel_rfl) (fun _ _ _ h => h) (Or.inl ⟨by rfl, ?_⟩) (by assumption) ?_
  rotate_left
  · (intro w hSw; (try dsimp only at hSw); go_simp <;> with_reducible rfl)
  try simp only [Act.put]
  refine wpAnyH_take (i := 10) (oi := _) (v := ?_) rfl (by kernel_rfl) (by kernel_rfl) (by kernel_rfl) (fun _ _ _ h => h) (Or.inl ⟨by rfl, ?_⟩) (by assumption) ?_
  rotate_left
  · (intro w hSw; (try dsimp only at hSw); go_simp <;> with_reducible rfl)
  try simp only [Act.put]
  refine wpAnyH_take (i := 11) (oi := _) (v := ?_) rfl (by kernel_rfl) (by kernel_rfl) (by kernel_rfl) (fun _ _ _ h => h) (Or.inl ⟨by rfl, ?_⟩) (by assumption) ?_
  rotate_left
  · (intro w hSw; (try dsimp only at hSw); go_simp <;> with_reducible rfl)
  try simp only [Act.put]
  refine wpAnyH_take (i := 12) (oi := _) (v := ?_) rfl (by kernel_rfl) (by kernel_rfl) (by kernel_rfl) (fun _ _ _ h => h) (Or.inl ⟨by rfl, ?_⟩) (by assumption) ?_
  rotate_left
  · (intro w hSw; (try dsimp only at hSw); go_simp <;> with_reducible rfl)
  try simp only [Act.put]
  refine wpAnyH_take (i := 13) (oi := _) (v := ?_) rfl (by kernel_rfl) (by kernel_rfl) (by kernel_rfl) (fun _ _ _ h => h) (Or.inl ⟨by rfl, ?_⟩) (by assumption) ?_
  rotate_left
  · (intro w hSw; (try dsimp only at hSw); go_simp <;> with_reducible rfl)
  try simp only [Act.put]
  refine wpAnyH_take (i := 14) (oi := _) (v := ?_) rfl (by kernel_rfl) (by kernel_rfl) (by kernel_rfl) (fun _ _ _ h => h) (Or.inl ⟨by rfl, ?_⟩) (by assumption) ?_
  rotate_left
  · (intro w hSw; (try dsimp only at hSw); go_simp <;> with_reducible rfl)
  try simp only [Act.put]
  refine wpAnyH_take (i := 15) (oi := _) (v := ?_) rfl (by kernel_rfl) (by kernel_rfl) (by kernel_rfl) (fun _ _ _ h => h) (Or.inl ⟨by rfl, ?_⟩) (by assumption) ?_
  rotate_left
  · (intro w hSw; (try dsimp only at hSw); go_simp <;> with_reducible rfl)
  try simp only [Act.put]
  refine wpAnyH_take (i := 16) (oi := _) (v := ?_) rfl (by kernel_rfl) (by kernel_rfl) (by kernel_rfl) (fun _ _ _ h => h) (Or.inl ⟨by rfl, ?_⟩) (by assumption) ?_
  rotate_left
  · (intro w hSw; (try dsimp only at hSw); go_simp <;> with_reducible rfl)
  try simp only [Act.put]
  refine wpAnyH_take (i := 17) (oi := _) (v := ?_) rfl (by kernel_rfl) (by kernel_rfl) (by kernel_rfl) (fun _ _ _ h => h) (Or.inl ⟨by rfl, ?_⟩) (by assumption) ?_
  rotate_left
  · (intro w hSw; (try dsimp only at hSw); go_simp <;> with_reducible rfl)
  try simp only [Act.put]
  refine wpAnyH_take (i := 18) (oi := _) (v := ?_) rfl (by kernel_rfl) (by kernel_rfl) (by kernel_rfl) (fun _ _ _ h => h) (Or.inl ⟨by rfl, ?_⟩) (by assumption) ?_
  rotate_left
  · (intro w hSw; (try dsimp only at hSw); go_simp <;> with_reducible rfl)
  try simp only [Act.put]
  refine wpAnyH_take (i := 19) (oi := _) (v := ?_) rfl (by kernel_rfl) (by kernel_rfl) (by kernel_rfl) (fun _ _ _ h => h) (Or.inl ⟨by rfl, ?_⟩) (by assumption) ?_
  rotate_left
  · (intro w hSw; (try dsimp only at hSw); go_simp <;> with_reducible rfl)
  try simp only [Act.put]
  refine wpAnyH_take (i := 20) (oi := _) (v := ?_) rfl (by kernel_rfl) (by kernel_rfl) (by kernel_rfl) (fun _ _ _ h => h) (Or.inl ⟨by rfl, ?_⟩) (by assumption) ?_
  rotate_left
  · (intro w hSw; (try dsimp only at hSw); go_simp <;> with_reducible rfl)
  try simp only [Act.put]
  refine wpAnyH_take (i := 21) (oi := _) (v := ?_) rfl (by kernel_rfl) (by kernel_rfl) (by kernel_rfl) (fun _ _ _ h => h) (Or.inl ⟨by rfl, ?_⟩) (by assumption) ?_
  rotate_left
  · (intro w hSw; (try dsimp only at hSw); go_simp <;> with_reducible rfl)
  try simp only [Act.put]
  refine wpAnyH_take (i := 22) (oi := _) (v := ?_) rfl (by kernel_rfl) (by kernel_rfl) (by kernel_rfl) (fun _ _ _ h => h) (Or.inl ⟨by rfl, ?_⟩) (by assumption) ?_
  rotate_left
  · (intro w hSw; (try dsimp only at hSw); go_simp <;> with_reducible rfl)
  try simp only [Act.put]
  refine wpAnyH_ready (rs := [23]) (by kernel_rfl) (by simp) ?_
  refine AllReadyH.cons (o := _) rfl (fun K hK => ?_) AllReadyH.nil
  have gK := hHeld
  go_simp
  refine hK.out _ _ gK (fun hHeld => ?_)
  clear hK K hHeld gK
  try simp only [Act.put, List.setIfInBounds_toArray, List.set_cons_zero, List.set_cons_succ]
  refine wpAnyH_done (by kernel_rfl) ?_ _
  clear hHeld
  go_wp2_with fail
  go_ret
  exact ⟨⟨y ++ x3, rfl, by rw [List.length_append]; omega⟩, (Kp.refl _ _).alloc _ |>.drew⟩
end Go.Proofs.YtldjhjbodhhnbaaDoor
