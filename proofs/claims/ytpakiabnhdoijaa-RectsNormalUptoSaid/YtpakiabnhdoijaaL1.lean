/- RectsCombines' walk: Join, Less and Meet return what the reference returns. Condition: the numbers are bytes. -/
import Derived.Test.YtpakiabnhdoijaaSn
import Derived.Test.YtpakiabnhdoijaaMd
namespace Go.Proofs.Ytpakiabnhdoijaa
open Go.RowKit

theorem len24 {n : Nat} (h : n ≤ 24) : 2 * n * (2 * n) ≤ 65536 := Nat.le_trans (Nat.mul_le_mul (Nat.mul_le_mul_left 2 h) (Nat.mul_le_mul_left 2 h)) (by decide)
theorem made_len (qs : List Quad) : (made qs).length ≤ 12 := by unfold made; rw [List.length_map, List.length_take]; omega
theorem cells2_at (w : World) (x y : Value) (t : TypeId) : (w.alloc (Obj.cells #[x, y] t)).cell? ⟨w.heap.size, 0, none⟩ = some x ∧ (w.alloc (Obj.cells #[x, y] t)).cell? ⟨w.heap.size, 1, none⟩ = some y := by
  have h := heap_alloc_new w (Obj.cells #[x, y] t)
  exact ⟨by rw [cell_of_row _ _ _ _ _ _ h]; rfl, by rw [cell_of_row _ _ _ _ _ _ h]; rfl⟩

set_option maxHeartbeats 8000000 in
set_option maxRecDepth 100000 in
theorem combines_any (v0 v1 v2 : Value) (qs ps : List Quad) (raw : List Rc.Rect) (w : World) (h0 : IsQuads w v0 qs) (h1 : IsQuads w v1 ps) (h2 : IsRects w v2 raw) (o0 : ∀ q ∈ qs, q.ok) (o1 : ∀ q ∈ ps, q.ok) :
    Calls Try.prog 4 #[v0, v1, v2] w fun E w' => E = .returned (.bool true) ∧ Kp w w' none := by
  have C0 : Hid (∀ V, Kp w V none → Calls Try.prog 11 #[v0, .int .i64 12] V fun E w' => OwnRects V E w' (made qs)) := Lib.hid fun V k => made_any v0 qs V (h0.keep k) o0
  have C1 : Hid (∀ V, Kp w V none → Calls Try.prog 11 #[v1, .int .i64 12] V fun E w' => OwnRects V E w' (made ps)) := Lib.hid fun V k => made_any v1 ps V (h1.keep k) o1
  have C2 : Hid (∀ V, Kp w V none → Calls Try.prog 10 #[v2] V fun E w' => ∃ u, E = .returned u ∧ IsRects V u (raw.take 12) ∧ V = w') := Lib.hid fun V k => few_any v2 raw V (h2.keep k)
  clear h0 h1 h2 o0 o1
  have hla := made_len qs
  have hlb := made_len ps
  have hlc : (raw.take 12).length ≤ 12 := by rw [List.length_take]; omega
  obtain ⟨a, ha⟩ : ∃ a, made qs = a := ⟨_, rfl⟩
  obtain ⟨b0, hb0⟩ : ∃ a, made ps = a := ⟨_, rfl⟩
  obtain ⟨b1, hb1⟩ : ∃ a, raw.take 12 = a := ⟨_, rfl⟩
  rw [ha] at C0 hla
  rw [hb0] at C1 hlb
  rw [hb1] at C2 hlc
  clear ha hb0 hb1
  go_enter Try.func4, Try.ntmps4
  go_wp2_with fail
  refine (sanity_any _).mono ?_
  rintro E w1 ⟨rfl, k⟩
  have KQ : Hid (Kp w w1 none) := Lib.hid k
  clear k
  go_wp2_with fail
  refine (C0.out _ KQ.out).mono ?_
  rintro E w2 ⟨u0, rfl, ho, k⟩
  have HA := Lib.hid (isList_own (m := 4) (f := recVal) (fun _ => rfl) ho)
  have KQ := Lib.hid (KQ.out.trans k)
  clear ho k
  go_wp2_with fail
  refine (C1.out _ KQ.out).mono ?_
  rintro E w3 ⟨u1, rfl, ho, k⟩
  obtain ⟨bo1, cp1, rfl⟩ := own_shape ho
  have HB := Lib.hid (isList_own (m := 4) (f := recVal) (fun _ => rfl) ho)
  have KQ := Lib.hid (KQ.out.trans k)
  have HA := Lib.hid (HA.out.keep k)
  clear ho k
  go_wp2_with fail
  refine (C2.out _ KQ.out).mono ?_
  rintro E w4 ⟨u2, rfl, hc, rfl⟩
  obtain ⟨bo2, cp2, rfl, _⟩ := hc.form
  have HC := Lib.hid hc
  clear hc
  obtain ⟨B, hB⟩ : ∃ B, w3.heap.size = B := ⟨_, rfl⟩
  go_wp2_with fail
  obtain ⟨w5, hw5⟩ : ∃ w5, w3.alloc (Obj.cells #[.slice bo1 b0.length cp1, .slice bo2 b1.length cp2] 28) = w5 := ⟨_, rfl⟩
  have K5 : Kp w3 w5 none := by rw [← hw5]; exact Kp.alloc (Kp.refl _ _) _
  have c5 := cells2_at w3 (.slice bo1 b0.length cp1) (.slice bo2 b1.length cp2) 28
  rw [hw5, hB] at c5
  have hB5 := cell_lt c5.1
  have HA : Hid (∀ V, Kp w5 V none → IsRects V u0 a) := Lib.hid fun V k => HA.out.keep (K5.trans k)
  have HL : Hid (∀ i : Nat, i < 2 → ∃ x b, b.length ≤ 12 ∧ ∀ V, Kp w5 V none → V.cell? ⟨B, i, none⟩ = some x ∧ IsRects V x b) := Lib.hid fun i hi => by
    have : i = 0 ∨ i = 1 := by omega
    rcases this with rfl | rfl
    · exact ⟨_, b0, hlb, fun V k => ⟨(k.below.cell (p := ⟨B, 0, none⟩) hB5).trans c5.1, HB.out.keep (K5.trans k)⟩⟩
    · exact ⟨_, b1, hlc, fun V k => ⟨(k.below.cell (p := ⟨B, 1, none⟩) hB5).trans c5.2, HC.out.keep (K5.trans k)⟩⟩
  have KW := Lib.hid (KQ.out.trans K5)
  rw [hw5]
  clear HB HC KQ K5 c5 hB5 hw5 hB
  go_loopw [10] (fun vi wr => ∃ i : Nat, i ≤ 2 ∧ vi = .int .i64 i ∧ Kp w5 wr none) (fun vi _ => 2 - (intOf vi).toNat)
  case atStart => exact ⟨0, by omega, rfl, Kp.refl _ _⟩
  case round =>
    obtain ⟨wz, hwz⟩ : ∃ x, x = wr := ⟨_, rfl⟩
    subst hwz
    obtain ⟨i, hi, rfl, hK⟩ := hrel
    have hi0 : (0 : Int) ≤ (i : Int) := Int.natCast_nonneg _
    have KQ := Lib.hid hK
    clear hK
    by_cases hlt : i < 2
    · have hi1 : (i : Int) < 2 := by omega
      obtain ⟨x, b, hlx, hx⟩ := HL.out i hlt
      have HX := Lib.hid hx
      clear hx
      have CC : Hid (∀ V, Kp w5 V none → V.cell? ⟨B, i, none⟩ = some x) := Lib.hid fun V k => (HX.out V k).1
      go_wp2_with fail
      have KQ := Lib.hid KQ.out.drew
      refine wp_region_held_drew (S := fun V => V.cell? ⟨B, i, none⟩ = some x) (by kernel_rfl) ?_ (fun hHeld => ?_)
      · exact CC.out _ KQ.out
      refine wpAnyH_take (i := 0) (oi := _) (v := ?_) rfl (by kernel_rfl) (by kernel_rfl) (by kernel_rfl) (fun _ _ _ h => h) (Or.inl ⟨by rfl, ?_⟩) (by assumption) ?_
      rotate_left
      · (intro w hSw; (try dsimp only at hSw); go_simp <;> with_reducible rfl)
      try simp only [Act.put, List.getElem_toArray, List.getElem_cons_zero, List.setIfInBounds_toArray, List.set_cons_zero, List.set_cons_succ]
      refine wpAnyH_take (i := 1) (oi := _) (v := ?_) rfl (by kernel_rfl) (by kernel_rfl) (by kernel_rfl) (fun _ _ _ h => h) (Or.inl ⟨by rfl, ?_⟩) (by assumption) ?_
      rotate_left
      · (intro w hSw; (try dsimp only at hSw); go_simp <;> with_reducible rfl)
      try simp only [Act.put, List.getElem_toArray, List.getElem_cons_zero, List.getElem_cons_succ, List.setIfInBounds_toArray, List.set_cons_zero, List.set_cons_succ]
      refine wpAnyH_take (i := 2) (oi := _) (v := ?_) rfl (by kernel_rfl) (by kernel_rfl) (by kernel_rfl) (fun _ _ _ h => h) (Or.inl ⟨by rfl, ?_⟩) (by assumption) ?_
      rotate_left
      · (intro w hSw; (try dsimp only at hSw); go_simp <;> with_reducible rfl)
      try simp only [Act.put, List.getElem_toArray, List.getElem_cons_zero, List.getElem_cons_succ, List.setIfInBounds_toArray, List.set_cons_zero, List.set_cons_succ]
      refine wpAnyH_take (i := 3) (oi := _) (v := ?_) rfl (by kernel_rfl) (by kernel_rfl) (by kernel_rfl) (fun _ _ _ h => h) (Or.inl ⟨by rfl, ?_⟩) (by assumption) ?_
      rotate_left
      · (intro w hSw; (try dsimp only at hSw); go_simp <;> with_reducible rfl)
      try simp only [Act.put, List.getElem_toArray, List.getElem_cons_zero, List.getElem_cons_succ, List.setIfInBounds_toArray, List.set_cons_zero, List.set_cons_succ]
      refine wpAnyH_take (i := 5) (oi := _) (v := ?_) rfl (by kernel_rfl) (by kernel_rfl) (by kernel_rfl) (fun _ _ _ h => h) (Or.inl ⟨by rfl, ?_⟩) (by assumption) ?_
      rotate_left
      · (intro w hSw; (try dsimp only at hSw); go_simp <;> with_reducible rfl)
      try simp only [Act.put, List.getElem_toArray, List.getElem_cons_zero, List.getElem_cons_succ, List.setIfInBounds_toArray, List.set_cons_zero, List.set_cons_succ]
      refine wpAnyH_take (i := 6) (oi := _) (v := ?_) rfl (by kernel_rfl) (by kernel_rfl) (by kernel_rfl) (fun _ _ _ h => h) (Or.inl ⟨by rfl, ?_⟩) (by assumption) ?_
      rotate_left
      · (intro w hSw; (try dsimp only at hSw); go_simp <;> with_reducible rfl)
      try simp only [Act.put, List.getElem_toArray, List.getElem_cons_zero, List.getElem_cons_succ, List.setIfInBounds_toArray, List.set_cons_zero, List.set_cons_succ]
      refine wpAnyH_take (i := 7) (oi := _) (v := ?_) rfl (by kernel_rfl) (by kernel_rfl) (by kernel_rfl) (fun _ _ _ h => h) (Or.inl ⟨by rfl, ?_⟩) (by assumption) ?_
      rotate_left
      · (intro w hSw; (try dsimp only at hSw); go_simp <;> with_reducible rfl)
      try simp only [Act.put, List.getElem_toArray, List.getElem_cons_zero, List.getElem_cons_succ, List.setIfInBounds_toArray, List.set_cons_zero, List.set_cons_succ]
      refine wpAnyH_take (i := 8) (oi := _) (v := ?_) rfl (by kernel_rfl) (by kernel_rfl) (by kernel_rfl) (fun _ _ _ h => h) (Or.inl ⟨by rfl, ?_⟩) (by assumption) ?_
      rotate_left
      · (intro w hSw; (try dsimp only at hSw); go_simp <;> with_reducible rfl)
      try simp only [Act.put, List.getElem_toArray, List.getElem_cons_zero, List.getElem_cons_succ, List.setIfInBounds_toArray, List.set_cons_zero, List.set_cons_succ]
      refine wpAnyH_ready (rs := [4]) (by kernel_rfl) (by simp) ?_
      refine AllReadyH.cons (o := _) rfl (fun K hK => ?_) AllReadyH.nil
      clear hHeld
      go_simp
      refine (joinP_any _ _ _ _ _ (HA.out _ KQ.out) (HX.out _ KQ.out).2 (by omega) (by omega)).mono ?_
      rintro E wa ⟨ua, rfl, ho, k⟩
      have KQ := Lib.hid (KQ.out.trans k)
      have Hua := Lib.hid (isList_own (m := 4) (f := recVal) (fun _ => rfl) ho)
      clear ho k
      try go_wp2_with fail
      refine hK.out _ _ (CC.out _ KQ.out) (fun hHeld => ?_)
      clear hK K
      try simp only [Act.put, List.getElem_toArray, List.getElem_cons_zero, List.getElem_cons_succ, List.setIfInBounds_toArray, List.set_cons_zero, List.set_cons_succ]
      refine wpAnyH_ready (rs := [9]) (by kernel_rfl) (by simp) ?_
      refine AllReadyH.cons (o := _) rfl (fun K hK => ?_) AllReadyH.nil
      clear hHeld
      go_simp
      refine (joinR_any _ _ _ _ _ (HA.out _ KQ.out) (HX.out _ KQ.out).2 (by omega) (by omega)).mono ?_
      rintro E wb ⟨ub, rfl, ho, k⟩
      have KQ := Lib.hid (KQ.out.trans k)
      have Hua := Lib.hid (Hua.out.keep k)
      have Hub := Lib.hid (isList_own (m := 4) (f := recVal) (fun _ => rfl) ho)
      clear ho k
      try go_wp2_with fail
      refine hK.out _ _ (CC.out _ KQ.out) (fun hHeld => ?_)
      clear hK K
      try simp only [Act.put, List.getElem_toArray, List.getElem_cons_zero, List.getElem_cons_succ, List.setIfInBounds_toArray, List.set_cons_zero, List.set_cons_succ]
      refine wpAnyH_ready (rs := [10]) (by kernel_rfl) (by simp) ?_
      refine AllReadyH.cons (o := _) rfl (fun K hK => ?_) AllReadyH.nil
      clear hHeld
      go_simp
      refine (sameR_any _ _ _ _ Hua.out Hub.out (Nat.le_trans (Rc.comb_len Rc.join_comb a b (Nat.le_refl _)) (Nat.le_trans (len24 (by omega)) (by omega)))).mono ?_
      rintro E wc ⟨rfl, m, hm⟩
      have k : Kp wb wc none := by rw [← hm]; exact (Kp.refl _ _).drewN m
      have KQ := Lib.hid (KQ.out.trans k)
      clear hm k Hua Hub
      try go_wp2_with fail
      refine hK.out _ _ (CC.out _ KQ.out) (fun hHeld => ?_)
      clear hK K
      try simp only [Act.put, List.getElem_toArray, List.getElem_cons_zero, List.getElem_cons_succ, List.setIfInBounds_toArray, List.set_cons_zero, List.set_cons_succ]
      refine wpAnyH_take (i := 11) (oi := _) (v := ?_) rfl (by kernel_rfl) (by kernel_rfl) (by kernel_rfl) (fun _ _ _ h => h) (Or.inl ⟨by rfl, ?_⟩) (by assumption) ?_
      rotate_left
      · (intro w hSw; (try dsimp only at hSw); go_simp <;> with_reducible rfl)
      try simp only [Act.put, List.getElem_toArray, List.getElem_cons_zero, List.getElem_cons_succ, List.setIfInBounds_toArray, List.set_cons_zero, List.set_cons_succ]
      refine wpAnyH_take (i := 12) (oi := _) (v := ?_) rfl (by kernel_rfl) (by kernel_rfl) (by kernel_rfl) (fun _ _ _ h => h) (Or.inl ⟨by rfl, ?_⟩) (by assumption) ?_
      rotate_left
      · (intro w hSw; (try dsimp only at hSw); go_simp <;> with_reducible rfl)
      try simp only [Act.put, List.getElem_toArray, List.getElem_cons_zero, List.getElem_cons_succ, List.setIfInBounds_toArray, List.set_cons_zero, List.set_cons_succ]
      refine wpAnyH_take (i := 13) (oi := _) (v := ?_) rfl (by kernel_rfl) (by kernel_rfl) (by kernel_rfl) (fun _ _ _ h => h) (Or.inl ⟨by rfl, ?_⟩) (by assumption) ?_
      rotate_left
      · (intro w hSw; (try dsimp only at hSw); go_simp <;> with_reducible rfl)
      try simp only [Act.put, List.getElem_toArray, List.getElem_cons_zero, List.getElem_cons_succ, List.setIfInBounds_toArray, List.set_cons_zero, List.set_cons_succ]
      refine wpAnyH_take (i := 14) (oi := _) (v := ?_) rfl (by kernel_rfl) (by kernel_rfl) (by kernel_rfl) (fun _ _ _ h => h) (Or.inl ⟨by rfl, ?_⟩) (by assumption) ?_
      rotate_left
      · (intro w hSw; (try dsimp only at hSw); go_simp <;> with_reducible rfl)
      try simp only [Act.put, List.getElem_toArray, List.getElem_cons_zero, List.getElem_cons_succ, List.setIfInBounds_toArray, List.set_cons_zero, List.set_cons_succ]
      refine wpAnyH_take (i := 15) (oi := _) (v := ?_) rfl (by kernel_rfl) (by kernel_rfl) (by kernel_rfl) (fun _ _ _ h => h) (Or.inl ⟨by rfl, ?_⟩) (by assumption) ?_
      rotate_left
      · (intro w hSw; (try dsimp only at hSw); go_simp <;> with_reducible rfl)
      try simp only [Act.put, List.getElem_toArray, List.getElem_cons_zero, List.getElem_cons_succ, List.setIfInBounds_toArray, List.set_cons_zero, List.set_cons_succ]
      refine wpAnyH_take (i := 17) (oi := _) (v := ?_) rfl (by kernel_rfl) (by kernel_rfl) (by kernel_rfl) (fun _ _ _ h => h) (Or.inl ⟨by rfl, ?_⟩) (by assumption) ?_
      rotate_left
      · (intro w hSw; (try dsimp only at hSw); go_simp <;> with_reducible rfl)
      try simp only [Act.put, List.getElem_toArray, List.getElem_cons_zero, List.getElem_cons_succ, List.setIfInBounds_toArray, List.set_cons_zero, List.set_cons_succ]
      refine wpAnyH_take (i := 18) (oi := _) (v := ?_) rfl (by kernel_rfl) (by kernel_rfl) (by kernel_rfl) (fun _ _ _ h => h) (Or.inl ⟨by rfl, ?_⟩) (by assumption) ?_
      rotate_left
      · (intro w hSw; (try dsimp only at hSw); go_simp <;> with_reducible rfl)
      try simp only [Act.put, List.getElem_toArray, List.getElem_cons_zero, List.getElem_cons_succ, List.setIfInBounds_toArray, List.set_cons_zero, List.set_cons_succ]
      refine wpAnyH_take (i := 19) (oi := _) (v := ?_) rfl (by kernel_rfl) (by kernel_rfl) (by kernel_rfl) (fun _ _ _ h => h) (Or.inl ⟨by rfl, ?_⟩) (by assumption) ?_
      rotate_left
      · (intro w hSw; (try dsimp only at hSw); go_simp <;> with_reducible rfl)
      try simp only [Act.put, List.getElem_toArray, List.getElem_cons_zero, List.getElem_cons_succ, List.setIfInBounds_toArray, List.set_cons_zero, List.set_cons_succ]
      refine wpAnyH_take (i := 20) (oi := _) (v := ?_) rfl (by kernel_rfl) (by kernel_rfl) (by kernel_rfl) (fun _ _ _ h => h) (Or.inl ⟨by rfl, ?_⟩) (by assumption) ?_
      rotate_left
      · (intro w hSw; (try dsimp only at hSw); go_simp <;> with_reducible rfl)
      try simp only [Act.put, List.getElem_toArray, List.getElem_cons_zero, List.getElem_cons_succ, List.setIfInBounds_toArray, List.set_cons_zero, List.set_cons_succ]
      refine wpAnyH_ready (rs := [16]) (by kernel_rfl) (by simp) ?_
      refine AllReadyH.cons (o := _) rfl (fun K hK => ?_) AllReadyH.nil
      clear hHeld
      go_simp
      refine (meetP_any _ _ _ _ _ (HX.out _ KQ.out).2 (HA.out _ KQ.out) (by omega) (by omega)).mono ?_
      rintro E wd ⟨uc, rfl, ho, k⟩
      have KQ := Lib.hid (KQ.out.trans k)
      have Huc := Lib.hid (isList_own (m := 4) (f := recVal) (fun _ => rfl) ho)
      clear ho k
      try go_wp2_with fail
      refine hK.out _ _ (CC.out _ KQ.out) (fun hHeld => ?_)
      clear hK K
      try simp only [Act.put, List.getElem_toArray, List.getElem_cons_zero, List.getElem_cons_succ, List.setIfInBounds_toArray, List.set_cons_zero, List.set_cons_succ]
      refine wpAnyH_ready (rs := [21]) (by kernel_rfl) (by simp) ?_
      refine AllReadyH.cons (o := _) rfl (fun K hK => ?_) AllReadyH.nil
      clear hHeld
      go_simp
      refine (meetR_any _ _ _ _ _ (HX.out _ KQ.out).2 (HA.out _ KQ.out) (by omega) (by omega)).mono ?_
      rintro E we ⟨ud, rfl, ho, k⟩
      have KQ := Lib.hid (KQ.out.trans k)
      have Huc := Lib.hid (Huc.out.keep k)
      have Hud := Lib.hid (isList_own (m := 4) (f := recVal) (fun _ => rfl) ho)
      clear ho k
      try go_wp2_with fail
      refine hK.out _ _ (CC.out _ KQ.out) (fun hHeld => ?_)
      clear hK K
      try simp only [Act.put, List.getElem_toArray, List.getElem_cons_zero, List.getElem_cons_succ, List.setIfInBounds_toArray, List.set_cons_zero, List.set_cons_succ]
      refine wpAnyH_ready (rs := [22]) (by kernel_rfl) (by simp) ?_
      refine AllReadyH.cons (o := _) rfl (fun K hK => ?_) AllReadyH.nil
      clear hHeld
      go_simp
      refine (sameR_any _ _ _ _ Huc.out Hud.out (Nat.le_trans (Rc.comb_len Rc.meet_comb b a (Nat.le_refl _)) (Nat.le_trans (len24 (by omega)) (by omega)))).mono ?_
      rintro E wf ⟨rfl, m, hm⟩
      have k : Kp we wf none := by rw [← hm]; exact (Kp.refl _ _).drewN m
      have KQ := Lib.hid (KQ.out.trans k)
      clear hm k Huc Hud
      try go_wp2_with fail
      refine hK.out _ _ (CC.out _ KQ.out) (fun hHeld => ?_)
      clear hK K
      try simp only [Act.put, List.getElem_toArray, List.getElem_cons_zero, List.getElem_cons_succ, List.setIfInBounds_toArray, List.set_cons_zero, List.set_cons_succ]
      refine wpAnyH_take (i := 23) (oi := _) (v := ?_) rfl (by kernel_rfl) (by kernel_rfl) (by kernel_rfl) (fun _ _ _ h => h) (Or.inl ⟨by rfl, ?_⟩) (by assumption) ?_
      rotate_left
      · (intro w hSw; (try dsimp only at hSw); go_simp <;> with_reducible rfl)
      try simp only [Act.put, List.getElem_toArray, List.getElem_cons_zero, List.getElem_cons_succ, List.setIfInBounds_toArray, List.set_cons_zero, List.set_cons_succ]
      refine wpAnyH_ready (rs := [24]) (by kernel_rfl) (by simp) ?_
      refine AllReadyH.cons (o := _) rfl (fun K hK => ?_) AllReadyH.nil
      clear hHeld
      go_simp
      try go_wp2_with fail
      refine hK.out _ _ (CC.out _ KQ.out) (fun hHeld => ?_)
      clear hK K hHeld
      refine wpAnyH_done (by kernel_rfl) ?_ _
      go_wp2_with fail
      have KQ := Lib.hid KQ.out.drew
      refine wp_region_held_drew (S := fun V => V.cell? ⟨B, i, none⟩ = some x) (by kernel_rfl) ?_ (fun hHeld => ?_)
      · exact CC.out _ KQ.out
      refine wpAnyH_take (i := 0) (oi := _) (v := ?_) rfl (by kernel_rfl) (by kernel_rfl) (by kernel_rfl) (fun _ _ _ h => h) (Or.inl ⟨by rfl, ?_⟩) (by assumption) ?_
      rotate_left
      · (intro w hSw; (try dsimp only at hSw); go_simp <;> with_reducible rfl)
      try simp only [Act.put, List.getElem_toArray, List.getElem_cons_zero, List.setIfInBounds_toArray, List.set_cons_zero, List.set_cons_succ]
      refine wpAnyH_take (i := 1) (oi := _) (v := ?_) rfl (by kernel_rfl) (by kernel_rfl) (by kernel_rfl) (fun _ _ _ h => h) (Or.inl ⟨by rfl, ?_⟩) (by assumption) ?_
      rotate_left
      · (intro w hSw; (try dsimp only at hSw); go_simp <;> with_reducible rfl)
      try simp only [Act.put, List.getElem_toArray, List.getElem_cons_zero, List.getElem_cons_succ, List.setIfInBounds_toArray, List.set_cons_zero, List.set_cons_succ]
      refine wpAnyH_take (i := 2) (oi := _) (v := ?_) rfl (by kernel_rfl) (by kernel_rfl) (by kernel_rfl) (fun _ _ _ h => h) (Or.inl ⟨by rfl, ?_⟩) (by assumption) ?_
      rotate_left
      · (intro w hSw; (try dsimp only at hSw); go_simp <;> with_reducible rfl)
      try simp only [Act.put, List.getElem_toArray, List.getElem_cons_zero, List.getElem_cons_succ, List.setIfInBounds_toArray, List.set_cons_zero, List.set_cons_succ]
      refine wpAnyH_take (i := 3) (oi := _) (v := ?_) rfl (by kernel_rfl) (by kernel_rfl) (by kernel_rfl) (fun _ _ _ h => h) (Or.inl ⟨by rfl, ?_⟩) (by assumption) ?_
      rotate_left
      · (intro w hSw; (try dsimp only at hSw); go_simp <;> with_reducible rfl)
      try simp only [Act.put, List.getElem_toArray, List.getElem_cons_zero, List.getElem_cons_succ, List.setIfInBounds_toArray, List.set_cons_zero, List.set_cons_succ]
      refine wpAnyH_take (i := 4) (oi := _) (v := ?_) rfl (by kernel_rfl) (by kernel_rfl) (by kernel_rfl) (fun _ _ _ h => h) (Or.inl ⟨by rfl, ?_⟩) (by assumption) ?_
      rotate_left
      · (intro w hSw; (try dsimp only at hSw); go_simp <;> with_reducible rfl)
      try simp only [Act.put, List.getElem_toArray, List.getElem_cons_zero, List.getElem_cons_succ, List.setIfInBounds_toArray, List.set_cons_zero, List.set_cons_succ]
      refine wpAnyH_take (i := 5) (oi := _) (v := ?_) rfl (by kernel_rfl) (by kernel_rfl) (by kernel_rfl) (fun _ _ _ h => h) (Or.inl ⟨by rfl, ?_⟩) (by assumption) ?_
      rotate_left
      · (intro w hSw; (try dsimp only at hSw); go_simp <;> with_reducible rfl)
      try simp only [Act.put, List.getElem_toArray, List.getElem_cons_zero, List.getElem_cons_succ, List.setIfInBounds_toArray, List.set_cons_zero, List.set_cons_succ]
      refine wpAnyH_take (i := 6) (oi := _) (v := ?_) rfl (by kernel_rfl) (by kernel_rfl) (by kernel_rfl) (fun _ _ _ h => h) (Or.inl ⟨by rfl, ?_⟩) (by assumption) ?_
      rotate_left
      · (intro w hSw; (try dsimp only at hSw); go_simp <;> with_reducible rfl)
      try simp only [Act.put, List.getElem_toArray, List.getElem_cons_zero, List.getElem_cons_succ, List.setIfInBounds_toArray, List.set_cons_zero, List.set_cons_succ]
      refine wpAnyH_take (i := 8) (oi := _) (v := ?_) rfl (by kernel_rfl) (by kernel_rfl) (by kernel_rfl) (fun _ _ _ h => h) (Or.inl ⟨by rfl, ?_⟩) (by assumption) ?_
      rotate_left
      · (intro w hSw; (try dsimp only at hSw); go_simp <;> with_reducible rfl)
      try simp only [Act.put, List.getElem_toArray, List.getElem_cons_zero, List.getElem_cons_succ, List.setIfInBounds_toArray, List.set_cons_zero, List.set_cons_succ]
      refine wpAnyH_take (i := 9) (oi := _) (v := ?_) rfl (by kernel_rfl) (by kernel_rfl) (by kernel_rfl) (fun _ _ _ h => h) (Or.inl ⟨by rfl, ?_⟩) (by assumption) ?_
      rotate_left
      · (intro w hSw; (try dsimp only at hSw); go_simp <;> with_reducible rfl)
      try simp only [Act.put, List.getElem_toArray, List.getElem_cons_zero, List.getElem_cons_succ, List.setIfInBounds_toArray, List.set_cons_zero, List.set_cons_succ]
      refine wpAnyH_take (i := 10) (oi := _) (v := ?_) rfl (by kernel_rfl) (by kernel_rfl) (by kernel_rfl) (fun _ _ _ h => h) (Or.inl ⟨by rfl, ?_⟩) (by assumption) ?_
      rotate_left
      · (intro w hSw; (try dsimp only at hSw); go_simp <;> with_reducible rfl)
      try simp only [Act.put, List.getElem_toArray, List.getElem_cons_zero, List.getElem_cons_succ, List.setIfInBounds_toArray, List.set_cons_zero, List.set_cons_succ]
      refine wpAnyH_take (i := 11) (oi := _) (v := ?_) rfl (by kernel_rfl) (by kernel_rfl) (by kernel_rfl) (fun _ _ _ h => h) (Or.inl ⟨by rfl, ?_⟩) (by assumption) ?_
      rotate_left
      · (intro w hSw; (try dsimp only at hSw); go_simp <;> with_reducible rfl)
      try simp only [Act.put, List.getElem_toArray, List.getElem_cons_zero, List.getElem_cons_succ, List.setIfInBounds_toArray, List.set_cons_zero, List.set_cons_succ]
      refine wpAnyH_ready (rs := [7]) (by kernel_rfl) (by simp) ?_
      refine AllReadyH.cons (o := _) rfl (fun K hK => ?_) AllReadyH.nil
      clear hHeld
      go_simp
      refine (lessP_any _ _ _ _ _ (HA.out _ KQ.out) (HX.out _ KQ.out).2 (by omega) (by omega)).mono ?_
      rintro E wg ⟨ua, rfl, ho, k⟩
      have KQ := Lib.hid (KQ.out.trans k)
      have Hua := Lib.hid (isList_own (m := 4) (f := recVal) (fun _ => rfl) ho)
      clear ho k
      try go_wp2_with fail
      refine hK.out _ _ (CC.out _ KQ.out) (fun hHeld => ?_)
      clear hK K
      try simp only [Act.put, List.getElem_toArray, List.getElem_cons_zero, List.getElem_cons_succ, List.setIfInBounds_toArray, List.set_cons_zero, List.set_cons_succ]
      refine wpAnyH_ready (rs := [12]) (by kernel_rfl) (by simp) ?_
      refine AllReadyH.cons (o := _) rfl (fun K hK => ?_) AllReadyH.nil
      clear hHeld
      go_simp
      refine (lessR_any _ _ _ _ _ (HA.out _ KQ.out) (HX.out _ KQ.out).2 (by omega) (by omega)).mono ?_
      rintro E wh ⟨ub, rfl, ho, k⟩
      have KQ := Lib.hid (KQ.out.trans k)
      have Hua := Lib.hid (Hua.out.keep k)
      have Hub := Lib.hid (isList_own (m := 4) (f := recVal) (fun _ => rfl) ho)
      clear ho k
      try go_wp2_with fail
      refine hK.out _ _ (CC.out _ KQ.out) (fun hHeld => ?_)
      clear hK K
      try simp only [Act.put, List.getElem_toArray, List.getElem_cons_zero, List.getElem_cons_succ, List.setIfInBounds_toArray, List.set_cons_zero, List.set_cons_succ]
      refine wpAnyH_ready (rs := [13]) (by kernel_rfl) (by simp) ?_
      refine AllReadyH.cons (o := _) rfl (fun K hK => ?_) AllReadyH.nil
      clear hHeld
      go_simp
      refine (sameR_any _ _ _ _ Hua.out Hub.out (Nat.le_trans (Rc.comb_len Rc.less_comb a b (Nat.le_refl _)) (Nat.le_trans (len24 (by omega)) (by omega)))).mono ?_
      rintro E wi ⟨rfl, m, hm⟩
      have k : Kp wh wi none := by rw [← hm]; exact (Kp.refl _ _).drewN m
      have KQ := Lib.hid (KQ.out.trans k)
      clear hm k Hua Hub
      try go_wp2_with fail
      refine hK.out _ _ (CC.out _ KQ.out) (fun hHeld => ?_)
      clear hK K
      try simp only [Act.put, List.getElem_toArray, List.getElem_cons_zero, List.getElem_cons_succ, List.setIfInBounds_toArray, List.set_cons_zero, List.set_cons_succ]
      refine wpAnyH_take (i := 14) (oi := _) (v := ?_) rfl (by kernel_rfl) (by kernel_rfl) (by kernel_rfl) (fun _ _ _ h => h) (Or.inl ⟨by rfl, ?_⟩) (by assumption) ?_
      rotate_left
      · (intro w hSw; (try dsimp only at hSw); go_simp <;> with_reducible rfl)
      try simp only [Act.put, List.getElem_toArray, List.getElem_cons_zero, List.getElem_cons_succ, List.setIfInBounds_toArray, List.set_cons_zero, List.set_cons_succ]
      refine wpAnyH_take (i := 15) (oi := _) (v := ?_) rfl (by kernel_rfl) (by kernel_rfl) (by kernel_rfl) (fun _ _ _ h => h) (Or.inl ⟨by rfl, ?_⟩) (by assumption) ?_
      rotate_left
      · (intro w hSw; (try dsimp only at hSw); go_simp <;> with_reducible rfl)
      try simp only [Act.put, List.getElem_toArray, List.getElem_cons_zero, List.getElem_cons_succ, List.setIfInBounds_toArray, List.set_cons_zero, List.set_cons_succ]
      refine wpAnyH_take (i := 16) (oi := _) (v := ?_) rfl (by kernel_rfl) (by kernel_rfl) (by kernel_rfl) (fun _ _ _ h => h) (Or.inl ⟨by rfl, ?_⟩) (by assumption) ?_
      rotate_left
      · (intro w hSw; (try dsimp only at hSw); go_simp <;> with_reducible rfl)
      try simp only [Act.put, List.getElem_toArray, List.getElem_cons_zero, List.getElem_cons_succ, List.setIfInBounds_toArray, List.set_cons_zero, List.set_cons_succ]
      refine wpAnyH_take (i := 17) (oi := _) (v := ?_) rfl (by kernel_rfl) (by kernel_rfl) (by kernel_rfl) (fun _ _ _ h => h) (Or.inl ⟨by rfl, ?_⟩) (by assumption) ?_
      rotate_left
      · (intro w hSw; (try dsimp only at hSw); go_simp <;> with_reducible rfl)
      try simp only [Act.put, List.getElem_toArray, List.getElem_cons_zero, List.getElem_cons_succ, List.setIfInBounds_toArray, List.set_cons_zero, List.set_cons_succ]
      refine wpAnyH_take (i := 18) (oi := _) (v := ?_) rfl (by kernel_rfl) (by kernel_rfl) (by kernel_rfl) (fun _ _ _ h => h) (Or.inl ⟨by rfl, ?_⟩) (by assumption) ?_
      rotate_left
      · (intro w hSw; (try dsimp only at hSw); go_simp <;> with_reducible rfl)
      try simp only [Act.put, List.getElem_toArray, List.getElem_cons_zero, List.getElem_cons_succ, List.setIfInBounds_toArray, List.set_cons_zero, List.set_cons_succ]
      refine wpAnyH_take (i := 19) (oi := _) (v := ?_) rfl (by kernel_rfl) (by kernel_rfl) (by kernel_rfl) (fun _ _ _ h => h) (Or.inl ⟨by rfl, ?_⟩) (by assumption) ?_
      rotate_left
      · (intro w hSw; (try dsimp only at hSw); go_simp <;> with_reducible rfl)
      try simp only [Act.put, List.getElem_toArray, List.getElem_cons_zero, List.getElem_cons_succ, List.setIfInBounds_toArray, List.set_cons_zero, List.set_cons_succ]
      refine wpAnyH_take (i := 20) (oi := _) (v := ?_) rfl (by kernel_rfl) (by kernel_rfl) (by kernel_rfl) (fun _ _ _ h => h) (Or.inl ⟨by rfl, ?_⟩) (by assumption) ?_
      rotate_left
      · (intro w hSw; (try dsimp only at hSw); go_simp <;> with_reducible rfl)
      try simp only [Act.put, List.getElem_toArray, List.getElem_cons_zero, List.getElem_cons_succ, List.setIfInBounds_toArray, List.set_cons_zero, List.set_cons_succ]
      refine wpAnyH_take (i := 22) (oi := _) (v := ?_) rfl (by kernel_rfl) (by kernel_rfl) (by kernel_rfl) (fun _ _ _ h => h) (Or.inl ⟨by rfl, ?_⟩) (by assumption) ?_
      rotate_left
      · (intro w hSw; (try dsimp only at hSw); go_simp <;> with_reducible rfl)
      try simp only [Act.put, List.getElem_toArray, List.getElem_cons_zero, List.getElem_cons_succ, List.setIfInBounds_toArray, List.set_cons_zero, List.set_cons_succ]
      refine wpAnyH_take (i := 23) (oi := _) (v := ?_) rfl (by kernel_rfl) (by kernel_rfl) (by kernel_rfl) (fun _ _ _ h => h) (Or.inl ⟨by rfl, ?_⟩) (by assumption) ?_
      rotate_left
      · (intro w hSw; (try dsimp only at hSw); go_simp <;> with_reducible rfl)
      try simp only [Act.put, List.getElem_toArray, List.getElem_cons_zero, List.getElem_cons_succ, List.setIfInBounds_toArray, List.set_cons_zero, List.set_cons_succ]
      refine wpAnyH_take (i := 24) (oi := _) (v := ?_) rfl (by kernel_rfl) (by kernel_rfl) (by kernel_rfl) (fun _ _ _ h => h) (Or.inl ⟨by rfl, ?_⟩) (by assumption) ?_
      rotate_left
      · (intro w hSw; (try dsimp only at hSw); go_simp <;> with_reducible rfl)
      try simp only [Act.put, List.getElem_toArray, List.getElem_cons_zero, List.getElem_cons_succ, List.setIfInBounds_toArray, List.set_cons_zero, List.set_cons_succ]
      refine wpAnyH_take (i := 25) (oi := _) (v := ?_) rfl (by kernel_rfl) (by kernel_rfl) (by kernel_rfl) (fun _ _ _ h => h) (Or.inl ⟨by rfl, ?_⟩) (by assumption) ?_
      rotate_left
      · (intro w hSw; (try dsimp only at hSw); go_simp <;> with_reducible rfl)
      try simp only [Act.put, List.getElem_toArray, List.getElem_cons_zero, List.getElem_cons_succ, List.setIfInBounds_toArray, List.set_cons_zero, List.set_cons_succ]
      refine wpAnyH_ready (rs := [21]) (by kernel_rfl) (by simp) ?_
      refine AllReadyH.cons (o := _) rfl (fun K hK => ?_) AllReadyH.nil
      clear hHeld
      go_simp
      refine (lessP_any _ _ _ _ _ (HX.out _ KQ.out).2 (HA.out _ KQ.out) (by omega) (by omega)).mono ?_
      rintro E wj ⟨uc, rfl, ho, k⟩
      have KQ := Lib.hid (KQ.out.trans k)
      have Huc := Lib.hid (isList_own (m := 4) (f := recVal) (fun _ => rfl) ho)
      clear ho k
      try go_wp2_with fail
      refine hK.out _ _ (CC.out _ KQ.out) (fun hHeld => ?_)
      clear hK K
      try simp only [Act.put, List.getElem_toArray, List.getElem_cons_zero, List.getElem_cons_succ, List.setIfInBounds_toArray, List.set_cons_zero, List.set_cons_succ]
      refine wpAnyH_ready (rs := [26]) (by kernel_rfl) (by simp) ?_
      refine AllReadyH.cons (o := _) rfl (fun K hK => ?_) AllReadyH.nil
      clear hHeld
      go_simp
      refine (lessR_any _ _ _ _ _ (HX.out _ KQ.out).2 (HA.out _ KQ.out) (by omega) (by omega)).mono ?_
      rintro E wk ⟨ud, rfl, ho, k⟩
      have KQ := Lib.hid (KQ.out.trans k)
      have Huc := Lib.hid (Huc.out.keep k)
      have Hud := Lib.hid (isList_own (m := 4) (f := recVal) (fun _ => rfl) ho)
      clear ho k
      try go_wp2_with fail
      refine hK.out _ _ (CC.out _ KQ.out) (fun hHeld => ?_)
      clear hK K
      try simp only [Act.put, List.getElem_toArray, List.getElem_cons_zero, List.getElem_cons_succ, List.setIfInBounds_toArray, List.set_cons_zero, List.set_cons_succ]
      refine wpAnyH_ready (rs := [27]) (by kernel_rfl) (by simp) ?_
      refine AllReadyH.cons (o := _) rfl (fun K hK => ?_) AllReadyH.nil
      clear hHeld
      go_simp
      refine (sameR_any _ _ _ _ Huc.out Hud.out (Nat.le_trans (Rc.comb_len Rc.less_comb b a (Nat.le_refl _)) (Nat.le_trans (len24 (by omega)) (by omega)))).mono ?_
      rintro E wl ⟨rfl, m, hm⟩
      have k : Kp wk wl none := by rw [← hm]; exact (Kp.refl _ _).drewN m
      have KQ := Lib.hid (KQ.out.trans k)
      clear hm k Huc Hud
      try go_wp2_with fail
      refine hK.out _ _ (CC.out _ KQ.out) (fun hHeld => ?_)
      clear hK K
      try simp only [Act.put, List.getElem_toArray, List.getElem_cons_zero, List.getElem_cons_succ, List.setIfInBounds_toArray, List.set_cons_zero, List.set_cons_succ]
      refine wpAnyH_take (i := 28) (oi := _) (v := ?_) rfl (by kernel_rfl) (by kernel_rfl) (by kernel_rfl) (fun _ _ _ h => h) (Or.inl ⟨by rfl, ?_⟩) (by assumption) ?_
      rotate_left
      · (intro w hSw; (try dsimp only at hSw); go_simp <;> with_reducible rfl)
      try simp only [Act.put, List.getElem_toArray, List.getElem_cons_zero, List.getElem_cons_succ, List.setIfInBounds_toArray, List.set_cons_zero, List.set_cons_succ]
      refine wpAnyH_ready (rs := [29]) (by kernel_rfl) (by simp) ?_
      refine AllReadyH.cons (o := _) rfl (fun K hK => ?_) AllReadyH.nil
      clear hHeld
      go_simp
      try go_wp2_with fail
      refine hK.out _ _ (CC.out _ KQ.out) (fun hHeld => ?_)
      clear hK K hHeld
      refine wpAnyH_done (by kernel_rfl) ?_ _
      go_wp2_with fail
      go_roundw
      case rel => exact ⟨i + 1, by omega, by simp, KQ.out⟩
      case measure => simp [intOf]; omega
    · have hi1 : ¬ (i : Int) < 2 := by omega
      go_wp2_with fail
      go_ret
      exact ⟨rfl, KW.out.trans KQ.out⟩

end Go.Proofs.Ytpakiabnhdoijaa
