/- Area, of the reference and of the program. Condition: at most 8192 rectangles. -/
import Derived.Test.YtpakiabnhdoijaaNp
import Derived.Test.YtpakiabnhdoijaaRcF
namespace Go.Proofs.Ytpakiabnhdoijaa
open Go.RowKit

theorem wrap_small (n : Int) (h1 : -9223372036854775808 ≤ n) (h2 : n ≤ 9223372036854775807) : IntKind.i64.wrap n = n := by
  rw [IntKind.wrap_i64]; omega
/-- The sums on the way. -/
structure AreaOk (l : List Rc.Rect) : Prop where
  few : l.length ≤ 268435456
  ok : ∀ r ∈ l, r.ok
  tot : Rc.areaOf l ≤ 4611686018427387904
theorem areaOk_norm (a : List Rc.Rect) (h : a.length ≤ 8192) : AreaOk (Rc.norm a) where
  few := by have := Rc.comb_len Rc.join_comb a [] (n := 8192) (by simpa using h); unfold Rc.norm; omega
  ok := Rc.comb_ok Rc.join_comb a []
  tot := Rc.area_comb_le Rc.join_comb a []
theorem area_step {l : List Rc.Rect} (h : AreaOk l) {k : Nat} (hk : k < l.length) : IntKind.i64.wrap (l[k].x1 - l[k].x0) = l[k].x1 - l[k].x0 ∧ IntKind.i64.wrap (l[k].y1 - l[k].y0) = l[k].y1 - l[k].y0 ∧
    IntKind.i64.wrap ((l[k].x1 - l[k].x0) * (l[k].y1 - l[k].y0)) = (l[k].x1 - l[k].x0) * (l[k].y1 - l[k].y0) ∧ IntKind.i64.wrap (Rc.areaOf (l.take k) + (l[k].x1 - l[k].x0) * (l[k].y1 - l[k].y0)) = Rc.areaOf (l.take (k + 1)) := by
  have hp : ∀ r ∈ l, r.x0 < r.x1 ∧ r.y0 < r.y1 := fun r hr => ⟨(h.ok r hr).1, (h.ok r hr).2.1⟩
  have ho := h.ok l[k] (List.getElem_mem hk)
  unfold Rc.Rect.ok Rc.far at ho
  have e : Rc.areaOf (l.take (k + 1)) = Rc.areaOf (l.take k) + (l[k].x1 - l[k].x0) * (l[k].y1 - l[k].y0) := by
    rw [List.take_succ_eq_append_getElem hk, Rc.area_append]
    unfold Rc.areaOf
    simp [Rc.Rect.area]
  have b1 := Rc.area_take_le hp k
  have b2 := Rc.area_take_le hp (k + 1)
  have b3 := h.tot
  have b4 : 0 ≤ (l[k].x1 - l[k].x0) * (l[k].y1 - l[k].y0) := Int.mul_nonneg (by omega) (by omega)
  rw [e] at b2 ⊢
  generalize (l[k].x1 - l[k].x0) * (l[k].y1 - l[k].y0) = p at *
  exact ⟨wrap_small _ (by omega) (by omega), wrap_small _ (by omega) (by omega), wrap_small _ (by omega) (by omega), wrap_small _ (by omega) (by omega)⟩
/-- The loop. -/
def SRel (W : World) (l : List Rc.Rect) (v i : Value) (wr : World) : Prop := ∃ k : Nat, k ≤ l.length ∧ i = .int .i64 k ∧ v = .int .i64 (Rc.areaOf (l.take k)) ∧ Kp W wr none

set_option maxHeartbeats 4000000 in
set_option maxRecDepth 100000 in
theorem areaR_any (v : Value) (a : List Rc.Rect) (w : World) (ha : IsRects w v a) (hl : a.length ≤ 8192) :
    Calls Try.prog 18 #[v] w fun E w' => E = .returned (.int .i64 (Rc.areaOf (Rc.norm a))) ∧ Kp w w' none := by
  have C := normR_any v a w ha (by omega)
  have OK := Lib.hid (areaOk_norm a hl)
  obtain ⟨l, hln⟩ : ∃ l, Rc.norm a = l := ⟨_, rfl⟩
  rw [hln] at C OK ⊢
  obtain ⟨tot, htot⟩ : ∃ t, Rc.areaOf l = t := ⟨_, rfl⟩
  rw [htot]
  have HT := Lib.hid htot
  have hlf := OK.out.few
  clear ha hln htot
  go_enter Try.func18, Try.ntmps18
  go_wp2_with fail
  refine C.mono ?_
  rintro E w1 ⟨u, rfl, hown, k1⟩
  obtain ⟨ao, cap, rfl, fl⟩ := (isList_own (m := 4) (f := recVal) (fun _ => rfl) hown).form
  have FL := Lib.hid fl
  have K1 := Lib.hid k1
  clear hown fl k1
  have hnl : (0 : Int) ≤ (l.length : Int) := Int.natCast_nonneg _
  go_wp2_with fail
  go_loopw [3, 5] (fun v i wr => SRel w1 l v i wr) (fun _ i _ => l.length - (intOf i).toNat)
  case atStart => exact ⟨0, Nat.zero_le _, rfl, rfl, Kp.refl _ _⟩
  case round =>
    obtain ⟨k, hk, rfl, rfl, hK⟩ := hrel
    have HK := Lib.hid hK
    clear hK
    have hk0 : (0 : Int) ≤ (k : Int) := Int.natCast_nonneg _
    by_cases hlt : k < l.length
    · have hk1 : (k : Int) < (l.length : Int) := by omega
      obtain ⟨b, off, rfl, hb, hc, hr⟩ := FL.out k hlt
      have cc : ∀ j, wr.cell? ⟨b, off + k * 4 + j, none⟩ = w1.cell? ⟨b, off + k * 4 + j, none⟩ := fun j => HK.out.below.cell (p := ⟨b, off + k * 4 + j, none⟩) hb
      have e1 := area_step OK.out hlt
      obtain ⟨acc, hacc⟩ : ∃ t, Rc.areaOf (l.take k) = t := ⟨_, rfl⟩
      obtain ⟨acc2, hacc2⟩ : ∃ t, Rc.areaOf (l.take (k + 1)) = t := ⟨_, rfl⟩
      rw [hacc, hacc2] at e1
      rw [hacc]
      have HA2 := Lib.hid hacc2
      obtain ⟨r, hx⟩ : ∃ r, l[k] = r := ⟨_, rfl⟩
      rw [hx] at e1
      have c0 : wr.cell? ⟨b, off + k * 4, none⟩ = some (.int .i64 r.x0) := (cc 0).trans (by subst hx; exact hr 0 (by simp [recVal]))
      have c1 : wr.cell? ⟨b, off + k * 4 + 1, none⟩ = some (.int .i64 r.y0) := (cc 1).trans (by subst hx; exact hr 1 (by simp [recVal]))
      have c2 : wr.cell? ⟨b, off + k * 4 + 2, none⟩ = some (.int .i64 r.x1) := (cc 2).trans (by subst hx; exact hr 2 (by simp [recVal]))
      have c3 : wr.cell? ⟨b, off + k * 4 + 3, none⟩ = some (.int .i64 r.y1) := (cc 3).trans (by subst hx; exact hr 3 (by simp [recVal]))
      clear cc hr hx hacc hacc2
      obtain ⟨x0, y0, x1, y1⟩ := r
      simp only [] at c0 c1 c2 c3 e1
      obtain ⟨dx, hdx⟩ : ∃ d, x1 - x0 = d := ⟨_, rfl⟩
      obtain ⟨dy, hdy⟩ : ∃ d, y1 - y0 = d := ⟨_, rfl⟩
      obtain ⟨ar, har⟩ : ∃ d, dx * dy = d := ⟨_, rfl⟩
      rw [hdx, hdy, har] at e1
      have w1e : IntKind.i64.wrap (x1 - x0) = dx := by rw [hdx]; exact e1.1
      have w2e : IntKind.i64.wrap (y1 - y0) = dy := by rw [hdy]; exact e1.2.1
      have w3e : IntKind.i64.wrap (dx * dy) = ar := by rw [har]; exact e1.2.2.1
      have w4e := e1.2.2.2
      clear e1 hdx hdy har
      go_wp2_with fail
      have hcs : wr.drew.cell? ⟨b, off + k * 4, none⟩ = some (.int .i64 x0) ∧ wr.drew.cell? ⟨b, off + k * 4 + 1, none⟩ = some (.int .i64 y0) ∧ wr.drew.cell? ⟨b, off + k * 4 + 2, none⟩ = some (.int .i64 x1) ∧ wr.drew.cell? ⟨b, off + k * 4 + 3, none⟩ = some (.int .i64 y1) := ⟨c0, c1, c2, c3⟩
      refine wp_region_held_drew (S := fun w1 => w1.cell? ⟨b, off + k * 4, none⟩ = some (.int .i64 x0) ∧ w1.cell? ⟨b, off + k * 4 + 1, none⟩ = some (.int .i64 y0) ∧ w1.cell? ⟨b, off + k * 4 + 2, none⟩ = some (.int .i64 x1) ∧ w1.cell? ⟨b, off + k * 4 + 3, none⟩ = some (.int .i64 y1)) (by kernel_rfl) ?_ (fun hHeld => ?_)
      · exact hcs
      refine wpAnyH_take (i := 0) (oi := _) (v := ?_) rfl (by kernel_rfl) (by kernel_rfl) (by kernel_rfl) (fun _ _ _ h => h) (Or.inl ⟨by rfl, ?_⟩) (by assumption) ?_
      rotate_left
      · (intro w hSw; (try dsimp only at hSw); go_simp <;> with_reducible rfl)
      try simp only [Act.put, List.getElem_toArray, List.getElem_cons_zero, List.setIfInBounds_toArray, List.set_cons_zero, List.set_cons_succ]
      refine wpAnyH_take (i := 1) (oi := _) (v := ?_) rfl (by kernel_rfl) (by kernel_rfl) (by kernel_rfl) (fun _ _ _ h => h) (Or.inl ⟨by rfl, ?_⟩) (by assumption) ?_
      rotate_left
      · (intro w hSw; (try dsimp only at hSw); go_simp <;> with_reducible rfl)
      try simp only [Act.put, List.getElem_toArray, List.getElem_cons_zero, List.getElem_cons_succ, List.setIfInBounds_toArray, List.set_cons_zero, List.set_cons_succ]
      refine wpAnyH_take (i := 2) (oi := _) (v := ?_) rfl (by kernel_rfl) (by kernel_rfl) (by kernel_rfl) (fun _ _ _ h => h) (Or.inl ⟨by rfl, ?_⟩) (by assumption) ?_
      rotate_left
      · (intro w hSw; (try dsimp only at hSw); go_simp <;> with_reducible rfl)
      try simp only [Act.put, List.getElem_toArray, List.getElem_cons_zero, List.getElem_cons_succ, List.setIfInBounds_toArray, List.set_cons_zero, List.set_cons_succ]
      refine wpAnyH_take (i := 3) (oi := _) (v := ?_) rfl (by kernel_rfl) (by kernel_rfl) (by kernel_rfl) (fun _ _ _ h => h) (Or.inl ⟨by rfl, ?_⟩) (by assumption) ?_
      rotate_left
      · (intro w hSw; (try dsimp only at hSw); go_simp <;> with_reducible rfl)
      try simp only [Act.put, List.getElem_toArray, List.getElem_cons_zero, List.getElem_cons_succ, List.setIfInBounds_toArray, List.set_cons_zero, List.set_cons_succ]
      refine wpAnyH_take (i := 4) (oi := _) (v := ?_) rfl (by kernel_rfl) (by kernel_rfl) (by kernel_rfl) (fun _ _ _ h => h) (Or.inl ⟨by rfl, ?_⟩) (by assumption) ?_
      rotate_left
      · (intro w hSw; (try dsimp only at hSw); go_simp <;> with_reducible rfl)
      try simp only [Act.put, List.getElem_toArray, List.getElem_cons_zero, List.getElem_cons_succ, List.setIfInBounds_toArray, List.set_cons_zero, List.set_cons_succ]
      refine wpAnyH_take (i := 5) (oi := _) (v := ?_) rfl (by kernel_rfl) (by kernel_rfl) (by kernel_rfl) (fun _ _ _ h => h) (Or.inl ⟨by rfl, ?_⟩) (by assumption) ?_
      rotate_left
      · (intro w hSw; (try dsimp only at hSw); go_simp <;> with_reducible rfl)
      try simp only [Act.put, List.getElem_toArray, List.getElem_cons_zero, List.getElem_cons_succ, List.setIfInBounds_toArray, List.set_cons_zero, List.set_cons_succ]
      refine wpAnyH_take (i := 6) (oi := _) (v := ?_) rfl (by kernel_rfl) (by kernel_rfl) (by kernel_rfl) (fun _ _ _ h => h) (Or.inl ⟨by rfl, ?_⟩) (by assumption) ?_
      rotate_left
      · (intro w hSw; (try dsimp only at hSw); go_simp <;> with_reducible rfl)
      try simp only [Act.put, List.getElem_toArray, List.getElem_cons_zero, List.getElem_cons_succ, List.setIfInBounds_toArray, List.set_cons_zero, List.set_cons_succ]
      refine wpAnyH_take (i := 7) (oi := _) (v := ?_) rfl (by kernel_rfl) (by kernel_rfl) (by kernel_rfl) (fun _ _ _ h => h) (Or.inl ⟨by rfl, ?_⟩) (by assumption) ?_
      rotate_left
      · (intro w hSw; (try dsimp only at hSw); go_simp <;> with_reducible rfl)
      try simp only [Act.put, List.getElem_toArray, List.getElem_cons_zero, List.getElem_cons_succ, List.setIfInBounds_toArray, List.set_cons_zero, List.set_cons_succ]
      refine wpAnyH_take (i := 8) (oi := _) (v := ?_) rfl (by kernel_rfl) (by kernel_rfl) (by kernel_rfl) (fun _ _ _ h => h) (Or.inl ⟨by rfl, ?_⟩) (by assumption) ?_
      rotate_left
      · (intro w hSw; (try dsimp only at hSw); go_simp <;> with_reducible rfl)
      try simp only [Act.put, List.getElem_toArray, List.getElem_cons_zero, List.getElem_cons_succ, List.setIfInBounds_toArray, List.set_cons_zero, List.set_cons_succ]
      refine wpAnyH_take (i := 9) (oi := _) (v := ?_) rfl (by kernel_rfl) (by kernel_rfl) (by kernel_rfl) (fun _ _ _ h => h) (Or.inl ⟨by rfl, ?_⟩) (by assumption) ?_
      rotate_left
      · (intro w hSw; (try dsimp only at hSw); go_simp <;> with_reducible rfl)
      try simp only [Act.put, List.getElem_toArray, List.getElem_cons_zero, List.getElem_cons_succ, List.setIfInBounds_toArray, List.set_cons_zero, List.set_cons_succ]
      refine wpAnyH_take (i := 10) (oi := _) (v := ?_) rfl (by kernel_rfl) (by kernel_rfl) (by kernel_rfl) (fun _ _ _ h => h) (Or.inl ⟨by rfl, ?_⟩) (by assumption) ?_
      rotate_left
      · (intro w hSw; (try dsimp only at hSw); go_simp <;> with_reducible rfl)
      try simp only [Act.put, List.getElem_toArray, List.getElem_cons_zero, List.getElem_cons_succ, List.setIfInBounds_toArray, List.set_cons_zero, List.set_cons_succ]
      refine wpAnyH_take (i := 11) (oi := _) (v := ?_) rfl (by kernel_rfl) (by kernel_rfl) (by kernel_rfl) (fun _ _ _ h => h) (Or.inl ⟨by rfl, ?_⟩) (by assumption) ?_
      rotate_left
      · (intro w hSw; (try dsimp only at hSw); go_simp <;> with_reducible rfl)
      try simp only [Act.put, List.getElem_toArray, List.getElem_cons_zero, List.getElem_cons_succ, List.setIfInBounds_toArray, List.set_cons_zero, List.set_cons_succ]
      refine wpAnyH_take (i := 12) (oi := _) (v := ?_) rfl (by kernel_rfl) (by kernel_rfl) (by kernel_rfl) (fun _ _ _ h => h) (Or.inl ⟨by rfl, ?_⟩) (by assumption) ?_
      rotate_left
      · (intro w hSw; (try dsimp only at hSw); go_simp <;> with_reducible rfl)
      try simp only [Act.put, List.getElem_toArray, List.getElem_cons_zero, List.getElem_cons_succ, List.setIfInBounds_toArray, List.set_cons_zero, List.set_cons_succ]
      refine wpAnyH_take (i := 13) (oi := _) (v := ?_) rfl (by kernel_rfl) (by kernel_rfl) (by kernel_rfl) (fun _ _ _ h => h) (Or.inl ⟨by rfl, ?_⟩) (by assumption) ?_
      rotate_left
      · (intro w hSw; (try dsimp only at hSw); go_simp <;> with_reducible rfl)
      try simp only [Act.put, List.getElem_toArray, List.getElem_cons_zero, List.getElem_cons_succ, List.setIfInBounds_toArray, List.set_cons_zero, List.set_cons_succ]
      refine wpAnyH_take (i := 14) (oi := _) (v := ?_) rfl (by kernel_rfl) (by kernel_rfl) (by kernel_rfl) (fun _ _ _ h => h) (Or.inl ⟨by rfl, ?_⟩) (by assumption) ?_
      rotate_left
      · (intro w hSw; (try dsimp only at hSw); go_simp <;> with_reducible rfl)
      try simp only [Act.put, List.getElem_toArray, List.getElem_cons_zero, List.getElem_cons_succ, List.setIfInBounds_toArray, List.set_cons_zero, List.set_cons_succ]
      refine wpAnyH_take (i := 15) (oi := _) (v := ?_) rfl (by kernel_rfl) (by kernel_rfl) (by kernel_rfl) (fun _ _ _ h => h) (Or.inl ⟨by rfl, ?_⟩) (by assumption) ?_
      rotate_left
      · (intro w hSw; (try dsimp only at hSw); go_simp <;> with_reducible rfl)
      try simp only [Act.put, List.getElem_toArray, List.getElem_cons_zero, List.getElem_cons_succ, List.setIfInBounds_toArray, List.set_cons_zero, List.set_cons_succ]
      refine wpAnyH_take (i := 16) (oi := _) (v := ?_) rfl (by kernel_rfl) (by kernel_rfl) (by kernel_rfl) (fun _ _ _ h => h) (Or.inl ⟨by rfl, ?_⟩) (by assumption) ?_
      rotate_left
      · (intro w hSw; (try dsimp only at hSw); go_simp <;> with_reducible rfl)
      try simp only [Act.put, List.getElem_toArray, List.getElem_cons_zero, List.getElem_cons_succ, List.setIfInBounds_toArray, List.set_cons_zero, List.set_cons_succ]
      refine wpAnyH_take (i := 17) (oi := _) (v := ?_) rfl (by kernel_rfl) (by kernel_rfl) (by kernel_rfl) (fun _ _ _ h => h) (Or.inl ⟨by rfl, ?_⟩) (by assumption) ?_
      rotate_left
      · (intro w hSw; (try dsimp only at hSw); go_simp <;> with_reducible rfl)
      try simp only [Act.put, List.getElem_toArray, List.getElem_cons_zero, List.getElem_cons_succ, List.setIfInBounds_toArray, List.set_cons_zero, List.set_cons_succ]
      refine wpAnyH_take (i := 18) (oi := _) (v := ?_) rfl (by kernel_rfl) (by kernel_rfl) (by kernel_rfl) (fun _ _ _ h => h) (Or.inl ⟨by rfl, ?_⟩) (by assumption) ?_
      rotate_left
      · (intro w hSw; (try dsimp only at hSw); go_simp <;> with_reducible rfl)
      try simp only [Act.put, List.getElem_toArray, List.getElem_cons_zero, List.getElem_cons_succ, List.setIfInBounds_toArray, List.set_cons_zero, List.set_cons_succ]
      refine wpAnyH_take (i := 19) (oi := _) (v := ?_) rfl (by kernel_rfl) (by kernel_rfl) (by kernel_rfl) (fun _ _ _ h => h) (Or.inl ⟨by rfl, ?_⟩) (by assumption) ?_
      rotate_left
      · (intro w hSw; (try dsimp only at hSw); go_simp <;> with_reducible rfl)
      try simp only [Act.put, List.getElem_toArray, List.getElem_cons_zero, List.getElem_cons_succ, List.setIfInBounds_toArray, List.set_cons_zero, List.set_cons_succ]
      refine wpAnyH_take (i := 20) (oi := _) (v := ?_) rfl (by kernel_rfl) (by kernel_rfl) (by kernel_rfl) (fun _ _ _ h => h) (Or.inl ⟨by rfl, ?_⟩) (by assumption) ?_
      rotate_left
      · (intro w hSw; (try dsimp only at hSw); go_simp <;> with_reducible rfl)
      try simp only [Act.put, List.getElem_toArray, List.getElem_cons_zero, List.getElem_cons_succ, List.setIfInBounds_toArray, List.set_cons_zero, List.set_cons_succ]
      refine wpAnyH_take (i := 21) (oi := _) (v := ?_) rfl (by kernel_rfl) (by kernel_rfl) (by kernel_rfl) (fun _ _ _ h => h) (Or.inl ⟨by rfl, ?_⟩) (by assumption) ?_
      rotate_left
      · (intro w hSw; (try dsimp only at hSw); go_simp <;> with_reducible rfl)
      try simp only [Act.put, List.getElem_toArray, List.getElem_cons_zero, List.getElem_cons_succ, List.setIfInBounds_toArray, List.set_cons_zero, List.set_cons_succ]
      refine wpAnyH_take (i := 22) (oi := _) (v := ?_) rfl (by kernel_rfl) (by kernel_rfl) (by kernel_rfl) (fun _ _ _ h => h) (Or.inl ⟨by rfl, ?_⟩) (by assumption) ?_
      rotate_left
      · (intro w hSw; (try dsimp only at hSw); go_simp <;> with_reducible rfl)
      try simp only [Act.put, List.getElem_toArray, List.getElem_cons_zero, List.getElem_cons_succ, List.setIfInBounds_toArray, List.set_cons_zero, List.set_cons_succ]
      refine wpAnyH_take (i := 23) (oi := _) (v := ?_) rfl (by kernel_rfl) (by kernel_rfl) (by kernel_rfl) (fun _ _ _ h => h) (Or.inl ⟨by rfl, ?_⟩) (by assumption) ?_
      rotate_left
      · (intro w hSw; (try dsimp only at hSw); go_simp <;> with_reducible rfl)
      try simp only [Act.put, List.getElem_toArray, List.getElem_cons_zero, List.getElem_cons_succ, List.setIfInBounds_toArray, List.set_cons_zero, List.set_cons_succ]
      refine wpAnyH_take (i := 24) (oi := _) (v := ?_) rfl (by kernel_rfl) (by kernel_rfl) (by kernel_rfl) (fun _ _ _ h => h) (Or.inl ⟨by rfl, ?_⟩) (by assumption) ?_
      rotate_left
      · (intro w hSw; (try dsimp only at hSw); go_simp <;> with_reducible rfl)
      try simp only [Act.put, List.getElem_toArray, List.getElem_cons_zero, List.getElem_cons_succ, List.setIfInBounds_toArray, List.set_cons_zero, List.set_cons_succ]
      refine wpAnyH_ready (rs := [25]) (by kernel_rfl) (by simp) ?_
      refine AllReadyH.cons (o := _) rfl (fun K hK => ?_) AllReadyH.nil
      clear hHeld
      go_simp
      try go_wp2_with fail
      refine hK.out _ _ hcs (fun hHeld => ?_)
      clear hK K hHeld
      refine wpAnyH_done (by kernel_rfl) ?_ _
      go_wp2_with fail
      go_roundw
      case rel => exact ⟨k + 1, hlt, by go_num, by rw [HA2.out], HK.out.drew⟩
      case measure => simp [intOf]; omega
    · have hkx : k = l.length := by omega
      have hk1 : ¬ (k : Int) < (l.length : Int) := by omega
      have e : Rc.areaOf (l.take k) = tot := by rw [hkx, List.take_length]; exact HT.out
      rw [e]
      clear e hkx
      have HE := Lib.hid (K1.out.trans HK.out)
      go_wp2_with fail
      go_ret
      exact ⟨rfl, HE.out⟩

set_option maxHeartbeats 4000000 in
set_option maxRecDepth 100000 in
theorem areaP_any (v : Value) (a : List Rc.Rect) (w : World) (ha : IsRects w v a) (hl : a.length ≤ 8192) :
    Calls Try.prog 17 #[v] w fun E w' => E = .returned (.int .i64 (Rc.areaOf (Rc.norm a))) ∧ Kp w w' none := by
  have C := normP_any v a w ha (by omega)
  have OK := Lib.hid (areaOk_norm a hl)
  obtain ⟨l, hln⟩ : ∃ l, Rc.norm a = l := ⟨_, rfl⟩
  rw [hln] at C OK ⊢
  obtain ⟨tot, htot⟩ : ∃ t, Rc.areaOf l = t := ⟨_, rfl⟩
  rw [htot]
  have HT := Lib.hid htot
  have hlf := OK.out.few
  clear ha hln htot
  go_enter Try.func17, Try.ntmps17
  go_wp2_with fail
  refine C.mono ?_
  rintro E w1 ⟨u, rfl, hown, k1⟩
  obtain ⟨ao, cap, rfl, fl⟩ := (isList_own (m := 4) (f := recVal) (fun _ => rfl) hown).form
  have FL := Lib.hid fl
  have K1 := Lib.hid k1
  clear hown fl k1
  have hnl : (0 : Int) ≤ (l.length : Int) := Int.natCast_nonneg _
  go_wp2_with fail
  go_loopw [2, 8] (fun v i wr => SRel w1 l v i wr) (fun _ i _ => l.length - (intOf i).toNat)
  case atStart => exact ⟨0, Nat.zero_le _, rfl, rfl, Kp.refl _ _⟩
  case round =>
    obtain ⟨k, hk, rfl, rfl, hK⟩ := hrel
    have HK := Lib.hid hK
    clear hK
    have hk0 : (0 : Int) ≤ (k : Int) := Int.natCast_nonneg _
    by_cases hlt : k < l.length
    · have hk1 : (k : Int) < (l.length : Int) := by omega
      obtain ⟨b, off, rfl, hb, hc, hr⟩ := FL.out k hlt
      have cc : ∀ j, wr.cell? ⟨b, off + k * 4 + j, none⟩ = w1.cell? ⟨b, off + k * 4 + j, none⟩ := fun j => HK.out.below.cell (p := ⟨b, off + k * 4 + j, none⟩) hb
      have e1 := area_step OK.out hlt
      obtain ⟨acc, hacc⟩ : ∃ t, Rc.areaOf (l.take k) = t := ⟨_, rfl⟩
      obtain ⟨acc2, hacc2⟩ : ∃ t, Rc.areaOf (l.take (k + 1)) = t := ⟨_, rfl⟩
      rw [hacc, hacc2] at e1
      rw [hacc]
      have HA2 := Lib.hid hacc2
      obtain ⟨r, hx⟩ : ∃ r, l[k] = r := ⟨_, rfl⟩
      rw [hx] at e1
      have c0 : wr.cell? ⟨b, off + k * 4, none⟩ = some (.int .i64 r.x0) := (cc 0).trans (by subst hx; exact hr 0 (by simp [recVal]))
      have c1 : wr.cell? ⟨b, off + k * 4 + 1, none⟩ = some (.int .i64 r.y0) := (cc 1).trans (by subst hx; exact hr 1 (by simp [recVal]))
      have c2 : wr.cell? ⟨b, off + k * 4 + 2, none⟩ = some (.int .i64 r.x1) := (cc 2).trans (by subst hx; exact hr 2 (by simp [recVal]))
      have c3 : wr.cell? ⟨b, off + k * 4 + 3, none⟩ = some (.int .i64 r.y1) := (cc 3).trans (by subst hx; exact hr 3 (by simp [recVal]))
      clear cc hr hx hacc hacc2
      obtain ⟨x0, y0, x1, y1⟩ := r
      simp only [] at c0 c1 c2 c3 e1
      obtain ⟨dx, hdx⟩ : ∃ d, x1 - x0 = d := ⟨_, rfl⟩
      obtain ⟨dy, hdy⟩ : ∃ d, y1 - y0 = d := ⟨_, rfl⟩
      obtain ⟨ar, har⟩ : ∃ d, dx * dy = d := ⟨_, rfl⟩
      rw [hdx, hdy, har] at e1
      have w1e : IntKind.i64.wrap (x1 - x0) = dx := by rw [hdx]; exact e1.1
      have w2e : IntKind.i64.wrap (y1 - y0) = dy := by rw [hdy]; exact e1.2.1
      have w3e : IntKind.i64.wrap (dx * dy) = ar := by rw [har]; exact e1.2.2.1
      have w4e := e1.2.2.2
      clear e1 hdx hdy har
      go_wp2_with fail
      go_roundw
      case rel => exact ⟨k + 1, hlt, by go_num, by rw [HA2.out], HK.out.alloc _⟩
      case measure => simp [intOf]; omega
    · have hkx : k = l.length := by omega
      have hk1 : ¬ (k : Int) < (l.length : Int) := by omega
      have e : Rc.areaOf (l.take k) = tot := by rw [hkx, List.take_length]; exact HT.out
      rw [e]
      clear e hkx
      have HE := Lib.hid (K1.out.trans HK.out)
      go_wp2_with fail
      go_ret
      exact ⟨rfl, HE.out⟩

end Go.Proofs.Ytpakiabnhdoijaa
