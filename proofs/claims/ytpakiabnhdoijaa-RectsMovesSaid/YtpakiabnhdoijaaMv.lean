/- Rectangles enlarged and moved (moved). Condition: at most 2^16 rectangles, coordinates of at most 10^6. -/
import Derived.Test.YtpakiabnhdoijaaSp
namespace Go.Proofs.Ytpakiabnhdoijaa
open Go.RowKit

def movT (b : Int) : Int := 1 + (IntKind.u64.wrap b).tmod 20
def movX (b : Int) : Int := b.tmod 100000000
theorem movT_range (b : Int) : 0 ≤ (IntKind.u64.wrap b).tmod 20 ∧ (IntKind.u64.wrap b).tmod 20 < 20 := by
  have h : 0 ≤ IntKind.u64.wrap b := by rw [IntKind.wrap_u64]; omega
  rw [tmod_pos _ _ h]
  omega
theorem movX_range (b : Int) : -100000000 < b.tmod 100000000 ∧ b.tmod 100000000 < 100000000 := by
  rcases Int.lt_or_le b 0 with h | h
  · have e : b.tmod 100000000 = -((-b).tmod 100000000) := by rw [Int.neg_tmod]; omega
    rw [e, tmod_pos _ _ (by omega)]
    omega
  · rw [tmod_pos _ _ h]; omega
/-- A rectangle enlarged t times and moved by x, y. -/
def movR (x y t : Int) (r : Rc.Rect) : Rc.Rect := ⟨x + t * r.x0, y + t * r.y0, x + t * r.x1, y + t * r.y1⟩
def small (r : Rc.Rect) : Prop := -1000000 ≤ r.x0 ∧ r.x0 ≤ 1000000 ∧ -1000000 ≤ r.y0 ∧ r.y0 ≤ 1000000 ∧ -1000000 ≤ r.x1 ∧ r.x1 ≤ 1000000 ∧ -1000000 ≤ r.y1 ∧ r.y1 ≤ 1000000
def VRel (W : World) (x y t : Int) (l : List Rc.Rect) (v i : Value) (wr : World) : Prop :=
  ∃ k : Nat, k ≤ l.length ∧ i = .int .i64 k ∧ wr.ownsRow W.heap.size 44 4 v k (((l.take k).map (movR x y t)).flatMap recVal) ∧ Kp W wr none
theorem mul_range {t c : Int} (h1 : 0 ≤ t) (h2 : t ≤ 20) (h3 : -1000000 ≤ c) (h4 : c ≤ 1000000) : -20000000 ≤ t * c ∧ t * c ≤ 20000000 := by
  have a1 : t * c ≤ t * 1000000 := Int.mul_le_mul_of_nonneg_left h4 h1
  have a2 : t * (-1000000) ≤ t * c := Int.mul_le_mul_of_nonneg_left h3 h1
  omega

set_option maxHeartbeats 8000000 in
set_option maxRecDepth 100000 in
theorem moved_any (v : Value) (l : List Rc.Rect) (b0 b1 b2 : Int) (w : World) (hx : IsRects w v l) (hs : ∀ r ∈ l, small r) (hl : l.length ≤ 65536) :
    Calls Try.prog 31 #[v, .agg #[.int .i64 b0, .int .i64 b1, .int .i64 b2]] w fun E w' => OwnRects w E w' (l.map (movR (movX b0) (movX b1) (movT b2))) := by
  obtain ⟨ao, cap, rfl, fx⟩ := hx.form
  have FX := Lib.hid fx
  have HS := Lib.hid hs
  clear hx fx hs
  obtain ⟨tr1, tr2⟩ := movT_range b2
  obtain ⟨xr1, xr2⟩ := movX_range b0
  obtain ⟨yr1, yr2⟩ := movX_range b1
  unfold movX movT
  obtain ⟨ur, hur⟩ : ∃ u, (IntKind.u64.wrap b2).tmod 20 = u := ⟨_, rfl⟩
  obtain ⟨x, hxx⟩ : ∃ u, b0.tmod 100000000 = u := ⟨_, rfl⟩
  obtain ⟨y, hyy⟩ : ∃ u, b1.tmod 100000000 = u := ⟨_, rfl⟩
  rw [hur] at tr1 tr2 ⊢
  rw [hxx] at xr1 xr2 ⊢
  rw [hyy] at yr1 yr2 ⊢
  obtain ⟨t, ht⟩ : ∃ t, 1 + ur = t := ⟨_, rfl⟩
  rw [ht]
  have q1 : wrap64 ur = ur := by unfold wrap64; omega
  have q2 : wrap64 (1 + ur) = t := by rw [← ht]; unfold wrap64; omega
  have ht1 : 0 ≤ t := by omega
  have ht2 : t ≤ 20 := by omega
  clear ht tr1 tr2
  obtain ⟨fin, hfin⟩ : ∃ q, l.map (movR x y t) = q := ⟨_, rfl⟩
  rw [hfin]
  have HFIN := Lib.hid hfin
  have HR1 := Lib.hid xr1
  have HR2 := Lib.hid xr2
  have HR3 := Lib.hid yr1
  have HR4 := Lib.hid yr2
  have HR5 := Lib.hid ht1
  have HR6 := Lib.hid ht2
  clear hfin xr1 xr2 yr1 yr2 ht1 ht2
  obtain ⟨i0, hi, hz0, hz1, hz2⟩ := info_parts infoRect
  have hn0 : (0 : Int) ≤ (l.length : Int) := Int.natCast_nonneg _
  have KW : Hid (Kp w (w.alloc (Obj.cells #[.int .i64 b0, .int .i64 b1, .int .i64 b2] 47)) none) := Lib.hid ((Kp.refl w none).alloc _)
  go_enter Try.func31, Try.ntmps31
  go_wp2_with fail
  simp only [q1, q2]
  go_loopw [8, 9] (fun v i wr => VRel w x y t l v i wr) (fun _ i _ => l.length - (intOf i).toNat)
  case atStart => exact ⟨0, Nat.zero_le _, rfl, World.ownsRow_nil _ _ _ _, KW.out⟩
  case round =>
    obtain ⟨k, hk, rfl, hown, hK⟩ := hrel
    have HO := Lib.hid hown
    have HK := Lib.hid hK
    clear hown hK
    have hk0 : (0 : Int) ≤ (k : Int) := Int.natCast_nonneg _
    by_cases hlt : k < l.length
    · have hk1 : (k : Int) < (l.length : Int) := by omega
      obtain ⟨b, off, rfl, hb, hc, hr⟩ := FX.out k hlt
      obtain ⟨r, hx⟩ : ∃ r, l[k] = r := ⟨_, rfl⟩
      have hsm := HS.out r (by rw [← hx]; exact List.getElem_mem hlt)
      have HST : Hid (∀ (v : Value) (wq : World), wq.ownsRow w.heap.size 44 4 v (k + [movR x y t r].length) (((l.take k).map (movR x y t)).flatMap recVal ++ [movR x y t r].flatMap recVal) → Kp w wq none → VRel w x y t l v (.int .i64 (k + 1)) wq) := Lib.hid fun v wq q1 q2 =>
        ⟨k + 1, hlt, by go_num, by rw [List.take_succ_eq_append_getElem hlt, List.map_append, List.flatMap_append, hx]; exact q1, q2⟩
      have CC : Hid (∀ V, Kp w V none → V.cell? ⟨b, off + k * 4, none⟩ = some (.int .i64 r.x0) ∧ V.cell? ⟨b, off + k * 4 + 1, none⟩ = some (.int .i64 r.y0) ∧ V.cell? ⟨b, off + k * 4 + 2, none⟩ = some (.int .i64 r.x1) ∧ V.cell? ⟨b, off + k * 4 + 3, none⟩ = some (.int .i64 r.y1)) := Lib.hid fun V kV => by
        subst hx
        exact ⟨(kV.below.cell (p := ⟨b, off + k * 4 + 0, none⟩) hb).trans (hr 0 (by simp [recVal])), (kV.below.cell (p := ⟨b, off + k * 4 + 1, none⟩) hb).trans (hr 1 (by simp [recVal])), (kV.below.cell (p := ⟨b, off + k * 4 + 2, none⟩) hb).trans (hr 2 (by simp [recVal])), (kV.below.cell (p := ⟨b, off + k * 4 + 3, none⟩) hb).trans (hr 3 (by simp [recVal]))⟩
      clear hx hr
      obtain ⟨x0, y0, x1, y1⟩ := r
      unfold small at hsm
      unfold movR at HST
      simp only [] at hsm CC HST
      have m0 := mul_range HR5.out HR6.out hsm.1 hsm.2.1
      have m1 := mul_range HR5.out HR6.out hsm.2.2.1 hsm.2.2.2.1
      have m2 := mul_range HR5.out HR6.out hsm.2.2.2.2.1 hsm.2.2.2.2.2.1
      have m3 := mul_range HR5.out HR6.out hsm.2.2.2.2.2.2.1 hsm.2.2.2.2.2.2.2
      have n1 := HR1.out
      have n2 := HR2.out
      have n3 := HR3.out
      have n4 := HR4.out
      obtain ⟨p0, hp0⟩ : ∃ p, t * x0 = p := ⟨_, rfl⟩
      obtain ⟨p1, hp1⟩ : ∃ p, t * y0 = p := ⟨_, rfl⟩
      obtain ⟨p2, hp2⟩ : ∃ p, t * x1 = p := ⟨_, rfl⟩
      obtain ⟨p3, hp3⟩ : ∃ p, t * y1 = p := ⟨_, rfl⟩
      rw [hp0] at m0 HST
      rw [hp1] at m1 HST
      rw [hp2] at m2 HST
      rw [hp3] at m3 HST
      have e0 : IntKind.i64.wrap (t * x0) = p0 := by rw [hp0]; exact wrap_small _ (by omega) (by omega)
      have e1 : IntKind.i64.wrap (t * y0) = p1 := by rw [hp1]; exact wrap_small _ (by omega) (by omega)
      have e2 : IntKind.i64.wrap (t * x1) = p2 := by rw [hp2]; exact wrap_small _ (by omega) (by omega)
      have e3 : IntKind.i64.wrap (t * y1) = p3 := by rw [hp3]; exact wrap_small _ (by omega) (by omega)
      have g0 : IntKind.i64.wrap (x + p0) = x + p0 := wrap_small _ (by omega) (by omega)
      have g1 : IntKind.i64.wrap (y + p1) = y + p1 := wrap_small _ (by omega) (by omega)
      have g2 : IntKind.i64.wrap (x + p2) = x + p2 := wrap_small _ (by omega) (by omega)
      have g3 : IntKind.i64.wrap (y + p3) = y + p3 := wrap_small _ (by omega) (by omega)
      clear m0 m1 m2 m3 n1 n2 n3 n4 hp0 hp1 hp2 hp3 hsm
      go_wp2_with fail
      refine wp_region_held_drew (S := fun w1 => w1.cell? ⟨b, off + k * 4, none⟩ = some (.int .i64 x0) ∧ w1.cell? ⟨b, off + k * 4 + 1, none⟩ = some (.int .i64 y0) ∧ w1.cell? ⟨b, off + k * 4 + 2, none⟩ = some (.int .i64 x1) ∧ w1.cell? ⟨b, off + k * 4 + 3, none⟩ = some (.int .i64 y1)) (by kernel_rfl) ?_ (fun hHeld => ?_)
      · exact CC.out _ HK.out.drew
      refine wpAnyH_take (i := 0) (oi := _) (v := ?_) rfl (by kernel_rfl) (by kernel_rfl) (by kernel_rfl) (fun _ _ _ h => h) (Or.inl ⟨by rfl, ?_⟩) (by assumption) ?_
      rotate_left
      · (intro w hSw; (try dsimp only at hSw); go_simp <;> with_reducible rfl)
      try simp only [Act.put, List.getElem_toArray, List.getElem_cons_zero, List.setIfInBounds_toArray, List.set_cons_zero, List.set_cons_succ]
      refine wpAnyH_take (i := 1) (oi := _) (v := ?_) rfl (by kernel_rfl) (by kernel_rfl) (by kernel_rfl) (fun _ _ _ h => h) (Or.inl ⟨by rfl, ?_⟩) (by assumption) ?_
      rotate_left
      · (intro w hSw; (try dsimp only at hSw); go_simp <;> with_reducible rfl)
      try simp only [Act.put, List.getElem_toArray, List.getElem_cons_zero, List.getElem_cons_succ, List.setIfInBounds_toArray, List.set_cons_zero, List.set_cons_succ]
      refine wpAnyH_take (i := 2) (oi := _) (v := ?_) rfl (by kernel_rfl) (by kernel_rfl) (by kernel_rfl) (fun _ _ _ h => h) (Or.inl ⟨by rfl, ?_⟩) (by assumption) ?_
      rotate_left
      · (intro w hSw; (try dsimp only at hSw); go_simp <;> with_reducible rfl)
      try simp only [Act.put, List.getElem_toArray, List.getElem_cons_zero, List.getElem_cons_succ, List.setIfInBounds_toArray, List.set_cons_zero, List.set_cons_succ]
      refine wpAnyH_take (i := 3) (oi := _) (v := ?_) rfl (by kernel_rfl) (by kernel_rfl) (by kernel_rfl) (fun _ _ _ h => h) (Or.inl ⟨by rfl, ?_⟩) (by assumption) ?_
      rotate_left
      · (intro w hSw; (try dsimp only at hSw); go_simp <;> with_reducible rfl)
      try simp only [Act.put, List.getElem_toArray, List.getElem_cons_zero, List.getElem_cons_succ, List.setIfInBounds_toArray, List.set_cons_zero, List.set_cons_succ]
      refine wpAnyH_take (i := 4) (oi := _) (v := ?_) rfl (by kernel_rfl) (by kernel_rfl) (by kernel_rfl) (fun _ _ _ h => h) (Or.inl ⟨by rfl, ?_⟩) (by assumption) ?_
      rotate_left
      · (intro w hSw; (try dsimp only at hSw); go_simp <;> with_reducible rfl)
      try simp only [Act.put, List.getElem_toArray, List.getElem_cons_zero, List.getElem_cons_succ, List.setIfInBounds_toArray, List.set_cons_zero, List.set_cons_succ]
      refine wpAnyH_take (i := 5) (oi := _) (v := ?_) rfl (by kernel_rfl) (by kernel_rfl) (by kernel_rfl) (fun _ _ _ h => h) (Or.inl ⟨by rfl, ?_⟩) (by assumption) ?_
      rotate_left
      · (intro w hSw; (try dsimp only at hSw); go_simp <;> with_reducible rfl)
      try simp only [Act.put, List.getElem_toArray, List.getElem_cons_zero, List.getElem_cons_succ, List.setIfInBounds_toArray, List.set_cons_zero, List.set_cons_succ]
      refine wpAnyH_take (i := 6) (oi := _) (v := ?_) rfl (by kernel_rfl) (by kernel_rfl) (by kernel_rfl) (fun _ _ _ h => h) (Or.inl ⟨by rfl, ?_⟩) (by assumption) ?_
      rotate_left
      · (intro w hSw; (try dsimp only at hSw); go_simp <;> with_reducible rfl)
      try simp only [Act.put, List.getElem_toArray, List.getElem_cons_zero, List.getElem_cons_succ, List.setIfInBounds_toArray, List.set_cons_zero, List.set_cons_succ]
      refine wpAnyH_take (i := 7) (oi := _) (v := ?_) rfl (by kernel_rfl) (by kernel_rfl) (by kernel_rfl) (fun _ _ _ h => h) (Or.inl ⟨by rfl, ?_⟩) (by assumption) ?_
      rotate_left
      · (intro w hSw; (try dsimp only at hSw); go_simp <;> with_reducible rfl)
      try simp only [Act.put, List.getElem_toArray, List.getElem_cons_zero, List.getElem_cons_succ, List.setIfInBounds_toArray, List.set_cons_zero, List.set_cons_succ]
      refine wpAnyH_take (i := 8) (oi := _) (v := ?_) rfl (by kernel_rfl) (by kernel_rfl) (by kernel_rfl) (fun _ _ _ h => h) (Or.inl ⟨by rfl, ?_⟩) (by assumption) ?_
      rotate_left
      · (intro w hSw; (try dsimp only at hSw); go_simp <;> with_reducible rfl)
      try simp only [Act.put, List.getElem_toArray, List.getElem_cons_zero, List.getElem_cons_succ, List.setIfInBounds_toArray, List.set_cons_zero, List.set_cons_succ]
      refine wpAnyH_take (i := 9) (oi := _) (v := ?_) rfl (by kernel_rfl) (by kernel_rfl) (by kernel_rfl) (fun _ _ _ h => h) (Or.inl ⟨by rfl, ?_⟩) (by assumption) ?_
      rotate_left
      · (intro w hSw; (try dsimp only at hSw); go_simp <;> with_reducible rfl)
      try simp only [Act.put, List.getElem_toArray, List.getElem_cons_zero, List.getElem_cons_succ, List.setIfInBounds_toArray, List.set_cons_zero, List.set_cons_succ]
      refine wpAnyH_take (i := 10) (oi := _) (v := ?_) rfl (by kernel_rfl) (by kernel_rfl) (by kernel_rfl) (fun _ _ _ h => h) (Or.inl ⟨by rfl, ?_⟩) (by assumption) ?_
      rotate_left
      · (intro w hSw; (try dsimp only at hSw); go_simp <;> with_reducible rfl)
      try simp only [Act.put, List.getElem_toArray, List.getElem_cons_zero, List.getElem_cons_succ, List.setIfInBounds_toArray, List.set_cons_zero, List.set_cons_succ]
      refine wpAnyH_take (i := 11) (oi := _) (v := ?_) rfl (by kernel_rfl) (by kernel_rfl) (by kernel_rfl) (fun _ _ _ h => h) (Or.inl ⟨by rfl, ?_⟩) (by assumption) ?_
      rotate_left
      · (intro w hSw; (try dsimp only at hSw); go_simp <;> with_reducible rfl)
      try simp only [Act.put, List.getElem_toArray, List.getElem_cons_zero, List.getElem_cons_succ, List.setIfInBounds_toArray, List.set_cons_zero, List.set_cons_succ]
      refine wpAnyH_take (i := 12) (oi := _) (v := ?_) rfl (by kernel_rfl) (by kernel_rfl) (by kernel_rfl) (fun _ _ _ h => h) (Or.inl ⟨by rfl, ?_⟩) (by assumption) ?_
      rotate_left
      · (intro w hSw; (try dsimp only at hSw); go_simp <;> with_reducible rfl)
      try simp only [Act.put, List.getElem_toArray, List.getElem_cons_zero, List.getElem_cons_succ, List.setIfInBounds_toArray, List.set_cons_zero, List.set_cons_succ]
      refine wpAnyH_take (i := 13) (oi := _) (v := ?_) rfl (by kernel_rfl) (by kernel_rfl) (by kernel_rfl) (fun _ _ _ h => h) (Or.inl ⟨by rfl, ?_⟩) (by assumption) ?_
      rotate_left
      · (intro w hSw; (try dsimp only at hSw); go_simp <;> with_reducible rfl)
      try simp only [Act.put, List.getElem_toArray, List.getElem_cons_zero, List.getElem_cons_succ, List.setIfInBounds_toArray, List.set_cons_zero, List.set_cons_succ]
      refine wpAnyH_take (i := 14) (oi := _) (v := ?_) rfl (by kernel_rfl) (by kernel_rfl) (by kernel_rfl) (fun _ _ _ h => h) (Or.inl ⟨by rfl, ?_⟩) (by assumption) ?_
      rotate_left
      · (intro w hSw; (try dsimp only at hSw); go_simp <;> with_reducible rfl)
      try simp only [Act.put, List.getElem_toArray, List.getElem_cons_zero, List.getElem_cons_succ, List.setIfInBounds_toArray, List.set_cons_zero, List.set_cons_succ]
      refine wpAnyH_take (i := 15) (oi := _) (v := ?_) rfl (by kernel_rfl) (by kernel_rfl) (by kernel_rfl) (fun _ _ _ h => h) (Or.inl ⟨by rfl, ?_⟩) (by assumption) ?_
      rotate_left
      · (intro w hSw; (try dsimp only at hSw); go_simp <;> with_reducible rfl)
      try simp only [Act.put, List.getElem_toArray, List.getElem_cons_zero, List.getElem_cons_succ, List.setIfInBounds_toArray, List.set_cons_zero, List.set_cons_succ]
      refine wpAnyH_take (i := 16) (oi := _) (v := ?_) rfl (by kernel_rfl) (by kernel_rfl) (by kernel_rfl) (fun _ _ _ h => h) (Or.inl ⟨by rfl, ?_⟩) (by assumption) ?_
      rotate_left
      · (intro w hSw; (try dsimp only at hSw); go_simp <;> with_reducible rfl)
      try simp only [Act.put, List.getElem_toArray, List.getElem_cons_zero, List.getElem_cons_succ, List.setIfInBounds_toArray, List.set_cons_zero, List.set_cons_succ]
      refine wpAnyH_take (i := 17) (oi := _) (v := ?_) rfl (by kernel_rfl) (by kernel_rfl) (by kernel_rfl) (fun _ _ _ h => h) (Or.inl ⟨by rfl, ?_⟩) (by assumption) ?_
      rotate_left
      · (intro w hSw; (try dsimp only at hSw); go_simp <;> with_reducible rfl)
      try simp only [Act.put, List.getElem_toArray, List.getElem_cons_zero, List.getElem_cons_succ, List.setIfInBounds_toArray, List.set_cons_zero, List.set_cons_succ]
      refine wpAnyH_take (i := 18) (oi := _) (v := ?_) rfl (by kernel_rfl) (by kernel_rfl) (by kernel_rfl) (fun _ _ _ h => h) (Or.inl ⟨by rfl, ?_⟩) (by assumption) ?_
      rotate_left
      · (intro w hSw; (try dsimp only at hSw); go_simp <;> with_reducible rfl)
      try simp only [Act.put, List.getElem_toArray, List.getElem_cons_zero, List.getElem_cons_succ, List.setIfInBounds_toArray, List.set_cons_zero, List.set_cons_succ]
      refine wpAnyH_take (i := 19) (oi := _) (v := ?_) rfl (by kernel_rfl) (by kernel_rfl) (by kernel_rfl) (fun _ _ _ h => h) (Or.inl ⟨by rfl, ?_⟩) (by assumption) ?_
      rotate_left
      · (intro w hSw; (try dsimp only at hSw); go_simp <;> with_reducible rfl)
      try simp only [Act.put, List.getElem_toArray, List.getElem_cons_zero, List.getElem_cons_succ, List.setIfInBounds_toArray, List.set_cons_zero, List.set_cons_succ]
      refine wpAnyH_take (i := 20) (oi := _) (v := ?_) rfl (by kernel_rfl) (by kernel_rfl) (by kernel_rfl) (fun _ _ _ h => h) (Or.inl ⟨by rfl, ?_⟩) (by assumption) ?_
      rotate_left
      · (intro w hSw; (try dsimp only at hSw); go_simp <;> with_reducible rfl)
      try simp only [Act.put, List.getElem_toArray, List.getElem_cons_zero, List.getElem_cons_succ, List.setIfInBounds_toArray, List.set_cons_zero, List.set_cons_succ]
      refine wpAnyH_take (i := 21) (oi := _) (v := ?_) rfl (by kernel_rfl) (by kernel_rfl) (by kernel_rfl) (fun _ _ _ h => h) (Or.inl ⟨by rfl, ?_⟩) (by assumption) ?_
      rotate_left
      · (intro w hSw; (try dsimp only at hSw); go_simp <;> with_reducible rfl)
      try simp only [Act.put, List.getElem_toArray, List.getElem_cons_zero, List.getElem_cons_succ, List.setIfInBounds_toArray, List.set_cons_zero, List.set_cons_succ]
      refine wpAnyH_take (i := 22) (oi := _) (v := ?_) rfl (by kernel_rfl) (by kernel_rfl) (by kernel_rfl) (fun _ _ _ h => h) (Or.inl ⟨by rfl, ?_⟩) (by assumption) ?_
      rotate_left
      · (intro w hSw; (try dsimp only at hSw); go_simp <;> with_reducible rfl)
      try simp only [Act.put, List.getElem_toArray, List.getElem_cons_zero, List.getElem_cons_succ, List.setIfInBounds_toArray, List.set_cons_zero, List.set_cons_succ]
      refine wpAnyH_take (i := 23) (oi := _) (v := ?_) rfl (by kernel_rfl) (by kernel_rfl) (by kernel_rfl) (fun _ _ _ h => h) (Or.inl ⟨by rfl, ?_⟩) (by assumption) ?_
      rotate_left
      · (intro w hSw; (try dsimp only at hSw); go_simp <;> with_reducible rfl)
      try simp only [Act.put, List.getElem_toArray, List.getElem_cons_zero, List.getElem_cons_succ, List.setIfInBounds_toArray, List.set_cons_zero, List.set_cons_succ]
      refine wpAnyH_take (i := 24) (oi := _) (v := ?_) rfl (by kernel_rfl) (by kernel_rfl) (by kernel_rfl) (fun _ _ _ h => h) (Or.inl ⟨by rfl, ?_⟩) (by assumption) ?_
      rotate_left
      · (intro w hSw; (try dsimp only at hSw); go_simp <;> with_reducible rfl)
      try simp only [Act.put, List.getElem_toArray, List.getElem_cons_zero, List.getElem_cons_succ, List.setIfInBounds_toArray, List.set_cons_zero, List.set_cons_succ]
      refine wpAnyH_take (i := 25) (oi := _) (v := ?_) rfl (by kernel_rfl) (by kernel_rfl) (by kernel_rfl) (fun _ _ _ h => h) (Or.inl ⟨by rfl, ?_⟩) (by assumption) ?_
      rotate_left
      · (intro w hSw; (try dsimp only at hSw); go_simp <;> with_reducible rfl)
      try simp only [Act.put, List.getElem_toArray, List.getElem_cons_zero, List.getElem_cons_succ, List.setIfInBounds_toArray, List.set_cons_zero, List.set_cons_succ]
      refine wpAnyH_take (i := 26) (oi := _) (v := ?_) rfl (by kernel_rfl) (by kernel_rfl) (by kernel_rfl) (fun _ _ _ h => h) (Or.inl ⟨by rfl, ?_⟩) (by assumption) ?_
      rotate_left
      · (intro w hSw; (try dsimp only at hSw); go_simp <;> with_reducible rfl)
      try simp only [Act.put, List.getElem_toArray, List.getElem_cons_zero, List.getElem_cons_succ, List.setIfInBounds_toArray, List.set_cons_zero, List.set_cons_succ]
      refine wpAnyH_take (i := 27) (oi := _) (v := ?_) rfl (by kernel_rfl) (by kernel_rfl) (by kernel_rfl) (fun _ _ _ h => h) (Or.inl ⟨by rfl, ?_⟩) (by assumption) ?_
      rotate_left
      · (intro w hSw; (try dsimp only at hSw); go_simp <;> with_reducible rfl)
      try simp only [Act.put, List.getElem_toArray, List.getElem_cons_zero, List.getElem_cons_succ, List.setIfInBounds_toArray, List.set_cons_zero, List.set_cons_succ]
      refine wpAnyH_take (i := 28) (oi := _) (v := ?_) rfl (by kernel_rfl) (by kernel_rfl) (by kernel_rfl) (fun _ _ _ h => h) (Or.inl ⟨by rfl, ?_⟩) (by assumption) ?_
      rotate_left
      · (intro w hSw; (try dsimp only at hSw); go_simp <;> with_reducible rfl)
      try simp only [Act.put, List.getElem_toArray, List.getElem_cons_zero, List.getElem_cons_succ, List.setIfInBounds_toArray, List.set_cons_zero, List.set_cons_succ]
      refine wpAnyH_take (i := 29) (oi := _) (v := ?_) rfl (by kernel_rfl) (by kernel_rfl) (by kernel_rfl) (fun _ _ _ h => h) (Or.inl ⟨by rfl, ?_⟩) (by assumption) ?_
      rotate_left
      · (intro w hSw; (try dsimp only at hSw); go_simp <;> with_reducible rfl)
      try simp only [Act.put, List.getElem_toArray, List.getElem_cons_zero, List.getElem_cons_succ, List.setIfInBounds_toArray, List.set_cons_zero, List.set_cons_succ]
      refine wpAnyH_take (i := 30) (oi := _) (v := ?_) rfl (by kernel_rfl) (by kernel_rfl) (by kernel_rfl) (fun _ _ _ h => h) (Or.inl ⟨by rfl, ?_⟩) (by assumption) ?_
      rotate_left
      · (intro w hSw; (try dsimp only at hSw); go_simp <;> with_reducible rfl)
      try simp only [Act.put, List.getElem_toArray, List.getElem_cons_zero, List.getElem_cons_succ, List.setIfInBounds_toArray, List.set_cons_zero, List.set_cons_succ]
      refine wpAnyH_take (i := 31) (oi := _) (v := ?_) rfl (by kernel_rfl) (by kernel_rfl) (by kernel_rfl) (fun _ _ _ h => h) (Or.inl ⟨by rfl, ?_⟩) (by assumption) ?_
      rotate_left
      · (intro w hSw; (try dsimp only at hSw); go_simp <;> with_reducible rfl)
      try simp only [Act.put, List.getElem_toArray, List.getElem_cons_zero, List.getElem_cons_succ, List.setIfInBounds_toArray, List.set_cons_zero, List.set_cons_succ]
      refine wpAnyH_take (i := 32) (oi := _) (v := ?_) rfl (by kernel_rfl) (by kernel_rfl) (by kernel_rfl) (fun _ _ _ h => h) (Or.inl ⟨by rfl, ?_⟩) (by assumption) ?_
      rotate_left
      · (intro w hSw; (try dsimp only at hSw); go_simp <;> with_reducible rfl)
      try simp only [Act.put, List.getElem_toArray, List.getElem_cons_zero, List.getElem_cons_succ, List.setIfInBounds_toArray, List.set_cons_zero, List.set_cons_succ]
      refine wpAnyH_take (i := 33) (oi := _) (v := ?_) rfl (by kernel_rfl) (by kernel_rfl) (by kernel_rfl) (fun _ _ _ h => h) (Or.inl ⟨by rfl, ?_⟩) (by assumption) ?_
      rotate_left
      · (intro w hSw; (try dsimp only at hSw); go_simp <;> with_reducible rfl)
      try simp only [Act.put, List.getElem_toArray, List.getElem_cons_zero, List.getElem_cons_succ, List.setIfInBounds_toArray, List.set_cons_zero, List.set_cons_succ]
      refine wpAnyH_take (i := 34) (oi := _) (v := ?_) rfl (by kernel_rfl) (by kernel_rfl) (by kernel_rfl) (fun _ _ _ h => h) (Or.inl ⟨by rfl, ?_⟩) (by assumption) ?_
      rotate_left
      · (intro w hSw; (try dsimp only at hSw); go_simp <;> with_reducible rfl)
      try simp only [Act.put, List.getElem_toArray, List.getElem_cons_zero, List.getElem_cons_succ, List.setIfInBounds_toArray, List.set_cons_zero, List.set_cons_succ]
      refine wpAnyH_take (i := 35) (oi := _) (v := ?_) rfl (by kernel_rfl) (by kernel_rfl) (by kernel_rfl) (fun _ _ _ h => h) (Or.inl ⟨by rfl, ?_⟩) (by assumption) ?_
      rotate_left
      · (intro w hSw; (try dsimp only at hSw); go_simp <;> with_reducible rfl)
      try simp only [Act.put, List.getElem_toArray, List.getElem_cons_zero, List.getElem_cons_succ, List.setIfInBounds_toArray, List.set_cons_zero, List.set_cons_succ]
      refine wpAnyH_take (i := 36) (oi := _) (v := ?_) rfl (by kernel_rfl) (by kernel_rfl) (by kernel_rfl) (fun _ _ _ h => h) (Or.inl ⟨by rfl, ?_⟩) (by assumption) ?_
      rotate_left
      · (intro w hSw; (try dsimp only at hSw); go_simp <;> with_reducible rfl)
      try simp only [Act.put, List.getElem_toArray, List.getElem_cons_zero, List.getElem_cons_succ, List.setIfInBounds_toArray, List.set_cons_zero, List.set_cons_succ]
      refine wpAnyH_take (i := 37) (oi := _) (v := ?_) rfl (by kernel_rfl) (by kernel_rfl) (by kernel_rfl) (fun _ _ _ h => h) (Or.inl ⟨by rfl, ?_⟩) (by assumption) ?_
      rotate_left
      · (intro w hSw; (try dsimp only at hSw); go_simp <;> with_reducible rfl)
      try simp only [Act.put, List.getElem_toArray, List.getElem_cons_zero, List.getElem_cons_succ, List.setIfInBounds_toArray, List.set_cons_zero, List.set_cons_succ]
      refine wpAnyH_ready (rs := [38]) (by kernel_rfl) (by simp) ?_
      refine AllReadyH.cons (o := _) rfl (fun K hK => ?_) AllReadyH.nil
      clear hHeld
      go_simp
      try go_wp2_with fail
      refine hK.out _ _ (CC.out _ (HK.out.drew.alloc _)) (fun hHeld => ?_)
      clear hK K
      try simp only [Act.put, List.getElem_toArray, List.getElem_cons_zero, List.getElem_cons_succ, List.setIfInBounds_toArray, List.set_cons_zero, List.set_cons_succ]
      refine wpAnyH_ready (rs := [39]) (by kernel_rfl) (by simp) ?_
      refine AllReadyH.cons (o := _) rfl (fun K hK => ?_) AllReadyH.nil
      clear hHeld
      refine step_app (f := recVal) rfl (.tmp 28) (.tmp 66) w.heap.size 22 44 rfl i0 _ 4 32 Try.underlying22 hi hz0 hz1 hz2 rfl (by omega) (fun _ => rfl) rec_one _ k (((l.take k).map (movR x y t)).flatMap recVal) rfl (HO.out.kept ((Kp.refl wr none).drew.alloc (Obj.cells #[.int .i64 (x + p0), .int .i64 (y + p1), .int .i64 (x + p2), .int .i64 (y + p3)] 44)) (by cases u8.ownBlock <;> simp)) _ [(⟨x + p0, y + p1, x + p2, y + p3⟩ : Rc.Rect)] rfl (rects_one wr.drew (x + p0) (y + p1) (x + p2) (y + p3)) (by unfold maxLen; simp; omega) (by simp; omega) (HK.out.drew.alloc (Obj.cells #[.int .i64 (x + p0), .int .i64 (y + p1), .int .i64 (x + p2), .int .i64 (y + p3)] 44)).size ?_
      intro v5 w5 ho5 hg hb5
      have KA := Lib.hid (Kp.row (HK.out.drew.alloc (Obj.cells #[.int .i64 (x + p0), .int .i64 (y + p1), .int .i64 (x + p2), .int .i64 (y + p3)] 44)) hg (fun j hj => (HO.out.lt j hj).1))
      have HR := Lib.hid (HST.out v5 w5 ho5 KA.out)
      clear ho5 hg hb5
      try simp only [Act.put, List.getElem_toArray, List.getElem_cons_zero, List.getElem_cons_succ, List.setIfInBounds_toArray, List.set_cons_zero, List.set_cons_succ]
      refine hK _ _ (CC.out _ KA.out) (fun hHeld => ?_)
      clear hK K
      refine wpAnyH_ready (rs := [40]) (by kernel_rfl) (by simp) ?_
      refine AllReadyH.cons (o := _) rfl (fun K hK => ?_) AllReadyH.nil
      clear hHeld
      go_simp
      try go_wp2_with fail
      refine hK.out _ _ (CC.out _ KA.out) (fun hHeld => ?_)
      clear hK K hHeld
      refine wpAnyH_done (by kernel_rfl) ?_ _
      go_wp2_with fail
      go_roundw
      case rel => exact HR.out
      case measure => simp [intOf]; omega
    · have hk1 : ¬ (k : Int) < (l.length : Int) := by omega
      have HE : Hid (OwnRects w (Ending.returned u8) wr fin) := Lib.hid (by
        have e : k = l.length := by omega
        have hln : fin.length = k := by rw [← HFIN.out, List.length_map]; exact e.symm
        refine ⟨u8, rfl, ?_, HK.out⟩
        have := HO.out
        rw [e, List.take_length, HFIN.out, ← e] at this
        rw [hln]
        exact this)
      go_wp2_with fail
      go_ret
      exact HE.out

end Go.Proofs.Ytpakiabnhdoijaa
