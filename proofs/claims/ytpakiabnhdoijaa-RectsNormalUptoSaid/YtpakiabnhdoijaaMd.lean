/- The right lists that numbers make (Made), at most 12. Condition: the numbers are bytes.
   Rectangles by their numbers (list), and the test of a list (is) where it is equal. Condition: at most 1000 numbers.
   At most twelve rectangles of a list (few). Condition: at most 2^16 rectangles. -/
import Derived.Test.YtpakiabnhdoijaaHa
import Derived.Test.YtpakiabnhdoijaaRg

namespace Go.Proofs.Ytpakiabnhdoijaa
open Go.RowKit

/-- Four bytes. -/
structure Quad where
  a : Int
  b : Int
  c : Int
  d : Int
def Quad.ok (q : Quad) : Prop := 0 ≤ q.a ∧ q.a ≤ 255 ∧ 0 ≤ q.b ∧ q.b ≤ 255 ∧ 0 ≤ q.c ∧ q.c ≤ 255 ∧ 0 ≤ q.d ∧ q.d ≤ 255
def quadVal (q : Quad) : List Value := [.int .u8 q.a, .int .u8 q.b, .int .u8 q.c, .int .u8 q.d]
def Quad.rect (q : Quad) : Rc.Rect := ⟨q.a % 10, q.b % 10, q.a % 10 + 1 + q.c % 3, q.b % 10 + 1 + q.d % 3⟩
def made (qs : List Quad) : List Rc.Rect := (qs.take 12).map Quad.rect
abbrev IsQuads := @IsList Quad 4 quadVal
def DRel (W : World) (qs : List Quad) (v i : Value) (wr : World) : Prop :=
  ∃ k : Nat, k ≤ qs.length ∧ k ≤ 12 ∧ i = .int .i64 k ∧ wr.ownsRow W.heap.size 44 4 v k (((qs.take k).map Quad.rect).flatMap recVal) ∧ Kp W wr none
theorem tmod_pos (a m : Int) (h : 0 ≤ a) : a.tmod m = a % m := Int.tmod_eq_emod_of_nonneg h

set_option maxHeartbeats 8000000 in
set_option maxRecDepth 100000 in
theorem made_any (v : Value) (qs : List Quad) (w : World) (hq : IsQuads w v qs) (hok : ∀ q ∈ qs, q.ok) :
    Calls Try.prog 11 #[v, .int .i64 12] w fun E w' => OwnRects w E w' (made qs) := by
  obtain ⟨ao, cap, rfl, fq⟩ := hq.form
  have FQ := Lib.hid fq
  have HOK := Lib.hid hok
  clear hq fq hok
  obtain ⟨fin, hfin⟩ : ∃ l, made qs = l := ⟨_, rfl⟩
  rw [hfin]
  have HFIN := Lib.hid hfin
  clear hfin
  obtain ⟨i0, hi, hz0, hz1, hz2⟩ := info_parts infoRect
  have hnq : (0 : Int) ≤ (qs.length : Int) := Int.natCast_nonneg _
  go_enter Try.func11, Try.ntmps11
  go_wp2_with fail
  go_loopw [5, 6] (fun v i wr => DRel w qs v i wr) (fun _ i _ => qs.length - (intOf i).toNat)
  case atStart => exact ⟨0, Nat.zero_le _, Nat.zero_le _, rfl, World.ownsRow_nil _ _ _ _, Kp.refl _ _⟩
  case round =>
    obtain ⟨k, hk, hk12, rfl, hown, hK⟩ := hrel
    have HO := Lib.hid hown
    have HK := Lib.hid hK
    clear hown hK
    have hk0 : (0 : Int) ≤ (k : Int) := Int.natCast_nonneg _
    have HEND : Hid (¬ (k < qs.length ∧ k < 12) → OwnRects w (Ending.returned u5) wr fin) := Lib.hid fun h => by
      have e : (qs.take k).map Quad.rect = fin := by
        rw [← HFIN.out]
        unfold made
        rcases Nat.lt_or_ge k qs.length with h1 | h1
        · have : k = 12 := by omega
          rw [this]
        · rw [List.take_of_length_le h1, List.take_of_length_le (by omega)]
      have hln : fin.length = k := by rw [← e, List.length_map, List.length_take]; omega
      refine ⟨u5, rfl, ?_, HK.out⟩
      have := HO.out
      rw [e] at this
      rw [hln]
      exact this
    by_cases hlt : k < qs.length
    · have hk1 : (k : Int) < (qs.length : Int) := by omega
      by_cases hlt2 : k < 12
      · have hk2 : (k : Int) < 12 := by omega
        obtain ⟨b, off, rfl, hb, hc, hr⟩ := FQ.out k hlt
        obtain ⟨q, hx⟩ : ∃ q, qs[k] = q := ⟨_, rfl⟩
        have ho := HOK.out q (by rw [← hx]; exact List.getElem_mem hlt)
        have HST : Hid (∀ (v : Value) (wq : World), wq.ownsRow w.heap.size 44 4 v (k + [q.rect].length) (((qs.take k).map Quad.rect).flatMap recVal ++ [q.rect].flatMap recVal) → Kp w wq none → DRel w qs v (.int .i64 (k + 1)) wq) := Lib.hid fun v wq h1 h2 =>
          ⟨k + 1, hlt, hlt2, by go_num, by rw [List.take_succ_eq_append_getElem hlt, List.map_append, List.flatMap_append, hx]; exact h1, h2⟩
        have CC : Hid (∀ V, Kp w V none → V.cell? ⟨b, off + k * 4, none⟩ = some (.int .u8 q.a) ∧ V.cell? ⟨b, off + k * 4 + 1, none⟩ = some (.int .u8 q.b) ∧ V.cell? ⟨b, off + k * 4 + 2, none⟩ = some (.int .u8 q.c) ∧ V.cell? ⟨b, off + k * 4 + 3, none⟩ = some (.int .u8 q.d)) := Lib.hid fun V kV => by
          subst hx
          exact ⟨(kV.below.cell (p := ⟨b, off + k * 4 + 0, none⟩) hb).trans (hr 0 (by simp [quadVal])), (kV.below.cell (p := ⟨b, off + k * 4 + 1, none⟩) hb).trans (hr 1 (by simp [quadVal])), (kV.below.cell (p := ⟨b, off + k * 4 + 2, none⟩) hb).trans (hr 2 (by simp [quadVal])), (kV.below.cell (p := ⟨b, off + k * 4 + 3, none⟩) hb).trans (hr 3 (by simp [quadVal]))⟩
        clear hx hr HEND
        obtain ⟨qa, qb, qc, qd⟩ := q
        unfold Quad.ok at ho
        simp only [] at ho CC
        obtain ⟨c0, c1, c2, c3⟩ := CC.out wr HK.out
        obtain ⟨x0, hx0⟩ : ∃ m, qa % 10 = m := ⟨_, rfl⟩
        obtain ⟨y0, hy0⟩ : ∃ m, qb % 10 = m := ⟨_, rfl⟩
        obtain ⟨cr, hcr⟩ : ∃ m, qc % 3 = m := ⟨_, rfl⟩
        obtain ⟨dr, hdr⟩ : ∃ m, qd % 3 = m := ⟨_, rfl⟩
        have t0 : qa.tmod 10 = x0 := by rw [tmod_pos _ _ ho.1, hx0]
        have t1 : qb.tmod 10 = y0 := by rw [tmod_pos _ _ (by omega), hy0]
        have t2 : qc.tmod 3 = cr := by rw [tmod_pos _ _ (by omega), hcr]
        have t3 : qd.tmod 3 = dr := by rw [tmod_pos _ _ (by omega), hdr]
        have wa : IntKind.i64.wrap qa = qa := wrap_small _ (by omega) (by omega)
        have wb : IntKind.i64.wrap qb = qb := wrap_small _ (by omega) (by omega)
        have wc : IntKind.i64.wrap qc = qc := wrap_small _ (by omega) (by omega)
        have wd : IntKind.i64.wrap qd = qd := wrap_small _ (by omega) (by omega)
        have w0 : IntKind.i64.wrap (x0 + 1) = x0 + 1 := wrap_small _ (by omega) (by omega)
        have w1 : IntKind.i64.wrap (y0 + 1) = y0 + 1 := wrap_small _ (by omega) (by omega)
        have w2 : IntKind.i64.wrap (x0 + 1 + cr) = x0 + 1 + cr := wrap_small _ (by omega) (by omega)
        have w3 : IntKind.i64.wrap (y0 + 1 + dr) = y0 + 1 + dr := wrap_small _ (by omega) (by omega)
        unfold Quad.rect at HST
        simp only [hx0, hy0, hcr, hdr] at HST
        go_wp2_with fail
        refine wp_region_held_drew (S := fun w1 => w1.cell? ⟨b, off + k * 4, none⟩ = some (.int .u8 qa) ∧ w1.cell? ⟨b, off + k * 4 + 1, none⟩ = some (.int .u8 qb) ∧ w1.cell? ⟨b, off + k * 4 + 2, none⟩ = some (.int .u8 qc) ∧ w1.cell? ⟨b, off + k * 4 + 3, none⟩ = some (.int .u8 qd)) (by kernel_rfl) ?_ (fun hHeld => ?_)
        · exact CC.out _ HK.out.drew
        refine wpAnyH_take (i := 0) (oi := _) (v := ?_) rfl (by kernel_rfl) (by kernel_rfl) (by kernel_rfl) (fun _ _ _ h => h) (Or.inl ⟨by rfl, ?_⟩) (by assumption) ?_
        rotate_left
        · (intro w hSw; (try dsimp only at hSw); go_simp <;> with_reducible rfl)
        try simp only [Act.put, List.getElem_toArray, List.getElem_cons_zero, List.setIfInBounds_toArray, List.set_cons_zero, List.set_cons_succ]
        refine wpAnyH_take (i := 1) (oi := _) (v := ?_) rfl (by kernel_rfl) (by kernel_rfl) (by kernel_rfl) (fun _ _ _ h => h) (Or.inl ⟨by rfl, ?_⟩) (by assumption) ?_
        rotate_left
        · (intro w hSw; (try dsimp only at hSw); go_simp <;> with_reducible rfl)
        try simp only [Act.put, List.getElem_toArray, List.getElem_cons_zero, List.getElem_cons_succ, List.setIfInBounds_toArray, List.set_cons_zero, List.set_cons_succ]
        refine wpAnyH_take (i := 2) (oi := _) (v := ?_) rfl (by kernel_rfl) (by kernel_rfl) (by kernel_rfl) (fun _ _ _ h => h) (Or.inl ⟨by rfl, ?_⟩) (by assumption) ?_
        rotate_left
        · (intro w hSw; (try dsimp only at hSw); go_simp <;> with_reducible rfl)
        try simp only [Act.put, List.getElem_toArray, List.getElem_cons_zero, List.getElem_cons_succ, List.setIfInBounds_toArray, List.set_cons_zero, List.set_cons_succ]
        refine wpAnyH_take (i := 3) (oi := _) (v := ?_) rfl (by kernel_rfl) (by kernel_rfl) (by kernel_rfl) (fun _ _ _ h => h) (Or.inl ⟨by rfl, ?_⟩) (by assumption) ?_
        rotate_left
        · (intro w hSw; (try dsimp only at hSw); go_simp <;> with_reducible rfl)
        try simp only [Act.put, List.getElem_toArray, List.getElem_cons_zero, List.getElem_cons_succ, List.setIfInBounds_toArray, List.set_cons_zero, List.set_cons_succ]
        refine wpAnyH_take (i := 4) (oi := _) (v := ?_) rfl (by kernel_rfl) (by kernel_rfl) (by kernel_rfl) (fun _ _ _ h => h) (Or.inl ⟨by rfl, ?_⟩) (by assumption) ?_
        rotate_left
        · (intro w hSw; (try dsimp only at hSw); go_simp <;> with_reducible rfl)
        try simp only [Act.put, List.getElem_toArray, List.getElem_cons_zero, List.getElem_cons_succ, List.setIfInBounds_toArray, List.set_cons_zero, List.set_cons_succ]
        refine wpAnyH_take (i := 5) (oi := _) (v := ?_) rfl (by kernel_rfl) (by kernel_rfl) (by kernel_rfl) (fun _ _ _ h => h) (Or.inl ⟨by rfl, ?_⟩) (by assumption) ?_
        rotate_left
        · (intro w hSw; (try dsimp only at hSw); go_simp <;> with_reducible rfl)
        try simp only [Act.put, List.getElem_toArray, List.getElem_cons_zero, List.getElem_cons_succ, List.setIfInBounds_toArray, List.set_cons_zero, List.set_cons_succ]
        refine wpAnyH_take (i := 6) (oi := _) (v := ?_) rfl (by kernel_rfl) (by kernel_rfl) (by kernel_rfl) (fun _ _ _ h => h) (Or.inl ⟨by rfl, ?_⟩) (by assumption) ?_
        rotate_left
        · (intro w hSw; (try dsimp only at hSw); go_simp <;> with_reducible rfl)
        try simp only [Act.put, List.getElem_toArray, List.getElem_cons_zero, List.getElem_cons_succ, List.setIfInBounds_toArray, List.set_cons_zero, List.set_cons_succ]
        refine wpAnyH_take (i := 7) (oi := _) (v := ?_) rfl (by kernel_rfl) (by kernel_rfl) (by kernel_rfl) (fun _ _ _ h => h) (Or.inl ⟨by rfl, ?_⟩) (by assumption) ?_
        rotate_left
        · (intro w hSw; (try dsimp only at hSw); go_simp <;> with_reducible rfl)
        try simp only [Act.put, List.getElem_toArray, List.getElem_cons_zero, List.getElem_cons_succ, List.setIfInBounds_toArray, List.set_cons_zero, List.set_cons_succ]
        refine wpAnyH_take (i := 8) (oi := _) (v := ?_) rfl (by kernel_rfl) (by kernel_rfl) (by kernel_rfl) (fun _ _ _ h => h) (Or.inl ⟨by rfl, ?_⟩) (by assumption) ?_
        rotate_left
        · (intro w hSw; (try dsimp only at hSw); go_simp <;> with_reducible rfl)
        try simp only [Act.put, List.getElem_toArray, List.getElem_cons_zero, List.getElem_cons_succ, List.setIfInBounds_toArray, List.set_cons_zero, List.set_cons_succ]
        refine wpAnyH_take (i := 9) (oi := _) (v := ?_) rfl (by kernel_rfl) (by kernel_rfl) (by kernel_rfl) (fun _ _ _ h => h) (Or.inl ⟨by rfl, ?_⟩) (by assumption) ?_
        rotate_left
        · (intro w hSw; (try dsimp only at hSw); go_simp <;> with_reducible rfl)
        try simp only [Act.put, List.getElem_toArray, List.getElem_cons_zero, List.getElem_cons_succ, List.setIfInBounds_toArray, List.set_cons_zero, List.set_cons_succ]
        refine wpAnyH_take (i := 10) (oi := _) (v := ?_) rfl (by kernel_rfl) (by kernel_rfl) (by kernel_rfl) (fun _ _ _ h => h) (Or.inl ⟨by rfl, ?_⟩) (by assumption) ?_
        rotate_left
        · (intro w hSw; (try dsimp only at hSw); go_simp <;> with_reducible rfl)
        try simp only [Act.put, List.getElem_toArray, List.getElem_cons_zero, List.getElem_cons_succ, List.setIfInBounds_toArray, List.set_cons_zero, List.set_cons_succ]
        refine wpAnyH_take (i := 11) (oi := _) (v := ?_) rfl (by kernel_rfl) (by kernel_rfl) (by kernel_rfl) (fun _ _ _ h => h) (Or.inl ⟨by rfl, ?_⟩) (by assumption) ?_
        rotate_left
        · (intro w hSw; (try dsimp only at hSw); go_simp <;> with_reducible rfl)
        try simp only [Act.put, List.getElem_toArray, List.getElem_cons_zero, List.getElem_cons_succ, List.setIfInBounds_toArray, List.set_cons_zero, List.set_cons_succ]
        refine wpAnyH_take (i := 12) (oi := _) (v := ?_) rfl (by kernel_rfl) (by kernel_rfl) (by kernel_rfl) (fun _ _ _ h => h) (Or.inl ⟨by rfl, ?_⟩) (by assumption) ?_
        rotate_left
        · (intro w hSw; (try dsimp only at hSw); go_simp <;> with_reducible rfl)
        try simp only [Act.put, List.getElem_toArray, List.getElem_cons_zero, List.getElem_cons_succ, List.setIfInBounds_toArray, List.set_cons_zero, List.set_cons_succ]
        refine wpAnyH_take (i := 13) (oi := _) (v := ?_) rfl (by kernel_rfl) (by kernel_rfl) (by kernel_rfl) (fun _ _ _ h => h) (Or.inl ⟨by rfl, ?_⟩) (by assumption) ?_
        rotate_left
        · (intro w hSw; (try dsimp only at hSw); go_simp <;> with_reducible rfl)
        try simp only [Act.put, List.getElem_toArray, List.getElem_cons_zero, List.getElem_cons_succ, List.setIfInBounds_toArray, List.set_cons_zero, List.set_cons_succ]
        refine wpAnyH_take (i := 14) (oi := _) (v := ?_) rfl (by kernel_rfl) (by kernel_rfl) (by kernel_rfl) (fun _ _ _ h => h) (Or.inl ⟨by rfl, ?_⟩) (by assumption) ?_
        rotate_left
        · (intro w hSw; (try dsimp only at hSw); go_simp <;> with_reducible rfl)
        try simp only [Act.put, List.getElem_toArray, List.getElem_cons_zero, List.getElem_cons_succ, List.setIfInBounds_toArray, List.set_cons_zero, List.set_cons_succ]
        refine wpAnyH_take (i := 15) (oi := _) (v := ?_) rfl (by kernel_rfl) (by kernel_rfl) (by kernel_rfl) (fun _ _ _ h => h) (Or.inl ⟨by rfl, ?_⟩) (by assumption) ?_
        rotate_left
        · (intro w hSw; (try dsimp only at hSw); go_simp <;> with_reducible rfl)
        try simp only [Act.put, List.getElem_toArray, List.getElem_cons_zero, List.getElem_cons_succ, List.setIfInBounds_toArray, List.set_cons_zero, List.set_cons_succ]
        refine wpAnyH_take (i := 16) (oi := _) (v := ?_) rfl (by kernel_rfl) (by kernel_rfl) (by kernel_rfl) (fun _ _ _ h => h) (Or.inl ⟨by rfl, ?_⟩) (by assumption) ?_
        rotate_left
        · (intro w hSw; (try dsimp only at hSw); go_simp <;> with_reducible rfl)
        try simp only [Act.put, List.getElem_toArray, List.getElem_cons_zero, List.getElem_cons_succ, List.setIfInBounds_toArray, List.set_cons_zero, List.set_cons_succ]
        refine wpAnyH_take (i := 17) (oi := _) (v := ?_) rfl (by kernel_rfl) (by kernel_rfl) (by kernel_rfl) (fun _ _ _ h => h) (Or.inl ⟨by rfl, ?_⟩) (by assumption) ?_
        rotate_left
        · (intro w hSw; (try dsimp only at hSw); go_simp <;> with_reducible rfl)
        try simp only [Act.put, List.getElem_toArray, List.getElem_cons_zero, List.getElem_cons_succ, List.setIfInBounds_toArray, List.set_cons_zero, List.set_cons_succ]
        refine wpAnyH_take (i := 18) (oi := _) (v := ?_) rfl (by kernel_rfl) (by kernel_rfl) (by kernel_rfl) (fun _ _ _ h => h) (Or.inl ⟨by rfl, ?_⟩) (by assumption) ?_
        rotate_left
        · (intro w hSw; (try dsimp only at hSw); go_simp <;> with_reducible rfl)
        try simp only [Act.put, List.getElem_toArray, List.getElem_cons_zero, List.getElem_cons_succ, List.setIfInBounds_toArray, List.set_cons_zero, List.set_cons_succ]
        refine wpAnyH_take (i := 19) (oi := _) (v := ?_) rfl (by kernel_rfl) (by kernel_rfl) (by kernel_rfl) (fun _ _ _ h => h) (Or.inl ⟨by rfl, ?_⟩) (by assumption) ?_
        rotate_left
        · (intro w hSw; (try dsimp only at hSw); go_simp <;> with_reducible rfl)
        try simp only [Act.put, List.getElem_toArray, List.getElem_cons_zero, List.getElem_cons_succ, List.setIfInBounds_toArray, List.set_cons_zero, List.set_cons_succ]
        refine wpAnyH_take (i := 20) (oi := _) (v := ?_) rfl (by kernel_rfl) (by kernel_rfl) (by kernel_rfl) (fun _ _ _ h => h) (Or.inl ⟨by rfl, ?_⟩) (by assumption) ?_
        rotate_left
        · (intro w hSw; (try dsimp only at hSw); go_simp <;> with_reducible rfl)
        try simp only [Act.put, List.getElem_toArray, List.getElem_cons_zero, List.getElem_cons_succ, List.setIfInBounds_toArray, List.set_cons_zero, List.set_cons_succ]
        refine wpAnyH_take (i := 21) (oi := _) (v := ?_) rfl (by kernel_rfl) (by kernel_rfl) (by kernel_rfl) (fun _ _ _ h => h) (Or.inl ⟨by rfl, ?_⟩) (by assumption) ?_
        rotate_left
        · (intro w hSw; (try dsimp only at hSw); go_simp <;> with_reducible rfl)
        try simp only [Act.put, List.getElem_toArray, List.getElem_cons_zero, List.getElem_cons_succ, List.setIfInBounds_toArray, List.set_cons_zero, List.set_cons_succ]
        refine wpAnyH_take (i := 22) (oi := _) (v := ?_) rfl (by kernel_rfl) (by kernel_rfl) (by kernel_rfl) (fun _ _ _ h => h) (Or.inl ⟨by rfl, ?_⟩) (by assumption) ?_
        rotate_left
        · (intro w hSw; (try dsimp only at hSw); go_simp <;> with_reducible rfl)
        try simp only [Act.put, List.getElem_toArray, List.getElem_cons_zero, List.getElem_cons_succ, List.setIfInBounds_toArray, List.set_cons_zero, List.set_cons_succ]
        refine wpAnyH_take (i := 23) (oi := _) (v := ?_) rfl (by kernel_rfl) (by kernel_rfl) (by kernel_rfl) (fun _ _ _ h => h) (Or.inl ⟨by rfl, ?_⟩) (by assumption) ?_
        rotate_left
        · (intro w hSw; (try dsimp only at hSw); go_simp <;> with_reducible rfl)
        try simp only [Act.put, List.getElem_toArray, List.getElem_cons_zero, List.getElem_cons_succ, List.setIfInBounds_toArray, List.set_cons_zero, List.set_cons_succ]
        refine wpAnyH_ready (rs := [24]) (by kernel_rfl) (by simp) ?_
        refine AllReadyH.cons (o := _) rfl (fun K hK => ?_) AllReadyH.nil
        clear hHeld
        go_simp
        try go_wp2_with fail
        refine hK.out _ _ (CC.out _ (HK.out.drew.alloc _)) (fun hHeld => ?_)
        clear hK K
        try simp only [Act.put, List.getElem_toArray, List.getElem_cons_zero, List.getElem_cons_succ, List.setIfInBounds_toArray, List.set_cons_zero, List.set_cons_succ]
        refine wpAnyH_ready (rs := [25]) (by kernel_rfl) (by simp) ?_
        refine AllReadyH.cons (o := _) rfl (fun K hK => ?_) AllReadyH.nil
        clear hHeld
        refine step_app (f := recVal) rfl (.tmp 34) (.tmp 58) w.heap.size 22 44 rfl i0 _ 4 32 Try.underlying22 hi hz0 hz1 hz2 rfl (by omega) (fun _ => rfl) rec_one _ k (((qs.take k).map Quad.rect).flatMap recVal) rfl (HO.out.kept ((Kp.refl wr none).drew.alloc (Obj.cells #[.int .i64 x0, .int .i64 y0, .int .i64 (x0 + 1 + cr), .int .i64 (y0 + 1 + dr)] 44)) (by cases u5.ownBlock <;> simp)) _ [(⟨x0, y0, x0 + 1 + cr, y0 + 1 + dr⟩ : Rc.Rect)] rfl (rects_one wr.drew x0 y0 (x0 + 1 + cr) (y0 + 1 + dr)) (by unfold maxLen; simp; omega) (by simp; omega) (HK.out.drew.alloc (Obj.cells #[.int .i64 x0, .int .i64 y0, .int .i64 (x0 + 1 + cr), .int .i64 (y0 + 1 + dr)] 44)).size ?_
        intro v5 w5 ho5 hg hb5
        have KA := Lib.hid (Kp.row (HK.out.drew.alloc (Obj.cells #[.int .i64 x0, .int .i64 y0, .int .i64 (x0 + 1 + cr), .int .i64 (y0 + 1 + dr)] 44)) hg (fun j hj => (HO.out.lt j hj).1))
        have HR := Lib.hid (HST.out v5 w5 ho5 KA.out)
        clear ho5 hg hb5
        try simp only [Act.put, List.getElem_toArray, List.getElem_cons_zero, List.getElem_cons_succ, List.setIfInBounds_toArray, List.set_cons_zero, List.set_cons_succ]
        refine hK _ _ (CC.out _ KA.out) (fun hHeld => ?_)
        clear hK K
        refine wpAnyH_ready (rs := [26]) (by kernel_rfl) (by simp) ?_
        refine AllReadyH.cons (o := _) rfl (fun K hK => ?_) AllReadyH.nil
        clear hHeld
        go_simp
        try go_wp2_with fail
        refine hK.out _ _ (CC.out _ KA.out) (fun hHeld => ?_)
        clear hK K hHeld
        refine wpAnyH_done (by kernel_rfl) ?_ _
        go_wp2_with fail
        go_roundw
        case rel => exact HR.out
        case measure => simp [intOf]; omega
      · have hk2 : ¬ (k : Int) < 12 := by omega
        have HE := Lib.hid (HEND.out (fun h => hlt2 h.2))
        clear HEND
        go_wp2_with fail
        go_ret
        exact HE.out
    · have hk1 : ¬ (k : Int) < (qs.length : Int) := by omega
      have HE := Lib.hid (HEND.out (fun h => hlt h.1))
      clear HEND
      go_wp2_with fail
      go_ret
      exact HE.out

end Go.Proofs.Ytpakiabnhdoijaa

namespace Go.Proofs.Ytpakiabnhdoijaa
open Go.RowKit

def quads : List Int → List Rc.Rect
  | a :: b :: c :: d :: r => ⟨a, b, c, d⟩ :: quads r
  | _ => []
theorem quads_take : ∀ (k : Nat) (xs : List Int) (h : 4 * k + 3 < xs.length), (quads xs).take (k + 1) = (quads xs).take k ++ [⟨xs[4 * k], xs[4 * k + 1], xs[4 * k + 2], xs[4 * k + 3]⟩]
  | 0, a :: b :: c :: d :: r, _ => by simp [quads]
  | 0, [], h => by simp at h
  | 0, [_], h => by simp at h
  | 0, [_, _], h => by simp at h
  | 0, [_, _, _], h => by simp at h
  | k + 1, [], h => by simp at h
  | k + 1, [_], h => by simp at h
  | k + 1, [_, _], h => by simp at h; omega
  | k + 1, [_, _, _], h => by simp at h; omega
  | k + 1, a :: b :: c :: d :: r, h => by
    have ih := quads_take k r (by simp at h; omega)
    simp only [quads, List.take_succ_cons, ih, List.cons_append]
    congr 3
theorem quads_length : ∀ (xs : List Int), 4 * (quads xs).length ≤ xs.length ∧ xs.length < 4 * (quads xs).length + 4
  | [] => by simp [quads]
  | [_] => by simp [quads]
  | [_, _] => by simp [quads]
  | [_, _, _] => by simp [quads]
  | a :: b :: c :: d :: r => by
    have ih := quads_length r
    simp only [quads, List.length_cons]
    omega
def QRel (W : World) (xs : List Int) (v i : Value) (wr : World) : Prop :=
  ∃ k : Nat, 4 * k ≤ xs.length ∧ i = .int .i64 (4 * k : Nat) ∧ wr.ownsRow W.heap.size 44 4 v k (((quads xs).take k).flatMap recVal) ∧ Kp W wr none

set_option maxHeartbeats 8000000 in
set_option maxRecDepth 100000 in
theorem list_any (v : Value) (xs : List Int) (w : World) (hx : IsInts w v xs) (hl : xs.length ≤ 1000) :
    Calls Try.prog 32 #[v] w fun E w' => OwnRects w E w' (quads xs) := by
  obtain ⟨ao, cap, rfl, fx⟩ := hx.form
  have FX := Lib.hid fx
  clear hx fx
  obtain ⟨fin, hfin⟩ : ∃ l, quads xs = l := ⟨_, rfl⟩
  rw [hfin]
  have HFIN := Lib.hid hfin
  clear hfin
  obtain ⟨i0, hi, hz0, hz1, hz2⟩ := info_parts infoRect
  have hnq : (0 : Int) ≤ (xs.length : Int) := Int.natCast_nonneg _
  go_enter Try.func32, Try.ntmps32
  go_wp2_with fail
  go_loopw [3, 4] (fun v i wr => QRel w xs v i wr) (fun _ i _ => xs.length + 4 - (intOf i).toNat)
  case atStart => exact ⟨0, Nat.zero_le _, rfl, World.ownsRow_nil _ _ _ _, Kp.refl _ _⟩
  case round =>
    obtain ⟨k, hk, rfl, hown, hK⟩ := hrel
    have HO := Lib.hid hown
    have HK := Lib.hid hK
    clear hown hK
    obtain ⟨p, hp⟩ : ∃ p, 4 * k = p := ⟨_, rfl⟩
    rw [hp]
    have hp0 : (0 : Int) ≤ (p : Int) := Int.natCast_nonneg _
    have hpk : p = 4 * k := hp.symm
    have hwp3 : IntKind.i64.wrap ((p : Int) + 3) = (p : Int) + 3 := wrap_small _ (by omega) (by omega)
    by_cases hlt : p + 3 < xs.length
    · have hk3 : (p : Int) + 3 < (xs.length : Int) := by omega
      have hwp1 : IntKind.i64.wrap ((p : Int) + 1) = (p : Int) + 1 := wrap_small _ (by omega) (by omega)
      have hwp2 : IntKind.i64.wrap ((p : Int) + 2) = (p : Int) + 2 := wrap_small _ (by omega) (by omega)
      have hk1 : (p : Int) + 1 < (xs.length : Int) := by omega
      have hk2 : (p : Int) + 2 < (xs.length : Int) := by omega
      have hk4 : (p : Int) < (xs.length : Int) := by omega
      have g1 : (0 : Int) ≤ (p : Int) + 1 := by omega
      have tn2 : ((p : Int) + 2).toNat = p + 2 := by omega
      have tn3 : ((p : Int) + 3).toNat = p + 3 := by omega
      have g2 : (0 : Int) ≤ (p : Int) + 2 := by omega
      have g3 : (0 : Int) ≤ (p : Int) + 3 := by omega
      obtain ⟨b, off, rfl, hb, hc, hr⟩ := FX.out.int p (by omega)
      have HQ := quads_take k xs (by omega)
      subst hpk
      obtain ⟨a0, h0⟩ : ∃ a, xs[4 * k] = a := ⟨_, rfl⟩
      obtain ⟨a1, h1⟩ : ∃ a, xs[4 * k + 1] = a := ⟨_, rfl⟩
      obtain ⟨a2, h2⟩ : ∃ a, xs[4 * k + 2] = a := ⟨_, rfl⟩
      obtain ⟨a3, h3⟩ : ∃ a, xs[4 * k + 3] = a := ⟨_, rfl⟩
      rw [h0, h1, h2, h3] at HQ
      have CC : Hid (∀ V, Kp w V none → V.cell? ⟨b, off + 4 * k, none⟩ = some (.int .i64 a0) ∧ V.cell? ⟨b, off + (4 * k + 1), none⟩ = some (.int .i64 a1) ∧ V.cell? ⟨b, off + (4 * k + 2), none⟩ = some (.int .i64 a2) ∧ V.cell? ⟨b, off + (4 * k + 3), none⟩ = some (.int .i64 a3)) := Lib.hid fun V kV =>
        ⟨(kV.below.cell (p := ⟨b, off + 4 * k, none⟩) hb).trans (by rw [← h0]; exact hr _ (by omega)), (kV.below.cell (p := ⟨b, off + (4 * k + 1), none⟩) hb).trans (by rw [← h1]; exact hr _ (by omega)), (kV.below.cell (p := ⟨b, off + (4 * k + 2), none⟩) hb).trans (by rw [← h2]; exact hr _ (by omega)), (kV.below.cell (p := ⟨b, off + (4 * k + 3), none⟩) hb).trans (by rw [← h3]; exact hr _ (by omega))⟩
      have HST : Hid (∀ (v : Value) (wq : World), wq.ownsRow w.heap.size 44 4 v (k + [(⟨a0, a1, a2, a3⟩ : Rc.Rect)].length) (((quads xs).take k).flatMap recVal ++ [(⟨a0, a1, a2, a3⟩ : Rc.Rect)].flatMap recVal) → Kp w wq none → QRel w xs v (.int .i64 ((4 * k : Nat) + 4)) wq) := Lib.hid fun v wq q1 q2 =>
        ⟨k + 1, by omega, by congr 1, by rw [HQ, List.flatMap_append]; exact q1, q2⟩
      clear h0 h1 h2 h3 hr HQ
      generalize hpp : 4 * k = p at *
      have cs := CC.out wr HK.out
      go_wp2_with fail
      refine wp_region_held_drew (S := fun w1 => w1.cell? ⟨b, off + p, none⟩ = some (.int .i64 a0) ∧ w1.cell? ⟨b, off + (p + 1), none⟩ = some (.int .i64 a1) ∧ w1.cell? ⟨b, off + (p + 2), none⟩ = some (.int .i64 a2) ∧ w1.cell? ⟨b, off + (p + 3), none⟩ = some (.int .i64 a3)) (by kernel_rfl) ?_ (fun hHeld => ?_)
      · exact CC.out _ HK.out.drew
      refine wpAnyH_take (i := 0) (oi := _) (v := ?_) rfl (by kernel_rfl) (by kernel_rfl) (by kernel_rfl) (fun _ _ _ h => h) (Or.inl ⟨by rfl, ?_⟩) (by assumption) ?_
      rotate_left
      · (intro w hSw; (try dsimp only at hSw); go_simp <;> with_reducible rfl)
      try simp only [Act.put, List.getElem_toArray, List.getElem_cons_zero, List.setIfInBounds_toArray, List.set_cons_zero, List.set_cons_succ]
      refine wpAnyH_take (i := 1) (oi := _) (v := ?_) rfl (by kernel_rfl) (by kernel_rfl) (by kernel_rfl) (fun _ _ _ h => h) (Or.inl ⟨by rfl, ?_⟩) (by assumption) ?_
      rotate_left
      · (intro w hSw; (try dsimp only at hSw); go_simp <;> with_reducible rfl)
      try simp only [Act.put, List.getElem_toArray, List.getElem_cons_zero, List.getElem_cons_succ, List.setIfInBounds_toArray, List.set_cons_zero, List.set_cons_succ]
      refine wpAnyH_take (i := 2) (oi := _) (v := ?_) rfl (by kernel_rfl) (by kernel_rfl) (by kernel_rfl) (fun _ _ _ h => h) (Or.inl ⟨by rfl, ?_⟩) (by assumption) ?_
      rotate_left
      · (intro w hSw; (try dsimp only at hSw); go_simp <;> with_reducible rfl)
      try simp only [Act.put, List.getElem_toArray, List.getElem_cons_zero, List.getElem_cons_succ, List.setIfInBounds_toArray, List.set_cons_zero, List.set_cons_succ]
      refine wpAnyH_take (i := 3) (oi := _) (v := ?_) rfl (by kernel_rfl) (by kernel_rfl) (by kernel_rfl) (fun _ _ _ h => h) (Or.inl ⟨by rfl, ?_⟩) (by assumption) ?_
      rotate_left
      · (intro w hSw; (try dsimp only at hSw); go_simp <;> with_reducible rfl)
      try simp only [Act.put, List.getElem_toArray, List.getElem_cons_zero, List.getElem_cons_succ, List.setIfInBounds_toArray, List.set_cons_zero, List.set_cons_succ]
      refine wpAnyH_take (i := 4) (oi := _) (v := ?_) rfl (by kernel_rfl) (by kernel_rfl) (by kernel_rfl) (fun _ _ _ h => h) (Or.inl ⟨by rfl, ?_⟩) (by assumption) ?_
      rotate_left
      · (intro w hSw; (try dsimp only at hSw); go_simp <;> with_reducible rfl)
      try simp only [Act.put, List.getElem_toArray, List.getElem_cons_zero, List.getElem_cons_succ, List.setIfInBounds_toArray, List.set_cons_zero, List.set_cons_succ]
      refine wpAnyH_take (i := 5) (oi := _) (v := ?_) rfl (by kernel_rfl) (by kernel_rfl) (by kernel_rfl) (fun _ _ _ h => h) (Or.inl ⟨by rfl, ?_⟩) (by assumption) ?_
      rotate_left
      · (intro w hSw; (try dsimp only at hSw); go_simp <;> with_reducible rfl)
      try simp only [Act.put, List.getElem_toArray, List.getElem_cons_zero, List.getElem_cons_succ, List.setIfInBounds_toArray, List.set_cons_zero, List.set_cons_succ]
      refine wpAnyH_take (i := 6) (oi := _) (v := ?_) rfl (by kernel_rfl) (by kernel_rfl) (by kernel_rfl) (fun _ _ _ h => h) (Or.inl ⟨by rfl, ?_⟩) (by assumption) ?_
      rotate_left
      · (intro w hSw; (try dsimp only at hSw); go_simp <;> with_reducible rfl)
      try simp only [Act.put, List.getElem_toArray, List.getElem_cons_zero, List.getElem_cons_succ, List.setIfInBounds_toArray, List.set_cons_zero, List.set_cons_succ]
      refine wpAnyH_take (i := 7) (oi := _) (v := ?_) rfl (by kernel_rfl) (by kernel_rfl) (by kernel_rfl) (fun _ _ _ h => h) (Or.inl ⟨by rfl, ?_⟩) (by assumption) ?_
      rotate_left
      · (intro w hSw; (try dsimp only at hSw); go_simp <;> with_reducible rfl)
      try simp only [Act.put, List.getElem_toArray, List.getElem_cons_zero, List.getElem_cons_succ, List.setIfInBounds_toArray, List.set_cons_zero, List.set_cons_succ]
      refine wpAnyH_take (i := 8) (oi := _) (v := ?_) rfl (by kernel_rfl) (by kernel_rfl) (by kernel_rfl) (fun _ _ _ h => h) (Or.inl ⟨by rfl, ?_⟩) (by assumption) ?_
      rotate_left
      · (intro w hSw; (try dsimp only at hSw); go_simp <;> with_reducible rfl)
      try simp only [Act.put, List.getElem_toArray, List.getElem_cons_zero, List.getElem_cons_succ, List.setIfInBounds_toArray, List.set_cons_zero, List.set_cons_succ]
      refine wpAnyH_take (i := 9) (oi := _) (v := ?_) rfl (by kernel_rfl) (by kernel_rfl) (by kernel_rfl) (fun _ _ _ h => h) (Or.inl ⟨by rfl, ?_⟩) (by assumption) ?_
      rotate_left
      · (intro w hSw; (try dsimp only at hSw); go_simp <;> with_reducible rfl)
      try simp only [Act.put, List.getElem_toArray, List.getElem_cons_zero, List.getElem_cons_succ, List.setIfInBounds_toArray, List.set_cons_zero, List.set_cons_succ]
      refine wpAnyH_take (i := 10) (oi := _) (v := ?_) rfl (by kernel_rfl) (by kernel_rfl) (by kernel_rfl) (fun _ _ _ h => h) (Or.inl ⟨by rfl, ?_⟩) (by assumption) ?_
      rotate_left
      · (intro w hSw; (try dsimp only at hSw); go_simp <;> with_reducible rfl)
      try simp only [Act.put, List.getElem_toArray, List.getElem_cons_zero, List.getElem_cons_succ, List.setIfInBounds_toArray, List.set_cons_zero, List.set_cons_succ]
      refine wpAnyH_take (i := 11) (oi := _) (v := ?_) rfl (by kernel_rfl) (by kernel_rfl) (by kernel_rfl) (fun _ _ _ h => h) (Or.inl ⟨by rfl, ?_⟩) (by assumption) ?_
      rotate_left
      · (intro w hSw; (try dsimp only at hSw); go_simp <;> with_reducible rfl)
      try simp only [Act.put, List.getElem_toArray, List.getElem_cons_zero, List.getElem_cons_succ, List.setIfInBounds_toArray, List.set_cons_zero, List.set_cons_succ]
      refine wpAnyH_take (i := 12) (oi := _) (v := ?_) rfl (by kernel_rfl) (by kernel_rfl) (by kernel_rfl) (fun _ _ _ h => h) (Or.inl ⟨by rfl, ?_⟩) (by assumption) ?_
      rotate_left
      · (intro w hSw; (try dsimp only at hSw); go_simp <;> with_reducible rfl)
      try simp only [Act.put, List.getElem_toArray, List.getElem_cons_zero, List.getElem_cons_succ, List.setIfInBounds_toArray, List.set_cons_zero, List.set_cons_succ]
      refine wpAnyH_take (i := 13) (oi := _) (v := ?_) rfl (by kernel_rfl) (by kernel_rfl) (by kernel_rfl) (fun _ _ _ h => h) (Or.inl ⟨by rfl, ?_⟩) (by assumption) ?_
      rotate_left
      · (intro w hSw; (try dsimp only at hSw); go_simp <;> with_reducible rfl)
      try simp only [Act.put, List.getElem_toArray, List.getElem_cons_zero, List.getElem_cons_succ, List.setIfInBounds_toArray, List.set_cons_zero, List.set_cons_succ]
      refine wpAnyH_take (i := 14) (oi := _) (v := ?_) rfl (by kernel_rfl) (by kernel_rfl) (by kernel_rfl) (fun _ _ _ h => h) (Or.inl ⟨by rfl, ?_⟩) (by assumption) ?_
      rotate_left
      · (intro w hSw; (try dsimp only at hSw); go_simp <;> with_reducible rfl)
      try simp only [Act.put, List.getElem_toArray, List.getElem_cons_zero, List.getElem_cons_succ, List.setIfInBounds_toArray, List.set_cons_zero, List.set_cons_succ]
      refine wpAnyH_take (i := 15) (oi := _) (v := ?_) rfl (by kernel_rfl) (by kernel_rfl) (by kernel_rfl) (fun _ _ _ h => h) (Or.inl ⟨by rfl, ?_⟩) (by assumption) ?_
      rotate_left
      · (intro w hSw; (try dsimp only at hSw); go_simp <;> with_reducible rfl)
      try simp only [Act.put, List.getElem_toArray, List.getElem_cons_zero, List.getElem_cons_succ, List.setIfInBounds_toArray, List.set_cons_zero, List.set_cons_succ]
      refine wpAnyH_take (i := 16) (oi := _) (v := ?_) rfl (by kernel_rfl) (by kernel_rfl) (by kernel_rfl) (fun _ _ _ h => h) (Or.inl ⟨by rfl, ?_⟩) (by assumption) ?_
      rotate_left
      · (intro w hSw; (try dsimp only at hSw); go_simp <;> with_reducible rfl)
      try simp only [Act.put, List.getElem_toArray, List.getElem_cons_zero, List.getElem_cons_succ, List.setIfInBounds_toArray, List.set_cons_zero, List.set_cons_succ]
      refine wpAnyH_take (i := 17) (oi := _) (v := ?_) rfl (by kernel_rfl) (by kernel_rfl) (by kernel_rfl) (fun _ _ _ h => h) (Or.inl ⟨by rfl, ?_⟩) (by assumption) ?_
      rotate_left
      · (intro w hSw; (try dsimp only at hSw); go_simp <;> with_reducible rfl)
      try simp only [Act.put, List.getElem_toArray, List.getElem_cons_zero, List.getElem_cons_succ, List.setIfInBounds_toArray, List.set_cons_zero, List.set_cons_succ]
      refine wpAnyH_take (i := 18) (oi := _) (v := ?_) rfl (by kernel_rfl) (by kernel_rfl) (by kernel_rfl) (fun _ _ _ h => h) (Or.inl ⟨by rfl, ?_⟩) (by assumption) ?_
      rotate_left
      · (intro w hSw; (try dsimp only at hSw); go_simp <;> with_reducible rfl)
      try simp only [Act.put, List.getElem_toArray, List.getElem_cons_zero, List.getElem_cons_succ, List.setIfInBounds_toArray, List.set_cons_zero, List.set_cons_succ]
      refine wpAnyH_take (i := 19) (oi := _) (v := ?_) rfl (by kernel_rfl) (by kernel_rfl) (by kernel_rfl) (fun _ _ _ h => h) (Or.inl ⟨by rfl, ?_⟩) (by assumption) ?_
      rotate_left
      · (intro w hSw; (try dsimp only at hSw); go_simp <;> with_reducible rfl)
      try simp only [Act.put, List.getElem_toArray, List.getElem_cons_zero, List.getElem_cons_succ, List.setIfInBounds_toArray, List.set_cons_zero, List.set_cons_succ]
      refine wpAnyH_take (i := 20) (oi := _) (v := ?_) rfl (by kernel_rfl) (by kernel_rfl) (by kernel_rfl) (fun _ _ _ h => h) (Or.inl ⟨by rfl, ?_⟩) (by assumption) ?_
      rotate_left
      · (intro w hSw; (try dsimp only at hSw); go_simp <;> with_reducible rfl)
      try simp only [Act.put, List.getElem_toArray, List.getElem_cons_zero, List.getElem_cons_succ, List.setIfInBounds_toArray, List.set_cons_zero, List.set_cons_succ]
      refine wpAnyH_ready (rs := [21]) (by kernel_rfl) (by simp) ?_
      refine AllReadyH.cons (o := _) rfl (fun K hK => ?_) AllReadyH.nil
      clear hHeld
      go_simp
      try go_wp2_with fail
      refine hK.out _ _ (CC.out _ (HK.out.drew.alloc _)) (fun hHeld => ?_)
      clear hK K
      try simp only [Act.put, List.getElem_toArray, List.getElem_cons_zero, List.getElem_cons_succ, List.setIfInBounds_toArray, List.set_cons_zero, List.set_cons_succ]
      refine wpAnyH_ready (rs := [22]) (by kernel_rfl) (by simp) ?_
      refine AllReadyH.cons (o := _) rfl (fun K hK => ?_) AllReadyH.nil
      clear hHeld
      refine step_app (f := recVal) rfl (.tmp 12) (.tmp 33) w.heap.size 22 44 rfl i0 _ 4 32 Try.underlying22 hi hz0 hz1 hz2 rfl (by omega) (fun _ => rfl) rec_one _ k (((quads xs).take k).flatMap recVal) rfl (HO.out.kept ((Kp.refl wr none).drew.alloc (Obj.cells #[.int .i64 a0, .int .i64 a1, .int .i64 a2, .int .i64 a3] 44)) (by cases u3.ownBlock <;> simp)) _ [(⟨a0, a1, a2, a3⟩ : Rc.Rect)] rfl (rects_one wr.drew a0 a1 a2 a3) (by unfold maxLen; simp; omega) (by simp; omega) (HK.out.drew.alloc (Obj.cells #[.int .i64 a0, .int .i64 a1, .int .i64 a2, .int .i64 a3] 44)).size ?_
      intro v5 w5 ho5 hg hb5
      have KA := Lib.hid (Kp.row (HK.out.drew.alloc (Obj.cells #[.int .i64 a0, .int .i64 a1, .int .i64 a2, .int .i64 a3] 44)) hg (fun j hj => (HO.out.lt j hj).1))
      have HR := Lib.hid (HST.out v5 w5 ho5 KA.out)
      clear ho5 hg hb5
      try simp only [Act.put, List.getElem_toArray, List.getElem_cons_zero, List.getElem_cons_succ, List.setIfInBounds_toArray, List.set_cons_zero, List.set_cons_succ]
      refine hK _ _ (CC.out _ KA.out) (fun hHeld => ?_)
      clear hK K
      refine wpAnyH_ready (rs := [23]) (by kernel_rfl) (by simp) ?_
      refine AllReadyH.cons (o := _) rfl (fun K hK => ?_) AllReadyH.nil
      clear hHeld
      go_simp
      try go_wp2_with fail
      refine hK.out _ _ (CC.out _ KA.out) (fun hHeld => ?_)
      clear hK K hHeld
      refine wpAnyH_done (by kernel_rfl) ?_ _
      go_wp2_with fail
      go_roundw
      case rel => exact HR.out
      case measure => simp [intOf]; omega
    · have hk3 : ¬ (p : Int) + 3 < (xs.length : Int) := by omega
      have hple : (p : Int) ≤ 1000 := by omega
      clear hwp3
      have HE : Hid (OwnRects w (Ending.returned u3) wr fin) := Lib.hid (by
        have e : (quads xs).take k = fin := by
          rw [← HFIN.out]
          exact List.take_of_length_le (by have := quads_length xs; omega)
        have hln : fin.length = k := by rw [← HFIN.out]; have := quads_length xs; omega
        refine ⟨u3, rfl, ?_, HK.out⟩
        have := HO.out
        rw [e] at this
        rw [hln]
        exact this)
      clear hpk
      go_wp2_with fail
      go_ret
      exact HE.out

set_option maxHeartbeats 1000000 in
/-- is, where the list is as it should be. -/
theorem is_any (v u : Value) (a : List Rc.Rect) (xs : List Int) (w : World) (ha : IsRects w v a) (hx : IsInts w u xs) (hl : xs.length ≤ 1000) (he : quads xs = a) :
    Calls Try.prog 33 #[v, u] w fun E w' => E = .returned (.bool true) ∧ Kp w w' none := by
  have C := list_any u xs w hx hl
  have hal : a.length ≤ 1000 := by rw [← he]; have := quads_length xs; omega
  rw [he] at C
  have HA := Lib.hid ha
  clear ha hx he
  go_enter Try.func33, Try.ntmps33
  go_wp2_with fail
  refine C.mono ?_
  rintro E w1 ⟨q, rfl, ho, k1⟩
  have D := sameR_any v q a w1 (HA.out.keep k1) (isList_own (m := 4) (f := recVal) (fun _ => rfl) ho) (by omega)
  have K1 := Lib.hid k1
  clear ho k1
  go_wp2_with fail
  refine D.mono ?_
  rintro E w2 ⟨rfl, n, rfl⟩
  go_wp2_with fail
  go_ret
  first | exact ⟨rfl, K1.out.drewN n⟩ | exact K1.out.drewN n

end Go.Proofs.Ytpakiabnhdoijaa

namespace Go.Proofs.Ytpakiabnhdoijaa
open Go.RowKit

theorem liesAt_take {α : Type} {m : Nat} {f : α → List Value} {w : World} {ao : Option Addr} {cap : Nat} {xs : List α} (h : LiesAt m f w ao cap xs) (n : Nat) : LiesAt m f w ao cap (xs.take n) := fun k hk => by
  have hk2 : k < xs.length := by rw [List.length_take] at hk; omega
  obtain ⟨b, off, e, hb, hc, hr⟩ := h k hk2
  refine ⟨b, off, e, hb, by rw [List.length_take]; omega, fun j hj => ?_⟩
  have e2 : (xs.take n)[k] = xs[k] := List.getElem_take
  simp only [e2] at hj ⊢
  exact hr j hj

set_option maxHeartbeats 2000000 in
theorem few_any (v : Value) (xs : List Rc.Rect) (w : World) (hx : IsRects w v xs) :
    Calls Try.prog 10 #[v] w fun E w' => ∃ u, E = .returned u ∧ IsRects w u (xs.take 12) ∧ w = w' := by
  obtain ⟨ao, cap, rfl, fx⟩ := hx.form
  have HT : Hid (IsRects w (.slice ao (xs.take 12).length cap) (xs.take 12)) := Lib.hid (liesAt_take fx 12).list
  have hcap : 0 < xs.length → xs.length ≤ cap := fun h => by obtain ⟨_, _, _, _, hc, _⟩ := fx 0 h; exact hc
  rw [List.length_take] at HT
  obtain ⟨n, hn⟩ : ∃ n, xs.length = n := ⟨_, rfl⟩
  rw [hn] at HT hcap ⊢
  clear fx hx
  have hn0 : (0 : Int) ≤ (n : Int) := Int.natCast_nonneg _
  by_cases h12 : n ≤ 12
  · have e : min 12 n = n := by omega
    rw [e] at HT
    have h12i : (n : Int) ≤ 12 := by omega
    have hmin : min (n : Int) 12 = (n : Int) := by omega
    have hcc : n ≤ cap := by
      rcases Nat.eq_zero_or_pos n with h | h
      · omega
      · exact hcap h
    have hci : (n : Int) ≤ (cap : Int) := by omega
    clear hcap
    go_enter Try.func10, Try.ntmps10
    go_wp2_with fail
    all_goals
      go_ret
      exact ⟨_, rfl, HT.out, rfl⟩
  · have e : min 12 n = 12 := by omega
    rw [e] at HT
    have h12i : ¬ (n : Int) ≤ 12 := by omega
    have hmin : min (n : Int) 12 = 12 := by omega
    have hcc : 12 ≤ cap := Nat.le_trans (by omega) (hcap (by omega))
    have hci : (12 : Int) ≤ (cap : Int) := by omega
    clear hcap
    go_enter Try.func10, Try.ntmps10
    go_wp2_with fail
    all_goals
      go_ret
      exact ⟨_, rfl, HT.out, rfl⟩

end Go.Proofs.Ytpakiabnhdoijaa
