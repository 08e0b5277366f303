/- The ranges of a row, as the reference reckons them (row). Condition: at most 4096 rectangles in each list. -/
import Derived.Test.YtpakiabnhdoijaaFo
import Derived.Test.YtpakiabnhdoijaaRa
namespace Go.Proofs.Ytpakiabnhdoijaa
open Go.RowKit

/-- The call returns ranges that it has made. -/
def OwnSpans (w : World) (E : Ending) (w' : World) (xs : List Rc.Span) : Prop := ∃ u, E = .returned u ∧ w'.ownsRow w.heap.size 24 2 u xs.length (xs.flatMap spanVal) ∧ Kp w w' none
theorem own_mono {w : World} {base base' : Nat} {e : TypeId} {size : Nat} {v : Value} {n : Nat} {xs : List Value} (h : w.ownsRow base e size v n xs) (hb : base' ≤ base) : w.ownsRow base' e size v n xs := by
  refine ⟨h.1, ?_⟩
  rcases h.2 with h | ⟨g, cap, cur, h1, h2, h3⟩
  · exact .inl h
  · exact .inr ⟨g, cap, cur, h1, Nat.le_trans hb h2, h3⟩
/-- The loops over the rectangles. -/
def XRel (W : World) (A : List Rc.Rect) (s : List Int) (v i : Value) (wr : World) : Prop := ∃ k : Nat, k ≤ A.length ∧ i = .int .i64 k ∧ IsInts wr v (xfold (A.take k) s) ∧ Kp W wr none
theorem xrel_step {W wr : World} {A : List Rc.Rect} {s : List Int} {v : Value} {k : Nat} (h : k < A.length) (hv : IsInts wr v (Rc.with_ (Rc.with_ (xfold (A.take k) s) A[k].x0) A[k].x1)) (hk : Kp W wr none) : XRel W A s v (.int .i64 (k + 1)) wr :=
  ⟨k + 1, h, by go_num, by rw [xfold_step A s k h]; exact hv, hk⟩

/-- The loop over the numbers. -/
def FRel (W : World) (g : Int → Bool) (xs : List Int) (fin : List Rc.Span) (v i : Value) (wr : World) : Prop := ∃ (k : Nat) (out : List Rc.Span), k ≤ xs.length ∧ i = .int .i64 k ∧ out.length ≤ k ∧ Rc.fill g (xs.drop k) out = fin ∧ wr.ownsRow W.heap.size 24 2 v out.length (out.flatMap spanVal) ∧ Kp W wr none
theorem fill_two {g : Int → Bool} {xs : List Int} {out : List Rc.Span} {k : Nat} (h : k + 1 < xs.length) (hs : xs.Pairwise (· < ·)) : Rc.fill g (xs.drop k) out = Rc.fill g (xs.drop (k + 1)) (if g xs[k] = true then Rc.push out xs[k] xs[k + 1] else out) := by
  rw [List.drop_eq_getElem_cons (by omega : k < xs.length), List.drop_eq_getElem_cons h]
  have hne : xs[k] ≠ xs[k + 1] := by
    have := List.pairwise_iff_getElem.1 hs k (k + 1) (by omega) h (by omega)
    omega
  simp only [Rc.fill, ne_eq, hne, not_false_eq_true, true_and]
theorem fill_done {g : Int → Bool} {xs : List Int} {out : List Rc.Span} {k : Nat} (h : ¬ k + 1 < xs.length) : Rc.fill g (xs.drop k) out = out := by
  by_cases hk : k < xs.length
  · rw [List.drop_eq_getElem_cons hk, List.drop_of_length_le (by omega)]; rfl
  · rw [List.drop_of_length_le (by omega)]; rfl
theorem push_new {out : List Rc.Span} {x y : Int} (h : ∀ s ∈ out.getLast?, s.2 ≠ x) : Rc.push out x y = out ++ [(x, y)] := by
  unfold Rc.push
  cases e : out.getLast? with
  | none => rw [List.getLast?_eq_none_iff.1 e]; rfl
  | some s => simp only [if_neg (h s (by rw [e]; rfl))]
theorem push_on {out : List Rc.Span} {s : Rc.Span} (y : Int) : Rc.push (out ++ [s]) s.2 y = out ++ [(s.1, y)] := by
  unfold Rc.push
  rw [List.getLast?_concat]
  simp
theorem push_len (out : List Rc.Span) (x y : Int) : (Rc.push out x y).length ≤ out.length + 1 := Rc.push_len out x y
theorem wrap_nat {n : Nat} (h : n ≤ 1000000000) : IntKind.i64.wrap (n : Int) = (n : Int) := by
  rw [IntKind.wrap_i64]; omega
theorem span_one : ∀ x : Rc.Span, ∀ u ∈ spanVal x, u.oneCell' = true := by
  intro x u hu
  simp [spanVal] at hu
  rcases hu with rfl | rfl <;> rfl
theorem spans_one (w : World) (x y : Int) : IsSpans (w.alloc (Obj.cells #[.int .i64 x, .int .i64 y] 24)) (.slice (some ⟨w.heap.size, 0, none⟩) 1 1) [(x, y)] := by
  refine .inr ⟨w.heap.size, 0, 1, rfl, by simp, by simp, fun k hk j hj => ?_⟩
  simp at hk; subst hk
  simp only [Nat.zero_mul, Nat.zero_add, List.getElem_cons_zero] at hj ⊢
  have h := heap_alloc_new w (Obj.cells #[.int .i64 x, .int .i64 y] 24)
  rw [World.cell?]
  simp only [h]
  simp [spanVal] at hj
  have : j = 0 ∨ j = 1 := by omega
  rcases this with rfl | rfl <;> rfl
theorem own_push {w : World} {base : Nat} {v : Value} {out : List Rc.Span} {n : Nat} {s : Rc.Span} (h : w.ownsRow base 24 2 v (n + [s].length) (out.flatMap spanVal ++ [s].flatMap spanVal)) (hn : n = out.length := by simp) : w.ownsRow base 24 2 v (out ++ [s]).length ((out ++ [s]).flatMap spanVal) := by
  subst hn
  rw [List.length_append, List.flatMap_append]
  exact h
/-- What is owned is a slice of its own length. -/
theorem own_form {w : World} {base e size n : Nat} {v : Value} {xs : List Value} (h : w.ownsRow base e size v n xs) : ∃ bo cap, v = .slice bo n cap ∧ (0 < n → ∃ g, bo = some ⟨g, 0, none⟩) := by
  rcases h.2 with ⟨rfl, h0⟩ | ⟨g, cap, cur, rfl, _, _, _, _⟩
  · subst h0; exact ⟨none, 0, rfl, fun h => by omega⟩
  · exact ⟨_, cap, rfl, fun _ => ⟨g, rfl⟩⟩

set_option maxHeartbeats 8000000 in
set_option maxRecDepth 100000 in
theorem rrow_core (n : Int) (hn : n = 1 ∨ n = 2 ∨ n = 3) (va vb : Value) (a b A B : List Rc.Rect) (y : Int) (w : World) (ha : IsRects w va a) (hb : IsRects w vb b) (hla : a.length ≤ 4096) (hlb : b.length ≤ 4096) (hA : Rc.at_ a y = A) (hB : Rc.at_ b y = B) (hlA : A.length ≤ 4096) (hlB : B.length ≤ 4096) :
    Calls Try.prog 49 #[.int .i64 n, va, vb, .int .i64 y] w fun E w' => OwnSpans w E w' (Rc.fill (Rc.wit (kindOf n) A B y) (xfold B (xfold A [])) []) := by
  have HB0 := Lib.hid hb
  have AT1 := at_any va a y w ha (by omega)
  rw [hA] at AT1
  have AT2 : Hid (∀ w1, Kp w w1 none → Calls Try.prog 56 #[vb, .int .i64 y] w1 fun E w' => ∃ u, E = .returned u ∧ IsRects w' u B ∧ Kp w1 w' none) := Lib.hid fun w1 k1 => by
    have := at_any vb b y w1 (hb.keep k1) (by omega)
    rw [hB] at this
    exact this
  clear ha hb hA hB
  obtain ⟨fin, hfin⟩ : ∃ fin, Rc.fill (Rc.wit (kindOf n) A B y) (xfold B (xfold A [])) [] = fin := ⟨_, rfl⟩
  rw [hfin]
  have hsort : (xfold B (xfold A [])).Pairwise (· < ·) := (Rc.xs_fold B _ (Rc.xs_fold A [] List.Pairwise.nil).1).1
  have HSORT := Lib.hid hsort
  have HFIN := Lib.hid hfin
  clear hfin hsort
  obtain ⟨i0, hi, hz0, hz1, hz2⟩ := info_parts infoSpan
  go_enter Try.func49, Try.ntmps49
  go_wp2_with fail
  refine AT1.mono ?_
  rintro E w1 ⟨ua, rfl, hua, k1⟩
  have HUA := Lib.hid hua
  have K1 := Lib.hid k1
  clear hua k1
  go_wp2_with fail
  refine (AT2.out w1 K1.out).mono ?_
  rintro E w2 ⟨ub, rfl, hub, k2⟩
  have HUA2 : Hid (IsRects w2 ua A) := Lib.hid (HUA.out.keep k2)
  have HUB2 := Lib.hid hub
  have K2 := Lib.hid (K1.out.trans k2)
  clear hub k2 HUA K1 AT2 HB0 hla hlb
  obtain ⟨aoa, capa, rfl, fa⟩ := HUA2.out.form
  obtain ⟨aob, capb, rfl, fb⟩ := HUB2.out.form
  have FA := Lib.hid fa
  have FB := Lib.hid fb
  clear fa fb
  go_wp2_with fail
  go_loopw [9, 10] (fun v i wr => XRel w2 A [] v i wr) (fun _ i _ => A.length - (intOf i).toNat)
  case atStart => exact ⟨0, Nat.zero_le _, rfl, .inl ⟨_, _, rfl, rfl⟩, Kp.refl _ _⟩
  case round =>
    obtain ⟨k, hk, rfl, hv, hK⟩ := hrel
    have HV := Lib.hid hv
    have HK := Lib.hid hK
    clear hv hK
    have hk0 : (0 : Int) ≤ (k : Int) := Int.natCast_nonneg _
    by_cases hlt : k < A.length
    · obtain ⟨b, off, rfl, hb, hc, hr⟩ := FA.out k hlt
      have hk1 : (k : Int) < (A.length : Int) := by omega
      obtain ⟨r, hx⟩ : ∃ r, A[k] = r := ⟨_, rfl⟩
      have C0 : Hid (∀ W, Kp w2 W none → W.cell? ⟨b, off + k * 4, none⟩ = some (.int .i64 r.x0) ∧ W.cell? ⟨b, off + k * 4 + 2, none⟩ = some (.int .i64 r.x1)) := Lib.hid fun W kW => by
        subst hx
        exact ⟨(kW.below.cell (p := ⟨b, off + k * 4 + 0, none⟩) hb).trans (hr 0 (by simp [recVal])), (kW.below.cell (p := ⟨b, off + k * 4 + 2, none⟩) hb).trans (hr 2 (by simp [recVal]))⟩
      have HST : Hid (∀ u wq, IsInts wq u (Rc.with_ (Rc.with_ (xfold (A.take k) []) r.x0) r.x1) → Kp w2 wq none → XRel w2 A [] u (.int .i64 (k + 1)) wq) := Lib.hid fun u wq h1 h2 => xrel_step hlt (by rw [hx]; exact h1) h2
      have hxl := xfold_len A [] k hk
      try simp only [List.length_nil, Nat.zero_add] at hxl
      clear hx hr
      obtain ⟨q0, hq0⟩ : ∃ q, r.x0 = q := ⟨_, rfl⟩
      obtain ⟨q1, hq1⟩ : ∃ q, r.x1 = q := ⟨_, rfl⟩
      rw [hq0, hq1] at C0 HST
      clear hq0 hq1
      generalize xfold (A.take k) [] = xs at *
      have c0 := C0.out wr HK.out
      go_wp2_with fail
      refine wp_region_held_drew (S := fun w1 => w1.cell? ⟨b, off + k * 4, none⟩ = some (.int .i64 q0) ∧ w1.cell? ⟨b, off + k * 4 + 2, none⟩ = some (.int .i64 q1)) (by kernel_rfl) ?_ (fun hHeld => ?_)
      · exact c0
      refine wpAnyH_take (i := 0) (oi := _) (v := ?_) rfl (by kernel_rfl) (by kernel_rfl) (by kernel_rfl) (fun _ _ _ h => h) (Or.inl ⟨by rfl, ?_⟩) (by assumption) ?_
      rotate_left
      · (intro w hSw; (try dsimp only at hSw); go_simp <;> with_reducible rfl)
      try simp only [Act.put, List.getElem_toArray, List.getElem_cons_zero, List.setIfInBounds_toArray, List.set_cons_zero, List.set_cons_succ]
      refine wpAnyH_take (i := 1) (oi := _) (v := ?_) rfl (by kernel_rfl) (by kernel_rfl) (by kernel_rfl) (fun _ _ _ h => h) (Or.inl ⟨by rfl, ?_⟩) (by assumption) ?_
      rotate_left
      · (intro w hSw; (try dsimp only at hSw); go_simp <;> with_reducible rfl)
      try simp only [Act.put, List.getElem_toArray, List.getElem_cons_zero, List.getElem_cons_succ, List.setIfInBounds_toArray, List.set_cons_zero, List.set_cons_succ]
      refine wpAnyH_take (i := 2) (oi := _) (v := ?_) rfl (by kernel_rfl) (by kernel_rfl) (by kernel_rfl) (fun _ _ _ h => h) (Or.inl ⟨by rfl, ?_⟩) (by assumption) ?_
      rotate_left
      · (intro w hSw; (try dsimp only at hSw); go_simp <;> with_reducible rfl)
      try simp only [Act.put, List.getElem_toArray, List.getElem_cons_zero, List.getElem_cons_succ, List.setIfInBounds_toArray, List.set_cons_zero, List.set_cons_succ]
      refine wpAnyH_take (i := 3) (oi := _) (v := ?_) rfl (by kernel_rfl) (by kernel_rfl) (by kernel_rfl) (fun _ _ _ h => h) (Or.inl ⟨by rfl, ?_⟩) (by assumption) ?_
      rotate_left
      · (intro w hSw; (try dsimp only at hSw); go_simp <;> with_reducible rfl)
      try simp only [Act.put, List.getElem_toArray, List.getElem_cons_zero, List.getElem_cons_succ, List.setIfInBounds_toArray, List.set_cons_zero, List.set_cons_succ]
      refine wpAnyH_take (i := 4) (oi := _) (v := ?_) rfl (by kernel_rfl) (by kernel_rfl) (by kernel_rfl) (fun _ _ _ h => h) (Or.inl ⟨by rfl, ?_⟩) (by assumption) ?_
      rotate_left
      · (intro w hSw; (try dsimp only at hSw); go_simp <;> with_reducible rfl)
      try simp only [Act.put, List.getElem_toArray, List.getElem_cons_zero, List.getElem_cons_succ, List.setIfInBounds_toArray, List.set_cons_zero, List.set_cons_succ]
      refine wpAnyH_take (i := 5) (oi := _) (v := ?_) rfl (by kernel_rfl) (by kernel_rfl) (by kernel_rfl) (fun _ _ _ h => h) (Or.inl ⟨by rfl, ?_⟩) (by assumption) ?_
      rotate_left
      · (intro w hSw; (try dsimp only at hSw); go_simp <;> with_reducible rfl)
      try simp only [Act.put, List.getElem_toArray, List.getElem_cons_zero, List.getElem_cons_succ, List.setIfInBounds_toArray, List.set_cons_zero, List.set_cons_succ]
      refine wpAnyH_take (i := 7) (oi := _) (v := ?_) rfl (by kernel_rfl) (by kernel_rfl) (by kernel_rfl) (fun _ _ _ h => h) (Or.inl ⟨by rfl, ?_⟩) (by assumption) ?_
      rotate_left
      · (intro w hSw; (try dsimp only at hSw); go_simp <;> with_reducible rfl)
      try simp only [Act.put, List.getElem_toArray, List.getElem_cons_zero, List.getElem_cons_succ, List.setIfInBounds_toArray, List.set_cons_zero, List.set_cons_succ]
      refine wpAnyH_take (i := 8) (oi := _) (v := ?_) rfl (by kernel_rfl) (by kernel_rfl) (by kernel_rfl) (fun _ _ _ h => h) (Or.inl ⟨by rfl, ?_⟩) (by assumption) ?_
      rotate_left
      · (intro w hSw; (try dsimp only at hSw); go_simp <;> with_reducible rfl)
      try simp only [Act.put, List.getElem_toArray, List.getElem_cons_zero, List.getElem_cons_succ, List.setIfInBounds_toArray, List.set_cons_zero, List.set_cons_succ]
      refine wpAnyH_take (i := 9) (oi := _) (v := ?_) rfl (by kernel_rfl) (by kernel_rfl) (by kernel_rfl) (fun _ _ _ h => h) (Or.inl ⟨by rfl, ?_⟩) (by assumption) ?_
      rotate_left
      · (intro w hSw; (try dsimp only at hSw); go_simp <;> with_reducible rfl)
      try simp only [Act.put, List.getElem_toArray, List.getElem_cons_zero, List.getElem_cons_succ, List.setIfInBounds_toArray, List.set_cons_zero, List.set_cons_succ]
      refine wpAnyH_take (i := 10) (oi := _) (v := ?_) rfl (by kernel_rfl) (by kernel_rfl) (by kernel_rfl) (fun _ _ _ h => h) (Or.inl ⟨by rfl, ?_⟩) (by assumption) ?_
      rotate_left
      · (intro w hSw; (try dsimp only at hSw); go_simp <;> with_reducible rfl)
      try simp only [Act.put, List.getElem_toArray, List.getElem_cons_zero, List.getElem_cons_succ, List.setIfInBounds_toArray, List.set_cons_zero, List.set_cons_succ]
      refine wpAnyH_take (i := 11) (oi := _) (v := ?_) rfl (by kernel_rfl) (by kernel_rfl) (by kernel_rfl) (fun _ _ _ h => h) (Or.inl ⟨by rfl, ?_⟩) (by assumption) ?_
      rotate_left
      · (intro w hSw; (try dsimp only at hSw); go_simp <;> with_reducible rfl)
      try simp only [Act.put, List.getElem_toArray, List.getElem_cons_zero, List.getElem_cons_succ, List.setIfInBounds_toArray, List.set_cons_zero, List.set_cons_succ]
      refine wpAnyH_ready (rs := [6]) (by kernel_rfl) (by simp) ?_
      refine AllReadyH.cons (o := _) rfl (fun K hK => ?_) AllReadyH.nil
      clear hHeld
      go_simp
      refine (with_any _ xs q0 _ (HV.out.keep (Kp.refl wr none).drew) (by omega)).mono ?_
      rintro E w3 ⟨u3, rfl, h3, k3⟩
      have HV3 := Lib.hid h3
      have HK3 := Lib.hid (HK.out.drew.trans k3)
      have hxl3 := Rc.with_length xs q0
      clear h3 k3
      try go_wp2_with fail
      refine hK.out _ _ (C0.out _ HK3.out) (fun hHeld => ?_)
      clear hK K
      try simp only [Act.put, List.getElem_toArray, List.getElem_cons_zero, List.getElem_cons_succ, List.setIfInBounds_toArray, List.set_cons_zero, List.set_cons_succ]
      refine wpAnyH_ready (rs := [12]) (by kernel_rfl) (by simp) ?_
      refine AllReadyH.cons (o := _) rfl (fun K hK => ?_) AllReadyH.nil
      clear hHeld
      go_simp
      refine (with_any _ (Rc.with_ xs q0) q1 _ HV3.out (by omega)).mono ?_
      rintro E w4 ⟨u4, rfl, h4, k4⟩
      have HV4 := Lib.hid h4
      have HK4 := Lib.hid (HK3.out.trans k4)
      clear h4 k4
      try go_wp2_with fail
      refine hK.out _ _ (C0.out _ HK4.out) (fun hHeld => ?_)
      clear hK K
      try simp only [Act.put, List.getElem_toArray, List.getElem_cons_zero, List.getElem_cons_succ, List.setIfInBounds_toArray, List.set_cons_zero, List.set_cons_succ]
      refine wpAnyH_ready (rs := [13]) (by kernel_rfl) (by simp) ?_
      refine AllReadyH.cons (o := _) rfl (fun K hK => ?_) AllReadyH.nil
      clear hHeld
      go_simp
      try go_wp2_with fail
      refine hK.out _ _ (C0.out _ HK4.out) (fun hHeld => ?_)
      clear hK K hHeld
      refine wpAnyH_done (by kernel_rfl) ?_ _
      go_wp2_with fail
      go_roundw
      case rel => exact HST.out _ _ HV4.out HK4.out
      case measure => simp [intOf]; omega
    · have hkx : k = A.length := by omega
      have hk1 : ¬ (k : Int) < (A.length : Int) := by omega
      have HV1 : Hid (IsInts wr _ (xfold A [])) := Lib.hid (by have := HV.out; rw [hkx, List.take_length] at this; exact this)
      have KW1 := Lib.hid HK.out
      have hlx1 := xfold_len A [] A.length (Nat.le_refl _)
      rw [List.take_length] at hlx1
      clear HV HK hkx
      obtain ⟨XA, hXA⟩ : ∃ XA, xfold A [] = XA := ⟨_, rfl⟩
      rw [hXA] at HV1 hlx1 HFIN HSORT
      have hlX : XA.length ≤ 8192 := by simp at hlx1; omega
      clear hlx1 hXA
      go_wp2_with fail
      go_loopw [9, 11] (fun v i wr => XRel w2 B XA v i wr) (fun _ i _ => B.length - (intOf i).toNat)
      case atStart => exact ⟨0, Nat.zero_le _, rfl, HV1.out, KW1.out⟩
      case round =>
        obtain ⟨k, hk, rfl, hv, hK⟩ := hrel
        have HV := Lib.hid hv
        have HK := Lib.hid hK
        clear hv hK
        have hk0 : (0 : Int) ≤ (k : Int) := Int.natCast_nonneg _
        by_cases hlt : k < B.length
        · obtain ⟨b, off, rfl, hb, hc, hr⟩ := FB.out k hlt
          have hk1 : (k : Int) < (B.length : Int) := by omega
          obtain ⟨r, hx⟩ : ∃ r, B[k] = r := ⟨_, rfl⟩
          have C0 : Hid (∀ W, Kp w2 W none → W.cell? ⟨b, off + k * 4, none⟩ = some (.int .i64 r.x0) ∧ W.cell? ⟨b, off + k * 4 + 2, none⟩ = some (.int .i64 r.x1)) := Lib.hid fun W kW => by
            subst hx
            exact ⟨(kW.below.cell (p := ⟨b, off + k * 4 + 0, none⟩) hb).trans (hr 0 (by simp [recVal])), (kW.below.cell (p := ⟨b, off + k * 4 + 2, none⟩) hb).trans (hr 2 (by simp [recVal]))⟩
          have HST : Hid (∀ u wq, IsInts wq u (Rc.with_ (Rc.with_ (xfold (B.take k) XA) r.x0) r.x1) → Kp w2 wq none → XRel w2 B XA u (.int .i64 (k + 1)) wq) := Lib.hid fun u wq h1 h2 => xrel_step hlt (by rw [hx]; exact h1) h2
          have hxl := xfold_len B XA k hk
          try simp only [List.length_nil, Nat.zero_add] at hxl
          clear hx hr
          obtain ⟨q0, hq0⟩ : ∃ q, r.x0 = q := ⟨_, rfl⟩
          obtain ⟨q1, hq1⟩ : ∃ q, r.x1 = q := ⟨_, rfl⟩
          rw [hq0, hq1] at C0 HST
          clear hq0 hq1
          generalize xfold (B.take k) XA = xs at *
          have c0 := C0.out wr HK.out
          go_wp2_with fail
          refine wp_region_held_drew (S := fun w1 => w1.cell? ⟨b, off + k * 4, none⟩ = some (.int .i64 q0) ∧ w1.cell? ⟨b, off + k * 4 + 2, none⟩ = some (.int .i64 q1)) (by kernel_rfl) ?_ (fun hHeld => ?_)
          · exact c0
          refine wpAnyH_take (i := 0) (oi := _) (v := ?_) rfl (by kernel_rfl) (by kernel_rfl) (by kernel_rfl) (fun _ _ _ h => h) (Or.inl ⟨by rfl, ?_⟩) (by assumption) ?_
          rotate_left
          · (intro w hSw; (try dsimp only at hSw); go_simp <;> with_reducible rfl)
          try simp only [Act.put, List.getElem_toArray, List.getElem_cons_zero, List.setIfInBounds_toArray, List.set_cons_zero, List.set_cons_succ]
          refine wpAnyH_take (i := 1) (oi := _) (v := ?_) rfl (by kernel_rfl) (by kernel_rfl) (by kernel_rfl) (fun _ _ _ h => h) (Or.inl ⟨by rfl, ?_⟩) (by assumption) ?_
          rotate_left
          · (intro w hSw; (try dsimp only at hSw); go_simp <;> with_reducible rfl)
          try simp only [Act.put, List.getElem_toArray, List.getElem_cons_zero, List.getElem_cons_succ, List.setIfInBounds_toArray, List.set_cons_zero, List.set_cons_succ]
          refine wpAnyH_take (i := 2) (oi := _) (v := ?_) rfl (by kernel_rfl) (by kernel_rfl) (by kernel_rfl) (fun _ _ _ h => h) (Or.inl ⟨by rfl, ?_⟩) (by assumption) ?_
          rotate_left
          · (intro w hSw; (try dsimp only at hSw); go_simp <;> with_reducible rfl)
          try simp only [Act.put, List.getElem_toArray, List.getElem_cons_zero, List.getElem_cons_succ, List.setIfInBounds_toArray, List.set_cons_zero, List.set_cons_succ]
          refine wpAnyH_take (i := 3) (oi := _) (v := ?_) rfl (by kernel_rfl) (by kernel_rfl) (by kernel_rfl) (fun _ _ _ h => h) (Or.inl ⟨by rfl, ?_⟩) (by assumption) ?_
          rotate_left
          · (intro w hSw; (try dsimp only at hSw); go_simp <;> with_reducible rfl)
          try simp only [Act.put, List.getElem_toArray, List.getElem_cons_zero, List.getElem_cons_succ, List.setIfInBounds_toArray, List.set_cons_zero, List.set_cons_succ]
          refine wpAnyH_take (i := 4) (oi := _) (v := ?_) rfl (by kernel_rfl) (by kernel_rfl) (by kernel_rfl) (fun _ _ _ h => h) (Or.inl ⟨by rfl, ?_⟩) (by assumption) ?_
          rotate_left
          · (intro w hSw; (try dsimp only at hSw); go_simp <;> with_reducible rfl)
          try simp only [Act.put, List.getElem_toArray, List.getElem_cons_zero, List.getElem_cons_succ, List.setIfInBounds_toArray, List.set_cons_zero, List.set_cons_succ]
          refine wpAnyH_take (i := 5) (oi := _) (v := ?_) rfl (by kernel_rfl) (by kernel_rfl) (by kernel_rfl) (fun _ _ _ h => h) (Or.inl ⟨by rfl, ?_⟩) (by assumption) ?_
          rotate_left
          · (intro w hSw; (try dsimp only at hSw); go_simp <;> with_reducible rfl)
          try simp only [Act.put, List.getElem_toArray, List.getElem_cons_zero, List.getElem_cons_succ, List.setIfInBounds_toArray, List.set_cons_zero, List.set_cons_succ]
          refine wpAnyH_take (i := 7) (oi := _) (v := ?_) rfl (by kernel_rfl) (by kernel_rfl) (by kernel_rfl) (fun _ _ _ h => h) (Or.inl ⟨by rfl, ?_⟩) (by assumption) ?_
          rotate_left
          · (intro w hSw; (try dsimp only at hSw); go_simp <;> with_reducible rfl)
          try simp only [Act.put, List.getElem_toArray, List.getElem_cons_zero, List.getElem_cons_succ, List.setIfInBounds_toArray, List.set_cons_zero, List.set_cons_succ]
          refine wpAnyH_take (i := 8) (oi := _) (v := ?_) rfl (by kernel_rfl) (by kernel_rfl) (by kernel_rfl) (fun _ _ _ h => h) (Or.inl ⟨by rfl, ?_⟩) (by assumption) ?_
          rotate_left
          · (intro w hSw; (try dsimp only at hSw); go_simp <;> with_reducible rfl)
          try simp only [Act.put, List.getElem_toArray, List.getElem_cons_zero, List.getElem_cons_succ, List.setIfInBounds_toArray, List.set_cons_zero, List.set_cons_succ]
          refine wpAnyH_take (i := 9) (oi := _) (v := ?_) rfl (by kernel_rfl) (by kernel_rfl) (by kernel_rfl) (fun _ _ _ h => h) (Or.inl ⟨by rfl, ?_⟩) (by assumption) ?_
          rotate_left
          · (intro w hSw; (try dsimp only at hSw); go_simp <;> with_reducible rfl)
          try simp only [Act.put, List.getElem_toArray, List.getElem_cons_zero, List.getElem_cons_succ, List.setIfInBounds_toArray, List.set_cons_zero, List.set_cons_succ]
          refine wpAnyH_take (i := 10) (oi := _) (v := ?_) rfl (by kernel_rfl) (by kernel_rfl) (by kernel_rfl) (fun _ _ _ h => h) (Or.inl ⟨by rfl, ?_⟩) (by assumption) ?_
          rotate_left
          · (intro w hSw; (try dsimp only at hSw); go_simp <;> with_reducible rfl)
          try simp only [Act.put, List.getElem_toArray, List.getElem_cons_zero, List.getElem_cons_succ, List.setIfInBounds_toArray, List.set_cons_zero, List.set_cons_succ]
          refine wpAnyH_take (i := 11) (oi := _) (v := ?_) rfl (by kernel_rfl) (by kernel_rfl) (by kernel_rfl) (fun _ _ _ h => h) (Or.inl ⟨by rfl, ?_⟩) (by assumption) ?_
          rotate_left
          · (intro w hSw; (try dsimp only at hSw); go_simp <;> with_reducible rfl)
          try simp only [Act.put, List.getElem_toArray, List.getElem_cons_zero, List.getElem_cons_succ, List.setIfInBounds_toArray, List.set_cons_zero, List.set_cons_succ]
          refine wpAnyH_ready (rs := [6]) (by kernel_rfl) (by simp) ?_
          refine AllReadyH.cons (o := _) rfl (fun K hK => ?_) AllReadyH.nil
          clear hHeld
          go_simp
          refine (with_any _ xs q0 _ (HV.out.keep (Kp.refl wr none).drew) (by omega)).mono ?_
          rintro E w3 ⟨u3, rfl, h3, k3⟩
          have HV3 := Lib.hid h3
          have HK3 := Lib.hid (HK.out.drew.trans k3)
          have hxl3 := Rc.with_length xs q0
          clear h3 k3
          try go_wp2_with fail
          refine hK.out _ _ (C0.out _ HK3.out) (fun hHeld => ?_)
          clear hK K
          try simp only [Act.put, List.getElem_toArray, List.getElem_cons_zero, List.getElem_cons_succ, List.setIfInBounds_toArray, List.set_cons_zero, List.set_cons_succ]
          refine wpAnyH_ready (rs := [12]) (by kernel_rfl) (by simp) ?_
          refine AllReadyH.cons (o := _) rfl (fun K hK => ?_) AllReadyH.nil
          clear hHeld
          go_simp
          refine (with_any _ (Rc.with_ xs q0) q1 _ HV3.out (by omega)).mono ?_
          rintro E w4 ⟨u4, rfl, h4, k4⟩
          have HV4 := Lib.hid h4
          have HK4 := Lib.hid (HK3.out.trans k4)
          clear h4 k4
          try go_wp2_with fail
          refine hK.out _ _ (C0.out _ HK4.out) (fun hHeld => ?_)
          clear hK K
          try simp only [Act.put, List.getElem_toArray, List.getElem_cons_zero, List.getElem_cons_succ, List.setIfInBounds_toArray, List.set_cons_zero, List.set_cons_succ]
          refine wpAnyH_ready (rs := [13]) (by kernel_rfl) (by simp) ?_
          refine AllReadyH.cons (o := _) rfl (fun K hK => ?_) AllReadyH.nil
          clear hHeld
          go_simp
          try go_wp2_with fail
          refine hK.out _ _ (C0.out _ HK4.out) (fun hHeld => ?_)
          clear hK K hHeld
          refine wpAnyH_done (by kernel_rfl) ?_ _
          go_wp2_with fail
          go_roundw
          case rel => exact HST.out _ _ HV4.out HK4.out
          case measure => simp [intOf]; omega
        · have hkx : k = B.length := by omega
          have hk1 : ¬ (k : Int) < (B.length : Int) := by omega
          have HV2 : Hid (IsInts wr _ (xfold B XA)) := Lib.hid (by have := HV.out; rw [hkx, List.take_length] at this; exact this)
          have KW2 := Lib.hid HK.out
          have hlx2 := xfold_len B XA B.length (Nat.le_refl _)
          rw [List.take_length] at hlx2
          clear HV HK hkx
          obtain ⟨xs, hXB⟩ : ∃ xs, xfold B XA = xs := ⟨_, rfl⟩
          rw [hXB] at HV2 hlx2 HFIN HSORT
          have hlx : xs.length ≤ 16384 := by omega
          clear hlx2 hXB hlX HV1
          obtain ⟨aox, capx, rfl, fx⟩ := HV2.out.form
          have FX := Lib.hid fx
          clear fx HV2
          have HA3 := Lib.hid (HUA2.out.keep KW2.out)
          have HB3 := Lib.hid (HUB2.out.keep KW2.out)
          have K3 := Lib.hid (K2.out.trans KW2.out)
          obtain ⟨gg, hgg⟩ : ∃ g, Rc.wit (kindOf n) A B y = g := ⟨_, rfl⟩
          have HGG := Lib.hid hgg
          rw [hgg] at HFIN
          clear hgg HUA2 HUB2 FA FB KW2 KW1 K2
          rename World => W3
          go_wp2_with fail
          go_loopw [12, 13] (fun v i wq => FRel W3 gg xs fin v i wq) (fun _ i _ => xs.length - (intOf i).toNat)
          case atStart => exact ⟨0, [], Nat.zero_le _, rfl, Nat.le_refl _, HFIN.out, World.ownsRow_nil _ _ _ _, Kp.refl _ _⟩
          case round =>
            obtain ⟨k, out, hk, rfl, hol, hfill, hown, hK⟩ := hrel
            have HF := Lib.hid hfill
            have HO := Lib.hid hown
            have HK := Lib.hid hK
            have hWs := HK.out.size
            clear hfill hown hK
            have hk0 : (0 : Int) ≤ (k : Int) := Int.natCast_nonneg _
            have hk9 : (0 : Int) ≤ (k : Int) + 1 := by omega
            by_cases hlt : k + 1 < xs.length
            · have hk1 : (k : Int) + 1 < (xs.length : Int) := by omega
              have hwk : IntKind.i64.wrap ((k : Int) + 1) = (k : Int) + 1 := wrap_nat (n := k + 1) (by omega)
              have hk2 : (k : Int) < (xs.length : Int) := by omega
              obtain ⟨b, off, rfl, hb, hc, hr⟩ := FX.out.int k (by omega)
              obtain ⟨x, hx⟩ : ∃ x, xs[k] = x := ⟨_, rfl⟩
              obtain ⟨x1, hx1⟩ : ∃ x, xs[k + 1] = x := ⟨_, rfl⟩
              have C0 : Hid (∀ W, Kp W3 W none → W.cell? ⟨b, off + k, none⟩ = some (.int .i64 x) ∧ W.cell? ⟨b, off + (k + 1), none⟩ = some (.int .i64 x1)) := Lib.hid fun W kW => ⟨(kW.below.cell (p := ⟨b, off + k, none⟩) hb).trans (by rw [← hx]; exact hr k (by omega)), (kW.below.cell (p := ⟨b, off + (k + 1), none⟩) hb).trans (by rw [← hx1]; exact hr (k + 1) hlt)⟩
              have HF2 : Hid (Rc.fill gg (xs.drop (k + 1)) (if gg x = true then Rc.push out x x1 else out) = fin) := Lib.hid (by rw [← hx, ← hx1, ← fill_two hlt HSORT.out]; exact HF.out)
              have WN := within_any n hn _ _ A B x y wr (HA3.out.keep HK.out) (HB3.out.keep HK.out) (by omega) (by omega)
              rw [HGG.out] at WN
              clear hx hx1 hr HF
              have c0 := C0.out wr HK.out
              obtain ⟨bo, cap, rfl, hbo⟩ := own_form HO.out
              by_cases hg : gg x = true
              · rw [if_pos hg] at HF2
                rw [hg] at WN
                clear hg
                rcases Rc.snoc_cases out with rfl | ⟨out', s, rfl⟩
                · rw [push_new (by simp)] at HF2
                  go_wp2_with fail
                  refine WN.mono ?_
                  rintro E w5 ⟨rfl, rfl⟩
                  go_wp2_with fail
                  go_quiet (fail)
                  go_wp2_with fail
                  refine wp_region_held_drew (S := fun w1 => w1.cell? ⟨b, off + k, none⟩ = some (.int .i64 x) ∧ w1.cell? ⟨b, off + (k + 1), none⟩ = some (.int .i64 x1)) (by kernel_rfl) ?_ (fun hHeld => ?_)
                  · (simpa using c0)
                  refine wpAnyH_take (i := 0) (oi := _) (v := ?_) rfl (by kernel_rfl) (by kernel_rfl) (by kernel_rfl) (fun _ _ _ h => h) (Or.inl ⟨by rfl, ?_⟩) (by assumption) ?_
                  rotate_left
                  · (intro w hSw; (try dsimp only at hSw); go_simp <;> with_reducible rfl)
                  try simp only [Act.put, List.getElem_toArray, List.getElem_cons_zero, List.setIfInBounds_toArray, List.set_cons_zero, List.set_cons_succ]
                  refine wpAnyH_take (i := 1) (oi := _) (v := ?_) rfl (by kernel_rfl) (by kernel_rfl) (by kernel_rfl) (fun _ _ _ h => h) (Or.inl ⟨by rfl, ?_⟩) (by assumption) ?_
                  rotate_left
                  · (intro w hSw; (try dsimp only at hSw); go_simp <;> with_reducible rfl)
                  try simp only [Act.put, List.getElem_toArray, List.getElem_cons_zero, List.getElem_cons_succ, List.setIfInBounds_toArray, List.set_cons_zero, List.set_cons_succ]
                  refine wpAnyH_take (i := 2) (oi := _) (v := ?_) rfl (by kernel_rfl) (by kernel_rfl) (by kernel_rfl) (fun _ _ _ h => h) (Or.inl ⟨by rfl, ?_⟩) (by assumption) ?_
                  rotate_left
                  · (intro w hSw; (try dsimp only at hSw); go_simp <;> with_reducible rfl)
                  try simp only [Act.put, List.getElem_toArray, List.getElem_cons_zero, List.getElem_cons_succ, List.setIfInBounds_toArray, List.set_cons_zero, List.set_cons_succ]
                  refine wpAnyH_take (i := 3) (oi := _) (v := ?_) rfl (by kernel_rfl) (by kernel_rfl) (by kernel_rfl) (fun _ _ _ h => h) (Or.inl ⟨by rfl, ?_⟩) (by assumption) ?_
                  rotate_left
                  · (intro w hSw; (try dsimp only at hSw); go_simp <;> with_reducible rfl)
                  try simp only [Act.put, List.getElem_toArray, List.getElem_cons_zero, List.getElem_cons_succ, List.setIfInBounds_toArray, List.set_cons_zero, List.set_cons_succ]
                  refine wpAnyH_take (i := 4) (oi := _) (v := ?_) rfl (by kernel_rfl) (by kernel_rfl) (by kernel_rfl) (fun _ _ _ h => h) (Or.inl ⟨by rfl, ?_⟩) (by assumption) ?_
                  rotate_left
                  · (intro w hSw; (try dsimp only at hSw); go_simp <;> with_reducible rfl)
                  try simp only [Act.put, List.getElem_toArray, List.getElem_cons_zero, List.getElem_cons_succ, List.setIfInBounds_toArray, List.set_cons_zero, List.set_cons_succ]
                  refine wpAnyH_take (i := 5) (oi := _) (v := ?_) rfl (by kernel_rfl) (by kernel_rfl) (by kernel_rfl) (fun _ _ _ h => h) (Or.inl ⟨by rfl, ?_⟩) (by assumption) ?_
                  rotate_left
                  · (intro w hSw; (try dsimp only at hSw); go_simp <;> with_reducible rfl)
                  try simp only [Act.put, List.getElem_toArray, List.getElem_cons_zero, List.getElem_cons_succ, List.setIfInBounds_toArray, List.set_cons_zero, List.set_cons_succ]
                  refine wpAnyH_take (i := 6) (oi := _) (v := ?_) rfl (by kernel_rfl) (by kernel_rfl) (by kernel_rfl) (fun _ _ _ h => h) (Or.inl ⟨by rfl, ?_⟩) (by assumption) ?_
                  rotate_left
                  · (intro w hSw; (try dsimp only at hSw); go_simp <;> with_reducible rfl)
                  try simp only [Act.put, List.getElem_toArray, List.getElem_cons_zero, List.getElem_cons_succ, List.setIfInBounds_toArray, List.set_cons_zero, List.set_cons_succ]
                  refine wpAnyH_take (i := 7) (oi := _) (v := ?_) rfl (by kernel_rfl) (by kernel_rfl) (by kernel_rfl) (fun _ _ _ h => h) (Or.inl ⟨by rfl, ?_⟩) (by assumption) ?_
                  rotate_left
                  · (intro w hSw; (try dsimp only at hSw); go_simp <;> with_reducible rfl)
                  try simp only [Act.put, List.getElem_toArray, List.getElem_cons_zero, List.getElem_cons_succ, List.setIfInBounds_toArray, List.set_cons_zero, List.set_cons_succ]
                  refine wpAnyH_take (i := 8) (oi := _) (v := ?_) rfl (by kernel_rfl) (by kernel_rfl) (by kernel_rfl) (fun _ _ _ h => h) (Or.inl ⟨by rfl, ?_⟩) (by assumption) ?_
                  rotate_left
                  · (intro w hSw; (try dsimp only at hSw); go_simp <;> with_reducible rfl)
                  try simp only [Act.put, List.getElem_toArray, List.getElem_cons_zero, List.getElem_cons_succ, List.setIfInBounds_toArray, List.set_cons_zero, List.set_cons_succ]
                  refine wpAnyH_take (i := 9) (oi := _) (v := ?_) rfl (by kernel_rfl) (by kernel_rfl) (by kernel_rfl) (fun _ _ _ h => h) (Or.inl ⟨by rfl, ?_⟩) (by assumption) ?_
                  rotate_left
                  · (intro w hSw; (try dsimp only at hSw); go_simp <;> with_reducible rfl)
                  try simp only [Act.put, List.getElem_toArray, List.getElem_cons_zero, List.getElem_cons_succ, List.setIfInBounds_toArray, List.set_cons_zero, List.set_cons_succ]
                  refine wpAnyH_take (i := 10) (oi := _) (v := ?_) rfl (by kernel_rfl) (by kernel_rfl) (by kernel_rfl) (fun _ _ _ h => h) (Or.inl ⟨by rfl, ?_⟩) (by assumption) ?_
                  rotate_left
                  · (intro w hSw; (try dsimp only at hSw); go_simp <;> with_reducible rfl)
                  try simp only [Act.put, List.getElem_toArray, List.getElem_cons_zero, List.getElem_cons_succ, List.setIfInBounds_toArray, List.set_cons_zero, List.set_cons_succ]
                  refine wpAnyH_ready (rs := [11]) (by kernel_rfl) (by simp) ?_
                  refine AllReadyH.cons (o := _) rfl (fun K hK => ?_) AllReadyH.nil
                  clear hHeld
                  go_simp
                  try go_wp2_with fail
                  refine hK.out _ _ (C0.out _ ((HK.out.drewN (nq + 1)).alloc _)) (fun hHeld => ?_)
                  clear hK K
                  try simp only [Act.put, List.getElem_toArray, List.getElem_cons_zero, List.getElem_cons_succ, List.setIfInBounds_toArray, List.set_cons_zero, List.set_cons_succ]
                  refine wpAnyH_ready (rs := [12]) (by kernel_rfl) (by simp) ?_
                  refine AllReadyH.cons (o := _) rfl (fun K hK => ?_) AllReadyH.nil
                  clear hHeld
                  refine step_app (f := spanVal) rfl (.tmp 103) (.tmp 114) W3.heap.size 65 24 rfl i0 _ 2 16 Try.underlying65 hi hz0 hz1 hz2 rfl (by omega) (fun _ => rfl) span_one _ 0 (([] : List Rc.Span).flatMap spanVal) rfl (HO.out.kept (((Kp.refl wr none).drewN (nq + 1)).alloc (Obj.cells #[.int .i64 x, .int .i64 x1] 24)) (by cases (Value.slice _ _ _).ownBlock <;> simp)) _ [(x, x1)] rfl (spans_one (wr.drewN (nq + 1)) x x1) (by unfold maxLen; simp <;> omega) (by simp <;> omega) ((HK.out.drewN (nq + 1)).alloc (Obj.cells #[.int .i64 x, .int .i64 x1] 24)).size ?_
                  intro v5 w5 ho hg hb5
                  have KA := Lib.hid (Kp.row ((HK.out.drewN (nq + 1)).alloc (Obj.cells #[.int .i64 x, .int .i64 x1] 24)) hg (fun j hj => (HO.out.lt j hj).1))
                  have OA := Lib.hid (own_push (out := ([] : List Rc.Span)) ho)
                  clear ho hg hb5
                  try simp only [Act.put, List.getElem_toArray, List.getElem_cons_zero, List.getElem_cons_succ, List.setIfInBounds_toArray, List.set_cons_zero, List.set_cons_succ]
                  refine hK _ _ (C0.out _ KA.out) (fun hHeld => ?_)
                  clear hK K
                  refine wpAnyH_ready (rs := [13]) (by kernel_rfl) (by simp) ?_
                  refine AllReadyH.cons (o := _) rfl (fun K hK => ?_) AllReadyH.nil
                  clear hHeld
                  go_simp
                  try go_wp2_with fail
                  refine hK.out _ _ (C0.out _ KA.out) (fun hHeld => ?_)
                  clear hK K hHeld
                  refine wpAnyH_done (by kernel_rfl) ?_ _
                  go_wp2_with fail
                  go_roundw
                  case rel => exact ⟨k + 1, ([] : List Rc.Span) ++ [(x, x1)], by omega, by go_num, by simp <;> omega, HF2.out, OA.out, KA.out⟩
                  case measure => simp [intOf]; omega
                · obtain ⟨g, rfl⟩ := hbo (by simp)
                  rw [List.length_append, List.length_singleton] at HO hol
                  have hol0 : (0 : Int) ≤ (out'.length : Int) := Int.natCast_nonneg _
                  have hwo : IntKind.i64.wrap (out'.length : Int) = (out'.length : Int) := wrap_nat (n := out'.length) (by omega)
                  have hol1 : (out'.length : Int) < (out'.length : Int) + 1 := by omega
                  have o0 := own_last HO.out
                  by_cases hs : s.2 = x
                  · subst hs
                    rw [push_on] at HF2
                    go_wp2_with fail
                    refine WN.mono ?_
                    rintro E w5 ⟨rfl, rfl⟩
                    go_wp2_with fail
                    obtain ⟨o0, o1, o2⟩ := o0
                    go_quiet (fail)
                    go_wp2_with fail
                    have OS : Hid (_ ∧ _) := Lib.hid (own_last_set (w := wr.drewN (nq + 1)) (base := W3.heap.size) (g := g) (cap := cap) (out := out') (s := s) HO.out x1)
                    have KS := Lib.hid (Kp.of_own (HK.out.drewN (nq + 1)) OS.out.2 (HO.out.lt g rfl).1)
                    refine wp_region_held_drew (S := fun w1 => w1.cell? ⟨b, off + k, none⟩ = some (.int .i64 s.2) ∧ w1.cell? ⟨b, off + (k + 1), none⟩ = some (.int .i64 x1)) (by kernel_rfl) ?_ (fun hHeld => ?_)
                    · (simpa using c0)
                    refine wpAnyH_take (i := 0) (oi := _) (v := ?_) rfl (by kernel_rfl) (by kernel_rfl) (by kernel_rfl) (fun _ _ _ h => h) (Or.inl ⟨by rfl, ?_⟩) (by assumption) ?_
                    rotate_left
                    · (intro w hSw; (try dsimp only at hSw); go_simp <;> with_reducible rfl)
                    try simp only [Act.put, List.getElem_toArray, List.getElem_cons_zero, List.setIfInBounds_toArray, List.set_cons_zero, List.set_cons_succ]
                    refine wpAnyH_take (i := 1) (oi := _) (v := ?_) rfl (by kernel_rfl) (by kernel_rfl) (by kernel_rfl) (fun _ _ _ h => h) (Or.inl ⟨by rfl, ?_⟩) (by assumption) ?_
                    rotate_left
                    · (intro w hSw; (try dsimp only at hSw); go_simp <;> with_reducible rfl)
                    try simp only [Act.put, List.getElem_toArray, List.getElem_cons_zero, List.getElem_cons_succ, List.setIfInBounds_toArray, List.set_cons_zero, List.set_cons_succ]
                    refine wpAnyH_take (i := 2) (oi := _) (v := ?_) rfl (by kernel_rfl) (by kernel_rfl) (by kernel_rfl) (fun _ _ _ h => h) (Or.inl ⟨by rfl, ?_⟩) (by assumption) ?_
                    rotate_left
                    · (intro w hSw; (try dsimp only at hSw); go_simp <;> with_reducible rfl)
                    try simp only [Act.put, List.getElem_toArray, List.getElem_cons_zero, List.getElem_cons_succ, List.setIfInBounds_toArray, List.set_cons_zero, List.set_cons_succ]
                    refine wpAnyH_take (i := 3) (oi := _) (v := ?_) rfl (by kernel_rfl) (by kernel_rfl) (by kernel_rfl) (fun _ _ _ h => h) (Or.inl ⟨by rfl, ?_⟩) (by assumption) ?_
                    rotate_left
                    · (intro w hSw; (try dsimp only at hSw); go_simp <;> with_reducible rfl)
                    try simp only [Act.put, List.getElem_toArray, List.getElem_cons_zero, List.getElem_cons_succ, List.setIfInBounds_toArray, List.set_cons_zero, List.set_cons_succ]
                    refine wpAnyH_take (i := 4) (oi := _) (v := ?_) rfl (by kernel_rfl) (by kernel_rfl) (by kernel_rfl) (fun _ _ _ h => h) (Or.inl ⟨by rfl, ?_⟩) (by assumption) ?_
                    rotate_left
                    · (intro w hSw; (try dsimp only at hSw); go_simp <;> with_reducible rfl)
                    try simp only [Act.put, List.getElem_toArray, List.getElem_cons_zero, List.getElem_cons_succ, List.setIfInBounds_toArray, List.set_cons_zero, List.set_cons_succ]
                    refine wpAnyH_take (i := 5) (oi := _) (v := ?_) rfl (by kernel_rfl) (by kernel_rfl) (by kernel_rfl) (fun _ _ _ h => h) (Or.inl ⟨by rfl, ?_⟩) (by assumption) ?_
                    rotate_left
                    · (intro w hSw; (try dsimp only at hSw); go_simp <;> with_reducible rfl)
                    try simp only [Act.put, List.getElem_toArray, List.getElem_cons_zero, List.getElem_cons_succ, List.setIfInBounds_toArray, List.set_cons_zero, List.set_cons_succ]
                    refine wpAnyH_take (i := 6) (oi := _) (v := ?_) rfl (by kernel_rfl) (by kernel_rfl) (by kernel_rfl) (fun _ _ _ h => h) (Or.inl ⟨by rfl, ?_⟩) (by assumption) ?_
                    rotate_left
                    · (intro w hSw; (try dsimp only at hSw); go_simp <;> with_reducible rfl)
                    try simp only [Act.put, List.getElem_toArray, List.getElem_cons_zero, List.getElem_cons_succ, List.setIfInBounds_toArray, List.set_cons_zero, List.set_cons_succ]
                    refine wpAnyH_take (i := 7) (oi := _) (v := ?_) rfl (by kernel_rfl) (by kernel_rfl) (by kernel_rfl) (fun _ _ _ h => h) (Or.inl ⟨by rfl, ?_⟩) (by assumption) ?_
                    rotate_left
                    · (intro w hSw; (try dsimp only at hSw); go_simp <;> with_reducible rfl)
                    try simp only [Act.put, List.getElem_toArray, List.getElem_cons_zero, List.getElem_cons_succ, List.setIfInBounds_toArray, List.set_cons_zero, List.set_cons_succ]
                    refine wpAnyH_take (i := 8) (oi := _) (v := ?_) rfl (by kernel_rfl) (by kernel_rfl) (by kernel_rfl) (fun _ _ _ h => h) (Or.inl ⟨by rfl, ?_⟩) (by assumption) ?_
                    rotate_left
                    · (intro w hSw; (try dsimp only at hSw); go_simp <;> with_reducible rfl)
                    try simp only [Act.put, List.getElem_toArray, List.getElem_cons_zero, List.getElem_cons_succ, List.setIfInBounds_toArray, List.set_cons_zero, List.set_cons_succ]
                    refine wpAnyH_take (i := 9) (oi := _) (v := ?_) rfl (by kernel_rfl) (by kernel_rfl) (by kernel_rfl) (fun _ _ _ h => h) (Or.inl ⟨by rfl, ?_⟩) (by assumption) ?_
                    rotate_left
                    · (intro w hSw; (try dsimp only at hSw); go_simp <;> with_reducible rfl)
                    try simp only [Act.put, List.getElem_toArray, List.getElem_cons_zero, List.getElem_cons_succ, List.setIfInBounds_toArray, List.set_cons_zero, List.set_cons_succ]
                    refine wpAnyH_take (i := 10) (oi := _) (v := ?_) rfl (by kernel_rfl) (by kernel_rfl) (by kernel_rfl) (fun _ _ _ h => h) (Or.inl ⟨by rfl, ?_⟩) (by assumption) ?_
                    rotate_left
                    · (intro w hSw; (try dsimp only at hSw); go_simp <;> with_reducible rfl)
                    try simp only [Act.put, List.getElem_toArray, List.getElem_cons_zero, List.getElem_cons_succ, List.setIfInBounds_toArray, List.set_cons_zero, List.set_cons_succ]
                    refine wpAnyH_ready (rs := [11]) (by kernel_rfl) (by simp) ?_
                    refine AllReadyH.cons (o := _) rfl (fun K hK => ?_) AllReadyH.nil
                    clear hHeld
                    go_simp
                    try go_wp2_with fail
                    refine hK.out _ _ (C0.out _ KS.out) (fun hHeld => ?_)
                    clear hK K hHeld
                    refine wpAnyH_done (by kernel_rfl) ?_ _
                    go_wp2_with fail
                    go_roundw
                    case rel => exact ⟨k + 1, out' ++ [(s.1, x1)], by omega, by go_num, by simp; omega, HF2.out, by rw [List.length_append, List.length_singleton]; exact OS.out.1, KS.out⟩
                    case measure => simp [intOf]; omega
                  · rw [push_new (by simpa using hs)] at HF2
                    have hs2 : (s.2 == x) = false := by simpa using hs
                    go_wp2_with fail
                    refine WN.mono ?_
                    rintro E w5 ⟨rfl, rfl⟩
                    go_wp2_with fail
                    obtain ⟨o0, o1, o2⟩ := o0
                    go_quiet (fail)
                    go_wp2_with fail
                    refine wp_region_held_drew (S := fun w1 => w1.cell? ⟨b, off + k, none⟩ = some (.int .i64 x) ∧ w1.cell? ⟨b, off + (k + 1), none⟩ = some (.int .i64 x1)) (by kernel_rfl) ?_ (fun hHeld => ?_)
                    · (simpa using c0)
                    refine wpAnyH_take (i := 0) (oi := _) (v := ?_) rfl (by kernel_rfl) (by kernel_rfl) (by kernel_rfl) (fun _ _ _ h => h) (Or.inl ⟨by rfl, ?_⟩) (by assumption) ?_
                    rotate_left
                    · (intro w hSw; (try dsimp only at hSw); go_simp <;> with_reducible rfl)
                    try simp only [Act.put, List.getElem_toArray, List.getElem_cons_zero, List.setIfInBounds_toArray, List.set_cons_zero, List.set_cons_succ]
                    refine wpAnyH_take (i := 1) (oi := _) (v := ?_) rfl (by kernel_rfl) (by kernel_rfl) (by kernel_rfl) (fun _ _ _ h => h) (Or.inl ⟨by rfl, ?_⟩) (by assumption) ?_
                    rotate_left
                    · (intro w hSw; (try dsimp only at hSw); go_simp <;> with_reducible rfl)
                    try simp only [Act.put, List.getElem_toArray, List.getElem_cons_zero, List.getElem_cons_succ, List.setIfInBounds_toArray, List.set_cons_zero, List.set_cons_succ]
                    refine wpAnyH_take (i := 2) (oi := _) (v := ?_) rfl (by kernel_rfl) (by kernel_rfl) (by kernel_rfl) (fun _ _ _ h => h) (Or.inl ⟨by rfl, ?_⟩) (by assumption) ?_
                    rotate_left
                    · (intro w hSw; (try dsimp only at hSw); go_simp <;> with_reducible rfl)
                    try simp only [Act.put, List.getElem_toArray, List.getElem_cons_zero, List.getElem_cons_succ, List.setIfInBounds_toArray, List.set_cons_zero, List.set_cons_succ]
                    refine wpAnyH_take (i := 3) (oi := _) (v := ?_) rfl (by kernel_rfl) (by kernel_rfl) (by kernel_rfl) (fun _ _ _ h => h) (Or.inl ⟨by rfl, ?_⟩) (by assumption) ?_
                    rotate_left
                    · (intro w hSw; (try dsimp only at hSw); go_simp <;> with_reducible rfl)
                    try simp only [Act.put, List.getElem_toArray, List.getElem_cons_zero, List.getElem_cons_succ, List.setIfInBounds_toArray, List.set_cons_zero, List.set_cons_succ]
                    refine wpAnyH_take (i := 4) (oi := _) (v := ?_) rfl (by kernel_rfl) (by kernel_rfl) (by kernel_rfl) (fun _ _ _ h => h) (Or.inl ⟨by rfl, ?_⟩) (by assumption) ?_
                    rotate_left
                    · (intro w hSw; (try dsimp only at hSw); go_simp <;> with_reducible rfl)
                    try simp only [Act.put, List.getElem_toArray, List.getElem_cons_zero, List.getElem_cons_succ, List.setIfInBounds_toArray, List.set_cons_zero, List.set_cons_succ]
                    refine wpAnyH_take (i := 5) (oi := _) (v := ?_) rfl (by kernel_rfl) (by kernel_rfl) (by kernel_rfl) (fun _ _ _ h => h) (Or.inl ⟨by rfl, ?_⟩) (by assumption) ?_
                    rotate_left
                    · (intro w hSw; (try dsimp only at hSw); go_simp <;> with_reducible rfl)
                    try simp only [Act.put, List.getElem_toArray, List.getElem_cons_zero, List.getElem_cons_succ, List.setIfInBounds_toArray, List.set_cons_zero, List.set_cons_succ]
                    refine wpAnyH_take (i := 6) (oi := _) (v := ?_) rfl (by kernel_rfl) (by kernel_rfl) (by kernel_rfl) (fun _ _ _ h => h) (Or.inl ⟨by rfl, ?_⟩) (by assumption) ?_
                    rotate_left
                    · (intro w hSw; (try dsimp only at hSw); go_simp <;> with_reducible rfl)
                    try simp only [Act.put, List.getElem_toArray, List.getElem_cons_zero, List.getElem_cons_succ, List.setIfInBounds_toArray, List.set_cons_zero, List.set_cons_succ]
                    refine wpAnyH_take (i := 7) (oi := _) (v := ?_) rfl (by kernel_rfl) (by kernel_rfl) (by kernel_rfl) (fun _ _ _ h => h) (Or.inl ⟨by rfl, ?_⟩) (by assumption) ?_
                    rotate_left
                    · (intro w hSw; (try dsimp only at hSw); go_simp <;> with_reducible rfl)
                    try simp only [Act.put, List.getElem_toArray, List.getElem_cons_zero, List.getElem_cons_succ, List.setIfInBounds_toArray, List.set_cons_zero, List.set_cons_succ]
                    refine wpAnyH_take (i := 8) (oi := _) (v := ?_) rfl (by kernel_rfl) (by kernel_rfl) (by kernel_rfl) (fun _ _ _ h => h) (Or.inl ⟨by rfl, ?_⟩) (by assumption) ?_
                    rotate_left
                    · (intro w hSw; (try dsimp only at hSw); go_simp <;> with_reducible rfl)
                    try simp only [Act.put, List.getElem_toArray, List.getElem_cons_zero, List.getElem_cons_succ, List.setIfInBounds_toArray, List.set_cons_zero, List.set_cons_succ]
                    refine wpAnyH_take (i := 9) (oi := _) (v := ?_) rfl (by kernel_rfl) (by kernel_rfl) (by kernel_rfl) (fun _ _ _ h => h) (Or.inl ⟨by rfl, ?_⟩) (by assumption) ?_
                    rotate_left
                    · (intro w hSw; (try dsimp only at hSw); go_simp <;> with_reducible rfl)
                    try simp only [Act.put, List.getElem_toArray, List.getElem_cons_zero, List.getElem_cons_succ, List.setIfInBounds_toArray, List.set_cons_zero, List.set_cons_succ]
                    refine wpAnyH_take (i := 10) (oi := _) (v := ?_) rfl (by kernel_rfl) (by kernel_rfl) (by kernel_rfl) (fun _ _ _ h => h) (Or.inl ⟨by rfl, ?_⟩) (by assumption) ?_
                    rotate_left
                    · (intro w hSw; (try dsimp only at hSw); go_simp <;> with_reducible rfl)
                    try simp only [Act.put, List.getElem_toArray, List.getElem_cons_zero, List.getElem_cons_succ, List.setIfInBounds_toArray, List.set_cons_zero, List.set_cons_succ]
                    refine wpAnyH_ready (rs := [11]) (by kernel_rfl) (by simp) ?_
                    refine AllReadyH.cons (o := _) rfl (fun K hK => ?_) AllReadyH.nil
                    clear hHeld
                    go_simp
                    try go_wp2_with fail
                    refine hK.out _ _ (C0.out _ ((HK.out.drewN (nq + 1)).alloc _)) (fun hHeld => ?_)
                    clear hK K
                    try simp only [Act.put, List.getElem_toArray, List.getElem_cons_zero, List.getElem_cons_succ, List.setIfInBounds_toArray, List.set_cons_zero, List.set_cons_succ]
                    refine wpAnyH_ready (rs := [12]) (by kernel_rfl) (by simp) ?_
                    refine AllReadyH.cons (o := _) rfl (fun K hK => ?_) AllReadyH.nil
                    clear hHeld
                    refine step_app (f := spanVal) rfl (.tmp 103) (.tmp 114) W3.heap.size 65 24 rfl i0 _ 2 16 Try.underlying65 hi hz0 hz1 hz2 rfl (by omega) (fun _ => rfl) span_one _ (out'.length + 1) ((out' ++ [s]).flatMap spanVal) rfl (HO.out.kept (((Kp.refl wr none).drewN (nq + 1)).alloc (Obj.cells #[.int .i64 x, .int .i64 x1] 24)) (by cases (Value.slice _ _ _).ownBlock <;> simp)) _ [(x, x1)] rfl (spans_one (wr.drewN (nq + 1)) x x1) (by unfold maxLen; simp <;> omega) (by simp <;> omega) ((HK.out.drewN (nq + 1)).alloc (Obj.cells #[.int .i64 x, .int .i64 x1] 24)).size ?_
                    intro v5 w5 ho hg hb5
                    have KA := Lib.hid (Kp.row ((HK.out.drewN (nq + 1)).alloc (Obj.cells #[.int .i64 x, .int .i64 x1] 24)) hg (fun j hj => (HO.out.lt j hj).1))
                    have OA := Lib.hid (own_push (out := (out' ++ [s])) ho)
                    clear ho hg hb5
                    try simp only [Act.put, List.getElem_toArray, List.getElem_cons_zero, List.getElem_cons_succ, List.setIfInBounds_toArray, List.set_cons_zero, List.set_cons_succ]
                    refine hK _ _ (C0.out _ KA.out) (fun hHeld => ?_)
                    clear hK K
                    refine wpAnyH_ready (rs := [13]) (by kernel_rfl) (by simp) ?_
                    refine AllReadyH.cons (o := _) rfl (fun K hK => ?_) AllReadyH.nil
                    clear hHeld
                    go_simp
                    try go_wp2_with fail
                    refine hK.out _ _ (C0.out _ KA.out) (fun hHeld => ?_)
                    clear hK K hHeld
                    refine wpAnyH_done (by kernel_rfl) ?_ _
                    go_wp2_with fail
                    go_roundw
                    case rel => exact ⟨k + 1, (out' ++ [s]) ++ [(x, x1)], by omega, by go_num, by simp <;> omega, HF2.out, OA.out, KA.out⟩
                    case measure => simp [intOf]; omega
              · rw [if_neg hg] at HF2
                have hg2 : gg x = false := by simpa using hg
                rw [hg2] at WN
                clear hg hg2
                go_wp2_with fail
                refine WN.mono ?_
                rintro E w5 ⟨rfl, rfl⟩
                go_wp2_with fail
                go_roundw
                case rel => exact ⟨k + 1, out, by omega, by go_num, by omega, HF2.out, HO.out, HK.out⟩
                case measure => simp [intOf]; omega
            · have hk1 : ¬ (k : Int) + 1 < (xs.length : Int) := by omega
              have HE : Hid (OwnSpans w (Ending.returned u12) wr fin) := Lib.hid ⟨_, rfl, by have := HF.out; rw [fill_done hlt] at this; subst this; exact own_mono HO.out K3.out.size, K3.out.trans HK.out⟩
              go_wp2_with fail
              go_ret
              exact HE.out

/-- The reference's row. -/
theorem rrow_any (n : Int) (hn : n = 1 ∨ n = 2 ∨ n = 3) (va vb : Value) (a b : List Rc.Rect) (y : Int) (w : World) (ha : IsRects w va a) (hb : IsRects w vb b) (hla : a.length ≤ 4096) (hlb : b.length ≤ 4096) :
    Calls Try.prog 49 #[.int .i64 n, va, vb, .int .i64 y] w fun E w' => OwnSpans w E w' (Rc.rowS (kindOf n) a b y) := by
  rw [row_xfold]
  have h : ∀ l : List Rc.Rect, (Rc.at_ l y).length ≤ l.length := fun l => List.length_filter_le _ _
  exact rrow_core n hn va vb a b _ _ y w ha hb hla hlb rfl rfl (Nat.le_trans (h a) hla) (Nat.le_trans (h b) hlb)

end Go.Proofs.Ytpakiabnhdoijaa
