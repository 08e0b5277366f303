/- The reference's combination of two lists (combine), and what is made of it. Condition: at most 2^16 rectangles in each list. -/
import Derived.Test.YtpakiabnhdoijaaFp
import Derived.Test.YtpakiabnhdoijaaRr
import Derived.Test.YtpakiabnhdoijaaRb
import Derived.Test.YtpakiabnhdoijaaRe
namespace Go.Proofs.Ytpakiabnhdoijaa
open Go.RowKit

/-- The loops over the rectangles. -/
def YRel (W : World) (A : List Rc.Rect) (s : List Int) (v i : Value) (wr : World) : Prop := ∃ k : Nat, k ≤ A.length ∧ i = .int .i64 k ∧ IsInts wr v (yfold (A.take k) s) ∧ Kp W wr none
theorem yrel_step {W wr : World} {A : List Rc.Rect} {s : List Int} {v : Value} {k : Nat} (h : k < A.length) (hv : IsInts wr v (Rc.with_ (Rc.with_ (yfold (A.take k) s) A[k].y0) A[k].y1)) (hk : Kp W wr none) : YRel W A s v (.int .i64 (k + 1)) wr :=
  ⟨k + 1, h, by go_num, by rw [yfold_step A s k h]; exact hv, hk⟩
/-- The call returns rectangles that it has made. -/
def OwnRects (w : World) (E : Ending) (w' : World) (xs : List Rc.Rect) : Prop := ∃ u, E = .returned u ∧ w'.ownsRow w.heap.size 44 4 u xs.length (xs.flatMap recVal) ∧ Kp w w' none
/-- The loop over the rows. -/
def BRel (W : World) (row : Int → List Rc.Span) (ys : List Int) (fin : List Rc.Rect) (v l i : Value) (wr : World) : Prop :=
  ∃ (k : Nat) (out : List Rc.Rect) (last : List Rc.Span) (lao : Option Addr) (lcap : Nat), k ≤ ys.length ∧ i = .int .i64 k ∧ out.length ≤ k * 16384 ∧ last.length ≤ 16384 ∧ last.length ≤ out.length ∧ l = .slice lao last.length lcap ∧ LiesOff 2 spanVal wr lao lcap last v ∧ Rc.bands row (ys.drop k) out last = fin ∧ wr.ownsRow W.heap.size 44 4 v out.length (out.flatMap recVal) ∧ Kp W wr none
theorem bands_two {row : Int → List Rc.Span} {ys : List Int} {out : List Rc.Rect} {last : List Rc.Span} {k : Nat} (h : k + 1 < ys.length) : Rc.bands row (ys.drop k) out last = Rc.bands row (ys.drop (k + 1)) (if row ys[k] = last then Rc.lift out (row ys[k]).length ys[k + 1] else out ++ (row ys[k]).map fun s => ⟨s.1, ys[k], s.2, ys[k + 1]⟩) (row ys[k]) := by
  rw [List.drop_eq_getElem_cons (by omega : k < ys.length), List.drop_eq_getElem_cons h]
  rfl
theorem bands_done {row : Int → List Rc.Span} {ys : List Int} {out : List Rc.Rect} {last : List Rc.Span} {k : Nat} (h : ¬ k + 1 < ys.length) : Rc.bands row (ys.drop k) out last = out := by
  by_cases hk : k < ys.length
  · rw [List.drop_eq_getElem_cons hk, List.drop_of_length_le (by omega)]; rfl
  · rw [List.drop_of_length_le (by omega)]; rfl
theorem rec_one : ∀ x : Rc.Rect, ∀ u ∈ recVal x, u.oneCell' = true := by
  intro x u hu
  simp [recVal] at hu
  rcases hu with rfl | rfl | rfl | rfl <;> rfl
theorem rects_one (w : World) (a b c d : Int) : IsRects (w.alloc (Obj.cells #[.int .i64 a, .int .i64 b, .int .i64 c, .int .i64 d] 44)) (.slice (some ⟨w.heap.size, 0, none⟩) 1 1) [⟨a, b, c, d⟩] := by
  refine .inr ⟨w.heap.size, 0, 1, rfl, by simp, by simp, fun k hk j hj => ?_⟩
  simp at hk; subst hk
  simp only [Nat.zero_mul, Nat.zero_add, List.getElem_cons_zero] at hj ⊢
  have h := heap_alloc_new w (Obj.cells #[.int .i64 a, .int .i64 b, .int .i64 c, .int .i64 d] 44)
  rw [World.cell?]
  simp only [h]
  simp [recVal] at hj
  have : j = 0 ∨ j = 1 ∨ j = 2 ∨ j = 3 := by omega
  rcases this with rfl | rfl | rfl | rfl <;> rfl
/-- The loop over a row's ranges: each becomes a rectangle. -/
def ARel (W : World) (out : List Rc.Rect) (now : List Rc.Span) (y z : Int) (nao : Option Addr) (ncap : Nat) (v i : Value) (wr : World) : Prop :=
  ∃ j : Nat, j ≤ now.length ∧ i = .int .i64 j ∧ LiesOff 2 spanVal wr nao ncap now v ∧ wr.ownsRow W.heap.size 44 4 v (out.length + j) ((out ++ (now.take j).map fun s => (⟨s.1, y, s.2, z⟩ : Rc.Rect)).flatMap recVal) ∧ Kp W wr none
theorem arel_step {W wr wq : World} {out : List Rc.Rect} {now : List Rc.Span} {y z : Int} {nao : Option Addr} {ncap j : Nat} {u v : Value} (hj : j < now.length) (hn : LiesOff 2 spanVal wr nao ncap now u)
    (ho : wq.ownsRow W.heap.size 44 4 v (out.length + j + [(⟨now[j].1, y, now[j].2, z⟩ : Rc.Rect)].length) ((out ++ (now.take j).map fun s => (⟨s.1, y, s.2, z⟩ : Rc.Rect)).flatMap recVal ++ [(⟨now[j].1, y, now[j].2, z⟩ : Rc.Rect)].flatMap recVal)) (hK : Kp W wq none) (hg : wr.grownBy wq u.ownBlock) (hb : v.ownBlock = u.ownBlock ∨ ∃ n, wr.heap.size ≤ n ∧ v.ownBlock = some n) :
    ARel W out now y z nao ncap v (.int .i64 (j + 1)) wq := by
  refine ⟨j + 1, hj, by go_num, hn.turn hg hb, ?_, hK⟩
  rw [List.take_succ_eq_append_getElem hj, List.map_append, ← List.append_assoc, List.flatMap_append]
  exact ho
/-- The loop that heightens the last rectangles. -/
def HRel (W W6 : World) (out : List Rc.Rect) (N : Nat) (z : Int) (v i : Value) (wr : World) : Prop := ∃ j : Nat, j ≤ N ∧ i = .int .i64 j ∧ wr.ownsRow W.heap.size 44 4 v out.length ((Rc.lift out j z).flatMap recVal) ∧ Kp W6 wr v.ownBlock
theorem set_many (l : List Rc.Rect) : (Rc.set l).length ≤ 4096 := by
  unfold Rc.set; split
  · rename_i h; exact h.1
  · simp

set_option maxHeartbeats 8000000 in
set_option maxRecDepth 100000 in
theorem combineR_core (n : Int) (hn : n = 1 ∨ n = 2 ∨ n = 3) (va vb : Value) (a b A B : List Rc.Rect) (w : World) (ha : IsRects w va a) (hb : IsRects w vb b) (hla : a.length ≤ 65536) (hlb : b.length ≤ 65536) (hA : Rc.set a = A) (hB : Rc.set b = B) (hlA : A.length ≤ 4096) (hlB : B.length ≤ 4096) (row : Int → List Rc.Span) (hrow : row = Rc.rowS (kindOf n) A B) :
    Calls Try.prog 36 #[.int .i64 n, va, vb] w fun E w' => OwnRects w E w' (Rc.bands row (yfold B (yfold A [])) [] []) := by
  have HB0 := Lib.hid hb
  have HROW := Lib.hid hrow
  have AT1 := rset_any va a w ha (by omega)
  rw [hA] at AT1
  have AT2 : Hid (∀ w1, Kp w w1 none → Calls Try.prog 40 #[vb] w1 fun E w' => ∃ u, E = .returned u ∧ IsRects w' u B ∧ Kp w1 w' none) := Lib.hid fun w1 k1 => by
    have := rset_any vb b w1 (hb.keep k1) (by omega)
    rw [hB] at this
    exact this
  clear ha hb hA hB hrow
  obtain ⟨fin, hfin⟩ : ∃ fin, Rc.bands row (yfold B (yfold A [])) [] [] = fin := ⟨_, rfl⟩
  rw [hfin]
  have HFIN := Lib.hid hfin
  clear hfin
  obtain ⟨i0, hi, hz0, hz1, hz2⟩ := info_parts infoRect
  go_enter Try.func36, Try.ntmps36
  go_wp2_with fail
  refine AT1.mono ?_
  rintro E w1 ⟨ua, rfl, hua, k1⟩
  have HUA := Lib.hid hua
  have K1 := Lib.hid k1
  clear hua k1
  go_wp2_with fail
  refine (AT2.out w1 K1.out).mono ?_
  rintro E w2 ⟨ub, rfl, hub, k2⟩
  have HUA2 : Hid (IsRects w2 ua A) := Lib.hid (HUA.out.keep k2)
  have HUB2 := Lib.hid hub
  have K2 := Lib.hid (K1.out.trans k2)
  clear hub k2 HUA K1 AT2 HB0 hla hlb
  obtain ⟨aoa, capa, rfl, fa⟩ := HUA2.out.form
  obtain ⟨aob, capb, rfl, fb⟩ := HUB2.out.form
  have FA := Lib.hid fa
  have FB := Lib.hid fb
  clear fa fb
  go_wp2_with fail
  go_loopw [7, 8] (fun v i wr => YRel w2 A [] v i wr) (fun _ i _ => A.length - (intOf i).toNat)
  case atStart => exact ⟨0, Nat.zero_le _, rfl, .inl ⟨_, _, rfl, rfl⟩, Kp.refl _ _⟩
  case round =>
    obtain ⟨k, hk, rfl, hv, hK⟩ := hrel
    have HV := Lib.hid hv
    have HK := Lib.hid hK
    clear hv hK
    have hk0 : (0 : Int) ≤ (k : Int) := Int.natCast_nonneg _
    by_cases hlt : k < A.length
    · obtain ⟨b, off, rfl, hb, hc, hr⟩ := FA.out k hlt
      have hk1 : (k : Int) < (A.length : Int) := by omega
      obtain ⟨r, hx⟩ : ∃ r, A[k] = r := ⟨_, rfl⟩
      have C0 : Hid (∀ W, Kp w2 W none → W.cell? ⟨b, off + k * 4 + 1, none⟩ = some (.int .i64 r.y0) ∧ W.cell? ⟨b, off + k * 4 + 3, none⟩ = some (.int .i64 r.y1)) := Lib.hid fun W kW => by
        subst hx
        exact ⟨(kW.below.cell (p := ⟨b, off + k * 4 + 1, none⟩) hb).trans (hr 1 (by simp [recVal])), (kW.below.cell (p := ⟨b, off + k * 4 + 3, none⟩) hb).trans (hr 3 (by simp [recVal]))⟩
      have HST : Hid (∀ u wq, IsInts wq u (Rc.with_ (Rc.with_ (yfold (A.take k) []) r.y0) r.y1) → Kp w2 wq none → YRel w2 A [] u (.int .i64 (k + 1)) wq) := Lib.hid fun u wq h1 h2 => yrel_step hlt (by rw [hx]; exact h1) h2
      have hxl := yfold_len A [] k hk
      try simp only [List.length_nil, Nat.zero_add] at hxl
      clear hx hr
      obtain ⟨q0, hq0⟩ : ∃ q, r.y0 = q := ⟨_, rfl⟩
      obtain ⟨q1, hq1⟩ : ∃ q, r.y1 = q := ⟨_, rfl⟩
      rw [hq0, hq1] at C0 HST
      clear hq0 hq1
      generalize yfold (A.take k) [] = xs at *
      have c0 := C0.out wr HK.out
      go_wp2_with fail
      refine wp_region_held_drew (S := fun w1 => w1.cell? ⟨b, off + k * 4 + 1, none⟩ = some (.int .i64 q0) ∧ w1.cell? ⟨b, off + k * 4 + 3, none⟩ = some (.int .i64 q1)) (by kernel_rfl) ?_ (fun hHeld => ?_)
      · exact c0
      refine wpAnyH_take (i := 0) (oi := _) (v := ?_) rfl (by kernel_rfl) (by kernel_rfl) (by kernel_rfl) (fun _ _ _ h => h) (Or.inl ⟨by rfl, ?_⟩) (by assumption) ?_
      rotate_left
      · (intro w hSw; (try dsimp only at hSw); go_simp <;> with_reducible rfl)
      try simp only [Act.put, List.getElem_toArray, List.getElem_cons_zero, List.setIfInBounds_toArray, List.set_cons_zero, List.set_cons_succ]
      refine wpAnyH_take (i := 1) (oi := _) (v := ?_) rfl (by kernel_rfl) (by kernel_rfl) (by kernel_rfl) (fun _ _ _ h => h) (Or.inl ⟨by rfl, ?_⟩) (by assumption) ?_
      rotate_left
      · (intro w hSw; (try dsimp only at hSw); go_simp <;> with_reducible rfl)
      try simp only [Act.put, List.getElem_toArray, List.getElem_cons_zero, List.getElem_cons_succ, List.setIfInBounds_toArray, List.set_cons_zero, List.set_cons_succ]
      refine wpAnyH_take (i := 2) (oi := _) (v := ?_) rfl (by kernel_rfl) (by kernel_rfl) (by kernel_rfl) (fun _ _ _ h => h) (Or.inl ⟨by rfl, ?_⟩) (by assumption) ?_
      rotate_left
      · (intro w hSw; (try dsimp only at hSw); go_simp <;> with_reducible rfl)
      try simp only [Act.put, List.getElem_toArray, List.getElem_cons_zero, List.getElem_cons_succ, List.setIfInBounds_toArray, List.set_cons_zero, List.set_cons_succ]
      refine wpAnyH_take (i := 3) (oi := _) (v := ?_) rfl (by kernel_rfl) (by kernel_rfl) (by kernel_rfl) (fun _ _ _ h => h) (Or.inl ⟨by rfl, ?_⟩) (by assumption) ?_
      rotate_left
      · (intro w hSw; (try dsimp only at hSw); go_simp <;> with_reducible rfl)
      try simp only [Act.put, List.getElem_toArray, List.getElem_cons_zero, List.getElem_cons_succ, List.setIfInBounds_toArray, List.set_cons_zero, List.set_cons_succ]
      refine wpAnyH_take (i := 4) (oi := _) (v := ?_) rfl (by kernel_rfl) (by kernel_rfl) (by kernel_rfl) (fun _ _ _ h => h) (Or.inl ⟨by rfl, ?_⟩) (by assumption) ?_
      rotate_left
      · (intro w hSw; (try dsimp only at hSw); go_simp <;> with_reducible rfl)
      try simp only [Act.put, List.getElem_toArray, List.getElem_cons_zero, List.getElem_cons_succ, List.setIfInBounds_toArray, List.set_cons_zero, List.set_cons_succ]
      refine wpAnyH_take (i := 5) (oi := _) (v := ?_) rfl (by kernel_rfl) (by kernel_rfl) (by kernel_rfl) (fun _ _ _ h => h) (Or.inl ⟨by rfl, ?_⟩) (by assumption) ?_
      rotate_left
      · (intro w hSw; (try dsimp only at hSw); go_simp <;> with_reducible rfl)
      try simp only [Act.put, List.getElem_toArray, List.getElem_cons_zero, List.getElem_cons_succ, List.setIfInBounds_toArray, List.set_cons_zero, List.set_cons_succ]
      refine wpAnyH_take (i := 7) (oi := _) (v := ?_) rfl (by kernel_rfl) (by kernel_rfl) (by kernel_rfl) (fun _ _ _ h => h) (Or.inl ⟨by rfl, ?_⟩) (by assumption) ?_
      rotate_left
      · (intro w hSw; (try dsimp only at hSw); go_simp <;> with_reducible rfl)
      try simp only [Act.put, List.getElem_toArray, List.getElem_cons_zero, List.getElem_cons_succ, List.setIfInBounds_toArray, List.set_cons_zero, List.set_cons_succ]
      refine wpAnyH_take (i := 8) (oi := _) (v := ?_) rfl (by kernel_rfl) (by kernel_rfl) (by kernel_rfl) (fun _ _ _ h => h) (Or.inl ⟨by rfl, ?_⟩) (by assumption) ?_
      rotate_left
      · (intro w hSw; (try dsimp only at hSw); go_simp <;> with_reducible rfl)
      try simp only [Act.put, List.getElem_toArray, List.getElem_cons_zero, List.getElem_cons_succ, List.setIfInBounds_toArray, List.set_cons_zero, List.set_cons_succ]
      refine wpAnyH_take (i := 9) (oi := _) (v := ?_) rfl (by kernel_rfl) (by kernel_rfl) (by kernel_rfl) (fun _ _ _ h => h) (Or.inl ⟨by rfl, ?_⟩) (by assumption) ?_
      rotate_left
      · (intro w hSw; (try dsimp only at hSw); go_simp <;> with_reducible rfl)
      try simp only [Act.put, List.getElem_toArray, List.getElem_cons_zero, List.getElem_cons_succ, List.setIfInBounds_toArray, List.set_cons_zero, List.set_cons_succ]
      refine wpAnyH_take (i := 10) (oi := _) (v := ?_) rfl (by kernel_rfl) (by kernel_rfl) (by kernel_rfl) (fun _ _ _ h => h) (Or.inl ⟨by rfl, ?_⟩) (by assumption) ?_
      rotate_left
      · (intro w hSw; (try dsimp only at hSw); go_simp <;> with_reducible rfl)
      try simp only [Act.put, List.getElem_toArray, List.getElem_cons_zero, List.getElem_cons_succ, List.setIfInBounds_toArray, List.set_cons_zero, List.set_cons_succ]
      refine wpAnyH_take (i := 11) (oi := _) (v := ?_) rfl (by kernel_rfl) (by kernel_rfl) (by kernel_rfl) (fun _ _ _ h => h) (Or.inl ⟨by rfl, ?_⟩) (by assumption) ?_
      rotate_left
      · (intro w hSw; (try dsimp only at hSw); go_simp <;> with_reducible rfl)
      try simp only [Act.put, List.getElem_toArray, List.getElem_cons_zero, List.getElem_cons_succ, List.setIfInBounds_toArray, List.set_cons_zero, List.set_cons_succ]
      refine wpAnyH_ready (rs := [6]) (by kernel_rfl) (by simp) ?_
      refine AllReadyH.cons (o := _) rfl (fun K hK => ?_) AllReadyH.nil
      clear hHeld
      go_simp
      refine (with_any _ xs q0 _ (HV.out.keep (Kp.refl wr none).drew) (by omega)).mono ?_
      rintro E w3 ⟨u3, rfl, h3, k3⟩
      have HV3 := Lib.hid h3
      have HK3 := Lib.hid (HK.out.drew.trans k3)
      have hxl3 := Rc.with_length xs q0
      clear h3 k3
      try go_wp2_with fail
      refine hK.out _ _ (C0.out _ HK3.out) (fun hHeld => ?_)
      clear hK K
      try simp only [Act.put, List.getElem_toArray, List.getElem_cons_zero, List.getElem_cons_succ, List.setIfInBounds_toArray, List.set_cons_zero, List.set_cons_succ]
      refine wpAnyH_ready (rs := [12]) (by kernel_rfl) (by simp) ?_
      refine AllReadyH.cons (o := _) rfl (fun K hK => ?_) AllReadyH.nil
      clear hHeld
      go_simp
      refine (with_any _ (Rc.with_ xs q0) q1 _ HV3.out (by omega)).mono ?_
      rintro E w4 ⟨u4, rfl, h4, k4⟩
      have HV4 := Lib.hid h4
      have HK4 := Lib.hid (HK3.out.trans k4)
      clear h4 k4
      try go_wp2_with fail
      refine hK.out _ _ (C0.out _ HK4.out) (fun hHeld => ?_)
      clear hK K
      try simp only [Act.put, List.getElem_toArray, List.getElem_cons_zero, List.getElem_cons_succ, List.setIfInBounds_toArray, List.set_cons_zero, List.set_cons_succ]
      refine wpAnyH_ready (rs := [13]) (by kernel_rfl) (by simp) ?_
      refine AllReadyH.cons (o := _) rfl (fun K hK => ?_) AllReadyH.nil
      clear hHeld
      go_simp
      try go_wp2_with fail
      refine hK.out _ _ (C0.out _ HK4.out) (fun hHeld => ?_)
      clear hK K hHeld
      refine wpAnyH_done (by kernel_rfl) ?_ _
      go_wp2_with fail
      go_roundw
      case rel => exact HST.out _ _ HV4.out HK4.out
      case measure => simp [intOf]; omega
    · have hkx : k = A.length := by omega
      have hk1 : ¬ (k : Int) < (A.length : Int) := by omega
      have HV1 : Hid (IsInts wr _ (yfold A [])) := Lib.hid (by have := HV.out; rw [hkx, List.take_length] at this; exact this)
      have KW1 := Lib.hid HK.out
      have hlx1 := yfold_len A [] A.length (Nat.le_refl _)
      rw [List.take_length] at hlx1
      clear HV HK hkx
      obtain ⟨XA, hXA⟩ : ∃ XA, yfold A [] = XA := ⟨_, rfl⟩
      rw [hXA] at HV1 hlx1 HFIN
      have hlX : XA.length ≤ 8192 := by simp at hlx1; omega
      clear hlx1 hXA
      go_wp2_with fail
      go_loopw [7, 9] (fun v i wr => YRel w2 B XA v i wr) (fun _ i _ => B.length - (intOf i).toNat)
      case atStart => exact ⟨0, Nat.zero_le _, rfl, HV1.out, KW1.out⟩
      case round =>
        obtain ⟨k, hk, rfl, hv, hK⟩ := hrel
        have HV := Lib.hid hv
        have HK := Lib.hid hK
        clear hv hK
        have hk0 : (0 : Int) ≤ (k : Int) := Int.natCast_nonneg _
        by_cases hlt : k < B.length
        · obtain ⟨b, off, rfl, hb, hc, hr⟩ := FB.out k hlt
          have hk1 : (k : Int) < (B.length : Int) := by omega
          obtain ⟨r, hx⟩ : ∃ r, B[k] = r := ⟨_, rfl⟩
          have C0 : Hid (∀ W, Kp w2 W none → W.cell? ⟨b, off + k * 4 + 1, none⟩ = some (.int .i64 r.y0) ∧ W.cell? ⟨b, off + k * 4 + 3, none⟩ = some (.int .i64 r.y1)) := Lib.hid fun W kW => by
            subst hx
            exact ⟨(kW.below.cell (p := ⟨b, off + k * 4 + 1, none⟩) hb).trans (hr 1 (by simp [recVal])), (kW.below.cell (p := ⟨b, off + k * 4 + 3, none⟩) hb).trans (hr 3 (by simp [recVal]))⟩
          have HST : Hid (∀ u wq, IsInts wq u (Rc.with_ (Rc.with_ (yfold (B.take k) XA) r.y0) r.y1) → Kp w2 wq none → YRel w2 B XA u (.int .i64 (k + 1)) wq) := Lib.hid fun u wq h1 h2 => yrel_step hlt (by rw [hx]; exact h1) h2
          have hxl := yfold_len B XA k hk
          try simp only [List.length_nil, Nat.zero_add] at hxl
          clear hx hr
          obtain ⟨q0, hq0⟩ : ∃ q, r.y0 = q := ⟨_, rfl⟩
          obtain ⟨q1, hq1⟩ : ∃ q, r.y1 = q := ⟨_, rfl⟩
          rw [hq0, hq1] at C0 HST
          clear hq0 hq1
          generalize yfold (B.take k) XA = xs at *
          have c0 := C0.out wr HK.out
          go_wp2_with fail
          refine wp_region_held_drew (S := fun w1 => w1.cell? ⟨b, off + k * 4 + 1, none⟩ = some (.int .i64 q0) ∧ w1.cell? ⟨b, off + k * 4 + 3, none⟩ = some (.int .i64 q1)) (by kernel_rfl) ?_ (fun hHeld => ?_)
          · exact c0
          refine wpAnyH_take (i := 0) (oi := _) (v := ?_) rfl (by kernel_rfl) (by kernel_rfl) (by kernel_rfl) (fun _ _ _ h => h) (Or.inl ⟨by rfl, ?_⟩) (by assumption) ?_
          rotate_left
          · (intro w hSw; (try dsimp only at hSw); go_simp <;> with_reducible rfl)
          try simp only [Act.put, List.getElem_toArray, List.getElem_cons_zero, List.setIfInBounds_toArray, List.set_cons_zero, List.set_cons_succ]
          refine wpAnyH_take (i := 1) (oi := _) (v := ?_) rfl (by kernel_rfl) (by kernel_rfl) (by kernel_rfl) (fun _ _ _ h => h) (Or.inl ⟨by rfl, ?_⟩) (by assumption) ?_
          rotate_left
          · (intro w hSw; (try dsimp only at hSw); go_simp <;> with_reducible rfl)
          try simp only [Act.put, List.getElem_toArray, List.getElem_cons_zero, List.getElem_cons_succ, List.setIfInBounds_toArray, List.set_cons_zero, List.set_cons_succ]
          refine wpAnyH_take (i := 2) (oi := _) (v := ?_) rfl (by kernel_rfl) (by kernel_rfl) (by kernel_rfl) (fun _ _ _ h => h) (Or.inl ⟨by rfl, ?_⟩) (by assumption) ?_
          rotate_left
          · (intro w hSw; (try dsimp only at hSw); go_simp <;> with_reducible rfl)
          try simp only [Act.put, List.getElem_toArray, List.getElem_cons_zero, List.getElem_cons_succ, List.setIfInBounds_toArray, List.set_cons_zero, List.set_cons_succ]
          refine wpAnyH_take (i := 3) (oi := _) (v := ?_) rfl (by kernel_rfl) (by kernel_rfl) (by kernel_rfl) (fun _ _ _ h => h) (Or.inl ⟨by rfl, ?_⟩) (by assumption) ?_
          rotate_left
          · (intro w hSw; (try dsimp only at hSw); go_simp <;> with_reducible rfl)
          try simp only [Act.put, List.getElem_toArray, List.getElem_cons_zero, List.getElem_cons_succ, List.setIfInBounds_toArray, List.set_cons_zero, List.set_cons_succ]
          refine wpAnyH_take (i := 4) (oi := _) (v := ?_) rfl (by kernel_rfl) (by kernel_rfl) (by kernel_rfl) (fun _ _ _ h => h) (Or.inl ⟨by rfl, ?_⟩) (by assumption) ?_
          rotate_left
          · (intro w hSw; (try dsimp only at hSw); go_simp <;> with_reducible rfl)
          try simp only [Act.put, List.getElem_toArray, List.getElem_cons_zero, List.getElem_cons_succ, List.setIfInBounds_toArray, List.set_cons_zero, List.set_cons_succ]
          refine wpAnyH_take (i := 5) (oi := _) (v := ?_) rfl (by kernel_rfl) (by kernel_rfl) (by kernel_rfl) (fun _ _ _ h => h) (Or.inl ⟨by rfl, ?_⟩) (by assumption) ?_
          rotate_left
          · (intro w hSw; (try dsimp only at hSw); go_simp <;> with_reducible rfl)
          try simp only [Act.put, List.getElem_toArray, List.getElem_cons_zero, List.getElem_cons_succ, List.setIfInBounds_toArray, List.set_cons_zero, List.set_cons_succ]
          refine wpAnyH_take (i := 7) (oi := _) (v := ?_) rfl (by kernel_rfl) (by kernel_rfl) (by kernel_rfl) (fun _ _ _ h => h) (Or.inl ⟨by rfl, ?_⟩) (by assumption) ?_
          rotate_left
          · (intro w hSw; (try dsimp only at hSw); go_simp <;> with_reducible rfl)
          try simp only [Act.put, List.getElem_toArray, List.getElem_cons_zero, List.getElem_cons_succ, List.setIfInBounds_toArray, List.set_cons_zero, List.set_cons_succ]
          refine wpAnyH_take (i := 8) (oi := _) (v := ?_) rfl (by kernel_rfl) (by kernel_rfl) (by kernel_rfl) (fun _ _ _ h => h) (Or.inl ⟨by rfl, ?_⟩) (by assumption) ?_
          rotate_left
          · (intro w hSw; (try dsimp only at hSw); go_simp <;> with_reducible rfl)
          try simp only [Act.put, List.getElem_toArray, List.getElem_cons_zero, List.getElem_cons_succ, List.setIfInBounds_toArray, List.set_cons_zero, List.set_cons_succ]
          refine wpAnyH_take (i := 9) (oi := _) (v := ?_) rfl (by kernel_rfl) (by kernel_rfl) (by kernel_rfl) (fun _ _ _ h => h) (Or.inl ⟨by rfl, ?_⟩) (by assumption) ?_
          rotate_left
          · (intro w hSw; (try dsimp only at hSw); go_simp <;> with_reducible rfl)
          try simp only [Act.put, List.getElem_toArray, List.getElem_cons_zero, List.getElem_cons_succ, List.setIfInBounds_toArray, List.set_cons_zero, List.set_cons_succ]
          refine wpAnyH_take (i := 10) (oi := _) (v := ?_) rfl (by kernel_rfl) (by kernel_rfl) (by kernel_rfl) (fun _ _ _ h => h) (Or.inl ⟨by rfl, ?_⟩) (by assumption) ?_
          rotate_left
          · (intro w hSw; (try dsimp only at hSw); go_simp <;> with_reducible rfl)
          try simp only [Act.put, List.getElem_toArray, List.getElem_cons_zero, List.getElem_cons_succ, List.setIfInBounds_toArray, List.set_cons_zero, List.set_cons_succ]
          refine wpAnyH_take (i := 11) (oi := _) (v := ?_) rfl (by kernel_rfl) (by kernel_rfl) (by kernel_rfl) (fun _ _ _ h => h) (Or.inl ⟨by rfl, ?_⟩) (by assumption) ?_
          rotate_left
          · (intro w hSw; (try dsimp only at hSw); go_simp <;> with_reducible rfl)
          try simp only [Act.put, List.getElem_toArray, List.getElem_cons_zero, List.getElem_cons_succ, List.setIfInBounds_toArray, List.set_cons_zero, List.set_cons_succ]
          refine wpAnyH_ready (rs := [6]) (by kernel_rfl) (by simp) ?_
          refine AllReadyH.cons (o := _) rfl (fun K hK => ?_) AllReadyH.nil
          clear hHeld
          go_simp
          refine (with_any _ xs q0 _ (HV.out.keep (Kp.refl wr none).drew) (by omega)).mono ?_
          rintro E w3 ⟨u3, rfl, h3, k3⟩
          have HV3 := Lib.hid h3
          have HK3 := Lib.hid (HK.out.drew.trans k3)
          have hxl3 := Rc.with_length xs q0
          clear h3 k3
          try go_wp2_with fail
          refine hK.out _ _ (C0.out _ HK3.out) (fun hHeld => ?_)
          clear hK K
          try simp only [Act.put, List.getElem_toArray, List.getElem_cons_zero, List.getElem_cons_succ, List.setIfInBounds_toArray, List.set_cons_zero, List.set_cons_succ]
          refine wpAnyH_ready (rs := [12]) (by kernel_rfl) (by simp) ?_
          refine AllReadyH.cons (o := _) rfl (fun K hK => ?_) AllReadyH.nil
          clear hHeld
          go_simp
          refine (with_any _ (Rc.with_ xs q0) q1 _ HV3.out (by omega)).mono ?_
          rintro E w4 ⟨u4, rfl, h4, k4⟩
          have HV4 := Lib.hid h4
          have HK4 := Lib.hid (HK3.out.trans k4)
          clear h4 k4
          try go_wp2_with fail
          refine hK.out _ _ (C0.out _ HK4.out) (fun hHeld => ?_)
          clear hK K
          try simp only [Act.put, List.getElem_toArray, List.getElem_cons_zero, List.getElem_cons_succ, List.setIfInBounds_toArray, List.set_cons_zero, List.set_cons_succ]
          refine wpAnyH_ready (rs := [13]) (by kernel_rfl) (by simp) ?_
          refine AllReadyH.cons (o := _) rfl (fun K hK => ?_) AllReadyH.nil
          clear hHeld
          go_simp
          try go_wp2_with fail
          refine hK.out _ _ (C0.out _ HK4.out) (fun hHeld => ?_)
          clear hK K hHeld
          refine wpAnyH_done (by kernel_rfl) ?_ _
          go_wp2_with fail
          go_roundw
          case rel => exact HST.out _ _ HV4.out HK4.out
          case measure => simp [intOf]; omega
        · have hkx : k = B.length := by omega
          have hk1 : ¬ (k : Int) < (B.length : Int) := by omega
          have HV2 : Hid (IsInts wr _ (yfold B XA)) := Lib.hid (by have := HV.out; rw [hkx, List.take_length] at this; exact this)
          have KW2 := Lib.hid HK.out
          have hlx2 := yfold_len B XA B.length (Nat.le_refl _)
          rw [List.take_length] at hlx2
          clear HV HK hkx
          obtain ⟨ys, hXB⟩ : ∃ ys, yfold B XA = ys := ⟨_, rfl⟩
          rw [hXB] at HV2 hlx2 HFIN
          have hlx : ys.length ≤ 16384 := by omega
          clear hlx2 hXB hlX HV1
          obtain ⟨aox, capx, rfl, fx⟩ := HV2.out.form
          have FX := Lib.hid fx
          clear fx HV2
          have HA3 := Lib.hid (HUA2.out.keep KW2.out)
          have HB3 := Lib.hid (HUB2.out.keep KW2.out)
          have K3 := Lib.hid (K2.out.trans KW2.out)
          clear HUA2 HUB2 FA FB KW2 KW1 K2
          rename World => W3
          go_wp2_with fail
          go_loopw [10, 11, 12] (fun v l i wq => BRel W3 row ys fin v l i wq) (fun _ _ i _ => ys.length - (intOf i).toNat)
          case atStart => exact ⟨0, [], [], none, 0, Nat.zero_le _, rfl, by simp, by simp, by simp, rfl, LiesOff.none, HFIN.out, World.ownsRow_nil _ _ _ _, Kp.refl _ _⟩
          case round =>
            obtain ⟨k, out, last, lao, lcap, hk, rfl, hol, hll, hlo, rfl, hlast, hfill, hown, hK⟩ := hrel
            have HF := Lib.hid hfill
            have HO := Lib.hid hown
            have HK := Lib.hid hK
            have HL := Lib.hid hlast
            have hWs := HK.out.size
            clear hfill hown hK hlast
            have hk0 : (0 : Int) ≤ (k : Int) := Int.natCast_nonneg _
            have hk9 : (0 : Int) ≤ (k : Int) + 1 := by omega
            by_cases hlt : k + 1 < ys.length
            · have hk1 : (k : Int) + 1 < (ys.length : Int) := by omega
              have hwk : IntKind.i64.wrap ((k : Int) + 1) = (k : Int) + 1 := wrap_nat (n := k + 1) (by omega)
              have hk2 : (k : Int) < (ys.length : Int) := by omega
              have hol2 : out.length ≤ 16384 * 16384 := Nat.le_trans hol (Nat.mul_le_mul_right _ (by omega))
              obtain ⟨b, off, rfl, hb, hc, hr⟩ := FX.out.int k (by omega)
              obtain ⟨y, hy⟩ : ∃ y, ys[k] = y := ⟨_, rfl⟩
              obtain ⟨z, hz⟩ : ∃ z, ys[k + 1] = z := ⟨_, rfl⟩
              obtain ⟨now, hnow⟩ : ∃ now, row y = now := ⟨_, rfl⟩
              have C0 : Hid (∀ W, Kp W3 W none → W.cell? ⟨b, off + k, none⟩ = some (.int .i64 y) ∧ W.cell? ⟨b, off + (k + 1), none⟩ = some (.int .i64 z)) := Lib.hid fun W kW => ⟨(kW.below.cell (p := ⟨b, off + k, none⟩) hb).trans (by rw [← hy]; exact hr k (by omega)), (kW.below.cell (p := ⟨b, off + (k + 1), none⟩) hb).trans (by rw [← hz]; exact hr (k + 1) hlt)⟩
              have HF2 : Hid (Rc.bands row (ys.drop (k + 1)) (if now = last then Rc.lift out now.length z else out ++ now.map fun s => ⟨s.1, y, s.2, z⟩) now = fin) := Lib.hid (by rw [← hnow, ← hy, ← hz, ← bands_two hlt]; exact HF.out)
              have WN := rrow_any n hn _ _ A B y wr (HA3.out.keep HK.out) (HB3.out.keep HK.out) (by omega) (by omega)
              have hnl : now.length ≤ 16384 := by have h := Rc.row_len (kindOf n) A B y; rw [← HROW.out, hnow] at h; omega
              rw [← HROW.out, hnow] at WN
              clear hy hz hr HF hnow
              have c0 := C0.out wr HK.out
              go_wp2_with fail
              refine WN.mono ?_
              rintro E w5 ⟨un, rfl, hun, k5⟩
              obtain ⟨nao, ncap, rfl, hno⟩ := liesOff_new (m := 2) (f := spanVal) (fun _ => rfl) hun HO.out
              have HN := Lib.hid hno
              have HO5 := Lib.hid (HO.out.kept k5 (by cases u10.ownBlock <;> simp))
              have HK5 := Lib.hid (HK.out.trans k5)
              have HL5 := Lib.hid (HL.out.keep (k5.weak _))
              have c5 := C0.out w5 HK5.out
              clear hun hno k5 HO HK HL c0 hWs
              have hnn : (0 : Int) ≤ (now.length : Int) := Int.natCast_nonneg _
              by_cases h0 : 0 < now.length
              · have hn0 : (0 : Int) < (now.length : Int) := by omega
                go_wp2_with fail
                refine (same_any _ _ now last w5 HN.out.at.list HL5.out.at.list (by omega)).mono ?_
                rintro E w6 ⟨rfl, hd⟩
                have K56 : Hid (Kp w5 w6 none) := Lib.hid (by obtain ⟨m, rfl⟩ := hd; exact (Kp.refl _ _).drewN m)
                clear hd
                by_cases he : now = last
                · have hed : decide (now = last) = true := by simpa using he
                  rw [hed]
                  have HF3 : Hid (Rc.bands row (ys.drop (k + 1)) (Rc.lift out now.length z) now = fin) := Lib.hid (by
                    have h := HF2.out
                    rw [if_pos he] at h
                    exact h)
                  have hno : now.length ≤ out.length := by rw [he]; exact hlo
                  clear HF2 he hed
                  have HO6 := Lib.hid (HO5.out.kept K56.out (by cases u10.ownBlock <;> simp))
                  obtain ⟨bo, cap, rfl, hbo⟩ := own_form HO5.out
                  obtain ⟨g, rfl⟩ := hbo (by omega)
                  have HN6 := Lib.hid (HN.out.keep (K56.out.weak _))
                  have K6 := Lib.hid (HK5.out.trans K56.out)
                  clear HN HO5 HL5 c5
                  go_wp2_with fail
                  go_loopw [14] (fun i wq => HRel W3 w6 out now.length z (.slice (some ⟨g, 0, none⟩) out.length cap) i wq) (fun i _ => now.length - (intOf i).toNat)
                  case atStart => exact ⟨0, Nat.zero_le _, rfl, by rw [Rc.lift_zero]; exact HO6.out, Kp.refl _ _⟩
                  case round =>
                    obtain ⟨j, hj, rfl, hown, hK⟩ := hrel
                    have HO7 := Lib.hid hown
                    have HK7 := Lib.hid hK
                    have K7 : Hid (Kp W3 wr none) := Lib.hid (Kp.of_own K6.out hK (HO6.out.lt g rfl).1)
                    clear hown hK
                    have hj0 : (0 : Int) ≤ (j : Int) := Int.natCast_nonneg _
                    by_cases hjt : j < now.length
                    · have hj1 : (j : Int) < (now.length : Int) := by omega
                      have c7 := C0.out wr K7.out
                      have OL := own_lift HO7.out (j := j) (z := z) (by omega)
                      obtain ⟨p, hp⟩ : ∃ p, out.length - 1 - j = p := ⟨_, rfl⟩
                      rw [hp] at OL
                      obtain ⟨⟨u0, o1⟩, o2, o3, o4⟩ := OL
                      have hp1 : (out.length : Int) - 1 - (j : Int) = (p : Int) := by omega
                      have hp2 : (p : Int) < (out.length : Int) := by omega
                      have hp3 : (0 : Int) ≤ (p : Int) := by omega
                      have HR7 : Hid (HRel W3 w6 out now.length z (.slice (some ⟨g, 0, none⟩) out.length cap) (.int .i64 (j + 1)) (wr.setCell ⟨g, p * 4 + 3, none⟩ (.int .i64 z))) := Lib.hid ⟨j + 1, hjt, by go_num, o3, HK7.out.trans o4⟩
                      clear o3 o4 hp
                      go_wp2_with fail
                      go_roundw
                      case rel => exact HR7.out
                      case measure => simp [intOf]; omega
                    · have hj1 : ¬ (j : Int) < (now.length : Int) := by omega
                      have hjn : j = now.length := by omega
                      have HN7 := Lib.hid (HN6.out.keep HK7.out)
                      have HO8 : Hid (wr.ownsRow W3.heap.size 44 4 (.slice (some ⟨g, 0, none⟩) out.length cap) (Rc.lift out now.length z).length ((Rc.lift out now.length z).flatMap recVal)) := Lib.hid (by have := HO7.out; rw [hjn] at this; rw [lift_len]; exact this)
                      clear hjn HN6 HO6 HO7
                      go_wp2_with fail
                      go_roundw
                      case rel => exact ⟨k + 1, Rc.lift out now.length z, now, nao, ncap, by omega, by go_num, by rw [lift_len, Nat.add_mul]; omega, hnl, by rw [lift_len]; exact hno, rfl, HN7.out, HF3.out, HO8.out, K7.out⟩
                      case measure => simp [intOf]; omega
                · have hed : decide (now = last) = false := by simpa using he
                  rw [hed]
                  have HF3 : Hid (Rc.bands row (ys.drop (k + 1)) (out ++ now.map fun s => ⟨s.1, y, s.2, z⟩) now = fin) := Lib.hid (by
                    have h := HF2.out
                    rw [if_neg he] at h
                    exact h)
                  clear HF2 he hed
                  go_wp2_with fail
                  have HA5 : Hid (LiesOff 2 spanVal w6 nao ncap now u10) := Lib.hid (HN.out.keep (K56.out.weak _))
                  go_loopw [10, 15] (fun v i wq => ARel W3 out now y z nao ncap v i wq) (fun _ i _ => now.length - (intOf i).toNat)
                  case atStart => exact ⟨0, Nat.zero_le _, rfl, HA5.out, by simpa using (HO5.out.kept K56.out (by cases u10.ownBlock <;> simp)), HK5.out.trans K56.out⟩
                  case round =>
                    obtain ⟨j, hj, rfl, hn6, hown, hK⟩ := hrel
                    have HN6 := Lib.hid hn6
                    have HO6 := Lib.hid hown
                    have HK6 := Lib.hid hK
                    clear hn6 hown hK HA5
                    have hj0 : (0 : Int) ≤ (j : Int) := Int.natCast_nonneg _
                    by_cases hjt : j < now.length
                    · have hj1 : (j : Int) < (now.length : Int) := by omega
                      obtain ⟨b2, off2, rfl, hb2, hc2, hv2, hr2⟩ := HN6.out j hjt
                      obtain ⟨s, hs⟩ : ∃ s, now[j] = s := ⟨_, rfl⟩
                      have C4 : Hid (∀ w1, Kp W3 w1 none → wr.grownBy w1 u10.ownBlock → w1.cell? ⟨b2, off2 + j * 2, none⟩ = some (.int .i64 s.1) ∧ w1.cell? ⟨b2, off2 + j * 2 + 1, none⟩ = some (.int .i64 s.2) ∧ w1.cell? ⟨b, off + k, none⟩ = some (.int .i64 y) ∧ w1.cell? ⟨b, off + (k + 1), none⟩ = some (.int .i64 z)) := Lib.hid fun w1 k0 k1 => by
                          have h := C0.out w1 k0
                          subst hs
                          exact ⟨(World.grownBy.cell_far k1 ⟨b2, off2 + j * 2 + 0, none⟩ hb2 (fun e => hv2 e.symm)).trans (hr2 0 (by simp [spanVal])), (World.grownBy.cell_far k1 ⟨b2, off2 + j * 2 + 1, none⟩ hb2 (fun e => hv2 e.symm)).trans (hr2 1 (by simp [spanVal])), h.1, h.2⟩
                      have HST : Hid (∀ v wq, wq.ownsRow W3.heap.size 44 4 v (out.length + j + [(⟨s.1, y, s.2, z⟩ : Rc.Rect)].length) ((out ++ (now.take j).map fun s => (⟨s.1, y, s.2, z⟩ : Rc.Rect)).flatMap recVal ++ [(⟨s.1, y, s.2, z⟩ : Rc.Rect)].flatMap recVal) → Kp W3 wq none → wr.grownBy wq u10.ownBlock → (v.ownBlock = u10.ownBlock ∨ ∃ n, wr.heap.size ≤ n ∧ v.ownBlock = some n) → ARel W3 out now y z (some ⟨b2, off2, none⟩) ncap v (.int .i64 (j + 1)) wq) := Lib.hid fun v wq h1 h2 h3 h4 => arel_step hjt HN6.out (by rw [hs]; exact h1) h2 h3 h4
                      clear hs hr2
                      go_wp2_with fail
                      refine wp_region_held_drew (S := fun w1 => w1.cell? ⟨b2, off2 + j * 2, none⟩ = some (.int .i64 s.1) ∧ w1.cell? ⟨b2, off2 + j * 2 + 1, none⟩ = some (.int .i64 s.2) ∧ w1.cell? ⟨b, off + k, none⟩ = some (.int .i64 y) ∧ w1.cell? ⟨b, off + (k + 1), none⟩ = some (.int .i64 z)) (by kernel_rfl) ?_ (fun hHeld => ?_)
                      · exact C4.out _ HK6.out.drew ((Kp.refl wr none).drew.weak _)
                      refine wpAnyH_take (i := 0) (oi := _) (v := ?_) rfl (by kernel_rfl) (by kernel_rfl) (by kernel_rfl) (fun _ _ _ h => h) (Or.inl ⟨by rfl, ?_⟩) (by assumption) ?_
                      rotate_left
                      · (intro w hSw; (try dsimp only at hSw); go_simp <;> with_reducible rfl)
                      try simp only [Act.put, List.getElem_toArray, List.getElem_cons_zero, List.setIfInBounds_toArray, List.set_cons_zero, List.set_cons_succ]
                      refine wpAnyH_take (i := 1) (oi := _) (v := ?_) rfl (by kernel_rfl) (by kernel_rfl) (by kernel_rfl) (fun _ _ _ h => h) (Or.inl ⟨by rfl, ?_⟩) (by assumption) ?_
                      rotate_left
                      · (intro w hSw; (try dsimp only at hSw); go_simp <;> with_reducible rfl)
                      try simp only [Act.put, List.getElem_toArray, List.getElem_cons_zero, List.getElem_cons_succ, List.setIfInBounds_toArray, List.set_cons_zero, List.set_cons_succ]
                      refine wpAnyH_take (i := 2) (oi := _) (v := ?_) rfl (by kernel_rfl) (by kernel_rfl) (by kernel_rfl) (fun _ _ _ h => h) (Or.inl ⟨by rfl, ?_⟩) (by assumption) ?_
                      rotate_left
                      · (intro w hSw; (try dsimp only at hSw); go_simp <;> with_reducible rfl)
                      try simp only [Act.put, List.getElem_toArray, List.getElem_cons_zero, List.getElem_cons_succ, List.setIfInBounds_toArray, List.set_cons_zero, List.set_cons_succ]
                      refine wpAnyH_take (i := 3) (oi := _) (v := ?_) rfl (by kernel_rfl) (by kernel_rfl) (by kernel_rfl) (fun _ _ _ h => h) (Or.inl ⟨by rfl, ?_⟩) (by assumption) ?_
                      rotate_left
                      · (intro w hSw; (try dsimp only at hSw); go_simp <;> with_reducible rfl)
                      try simp only [Act.put, List.getElem_toArray, List.getElem_cons_zero, List.getElem_cons_succ, List.setIfInBounds_toArray, List.set_cons_zero, List.set_cons_succ]
                      refine wpAnyH_take (i := 4) (oi := _) (v := ?_) rfl (by kernel_rfl) (by kernel_rfl) (by kernel_rfl) (fun _ _ _ h => h) (Or.inl ⟨by rfl, ?_⟩) (by assumption) ?_
                      rotate_left
                      · (intro w hSw; (try dsimp only at hSw); go_simp <;> with_reducible rfl)
                      try simp only [Act.put, List.getElem_toArray, List.getElem_cons_zero, List.getElem_cons_succ, List.setIfInBounds_toArray, List.set_cons_zero, List.set_cons_succ]
                      refine wpAnyH_take (i := 5) (oi := _) (v := ?_) rfl (by kernel_rfl) (by kernel_rfl) (by kernel_rfl) (fun _ _ _ h => h) (Or.inl ⟨by rfl, ?_⟩) (by assumption) ?_
                      rotate_left
                      · (intro w hSw; (try dsimp only at hSw); go_simp <;> with_reducible rfl)
                      try simp only [Act.put, List.getElem_toArray, List.getElem_cons_zero, List.getElem_cons_succ, List.setIfInBounds_toArray, List.set_cons_zero, List.set_cons_succ]
                      refine wpAnyH_take (i := 6) (oi := _) (v := ?_) rfl (by kernel_rfl) (by kernel_rfl) (by kernel_rfl) (fun _ _ _ h => h) (Or.inl ⟨by rfl, ?_⟩) (by assumption) ?_
                      rotate_left
                      · (intro w hSw; (try dsimp only at hSw); go_simp <;> with_reducible rfl)
                      try simp only [Act.put, List.getElem_toArray, List.getElem_cons_zero, List.getElem_cons_succ, List.setIfInBounds_toArray, List.set_cons_zero, List.set_cons_succ]
                      refine wpAnyH_take (i := 7) (oi := _) (v := ?_) rfl (by kernel_rfl) (by kernel_rfl) (by kernel_rfl) (fun _ _ _ h => h) (Or.inl ⟨by rfl, ?_⟩) (by assumption) ?_
                      rotate_left
                      · (intro w hSw; (try dsimp only at hSw); go_simp <;> with_reducible rfl)
                      try simp only [Act.put, List.getElem_toArray, List.getElem_cons_zero, List.getElem_cons_succ, List.setIfInBounds_toArray, List.set_cons_zero, List.set_cons_succ]
                      refine wpAnyH_take (i := 8) (oi := _) (v := ?_) rfl (by kernel_rfl) (by kernel_rfl) (by kernel_rfl) (fun _ _ _ h => h) (Or.inl ⟨by rfl, ?_⟩) (by assumption) ?_
                      rotate_left
                      · (intro w hSw; (try dsimp only at hSw); go_simp <;> with_reducible rfl)
                      try simp only [Act.put, List.getElem_toArray, List.getElem_cons_zero, List.getElem_cons_succ, List.setIfInBounds_toArray, List.set_cons_zero, List.set_cons_succ]
                      refine wpAnyH_take (i := 9) (oi := _) (v := ?_) rfl (by kernel_rfl) (by kernel_rfl) (by kernel_rfl) (fun _ _ _ h => h) (Or.inl ⟨by rfl, ?_⟩) (by assumption) ?_
                      rotate_left
                      · (intro w hSw; (try dsimp only at hSw); go_simp <;> with_reducible rfl)
                      try simp only [Act.put, List.getElem_toArray, List.getElem_cons_zero, List.getElem_cons_succ, List.setIfInBounds_toArray, List.set_cons_zero, List.set_cons_succ]
                      refine wpAnyH_take (i := 10) (oi := _) (v := ?_) rfl (by kernel_rfl) (by kernel_rfl) (by kernel_rfl) (fun _ _ _ h => h) (Or.inl ⟨by rfl, ?_⟩) (by assumption) ?_
                      rotate_left
                      · (intro w hSw; (try dsimp only at hSw); go_simp <;> with_reducible rfl)
                      try simp only [Act.put, List.getElem_toArray, List.getElem_cons_zero, List.getElem_cons_succ, List.setIfInBounds_toArray, List.set_cons_zero, List.set_cons_succ]
                      refine wpAnyH_take (i := 11) (oi := _) (v := ?_) rfl (by kernel_rfl) (by kernel_rfl) (by kernel_rfl) (fun _ _ _ h => h) (Or.inl ⟨by rfl, ?_⟩) (by assumption) ?_
                      rotate_left
                      · (intro w hSw; (try dsimp only at hSw); go_simp <;> with_reducible rfl)
                      try simp only [Act.put, List.getElem_toArray, List.getElem_cons_zero, List.getElem_cons_succ, List.setIfInBounds_toArray, List.set_cons_zero, List.set_cons_succ]
                      refine wpAnyH_take (i := 12) (oi := _) (v := ?_) rfl (by kernel_rfl) (by kernel_rfl) (by kernel_rfl) (fun _ _ _ h => h) (Or.inl ⟨by rfl, ?_⟩) (by assumption) ?_
                      rotate_left
                      · (intro w hSw; (try dsimp only at hSw); go_simp <;> with_reducible rfl)
                      try simp only [Act.put, List.getElem_toArray, List.getElem_cons_zero, List.getElem_cons_succ, List.setIfInBounds_toArray, List.set_cons_zero, List.set_cons_succ]
                      refine wpAnyH_take (i := 13) (oi := _) (v := ?_) rfl (by kernel_rfl) (by kernel_rfl) (by kernel_rfl) (fun _ _ _ h => h) (Or.inl ⟨by rfl, ?_⟩) (by assumption) ?_
                      rotate_left
                      · (intro w hSw; (try dsimp only at hSw); go_simp <;> with_reducible rfl)
                      try simp only [Act.put, List.getElem_toArray, List.getElem_cons_zero, List.getElem_cons_succ, List.setIfInBounds_toArray, List.set_cons_zero, List.set_cons_succ]
                      refine wpAnyH_take (i := 14) (oi := _) (v := ?_) rfl (by kernel_rfl) (by kernel_rfl) (by kernel_rfl) (fun _ _ _ h => h) (Or.inl ⟨by rfl, ?_⟩) (by assumption) ?_
                      rotate_left
                      · (intro w hSw; (try dsimp only at hSw); go_simp <;> with_reducible rfl)
                      try simp only [Act.put, List.getElem_toArray, List.getElem_cons_zero, List.getElem_cons_succ, List.setIfInBounds_toArray, List.set_cons_zero, List.set_cons_succ]
                      refine wpAnyH_take (i := 15) (oi := _) (v := ?_) rfl (by kernel_rfl) (by kernel_rfl) (by kernel_rfl) (fun _ _ _ h => h) (Or.inl ⟨by rfl, ?_⟩) (by assumption) ?_
                      rotate_left
                      · (intro w hSw; (try dsimp only at hSw); go_simp <;> with_reducible rfl)
                      try simp only [Act.put, List.getElem_toArray, List.getElem_cons_zero, List.getElem_cons_succ, List.setIfInBounds_toArray, List.set_cons_zero, List.set_cons_succ]
                      refine wpAnyH_take (i := 16) (oi := _) (v := ?_) rfl (by kernel_rfl) (by kernel_rfl) (by kernel_rfl) (fun _ _ _ h => h) (Or.inl ⟨by rfl, ?_⟩) (by assumption) ?_
                      rotate_left
                      · (intro w hSw; (try dsimp only at hSw); go_simp <;> with_reducible rfl)
                      try simp only [Act.put, List.getElem_toArray, List.getElem_cons_zero, List.getElem_cons_succ, List.setIfInBounds_toArray, List.set_cons_zero, List.set_cons_succ]
                      refine wpAnyH_take (i := 17) (oi := _) (v := ?_) rfl (by kernel_rfl) (by kernel_rfl) (by kernel_rfl) (fun _ _ _ h => h) (Or.inl ⟨by rfl, ?_⟩) (by assumption) ?_
                      rotate_left
                      · (intro w hSw; (try dsimp only at hSw); go_simp <;> with_reducible rfl)
                      try simp only [Act.put, List.getElem_toArray, List.getElem_cons_zero, List.getElem_cons_succ, List.setIfInBounds_toArray, List.set_cons_zero, List.set_cons_succ]
                      refine wpAnyH_take (i := 18) (oi := _) (v := ?_) rfl (by kernel_rfl) (by kernel_rfl) (by kernel_rfl) (fun _ _ _ h => h) (Or.inl ⟨by rfl, ?_⟩) (by assumption) ?_
                      rotate_left
                      · (intro w hSw; (try dsimp only at hSw); go_simp <;> with_reducible rfl)
                      try simp only [Act.put, List.getElem_toArray, List.getElem_cons_zero, List.getElem_cons_succ, List.setIfInBounds_toArray, List.set_cons_zero, List.set_cons_succ]
                      refine wpAnyH_take (i := 19) (oi := _) (v := ?_) rfl (by kernel_rfl) (by kernel_rfl) (by kernel_rfl) (fun _ _ _ h => h) (Or.inl ⟨by rfl, ?_⟩) (by assumption) ?_
                      rotate_left
                      · (intro w hSw; (try dsimp only at hSw); go_simp <;> with_reducible rfl)
                      try simp only [Act.put, List.getElem_toArray, List.getElem_cons_zero, List.getElem_cons_succ, List.setIfInBounds_toArray, List.set_cons_zero, List.set_cons_succ]
                      refine wpAnyH_take (i := 20) (oi := _) (v := ?_) rfl (by kernel_rfl) (by kernel_rfl) (by kernel_rfl) (fun _ _ _ h => h) (Or.inl ⟨by rfl, ?_⟩) (by assumption) ?_
                      rotate_left
                      · (intro w hSw; (try dsimp only at hSw); go_simp <;> with_reducible rfl)
                      try simp only [Act.put, List.getElem_toArray, List.getElem_cons_zero, List.getElem_cons_succ, List.setIfInBounds_toArray, List.set_cons_zero, List.set_cons_succ]
                      refine wpAnyH_ready (rs := [21]) (by kernel_rfl) (by simp) ?_
                      refine AllReadyH.cons (o := _) rfl (fun K hK => ?_) AllReadyH.nil
                      clear hHeld
                      go_simp
                      try go_wp2_with fail
                      refine hK.out _ _ (C4.out _ (HK6.out.drew.alloc _) (((Kp.refl wr none).drew.alloc _).weak _)) (fun hHeld => ?_)
                      clear hK K
                      try simp only [Act.put, List.getElem_toArray, List.getElem_cons_zero, List.getElem_cons_succ, List.setIfInBounds_toArray, List.set_cons_zero, List.set_cons_succ]
                      refine wpAnyH_ready (rs := [22]) (by kernel_rfl) (by simp) ?_
                      refine AllReadyH.cons (o := _) rfl (fun K hK => ?_) AllReadyH.nil
                      clear hHeld
                      refine step_app (f := recVal) rfl (.tmp 106) (.tmp 127) W3.heap.size 22 44 rfl i0 _ 4 32 Try.underlying22 hi hz0 hz1 hz2 rfl (by omega) (fun _ => rfl) rec_one _ (out.length + j) ((out ++ (now.take j).map fun s => (⟨s.1, y, s.2, z⟩ : Rc.Rect)).flatMap recVal) rfl (HO6.out.kept ((Kp.refl wr none).drew.alloc (Obj.cells #[.int .i64 s.1, .int .i64 y, .int .i64 s.2, .int .i64 z] 44)) (by cases u10.ownBlock <;> simp)) _ [(⟨s.1, y, s.2, z⟩ : Rc.Rect)] rfl (rects_one wr.drew s.1 y s.2 z) (by unfold maxLen; simp; omega) (by simp; omega) (HK6.out.drew.alloc (Obj.cells #[.int .i64 s.1, .int .i64 y, .int .i64 s.2, .int .i64 z] 44)).size ?_
                      intro v7 w7 ho hg hb7
                      have KA := Lib.hid (Kp.row (HK6.out.drew.alloc (Obj.cells #[.int .i64 s.1, .int .i64 y, .int .i64 s.2, .int .i64 z] 44)) hg (fun j hj => (HO6.out.lt j hj).1))
                      have KB : Hid (wr.grownBy w7 u10.ownBlock) := Lib.hid ((((Kp.refl wr none).drew.alloc _).weak _).trans hg)
                      have HR7 := Lib.hid (HST.out v7 w7 ho KA.out KB.out (hb7.imp_right fun e => ⟨_, (HK6.out.drew.alloc (Obj.cells #[.int .i64 s.1, .int .i64 y, .int .i64 s.2, .int .i64 z] 44)) |> fun _ => by simp, e⟩))
                      clear ho hg hb7
                      try simp only [Act.put, List.getElem_toArray, List.getElem_cons_zero, List.getElem_cons_succ, List.setIfInBounds_toArray, List.set_cons_zero, List.set_cons_succ]
                      refine hK _ _ (C4.out _ KA.out KB.out) (fun hHeld => ?_)
                      clear hK K
                      refine wpAnyH_ready (rs := [23]) (by kernel_rfl) (by simp) ?_
                      refine AllReadyH.cons (o := _) rfl (fun K hK => ?_) AllReadyH.nil
                      clear hHeld
                      go_simp
                      try go_wp2_with fail
                      refine hK.out _ _ (C4.out _ KA.out KB.out) (fun hHeld => ?_)
                      clear hK K hHeld
                      refine wpAnyH_done (by kernel_rfl) ?_ _
                      go_wp2_with fail
                      go_roundw
                      case rel => exact HR7.out
                      case measure => simp [intOf]; omega
                    · have hj1 : ¬ (j : Int) < (now.length : Int) := by omega
                      have hjn : j = now.length := by omega
                      have HN7 := HN6
                      have HO7 : Hid (wr.ownsRow W3.heap.size 44 4 u10 (out ++ now.map fun s => (⟨s.1, y, s.2, z⟩ : Rc.Rect)).length ((out ++ now.map fun s => (⟨s.1, y, s.2, z⟩ : Rc.Rect)).flatMap recVal) ) := Lib.hid (by have := HO6.out; rw [hjn, List.take_length] at this; rw [List.length_append, List.length_map]; exact this)
                      clear hjn HN6 HO6
                      go_wp2_with fail
                      go_roundw
                      case rel => exact ⟨k + 1, out ++ now.map fun s => ⟨s.1, y, s.2, z⟩, now, nao, ncap, by omega, by go_num, by rw [List.length_append, List.length_map, Nat.add_mul]; omega, hnl, by simp, rfl, HN7.out, HF3.out, HO7.out, HK6.out⟩
                      case measure => simp [intOf]; omega
              · have hn0 : ¬ (0 : Int) < (now.length : Int) := by omega
                have HF3 : Hid (Rc.bands row (ys.drop (k + 1)) (out ++ now.map fun s => ⟨s.1, y, s.2, z⟩) now = fin) := Lib.hid (by
                  have h := HF2.out
                  have e : now = [] := List.length_eq_zero_iff.1 (by omega)
                  subst e
                  split at h
                  · rw [List.length_nil, Rc.lift_zero] at h; simpa using h
                  · exact h)
                clear HF2
                go_wp2_with fail
                have HA5 : Hid (LiesOff 2 spanVal w5 nao ncap now u10) := Lib.hid (HN.out.keep (Kp.refl _ _))
                go_loopw [10, 15] (fun v i wq => ARel W3 out now y z nao ncap v i wq) (fun _ i _ => now.length - (intOf i).toNat)
                case atStart => exact ⟨0, Nat.zero_le _, rfl, HA5.out, by simpa using HO5.out, HK5.out⟩
                case round =>
                  obtain ⟨j, hj, rfl, hn6, hown, hK⟩ := hrel
                  have HN6 := Lib.hid hn6
                  have HO6 := Lib.hid hown
                  have HK6 := Lib.hid hK
                  clear hn6 hown hK HA5
                  have hj0 : (0 : Int) ≤ (j : Int) := Int.natCast_nonneg _
                  by_cases hjt : j < now.length
                  · have hj1 : (j : Int) < (now.length : Int) := by omega
                    obtain ⟨b2, off2, rfl, hb2, hc2, hv2, hr2⟩ := HN6.out j hjt
                    obtain ⟨s, hs⟩ : ∃ s, now[j] = s := ⟨_, rfl⟩
                    have C4 : Hid (∀ w1, Kp W3 w1 none → wr.grownBy w1 u10.ownBlock → w1.cell? ⟨b2, off2 + j * 2, none⟩ = some (.int .i64 s.1) ∧ w1.cell? ⟨b2, off2 + j * 2 + 1, none⟩ = some (.int .i64 s.2) ∧ w1.cell? ⟨b, off + k, none⟩ = some (.int .i64 y) ∧ w1.cell? ⟨b, off + (k + 1), none⟩ = some (.int .i64 z)) := Lib.hid fun w1 k0 k1 => by
                        have h := C0.out w1 k0
                        subst hs
                        exact ⟨(World.grownBy.cell_far k1 ⟨b2, off2 + j * 2 + 0, none⟩ hb2 (fun e => hv2 e.symm)).trans (hr2 0 (by simp [spanVal])), (World.grownBy.cell_far k1 ⟨b2, off2 + j * 2 + 1, none⟩ hb2 (fun e => hv2 e.symm)).trans (hr2 1 (by simp [spanVal])), h.1, h.2⟩
                    have HST : Hid (∀ v wq, wq.ownsRow W3.heap.size 44 4 v (out.length + j + [(⟨s.1, y, s.2, z⟩ : Rc.Rect)].length) ((out ++ (now.take j).map fun s => (⟨s.1, y, s.2, z⟩ : Rc.Rect)).flatMap recVal ++ [(⟨s.1, y, s.2, z⟩ : Rc.Rect)].flatMap recVal) → Kp W3 wq none → wr.grownBy wq u10.ownBlock → (v.ownBlock = u10.ownBlock ∨ ∃ n, wr.heap.size ≤ n ∧ v.ownBlock = some n) → ARel W3 out now y z (some ⟨b2, off2, none⟩) ncap v (.int .i64 (j + 1)) wq) := Lib.hid fun v wq h1 h2 h3 h4 => arel_step hjt HN6.out (by rw [hs]; exact h1) h2 h3 h4
                    clear hs hr2
                    go_wp2_with fail
                    refine wp_region_held_drew (S := fun w1 => w1.cell? ⟨b2, off2 + j * 2, none⟩ = some (.int .i64 s.1) ∧ w1.cell? ⟨b2, off2 + j * 2 + 1, none⟩ = some (.int .i64 s.2) ∧ w1.cell? ⟨b, off + k, none⟩ = some (.int .i64 y) ∧ w1.cell? ⟨b, off + (k + 1), none⟩ = some (.int .i64 z)) (by kernel_rfl) ?_ (fun hHeld => ?_)
                    · exact C4.out _ HK6.out.drew ((Kp.refl wr none).drew.weak _)
                    refine wpAnyH_take (i := 0) (oi := _) (v := ?_) rfl (by kernel_rfl) (by kernel_rfl) (by kernel_rfl) (fun _ _ _ h => h) (Or.inl ⟨by rfl, ?_⟩) (by assumption) ?_
                    rotate_left
                    · (intro w hSw; (try dsimp only at hSw); go_simp <;> with_reducible rfl)
                    try simp only [Act.put, List.getElem_toArray, List.getElem_cons_zero, List.setIfInBounds_toArray, List.set_cons_zero, List.set_cons_succ]
                    refine wpAnyH_take (i := 1) (oi := _) (v := ?_) rfl (by kernel_rfl) (by kernel_rfl) (by kernel_rfl) (fun _ _ _ h => h) (Or.inl ⟨by rfl, ?_⟩) (by assumption) ?_
                    rotate_left
                    · (intro w hSw; (try dsimp only at hSw); go_simp <;> with_reducible rfl)
                    try simp only [Act.put, List.getElem_toArray, List.getElem_cons_zero, List.getElem_cons_succ, List.setIfInBounds_toArray, List.set_cons_zero, List.set_cons_succ]
                    refine wpAnyH_take (i := 2) (oi := _) (v := ?_) rfl (by kernel_rfl) (by kernel_rfl) (by kernel_rfl) (fun _ _ _ h => h) (Or.inl ⟨by rfl, ?_⟩) (by assumption) ?_
                    rotate_left
                    · (intro w hSw; (try dsimp only at hSw); go_simp <;> with_reducible rfl)
                    try simp only [Act.put, List.getElem_toArray, List.getElem_cons_zero, List.getElem_cons_succ, List.setIfInBounds_toArray, List.set_cons_zero, List.set_cons_succ]
                    refine wpAnyH_take (i := 3) (oi := _) (v := ?_) rfl (by kernel_rfl) (by kernel_rfl) (by kernel_rfl) (fun _ _ _ h => h) (Or.inl ⟨by rfl, ?_⟩) (by assumption) ?_
                    rotate_left
                    · (intro w hSw; (try dsimp only at hSw); go_simp <;> with_reducible rfl)
                    try simp only [Act.put, List.getElem_toArray, List.getElem_cons_zero, List.getElem_cons_succ, List.setIfInBounds_toArray, List.set_cons_zero, List.set_cons_succ]
                    refine wpAnyH_take (i := 4) (oi := _) (v := ?_) rfl (by kernel_rfl) (by kernel_rfl) (by kernel_rfl) (fun _ _ _ h => h) (Or.inl ⟨by rfl, ?_⟩) (by assumption) ?_
                    rotate_left
                    · (intro w hSw; (try dsimp only at hSw); go_simp <;> with_reducible rfl)
                    try simp only [Act.put, List.getElem_toArray, List.getElem_cons_zero, List.getElem_cons_succ, List.setIfInBounds_toArray, List.set_cons_zero, List.set_cons_succ]
                    refine wpAnyH_take (i := 5) (oi := _) (v := ?_) rfl (by kernel_rfl) (by kernel_rfl) (by kernel_rfl) (fun _ _ _ h => h) (Or.inl ⟨by rfl, ?_⟩) (by assumption) ?_
                    rotate_left
                    · (intro w hSw; (try dsimp only at hSw); go_simp <;> with_reducible rfl)
                    try simp only [Act.put, List.getElem_toArray, List.getElem_cons_zero, List.getElem_cons_succ, List.setIfInBounds_toArray, List.set_cons_zero, List.set_cons_succ]
                    refine wpAnyH_take (i := 6) (oi := _) (v := ?_) rfl (by kernel_rfl) (by kernel_rfl) (by kernel_rfl) (fun _ _ _ h => h) (Or.inl ⟨by rfl, ?_⟩) (by assumption) ?_
                    rotate_left
                    · (intro w hSw; (try dsimp only at hSw); go_simp <;> with_reducible rfl)
                    try simp only [Act.put, List.getElem_toArray, List.getElem_cons_zero, List.getElem_cons_succ, List.setIfInBounds_toArray, List.set_cons_zero, List.set_cons_succ]
                    refine wpAnyH_take (i := 7) (oi := _) (v := ?_) rfl (by kernel_rfl) (by kernel_rfl) (by kernel_rfl) (fun _ _ _ h => h) (Or.inl ⟨by rfl, ?_⟩) (by assumption) ?_
                    rotate_left
                    · (intro w hSw; (try dsimp only at hSw); go_simp <;> with_reducible rfl)
                    try simp only [Act.put, List.getElem_toArray, List.getElem_cons_zero, List.getElem_cons_succ, List.setIfInBounds_toArray, List.set_cons_zero, List.set_cons_succ]
                    refine wpAnyH_take (i := 8) (oi := _) (v := ?_) rfl (by kernel_rfl) (by kernel_rfl) (by kernel_rfl) (fun _ _ _ h => h) (Or.inl ⟨by rfl, ?_⟩) (by assumption) ?_
                    rotate_left
                    · (intro w hSw; (try dsimp only at hSw); go_simp <;> with_reducible rfl)
                    try simp only [Act.put, List.getElem_toArray, List.getElem_cons_zero, List.getElem_cons_succ, List.setIfInBounds_toArray, List.set_cons_zero, List.set_cons_succ]
                    refine wpAnyH_take (i := 9) (oi := _) (v := ?_) rfl (by kernel_rfl) (by kernel_rfl) (by kernel_rfl) (fun _ _ _ h => h) (Or.inl ⟨by rfl, ?_⟩) (by assumption) ?_
                    rotate_left
                    · (intro w hSw; (try dsimp only at hSw); go_simp <;> with_reducible rfl)
                    try simp only [Act.put, List.getElem_toArray, List.getElem_cons_zero, List.getElem_cons_succ, List.setIfInBounds_toArray, List.set_cons_zero, List.set_cons_succ]
                    refine wpAnyH_take (i := 10) (oi := _) (v := ?_) rfl (by kernel_rfl) (by kernel_rfl) (by kernel_rfl) (fun _ _ _ h => h) (Or.inl ⟨by rfl, ?_⟩) (by assumption) ?_
                    rotate_left
                    · (intro w hSw; (try dsimp only at hSw); go_simp <;> with_reducible rfl)
                    try simp only [Act.put, List.getElem_toArray, List.getElem_cons_zero, List.getElem_cons_succ, List.setIfInBounds_toArray, List.set_cons_zero, List.set_cons_succ]
                    refine wpAnyH_take (i := 11) (oi := _) (v := ?_) rfl (by kernel_rfl) (by kernel_rfl) (by kernel_rfl) (fun _ _ _ h => h) (Or.inl ⟨by rfl, ?_⟩) (by assumption) ?_
                    rotate_left
                    · (intro w hSw; (try dsimp only at hSw); go_simp <;> with_reducible rfl)
                    try simp only [Act.put, List.getElem_toArray, List.getElem_cons_zero, List.getElem_cons_succ, List.setIfInBounds_toArray, List.set_cons_zero, List.set_cons_succ]
                    refine wpAnyH_take (i := 12) (oi := _) (v := ?_) rfl (by kernel_rfl) (by kernel_rfl) (by kernel_rfl) (fun _ _ _ h => h) (Or.inl ⟨by rfl, ?_⟩) (by assumption) ?_
                    rotate_left
                    · (intro w hSw; (try dsimp only at hSw); go_simp <;> with_reducible rfl)
                    try simp only [Act.put, List.getElem_toArray, List.getElem_cons_zero, List.getElem_cons_succ, List.setIfInBounds_toArray, List.set_cons_zero, List.set_cons_succ]
                    refine wpAnyH_take (i := 13) (oi := _) (v := ?_) rfl (by kernel_rfl) (by kernel_rfl) (by kernel_rfl) (fun _ _ _ h => h) (Or.inl ⟨by rfl, ?_⟩) (by assumption) ?_
                    rotate_left
                    · (intro w hSw; (try dsimp only at hSw); go_simp <;> with_reducible rfl)
                    try simp only [Act.put, List.getElem_toArray, List.getElem_cons_zero, List.getElem_cons_succ, List.setIfInBounds_toArray, List.set_cons_zero, List.set_cons_succ]
                    refine wpAnyH_take (i := 14) (oi := _) (v := ?_) rfl (by kernel_rfl) (by kernel_rfl) (by kernel_rfl) (fun _ _ _ h => h) (Or.inl ⟨by rfl, ?_⟩) (by assumption) ?_
                    rotate_left
                    · (intro w hSw; (try dsimp only at hSw); go_simp <;> with_reducible rfl)
                    try simp only [Act.put, List.getElem_toArray, List.getElem_cons_zero, List.getElem_cons_succ, List.setIfInBounds_toArray, List.set_cons_zero, List.set_cons_succ]
                    refine wpAnyH_take (i := 15) (oi := _) (v := ?_) rfl (by kernel_rfl) (by kernel_rfl) (by kernel_rfl) (fun _ _ _ h => h) (Or.inl ⟨by rfl, ?_⟩) (by assumption) ?_
                    rotate_left
                    · (intro w hSw; (try dsimp only at hSw); go_simp <;> with_reducible rfl)
                    try simp only [Act.put, List.getElem_toArray, List.getElem_cons_zero, List.getElem_cons_succ, List.setIfInBounds_toArray, List.set_cons_zero, List.set_cons_succ]
                    refine wpAnyH_take (i := 16) (oi := _) (v := ?_) rfl (by kernel_rfl) (by kernel_rfl) (by kernel_rfl) (fun _ _ _ h => h) (Or.inl ⟨by rfl, ?_⟩) (by assumption) ?_
                    rotate_left
                    · (intro w hSw; (try dsimp only at hSw); go_simp <;> with_reducible rfl)
                    try simp only [Act.put, List.getElem_toArray, List.getElem_cons_zero, List.getElem_cons_succ, List.setIfInBounds_toArray, List.set_cons_zero, List.set_cons_succ]
                    refine wpAnyH_take (i := 17) (oi := _) (v := ?_) rfl (by kernel_rfl) (by kernel_rfl) (by kernel_rfl) (fun _ _ _ h => h) (Or.inl ⟨by rfl, ?_⟩) (by assumption) ?_
                    rotate_left
                    · (intro w hSw; (try dsimp only at hSw); go_simp <;> with_reducible rfl)
                    try simp only [Act.put, List.getElem_toArray, List.getElem_cons_zero, List.getElem_cons_succ, List.setIfInBounds_toArray, List.set_cons_zero, List.set_cons_succ]
                    refine wpAnyH_take (i := 18) (oi := _) (v := ?_) rfl (by kernel_rfl) (by kernel_rfl) (by kernel_rfl) (fun _ _ _ h => h) (Or.inl ⟨by rfl, ?_⟩) (by assumption) ?_
                    rotate_left
                    · (intro w hSw; (try dsimp only at hSw); go_simp <;> with_reducible rfl)
                    try simp only [Act.put, List.getElem_toArray, List.getElem_cons_zero, List.getElem_cons_succ, List.setIfInBounds_toArray, List.set_cons_zero, List.set_cons_succ]
                    refine wpAnyH_take (i := 19) (oi := _) (v := ?_) rfl (by kernel_rfl) (by kernel_rfl) (by kernel_rfl) (fun _ _ _ h => h) (Or.inl ⟨by rfl, ?_⟩) (by assumption) ?_
                    rotate_left
                    · (intro w hSw; (try dsimp only at hSw); go_simp <;> with_reducible rfl)
                    try simp only [Act.put, List.getElem_toArray, List.getElem_cons_zero, List.getElem_cons_succ, List.setIfInBounds_toArray, List.set_cons_zero, List.set_cons_succ]
                    refine wpAnyH_take (i := 20) (oi := _) (v := ?_) rfl (by kernel_rfl) (by kernel_rfl) (by kernel_rfl) (fun _ _ _ h => h) (Or.inl ⟨by rfl, ?_⟩) (by assumption) ?_
                    rotate_left
                    · (intro w hSw; (try dsimp only at hSw); go_simp <;> with_reducible rfl)
                    try simp only [Act.put, List.getElem_toArray, List.getElem_cons_zero, List.getElem_cons_succ, List.setIfInBounds_toArray, List.set_cons_zero, List.set_cons_succ]
                    refine wpAnyH_ready (rs := [21]) (by kernel_rfl) (by simp) ?_
                    refine AllReadyH.cons (o := _) rfl (fun K hK => ?_) AllReadyH.nil
                    clear hHeld
                    go_simp
                    try go_wp2_with fail
                    refine hK.out _ _ (C4.out _ (HK6.out.drew.alloc _) (((Kp.refl wr none).drew.alloc _).weak _)) (fun hHeld => ?_)
                    clear hK K
                    try simp only [Act.put, List.getElem_toArray, List.getElem_cons_zero, List.getElem_cons_succ, List.setIfInBounds_toArray, List.set_cons_zero, List.set_cons_succ]
                    refine wpAnyH_ready (rs := [22]) (by kernel_rfl) (by simp) ?_
                    refine AllReadyH.cons (o := _) rfl (fun K hK => ?_) AllReadyH.nil
                    clear hHeld
                    refine step_app (f := recVal) rfl (.tmp 106) (.tmp 127) W3.heap.size 22 44 rfl i0 _ 4 32 Try.underlying22 hi hz0 hz1 hz2 rfl (by omega) (fun _ => rfl) rec_one _ (out.length + j) ((out ++ (now.take j).map fun s => (⟨s.1, y, s.2, z⟩ : Rc.Rect)).flatMap recVal) rfl (HO6.out.kept ((Kp.refl wr none).drew.alloc (Obj.cells #[.int .i64 s.1, .int .i64 y, .int .i64 s.2, .int .i64 z] 44)) (by cases u10.ownBlock <;> simp)) _ [(⟨s.1, y, s.2, z⟩ : Rc.Rect)] rfl (rects_one wr.drew s.1 y s.2 z) (by unfold maxLen; simp; omega) (by simp; omega) (HK6.out.drew.alloc (Obj.cells #[.int .i64 s.1, .int .i64 y, .int .i64 s.2, .int .i64 z] 44)).size ?_
                    intro v7 w7 ho hg hb7
                    have KA := Lib.hid (Kp.row (HK6.out.drew.alloc (Obj.cells #[.int .i64 s.1, .int .i64 y, .int .i64 s.2, .int .i64 z] 44)) hg (fun j hj => (HO6.out.lt j hj).1))
                    have KB : Hid (wr.grownBy w7 u10.ownBlock) := Lib.hid ((((Kp.refl wr none).drew.alloc _).weak _).trans hg)
                    have HR7 := Lib.hid (HST.out v7 w7 ho KA.out KB.out (hb7.imp_right fun e => ⟨_, (HK6.out.drew.alloc (Obj.cells #[.int .i64 s.1, .int .i64 y, .int .i64 s.2, .int .i64 z] 44)) |> fun _ => by simp, e⟩))
                    clear ho hg hb7
                    try simp only [Act.put, List.getElem_toArray, List.getElem_cons_zero, List.getElem_cons_succ, List.setIfInBounds_toArray, List.set_cons_zero, List.set_cons_succ]
                    refine hK _ _ (C4.out _ KA.out KB.out) (fun hHeld => ?_)
                    clear hK K
                    refine wpAnyH_ready (rs := [23]) (by kernel_rfl) (by simp) ?_
                    refine AllReadyH.cons (o := _) rfl (fun K hK => ?_) AllReadyH.nil
                    clear hHeld
                    go_simp
                    try go_wp2_with fail
                    refine hK.out _ _ (C4.out _ KA.out KB.out) (fun hHeld => ?_)
                    clear hK K hHeld
                    refine wpAnyH_done (by kernel_rfl) ?_ _
                    go_wp2_with fail
                    go_roundw
                    case rel => exact HR7.out
                    case measure => simp [intOf]; omega
                  · have hj1 : ¬ (j : Int) < (now.length : Int) := by omega
                    have hjn : j = now.length := by omega
                    have HN7 := HN6
                    have HO7 : Hid (wr.ownsRow W3.heap.size 44 4 u10 (out ++ now.map fun s => (⟨s.1, y, s.2, z⟩ : Rc.Rect)).length ((out ++ now.map fun s => (⟨s.1, y, s.2, z⟩ : Rc.Rect)).flatMap recVal) ) := Lib.hid (by have := HO6.out; rw [hjn, List.take_length] at this; rw [List.length_append, List.length_map]; exact this)
                    clear hjn HN6 HO6
                    go_wp2_with fail
                    go_roundw
                    case rel => exact ⟨k + 1, out ++ now.map fun s => ⟨s.1, y, s.2, z⟩, now, nao, ncap, by omega, by go_num, by rw [List.length_append, List.length_map, Nat.add_mul]; omega, hnl, by simp, rfl, HN7.out, HF3.out, HO7.out, HK6.out⟩
                    case measure => simp [intOf]; omega
            · have hk1 : ¬ (k : Int) + 1 < (ys.length : Int) := by omega
              have HE : Hid (OwnRects w (Ending.returned u10) wr fin) := Lib.hid ⟨_, rfl, by have := HF.out; rw [bands_done hlt] at this; subst this; exact own_mono HO.out K3.out.size, K3.out.trans HK.out⟩
              go_wp2_with fail
              go_ret
              exact HE.out

theorem combineR_any (n : Int) (hn : n = 1 ∨ n = 2 ∨ n = 3) (va vb : Value) (a b : List Rc.Rect) (w : World) (ha : IsRects w va a) (hb : IsRects w vb b) (hla : a.length ≤ 65536) (hlb : b.length ≤ 65536) :
    Calls Try.prog 36 #[.int .i64 n, va, vb] w fun E w' => OwnRects w E w' (Rc.comb (kindOf n) a b) := by
  unfold Rc.comb
  rw [ys_yfold]
  exact combineR_core n hn va vb a b _ _ w ha hb hla hlb rfl rfl (set_many a) (set_many b) _ rfl

end Go.Proofs.Ytpakiabnhdoijaa
