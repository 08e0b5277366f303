/- The ranges of a row, as the program reckons them (row). Condition: at most 4096 rectangles, each of them right. -/
import Derived.Test.YtpakiabnhdoijaaSo
import Derived.Test.YtpakiabnhdoijaaCc
namespace Go.Proofs.Ytpakiabnhdoijaa
open Go.RowKit

theorem spans_at (w : World) (x y : Int) (g : Nat) (hg : g = w.heap.size) : IsSpans (w.alloc (Obj.cells #[.int .i64 x, .int .i64 y] 24)) (.slice (some ⟨g, 0, none⟩) 1 1) [(x, y)] := by
  subst hg; exact spans_one w x y
def spanOf (r : Rc.Rect) : Rc.Span := (r.x0, r.x1)
/-- The loop over the rectangles. -/
def PRel (W : World) (a : List Rc.Rect) (y : Int) (v i : Value) (wr : World) : Prop :=
  ∃ k : Nat, k ≤ a.length ∧ i = .int .i64 k ∧ wr.ownsRow W.heap.size 24 2 v ((Rc.at_ (a.take k) y).map spanOf).length (((Rc.at_ (a.take k) y).map spanOf).flatMap spanVal) ∧ Kp W wr none
theorem prel_in {W w4 : World} {a : List Rc.Rect} {y : Int} {k : Nat} (h : k < a.length) (hy : a[k].y0 ≤ y ∧ y < a[k].y1) {u : Value} (ho : w4.ownsRow W.heap.size 24 2 u (((Rc.at_ (a.take k) y).map spanOf).length + [spanOf a[k]].length) (((Rc.at_ (a.take k) y).map spanOf).flatMap spanVal ++ [spanOf a[k]].flatMap spanVal)) (hk : Kp W w4 none) : PRel W a y u (.int .i64 (k + 1)) w4 :=
  ⟨k + 1, h, by go_num, by rw [at_take_in a k h y hy, List.map_append, List.length_append, List.flatMap_append]; exact ho, hk⟩
theorem prel_out {W w4 : World} {a : List Rc.Rect} {y : Int} {k : Nat} (h : k < a.length) (hy : ¬ (a[k].y0 ≤ y ∧ y < a[k].y1)) {u : Value} (ho : w4.ownsRow W.heap.size 24 2 u ((Rc.at_ (a.take k) y).map spanOf).length (((Rc.at_ (a.take k) y).map spanOf).flatMap spanVal)) (hk : Kp W w4 none) : PRel W a y u (.int .i64 (k + 1)) w4 :=
  ⟨k + 1, h, by go_num, by rw [at_take_out a k h y hy]; exact ho, hk⟩

/-- The loop over the sorted ranges. -/
def MRel (W : World) (ss : List Rc.Span) (v i : Value) (wr : World) : Prop :=
  ∃ (k : Nat) (out : List Rc.Span), k ≤ ss.length ∧ i = .int .i64 k ∧ (ss.take k).foldl Rc.merge [] = out ∧ out.length ≤ k ∧ wr.ownsRow W.heap.size 24 2 v out.length (out.flatMap spanVal) ∧ Kp W wr none
theorem merge_new {out : List Rc.Span} {s : Rc.Span} (h : ∀ t ∈ out.getLast?, ¬ s.1 ≤ t.2) : Rc.merge out s = out ++ [s] := by
  unfold Rc.merge
  cases e : out.getLast? with
  | none => rw [List.getLast?_eq_none_iff.1 e]; rfl
  | some t => simp only [if_neg (h t (by rw [e]; rfl))]
theorem merge_on {out : List Rc.Span} {t s : Rc.Span} (h : s.1 ≤ t.2) : Rc.merge (out ++ [t]) s = out ++ [(t.1, max t.2 s.2)] := by
  unfold Rc.merge
  rw [List.getLast?_concat]
  simp [h]
theorem merge_len (out : List Rc.Span) (s : Rc.Span) : (Rc.merge out s).length ≤ out.length + 1 := by
  unfold Rc.merge
  split
  · split <;> simp
  · simp

set_option maxHeartbeats 8000000 in
set_option maxRecDepth 100000 in
theorem rowP_core (va : Value) (a : List Rc.Rect) (y : Int) (w : World) (ha : IsRects w va a) (hla : a.length ≤ 4096) (hok : ∀ r ∈ a, -1073741824 ≤ r.x0 ∧ r.x0 ≤ 1073741824) :
    Calls Try.prog 54 #[va, .int .i64 y] w fun E w' => ∃ ss : List Rc.Span, ss.Perm ((Rc.at_ a y).map spanOf) ∧ ss.Pairwise (fun a b => a.1 ≤ b.1) ∧ OwnSpans w E w' (ss.foldl Rc.merge []) := by
  obtain ⟨X, hX⟩ : ∃ X, (Rc.at_ a y).map spanOf = X := ⟨_, rfl⟩
  rw [hX]
  have HX := Lib.hid hX
  clear hX
  obtain ⟨ao, cap, rfl, fa⟩ := ha.form
  have FA := Lib.hid fa
  have HOK := Lib.hid hok
  clear fa ha hok
  obtain ⟨i0, hi, hz0, hz1, hz2⟩ := info_parts infoSpan
  have hna : (0 : Int) ≤ (a.length : Int) := Int.natCast_nonneg _
  go_enter Try.func54, Try.ntmps54
  go_wp2_with fail
  go_loopw [4, 13] (fun v i wr => PRel w a y v i wr) (fun _ i _ => a.length - (intOf i).toNat)
  case atStart => exact ⟨0, Nat.zero_le _, rfl, World.ownsRow_nil _ _ _ _, Kp.refl _ _⟩
  case round =>
    obtain ⟨k, hk, rfl, hown, hK⟩ := hrel
    have HO := Lib.hid hown
    have HK := Lib.hid hK
    have hWs := HK.out.size
    clear hown hK
    have hk0 : (0 : Int) ≤ (k : Int) := Int.natCast_nonneg _
    by_cases hlt : k < a.length
    · obtain ⟨b, off, rfl, hb, hc, hr⟩ := FA.out k hlt
      obtain ⟨r, hx⟩ : ∃ r, a[k] = r := ⟨_, rfl⟩
      have cc : ∀ j, wr.cell? ⟨b, off + k * 4 + j, none⟩ = w.cell? ⟨b, off + k * 4 + j, none⟩ := fun j => HK.out.below.cell (p := ⟨b, off + k * 4 + j, none⟩) hb
      have c0 : wr.cell? ⟨b, off + k * 4, none⟩ = some (.int .i64 r.x0) := (cc 0).trans (by subst hx; exact hr 0 (by simp [recVal]))
      have c1 : wr.cell? ⟨b, off + k * 4 + 1, none⟩ = some (.int .i64 r.y0) := (cc 1).trans (by subst hx; exact hr 1 (by simp [recVal]))
      have c2 : wr.cell? ⟨b, off + k * 4 + 2, none⟩ = some (.int .i64 r.x1) := (cc 2).trans (by subst hx; exact hr 2 (by simp [recVal]))
      have c3 : wr.cell? ⟨b, off + k * 4 + 3, none⟩ = some (.int .i64 r.y1) := (cc 3).trans (by subst hx; exact hr 3 (by simp [recVal]))
      clear cc hr
      have hk1 : (k : Int) < (a.length : Int) := by omega
      have HOUT : Hid (¬ (r.y0 ≤ y ∧ y < r.y1) → ∀ w4, Kp wr w4 none → PRel w a y u4 (.int .i64 (k + 1)) w4) := Lib.hid fun h w4 k4 => prel_out (k := k) hlt (by rw [hx]; exact h) (HO.out.kept k4 (by cases u4.ownBlock <;> simp)) (HK.out.trans k4)
      have HIN : Hid (r.y0 ≤ y ∧ y < r.y1 → ∀ u w4, w4.ownsRow w.heap.size 24 2 u (((Rc.at_ (a.take k) y).map spanOf).length + [(r.x0, r.x1)].length) (((Rc.at_ (a.take k) y).map spanOf).flatMap spanVal ++ [(r.x0, r.x1)].flatMap spanVal) → Kp w w4 none → PRel w a y u (.int .i64 (k + 1)) w4) := Lib.hid fun h u w4 h1 h2 => prel_in (k := k) hlt (by rw [hx]; exact h) (by rw [hx]; exact h1) h2
      have hal := at_length a k y hk
      clear hx
      obtain ⟨x0, y0, x1, y1⟩ := r
      simp only [] at c0 c1 c2 c3 HOUT HIN
      have hal2 : ((Rc.at_ (a.take k) y).map spanOf).length ≤ k := by rw [List.length_map]; exact hal
      generalize (Rc.at_ (a.take k) y).map spanOf = out at *
      by_cases h0 : y0 ≤ y
      · by_cases h1 : y < y1
        · have hyy : y0 ≤ y ∧ y < y1 := ⟨h0, h1⟩
          have KB : Hid (Kp wr ((wr.alloc (Obj.cells #[.int .i64 x0, .int .i64 y0, .int .i64 x1, .int .i64 y1] 44)).alloc (Obj.cells #[.int .i64 x0, .int .i64 x1] 24)) none) := Lib.hid (((Kp.refl wr none).alloc _).alloc _)
          go_wp2_with (at_builtin; go_must (refine wpList_app (f := spanVal) (by rfl) _ _ w.heap.size 65 24 (by rfl) i0 _ 2 16 Try.underlying65 hi hz0 hz1 hz2 rfl (by omega) (fun _ => rfl) span_one u4 out.length (out.flatMap spanVal) (by rfl) (HO.out.kept KB.out (by cases u4.ownBlock <;> simp)) (.slice (some ⟨wr.heap.size + 1, 0, none⟩) 1 1) [(x0, x1)] (by rfl) (spans_at (wr.alloc (Obj.cells #[.int .i64 x0, .int .i64 y0, .int .i64 x1, .int .i64 y1] 44)) x0 x1 _ (by simp)) (by unfold maxLen; simp; omega) (by simp; omega) (HK.out.trans KB.out).size ?_))
          intro v4 w4 ho4 hg4 _
          have HREL := Lib.hid (HIN.out hyy v4 w4 ho4 (Kp.row (HK.out.trans KB.out) hg4 (fun j hj => (HO.out.lt j hj).1)))
          clear ho4 hg4
          go_wp2_with fail
          go_roundw
          case rel => exact HREL.out
          case measure => simp [intOf]; omega
        · have HREL := Lib.hid (HOUT.out (fun h => h1 h.2))
          go_wp2_with fail
          go_roundw
          case rel => exact HREL.out _ ((Kp.refl wr none).alloc _)
          case measure => simp [intOf]; omega
      · have HREL := Lib.hid (HOUT.out (fun h => h0 h.1))
        go_wp2_with fail
        go_roundw
        case rel => exact HREL.out _ ((Kp.refl wr none).alloc _)
        case measure => simp [intOf]; omega
    · have hkx : k = a.length := by omega
      have hk1 : ¬ (k : Int) < (a.length : Int) := by omega
      have hX := HX.out
      have HOX : Hid (wr.ownsRow w.heap.size 24 2 u4 X.length (X.flatMap spanVal)) := Lib.hid (by have := HO.out; rw [hkx, List.take_length, hX] at this; exact this)
      have hXl : X.length ≤ 4096 := by rw [← hX, List.length_map]; exact Nat.le_trans (List.length_filter_le _ _) hla
      have HXB : Hid (∀ s ∈ X, -1073741824 ≤ s.1 ∧ s.1 ≤ 1073741824) := Lib.hid (by
        rw [← hX]
        intro s hs
        obtain ⟨r, hr, rfl⟩ := List.mem_map.1 hs
        exact HOK.out r (Rc.mem_at.1 hr).1)
      clear hX hkx HO
      go_wp2_with fail
      refine (sortSpans_own HOX.out (by omega) HXB.out).mono ?_
      rintro E w5 ⟨rfl, ss, hp, hs, ho, k5⟩
      have HP := Lib.hid hp
      have HS := Lib.hid hs
      have K5 := Lib.hid (Kp.row HK.out k5 (fun j hj => (HOX.out.lt j hj).1))
      have hsl : ss.length ≤ 4096 := by rw [hp.length_eq]; exact hXl
      obtain ⟨aos, caps, rfl, fs⟩ := (isList_own (m := 2) (f := spanVal) (fun _ => rfl) ho).form
      have FS := Lib.hid fs
      clear hp hs ho k5 fs HOX HXB HK hWs
      have hns : (0 : Int) ≤ (ss.length : Int) := Int.natCast_nonneg _
      go_wp2_with fail
      go_loopw [7, 40] (fun v i wr => MRel w5 ss v i wr) (fun _ i _ => ss.length - (intOf i).toNat)
      case atStart => exact ⟨0, [], Nat.zero_le _, rfl, rfl, by simp, World.ownsRow_nil _ _ _ _, Kp.refl _ _⟩
      case round =>
        obtain ⟨k, out, hk, rfl, hout, hol, hown, hK⟩ := hrel
        have HOUT := Lib.hid hout
        have HO := Lib.hid hown
        have HK := Lib.hid hK
        clear hown hK hout
        have hk0 : (0 : Int) ≤ (k : Int) := Int.natCast_nonneg _
        by_cases hlt : k < ss.length
        · have hk1 : (k : Int) < (ss.length : Int) := by omega
          obtain ⟨b, off, rfl, hb, hc, hr⟩ := FS.out k hlt
          obtain ⟨s, hx⟩ : ∃ s, ss[k] = s := ⟨_, rfl⟩
          have c0 : wr.cell? ⟨b, off + k * 2, none⟩ = some (.int .i64 s.1) := (HK.out.below.cell (p := ⟨b, off + k * 2 + 0, none⟩) hb).trans (by subst hx; exact hr 0 (by simp [spanVal]))
          have c1 : wr.cell? ⟨b, off + k * 2 + 1, none⟩ = some (.int .i64 s.2) := (HK.out.below.cell (p := ⟨b, off + k * 2 + 1, none⟩) hb).trans (by subst hx; exact hr 1 (by simp [spanVal]))
          have HST : Hid (∀ v wq, wq.ownsRow w5.heap.size 24 2 v (Rc.merge out s).length ((Rc.merge out s).flatMap spanVal) → Kp w5 wq none → MRel w5 ss v (.int .i64 (k + 1)) wq) := Lib.hid fun v wq h1 h2 => ⟨k + 1, Rc.merge out s, hlt, by go_num, by rw [List.take_succ_eq_append_getElem hlt, List.foldl_append, HOUT.out, hx]; rfl, Nat.le_trans (merge_len out s) (by omega), h1, h2⟩
          clear hx hr HOUT
          obtain ⟨bo, cap, rfl, hbo⟩ := own_form HO.out
          obtain ⟨s0, s1⟩ := s
          simp only [] at c0 c1
          have KB : Hid (Kp wr (wr.alloc (Obj.cells #[.int .i64 s0, .int .i64 s1] 24)) none) := Lib.hid ((Kp.refl wr none).alloc _)
          have HOB : Hid ((wr.alloc (Obj.cells #[.int .i64 s0, .int .i64 s1] 24)).ownsRow w5.heap.size 24 2 (.slice bo out.length cap) out.length (out.flatMap spanVal)) := Lib.hid (HO.out.kept KB.out (by cases (Value.slice bo out.length cap).ownBlock <;> simp))
          rcases Rc.snoc_cases out with rfl | ⟨out', t, rfl⟩
          · rw [merge_new (by simp)] at HST
            go_wp2_with fail
            go_quiet (fail)
            have KC : Hid (Kp wr (((wr.alloc (Obj.cells #[.int .i64 s0, .int .i64 s1] 24)).drewN nq).alloc (Obj.cells #[.int .i64 s0, .int .i64 s1] 24)) none) := Lib.hid ((KB.out.drewN nq).alloc _)
            go_wp2_with (at_builtin; go_must (refine wpList_app (f := spanVal) (by rfl) _ _ w5.heap.size 65 24 (by rfl) i0 _ 2 16 Try.underlying65 hi hz0 hz1 hz2 rfl (by omega) (fun _ => rfl) span_one (.slice bo 0 cap) 0 [] (by rfl) (HO.out.kept KC.out (by cases (Value.slice _ _ _).ownBlock <;> simp)) (.slice (some ⟨wr.heap.size + 1, 0, none⟩) 1 1) [(s0, s1)] (by rfl) (spans_at ((wr.alloc (Obj.cells #[.int .i64 s0, .int .i64 s1] 24)).drewN nq) s0 s1 _ (by simp)) (by unfold maxLen; simp <;> omega) (by simp <;> omega) (HK.out.trans KC.out).size ?_))
            intro v4 w4 ho4 hg4 _
            have HREL := Lib.hid (HST.out v4 w4 (by simpa using ho4) (Kp.row (HK.out.trans KC.out) hg4 (fun j hj => (HO.out.lt j hj).1)))
            clear ho4 hg4
            go_wp2_with fail
            go_roundw
            case rel => exact HREL.out
            case measure => simp [intOf]; omega
          · obtain ⟨g, rfl⟩ := hbo (by simp)
            rw [List.length_append, List.length_singleton] at HO HOB hol
            have o0 := own_last HOB.out
            have hol0 : (0 : Int) ≤ (out'.length : Int) := Int.natCast_nonneg _
            have hwo : IntKind.i64.wrap (out'.length : Int) = (out'.length : Int) := wrap_nat (n := out'.length) (by omega)
            have hol1 : (out'.length : Int) < (out'.length : Int) + 1 := by omega
            by_cases hm : s0 ≤ t.2
            · rw [merge_on hm] at HST
              obtain ⟨o0, o1, o2⟩ := o0
              go_wp2_with fail
              go_quiet (fail)
              go_wp2_with fail
              have OS : Hid (_ ∧ _) := Lib.hid (own_last_set (w := (wr.alloc (Obj.cells #[.int .i64 s0, .int .i64 s1] 24)).drewN (nq + 1)) (base := w5.heap.size) (g := g) (cap := cap) (out := out') (s := t) HOB.out (max t.2 s1))
              have hBX : Hid ((wr.alloc (Obj.cells #[.int .i64 s0, .int .i64 s1] 24)).cell? ⟨wr.heap.size, 0, none⟩ = some (.int .i64 s0) ∧ (wr.alloc (Obj.cells #[.int .i64 s0, .int .i64 s1] 24)).cell? ⟨wr.heap.size, 1, none⟩ = some (.int .i64 s1)) := Lib.hid (by constructor <;> simp)
              have hgb : g < wr.heap.size := (HO.out.lt g rfl).2
              have KS := Lib.hid (Kp.of_own ((HK.out.trans KB.out).drewN (nq + 1)) OS.out.2 (HO.out.lt g rfl).1)
              have hBY : Hid (((((wr.alloc (Obj.cells #[.int .i64 s0, .int .i64 s1] 24)).drewN (nq + 1)).setCell ⟨g, out'.length * 2 + 1, none⟩ (.int .i64 (max t.2 s1))).cell? ⟨wr.heap.size, 0, none⟩ = some (.int .i64 s0) ∧ (((wr.alloc (Obj.cells #[.int .i64 s0, .int .i64 s1] 24)).drewN (nq + 1)).setCell ⟨g, out'.length * 2 + 1, none⟩ (.int .i64 (max t.2 s1))).cell? ⟨wr.heap.size, 1, none⟩ = some (.int .i64 s1))) := Lib.hid ⟨(World.grownBy.cell_far OS.out.2 ⟨wr.heap.size, 0, none⟩ (by simp) (by intro e; injection e with e; simp at e; omega)).trans hBX.out.1, (World.grownBy.cell_far OS.out.2 ⟨wr.heap.size, 1, none⟩ (by simp) (by intro e; injection e with e; simp at e; omega)).trans hBX.out.2⟩
              refine wp_region_held_drew (S := fun w1 => w1.cell? ⟨wr.heap.size, 0, none⟩ = some (.int .i64 s0) ∧ w1.cell? ⟨wr.heap.size, 1, none⟩ = some (.int .i64 s1)) (by kernel_rfl) ?_ (fun hHeld => ?_)
              · exact hBX.out
              refine wpAnyH_take (i := 0) (oi := _) (v := ?_) rfl (by kernel_rfl) (by kernel_rfl) (by kernel_rfl) (fun _ _ _ h => h) (Or.inl ⟨by rfl, ?_⟩) (by assumption) ?_
              rotate_left
              · (intro w hSw; (try dsimp only at hSw); go_simp <;> with_reducible rfl)
              try simp only [Act.put, List.getElem_toArray, List.getElem_cons_zero, List.setIfInBounds_toArray, List.set_cons_zero, List.set_cons_succ]
              refine wpAnyH_take (i := 1) (oi := _) (v := ?_) rfl (by kernel_rfl) (by kernel_rfl) (by kernel_rfl) (fun _ _ _ h => h) (Or.inl ⟨by rfl, ?_⟩) (by assumption) ?_
              rotate_left
              · (intro w hSw; (try dsimp only at hSw); go_simp <;> with_reducible rfl)
              try simp only [Act.put, List.getElem_toArray, List.getElem_cons_zero, List.getElem_cons_succ, List.setIfInBounds_toArray, List.set_cons_zero, List.set_cons_succ]
              refine wpAnyH_take (i := 2) (oi := _) (v := ?_) rfl (by kernel_rfl) (by kernel_rfl) (by kernel_rfl) (fun _ _ _ h => h) (Or.inl ⟨by rfl, ?_⟩) (by assumption) ?_
              rotate_left
              · (intro w hSw; (try dsimp only at hSw); go_simp <;> with_reducible rfl)
              try simp only [Act.put, List.getElem_toArray, List.getElem_cons_zero, List.getElem_cons_succ, List.setIfInBounds_toArray, List.set_cons_zero, List.set_cons_succ]
              refine wpAnyH_take (i := 3) (oi := _) (v := ?_) rfl (by kernel_rfl) (by kernel_rfl) (by kernel_rfl) (fun _ _ _ h => h) (Or.inl ⟨by rfl, ?_⟩) (by assumption) ?_
              rotate_left
              · (intro w hSw; (try dsimp only at hSw); go_simp <;> with_reducible rfl)
              try simp only [Act.put, List.getElem_toArray, List.getElem_cons_zero, List.getElem_cons_succ, List.setIfInBounds_toArray, List.set_cons_zero, List.set_cons_succ]
              refine wpAnyH_take (i := 4) (oi := _) (v := ?_) rfl (by kernel_rfl) (by kernel_rfl) (by kernel_rfl) (fun _ _ _ h => h) (Or.inl ⟨by rfl, ?_⟩) (by assumption) ?_
              rotate_left
              · (intro w hSw; (try dsimp only at hSw); go_simp <;> with_reducible rfl)
              try simp only [Act.put, List.getElem_toArray, List.getElem_cons_zero, List.getElem_cons_succ, List.setIfInBounds_toArray, List.set_cons_zero, List.set_cons_succ]
              refine wpAnyH_take (i := 5) (oi := _) (v := ?_) rfl (by kernel_rfl) (by kernel_rfl) (by kernel_rfl) (fun _ _ _ h => h) (Or.inl ⟨by rfl, ?_⟩) (by assumption) ?_
              rotate_left
              · (intro w hSw; (try dsimp only at hSw); go_simp <;> with_reducible rfl)
              try simp only [Act.put, List.getElem_toArray, List.getElem_cons_zero, List.getElem_cons_succ, List.setIfInBounds_toArray, List.set_cons_zero, List.set_cons_succ]
              refine wpAnyH_take (i := 6) (oi := _) (v := ?_) rfl (by kernel_rfl) (by kernel_rfl) (by kernel_rfl) (fun _ _ _ h => h) (Or.inl ⟨by rfl, ?_⟩) (by assumption) ?_
              rotate_left
              · (intro w hSw; (try dsimp only at hSw); go_simp <;> with_reducible rfl)
              try simp only [Act.put, List.getElem_toArray, List.getElem_cons_zero, List.getElem_cons_succ, List.setIfInBounds_toArray, List.set_cons_zero, List.set_cons_succ]
              refine wpAnyH_take (i := 7) (oi := _) (v := ?_) rfl (by kernel_rfl) (by kernel_rfl) (by kernel_rfl) (fun _ _ _ h => h) (Or.inl ⟨by rfl, ?_⟩) (by assumption) ?_
              rotate_left
              · (intro w hSw; (try dsimp only at hSw); go_simp <;> with_reducible rfl)
              try simp only [Act.put, List.getElem_toArray, List.getElem_cons_zero, List.getElem_cons_succ, List.setIfInBounds_toArray, List.set_cons_zero, List.set_cons_succ]
              refine wpAnyH_take (i := 9) (oi := _) (v := ?_) rfl (by kernel_rfl) (by kernel_rfl) (by kernel_rfl) (fun _ _ _ h => h) (Or.inl ⟨by rfl, ?_⟩) (by assumption) ?_
              rotate_left
              · (intro w hSw; (try dsimp only at hSw); go_simp <;> with_reducible rfl)
              try simp only [Act.put, List.getElem_toArray, List.getElem_cons_zero, List.getElem_cons_succ, List.setIfInBounds_toArray, List.set_cons_zero, List.set_cons_succ]
              refine wpAnyH_take (i := 10) (oi := _) (v := ?_) rfl (by kernel_rfl) (by kernel_rfl) (by kernel_rfl) (fun _ _ _ h => h) (Or.inl ⟨by rfl, ?_⟩) (by assumption) ?_
              rotate_left
              · (intro w hSw; (try dsimp only at hSw); go_simp <;> with_reducible rfl)
              try simp only [Act.put, List.getElem_toArray, List.getElem_cons_zero, List.getElem_cons_succ, List.setIfInBounds_toArray, List.set_cons_zero, List.set_cons_succ]
              refine wpAnyH_take (i := 12) (oi := _) (v := ?_) rfl (by kernel_rfl) (by kernel_rfl) (by kernel_rfl) (fun _ _ _ h => h) (Or.inl ⟨by rfl, ?_⟩) (by assumption) ?_
              rotate_left
              · (intro w hSw; (try dsimp only at hSw); go_simp <;> with_reducible rfl)
              try simp only [Act.put, List.getElem_toArray, List.getElem_cons_zero, List.getElem_cons_succ, List.setIfInBounds_toArray, List.set_cons_zero, List.set_cons_succ]
              refine wpAnyH_ready (rs := [8]) (by kernel_rfl) (by simp) ?_
              refine AllReadyH.cons (o := _) rfl (fun K hK => ?_) AllReadyH.nil
              clear hHeld
              go_simp
              try go_wp2_with fail
              refine hK.out _ _ hBX.out (fun hHeld => ?_)
              clear hK K
              try simp only [Act.put, List.getElem_toArray, List.getElem_cons_zero, List.getElem_cons_succ, List.setIfInBounds_toArray, List.set_cons_zero, List.set_cons_succ]
              refine wpAnyH_ready (rs := [11]) (by kernel_rfl) (by simp) ?_
              refine AllReadyH.cons (o := _) rfl (fun K hK => ?_) AllReadyH.nil
              clear hHeld
              go_simp
              try go_wp2_with fail
              refine hK.out _ _ hBX.out (fun hHeld => ?_)
              clear hK K
              try simp only [Act.put, List.getElem_toArray, List.getElem_cons_zero, List.getElem_cons_succ, List.setIfInBounds_toArray, List.set_cons_zero, List.set_cons_succ]
              refine wpAnyH_take (i := 13) (oi := _) (v := ?_) rfl (by kernel_rfl) (by kernel_rfl) (by kernel_rfl) (fun _ _ _ h => h) (Or.inl ⟨by rfl, ?_⟩) (by assumption) ?_
              rotate_left
              · (intro w hSw; (try dsimp only at hSw); go_simp <;> with_reducible rfl)
              try simp only [Act.put, List.getElem_toArray, List.getElem_cons_zero, List.getElem_cons_succ, List.setIfInBounds_toArray, List.set_cons_zero, List.set_cons_succ]
              refine wpAnyH_ready (rs := [14]) (by kernel_rfl) (by simp) ?_
              refine AllReadyH.cons (o := _) rfl (fun K hK => ?_) AllReadyH.nil
              clear hHeld
              go_simp
              refine hK.out _ _ hBY.out (fun hHeld => ?_)
              clear hK K hHeld
              refine wpAnyH_done (by kernel_rfl) ?_ _
              go_wp2_with fail
              go_roundw
              case rel => exact HST.out _ _ (by rw [List.length_append, List.length_singleton]; exact OS.out.1) KS.out
              case measure => simp [intOf]; omega
            · rw [merge_new (by simpa using hm)] at HST
              obtain ⟨o0, o1, o2⟩ := o0
              go_wp2_with fail
              go_quiet (fail)
              have KC : Hid (Kp wr (((wr.alloc (Obj.cells #[.int .i64 s0, .int .i64 s1] 24)).drewN nq).alloc (Obj.cells #[.int .i64 s0, .int .i64 s1] 24)) none) := Lib.hid ((KB.out.drewN nq).alloc _)
              go_wp2_with (at_builtin; go_must (refine wpList_app (f := spanVal) (by rfl) _ _ w5.heap.size 65 24 (by rfl) i0 _ 2 16 Try.underlying65 hi hz0 hz1 hz2 rfl (by omega) (fun _ => rfl) span_one (.slice (some ⟨g, 0, none⟩) (out'.length + 1) cap) (out'.length + 1) ((out' ++ [t]).flatMap spanVal) (by rfl) (HO.out.kept KC.out (by cases (Value.slice _ _ _).ownBlock <;> simp)) (.slice (some ⟨wr.heap.size + 1, 0, none⟩) 1 1) [(s0, s1)] (by rfl) (spans_at ((wr.alloc (Obj.cells #[.int .i64 s0, .int .i64 s1] 24)).drewN nq) s0 s1 _ (by simp)) (by unfold maxLen; simp <;> omega) (by simp <;> omega) (HK.out.trans KC.out).size ?_))
              intro v4 w4 ho4 hg4 _
              have HREL := Lib.hid (HST.out v4 w4 (by simpa using ho4) (Kp.row (HK.out.trans KC.out) hg4 (fun j hj => (HO.out.lt j hj).1)))
              clear ho4 hg4
              go_wp2_with fail
              go_roundw
              case rel => exact HREL.out
              case measure => simp [intOf]; omega
        · have hk1 : ¬ (k : Int) < (ss.length : Int) := by omega
          have HE : Hid (∃ ss : List Rc.Span, ss.Perm X ∧ ss.Pairwise (fun a b => a.1 ≤ b.1) ∧ OwnSpans w (Ending.returned u7) wr (ss.foldl Rc.merge [])) := Lib.hid ⟨ss, HP.out, HS.out, u7, rfl, by have := HOUT.out; rw [List.take_of_length_le (by omega)] at this; rw [this]; exact own_mono HO.out K5.out.size, K5.out.trans HK.out⟩
          go_wp2_with fail
          go_ret
          exact HE.out

theorem merge_all_len : ∀ (ss out : List Rc.Span), (ss.foldl Rc.merge out).length ≤ out.length + ss.length
  | [], out => by simp
  | s :: ss, out => by
    rw [List.foldl_cons, List.length_cons]
    have h1 := merge_all_len ss (Rc.merge out s)
    have h2 := merge_len out s
    omega
/-- The program's row: the one row of ranges that covers what the rectangles cover. -/
theorem rowP_any (va : Value) (a : List Rc.Rect) (y : Int) (w : World) (ha : IsRects w va a) (hla : a.length ≤ 4096) (hok : ∀ r ∈ a, r.ok) :
    Calls Try.prog 54 #[va, .int .i64 y] w fun E w' => ∃ row : List Rc.Span, OwnSpans w E w' row ∧ Rc.Canon row ∧ (∀ x, Rc.Mem x row ↔ Rc.cov a x y = true) ∧ row.length ≤ 4096 := by
  refine (rowP_core va a y w ha hla (fun r hr => ?_)).mono ?_
  · have h := hok r hr
    unfold Rc.Rect.ok Rc.far at h
    omega
  · rintro E w' ⟨ss, hp, hs, ho⟩
    have h := Rc.row_one hok y hp hs
    have h1 := merge_all_len ss []
    have h2 := hp.length_eq
    rw [List.length_map] at h2
    have h3 : (Rc.at_ a y).length ≤ a.length := List.length_filter_le _ _
    exact ⟨_, ho, h.1, h.2, by simp at h1; omega⟩

end Go.Proofs.Ytpakiabnhdoijaa
