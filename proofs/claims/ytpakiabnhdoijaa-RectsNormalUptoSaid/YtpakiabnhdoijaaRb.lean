/- The reference's tests of right lists. Condition: at most 2^16 elements. -/
import Derived.Test.YtpakiabnhdoijaaRa
namespace Go.Proofs.Ytpakiabnhdoijaa
open Go.RowKit

def okTo (xs : List Rc.Rect) (k : Nat) : Prop := ∀ r ∈ xs.take k, r.ok
theorem okTo_step {xs : List Rc.Rect} {k : Nat} (h : k < xs.length) (h0 : okTo xs k) (hk : xs[k].ok) : okTo xs (k + 1) := by
  intro r hr
  rw [List.take_succ_eq_append_getElem h, List.mem_append] at hr
  rcases hr with hr | hr
  · exact h0 r hr
  · rw [List.mem_singleton] at hr; subst hr; exact hk
theorem right_of {xs : List Rc.Rect} (hl : xs.length ≤ 4096) (h : okTo xs xs.length) : decide (Rc.Right xs) = true := decide_eq_true ⟨hl, fun r hr => h r (by rw [List.take_length]; exact hr)⟩
theorem not_right_at {xs : List Rc.Rect} {k : Nat} (h : k < xs.length) (hk : ¬ xs[k].ok) : decide (Rc.Right xs) = false := decide_eq_false fun ⟨_, h2⟩ => hk (h2 _ (List.getElem_mem h))
theorem not_right_long {xs : List Rc.Rect} (h : 4096 < xs.length) : decide (Rc.Right xs) = false := decide_eq_false fun ⟨h1, _⟩ => by omega

set_option maxHeartbeats 8000000 in
set_option maxRecDepth 100000 in
theorem rright_row (b off cap : Nat) (xs : List Rc.Rect) (w : World) (_hc : xs.length ≤ cap) (hl : xs.length ≤ 65536) (hb : b < w.heap.size)
    (hr : ∀ k, (h : k < xs.length) → ∀ j, (h2 : j < (recVal xs[k]).length) → w.cell? ⟨b, off + k * 4 + j, none⟩ = some (recVal xs[k])[j]) :
    Calls Try.prog 13 #[.slice (some ⟨b, off, none⟩) xs.length cap] w fun E w' => E = .returned (.bool (decide (Rc.Right xs))) ∧ Kp w w' none := by
  have HR := Lib.hid hr
  clear hr
  obtain ⟨v, hv⟩ : ∃ v, decide (Rc.Right xs) = v := ⟨_, rfl⟩
  rw [hv]
  have HV := Lib.hid hv
  clear hv
  by_cases hlong : 4096 < xs.length
  · have e : v = false := by rw [← HV.out]; exact not_right_long hlong
    subst e
    have hlong' : (4096 : Int) < (xs.length : Int) := by omega
    go_enter Try.func13, Try.ntmps13
    go_wp2_with fail
    go_ret
    exact ⟨rfl, Kp.refl _ _⟩
  have hlong' : ¬ (4096 : Int) < (xs.length : Int) := by omega
  go_enter Try.func13, Try.ntmps13
  go_wp2_with fail
  go_loopw [3] (fun i wr => ∃ k : Nat, k ≤ xs.length ∧ i = .int .i64 k ∧ okTo xs k ∧ Kp w wr none) (fun i _ => xs.length - (intOf i).toNat)
  case atStart => exact ⟨0, Nat.zero_le _, rfl, fun _ h => (by cases h), Kp.refl _ _⟩
  case round =>
    obtain ⟨k, hk, rfl, hcv, hkp⟩ := hrel
    have HC := Lib.hid hcv
    have HK := Lib.hid hkp
    clear hcv hkp
    by_cases hlt : k < xs.length
    · obtain ⟨r, hx⟩ : ∃ r, xs[k] = r := ⟨_, rfl⟩
      have c0 : wr.cell? ⟨b, off + k * 4, none⟩ = some (.int .i64 r.x0) := by rw [HK.out.below.cell (p := ⟨b, _, none⟩) hb]; subst hx; exact HR.out k hlt 0 (by simp [recVal])
      have c1 : wr.cell? ⟨b, off + k * 4 + 1, none⟩ = some (.int .i64 r.y0) := by rw [HK.out.below.cell (p := ⟨b, _, none⟩) hb]; subst hx; exact HR.out k hlt 1 (by simp [recVal])
      have c2 : wr.cell? ⟨b, off + k * 4 + 2, none⟩ = some (.int .i64 r.x1) := by rw [HK.out.below.cell (p := ⟨b, _, none⟩) hb]; subst hx; exact HR.out k hlt 2 (by simp [recVal])
      have c3 : wr.cell? ⟨b, off + k * 4 + 3, none⟩ = some (.int .i64 r.y1) := by rw [HK.out.below.cell (p := ⟨b, _, none⟩) hb]; subst hx; exact HR.out k hlt 3 (by simp [recVal])
      have HX := Lib.hid hx
      clear hx
      have hk0 : (0 : Int) ≤ (k : Int) := Int.natCast_nonneg _
      have hk1 : (k : Int) < (xs.length : Int) := by omega
      obtain ⟨x0, y0, x1, y1⟩ := r
      simp only [] at c0 c1 c2 c3
      have hF : Hid (¬ (Rc.Rect.mk x0 y0 x1 y1).ok → v = false) := Lib.hid (fun h => by rw [← HV.out]; exact not_right_at hlt (by rw [HX.out]; exact h))
      have hT : Hid ((Rc.Rect.mk x0 y0 x1 y1).ok → okTo xs (k + 1)) := Lib.hid (fun h => okTo_step hlt HC.out (by rw [HX.out]; exact h))
      clear HX
      by_cases h0 : x1 ≤ x0
      · have e := hF.out (fun h => by unfold Rc.Rect.ok at h; simp only [] at h; omega)
        subst e
        go_wp2_with fail
        go_ret
        exact ⟨rfl, HK.out.alloc _⟩
      by_cases h1 : y1 ≤ y0
      · have e := hF.out (fun h => by unfold Rc.Rect.ok at h; simp only [] at h; omega)
        subst e
        go_wp2_with fail
        go_ret
        exact ⟨rfl, HK.out.alloc _⟩
      by_cases h2 : x0 < -1073741824
      · have e := hF.out (fun h => by unfold Rc.Rect.ok Rc.far at h; simp only [] at h; omega)
        subst e
        go_wp2_with fail
        go_ret
        exact ⟨rfl, HK.out.alloc _⟩
      by_cases h3 : 1073741824 < x1
      · have e := hF.out (fun h => by unfold Rc.Rect.ok Rc.far at h; simp only [] at h; omega)
        subst e
        go_wp2_with fail
        go_ret
        exact ⟨rfl, HK.out.alloc _⟩
      by_cases h4 : y0 < -1073741824
      · have e := hF.out (fun h => by unfold Rc.Rect.ok Rc.far at h; simp only [] at h; omega)
        subst e
        go_wp2_with fail
        go_ret
        exact ⟨rfl, HK.out.alloc _⟩
      by_cases h5 : 1073741824 < y1
      · have e := hF.out (fun h => by unfold Rc.Rect.ok Rc.far at h; simp only [] at h; omega)
        subst e
        go_wp2_with fail
        go_ret
        exact ⟨rfl, HK.out.alloc _⟩
      go_wp2_with fail
      go_roundw
      case rel =>
        refine ⟨k + 1, hlt, by go_num, hT.out ?_, ?_⟩
        · unfold Rc.Rect.ok Rc.far; simp only []; omega
        · exact HK.out.alloc _
      case measure => simp [intOf]; omega
    · have e : k = xs.length := by omega
      subst e
      have e : v = true := by rw [← HV.out]; exact right_of (by omega) HC.out
      subst e
      go_wp2_with fail
      go_ret
      exact ⟨rfl, HK.out⟩

set_option maxHeartbeats 1000000 in
theorem rright_nil (ao : Option Addr) (c : Nat) (w : World) : Calls Try.prog 13 #[.slice ao 0 c] w fun E w' => E = .returned (.bool true) ∧ w = w' := by
  go_enter Try.func13, Try.ntmps13
  go_wp2_with fail
  go_loopw [3] (fun i wr => i = .int .i64 0 ∧ w = wr) (fun _ _ => 0)
  case atStart => exact ⟨rfl, rfl⟩
  case round =>
    obtain ⟨rfl, rfl⟩ := hrel
    go_wp2_with fail
    go_ret
    exact ⟨rfl, rfl⟩

theorem rright_any (v : Value) (xs : List Rc.Rect) (w : World) (h : IsRects w v xs) (hl : xs.length ≤ 65536) :
    Calls Try.prog 13 #[v] w fun E w' => E = .returned (.bool (decide (Rc.Right xs))) ∧ Kp w w' none := by
  rcases h with ⟨ao, cap, rfl, rfl⟩ | ⟨b, off, cap, rfl, hc, hb, hr⟩
  · refine (rright_nil ao cap w).mono ?_
    rintro E w' ⟨rfl, rfl⟩
    exact ⟨rfl, Kp.refl _ _⟩
  · exact rright_row b off cap xs w hc hl hb hr

set_option maxHeartbeats 1000000 in
theorem rset_any (v : Value) (xs : List Rc.Rect) (w : World) (h : IsRects w v xs) (hl : xs.length ≤ 65536) :
    Calls Try.prog 40 #[v] w fun E w' => ∃ u, E = .returned u ∧ IsRects w' u (Rc.set xs) ∧ Kp w w' none := by
  have H := Lib.hid h
  have A := rright_any v xs w h hl
  clear h
  by_cases hR : Rc.Right xs
  · have hs : Rc.set xs = xs := by unfold Rc.set; rw [if_pos hR]
    rw [hs]
    rw [decide_eq_true hR] at A
    clear hs
    go_enter Try.func40, Try.ntmps40
    go_wp2_with fail
    refine A.mono ?_
    rintro e w1 ⟨rfl, k1⟩
    have K1 := Lib.hid k1
    clear k1
    go_wp2_with fail
    go_ret
    exact ⟨_, rfl, H.out.keep K1.out, K1.out⟩
  · have hs : Rc.set xs = [] := by unfold Rc.set; rw [if_neg hR]
    rw [hs]
    rw [decide_eq_false hR] at A
    clear hs
    go_enter Try.func40, Try.ntmps40
    go_wp2_with fail
    refine A.mono ?_
    rintro e w1 ⟨rfl, k1⟩
    have K1 := Lib.hid k1
    clear k1
    go_wp2_with fail
    go_ret
    exact ⟨_, rfl, .inl ⟨none, 0, rfl, rfl⟩, K1.out⟩

end Go.Proofs.Ytpakiabnhdoijaa
