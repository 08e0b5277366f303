/- The test of two lists of lists (SamePieces), where they are equal. Condition: at most 2^16 lists of at most 2^16 rectangles. -/
import Derived.Test.YtpakiabnhdoijaaMd
import Derived.Test.YtpakiabnhdoijaaPi
namespace Go.Proofs.Ytpakiabnhdoijaa
open Go.RowKit

set_option maxHeartbeats 4000000 in
set_option maxRecDepth 100000 in
theorem samePieces_any (a b : Value) (pss : List (List Rc.Rect)) (w : World) (ha : IsPieces w a pss) (hb : IsPieces w b pss) (hl : pss.length ≤ 65536) (hll : ∀ p ∈ pss, p.length ≤ 1000000000) :
    Calls Try.prog 21 #[a, b] w fun E w' => E = .returned (.bool true) ∧ Kp w w' none := by
  obtain ⟨aoa, capa, rfl, fa⟩ := ha.form
  obtain ⟨aob, capb, rfl, fb⟩ := hb.form
  have FA := Lib.hid fa
  have FB := Lib.hid fb
  have HL := Lib.hid hll
  clear ha hb fa fb hll
  have hn0 : (0 : Int) ≤ (pss.length : Int) := Int.natCast_nonneg _
  go_enter Try.func21, Try.ntmps21
  go_wp2_with fail
  go_loopw [5] (fun i wr => ∃ k : Nat, k ≤ pss.length ∧ i = .int .i64 k ∧ Kp w wr none) (fun i _ => pss.length - (intOf i).toNat)
  case atStart => exact ⟨0, Nat.zero_le _, rfl, Kp.refl _ _⟩
  case round =>
    obtain ⟨k, hk, rfl, hK⟩ := hrel
    have HK := Lib.hid hK
    clear hK
    have hk0 : (0 : Int) ≤ (k : Int) := Int.natCast_nonneg _
    by_cases hlt : k < pss.length
    · have hk1 : (k : Int) < (pss.length : Int) := by omega
      obtain ⟨b1, o1, aq, cq, rfl, hb1, hc1, hcell1, f1⟩ := FA.out k hlt
      obtain ⟨b2, o2, ar, cr, rfl, hb2, hc2, hcell2, f2⟩ := FB.out k hlt
      have hpl := HL.out pss[k] (List.getElem_mem hlt)
      obtain ⟨p, hp⟩ : ∃ p, pss[k] = p := ⟨_, rfl⟩
      rw [hp] at hcell1 hcell2 f1 f2 hpl
      have CC : Hid (∀ V, Kp w V none → V.cell? ⟨b1, o1 + k, none⟩ = some (.slice aq p.length cq) ∧ V.cell? ⟨b2, o2 + k, none⟩ = some (.slice ar p.length cr)) := Lib.hid fun V kV => ⟨(kV.below.cell (p := ⟨b1, o1 + k, none⟩) hb1).trans hcell1, (kV.below.cell (p := ⟨b2, o2 + k, none⟩) hb2).trans hcell2⟩
      have F1 := Lib.hid f1
      have F2 := Lib.hid f2
      clear hcell1 hcell2 f1 f2 hp
      have cs := CC.out wr HK.out
      go_wp2_with fail
      refine wp_region_held_drew (S := fun w1 => w1.cell? ⟨b1, o1 + k, none⟩ = some (.slice aq p.length cq) ∧ w1.cell? ⟨b2, o2 + k, none⟩ = some (.slice ar p.length cr)) (by kernel_rfl) ?_ (fun hHeld => ?_)
      · exact CC.out _ HK.out.drew
      refine wpAnyH_take (i := 0) (oi := _) (v := ?_) rfl (by kernel_rfl) (by kernel_rfl) (by kernel_rfl) (fun _ _ _ h => h) (Or.inl ⟨by rfl, ?_⟩) (by assumption) ?_
      rotate_left
      · (intro w hSw; (try dsimp only at hSw); go_simp <;> with_reducible rfl)
      try simp only [Act.put, List.getElem_toArray, List.getElem_cons_zero, List.setIfInBounds_toArray, List.set_cons_zero, List.set_cons_succ]
      refine wpAnyH_take (i := 1) (oi := _) (v := ?_) rfl (by kernel_rfl) (by kernel_rfl) (by kernel_rfl) (fun _ _ _ h => h) (Or.inl ⟨by rfl, ?_⟩) (by assumption) ?_
      rotate_left
      · (intro w hSw; (try dsimp only at hSw); go_simp <;> with_reducible rfl)
      try simp only [Act.put, List.getElem_toArray, List.getElem_cons_zero, List.getElem_cons_succ, List.setIfInBounds_toArray, List.set_cons_zero, List.set_cons_succ]
      refine wpAnyH_take (i := 2) (oi := _) (v := ?_) rfl (by kernel_rfl) (by kernel_rfl) (by kernel_rfl) (fun _ _ _ h => h) (Or.inl ⟨by rfl, ?_⟩) (by assumption) ?_
      rotate_left
      · (intro w hSw; (try dsimp only at hSw); go_simp <;> with_reducible rfl)
      try simp only [Act.put, List.getElem_toArray, List.getElem_cons_zero, List.getElem_cons_succ, List.setIfInBounds_toArray, List.set_cons_zero, List.set_cons_succ]
      refine wpAnyH_take (i := 3) (oi := _) (v := ?_) rfl (by kernel_rfl) (by kernel_rfl) (by kernel_rfl) (fun _ _ _ h => h) (Or.inl ⟨by rfl, ?_⟩) (by assumption) ?_
      rotate_left
      · (intro w hSw; (try dsimp only at hSw); go_simp <;> with_reducible rfl)
      try simp only [Act.put, List.getElem_toArray, List.getElem_cons_zero, List.getElem_cons_succ, List.setIfInBounds_toArray, List.set_cons_zero, List.set_cons_succ]
      refine wpAnyH_take (i := 4) (oi := _) (v := ?_) rfl (by kernel_rfl) (by kernel_rfl) (by kernel_rfl) (fun _ _ _ h => h) (Or.inl ⟨by rfl, ?_⟩) (by assumption) ?_
      rotate_left
      · (intro w hSw; (try dsimp only at hSw); go_simp <;> with_reducible rfl)
      try simp only [Act.put, List.getElem_toArray, List.getElem_cons_zero, List.getElem_cons_succ, List.setIfInBounds_toArray, List.set_cons_zero, List.set_cons_succ]
      refine wpAnyH_take (i := 5) (oi := _) (v := ?_) rfl (by kernel_rfl) (by kernel_rfl) (by kernel_rfl) (fun _ _ _ h => h) (Or.inl ⟨by rfl, ?_⟩) (by assumption) ?_
      rotate_left
      · (intro w hSw; (try dsimp only at hSw); go_simp <;> with_reducible rfl)
      try simp only [Act.put, List.getElem_toArray, List.getElem_cons_zero, List.getElem_cons_succ, List.setIfInBounds_toArray, List.set_cons_zero, List.set_cons_succ]
      refine wpAnyH_take (i := 6) (oi := _) (v := ?_) rfl (by kernel_rfl) (by kernel_rfl) (by kernel_rfl) (fun _ _ _ h => h) (Or.inl ⟨by rfl, ?_⟩) (by assumption) ?_
      rotate_left
      · (intro w hSw; (try dsimp only at hSw); go_simp <;> with_reducible rfl)
      try simp only [Act.put, List.getElem_toArray, List.getElem_cons_zero, List.getElem_cons_succ, List.setIfInBounds_toArray, List.set_cons_zero, List.set_cons_succ]
      refine wpAnyH_take (i := 7) (oi := _) (v := ?_) rfl (by kernel_rfl) (by kernel_rfl) (by kernel_rfl) (fun _ _ _ h => h) (Or.inl ⟨by rfl, ?_⟩) (by assumption) ?_
      rotate_left
      · (intro w hSw; (try dsimp only at hSw); go_simp <;> with_reducible rfl)
      try simp only [Act.put, List.getElem_toArray, List.getElem_cons_zero, List.getElem_cons_succ, List.setIfInBounds_toArray, List.set_cons_zero, List.set_cons_succ]
      refine wpAnyH_ready (rs := [8]) (by kernel_rfl) (by simp) ?_
      refine AllReadyH.cons (o := _) rfl (fun K hK => ?_) AllReadyH.nil
      clear hHeld
      go_simp
      refine (sameR_any (.slice aq p.length cq) (.slice ar p.length cr) p _ (F1.out.list.keep HK.out.drew) (F2.out.list.keep HK.out.drew) hpl).mono ?_
      rintro E w3 ⟨rfl, n, hn⟩
      have K3 : Hid (Kp w w3 none) := Lib.hid (by rw [← hn]; exact HK.out.drew.drewN n)
      clear hn
      try go_wp2_with fail
      refine hK.out _ _ (CC.out _ K3.out) (fun hHeld => ?_)
      clear hK K
      try simp only [Act.put, List.getElem_toArray, List.getElem_cons_zero, List.getElem_cons_succ, List.setIfInBounds_toArray, List.set_cons_zero, List.set_cons_succ]
      refine wpAnyH_ready (rs := [9]) (by kernel_rfl) (by simp) ?_
      refine AllReadyH.cons (o := _) rfl (fun K hK => ?_) AllReadyH.nil
      clear hHeld
      go_simp
      try go_wp2_with fail
      refine hK.out _ _ (CC.out _ K3.out) (fun hHeld => ?_)
      clear hK K hHeld
      refine wpAnyH_done (by kernel_rfl) ?_ _
      go_wp2_with fail
      go_roundw
      case rel => exact ⟨k + 1, hlt, by go_num, K3.out⟩
      case measure => simp [intOf]; omega
    · have hk1 : ¬ (k : Int) < (pss.length : Int) := by omega
      go_wp2_with fail
      go_ret
      exact ⟨rfl, HK.out⟩

end Go.Proofs.Ytpakiabnhdoijaa
