/- The reference's check of one rule. Conditions: what a machine holds.
  The reference's Check. Conditions: what a machine holds. -/
import Derived.Test.YtnchipahdfbliaaGreatDoorRni
import Derived.Test.YtnchipahdfbliaaGreatDoorCh
import Derived.Test.YtnchipahdfbliaaGreatDoorLy
import Derived.Test.YtnchipahdfbliaaGreatDoorSh

namespace Go.Proofs.YtnchipahdfbliaaGreatDoor
open Go.RowKit

set_option maxHeartbeats 16000000 in
set_option maxRecDepth 100000 in
theorem oneR_walk (nm : List UInt8) (prio wh va : Int) (ca cb : Ru.Cond) (a1 : Option Addr) (m1 p1 : Nat) (a2 : Option Addr) (m2 p2 : Nat) (before : List (List UInt8)) (ao : Option Addr) (cap n : Nat) (w : World) (ht1 : Tree w ca (.slice a1 m1 p1)) (ht2 : Tree w cb (.slice a2 m2 p2)) (hf : Fit ⟨nm, prio, wh, va, ca, cb⟩) (hl : LiesAt 1 strVal w ao cap before) (hn : before.length = n) (hn2 : n ≤ 1000000000000) :
  Calls Tryz.prog 39 #[.agg #[str nm, .int .i64 prio, .int .i64 wh, .int .i64 ca.op, str ca.text, .int .i64 ca.n, .int .i64 ca.box.x0, .int .i64 ca.box.y0, .int .i64 ca.box.x1, .int .i64 ca.box.y1, .slice a1 m1 p1, .int .i64 cb.op, str cb.text, .int .i64 cb.n, .int .i64 cb.box.x0, .int .i64 cb.box.y0, .int .i64 cb.box.x1, .int .i64 cb.box.y1, .slice a2 m2 p2, .int .i64 va], .slice ao n cap] w fun e w' => e = .returned (.int .i64 (Ru.one ⟨nm, prio, wh, va, ca, cb⟩ before)) ∧ Kp w w' none := by
 obtain ⟨hnl, hsa, hsb, hza, hzb⟩ := hf
 have hnl : nm.length ≤ 1000000000 := hnl
 have hza : Ru.size ca ≤ 1000000000000 := hza
 have hzb : Ru.size cb ≤ 1000000000000 := hzb
 have k0 : Kp w (w.alloc (.cells #[str nm, .int .i64 prio, .int .i64 wh, .int .i64 ca.op, str ca.text, .int .i64 ca.n, .int .i64 ca.box.x0, .int .i64 ca.box.y0, .int .i64 ca.box.x1, .int .i64 ca.box.y1, .slice a1 m1 p1, .int .i64 cb.op, str cb.text, .int .i64 cb.n, .int .i64 cb.box.x0, .int .i64 cb.box.y0, .int .i64 cb.box.x1, .int .i64 cb.box.y1, .slice a2 m2 p2, .int .i64 va] 42)) none := (Kp.refl _ _).alloc _
 have HB := Lib.hid (heap_alloc_new w (.cells #[str nm, .int .i64 prio, .int .i64 wh, .int .i64 ca.op, str ca.text, .int .i64 ca.n, .int .i64 ca.box.x0, .int .i64 ca.box.y0, .int .i64 ca.box.x1, .int .i64 ca.box.y1, .slice a1 m1 p1, .int .i64 cb.op, str cb.text, .int .i64 cb.n, .int .i64 cb.box.x0, .int .i64 cb.box.y0, .int .i64 cb.box.x1, .int .i64 cb.box.y1, .slice a2 m2 p2, .int .i64 va] 42))
 have HA65 : Hid (∀ V, Kp w V none → Calls Tryz.prog 65 #[.agg #[.int .i64 ca.op, str ca.text, .int .i64 ca.n, .int .i64 ca.box.x0, .int .i64 ca.box.y0, .int .i64 ca.box.x1, .int .i64 ca.box.y1, .slice a1 m1 p1]] V fun e w' => e = .returned (.bool (Ru.right ca)) ∧ Kp V w' none) := Lib.hid fun V hV => rightR_any ca hsa V _ (ht1.keep hV)
 have HB65 : Hid (∀ V, Kp w V none → Calls Tryz.prog 65 #[.agg #[.int .i64 cb.op, str cb.text, .int .i64 cb.n, .int .i64 cb.box.x0, .int .i64 cb.box.y0, .int .i64 cb.box.x1, .int .i64 cb.box.y1, .slice a2 m2 p2]] V fun e w' => e = .returned (.bool (Ru.right cb)) ∧ Kp V w' none) := Lib.hid fun V hV => rightR_any cb hsb V _ (ht2.keep hV)
 have HA30 : Hid (∀ V, Kp w V none → Calls Tryz.prog 30 #[.agg #[.int .i64 ca.op, str ca.text, .int .i64 ca.n, .int .i64 ca.box.x0, .int .i64 ca.box.y0, .int .i64 ca.box.x1, .int .i64 ca.box.y1, .slice a1 m1 p1]] V fun e w' => e = .returned (.int .i64 (Ru.size ca)) ∧ Kp V w' none) := Lib.hid fun V hV => sizeR_any ca hza V _ (ht1.keep hV)
 have HB30 : Hid (∀ V, Kp w V none → Calls Tryz.prog 30 #[.agg #[.int .i64 cb.op, str cb.text, .int .i64 cb.n, .int .i64 cb.box.x0, .int .i64 cb.box.y0, .int .i64 cb.box.x1, .int .i64 cb.box.y1, .slice a2 m2 p2]] V fun e w' => e = .returned (.int .i64 (Ru.size cb)) ∧ Kp V w' none) := Lib.hid fun V hV => sizeR_any cb hzb V _ (ht2.keep hV)
 have c63 := right12_any nm (by omega) (w.alloc (.cells #[str nm, .int .i64 prio, .int .i64 wh, .int .i64 ca.op, str ca.text, .int .i64 ca.n, .int .i64 ca.box.x0, .int .i64 ca.box.y0, .int .i64 ca.box.x1, .int .i64 ca.box.y1, .slice a1 m1 p1, .int .i64 cb.op, str cb.text, .int .i64 cb.n, .int .i64 cb.box.x0, .int .i64 cb.box.y0, .int .i64 cb.box.x1, .int .i64 cb.box.y1, .slice a2 m2 p2, .int .i64 va] 42))
 have c64 := has12_any before nm ao cap n _ (hl.keep k0) hn hn2
 have K0 := Lib.hid k0
 have hsz : (w.alloc (.cells #[str nm, .int .i64 prio, .int .i64 wh, .int .i64 ca.op, str ca.text, .int .i64 ca.n, .int .i64 ca.box.x0, .int .i64 ca.box.y0, .int .i64 ca.box.x1, .int .i64 ca.box.y1, .slice a1 m1 p1, .int .i64 cb.op, str cb.text, .int .i64 cb.n, .int .i64 cb.box.x0, .int .i64 cb.box.y0, .int .i64 cb.box.x1, .int .i64 cb.box.y1, .slice a2 m2 p2, .int .i64 va] 42)).heap.size = w.heap.size + 1 := by simp
 generalize hW : w.alloc (.cells #[str nm, .int .i64 prio, .int .i64 wh, .int .i64 ca.op, str ca.text, .int .i64 ca.n, .int .i64 ca.box.x0, .int .i64 ca.box.y0, .int .i64 ca.box.x1, .int .i64 ca.box.y1, .slice a1 m1 p1, .int .i64 cb.op, str cb.text, .int .i64 cb.n, .int .i64 cb.box.x0, .int .i64 cb.box.y0, .int .i64 cb.box.x1, .int .i64 cb.box.y1, .slice a2 m2 p2, .int .i64 va] 42) = W at *
 have d0 := hcell HB.out 0 rfl
 have d1 := hcell HB.out 1 rfl
 have d2 := hcell HB.out 2 rfl
 have d19 := hcell HB.out 19 rfl
 have d11 := hcell HB.out 11 rfl
 have HRA := Lib.hid (range_a HB.out).1
 clear ht1 ht2 hl hn k0 hsa hsb hnl
 go_enter Tryz.func39, Tryz.ntmps39
 go_wp2_with fail
 try rw [hW]
 clear hW
 refine c63.mono ?_
 clear c63
 rintro e w1 ⟨rfl, hw1⟩
 subst w1
 cases hnr : Ru.nameR nm with
 | false =>
  have h1 : Ru.nameR nm = false := hnr
  have HO : Hid (Ru.one ⟨nm, prio, wh, va, ca, cb⟩ before = 20) := Lib.hid (by unfold Ru.one; dsimp only; rw [if_pos h1])
  go_wp2_with fail
  go_ret
  exact ⟨by rw [HO.out]; rfl, K0.out⟩
 | true =>
  have h1 : ¬ Ru.nameR nm = false := by rw [hnr]; simp
  have H1 := Lib.hid h1
  clear hnr h1
  go_wp2_with fail
  refine c64.mono ?_
  clear c64
  rintro e w1 ⟨rfl, hw1⟩
  subst w1
  have h1 := H1.out
  clear H1
  by_cases h2 : nm ∈ before
  ·rw [decide_eq_true h2]
   have HO : Hid (Ru.one ⟨nm, prio, wh, va, ca, cb⟩ before = 6) := Lib.hid (by unfold Ru.one; dsimp only; rw [if_neg h1, if_pos h2])
   go_wp2_with fail
   go_ret
   exact ⟨by rw [HO.out]; rfl, K0.out⟩
  ·rw [decide_eq_false h2]
   have X2 := Lib.hid (And.intro h1 h2)
   clear h1 h2
   by_cases q3 : prio < 0
   ·have Q := Lib.hid q3
    have HO : Hid (Ru.one ⟨nm, prio, wh, va, ca, cb⟩ before = 3) := Lib.hid (by
     obtain ⟨h1, h2⟩ := X2.out
     unfold Ru.one; dsimp only; rw [if_neg h1, if_neg h2, if_pos (.inl Q.out)])
    go_wp2_with fail
    go_ret
    exact ⟨by rw [HO.out]; rfl, K0.out⟩
   by_cases r3 : 1000 < prio
   ·have Q := Lib.hid r3
    have HO : Hid (Ru.one ⟨nm, prio, wh, va, ca, cb⟩ before = 3) := Lib.hid (by
     obtain ⟨h1, h2⟩ := X2.out
     unfold Ru.one; dsimp only; rw [if_neg h1, if_neg h2, if_pos (.inr Q.out)])
    go_wp2_with fail
    go_ret
    exact ⟨by rw [HO.out]; rfl, K0.out⟩
   have X3 := Lib.hid (show ¬ Ru.nameR nm = false ∧ nm ∉ before ∧ ¬ (prio < 0 ∨ 1000 < prio) from by
    obtain ⟨h1, h2⟩ := X2.out
    exact ⟨h1, h2, by omega⟩)
   by_cases q4 : wh < 1
   ·have Q := Lib.hid q4
    have HO : Hid (Ru.one ⟨nm, prio, wh, va, ca, cb⟩ before = 40) := Lib.hid (by
     obtain ⟨h1, h2, h3⟩ := X3.out
     unfold Ru.one; dsimp only; rw [if_neg h1, if_neg h2, if_neg h3, if_pos (.inl Q.out)])
    go_wp2_with fail
    go_ret
    exact ⟨by rw [HO.out]; rfl, K0.out⟩
   by_cases r4 : 4 < wh
   ·have Q := Lib.hid r4
    have HO : Hid (Ru.one ⟨nm, prio, wh, va, ca, cb⟩ before = 40) := Lib.hid (by
     obtain ⟨h1, h2, h3⟩ := X3.out
     unfold Ru.one; dsimp only; rw [if_neg h1, if_neg h2, if_neg h3, if_pos (.inr Q.out)])
    go_wp2_with fail
    go_ret
    exact ⟨by rw [HO.out]; rfl, K0.out⟩
   have X4 := Lib.hid (show ¬ Ru.nameR nm = false ∧ nm ∉ before ∧ ¬ (prio < 0 ∨ 1000 < prio) ∧ ¬ (wh < 1 ∨ 4 < wh) from by
    obtain ⟨h1, h2, h3⟩ := X3.out
    exact ⟨h1, h2, h3, by omega⟩)
   by_cases q5 : va < 0
   ·have Q := Lib.hid q5
    have HO : Hid (Ru.one ⟨nm, prio, wh, va, ca, cb⟩ before = 3) := Lib.hid (by
     obtain ⟨h1, h2, h3, h4⟩ := X4.out
     unfold Ru.one; dsimp only; rw [if_neg h1, if_neg h2, if_neg h3, if_neg h4, if_pos (.inl Q.out)])
    go_wp2_with fail
    go_ret
    exact ⟨by rw [HO.out]; rfl, K0.out⟩
   by_cases r5 : 4194304 < va
   ·have Q := Lib.hid r5
    have HO : Hid (Ru.one ⟨nm, prio, wh, va, ca, cb⟩ before = 3) := Lib.hid (by
     obtain ⟨h1, h2, h3, h4⟩ := X4.out
     unfold Ru.one; dsimp only; rw [if_neg h1, if_neg h2, if_neg h3, if_neg h4, if_pos (.inr Q.out)])
    go_wp2_with fail
    go_ret
    exact ⟨by rw [HO.out]; rfl, K0.out⟩
   have X5 := Lib.hid (show ¬ Ru.nameR nm = false ∧ nm ∉ before ∧ ¬ (prio < 0 ∨ 1000 < prio) ∧ ¬ (wh < 1 ∨ 4 < wh) ∧ ¬ (va < 0 ∨ 4194304 < va) from by
    obtain ⟨h1, h2, h3, h4⟩ := X4.out
    exact ⟨h1, h2, h3, h4, by omega⟩)
   go_wp2_with (refine wpList_load_mid (by rfl) 40 _ (by rfl) w.heap.size 3 (by rfl) #[.int .i64 ca.op, str ca.text, .int .i64 ca.n, .int .i64 ca.box.x0, .int .i64 ca.box.y0, .int .i64 ca.box.x1, .int .i64 ca.box.y1, .slice a1 m1 p1].toList _ HRA.out Tryz.underlying40 (by rfl) info40s ?_)
   refine (HA65.out W K0.out).mono ?_
   rintro e w2 ⟨rfl, hk2⟩
   have K2 := Lib.hid (K0.out.trans hk2)
   have HB2 := Lib.hid (res_kept HB.out hk2 (by simp))
   clear hk2 HRA HB d0 d1 d2 d19 d11
   have d11 := hcell HB2.out 11 rfl
   have d12 := hcell HB2.out 12 rfl
   have d13 := hcell HB2.out 13 rfl
   have d14 := hcell HB2.out 14 rfl
   have d15 := hcell HB2.out 15 rfl
   have d16 := hcell HB2.out 16 rfl
   have d17 := hcell HB2.out 17 rfl
   have d18 := hcell HB2.out 18 rfl
   cases hra : Ru.right ca with
   | false =>
    have Q := Lib.hid hra
    have HO : Hid (Ru.one ⟨nm, prio, wh, va, ca, cb⟩ before = 40) := Lib.hid (by
     obtain ⟨h1, h2, h3, h4, h5⟩ := X5.out
     unfold Ru.one; dsimp only; rw [if_neg h1, if_neg h2, if_neg h3, if_neg h4, if_neg h5, if_pos (.inl Q.out)])
    go_wp2_with fail
    go_ret
    exact ⟨by rw [HO.out]; rfl, K2.out⟩
   | true =>
    have QA := Lib.hid hra
    clear hra
    go_wp2_with fail
    refine (HB65.out w2 K2.out).mono ?_
    rintro e w3 ⟨rfl, hk3⟩
    have K3 := Lib.hid (K2.out.trans hk3)
    have HB3 := Lib.hid (res_kept HB2.out hk3 (by simp))
    have HRA := Lib.hid (range_a HB3.out).1
    clear hk3 HB2 d11 d12 d13 d14 d15 d16 d17 d18
    cases hrb : Ru.right cb with
    | false =>
     have Q := Lib.hid hrb
     have HO : Hid (Ru.one ⟨nm, prio, wh, va, ca, cb⟩ before = 40) := Lib.hid (by
      obtain ⟨h1, h2, h3, h4, h5⟩ := X5.out
      unfold Ru.one; dsimp only; rw [if_neg h1, if_neg h2, if_neg h3, if_neg h4, if_neg h5, if_pos (.inr Q.out)])
     go_wp2_with fail
     go_ret
     exact ⟨by rw [HO.out]; rfl, K3.out⟩
    | true =>
     have QB := Lib.hid hrb
     clear hrb
     have X6 := Lib.hid (show ¬ Ru.nameR nm = false ∧ nm ∉ before ∧ ¬ (prio < 0 ∨ 1000 < prio) ∧ ¬ (wh < 1 ∨ 4 < wh) ∧ ¬ (va < 0 ∨ 4194304 < va) ∧ ¬ (Ru.right ca = false ∨ Ru.right cb = false) from by
      obtain ⟨h1, h2, h3, h4, h5⟩ := X5.out
      exact ⟨h1, h2, h3, h4, h5, fun h => h.elim (fun h => by rw [QA.out] at h; cases h) (fun h => by rw [QB.out] at h; cases h)⟩)
     obtain ⟨sa, hsa⟩ : ∃ x, Ru.size ca = x := ⟨_, rfl⟩
     obtain ⟨sb, hsb⟩ : ∃ x, Ru.size cb = x := ⟨_, rfl⟩
     rw [hsa] at HA30 hza
     rw [hsb] at HB30 hzb
     have HSA := Lib.hid hsa
     have HSB := Lib.hid hsb
     clear hsa hsb
     go_wp2_with (refine wpList_load_mid (by rfl) 40 _ (by rfl) w.heap.size 3 (by rfl) #[.int .i64 ca.op, str ca.text, .int .i64 ca.n, .int .i64 ca.box.x0, .int .i64 ca.box.y0, .int .i64 ca.box.x1, .int .i64 ca.box.y1, .slice a1 m1 p1].toList _ HRA.out Tryz.underlying40 (by rfl) info40s ?_)
     refine (HA30.out w3 K3.out).mono ?_
     rintro e w4 ⟨rfl, hk4⟩
     have K4 := Lib.hid (K3.out.trans hk4)
     have HB4 := Lib.hid (res_kept HB3.out hk4 (by simp))
     clear hk4 HB3 HRA
     have d11 := hcell HB4.out 11 rfl
     have d12 := hcell HB4.out 12 rfl
     have d13 := hcell HB4.out 13 rfl
     have d14 := hcell HB4.out 14 rfl
     have d15 := hcell HB4.out 15 rfl
     have d16 := hcell HB4.out 16 rfl
     have d17 := hcell HB4.out 17 rfl
     have d18 := hcell HB4.out 18 rfl
     by_cases qs : 20 < sa
     ·have Q : Hid (20 < Ru.size ca) := Lib.hid (by rw [HSA.out]; exact qs)
      have qsi : (20 : Int) < (sa : Int) := by omega
      have HO : Hid (Ru.one ⟨nm, prio, wh, va, ca, cb⟩ before = 2) := Lib.hid (by
       obtain ⟨h1, h2, h3, h4, h5, h6⟩ := X6.out
       unfold Ru.one; dsimp only; rw [if_neg h1, if_neg h2, if_neg h3, if_neg h4, if_neg h5, if_neg h6, if_pos (.inl Q.out)])
      go_wp2_with fail
      go_ret
      exact ⟨by rw [HO.out]; rfl, K4.out⟩
     have qsi : ¬ (20 : Int) < (sa : Int) := by omega
     go_wp2_with fail
     refine (HB30.out w4 K4.out).mono ?_
     rintro e w5 ⟨rfl, hk5⟩
     have K5 := Lib.hid (K4.out.trans hk5)
     have HB5 := Lib.hid (res_kept HB4.out hk5 (by simp))
     clear hk5 HB4 d11 d12 d13 d14 d15 d16 d17 d18
     have d2 := hcell HB5.out 2 rfl
     have d11 := hcell HB5.out 11 rfl
     by_cases qt : 20 < sb
     ·have Q : Hid (20 < Ru.size cb) := Lib.hid (by rw [HSB.out]; exact qt)
      have qti : (20 : Int) < (sb : Int) := by omega
      have HO : Hid (Ru.one ⟨nm, prio, wh, va, ca, cb⟩ before = 2) := Lib.hid (by
       obtain ⟨h1, h2, h3, h4, h5, h6⟩ := X6.out
       unfold Ru.one; dsimp only; rw [if_neg h1, if_neg h2, if_neg h3, if_neg h4, if_neg h5, if_neg h6, if_pos (.inr Q.out)])
      go_wp2_with fail
      go_ret
      exact ⟨by rw [HO.out]; rfl, K5.out⟩
     have qti : ¬ (20 : Int) < (sb : Int) := by omega
     have X7 := Lib.hid (show ¬ Ru.nameR nm = false ∧ nm ∉ before ∧ ¬ (prio < 0 ∨ 1000 < prio) ∧ ¬ (wh < 1 ∨ 4 < wh) ∧ ¬ (va < 0 ∨ 4194304 < va) ∧ ¬ (Ru.right ca = false ∨ Ru.right cb = false) ∧ ¬ (20 < Ru.size ca ∨ 20 < Ru.size cb) from by
      obtain ⟨h1, h2, h3, h4, h5, h6⟩ := X6.out
      exact ⟨h1, h2, h3, h4, h5, h6, by rw [HSA.out, HSB.out]; omega⟩)
     by_cases u1 : wh = 1
     ·have e1 : (wh != 1) = false := by rw [u1]; rfl
      have X8 := Lib.hid u1
      clear u1
      have HO : Hid (Ru.one ⟨nm, prio, wh, va, ca, cb⟩ before = 0) := Lib.hid (by
       obtain ⟨h1, h2, h3, h4, h5, h6, h7⟩ := X7.out
       unfold Ru.one; dsimp only; rw [if_neg h1, if_neg h2, if_neg h3, if_neg h4, if_neg h5, if_neg h6, if_neg h7, if_neg (fun h => h.1 X8.out)])
      go_wp2_with fail
      go_ret
      exact ⟨by rw [HO.out]; rfl, K5.out⟩
     have e1 : (wh != 1) = true := by simpa using u1
     by_cases u2 : cb.op = 1
     ·have e2 : (cb.op != 1) = false := by rw [u2]; rfl
      have X8 := Lib.hid u2
      clear u2
      have HO : Hid (Ru.one ⟨nm, prio, wh, va, ca, cb⟩ before = 0) := Lib.hid (by
       obtain ⟨h1, h2, h3, h4, h5, h6, h7⟩ := X7.out
       unfold Ru.one; dsimp only; rw [if_neg h1, if_neg h2, if_neg h3, if_neg h4, if_neg h5, if_neg h6, if_neg h7, if_neg (fun h => h.2 X8.out)])
      go_wp2_with fail
      go_ret
      exact ⟨by rw [HO.out]; rfl, K5.out⟩
     have e2 : (cb.op != 1) = true := by simpa using u2
     have X8 := Lib.hid (And.intro u1 u2)
     clear u1 u2
     have HO : Hid (Ru.one ⟨nm, prio, wh, va, ca, cb⟩ before = 40) := Lib.hid (by
      obtain ⟨h1, h2, h3, h4, h5, h6, h7⟩ := X7.out
      unfold Ru.one; dsimp only; rw [if_neg h1, if_neg h2, if_neg h3, if_neg h4, if_neg h5, if_neg h6, if_neg h7, if_pos X8.out])
     go_wp2_with fail
     go_ret
     exact ⟨by rw [HO.out]; rfl, K5.out⟩
end Go.Proofs.YtnchipahdfbliaaGreatDoor

namespace Go.Proofs.YtnchipahdfbliaaGreatDoor
open Go.RowKit

set_option maxHeartbeats 16000000 in
set_option maxRecDepth 100000 in
theorem checkR_any (ps : List RV) (ao : Option Addr) (cap n : Nat) (w : World) (hn : ps.length = n) (hl : LiesAt 20 rC w ao cap ps) (ht : ∀ p ∈ ps, p.Tree w) (hf : ∀ p ∈ ps, Fit p.r) :
  Calls Tryz.prog 14 #[.slice ao n cap] w fun e w' => e = .returned (.int .i64 (Ru.check (ps.map (·.r)))) ∧ Kp w w' none := by
 obtain ⟨res, hres⟩ : ∃ r, Ru.check (ps.map (·.r)) = r := ⟨_, rfl⟩
 rw [hres]
 have hn0 : (0 : Int) ≤ (n : Int) := by omega
 by_cases h24 : 24 < n
 ·have hi : (24 : Int) < (n : Int) := by omega
  have hr2 : res = 2 := by rw [← hres]; unfold Ru.check; rw [List.length_map, hn, if_pos h24]
  subst hr2
  clear hres hl ht hf
  go_enter Tryz.func14, Tryz.ntmps14
  go_wp2_with fail
  go_ret
  exact ⟨rfl, Kp.refl _ _⟩
 ·have hi : ¬ (24 : Int) < (n : Int) := by omega
  have HS : Hid (res = Ru.checkL [] (ps.map (·.r))) := Lib.hid (by rw [← hres]; unfold Ru.check; rw [List.length_map, hn, if_neg h24])
  have HL := Lib.hid hl
  have HT := Lib.hid ht
  have HF := Lib.hid hf
  have HN := Lib.hid hn
  have hn24 : n ≤ 24 := by omega
  clear hres hl ht hf h24 hn
  go_enter Tryz.func14, Tryz.ntmps14
  go_wp2_with fail
  go_loopw [3, 4] (fun lv i wr => ∃ k : Nat, k ≤ n ∧ i = .int .i64 (k : Int) ∧ Hid (wr.ownsRow w.heap.size 9 1 lv k (((ps.take k).map (·.r.name)).flatMap strVal)) ∧ Hid (res = Ru.checkL ((ps.take k).map (·.r.name)) ((ps.drop k).map (·.r))) ∧ Hid (Kp w wr none)) (fun _ i _ => n - (intOf i).toNat)
  case atStart => exact ⟨0, Nat.zero_le _, rfl, Lib.hid ⟨rfl, .inl ⟨rfl, rfl⟩⟩, HS, Lib.hid (Kp.refl _ _)⟩
  case round =>
   obtain ⟨k, hk, rfl, HOW, HM, HK⟩ := hrel
   have hk0 : (0 : Int) ≤ (k : Int) := by omega
   by_cases hlt : k < n
   ·have h1 : k < ps.length := by rw [HN.out]; exact hlt
    have hk1 : (k : Int) < (n : Int) := by omega
    obtain ⟨q, hq⟩ : ∃ q, ps[k] = q := ⟨_, rfl⟩
    have hqm : q ∈ ps := by rw [← hq]; exact List.getElem_mem h1
    obtain ⟨⟨a1, m1, p1, hq1⟩, ⟨a2, m2, p2, hq2⟩⟩ := RV.slices (HT.out q hqm)
    obtain ⟨b, off, hao, hbl, hrg⟩ := (HL.out.keep HK.out).range k h1 hq
    subst hao
    have hcap : n ≤ cap := by obtain ⟨_, _, _, _, h, _⟩ := HL.out k h1; rw [HN.out] at h; exact h
    have hXE : rC q = #[str q.r.name, .int .i64 q.r.prio, .int .i64 q.r.what, .int .i64 q.r.a.op, str q.r.a.text, .int .i64 q.r.a.n, .int .i64 q.r.a.box.x0, .int .i64 q.r.a.box.y0, .int .i64 q.r.a.box.x1, .int .i64 q.r.a.box.y1, .slice a1 m1 p1, .int .i64 q.r.b.op, str q.r.b.text, .int .i64 q.r.b.n, .int .i64 q.r.b.box.x0, .int .i64 q.r.b.box.y0, .int .i64 q.r.b.box.x1, .int .i64 q.r.b.box.y1, .slice a2 m2 p2, .int .i64 q.r.value].toList := by unfold rC cC; rw [hq1, hq2]; rfl
    rw [hXE] at hrg
    have HRG := Lib.hid hrg
    have hc0 : wr.cell? ⟨b, off + k * 20, none⟩ = some (str q.r.name) := by have := hrg 0 _ rfl; simpa using this
    obtain ⟨lo, lcap, hlv⟩ := own_slice HOW.out
    subst hlv
    have HOW2 : Hid (wr.ownsRow w.heap.size 9 1 (.slice lo k lcap) ((ps.take k).map (·.r.name)).length (((ps.take k).map (·.r.name)).flatMap strVal)) := Lib.hid (by rw [List.length_map, List.length_take, HN.out, Nat.min_eq_left hk]; exact HOW.out)
    have hla := (own_lies (m := 1) (f := strVal) (fun _ => rfl) HOW2.out).2
    have tA := ((HT.out q hqm).1).keep HK.out
    have tB := ((HT.out q hqm).2).keep HK.out
    rw [hq1] at tA
    rw [hq2] at tB
    have A := oneR_walk q.r.name q.r.prio q.r.what q.r.value q.r.a q.r.b a1 m1 p1 a2 m2 p2 ((ps.take k).map (·.r.name)) lo lcap k wr tA tB (HF.out q hqm) hla (by rw [List.length_map, List.length_take, HN.out]; omega) (by omega)
    obtain ⟨c, hc⟩ : ∃ c, Ru.one q.r ((ps.take k).map (·.r.name)) = c := ⟨_, rfl⟩
    have A : Calls Tryz.prog 39 #[.agg #[str q.r.name, .int .i64 q.r.prio, .int .i64 q.r.what, .int .i64 q.r.a.op, str q.r.a.text, .int .i64 q.r.a.n, .int .i64 q.r.a.box.x0, .int .i64 q.r.a.box.y0, .int .i64 q.r.a.box.x1, .int .i64 q.r.a.box.y1, .slice a1 m1 p1, .int .i64 q.r.b.op, str q.r.b.text, .int .i64 q.r.b.n, .int .i64 q.r.b.box.x0, .int .i64 q.r.b.box.y0, .int .i64 q.r.b.box.x1, .int .i64 q.r.b.box.y1, .slice a2 m2 p2, .int .i64 q.r.value], .slice lo k lcap] wr fun e w' => e = .returned (.int .i64 c) ∧ Kp wr w' none := by rw [← hc]; exact A
    have hdr : (ps.drop k).map (·.r) = q.r :: (ps.drop (k + 1)).map (·.r) := by rw [List.drop_eq_getElem_cons h1, hq]; rfl
    have HM1 : Hid (res = Ru.checkL ((ps.take k).map (·.r.name)) (q.r :: (ps.drop (k + 1)).map (·.r))) := Lib.hid (by rw [HM.out, hdr])
    have HNX : Hid ((ps.take (k + 1)).map (·.r.name) = (ps.take k).map (·.r.name) ++ [q.r.name]) := Lib.hid (by rw [List.take_add_one, List.getElem?_eq_getElem h1, hq]; simp)
    clear hq hrg hXE hq1 hq2 tA tB hla hdr
    by_cases hc0' : c = 0
    ·have hb : (c != 0) = false := by rw [hc0']; rfl
     have HM2 : Hid (res = Ru.checkL ((ps.take (k + 1)).map (·.r.name)) ((ps.drop (k + 1)).map (·.r))) := Lib.hid (by rw [HM1.out, HNX.out]; exact one_go (hc.trans hc0'))
     obtain ⟨i0, hi', hz0, hz1, hz2⟩ := info_parts info9
     have hcm : k + 1 ≤ maxLen := by unfold maxLen; omega
     have hcb : (k + 1) * 16 ≤ 140737488355328 := by omega
     clear hc hc0'
     go_wp2_with (first | (refine wpList_load_mid (by rfl) 42 _ (by rfl) b (off + k * 20) (by rfl) #[str q.r.name, .int .i64 q.r.prio, .int .i64 q.r.what, .int .i64 q.r.a.op, str q.r.a.text, .int .i64 q.r.a.n, .int .i64 q.r.a.box.x0, .int .i64 q.r.a.box.y0, .int .i64 q.r.a.box.x1, .int .i64 q.r.a.box.y1, .slice a1 m1 p1, .int .i64 q.r.b.op, str q.r.b.text, .int .i64 q.r.b.n, .int .i64 q.r.b.box.x0, .int .i64 q.r.b.box.y0, .int .i64 q.r.b.box.x1, .int .i64 q.r.b.box.y1, .slice a2 m2 p2, .int .i64 q.r.value].toList _ HRG.out Tryz.underlying42 (by rfl) info42 ?_) | (go_at_call 39; refine A.mono ?_; rintro e w3 ⟨rfl, hk3⟩; have HK3 := Lib.hid hk3; have hz3 := (HK.out.trans hk3).size; have hc3 := (hk3.below.cell (p := ⟨b, off + k * 20, none⟩) hbl).trans hc0; clear hk3 hc0) | (at_builtin; go_must (refine wpList_append_lies _ (by rfl) _ _ _ (by rfl) w.heap.size 9 i0 _ 1 16 Tryz.underlying68 hi' hz0 hz1 hz2 rfl (by omega) (.slice lo k lcap) k (((ps.take k).map (·.r.name)).flatMap strVal) (by rfl) ((own_kp HOW.out HK3.out).alloc _) ⟨w3.heap.size, 0, none⟩ 1 1 #[str q.r.name].toList (by rfl) (by rfl) (World.news_of_block (cs := #[str q.r.name]) (t := 9) (fr := (0, 0)) (heap_alloc_new w3 _)) (by simp [Value.oneCell']) (by omega) hcm hcb (by simp; omega) (w3.heap.size + 1) (by simp) ?_)))
     intro gg capg w5 hown5 hgrow5 hor5 hgl5
     have HOW5 : Hid (w5.ownsRow w.heap.size 9 1 (.slice (some ⟨gg, 0, none⟩) (k + 1) capg) (k + 1) (((ps.take (k + 1)).map (·.r.name)).flatMap strVal)) := Lib.hid (by rw [HNX.out, List.flatMap_append, List.map_take]; exact hown5)
     have HK5 : Hid (Kp w w5 none) := Lib.hid (Kp.row ((HK.out.trans HK3.out).alloc _) hgrow5 (fun r hr => (HOW.out.lt r hr).1))
     clear hown5 hgrow5 hor5
     go_wp2_with fail
     go_roundw
     case rel => exact ⟨k + 1, hlt, by go_num, HOW5, HM2, HK5⟩
     case measure => simp [intOf]; omega
    ·have hb : (c != 0) = true := by simpa using hc0'
     have HR : Hid (res = c) := Lib.hid (by rw [HM1.out]; exact one_ne hc hc0')
     clear hc hc0'
     go_wp2_with (first | (refine wpList_load_mid (by rfl) 42 _ (by rfl) b (off + k * 20) (by rfl) #[str q.r.name, .int .i64 q.r.prio, .int .i64 q.r.what, .int .i64 q.r.a.op, str q.r.a.text, .int .i64 q.r.a.n, .int .i64 q.r.a.box.x0, .int .i64 q.r.a.box.y0, .int .i64 q.r.a.box.x1, .int .i64 q.r.a.box.y1, .slice a1 m1 p1, .int .i64 q.r.b.op, str q.r.b.text, .int .i64 q.r.b.n, .int .i64 q.r.b.box.x0, .int .i64 q.r.b.box.y0, .int .i64 q.r.b.box.x1, .int .i64 q.r.b.box.y1, .slice a2 m2 p2, .int .i64 q.r.value].toList _ HRG.out Tryz.underlying42 (by rfl) info42 ?_) | (go_at_call 39; refine A.mono ?_; rintro e w3 ⟨rfl, hk3⟩; have HK3 := Lib.hid hk3; clear hk3))
     go_ret
     exact ⟨by rw [HR.out]; rfl, HK.out.trans HK3.out⟩
   ·obtain rfl : k = n := by omega
    have HR : Hid (res = 0) := Lib.hid (by rw [HM.out, ← HN.out, List.drop_length]; rfl)
    go_wp2_with fail
    go_ret
    exact ⟨by rw [HR.out]; rfl, HK.out⟩
end Go.Proofs.YtnchipahdfbliaaGreatDoor
