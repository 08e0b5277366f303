/- The chapter's examples, computed; the pieces of one set. No program is in sight.
   The chapter's examples (sanity, 9). No condition. -/
import Derived.Test.YtpakiabnhdoijaaRcG
import Derived.Test.YtpakiabnhdoijaaMd
import Derived.Test.YtpakiabnhdoijaaPc
import Derived.Test.YtpakiabnhdoijaaHa

namespace Go.Proofs.Ytpakiabnhdoijaa
open Rc

set_option maxRecDepth 100000 in
theorem ex1 : norm [⟨0, 0, 2, 2⟩, ⟨1, 1, 3, 3⟩] = quads [0, 0, 2, 1, 0, 1, 3, 2, 1, 2, 3, 3] := by decide
set_option maxRecDepth 100000 in
theorem ex2 : norm (quads [0, 1, 2, 2, 0, 0, 2, 1]) = quads [0, 0, 2, 2] := by decide
set_option maxRecDepth 100000 in
theorem ex3 : norm (quads [0, 0, 1, 1, 1, 0, 2, 1, 3, 0, 4, 1]) = quads [0, 0, 2, 1, 3, 0, 4, 1] := by decide
set_option maxRecDepth 100000 in
theorem ex4 : comb kLess (quads [0, 0, 3, 3]) (quads [1, 1, 2, 2]) = quads [0, 0, 3, 1, 0, 1, 1, 2, 2, 1, 3, 2, 0, 2, 3, 3] := by decide
set_option maxRecDepth 100000 in
theorem ex5 : comb kMeet (quads [0, 0, 2, 2]) (quads [1, 1, 3, 3]) = quads [1, 1, 2, 2] := by decide
set_option maxRecDepth 100000 in
theorem ex6 : areaOf (norm (comb kJoin (quads [0, 0, 2, 2]) (quads [1, 1, 3, 3]))) = 7 := by decide
set_option maxRecDepth 100000 in
theorem ex7 : norm (quads [0, 0, 0, 1]) = [] := by decide
set_option maxRecDepth 100000 in
theorem ex8 : norm (quads [0, 0, 1, 1, 1, 1, 2, 2, 3, 0, 4, 1]) = [⟨0, 0, 1, 1⟩, ⟨3, 0, 4, 1⟩, ⟨1, 1, 2, 2⟩] := by decide
theorem conn_class {l : List Rect} (cl : Nat → Bool) (h : ∀ j k, j < l.length → k < l.length → Adj l j k → cl j = cl k) {j k : Nat} (c : Conn l j k) : cl j = cl k := by
  induction c with
  | refl => rfl
  | step _ t ih => rw [ih]; exact h _ _ t.lt.1 t.lt.2 t
def exN : List Rect := [⟨0, 0, 1, 1⟩, ⟨3, 0, 4, 1⟩, ⟨1, 1, 2, 2⟩]
theorem ex_class {j k : Nat} (c : Conn exN j k) : (j == 1) = (k == 1) := by
  refine conn_class (fun n => n == 1) (fun j k hj hk t => ?_) c
  rw [adj_iff hj hk] at t
  have hj' : j < 3 := hj
  have hk' : k < 3 := hk
  have : (j = 0 ∨ j = 1 ∨ j = 2) ∧ (k = 0 ∨ k = 1 ∨ k = 2) := by omega
  obtain ⟨rfl | rfl | rfl, rfl | rfl | rfl⟩ := this <;> first | rfl | (simp [exN, Rc.touch] at t)
theorem ex_02 : Conn exN 0 2 := Conn.adj ((adj_iff (by decide) (by decide)).2 (by decide))
theorem ex_roots : rootsTo exN 3 = [0, 1] := by
  have h0 : IsRoot exN 0 := fun j hj => by omega
  have h1 : IsRoot exN 1 := fun j hj c => by
    have : j = 0 := by omega
    subst this
    have := ex_class c
    simp at this
  have h2 : ¬ IsRoot exN 2 := fun h => h 0 (by decide) ex_02.symm
  rw [rootsTo_no h2, rootsTo_yes h1, rootsTo_yes h0]
  rfl
theorem ex_comp0 : compTo exN 0 3 = [0, 2] := by
  have h1 : ¬ Conn exN 0 1 := fun c => by
    have := ex_class c
    simp at this
  rw [compTo_yes ex_02, compTo_no h1, compTo_yes (.refl 0 (by decide)), compTo_zero]
  rfl
theorem ex_comp1 : compTo exN 1 3 = [1] := by
  have h0 : ¬ Conn exN 1 0 := fun c => by
    have := ex_class c
    simp at this
  have h2 : ¬ Conn exN 1 2 := fun c => by
    have := ex_class c
    simp at this
  rw [compTo_no h2, compTo_yes (.refl 1 (by decide)), compTo_no h0, compTo_zero]
  rfl
set_option maxRecDepth 100000 in
theorem ex_n0 : norm (pick exN [0, 2]) = quads [0, 0, 1, 1, 1, 1, 2, 2] := by decide
set_option maxRecDepth 100000 in
theorem ex_n1 : norm (pick exN [1]) = quads [3, 0, 4, 1] := by decide
theorem ex9 : pieces (quads [0, 0, 1, 1, 1, 1, 2, 2, 3, 0, 4, 1]) = [quads [0, 0, 1, 1, 1, 1, 2, 2], quads [3, 0, 4, 1]] := by
  unfold pieces
  rw [ex8]
  show piecesTo exN 3 = _
  unfold piecesTo
  rw [ex_roots]
  show [norm (pick exN (compTo exN 0 3)), norm (pick exN (compTo exN 1 3))] = _
  rw [ex_comp0, ex_comp1, ex_n0, ex_n1]
end Go.Proofs.Ytpakiabnhdoijaa

namespace Go.Proofs.Ytpakiabnhdoijaa
open Go.RowKit

theorem ints_at (w : World) (xs : List Int) : IsInts (w.alloc (Obj.cells (xs.map fun x => Value.int .i64 x).toArray 3)) (.slice (some ⟨w.heap.size, 0, none⟩) xs.length xs.length) xs := by
  refine .inr ⟨w.heap.size, 0, xs.length, rfl, Nat.le_refl _, by simp, fun k hk j hj => ?_⟩
  simp [intVal] at hj
  subst hj
  rw [cell_of_row _ _ _ _ _ _ (heap_alloc_new w _)]
  simp [intVal, hk]
theorem rfl_join {a : List Rc.Rect} : a = a := rfl
theorem ex10 : Rc.cov (Rc.set (quads [0, 0, 2, 2])) 1 1 = true := by decide
theorem ex11 : Rc.cov (Rc.set (quads [0, 0, 2, 2])) 2 1 = false := by decide
theorem ex12 : decide (Rc.Right (quads [0, 0, 2, 2])) = true := by decide

set_option maxHeartbeats 8000000 in
set_option maxRecDepth 100000 in
theorem sanity_any (w : World) : Calls Try.prog 9 #[] w fun E w' => E = .returned (.bool true) ∧ Kp w w' none := by
  obtain ⟨i1, hi1, hy0, hy1, hy2⟩ := info_parts infoRect
  have K : Hid (Kp w w none) := Lib.hid (Kp.refl _ _)
  go_enter Try.func9, Try.ntmps9
  go_wp2_with fail
  refine (list_any _ [0, 0, 2, 2] _ (ints_at w [0, 0, 2, 2]) (by decide)).mono ?_
  rintro E w1 ⟨uA, rfl, ho, k⟩
  have k := Kp.trans (Kp.alloc (Kp.refl w none) _) k
  have K := Lib.hid (K.out.trans k)
  clear k
  have HA : Hid (IsRects w1 uA (quads [0, 0, 2, 2])) := Lib.hid (isList_own (m := 4) (f := recVal) (fun _ => rfl) ho)
  clear ho
  go_wp2_with fail
  refine (list_any _ [1, 1, 3, 3] _ (ints_at w1 [1, 1, 3, 3]) (by decide)).mono ?_
  rintro E w2 ⟨uB, rfl, ho, k⟩
  have k := Kp.trans (Kp.alloc (Kp.refl w1 none) _) k
  have HA := Lib.hid (HA.out.keep k)
  have K := Lib.hid (K.out.trans k)
  clear k
  have HB : Hid (IsRects w2 uB (quads [1, 1, 3, 3])) := Lib.hid (isList_own (m := 4) (f := recVal) (fun _ => rfl) ho)
  clear ho
  have HA2 := HA
  have HB2 := HB
  have K2 := K
  go_wp2_with fail
  refine (list_any _ [0, 0, 2, 2] _ (ints_at w2 [0, 0, 2, 2]) (by decide)).mono ?_
  rintro E w3 ⟨uL, rfl, ho, k⟩
  have k := Kp.trans (Kp.alloc (Kp.refl w2 none) _) k
  have KL := Lib.hid k
  have HA := Lib.hid (HA.out.keep k)
  have HB := Lib.hid (HB.out.keep k)
  have K := Lib.hid (K.out.trans k)
  clear k
  have HL : Hid (IsRects w3 uL (quads [0, 0, 2, 2])) := Lib.hid (isList_own (m := 4) (f := recVal) (fun _ => rfl) ho)
  have OL := Lib.hid (own_mono (base' := w2.heap.size) ho (by simp))
  clear ho
  go_wp2_with (at_builtin; go_must (refine wpList_app (f := recVal) (by rfl) _ _ w2.heap.size 22 44 (by rfl) i1 _ 4 32 Try.underlying22 hi1 hy0 hy1 hy2 rfl (by omega) (fun _ => rfl) rec_one uL 1 ((quads [0, 0, 2, 2]).flatMap recVal) (by rfl) OL.out uB (quads [1, 1, 3, 3]) (by rfl) HB.out (by decide) (by decide) (Nat.le_trans (by simp) KL.out.size) ?_))
  intro uM w4 ho hg _
  have k : Kp w2 w4 none := Kp.row KL.out hg (fun j hj => (OL.out.lt j hj).1)
  clear HL
  have HA := Lib.hid (HA2.out.keep k)
  have HB := Lib.hid (HB2.out.keep k)
  have K := Lib.hid (K2.out.trans k)
  have HM : Hid (IsRects w4 uM [⟨0, 0, 2, 2⟩, ⟨1, 1, 3, 3⟩]) := Lib.hid (isList_own (m := 4) (f := recVal) (fun _ => rfl) ho)
  clear k ho hg OL KL HA2 HB2 K2
  go_wp2_with fail
  refine (normP_any _ _ w4 HM.out (by decide)).mono ?_
  rintro E w5 ⟨uN, rfl, ho, k⟩
  clear HM
  have HA := Lib.hid (HA.out.keep k)
  have HB := Lib.hid (HB.out.keep k)
  have K := Lib.hid (K.out.trans k)
  clear k
  have HN := Lib.hid (isList_own (m := 4) (f := recVal) (fun _ => rfl) ho)
  rw [ex1] at HN
  clear ho
  go_wp2_with fail
  refine (is_any _ _ _ [0, 0, 2, 1, 0, 1, 3, 2, 1, 2, 3, 3] _ (HN.out.keep (Kp.alloc (Kp.refl w5 none) _)) (ints_at w5 [0, 0, 2, 1, 0, 1, 3, 2, 1, 2, 3, 3]) (by decide) rfl).mono ?_
  rintro E w6 ⟨rfl, k⟩
  clear HN
  have k := Kp.trans (Kp.alloc (Kp.refl w5 none) _) k
  have HA := Lib.hid (HA.out.keep k)
  have HB := Lib.hid (HB.out.keep k)
  have K := Lib.hid (K.out.trans k)
  clear k
  go_wp2_with fail
  refine (list_any _ [0, 1, 2, 2, 0, 0, 2, 1] _ (ints_at w6 [0, 1, 2, 2, 0, 0, 2, 1]) (by decide)).mono ?_
  rintro E w7 ⟨uL, rfl, ho, k⟩
  have k := Kp.trans (Kp.alloc (Kp.refl w6 none) _) k
  have HA := Lib.hid (HA.out.keep k)
  have HB := Lib.hid (HB.out.keep k)
  have K := Lib.hid (K.out.trans k)
  clear k
  have HL : Hid (IsRects w7 uL (quads [0, 1, 2, 2, 0, 0, 2, 1])) := Lib.hid (isList_own (m := 4) (f := recVal) (fun _ => rfl) ho)
  clear ho
  go_wp2_with fail
  refine (normP_any _ _ w7 HL.out (by decide)).mono ?_
  rintro E w8 ⟨uN, rfl, ho, k⟩
  clear HL
  have HA := Lib.hid (HA.out.keep k)
  have HB := Lib.hid (HB.out.keep k)
  have K := Lib.hid (K.out.trans k)
  clear k
  have HN := Lib.hid (isList_own (m := 4) (f := recVal) (fun _ => rfl) ho)
  rw [ex2] at HN
  clear ho
  go_wp2_with fail
  refine (is_any _ _ _ [0, 0, 2, 2] _ (HN.out.keep (Kp.alloc (Kp.refl w8 none) _)) (ints_at w8 [0, 0, 2, 2]) (by decide) rfl).mono ?_
  rintro E w9 ⟨rfl, k⟩
  clear HN
  have k := Kp.trans (Kp.alloc (Kp.refl w8 none) _) k
  have HA := Lib.hid (HA.out.keep k)
  have HB := Lib.hid (HB.out.keep k)
  have K := Lib.hid (K.out.trans k)
  clear k
  go_wp2_with fail
  refine (list_any _ [0, 0, 1, 1, 1, 0, 2, 1, 3, 0, 4, 1] _ (ints_at w9 [0, 0, 1, 1, 1, 0, 2, 1, 3, 0, 4, 1]) (by decide)).mono ?_
  rintro E w10 ⟨uL, rfl, ho, k⟩
  have k := Kp.trans (Kp.alloc (Kp.refl w9 none) _) k
  have HA := Lib.hid (HA.out.keep k)
  have HB := Lib.hid (HB.out.keep k)
  have K := Lib.hid (K.out.trans k)
  clear k
  have HL : Hid (IsRects w10 uL (quads [0, 0, 1, 1, 1, 0, 2, 1, 3, 0, 4, 1])) := Lib.hid (isList_own (m := 4) (f := recVal) (fun _ => rfl) ho)
  clear ho
  go_wp2_with fail
  refine (normP_any _ _ w10 HL.out (by decide)).mono ?_
  rintro E w11 ⟨uN, rfl, ho, k⟩
  clear HL
  have HA := Lib.hid (HA.out.keep k)
  have HB := Lib.hid (HB.out.keep k)
  have K := Lib.hid (K.out.trans k)
  clear k
  have HN := Lib.hid (isList_own (m := 4) (f := recVal) (fun _ => rfl) ho)
  rw [ex3] at HN
  clear ho
  go_wp2_with fail
  refine (is_any _ _ _ [0, 0, 2, 1, 3, 0, 4, 1] _ (HN.out.keep (Kp.alloc (Kp.refl w11 none) _)) (ints_at w11 [0, 0, 2, 1, 3, 0, 4, 1]) (by decide) rfl).mono ?_
  rintro E w12 ⟨rfl, k⟩
  clear HN
  have k := Kp.trans (Kp.alloc (Kp.refl w11 none) _) k
  have HA := Lib.hid (HA.out.keep k)
  have HB := Lib.hid (HB.out.keep k)
  have K := Lib.hid (K.out.trans k)
  clear k
  go_wp2_with fail
  refine (list_any _ [0, 0, 3, 3] _ (ints_at w12 [0, 0, 3, 3]) (by decide)).mono ?_
  rintro E w13 ⟨uL, rfl, ho, k⟩
  have k := Kp.trans (Kp.alloc (Kp.refl w12 none) _) k
  have HA := Lib.hid (HA.out.keep k)
  have HB := Lib.hid (HB.out.keep k)
  have K := Lib.hid (K.out.trans k)
  clear k
  have HL : Hid (IsRects w13 uL (quads [0, 0, 3, 3])) := Lib.hid (isList_own (m := 4) (f := recVal) (fun _ => rfl) ho)
  clear ho
  go_wp2_with fail
  refine (list_any _ [1, 1, 2, 2] _ (ints_at w13 [1, 1, 2, 2]) (by decide)).mono ?_
  rintro E w14 ⟨uM, rfl, ho, k⟩
  have k := Kp.trans (Kp.alloc (Kp.refl w13 none) _) k
  have HA := Lib.hid (HA.out.keep k)
  have HB := Lib.hid (HB.out.keep k)
  have HL := Lib.hid (HL.out.keep k)
  have K := Lib.hid (K.out.trans k)
  clear k
  have HM : Hid (IsRects w14 uM (quads [1, 1, 2, 2])) := Lib.hid (isList_own (m := 4) (f := recVal) (fun _ => rfl) ho)
  clear ho
  go_wp2_with fail
  refine (lessP_any _ _ _ _ w14 HL.out HM.out (by decide) (by decide)).mono ?_
  rintro E w15 ⟨uN, rfl, ho, k⟩
  clear HL
  clear HM
  have HA := Lib.hid (HA.out.keep k)
  have HB := Lib.hid (HB.out.keep k)
  have K := Lib.hid (K.out.trans k)
  clear k
  have HN := Lib.hid (isList_own (m := 4) (f := recVal) (fun _ => rfl) ho)
  rw [ex4] at HN
  clear ho
  go_wp2_with fail
  refine (is_any _ _ _ [0, 0, 3, 1, 0, 1, 1, 2, 2, 1, 3, 2, 0, 2, 3, 3] _ (HN.out.keep (Kp.alloc (Kp.refl w15 none) _)) (ints_at w15 [0, 0, 3, 1, 0, 1, 1, 2, 2, 1, 3, 2, 0, 2, 3, 3]) (by decide) rfl).mono ?_
  rintro E w16 ⟨rfl, k⟩
  clear HN
  have k := Kp.trans (Kp.alloc (Kp.refl w15 none) _) k
  have HA := Lib.hid (HA.out.keep k)
  have HB := Lib.hid (HB.out.keep k)
  have K := Lib.hid (K.out.trans k)
  clear k
  go_wp2_with fail
  refine (meetP_any _ _ _ _ w16 HA.out HB.out (by decide) (by decide)).mono ?_
  rintro E w17 ⟨uN, rfl, ho, k⟩
  have HA := Lib.hid (HA.out.keep k)
  have HB := Lib.hid (HB.out.keep k)
  have K := Lib.hid (K.out.trans k)
  clear k
  have HN := Lib.hid (isList_own (m := 4) (f := recVal) (fun _ => rfl) ho)
  rw [ex5] at HN
  clear ho
  go_wp2_with fail
  refine (is_any _ _ _ [1, 1, 2, 2] _ (HN.out.keep (Kp.alloc (Kp.refl w17 none) _)) (ints_at w17 [1, 1, 2, 2]) (by decide) rfl).mono ?_
  rintro E w18 ⟨rfl, k⟩
  clear HN
  have k := Kp.trans (Kp.alloc (Kp.refl w17 none) _) k
  have HA := Lib.hid (HA.out.keep k)
  have HB := Lib.hid (HB.out.keep k)
  have K := Lib.hid (K.out.trans k)
  clear k
  go_wp2_with fail
  refine (joinP_any _ _ _ _ w18 HA.out HB.out (by decide) (by decide)).mono ?_
  rintro E w19 ⟨uN, rfl, ho, k⟩
  have HA := Lib.hid (HA.out.keep k)
  have HB := Lib.hid (HB.out.keep k)
  have K := Lib.hid (K.out.trans k)
  clear k
  have HN := Lib.hid (isList_own (m := 4) (f := recVal) (fun _ => rfl) ho)
  clear ho
  go_wp2_with fail
  refine (areaP_any _ _  w19 HN.out (by decide)).mono ?_
  rintro E w20 ⟨rfl, k⟩
  clear HN
  have HA := Lib.hid (HA.out.keep k)
  have HB := Lib.hid (HB.out.keep k)
  have K := Lib.hid (K.out.trans k)
  clear k
  rw [ex6]
  go_wp2_with fail
  refine (list_any _ [0, 0, 1, 1, 1, 1, 2, 2, 3, 0, 4, 1] _ (ints_at w20 [0, 0, 1, 1, 1, 1, 2, 2, 3, 0, 4, 1]) (by decide)).mono ?_
  rintro E w21 ⟨uL, rfl, ho, k⟩
  have k := Kp.trans (Kp.alloc (Kp.refl w20 none) _) k
  have HA := Lib.hid (HA.out.keep k)
  have HB := Lib.hid (HB.out.keep k)
  have K := Lib.hid (K.out.trans k)
  clear k
  have HL : Hid (IsRects w21 uL (quads [0, 0, 1, 1, 1, 1, 2, 2, 3, 0, 4, 1])) := Lib.hid (isList_own (m := 4) (f := recVal) (fun _ => rfl) ho)
  clear ho
  go_wp2_with fail
  refine (piecesP_any _ _ w21 HL.out (by decide) (by rw [ex8]; decide)).mono ?_
  rintro E w22 ⟨uP, rfl, hp, k⟩
  clear HL
  have HA := Lib.hid (HA.out.keep k)
  have HB := Lib.hid (HB.out.keep k)
  have K := Lib.hid (K.out.trans k)
  clear k
  rw [ex9] at hp
  obtain ⟨aoP, capP, rfl, hpc⟩ := hp.form
  have FP := Lib.hid hpc
  clear hp hpc
  obtain ⟨bP, offP, ao0, cap0, rfl, hbP, hcP, c0, f0⟩ := FP.out 0 (by decide)
  obtain ⟨bP1, offP1, ao1, cap1, e, _, _, c1, f1⟩ := FP.out 1 (by decide)
  injection e with e
  injection e with e1 e2
  subst e1
  subst e2
  simp only [List.getElem_cons_zero, List.getElem_cons_succ] at c0 c1 f0 f1
  have c0 : w22.cell? ⟨bP, offP, none⟩ = some (.slice ao0 2 cap0) := c0
  have c1 : w22.cell? ⟨bP, offP + 1, none⟩ = some (.slice ao1 1 cap1) := c1
  have HP0 := Lib.hid f0.list
  have HP1 := Lib.hid f1.list
  have C1 : Hid (∀ V, Kp w22 V none → V.cell? ⟨bP, offP + 1, none⟩ = some (.slice ao1 1 cap1)) := Lib.hid fun V kV => (kV.below.cell (p := ⟨bP, offP + 1, none⟩) hbP).trans c1
  clear f0 f1 c1 FP
  have KX : Hid (Kp w22 w22 none) := Lib.hid (Kp.refl _ _)
  go_wp2_with fail
  refine (is_any _ _ _ [0, 0, 1, 1, 1, 1, 2, 2] _ (HP0.out.keep (Kp.alloc (Kp.refl w22 none) _)) (ints_at w22 [0, 0, 1, 1, 1, 1, 2, 2]) (by decide) rfl).mono ?_
  rintro E w23 ⟨rfl, k⟩
  clear HP0
  have k := Kp.trans (Kp.alloc (Kp.refl w22 none) _) k
  have HA := Lib.hid (HA.out.keep k)
  have HB := Lib.hid (HB.out.keep k)
  have HP1 := Lib.hid (HP1.out.keep k)
  have K := Lib.hid (K.out.trans k)
  have KX := Lib.hid (KX.out.trans k)
  clear k
  have c1 := C1.out _ KX.out
  clear C1 KX
  go_wp2_with fail
  refine (is_any _ _ _ [3, 0, 4, 1] _ (HP1.out.keep (Kp.alloc (Kp.refl w23 none) _)) (ints_at w23 [3, 0, 4, 1]) (by decide) rfl).mono ?_
  rintro E w24 ⟨rfl, k⟩
  clear HP1
  have k := Kp.trans (Kp.alloc (Kp.refl w23 none) _) k
  have HA := Lib.hid (HA.out.keep k)
  have HB := Lib.hid (HB.out.keep k)
  have K := Lib.hid (K.out.trans k)
  clear k
  go_wp2_with fail
  refine (list_any _ [0, 0, 0, 1] _ (ints_at w24 [0, 0, 0, 1]) (by decide)).mono ?_
  rintro E w25 ⟨uL, rfl, ho, k⟩
  have k := Kp.trans (Kp.alloc (Kp.refl w24 none) _) k
  have HA := Lib.hid (HA.out.keep k)
  have HB := Lib.hid (HB.out.keep k)
  have K := Lib.hid (K.out.trans k)
  clear k
  have HL : Hid (IsRects w25 uL (quads [0, 0, 0, 1])) := Lib.hid (isList_own (m := 4) (f := recVal) (fun _ => rfl) ho)
  clear ho
  go_wp2_with fail
  refine (normP_any _ _ w25 HL.out (by decide)).mono ?_
  rintro E w26 ⟨uN, rfl, ho, k⟩
  clear HL
  have HA := Lib.hid (HA.out.keep k)
  have HB := Lib.hid (HB.out.keep k)
  have K := Lib.hid (K.out.trans k)
  clear k
  have HN := Lib.hid (isList_own (m := 4) (f := recVal) (fun _ => rfl) ho)
  rw [ex7] at HN
  clear ho
  obtain ⟨bN, cN, rfl⟩ : ∃ b c, uN = .slice b 0 c := by obtain ⟨b, c, e, _⟩ := HN.out.form; exact ⟨b, c, e⟩
  clear HN
  go_wp2_with fail
  refine (hasP_any _ _ 1 1 w26 HA.out (by decide)).mono ?_
  rintro E w27 ⟨rfl, k⟩
  have HA := Lib.hid (HA.out.keep k)
  have HB := Lib.hid (HB.out.keep k)
  have K := Lib.hid (K.out.trans k)
  clear k
  rw [ex10]
  go_wp2_with fail
  refine (hasP_any _ _ 2 1 w27 HA.out (by decide)).mono ?_
  rintro E w28 ⟨rfl, k⟩
  have HA := Lib.hid (HA.out.keep k)
  have HB := Lib.hid (HB.out.keep k)
  have K := Lib.hid (K.out.trans k)
  clear k
  rw [ex11]
  go_wp2_with fail
  refine (right_any _ _  w28 HA.out (by decide)).mono ?_
  rintro E w29 ⟨rfl, k⟩
  have HA := Lib.hid (HA.out.keep k)
  have HB := Lib.hid (HB.out.keep k)
  have K := Lib.hid (K.out.trans k)
  clear k
  rw [ex12]
  go_wp2_with fail
  go_ret
  exact ⟨rfl, K.out⟩

end Go.Proofs.Ytpakiabnhdoijaa
