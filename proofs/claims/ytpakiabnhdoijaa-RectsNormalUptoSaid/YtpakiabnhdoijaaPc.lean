/- The program's Pieces (22). Condition: at most 2^16 rectangles, in the normal list too. -/
import Derived.Test.YtpakiabnhdoijaaPi
import Derived.Test.YtpakiabnhdoijaaNp
namespace Go.Proofs.Ytpakiabnhdoijaa
open Go.RowKit

def P1 (w3 : World) (g : Nat) (N : List Rc.Rect) (vi : Value) (wr : World) : Prop :=
  ∃ (i : Nat) (R : List Nat), i ≤ N.length ∧ vi = .int .i64 i ∧ OwnPlaces wr g g R ∧ Rc.UF N R i i 0 ∧ Kp w3 wr (some g)
def P2 (wc : World) (g i : Nat) (N : List Rc.Rect) (vk : Value) (wq : World) : Prop :=
  ∃ (k : Nat) (R : List Nat), k ≤ i ∧ vk = .int .i64 k ∧ OwnPlaces wq g g R ∧ Rc.UF N R (i + 1) i k ∧ Kp wc wq (some g)
def P3 (w4 : World) (N : List Rc.Rect) (vo vi : Value) (wr : World) : Prop :=
  ∃ i : Nat, i ≤ N.length ∧ vi = .int .i64 i ∧ OwnPieces wr w4.heap.size vo (Rc.piecesTo N i) ∧ Kp w4 wr none
def P4 (wa : World) (i : Nat) (N : List Rc.Rect) (vw vk : Value) (wq : World) : Prop :=
  ∃ k : Nat, k ≤ N.length ∧ vk = .int .i64 k ∧ wq.ownsRow wa.heap.size 44 4 vw (Rc.compTo N i k).length ((Rc.pick N (Rc.compTo N i k)).flatMap recVal) ∧ Kp wa wq none

set_option maxHeartbeats 8000000 in
set_option maxRecDepth 100000 in
theorem piecesP_any (v : Value) (a : List Rc.Rect) (w : World) (ha : IsRects w v a) (hl : a.length ≤ 65536) (hn : (Rc.norm a).length ≤ 65536) :
    Calls Try.prog 22 #[v] w fun E w' => ∃ u, E = .returned u ∧ IsPieces w' u (Rc.pieces a) ∧ Kp w w' none := by
  have C := normP_any v a w ha hl
  unfold Rc.pieces
  obtain ⟨N, hN⟩ : ∃ N, Rc.norm a = N := ⟨_, rfl⟩
  rw [hN] at C hn ⊢
  clear hN ha
  obtain ⟨fin, hfin⟩ : ∃ f, Rc.piecesTo N N.length = f := ⟨_, rfl⟩
  rw [hfin]
  have HFIN := Lib.hid hfin
  clear hfin
  obtain ⟨i0, hi, hz0, hz1, hz2⟩ := info_parts infoInt
  obtain ⟨i1, hi1, hy0, hy1, hy2⟩ := info_parts infoRect
  obtain ⟨i2, hi2, hx0, hx1, hx2⟩ := info_parts infoList
  have hn0 : (0 : Int) ≤ (N.length : Int) := Int.natCast_nonneg _
  go_enter Try.func22, Try.ntmps22
  go_wp2_with fail
  refine C.mono ?_
  rintro E w1 ⟨u, rfl, ho, k1⟩
  obtain ⟨ao, cap, rfl, fN⟩ := (isList_own (m := 4) (f := recVal) (fun _ => rfl) ho).form
  have K1 := Lib.hid k1
  have FN := Lib.hid fN
  clear ho k1 fN
  have hmb : i0.bytes * N.length ≤ 281474976710656 := by rw [hz2]; omega
  have hml : N.length ≤ maxLen := by unfold maxLen; omega
  go_wp2_with (at_make; go_must (refine wpList_make_full _ (by rfl) _ _ _ (by rfl) w1.heap.size 3 i0 _ 1 Try.underlying57 hi hz0 hz1 .i64 .i64 N.length N.length N.length (by rfl) (by rfl) rfl rfl hmb hml (Nat.le_refl _) ?_))
  intro w2 ho2 hg2
  obtain ⟨g, hgd⟩ : ∃ g, w1.heap.size = g := ⟨_, rfl⟩
  rw [hgd] at ho2 ⊢
  have OP := Lib.hid (OwnPlaces.made ho2)
  have hglt : g < w2.heap.size := (ho2.lt g rfl).2
  have K2 : Hid (Kp w1 w2 none) := Lib.hid hg2
  clear ho2 hg2
  obtain ⟨B, hB⟩ : ∃ B, w2.heap.size = B := ⟨_, rfl⟩
  go_wp2_with fail
  obtain ⟨w3, hw3⟩ : ∃ w3, w2.alloc (Obj.cells #[.slice (some ⟨g, 0, none⟩) N.length N.length] 57) = w3 := ⟨_, rfl⟩
  have K3 : Hid (Kp w2 w3 none) := Lib.hid (by rw [← hw3]; exact Kp.alloc (Kp.refl _ _) _)
  have hB3 : w3.cell? ⟨B, 0, none⟩ = some (.slice (some ⟨g, 0, none⟩) N.length N.length) := by
    rw [← hw3, ← hB, cell_of_row _ _ _ _ _ _ (heap_alloc_new w2 _)]; rfl
  have hgB : g < B := by omega
  have hB3z := cell_lt hB3
  have BX : Hid (∀ V, Kp w3 V (some g) → V.cell? ⟨B, 0, none⟩ = some (.slice (some ⟨g, 0, none⟩) N.length N.length)) := Lib.hid fun V kV => by
    rw [World.grownBy.cell_far kV ⟨B, 0, none⟩ hB3z (by intro e; injection e with e; simp at e; omega)]; exact hB3
  have NL : Hid (∀ V, Kp w3 V (some g) → LiesAt 4 recVal V ao cap N) := Lib.hid fun V kV i hi => by
    obtain ⟨b, off, e, hb, hc, hr⟩ := FN.out i hi
    have hb3 : b < w3.heap.size := Nat.lt_of_lt_of_le hb (K2.out.trans K3.out).size
    refine ⟨b, off, e, Nat.lt_of_lt_of_le hb3 kV.size, hc, fun j hj => ?_⟩
    rw [World.grownBy.cell_far kV ⟨b, off + i * 4 + j, none⟩ hb3 (by intro e; injection e with e; simp at e; omega), (K2.out.trans K3.out).below.cell (p := ⟨b, off + i * 4 + j, none⟩) hb]
    exact hr j hj
  have KW : Hid (∀ V, Kp w3 V (some g) → Kp w V none) := Lib.hid fun V kV => Kp.of_own ((K1.out.trans K2.out).trans K3.out) kV (by rw [← hgd]; exact K1.out.size)
  have OP3 := Lib.hid (OP.out.keep K3.out)
  have hg3 : g < w3.heap.size := Nat.lt_of_lt_of_le hglt K3.out.size
  rw [hw3]
  clear FN K1 K2 K3 hgd hw3 hB3 OP hB hB3z
  go_loopw [23] (fun vi wr => P1 w3 g N vi wr) (fun vi _ => N.length - (intOf vi).toNat)
  case atStart => exact ⟨0, _, Nat.zero_le _, rfl, OP3.out, Rc.UF.start N, Kp.refl _ _⟩
  case round =>
    clear OP3
    obtain ⟨wa, hwa⟩ : ∃ x, x = wr := ⟨_, rfl⟩
    subst hwa
    obtain ⟨i, R, hi', rfl, hop, huf, hK⟩ := hrel
    have HOP := Lib.hid hop
    have HUF := Lib.hid huf
    have HK := Lib.hid hK
    have hRl := huf.len
    clear hop huf hK
    have hk0 : (0 : Int) ≤ (i : Int) := Int.natCast_nonneg _
    by_cases hlt : i < N.length
    · have hk1 : (i : Int) < (N.length : Int) := by omega
      have hiR : i < R.length := by omega
      obtain ⟨b, off, hao, hNc, hbN, r0, r1, r2, r3⟩ := (NL.out wa HK.out).rect hlt
      subst hao
      obtain ⟨r, hr⟩ : ∃ r, N[i] = r := ⟨_, rfl⟩
      rw [hr] at r0 r1 r2 r3
      obtain ⟨p0, p1, p2, p3⟩ := r
      simp only [] at r0 r1 r2 r3
      have HRI := Lib.hid hr
      obtain ⟨B7, hB7⟩ : ∃ B, wa.heap.size = B := ⟨_, rfl⟩
      have KA : Hid (Kp wa (wa.alloc (Obj.cells #[.int .i64 p0, .int .i64 p1, .int .i64 p2, .int .i64 p3] 44)) none) := Lib.hid (Kp.alloc (Kp.refl _ _) _)
      have HOPA := Lib.hid (HOP.out.keep KA.out)
      have hbx := BX.out _ (HK.out.trans (KA.out.weak _))
      have d1 := HOPA.out.cell hiR
      obtain ⟨old, hold⟩ : ∃ o, Value.int .i64 (R[i] : Int) = o := ⟨_, rfl⟩
      rw [hold] at d1
      have d2 := HOPA.out.frozen i
      have ST : Hid (OwnPlaces ((wa.alloc (Obj.cells #[.int .i64 p0, .int .i64 p1, .int .i64 p2, .int .i64 p3] 44)).setCell ⟨g, i, none⟩ (.int .i64 i)) g g (R.set i i) ∧ (wa.alloc (Obj.cells #[.int .i64 p0, .int .i64 p1, .int .i64 p2, .int .i64 p3] 44)).grownBy ((wa.alloc (Obj.cells #[.int .i64 p0, .int .i64 p1, .int .i64 p2, .int .i64 p3] 44)).setCell ⟨g, i, none⟩ (.int .i64 i)) (some g)) := Lib.hid (HOPA.out.stored i i)
      clear hold hr
      go_wp2_with fail
      obtain ⟨wc, hwc⟩ : ∃ wc, (wa.alloc (Obj.cells #[.int .i64 p0, .int .i64 p1, .int .i64 p2, .int .i64 p3] 44)).setCell ⟨g, i, none⟩ (.int .i64 i) = wc := ⟨_, rfl⟩
      have HPC : Hid (OwnPlaces wc g g (R.set i i)) := Lib.hid (by rw [← hwc]; exact ST.out.1)
      have HKC : Hid (Kp w3 wc (some g)) := Lib.hid (by rw [← hwc]; exact (HK.out.trans (KA.out.weak _)).trans ST.out.2)
      have hwa3 : w3.heap.size ≤ wa.heap.size := HK.out.size
      have HB7 : Hid (∀ V, Kp wc V (some g) → V.cell? ⟨B7, 0, none⟩ = some (.int .i64 p0) ∧ V.cell? ⟨B7, 1, none⟩ = some (.int .i64 p1) ∧ V.cell? ⟨B7, 2, none⟩ = some (.int .i64 p2) ∧ V.cell? ⟨B7, 3, none⟩ = some (.int .i64 p3)) := Lib.hid fun V kV => by
        have h7 := heap_alloc_new wa (Obj.cells #[.int .i64 p0, .int .i64 p1, .int .i64 p2, .int .i64 p3] 44)
        have kk : Kp (wa.alloc (Obj.cells #[.int .i64 p0, .int .i64 p1, .int .i64 p2, .int .i64 p3] 44)) V (some g) := Kp.trans (by rw [← hwc]; exact ST.out.2) kV
        rw [hB7] at h7
        have h8 := (kk.block B7 (lt_of_block h7) (by intro e; injection e with e; omega)).trans h7
        exact ⟨by rw [cell_of_row _ _ _ _ _ _ h8]; rfl, by rw [cell_of_row _ _ _ _ _ _ h8]; rfl, by rw [cell_of_row _ _ _ _ _ _ h8]; rfl, by rw [cell_of_row _ _ _ _ _ _ h8]; rfl⟩
      have HUO := Lib.hid (HUF.out.opened hlt)
      have hB7g : g < B7 := by omega
      rw [hwc]
      clear ST KA HOPA HOP HUF hwc d1 d2 hbx r0 r1 r2 r3 hbN
      go_loopw [36] (fun vk wq => P2 wc g i N vk wq) (fun vk _ => i - (intOf vk).toNat)
      case atStart => exact ⟨0, _, Nat.zero_le _, rfl, HPC.out, HUO.out, Kp.refl _ _⟩
      case round =>
        clear HPC HUO
        obtain ⟨wq, hwq⟩ : ∃ x, x = wr := ⟨_, rfl⟩
        subst hwq
        obtain ⟨k, R2, hki, rfl, hop, huf, hk2⟩ := hrel
        have HOP2 := Lib.hid hop
        have HUF := Lib.hid huf
        have HK2 := Lib.hid hk2
        have hR2l := huf.len
        clear hop huf hk2
        have hk0' : (0 : Int) ≤ (k : Int) := Int.natCast_nonneg _
        by_cases hlk : k < i
        · have hk1' : (k : Int) < (i : Int) := by omega
          have hkN : k < N.length := by omega
          obtain ⟨b', off', hao', _, hbz', q0, q1, q2, q3⟩ := (NL.out wq (HKC.out.trans HK2.out)).rect hkN
          injection hao' with hao'
          injection hao' with e1 e2
          subst e1
          subst e2
          obtain ⟨rk, hrk⟩ : ∃ r, N[k] = r := ⟨_, rfl⟩
          rw [hrk] at q0 q1 q2 q3
          obtain ⟨x0, y0, x1, y1⟩ := rk
          simp only [] at q0 q1 q2 q3
          obtain ⟨w9, hw9⟩ : ∃ w9, wq.alloc (Obj.cells #[.int .i64 x0, .int .i64 y0, .int .i64 x1, .int .i64 y1] 44) = w9 := ⟨_, rfl⟩
          have KQ : Hid (Kp wq w9 none) := Lib.hid (by rw [← hw9]; exact Kp.alloc (Kp.refl _ _) _)
          have HK9 : Hid (Kp wc w9 (some g)) := Lib.hid (HK2.out.trans (KQ.out.weak _))
          have HOP9 := Lib.hid (HOP2.out.keep KQ.out)
          have HADJ : Hid (Rc.touch ⟨p0, p1, p2, p3⟩ ⟨x0, y0, x1, y1⟩ = true → Rc.Adj N i k) := Lib.hid fun h => (Rc.adj_iff hlt hkN).2 (by rw [HRI.out, hrk]; exact h)
          have HNO : Hid (Rc.touch ⟨p0, p1, p2, p3⟩ ⟨x0, y0, x1, y1⟩ = false → P2 wc g i N (.int .i64 ((k : Int) + 1)) w9) := Lib.hid fun h => ⟨k + 1, R2, by omega, by simp, HOP9.out, HUF.out.skip (fun t => by rw [Rc.adj_iff hlt hkN, HRI.out, hrk, h] at t; cases t), HK9.out⟩
          obtain ⟨a0, a1, a2, a3⟩ := HB7.out _ HK9.out
          have h9 := heap_alloc_new wq (Obj.cells #[.int .i64 x0, .int .i64 y0, .int .i64 x1, .int .i64 y1] 44)
          obtain ⟨B9, hB9⟩ : ∃ B, wq.heap.size = B := ⟨_, rfl⟩
          rw [hw9, hB9] at h9
          have z0 : w9.cell? ⟨B9, 0, none⟩ = some (.int .i64 x0) := by rw [cell_of_row _ _ _ _ _ _ h9]; rfl
          have z1 : w9.cell? ⟨B9, 1, none⟩ = some (.int .i64 y0) := by rw [cell_of_row _ _ _ _ _ _ h9]; rfl
          have z2 : w9.cell? ⟨B9, 2, none⟩ = some (.int .i64 x1) := by rw [cell_of_row _ _ _ _ _ _ h9]; rfl
          have z3 : w9.cell? ⟨B9, 3, none⟩ = some (.int .i64 y1) := by rw [cell_of_row _ _ _ _ _ _ h9]; rfl
          clear h9 hrk
          by_cases h0 : p0 ≤ x1
          · by_cases h1 : x0 ≤ p2
            · by_cases h2 : p1 ≤ y1
              · by_cases h3 : y0 ≤ p3
                · have hq5 : Rc.touch ⟨p0, p1, p2, p3⟩ ⟨x0, y0, x1, y1⟩ = true := by unfold Rc.touch; exact decide_eq_true (by dsimp only; omega)
                  have HT := Lib.hid (HADJ.out hq5)
                  clear hq5 HNO
                  obtain ⟨x, hx⟩ := Rc.root_ex R2 HUF.out.le i (by omega)
                  obtain ⟨y, hy⟩ := Rc.root_ex R2 HUF.out.le k (by omega)
                  have hxl := hx.root.lt
                  have hyl := hy.root.lt
                  have hb9 := (BX.out _ (HKC.out.trans HK9.out))
                  have F1 := find_any R2 (some ⟨g, 0, none⟩) R2.length B i x w9 (by rw [hR2l]; exact hb9) HOP9.out.lies hx (by omega)
                  have F2 := find_any R2 (some ⟨g, 0, none⟩) R2.length B k y w9 (by rw [hR2l]; exact hb9) HOP9.out.lies hy (by omega)
                  have HXY : Hid (Rc.Root R2 i x ∧ Rc.Root R2 k y) := Lib.hid ⟨hx, hy⟩
                  clear hx hy
                  go_wp2_with fail
                  refine F1.mono ?_
                  rintro E w9' ⟨rfl, rfl⟩
                  go_wp2_with fail
                  refine F2.mono ?_
                  rintro E w9' ⟨rfl, rfl⟩
                  obtain ⟨M, hM⟩ : ∃ M, max x y = M := ⟨_, rfl⟩
                  obtain ⟨mn, hmn⟩ : ∃ M, min x y = M := ⟨_, rfl⟩
                  have hMi : max (x : Int) (y : Int) = (M : Int) := by omega
                  have hmi : min (x : Int) (y : Int) = (mn : Int) := by omega
                  have hM0 : (0 : Int) ≤ (M : Int) := Int.natCast_nonneg _
                  have hM1 : (M : Int) < (N.length : Int) := by omega
                  have hMl : M < R2.length := by omega
                  have d1 := HOP9.out.cell hMl
                  obtain ⟨old, hold⟩ : ∃ o, Value.int .i64 (R2[M] : Int) = o := ⟨_, rfl⟩
                  rw [hold] at d1
                  have d2 := HOP9.out.frozen M
                  have ST : Hid (OwnPlaces (w9.setCell ⟨g, M, none⟩ (.int .i64 (mn : Int))) g g (R2.set M mn) ∧ w9.grownBy (w9.setCell ⟨g, M, none⟩ (.int .i64 (mn : Int))) (some g)) := Lib.hid (HOP9.out.stored M mn)
                  have HREL : Hid (P2 wc g i N (.int .i64 ((k : Int) + 1)) (w9.setCell ⟨g, M, none⟩ (.int .i64 (mn : Int)))) := Lib.hid ⟨k + 1, _, by omega, by simp, ST.out.1, by rw [← hM, ← hmn]; exact HUF.out.join hlk HT.out HXY.out.1 HXY.out.2, HK9.out.trans ST.out.2⟩
                  clear hold hM hmn
                  go_wp2_with fail
                  go_roundw
                  case rel => exact HREL.out
                  case measure => simp [intOf]; omega
                · have hq4 : Rc.touch ⟨p0, p1, p2, p3⟩ ⟨x0, y0, x1, y1⟩ = false := by unfold Rc.touch; exact decide_eq_false (by dsimp only; omega)
                  have HREL := Lib.hid (HNO.out hq4)
                  clear hq4
                  go_wp2_with fail
                  go_roundw
                  case rel => exact HREL.out
                  case measure => simp [intOf]; omega
              · have hq3 : Rc.touch ⟨p0, p1, p2, p3⟩ ⟨x0, y0, x1, y1⟩ = false := by unfold Rc.touch; exact decide_eq_false (by dsimp only; omega)
                have HREL := Lib.hid (HNO.out hq3)
                clear hq3
                go_wp2_with fail
                go_roundw
                case rel => exact HREL.out
                case measure => simp [intOf]; omega
            · have hq2 : Rc.touch ⟨p0, p1, p2, p3⟩ ⟨x0, y0, x1, y1⟩ = false := by unfold Rc.touch; exact decide_eq_false (by dsimp only; omega)
              have HREL := Lib.hid (HNO.out hq2)
              clear hq2
              go_wp2_with fail
              go_roundw
              case rel => exact HREL.out
              case measure => simp [intOf]; omega
          · have hq1 : Rc.touch ⟨p0, p1, p2, p3⟩ ⟨x0, y0, x1, y1⟩ = false := by unfold Rc.touch; exact decide_eq_false (by dsimp only; omega)
            have HREL := Lib.hid (HNO.out hq1)
            clear hq1
            go_wp2_with fail
            go_roundw
            case rel => exact HREL.out
            case measure => simp [intOf]; omega
        · have hk1' : ¬ (k : Int) < (i : Int) := by omega
          have HREL : Hid (P1 w3 g N (.int .i64 ((i : Int) + 1)) wq) := Lib.hid ⟨i + 1, R2, by omega, by simp, HOP2.out, by have e : k = i := (by omega); subst e; exact HUF.out.closed, HKC.out.trans HK2.out⟩
          go_wp2_with fail
          go_roundw
          case rel => exact HREL.out
          case measure => simp [intOf]; omega
    · have hk1 : ¬ (i : Int) < (N.length : Int) := by omega
      have HEND : Hid (Rc.UF N R N.length N.length 0) := Lib.hid (by rw [show N.length = i by omega]; exact HUF.out)
      have HOPF := Lib.hid HOP.out
      obtain ⟨w4, hw4⟩ : ∃ x, x = wa := ⟨_, rfl⟩
      subst hw4
      clear HUF hi' hlt hk0
      go_wp2_with fail
      clear hk1
      go_loopw [2, 85] (fun vo vi wr => P3 w4 N vo vi wr) (fun _ vi _ => N.length - (intOf vi).toNat)
      case atStart => exact ⟨0, Nat.zero_le _, rfl, OwnPieces.empty _ _, Kp.refl _ _⟩
      case round =>
        obtain ⟨wa, hwa⟩ : ∃ x, x = wr := ⟨_, rfl⟩
        subst hwa
        obtain ⟨i, hi', rfl, hpc, hk4⟩ := hrel
        have HPC := Lib.hid hpc
        have HK4 := Lib.hid hk4
        clear hpc hk4
        have hk0 : (0 : Int) ≤ (i : Int) := Int.natCast_nonneg _
        by_cases hlt : i < N.length
        · have hk1 : (i : Int) < (N.length : Int) := by omega
          obtain ⟨rt, hrt⟩ := Rc.root_ex R HEND.out.le i (by omega)
          have HRT := Lib.hid hrt
          have F1 := find_any R (some ⟨g, 0, none⟩) R.length B i rt wa (by rw [hRl]; exact BX.out _ (HK.out.trans (HK4.out.weak _))) (HOPF.out.keep HK4.out).lies hrt (by omega)
          clear hrt
          by_cases hne : rt = i
          · subst hne
            have HR : Hid (Rc.IsRoot N rt) := Lib.hid ((HEND.out.isRoot HRT.out).2 rfl)
            obtain ⟨us, hpc⟩ := HPC.out
            obtain ⟨bo, oc, rfl⟩ := own_shape hpc.own
            have hus : us.length ≤ 65536 := by have := Rc.piecesTo_len N rt; have := hpc.len; omega
            have HPA := Lib.hid hpc
            clear hpc HPC
            have hbz : w4.heap.size ≤ wa.heap.size := HK4.out.size
            go_wp2_with fail
            refine F1.mono ?_
            rintro E wz ⟨rfl, rfl⟩
            go_wp2_with fail
            go_loopw [13, 95] (fun vw vk wq => P4 wa rt N vw vk wq) (fun _ vk _ => N.length - (intOf vk).toNat)
            case atStart => exact ⟨0, Nat.zero_le _, rfl, World.ownsRow_nil _ _ _ _, Kp.refl _ _⟩
            case round =>
              obtain ⟨wq, hwq⟩ : ∃ x, x = wr := ⟨_, rfl⟩
              subst hwq
              obtain ⟨k, hkN', rfl, hown, hkq⟩ := hrel
              have HOW := Lib.hid hown
              have HKQ := Lib.hid hkq
              clear hown hkq
              have hck := Rc.compTo_len N rt k
              have hk0' : (0 : Int) ≤ (k : Int) := Int.natCast_nonneg _
              by_cases hkN : k < N.length
              · have hk1' : (k : Int) < (N.length : Int) := by omega
                obtain ⟨rk, hrk⟩ := Rc.root_ex R HEND.out.le k (by omega)
                have HIF : Hid (Rc.Conn N rt k ↔ rk = rt) := Lib.hid ((HEND.out.root_iff HRT.out k).trans ⟨fun h => hrk.uniq h, fun h => h ▸ hrk⟩)
                have F2 := find_any R (some ⟨g, 0, none⟩) R.length B k rk wq (by rw [hRl]; exact BX.out _ (HK.out.trans ((HK4.out.trans HKQ.out).weak _))) (HOPF.out.keep (HK4.out.trans HKQ.out)).lies hrk (by omega)
                clear hrk
                by_cases hne : rk = rt
                · subst hne
                  obtain ⟨b, off, hao, hNc, hbN, r0, r1, r2, r3⟩ := (NL.out wq (HK.out.trans ((HK4.out.trans HKQ.out).weak _))).rect hkN
                  subst hao
                  obtain ⟨r, hr⟩ : ∃ r, N[k] = r := ⟨_, rfl⟩
                  rw [hr] at r0 r1 r2 r3
                  obtain ⟨p0, p1, p2, p3⟩ := r
                  simp only [] at r0 r1 r2 r3
                  have HST : Hid (∀ (vw : Value) (wn : World), wn.ownsRow wa.heap.size 44 4 vw ((Rc.compTo N rk k).length + [(⟨p0, p1, p2, p3⟩ : Rc.Rect)].length) ((Rc.pick N (Rc.compTo N rk k)).flatMap recVal ++ [(⟨p0, p1, p2, p3⟩ : Rc.Rect)].flatMap recVal) → Kp wa wn none → P4 wa rk N vw (.int .i64 ((k : Int) + 1)) wn) := Lib.hid fun vw wn h1 h2 =>
                    ⟨k + 1, by omega, by simp, by rw [Rc.compTo_yes (HIF.out.2 rfl), Rc.pick_snoc N _ k hkN, hr, List.flatMap_append, List.length_append]; simpa using h1, h2⟩
                  obtain ⟨cs, hcs⟩ : ∃ l, Rc.compTo N rk k = l := ⟨_, rfl⟩
                  rw [hcs] at HST HOW hck
                  have how63 : cs.length + 1 ≤ maxLen := by unfold maxLen; omega
                  have hwz : wa.heap.size ≤ wq.heap.size := HKQ.out.size
                  clear hr hcs
                  go_wp2_with fail
                  refine F2.mono ?_
                  rintro E wz ⟨rfl, rfl⟩
                  go_wp2_with (at_builtin; go_must (refine wpList_app (f := recVal) (by rfl) _ _ wa.heap.size 22 44 (by rfl) i1 _ 4 32 Try.underlying22 hi1 hy0 hy1 hy2 rfl (by omega) (fun _ => rfl) rec_one u13 cs.length ((Rc.pick N cs).flatMap recVal) (by rfl) (HOW.out.alloc _) (.slice (some ⟨wq.heap.size, 0, none⟩) 1 1) [⟨p0, p1, p2, p3⟩] (by rfl) (rects_one wq p0 p1 p2 p3) (by simpa using how63) (by simp <;> omega) (by simp <;> omega) ?_))
                  intro v8 w8 ho8 hg8 _
                  have HREL := Lib.hid (HST.out v8 w8 (by simpa using ho8) (Kp.row (HKQ.out.alloc _) hg8 (fun j hj => (HOW.out.lt j hj).1)))
                  clear ho8 hg8
                  go_wp2_with fail
                  go_roundw
                  case rel => exact HREL.out
                  case measure => simp [intOf]; omega
                · have hne2 : ((rk : Int) == (rt : Int)) = false := by simp; omega
                  have HREL : Hid (P4 wa rt N u13 (.int .i64 ((k : Int) + 1)) wq) := Lib.hid ⟨k + 1, by omega, by simp, by rw [Rc.compTo_no (fun h => hne (HIF.out.1 h))]; exact HOW.out, HKQ.out⟩
                  clear hne
                  go_wp2_with fail
                  refine F2.mono ?_
                  rintro E wz ⟨rfl, rfl⟩
                  go_wp2_with fail
                  go_roundw
                  case rel => exact HREL.out
                  case measure => simp [intOf]; omega
              · have hk1' : ¬ (k : Int) < (N.length : Int) := by omega
                have hkk : k = N.length := by omega
                subst hkk
                have HPQ := Lib.hid (HPA.out.keep HKQ.out)
                have C2 := normP_any u13 (Rc.pick N (Rc.compTo N rt N.length)) wq (isList_own (m := 4) (f := recVal) (fun _ => rfl) (by rw [Rc.pick_len]; exact HOW.out)) (by rw [Rc.pick_len]; omega)
                have hyes := Lib.hid (Rc.piecesTo_yes HR.out)
                unfold Rc.compOf at hyes
                obtain ⟨q, hqq⟩ : ∃ q, Rc.norm (Rc.pick N (Rc.compTo N rt N.length)) = q := ⟨_, rfl⟩
                rw [hqq] at C2 hyes
                clear hqq
                go_wp2_with fail
                refine C2.mono ?_
                rintro E w6 ⟨u, rfl, ho6, k6⟩
                have hbq : w4.heap.size ≤ wq.heap.size := Nat.le_trans hbz HKQ.out.size
                obtain ⟨ao6, cap6, rfl, hb6, f6⟩ := piece_new HPQ.out hbq ho6
                have HB6 := Lib.hid hb6
                have HF6 := Lib.hid f6
                have K6 : Hid (Kp w4 w6 none) := Lib.hid ((HK4.out.trans HKQ.out).trans k6)
                have HP6 := Lib.hid (HPQ.out.keep k6)
                have hb6z : w4.heap.size ≤ w6.heap.size := K6.out.size
                clear ho6 hb6 f6 k6
                go_wp2_with (at_builtin; go_must (refine wpList_app (f := slVal) (by rfl) _ _ w4.heap.size 34 22 (by rfl) i2 _ 1 24 Try.underlying34 hi2 hx0 hx1 hx2 rfl (by omega) (fun _ => rfl) sl_one (.slice bo us.length oc) us.length (us.flatMap slVal) (by rfl) (HP6.out.own.alloc _) (.slice (some ⟨w6.heap.size, 0, none⟩) 1 1) [⟨ao6, q.length, cap6⟩] (by rfl) (sls_at w6 _ _ _ _ rfl) (by unfold maxLen; simp <;> omega) (by simp <;> omega) (by simp <;> omega) ?_))
                intro v7 w7 ho7 hg7 hb7
                have hA : Kp w6 (w6.alloc (Obj.cells #[.slice ao6 q.length cap6] 22)) none := Kp.alloc (Kp.refl _ _) _
                have HREL : Hid (P3 w4 N v7 (.int .i64 ((rt : Int) + 1)) w7) := Lib.hid ⟨rt + 1, by omega, by simp, by rw [hyes.out]; exact (HP6.out.keep hA).app rfl HB6.out (HF6.out.keep (hA.weak _)) ho7 hg7 (by simpa using hb7), Kp.row (K6.out.trans hA) hg7 (fun j hj => (HP6.out.own.lt j hj).1)⟩
                clear ho7 hg7 hb7 hA
                go_wp2_with fail
                go_roundw
                case rel => exact HREL.out
                case measure => simp [intOf]; omega
          · have hne2 : ((rt : Int) == (i : Int)) = false := by simp; omega
            have HREL : Hid (P3 w4 N u2 (.int .i64 ((i : Int) + 1)) wa) := Lib.hid ⟨i + 1, by omega, by simp, by rw [Rc.piecesTo_no (fun h => hne ((HEND.out.isRoot HRT.out).1 h))]; exact HPC.out, HK4.out⟩
            clear hne
            go_wp2_with fail
            refine F1.mono ?_
            rintro E wz ⟨rfl, rfl⟩
            go_wp2_with fail
            go_roundw
            case rel => exact HREL.out
            case measure => simp [intOf]; omega
        · have hk1 : ¬ (i : Int) < (N.length : Int) := by omega
          have HE : Hid (∃ u, Ending.returned u2 = .returned u ∧ IsPieces wa u fin ∧ Kp w wa none) := Lib.hid ⟨u2, rfl, by rw [← HFIN.out, show N.length = i by omega]; exact HPC.out.is, KW.out _ (HK.out.trans (HK4.out.weak _))⟩
          go_wp2_with fail
          go_ret
          exact HE.out

end Go.Proofs.Ytpakiabnhdoijaa
