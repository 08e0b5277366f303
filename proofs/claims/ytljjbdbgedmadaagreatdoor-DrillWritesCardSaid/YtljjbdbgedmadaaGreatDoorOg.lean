/- The program's families of edges, and whether an edge is valid. Condition: none (the test of an arc: coordinates within the bounds).
   Whether an edge is valid, on the program's side (of). No condition. Whether an edge of a kind that is known is valid, on the program's side (of). No condition. -/
import Derived.Test.YtljjbdbgedmadaaGreatDoorPt
import Derived.Test.YtljjbdbgedmadaaGreatDoorQu
import Derived.Laws.EntriesVeiled
set_option maxHeartbeats 2000000
set_option maxRecDepth 100000
namespace Go.Proofs.YtljjbdbgedmadaaGreatDoor
open Go.RowKit
theorem subc {ax ay bx bY : Int} (h1 : Mid ax) (h2 : Mid ay) (h3 : Mid bx) (h4 : Mid bY) : ∀ V, Calls Tryz.prog 59 #[.agg #[I6 ax, I6 ay], .agg #[I6 bx, I6 bY]] V fun E w' => E = .returned (.agg #[I6 (ax - bx), I6 (ay - bY)]) ∧ Kp V w' none := fun V => vsub_any ax ay bx bY V h1 h2 h3 h4
theorem quarter_any (ek ax ay bx bY cx cy turn : Int) (w : World) (ht : (turn = 1 ∧ ek = 2) ∨ (turn = 3 ∧ ek = 3)) (ha : Pl.Pt.ok ⟨ax, ay⟩) (hb : Pl.Pt.ok ⟨bx, bY⟩) (hc : Pl.Pt.ok ⟨cx, cy⟩) :
  Calls Tryz.prog 223 #[.agg #[I6 ek, I6 ax, I6 ay, I6 bx, I6 bY, I6 cx, I6 cy], I6 turn] w fun E w' => E = .returned (.bool (decide (Pl.Arc ⟨ek, ⟨ax, ay⟩, ⟨bx, bY⟩, ⟨cx, cy⟩⟩))) ∧ Kp w w' none := by
 obtain ⟨ha1, ha2⟩ := ha; obtain ⟨hb1, hb2⟩ := hb; obtain ⟨hc1, hc2⟩ := hc
 dsimp only at ha1 ha2 hb1 hb2 hc1 hc2
 have hs := subc (In.mid ha1) (In.mid ha2) (In.mid hc1) (In.mid hc2)
 have hs2 := subc (In.mid hb1) (In.mid hb2) (In.mid hc1) (In.mid hc2)
 have md1 := sub_mid ha1 hc1
 have md2 := sub_mid ha2 hc2
 have m0 : Mid 0 := by unfold Mid; omega
 have hr : ∃ rx ry, (∀ V, Calls Tryz.prog 60 #[.agg #[I6 0, I6 0, I6 turn, .bool false], .agg #[I6 (ax - cx), I6 (ay - cy)]] V fun E w' => E = .returned (.agg #[I6 rx, I6 ry]) ∧ Kp V w' none) ∧ Pl.quarter ek ⟨ax - cx, ay - cy⟩ = ⟨rx, ry⟩ := by
  rcases ht with ⟨rfl, rfl⟩ | ⟨rfl, rfl⟩
  ·exact ⟨_, _, fun V => apply_1false 0 0 1 _ _ V md1 md2 m0 m0 (by decide), by unfold Pl.quarter; rw [if_pos rfl]; simp⟩
  ·exact ⟨_, _, fun V => apply_3false 0 0 3 _ _ V md1 md2 m0 m0 (by decide), by unfold Pl.quarter; rw [if_neg (by decide)]; simp⟩
 obtain ⟨rx, ry, hap, hq⟩ := hr
 have key : decide (Pl.Arc ⟨ek, ⟨ax, ay⟩, ⟨bx, bY⟩, ⟨cx, cy⟩⟩) = (decide (¬ (ax - cx = 0 ↔ ay - cy = 0)) && (decide (bx - cx = rx) && decide (bY - cy = ry))) := by
  rw [Bool.eq_iff_iff]; simp only [Bool.and_eq_true, decide_eq_true_eq]
  unfold Pl.Arc Pl.sub; dsimp only; rw [hq]
  simp only [Pl.Pt.mk.injEq]
 rw [key]
 by_cases h1 : ax - cx = 0
 ·by_cases h2 : ay - cy = 0
  ·rw [show decide (¬ (ax - cx = 0 ↔ ay - cy = 0)) = false by simp [h1, h2], Bool.false_and]
   exact quarter_noa ek ax ay bx bY cx cy turn _ _ _ _ rx ry w hs hs2 hap (by simpa using h1) (by simpa using h2)
  ·rw [show decide (¬ (ax - cx = 0 ↔ ay - cy = 0)) = true by simp [h1, h2], Bool.true_and]
   by_cases h3 : bx - cx = rx
   ·by_cases h4 : bY - cy = ry
    ·rw [decide_eq_true h3, decide_eq_true h4]; exact quarter_oka ek ax ay bx bY cx cy turn _ _ _ _ rx ry w hs hs2 hap (by simpa using h1) (by simpa using h2) (by simpa using h3) (by simpa using h4)
    ·rw [decide_eq_false h4, Bool.and_false]; exact quarter_no2a ek ax ay bx bY cx cy turn _ _ _ _ rx ry w hs hs2 hap (by simpa using h1) (by simpa using h2) (by simpa using h3) (by simpa using h4)
   ·rw [decide_eq_false h3, Bool.false_and]; exact quarter_no1a ek ax ay bx bY cx cy turn _ _ _ _ rx ry w hs hs2 hap (by simpa using h1) (by simpa using h2) (by simpa using h3)
 ·by_cases h2 : ay - cy = 0
  ·rw [show decide (¬ (ax - cx = 0 ↔ ay - cy = 0)) = true by simp [h1, h2], Bool.true_and]
   by_cases h3 : bx - cx = rx
   ·by_cases h4 : bY - cy = ry
    ·rw [decide_eq_true h3, decide_eq_true h4]; exact quarter_okb ek ax ay bx bY cx cy turn _ _ _ _ rx ry w hs hs2 hap (by simpa using h1) (by simpa using h2) (by simpa using h3) (by simpa using h4)
    ·rw [decide_eq_false h4, Bool.and_false]; exact quarter_no2b ek ax ay bx bY cx cy turn _ _ _ _ rx ry w hs hs2 hap (by simpa using h1) (by simpa using h2) (by simpa using h3) (by simpa using h4)
   ·rw [decide_eq_false h3, Bool.false_and]; exact quarter_no1b ek ax ay bx bY cx cy turn _ _ _ _ rx ry w hs hs2 hap (by simpa using h1) (by simpa using h2) (by simpa using h3)
  ·rw [show decide (¬ (ax - cx = 0 ↔ ay - cy = 0)) = false by simp [h1, h2], Bool.false_and]
   exact quarter_nob ek ax ay bx bY cx cy turn _ _ _ _ rx ry w hs hs2 hap (by simpa using h1) (by simpa using h2)
theorem lone_any (ek ax ay bx bY cx cy : Int) (w : World) :
  Calls Tryz.prog 191 #[.agg #[I6 ek, I6 ax, I6 ay, I6 bx, I6 bY, I6 cx, I6 cy]] w fun E w' => E = .returned (.bool (decide ((⟨cx, cy⟩ : Pl.Pt) = ⟨0, 0⟩))) ∧ Kp w w' none := by
 by_cases h1 : cx = 0
 ·by_cases h2 : cy = 0
  ·rw [show decide ((⟨cx, cy⟩ : Pl.Pt) = ⟨0, 0⟩) = true by simp [h1, h2]]
   have q1 : (cx == 0) = true := by simpa using h1
   have q2 : (cy == 0) = true := by simpa using h2
   clear h1 h2; go_enter Tryz.func191, Tryz.ntmps191
   go_wp2
   go_ret
   exact ⟨rfl, (Kp.refl w none).alloc _⟩
  ·rw [show decide ((⟨cx, cy⟩ : Pl.Pt) = ⟨0, 0⟩) = false by simp [h2]]
   have q1 : (cx == 0) = true := by simpa using h1
   have q2 : (cy == 0) = false := by simpa using h2
   clear h1 h2; go_enter Tryz.func191, Tryz.ntmps191
   go_wp2
   go_ret
   exact ⟨rfl, (Kp.refl w none).alloc _⟩
 ·rw [show decide ((⟨cx, cy⟩ : Pl.Pt) = ⟨0, 0⟩) = false by simp [h1]]
  have q1 : (cx == 0) = false := by simpa using h1
  clear h1; go_enter Tryz.func191, Tryz.ntmps191
  go_wp2
  go_ret
  exact ⟨rfl, (Kp.refl w none).alloc _⟩
theorem left_any (ax ay bx bY cx cy : Int) (w : World) (ha : Pl.Pt.ok ⟨ax, ay⟩) (hb : Pl.Pt.ok ⟨bx, bY⟩) (hc : Pl.Pt.ok ⟨cx, cy⟩) :
  Calls Tryz.prog 194 #[.agg #[I6 2, I6 ax, I6 ay, I6 bx, I6 bY, I6 cx, I6 cy]] w fun E w' => E = .returned (.bool (decide (Pl.Arc ⟨2, ⟨ax, ay⟩, ⟨bx, bY⟩, ⟨cx, cy⟩⟩))) ∧ Kp w w' none := by
 have HQ := oh (fun V => quarter_any 2 ax ay bx bY cx cy 1 V (by omega) ha hb hc)
 clear ha hb hc; obtain ⟨r, hr⟩ : ∃ r, decide (Pl.Arc ⟨2, ⟨ax, ay⟩, ⟨bx, bY⟩, ⟨cx, cy⟩⟩) = r := ⟨_, rfl⟩
 rw [hr] at HQ ⊢; clear hr; go_enter Tryz.func194, Tryz.ntmps194
 go_wp2_with fail
 refine (HQ.out _).mono ?_
 rintro e w1 ⟨rfl, k1⟩; have K1 := oh (((Kp.refl w none).alloc _).trans k1)
 clear k1; go_wp2_with fail
 go_ret
 exact ⟨rfl, K1.out⟩
theorem rightw_any (ax ay bx bY cx cy : Int) (w : World) (ha : Pl.Pt.ok ⟨ax, ay⟩) (hb : Pl.Pt.ok ⟨bx, bY⟩) (hc : Pl.Pt.ok ⟨cx, cy⟩) :
  Calls Tryz.prog 197 #[.agg #[I6 3, I6 ax, I6 ay, I6 bx, I6 bY, I6 cx, I6 cy]] w fun E w' => E = .returned (.bool (decide (Pl.Arc ⟨3, ⟨ax, ay⟩, ⟨bx, bY⟩, ⟨cx, cy⟩⟩))) ∧ Kp w w' none := by
 have HQ := oh (fun V => quarter_any 3 ax ay bx bY cx cy 3 V (by omega) ha hb hc)
 clear ha hb hc; obtain ⟨r, hr⟩ : ∃ r, decide (Pl.Arc ⟨3, ⟨ax, ay⟩, ⟨bx, bY⟩, ⟨cx, cy⟩⟩) = r := ⟨_, rfl⟩
 rw [hr] at HQ ⊢; clear hr; go_enter Tryz.func197, Tryz.ntmps197
 go_wp2_with fail
 refine (HQ.out _).mono ?_
 rintro e w1 ⟨rfl, k1⟩; have K1 := oh (((Kp.refl w none).alloc _).trans k1)
 clear k1; go_wp2_with fail
 go_ret
 exact ⟨rfl, K1.out⟩
def famV (k : Int) : Array Value := if k = 1 then #[.func (.func 191) #[] #[], .func (.func 192) #[] #[], .func (.func 193) #[] #[], I6 1] else if k = 2 then #[.func (.func 194) #[] #[], .func (.func 195) #[] #[], .func (.func 196) #[] #[], I6 3] else if k = 3 then #[.func (.func 197) #[] #[], .func (.func 195) #[] #[], .func (.func 196) #[] #[], I6 2] else #[.nilFunc, .nilFunc, .nilFunc, I6 k]
theorem families_any (k : Int) (w : World) :
  Calls Tryz.prog 161 #[I6 k] w fun E w' => E = .returned (.tuple #[.agg (famV k), .bool (decide (1 ≤ k ∧ k ≤ 3))]) ∧ w' = w.alloc (.cells (famV k) 201) := by
 by_cases h1 : k = 1
 ·subst h1; go_enter Tryz.func161, Tryz.ntmps161
  go_wp2
  go_returns
  exact ⟨rfl, rfl⟩
 ·by_cases h2 : k = 2
  ·subst h2; go_enter Tryz.func161, Tryz.ntmps161
   go_wp2
   go_returns
   exact ⟨rfl, rfl⟩
  ·by_cases h3 : k = 3
   ·subst h3; go_enter Tryz.func161, Tryz.ntmps161
    go_wp2
    go_returns
    exact ⟨rfl, rfl⟩
   ·have hf : famV k = #[.nilFunc, .nilFunc, .nilFunc, I6 k] := by unfold famV; rw [if_neg h1, if_neg h2, if_neg h3]
    have hd : decide (1 ≤ k ∧ k ≤ 3) = false := by simp; omega
    have q1 : (k == 1) = false := by simpa using h1
    have q2 : (k == 2) = false := by simpa using h2
    have q3 : (k == 3) = false := by simpa using h3
    rw [hf, hd]; clear h1 h2 h3 hf hd; go_enter Tryz.func161, Tryz.ntmps161
    go_wp2
    go_returns
    exact ⟨rfl, rfl⟩
set_option maxHeartbeats 8000000
set_option maxRecDepth 100000
def Own4 (X V : World) (N : Nat) : Prop := Kp X V (some N) ∧ ∃ a0 a1 a2 a3, V.heap[N]? = some (.cells #[a0, a1, a2, a3] 201 (0, 0))
theorem Own4.kp {X V V' : World} {N : Nat} (h : Own4 X V N) (k : Kp V V' none) : Own4 X V' N := by
 obtain ⟨h1, a0, a1, a2, a3, h2⟩ := h
 exact ⟨h1.trans (k.weak _), a0, a1, a2, a3, (k.block N (lt_of_block h2) (by simp)).trans h2⟩
theorem Own4.set {X V : World} {N : Nat} (h : Own4 X V N) (b0 b1 b2 b3 : Value) : Own4 X ((((V.setCell ⟨N, 0, none⟩ b0).setCell ⟨N, 1, none⟩ b1).setCell ⟨N, 2, none⟩ b2).setCell ⟨N, 3, none⟩ b3) N ∧ ((((V.setCell ⟨N, 0, none⟩ b0).setCell ⟨N, 1, none⟩ b1).setCell ⟨N, 2, none⟩ b2).setCell ⟨N, 3, none⟩ b3).heap[N]? = some (.cells #[b0, b1, b2, b3] 201 (0, 0)) := by
 obtain ⟨h1, a0, a1, a2, a3, h2⟩ := h
 have e0 := heap_set (o := 0) (v := b0) h2
 have e1 := heap_set (o := 1) (v := b1) e0
 have e2 := heap_set (o := 2) (v := b2) e1
 have e3 := heap_set (o := 3) (v := b3) e2
 exact ⟨⟨(((h1.set b0).set b1).set b2).set b3, b0, b1, b2, b3, e3⟩, e3⟩
theorem Kp.row2 {W w w' : World} {r : Nat} {row : Option Nat} (h0 : Kp W w row) (h : Kp w w' (some r)) (hr : W.heap.size ≤ r) : Kp W w' row := Kp.of_own h0 h hr
theorem of_0_0 (ek ax ay bx bY cx cy : Int) (w : World) (hek : ¬ (1 ≤ ek ∧ ek ≤ 3)) :
  Calls Tryz.prog 104 #[.agg #[I6 ek, I6 ax, I6 ay, I6 bx, I6 bY, I6 cx, I6 cy]] w fun E w' => E = .returned (.tuple #[.agg #[.nilFunc, .nilFunc, .nilFunc, I6 ek], .bool false]) ∧ Kp w w' none := by
 have hfam : ∀ V, Calls Tryz.prog 161 #[I6 ek] V fun E w' => E = .returned (.tuple #[.agg #[.nilFunc, .nilFunc, .nilFunc, I6 ek], .bool false]) ∧ w' = V.alloc (.cells #[.nilFunc, .nilFunc, .nilFunc, I6 ek] 201) := fun V => by
  have h := families_any ek V
  rw [decide_eq_false hek, show famV ek = #[.nilFunc, .nilFunc, .nilFunc, I6 ek] by unfold famV; rw [if_neg (by omega), if_neg (by omega), if_neg (by omega)]] at h
  exact h
 clear hek
 have HB0 : Hid (((((w.alloc (.cells #[I6 ek, I6 ax, I6 ay, I6 bx, I6 bY, I6 cx, I6 cy] 123)).alloc (.cells #[.nilFunc, .nilFunc, .nilFunc, I6 0] 201)).alloc (.cells #[.nilFunc, .nilFunc, .nilFunc, I6 ek] 201)).alloc (.cells #[.nilFunc, .nilFunc, .nilFunc, I6 ek] 201)).heap[w.heap.size]? = some (.cells #[I6 ek, I6 ax, I6 ay, I6 bx, I6 bY, I6 cx, I6 cy] 123)) := oh (by
  have k1 : Kp (w.alloc (.cells #[I6 ek, I6 ax, I6 ay, I6 bx, I6 bY, I6 cx, I6 cy] 123)) ((((w.alloc (.cells #[I6 ek, I6 ax, I6 ay, I6 bx, I6 bY, I6 cx, I6 cy] 123)).alloc (.cells #[.nilFunc, .nilFunc, .nilFunc, I6 0] 201)).alloc (.cells #[.nilFunc, .nilFunc, .nilFunc, I6 ek] 201)).alloc (.cells #[.nilFunc, .nilFunc, .nilFunc, I6 ek] 201)) none := (((Kp.refl _ none).alloc _).alloc _).alloc _
  exact (k1.block _ (by simp) (by simp)).trans (heap_alloc_new w _))
 have HB1 : Hid (((((w.alloc (.cells #[I6 ek, I6 ax, I6 ay, I6 bx, I6 bY, I6 cx, I6 cy] 123)).alloc (.cells #[.nilFunc, .nilFunc, .nilFunc, I6 0] 201)).alloc (.cells #[.nilFunc, .nilFunc, .nilFunc, I6 ek] 201)).alloc (.cells #[.nilFunc, .nilFunc, .nilFunc, I6 ek] 201)).heap[w.heap.size + 1]? = some (.cells #[.nilFunc, .nilFunc, .nilFunc, I6 0] 201)) := oh (by
  have k1 : Kp ((w.alloc (.cells #[I6 ek, I6 ax, I6 ay, I6 bx, I6 bY, I6 cx, I6 cy] 123)).alloc (.cells #[.nilFunc, .nilFunc, .nilFunc, I6 0] 201)) ((((w.alloc (.cells #[I6 ek, I6 ax, I6 ay, I6 bx, I6 bY, I6 cx, I6 cy] 123)).alloc (.cells #[.nilFunc, .nilFunc, .nilFunc, I6 0] 201)).alloc (.cells #[.nilFunc, .nilFunc, .nilFunc, I6 ek] 201)).alloc (.cells #[.nilFunc, .nilFunc, .nilFunc, I6 ek] 201)) none := ((Kp.refl _ none).alloc _).alloc _
  exact (k1.block (w.heap.size + 1) (by simp) (by simp)).trans (by have := heap_alloc_new (w.alloc (.cells #[I6 ek, I6 ax, I6 ay, I6 bx, I6 bY, I6 cx, I6 cy] 123)) (.cells #[.nilFunc, .nilFunc, .nilFunc, I6 0] 201); simpa using this))
 have HB3 : Hid (((((w.alloc (.cells #[I6 ek, I6 ax, I6 ay, I6 bx, I6 bY, I6 cx, I6 cy] 123)).alloc (.cells #[.nilFunc, .nilFunc, .nilFunc, I6 0] 201)).alloc (.cells #[.nilFunc, .nilFunc, .nilFunc, I6 ek] 201)).alloc (.cells #[.nilFunc, .nilFunc, .nilFunc, I6 ek] 201)).heap[w.heap.size + 1 + 1 + 1]? = some (.cells #[.nilFunc, .nilFunc, .nilFunc, I6 ek] 201)) := oh (by
  have := heap_alloc_new (((w.alloc (.cells #[I6 ek, I6 ax, I6 ay, I6 bx, I6 bY, I6 cx, I6 cy] 123)).alloc (.cells #[.nilFunc, .nilFunc, .nilFunc, I6 0] 201)).alloc (.cells #[.nilFunc, .nilFunc, .nilFunc, I6 ek] 201)) (.cells #[.nilFunc, .nilFunc, .nilFunc, I6 ek] 201)
  simpa using this)
 have HKX : Hid (Kp w ((((w.alloc (.cells #[I6 ek, I6 ax, I6 ay, I6 bx, I6 bY, I6 cx, I6 cy] 123)).alloc (.cells #[.nilFunc, .nilFunc, .nilFunc, I6 0] 201)).alloc (.cells #[.nilFunc, .nilFunc, .nilFunc, I6 ek] 201)).alloc (.cells #[.nilFunc, .nilFunc, .nilFunc, I6 ek] 201)) none) := oh ((((Kp.refl w none).alloc _).alloc _).alloc _ |>.alloc _)
 go_enter Tryz.func104, Tryz.ntmps104
 go_wp2_with fail
 refine (hfam _).mono ?_
 rintro e w1 ⟨rfl, rfl⟩; clear hfam; go_wp2_with fail
 generalize (((w.alloc (.cells #[I6 ek, I6 ax, I6 ay, I6 bx, I6 bY, I6 cx, I6 cy] 123)).alloc (.cells #[.nilFunc, .nilFunc, .nilFunc, I6 0] 201)).alloc (.cells #[.nilFunc, .nilFunc, .nilFunc, I6 ek] 201)).alloc (.cells #[.nilFunc, .nilFunc, .nilFunc, I6 ek] 201) = X at *
 have CC : Hid (∀ V, Own4 X V (w.heap.size + 1) → (V.cell? ⟨w.heap.size, 0, none⟩ = some (I6 ek) ∧ V.cell? ⟨w.heap.size, 1, none⟩ = some (I6 ax) ∧ V.cell? ⟨w.heap.size, 2, none⟩ = some (I6 ay) ∧ V.cell? ⟨w.heap.size, 3, none⟩ = some (I6 bx) ∧ V.cell? ⟨w.heap.size, 4, none⟩ = some (I6 bY) ∧ V.cell? ⟨w.heap.size, 5, none⟩ = some (I6 cx) ∧ V.cell? ⟨w.heap.size, 6, none⟩ = some (I6 cy)) ∧ (V.cell? ⟨w.heap.size + 1 + 1 + 1, 0, none⟩ = some (.nilFunc) ∧ V.cell? ⟨w.heap.size + 1 + 1 + 1, 1, none⟩ = some (.nilFunc) ∧ V.cell? ⟨w.heap.size + 1 + 1 + 1, 2, none⟩ = some (.nilFunc) ∧ V.cell? ⟨w.heap.size + 1 + 1 + 1, 3, none⟩ = some (I6 ek))) := oh fun V ⟨kV, _⟩ =>
  ⟨⟨ck HB0.out kV 0 rfl, ck HB0.out kV 1 rfl, ck HB0.out kV 2 rfl, ck HB0.out kV 3 rfl, ck HB0.out kV 4 rfl, ck HB0.out kV 5 rfl, ck HB0.out kV 6 rfl⟩, ⟨ck HB3.out kV 0 rfl, ck HB3.out kV 1 rfl, ck HB3.out kV 2 rfl, ck HB3.out kV 3 rfl⟩⟩
 refine wp_region_held_drew (S := fun V => (V.cell? ⟨w.heap.size, 0, none⟩ = some (I6 ek) ∧ V.cell? ⟨w.heap.size, 1, none⟩ = some (I6 ax) ∧ V.cell? ⟨w.heap.size, 2, none⟩ = some (I6 ay) ∧ V.cell? ⟨w.heap.size, 3, none⟩ = some (I6 bx) ∧ V.cell? ⟨w.heap.size, 4, none⟩ = some (I6 bY) ∧ V.cell? ⟨w.heap.size, 5, none⟩ = some (I6 cx) ∧ V.cell? ⟨w.heap.size, 6, none⟩ = some (I6 cy)) ∧ (V.cell? ⟨w.heap.size + 1 + 1 + 1, 0, none⟩ = some (.nilFunc) ∧ V.cell? ⟨w.heap.size + 1 + 1 + 1, 1, none⟩ = some (.nilFunc) ∧ V.cell? ⟨w.heap.size + 1 + 1 + 1, 2, none⟩ = some (.nilFunc) ∧ V.cell? ⟨w.heap.size + 1 + 1 + 1, 3, none⟩ = some (I6 ek)) ∧ Hid (Own4 X V (w.heap.size + 1))) (by kernel_rfl) ?_ (fun eh => ?_)
 ·have kk : Own4 X X.drew (w.heap.size + 1) := ⟨(Kp.refl X (some (w.heap.size + 1))).drew, _, _, _, _, HB1.out⟩; exact ⟨(CC.out _ kk).1, (CC.out _ kk).2, oh kk⟩
 refine tjH 0 rfl ?_ (by intro w hSw; obtain ⟨⟨g0, g1, g2, g3, g4, g5, g6⟩, ⟨g7, g8, g9, g10⟩, g11⟩ := hSw; go_simp <;> with_reducible rfl)
 refine tjH 1 rfl ?_ (by intro w hSw; obtain ⟨⟨g0, g1, g2, g3, g4, g5, g6⟩, ⟨g7, g8, g9, g10⟩, g11⟩ := hSw; go_simp <;> with_reducible rfl)
 refine tjH 2 rfl ?_ (by intro w hSw; obtain ⟨⟨g0, g1, g2, g3, g4, g5, g6⟩, ⟨g7, g8, g9, g10⟩, g11⟩ := hSw; go_simp <;> with_reducible rfl)
 refine tjU 3 rfl ?_; refine tjU 4 rfl ?_; refine tjU 5 rfl ?_
 refine tjH 6 rfl ?_ (by intro w hSw; obtain ⟨⟨g0, g1, g2, g3, g4, g5, g6⟩, ⟨g7, g8, g9, g10⟩, g11⟩ := hSw; go_simp <;> with_reducible rfl)
 refine tjH 7 rfl ?_ (by intro w hSw; obtain ⟨⟨g0, g1, g2, g3, g4, g5, g6⟩, ⟨g7, g8, g9, g10⟩, g11⟩ := hSw; go_simp <;> with_reducible rfl)
 refine tjU 8 rfl ?_; refine tjU 9 rfl ?_; refine tjU 10 rfl ?_
 refine tjH 11 rfl ?_ (by intro w hSw; obtain ⟨⟨g0, g1, g2, g3, g4, g5, g6⟩, ⟨g7, g8, g9, g10⟩, g11⟩ := hSw; go_simp <;> with_reducible rfl)
 refine tjH 12 rfl ?_ (by intro w hSw; obtain ⟨⟨g0, g1, g2, g3, g4, g5, g6⟩, ⟨g7, g8, g9, g10⟩, g11⟩ := hSw; go_simp <;> with_reducible rfl)
 refine tjU 13 rfl ?_; refine tjU 14 rfl ?_; refine tjU 15 rfl ?_
 refine tjH 16 rfl ?_ (by intro w hSw; obtain ⟨⟨g0, g1, g2, g3, g4, g5, g6⟩, ⟨g7, g8, g9, g10⟩, g11⟩ := hSw; go_simp <;> with_reducible rfl)
 refine tjH 17 rfl ?_ (by intro w hSw; obtain ⟨⟨g0, g1, g2, g3, g4, g5, g6⟩, ⟨g7, g8, g9, g10⟩, g11⟩ := hSw; go_simp <;> with_reducible rfl)
 refine tjU 18 rfl ?_; refine tjU 19 rfl ?_; refine tjU 20 rfl ?_; refine tjU 21 rfl ?_
 refine tjH 22 rfl ?_ (by intro w hSw; obtain ⟨⟨g0, g1, g2, g3, g4, g5, g6⟩, ⟨g7, g8, g9, g10⟩, g11⟩ := hSw; go_simp <;> with_reducible rfl)
 refine rdH 23 rfl (fun K hK => ?_); have gK := eh.2.2; clear eh; have hA := HB1.out
 have c0 := Lib.cell_of_heap hA 0
 have c1 := Lib.cell_of_heap hA 1
 have c2 := Lib.cell_of_heap hA 2
 have c3 := Lib.cell_of_heap hA 3
 have f0 := fz hA 0
 have f1 := fz hA 1
 have f2 := fz hA 2
 have f3 := fz hA 3
 have hst := (show Own4 X X (w.heap.size + 1) from ⟨Kp.refl _ _, _, _, _, _, HB1.out⟩).set (.nilFunc) (.nilFunc) (.nilFunc) (I6 ek)
 have HST := oh (show Own4 X (((((X.setCell ⟨w.heap.size + 1, 0, none⟩ (.nilFunc)).setCell ⟨w.heap.size + 1, 1, none⟩ (.nilFunc)).setCell ⟨w.heap.size + 1, 2, none⟩ (.nilFunc)).setCell ⟨w.heap.size + 1, 3, none⟩ (I6 ek)).drew) (w.heap.size + 1) ∧ (((((X.setCell ⟨w.heap.size + 1, 0, none⟩ (.nilFunc)).setCell ⟨w.heap.size + 1, 1, none⟩ (.nilFunc)).setCell ⟨w.heap.size + 1, 2, none⟩ (.nilFunc)).setCell ⟨w.heap.size + 1, 3, none⟩ (I6 ek)).drew).heap[w.heap.size + 1]? = _ from ⟨hst.1.kp (Kp.refl _ none).drew, hst.2⟩)
 clear hst; clear hA; go_simp; try go_wp2_with fail
 refine hK.out _ _ ⟨(CC.out _ HST.out.1).1, (CC.out _ HST.out.1).2, oh HST.out.1⟩ (fun eh => ?_)
 clear hK K gK; try simp only [Act.put, sm]
 refine rdH 24 rfl (fun K hK => ?_); clear eh; go_simp; try go_wp2_with fail
 refine hK.out _ _ ⟨(CC.out _ HST.out.1).1, (CC.out _ HST.out.1).2, oh HST.out.1⟩ (fun eh => ?_)
 clear hK K eh; refine wpAnyH_done (by kernel_rfl) ?_ _
 have hF := HST.out
 generalize ((((X.setCell ⟨w.heap.size + 1, 0, none⟩ (.nilFunc)).setCell ⟨w.heap.size + 1, 1, none⟩ (.nilFunc)).setCell ⟨w.heap.size + 1, 2, none⟩ (.nilFunc)).setCell ⟨w.heap.size + 1, 3, none⟩ (I6 ek)).drew = wf at hF ⊢
 clear HST c0 c1 c2 c3 f0 f1 f2 f3; obtain ⟨hF1, hF2⟩ := hF
 have q0 := Lib.cell_of_heap hF2 0
 have q1 := Lib.cell_of_heap hF2 1
 have q2 := Lib.cell_of_heap hF2 2
 have q3 := Lib.cell_of_heap hF2 3
 simp at q0 q1 q2 q3
 go_wp2_with fail
 try simp only [Exit.inBlock, Exit.then]
 refine bodyPost_ret (v := .tuple #[.agg #[.nilFunc, .nilFunc, .nilFunc, I6 ek], .bool false]) (by simp [results, Tryz.results104, go_sem, q0, q1, q2, q3]) rfl ⟨rfl, HKX.out.row2 hF1.1 (by omega)⟩
theorem of_g_1 (ek fk ax ay bx bY cx cy : Int) (fa fb fc : Nat) (w : World) (hfam : ∀ V, Calls Tryz.prog 161 #[I6 ek] V fun E w' => E = .returned (.tuple #[.agg #[.func (.func fa) #[] #[], .func (.func fb) #[] #[], .func (.func fc) #[] #[], I6 fk], .bool true]) ∧ w' = V.alloc (.cells #[.func (.func fa) #[] #[], .func (.func fb) #[] #[], .func (.func fc) #[] #[], I6 fk] 201)) (hp0 : ∀ V, Calls Tryz.prog 162 #[.agg #[I6 ax, I6 ay]] V fun E w' => E = .returned (.bool false) ∧ Kp V w' none) :
  Calls Tryz.prog 104 #[.agg #[I6 ek, I6 ax, I6 ay, I6 bx, I6 bY, I6 cx, I6 cy]] w fun E w' => E = .returned (.tuple #[.agg #[.func (.func fa) #[] #[], .func (.func fb) #[] #[], .func (.func fc) #[] #[], I6 fk], .bool false]) ∧ Kp w w' none := by
 have HP0 := oh hp0; clear hp0
 have HB0 : Hid (((((w.alloc (.cells #[I6 ek, I6 ax, I6 ay, I6 bx, I6 bY, I6 cx, I6 cy] 123)).alloc (.cells #[.nilFunc, .nilFunc, .nilFunc, I6 0] 201)).alloc (.cells #[.func (.func fa) #[] #[], .func (.func fb) #[] #[], .func (.func fc) #[] #[], I6 fk] 201)).alloc (.cells #[.func (.func fa) #[] #[], .func (.func fb) #[] #[], .func (.func fc) #[] #[], I6 fk] 201)).heap[w.heap.size]? = some (.cells #[I6 ek, I6 ax, I6 ay, I6 bx, I6 bY, I6 cx, I6 cy] 123)) := oh (by
  have k1 : Kp (w.alloc (.cells #[I6 ek, I6 ax, I6 ay, I6 bx, I6 bY, I6 cx, I6 cy] 123)) ((((w.alloc (.cells #[I6 ek, I6 ax, I6 ay, I6 bx, I6 bY, I6 cx, I6 cy] 123)).alloc (.cells #[.nilFunc, .nilFunc, .nilFunc, I6 0] 201)).alloc (.cells #[.func (.func fa) #[] #[], .func (.func fb) #[] #[], .func (.func fc) #[] #[], I6 fk] 201)).alloc (.cells #[.func (.func fa) #[] #[], .func (.func fb) #[] #[], .func (.func fc) #[] #[], I6 fk] 201)) none := (((Kp.refl _ none).alloc _).alloc _).alloc _
  exact (k1.block _ (by simp) (by simp)).trans (heap_alloc_new w _))
 have HB1 : Hid (((((w.alloc (.cells #[I6 ek, I6 ax, I6 ay, I6 bx, I6 bY, I6 cx, I6 cy] 123)).alloc (.cells #[.nilFunc, .nilFunc, .nilFunc, I6 0] 201)).alloc (.cells #[.func (.func fa) #[] #[], .func (.func fb) #[] #[], .func (.func fc) #[] #[], I6 fk] 201)).alloc (.cells #[.func (.func fa) #[] #[], .func (.func fb) #[] #[], .func (.func fc) #[] #[], I6 fk] 201)).heap[w.heap.size + 1]? = some (.cells #[.nilFunc, .nilFunc, .nilFunc, I6 0] 201)) := oh (by
  have k1 : Kp ((w.alloc (.cells #[I6 ek, I6 ax, I6 ay, I6 bx, I6 bY, I6 cx, I6 cy] 123)).alloc (.cells #[.nilFunc, .nilFunc, .nilFunc, I6 0] 201)) ((((w.alloc (.cells #[I6 ek, I6 ax, I6 ay, I6 bx, I6 bY, I6 cx, I6 cy] 123)).alloc (.cells #[.nilFunc, .nilFunc, .nilFunc, I6 0] 201)).alloc (.cells #[.func (.func fa) #[] #[], .func (.func fb) #[] #[], .func (.func fc) #[] #[], I6 fk] 201)).alloc (.cells #[.func (.func fa) #[] #[], .func (.func fb) #[] #[], .func (.func fc) #[] #[], I6 fk] 201)) none := ((Kp.refl _ none).alloc _).alloc _
  exact (k1.block (w.heap.size + 1) (by simp) (by simp)).trans (by have := heap_alloc_new (w.alloc (.cells #[I6 ek, I6 ax, I6 ay, I6 bx, I6 bY, I6 cx, I6 cy] 123)) (.cells #[.nilFunc, .nilFunc, .nilFunc, I6 0] 201); simpa using this))
 have HB3 : Hid (((((w.alloc (.cells #[I6 ek, I6 ax, I6 ay, I6 bx, I6 bY, I6 cx, I6 cy] 123)).alloc (.cells #[.nilFunc, .nilFunc, .nilFunc, I6 0] 201)).alloc (.cells #[.func (.func fa) #[] #[], .func (.func fb) #[] #[], .func (.func fc) #[] #[], I6 fk] 201)).alloc (.cells #[.func (.func fa) #[] #[], .func (.func fb) #[] #[], .func (.func fc) #[] #[], I6 fk] 201)).heap[w.heap.size + 1 + 1 + 1]? = some (.cells #[.func (.func fa) #[] #[], .func (.func fb) #[] #[], .func (.func fc) #[] #[], I6 fk] 201)) := oh (by
  have := heap_alloc_new (((w.alloc (.cells #[I6 ek, I6 ax, I6 ay, I6 bx, I6 bY, I6 cx, I6 cy] 123)).alloc (.cells #[.nilFunc, .nilFunc, .nilFunc, I6 0] 201)).alloc (.cells #[.func (.func fa) #[] #[], .func (.func fb) #[] #[], .func (.func fc) #[] #[], I6 fk] 201)) (.cells #[.func (.func fa) #[] #[], .func (.func fb) #[] #[], .func (.func fc) #[] #[], I6 fk] 201)
  simpa using this)
 have HKX : Hid (Kp w ((((w.alloc (.cells #[I6 ek, I6 ax, I6 ay, I6 bx, I6 bY, I6 cx, I6 cy] 123)).alloc (.cells #[.nilFunc, .nilFunc, .nilFunc, I6 0] 201)).alloc (.cells #[.func (.func fa) #[] #[], .func (.func fb) #[] #[], .func (.func fc) #[] #[], I6 fk] 201)).alloc (.cells #[.func (.func fa) #[] #[], .func (.func fb) #[] #[], .func (.func fc) #[] #[], I6 fk] 201)) none) := oh ((((Kp.refl w none).alloc _).alloc _).alloc _ |>.alloc _)
 go_enter Tryz.func104, Tryz.ntmps104
 go_wp2_with fail
 refine (hfam _).mono ?_
 rintro e w1 ⟨rfl, rfl⟩; clear hfam; go_wp2_with fail
 generalize (((w.alloc (.cells #[I6 ek, I6 ax, I6 ay, I6 bx, I6 bY, I6 cx, I6 cy] 123)).alloc (.cells #[.nilFunc, .nilFunc, .nilFunc, I6 0] 201)).alloc (.cells #[.func (.func fa) #[] #[], .func (.func fb) #[] #[], .func (.func fc) #[] #[], I6 fk] 201)).alloc (.cells #[.func (.func fa) #[] #[], .func (.func fb) #[] #[], .func (.func fc) #[] #[], I6 fk] 201) = X at *
 have CC : Hid (∀ V, Own4 X V (w.heap.size + 1) → (V.cell? ⟨w.heap.size, 0, none⟩ = some (I6 ek) ∧ V.cell? ⟨w.heap.size, 1, none⟩ = some (I6 ax) ∧ V.cell? ⟨w.heap.size, 2, none⟩ = some (I6 ay) ∧ V.cell? ⟨w.heap.size, 3, none⟩ = some (I6 bx) ∧ V.cell? ⟨w.heap.size, 4, none⟩ = some (I6 bY) ∧ V.cell? ⟨w.heap.size, 5, none⟩ = some (I6 cx) ∧ V.cell? ⟨w.heap.size, 6, none⟩ = some (I6 cy)) ∧ (V.cell? ⟨w.heap.size + 1 + 1 + 1, 0, none⟩ = some (.func (.func fa) #[] #[]) ∧ V.cell? ⟨w.heap.size + 1 + 1 + 1, 1, none⟩ = some (.func (.func fb) #[] #[]) ∧ V.cell? ⟨w.heap.size + 1 + 1 + 1, 2, none⟩ = some (.func (.func fc) #[] #[]) ∧ V.cell? ⟨w.heap.size + 1 + 1 + 1, 3, none⟩ = some (I6 fk))) := oh fun V ⟨kV, _⟩ =>
  ⟨⟨ck HB0.out kV 0 rfl, ck HB0.out kV 1 rfl, ck HB0.out kV 2 rfl, ck HB0.out kV 3 rfl, ck HB0.out kV 4 rfl, ck HB0.out kV 5 rfl, ck HB0.out kV 6 rfl⟩, ⟨ck HB3.out kV 0 rfl, ck HB3.out kV 1 rfl, ck HB3.out kV 2 rfl, ck HB3.out kV 3 rfl⟩⟩
 refine wp_region_held_drew (S := fun V => (V.cell? ⟨w.heap.size, 0, none⟩ = some (I6 ek) ∧ V.cell? ⟨w.heap.size, 1, none⟩ = some (I6 ax) ∧ V.cell? ⟨w.heap.size, 2, none⟩ = some (I6 ay) ∧ V.cell? ⟨w.heap.size, 3, none⟩ = some (I6 bx) ∧ V.cell? ⟨w.heap.size, 4, none⟩ = some (I6 bY) ∧ V.cell? ⟨w.heap.size, 5, none⟩ = some (I6 cx) ∧ V.cell? ⟨w.heap.size, 6, none⟩ = some (I6 cy)) ∧ (V.cell? ⟨w.heap.size + 1 + 1 + 1, 0, none⟩ = some (.func (.func fa) #[] #[]) ∧ V.cell? ⟨w.heap.size + 1 + 1 + 1, 1, none⟩ = some (.func (.func fb) #[] #[]) ∧ V.cell? ⟨w.heap.size + 1 + 1 + 1, 2, none⟩ = some (.func (.func fc) #[] #[]) ∧ V.cell? ⟨w.heap.size + 1 + 1 + 1, 3, none⟩ = some (I6 fk)) ∧ Hid (Own4 X V (w.heap.size + 1))) (by kernel_rfl) ?_ (fun eh => ?_)
 ·have kk : Own4 X X.drew (w.heap.size + 1) := ⟨(Kp.refl X (some (w.heap.size + 1))).drew, _, _, _, _, HB1.out⟩; exact ⟨(CC.out _ kk).1, (CC.out _ kk).2, oh kk⟩
 refine tjH 0 rfl ?_ (by intro w hSw; obtain ⟨⟨g0, g1, g2, g3, g4, g5, g6⟩, ⟨g7, g8, g9, g10⟩, g11⟩ := hSw; go_simp <;> with_reducible rfl)
 refine tjH 1 rfl ?_ (by intro w hSw; obtain ⟨⟨g0, g1, g2, g3, g4, g5, g6⟩, ⟨g7, g8, g9, g10⟩, g11⟩ := hSw; go_simp <;> with_reducible rfl)
 refine tjH 2 rfl ?_ (by intro w hSw; obtain ⟨⟨g0, g1, g2, g3, g4, g5, g6⟩, ⟨g7, g8, g9, g10⟩, g11⟩ := hSw; go_simp <;> with_reducible rfl)
 refine tjH 3 rfl ?_ (by intro w hSw; obtain ⟨⟨g0, g1, g2, g3, g4, g5, g6⟩, ⟨g7, g8, g9, g10⟩, g11⟩ := hSw; go_simp <;> with_reducible rfl)
 refine tjH 4 rfl ?_ (by intro w hSw; obtain ⟨⟨g0, g1, g2, g3, g4, g5, g6⟩, ⟨g7, g8, g9, g10⟩, g11⟩ := hSw; go_simp <;> with_reducible rfl)
 refine rdH 5 rfl (fun K hK => ?_); have gK := eh.2.2; clear eh; go_simp
 refine (HP0.out _).mono ?_
 rintro e w10 ⟨rfl, kk⟩; have kk2 := gK.out.kp kk
 try go_wp2_with fail
 refine hK.out _ _ ⟨(CC.out _ kk2).1, (CC.out _ kk2).2, oh kk2⟩ (fun eh => ?_)
 clear hK K gK kk kk2; try simp only [Act.put, sm]
 refine tjH 6 rfl ?_ (by intro w hSw; obtain ⟨⟨g0, g1, g2, g3, g4, g5, g6⟩, ⟨g7, g8, g9, g10⟩, g11⟩ := hSw; go_simp <;> with_reducible rfl)
 refine tjH 7 rfl ?_ (by intro w hSw; obtain ⟨⟨g0, g1, g2, g3, g4, g5, g6⟩, ⟨g7, g8, g9, g10⟩, g11⟩ := hSw; go_simp <;> with_reducible rfl)
 refine tjU 8 rfl ?_; refine tjU 9 rfl ?_; refine tjU 10 rfl ?_
 refine tjH 11 rfl ?_ (by intro w hSw; obtain ⟨⟨g0, g1, g2, g3, g4, g5, g6⟩, ⟨g7, g8, g9, g10⟩, g11⟩ := hSw; go_simp <;> with_reducible rfl)
 refine tjH 12 rfl ?_ (by intro w hSw; obtain ⟨⟨g0, g1, g2, g3, g4, g5, g6⟩, ⟨g7, g8, g9, g10⟩, g11⟩ := hSw; go_simp <;> with_reducible rfl)
 refine tjU 13 rfl ?_; refine tjU 14 rfl ?_; refine tjU 15 rfl ?_
 refine tjH 16 rfl ?_ (by intro w hSw; obtain ⟨⟨g0, g1, g2, g3, g4, g5, g6⟩, ⟨g7, g8, g9, g10⟩, g11⟩ := hSw; go_simp <;> with_reducible rfl)
 refine tjH 17 rfl ?_ (by intro w hSw; obtain ⟨⟨g0, g1, g2, g3, g4, g5, g6⟩, ⟨g7, g8, g9, g10⟩, g11⟩ := hSw; go_simp <;> with_reducible rfl)
 refine tjU 18 rfl ?_; refine tjU 19 rfl ?_; refine tjU 20 rfl ?_; refine tjU 21 rfl ?_
 refine tjH 22 rfl ?_ (by intro w hSw; obtain ⟨⟨g0, g1, g2, g3, g4, g5, g6⟩, ⟨g7, g8, g9, g10⟩, g11⟩ := hSw; go_simp <;> with_reducible rfl)
 refine rdH 23 rfl (fun K hK => ?_); have gK := eh.2.2; clear eh; obtain ⟨_, a0, a1, a2, a3, hA⟩ := gK.out
 have c0 := Lib.cell_of_heap hA 0
 have c1 := Lib.cell_of_heap hA 1
 have c2 := Lib.cell_of_heap hA 2
 have c3 := Lib.cell_of_heap hA 3
 have f0 := fz hA 0
 have f1 := fz hA 1
 have f2 := fz hA 2
 have f3 := fz hA 3
 have HST := oh (gK.out.set (.func (.func fa) #[] #[]) (.func (.func fb) #[] #[]) (.func (.func fc) #[] #[]) (I6 fk))
 clear hA; go_simp; try go_wp2_with fail
 refine hK.out _ _ ⟨(CC.out _ HST.out.1).1, (CC.out _ HST.out.1).2, oh HST.out.1⟩ (fun eh => ?_)
 clear hK K gK; try simp only [Act.put, sm]
 refine rdH 24 rfl (fun K hK => ?_); clear eh; go_simp; try go_wp2_with fail
 refine hK.out _ _ ⟨(CC.out _ HST.out.1).1, (CC.out _ HST.out.1).2, oh HST.out.1⟩ (fun eh => ?_)
 clear hK K eh; refine wpAnyH_done (by kernel_rfl) ?_ _
 have hF := HST.out
 generalize ((((w10.setCell ⟨w.heap.size + 1, 0, none⟩ (.func (.func fa) #[] #[])).setCell ⟨w.heap.size + 1, 1, none⟩ (.func (.func fb) #[] #[])).setCell ⟨w.heap.size + 1, 2, none⟩ (.func (.func fc) #[] #[])).setCell ⟨w.heap.size + 1, 3, none⟩ (I6 fk)) = wf at hF ⊢
 clear HST c0 c1 c2 c3 f0 f1 f2 f3; obtain ⟨hF1, hF2⟩ := hF
 have q0 := Lib.cell_of_heap hF2 0
 have q1 := Lib.cell_of_heap hF2 1
 have q2 := Lib.cell_of_heap hF2 2
 have q3 := Lib.cell_of_heap hF2 3
 simp at q0 q1 q2 q3
 go_wp2_with fail
 try simp only [Exit.inBlock, Exit.then]
 refine bodyPost_ret (v := .tuple #[.agg #[.func (.func fa) #[] #[], .func (.func fb) #[] #[], .func (.func fc) #[] #[], I6 fk], .bool false]) (by simp [results, Tryz.results104, go_sem, q0, q1, q2, q3]) rfl ⟨rfl, HKX.out.row2 hF1.1 (by omega)⟩
theorem of_g_2 (ek fk ax ay bx bY cx cy : Int) (fa fb fc : Nat) (w : World) (hfam : ∀ V, Calls Tryz.prog 161 #[I6 ek] V fun E w' => E = .returned (.tuple #[.agg #[.func (.func fa) #[] #[], .func (.func fb) #[] #[], .func (.func fc) #[] #[], I6 fk], .bool true]) ∧ w' = V.alloc (.cells #[.func (.func fa) #[] #[], .func (.func fb) #[] #[], .func (.func fc) #[] #[], I6 fk] 201)) (hp0 : ∀ V, Calls Tryz.prog 162 #[.agg #[I6 ax, I6 ay]] V fun E w' => E = .returned (.bool true) ∧ Kp V w' none) (hp1 : ∀ V, Calls Tryz.prog 162 #[.agg #[I6 bx, I6 bY]] V fun E w' => E = .returned (.bool false) ∧ Kp V w' none) :
  Calls Tryz.prog 104 #[.agg #[I6 ek, I6 ax, I6 ay, I6 bx, I6 bY, I6 cx, I6 cy]] w fun E w' => E = .returned (.tuple #[.agg #[.func (.func fa) #[] #[], .func (.func fb) #[] #[], .func (.func fc) #[] #[], I6 fk], .bool false]) ∧ Kp w w' none := by
 have HP0 := oh hp0; clear hp0; have HP1 := oh hp1; clear hp1
 have HB0 : Hid (((((w.alloc (.cells #[I6 ek, I6 ax, I6 ay, I6 bx, I6 bY, I6 cx, I6 cy] 123)).alloc (.cells #[.nilFunc, .nilFunc, .nilFunc, I6 0] 201)).alloc (.cells #[.func (.func fa) #[] #[], .func (.func fb) #[] #[], .func (.func fc) #[] #[], I6 fk] 201)).alloc (.cells #[.func (.func fa) #[] #[], .func (.func fb) #[] #[], .func (.func fc) #[] #[], I6 fk] 201)).heap[w.heap.size]? = some (.cells #[I6 ek, I6 ax, I6 ay, I6 bx, I6 bY, I6 cx, I6 cy] 123)) := oh (by
  have k1 : Kp (w.alloc (.cells #[I6 ek, I6 ax, I6 ay, I6 bx, I6 bY, I6 cx, I6 cy] 123)) ((((w.alloc (.cells #[I6 ek, I6 ax, I6 ay, I6 bx, I6 bY, I6 cx, I6 cy] 123)).alloc (.cells #[.nilFunc, .nilFunc, .nilFunc, I6 0] 201)).alloc (.cells #[.func (.func fa) #[] #[], .func (.func fb) #[] #[], .func (.func fc) #[] #[], I6 fk] 201)).alloc (.cells #[.func (.func fa) #[] #[], .func (.func fb) #[] #[], .func (.func fc) #[] #[], I6 fk] 201)) none := (((Kp.refl _ none).alloc _).alloc _).alloc _
  exact (k1.block _ (by simp) (by simp)).trans (heap_alloc_new w _))
 have HB1 : Hid (((((w.alloc (.cells #[I6 ek, I6 ax, I6 ay, I6 bx, I6 bY, I6 cx, I6 cy] 123)).alloc (.cells #[.nilFunc, .nilFunc, .nilFunc, I6 0] 201)).alloc (.cells #[.func (.func fa) #[] #[], .func (.func fb) #[] #[], .func (.func fc) #[] #[], I6 fk] 201)).alloc (.cells #[.func (.func fa) #[] #[], .func (.func fb) #[] #[], .func (.func fc) #[] #[], I6 fk] 201)).heap[w.heap.size + 1]? = some (.cells #[.nilFunc, .nilFunc, .nilFunc, I6 0] 201)) := oh (by
  have k1 : Kp ((w.alloc (.cells #[I6 ek, I6 ax, I6 ay, I6 bx, I6 bY, I6 cx, I6 cy] 123)).alloc (.cells #[.nilFunc, .nilFunc, .nilFunc, I6 0] 201)) ((((w.alloc (.cells #[I6 ek, I6 ax, I6 ay, I6 bx, I6 bY, I6 cx, I6 cy] 123)).alloc (.cells #[.nilFunc, .nilFunc, .nilFunc, I6 0] 201)).alloc (.cells #[.func (.func fa) #[] #[], .func (.func fb) #[] #[], .func (.func fc) #[] #[], I6 fk] 201)).alloc (.cells #[.func (.func fa) #[] #[], .func (.func fb) #[] #[], .func (.func fc) #[] #[], I6 fk] 201)) none := ((Kp.refl _ none).alloc _).alloc _
  exact (k1.block (w.heap.size + 1) (by simp) (by simp)).trans (by have := heap_alloc_new (w.alloc (.cells #[I6 ek, I6 ax, I6 ay, I6 bx, I6 bY, I6 cx, I6 cy] 123)) (.cells #[.nilFunc, .nilFunc, .nilFunc, I6 0] 201); simpa using this))
 have HB3 : Hid (((((w.alloc (.cells #[I6 ek, I6 ax, I6 ay, I6 bx, I6 bY, I6 cx, I6 cy] 123)).alloc (.cells #[.nilFunc, .nilFunc, .nilFunc, I6 0] 201)).alloc (.cells #[.func (.func fa) #[] #[], .func (.func fb) #[] #[], .func (.func fc) #[] #[], I6 fk] 201)).alloc (.cells #[.func (.func fa) #[] #[], .func (.func fb) #[] #[], .func (.func fc) #[] #[], I6 fk] 201)).heap[w.heap.size + 1 + 1 + 1]? = some (.cells #[.func (.func fa) #[] #[], .func (.func fb) #[] #[], .func (.func fc) #[] #[], I6 fk] 201)) := oh (by
  have := heap_alloc_new (((w.alloc (.cells #[I6 ek, I6 ax, I6 ay, I6 bx, I6 bY, I6 cx, I6 cy] 123)).alloc (.cells #[.nilFunc, .nilFunc, .nilFunc, I6 0] 201)).alloc (.cells #[.func (.func fa) #[] #[], .func (.func fb) #[] #[], .func (.func fc) #[] #[], I6 fk] 201)) (.cells #[.func (.func fa) #[] #[], .func (.func fb) #[] #[], .func (.func fc) #[] #[], I6 fk] 201)
  simpa using this)
 have HKX : Hid (Kp w ((((w.alloc (.cells #[I6 ek, I6 ax, I6 ay, I6 bx, I6 bY, I6 cx, I6 cy] 123)).alloc (.cells #[.nilFunc, .nilFunc, .nilFunc, I6 0] 201)).alloc (.cells #[.func (.func fa) #[] #[], .func (.func fb) #[] #[], .func (.func fc) #[] #[], I6 fk] 201)).alloc (.cells #[.func (.func fa) #[] #[], .func (.func fb) #[] #[], .func (.func fc) #[] #[], I6 fk] 201)) none) := oh ((((Kp.refl w none).alloc _).alloc _).alloc _ |>.alloc _)
 go_enter Tryz.func104, Tryz.ntmps104
 go_wp2_with fail
 refine (hfam _).mono ?_
 rintro e w1 ⟨rfl, rfl⟩; clear hfam; go_wp2_with fail
 generalize (((w.alloc (.cells #[I6 ek, I6 ax, I6 ay, I6 bx, I6 bY, I6 cx, I6 cy] 123)).alloc (.cells #[.nilFunc, .nilFunc, .nilFunc, I6 0] 201)).alloc (.cells #[.func (.func fa) #[] #[], .func (.func fb) #[] #[], .func (.func fc) #[] #[], I6 fk] 201)).alloc (.cells #[.func (.func fa) #[] #[], .func (.func fb) #[] #[], .func (.func fc) #[] #[], I6 fk] 201) = X at *
 have CC : Hid (∀ V, Own4 X V (w.heap.size + 1) → (V.cell? ⟨w.heap.size, 0, none⟩ = some (I6 ek) ∧ V.cell? ⟨w.heap.size, 1, none⟩ = some (I6 ax) ∧ V.cell? ⟨w.heap.size, 2, none⟩ = some (I6 ay) ∧ V.cell? ⟨w.heap.size, 3, none⟩ = some (I6 bx) ∧ V.cell? ⟨w.heap.size, 4, none⟩ = some (I6 bY) ∧ V.cell? ⟨w.heap.size, 5, none⟩ = some (I6 cx) ∧ V.cell? ⟨w.heap.size, 6, none⟩ = some (I6 cy)) ∧ (V.cell? ⟨w.heap.size + 1 + 1 + 1, 0, none⟩ = some (.func (.func fa) #[] #[]) ∧ V.cell? ⟨w.heap.size + 1 + 1 + 1, 1, none⟩ = some (.func (.func fb) #[] #[]) ∧ V.cell? ⟨w.heap.size + 1 + 1 + 1, 2, none⟩ = some (.func (.func fc) #[] #[]) ∧ V.cell? ⟨w.heap.size + 1 + 1 + 1, 3, none⟩ = some (I6 fk))) := oh fun V ⟨kV, _⟩ =>
  ⟨⟨ck HB0.out kV 0 rfl, ck HB0.out kV 1 rfl, ck HB0.out kV 2 rfl, ck HB0.out kV 3 rfl, ck HB0.out kV 4 rfl, ck HB0.out kV 5 rfl, ck HB0.out kV 6 rfl⟩, ⟨ck HB3.out kV 0 rfl, ck HB3.out kV 1 rfl, ck HB3.out kV 2 rfl, ck HB3.out kV 3 rfl⟩⟩
 refine wp_region_held_drew (S := fun V => (V.cell? ⟨w.heap.size, 0, none⟩ = some (I6 ek) ∧ V.cell? ⟨w.heap.size, 1, none⟩ = some (I6 ax) ∧ V.cell? ⟨w.heap.size, 2, none⟩ = some (I6 ay) ∧ V.cell? ⟨w.heap.size, 3, none⟩ = some (I6 bx) ∧ V.cell? ⟨w.heap.size, 4, none⟩ = some (I6 bY) ∧ V.cell? ⟨w.heap.size, 5, none⟩ = some (I6 cx) ∧ V.cell? ⟨w.heap.size, 6, none⟩ = some (I6 cy)) ∧ (V.cell? ⟨w.heap.size + 1 + 1 + 1, 0, none⟩ = some (.func (.func fa) #[] #[]) ∧ V.cell? ⟨w.heap.size + 1 + 1 + 1, 1, none⟩ = some (.func (.func fb) #[] #[]) ∧ V.cell? ⟨w.heap.size + 1 + 1 + 1, 2, none⟩ = some (.func (.func fc) #[] #[]) ∧ V.cell? ⟨w.heap.size + 1 + 1 + 1, 3, none⟩ = some (I6 fk)) ∧ Hid (Own4 X V (w.heap.size + 1))) (by kernel_rfl) ?_ (fun eh => ?_)
 ·have kk : Own4 X X.drew (w.heap.size + 1) := ⟨(Kp.refl X (some (w.heap.size + 1))).drew, _, _, _, _, HB1.out⟩; exact ⟨(CC.out _ kk).1, (CC.out _ kk).2, oh kk⟩
 refine tjH 0 rfl ?_ (by intro w hSw; obtain ⟨⟨g0, g1, g2, g3, g4, g5, g6⟩, ⟨g7, g8, g9, g10⟩, g11⟩ := hSw; go_simp <;> with_reducible rfl)
 refine tjH 1 rfl ?_ (by intro w hSw; obtain ⟨⟨g0, g1, g2, g3, g4, g5, g6⟩, ⟨g7, g8, g9, g10⟩, g11⟩ := hSw; go_simp <;> with_reducible rfl)
 refine tjH 2 rfl ?_ (by intro w hSw; obtain ⟨⟨g0, g1, g2, g3, g4, g5, g6⟩, ⟨g7, g8, g9, g10⟩, g11⟩ := hSw; go_simp <;> with_reducible rfl)
 refine tjH 3 rfl ?_ (by intro w hSw; obtain ⟨⟨g0, g1, g2, g3, g4, g5, g6⟩, ⟨g7, g8, g9, g10⟩, g11⟩ := hSw; go_simp <;> with_reducible rfl)
 refine tjH 4 rfl ?_ (by intro w hSw; obtain ⟨⟨g0, g1, g2, g3, g4, g5, g6⟩, ⟨g7, g8, g9, g10⟩, g11⟩ := hSw; go_simp <;> with_reducible rfl)
 refine rdH 5 rfl (fun K hK => ?_); have gK := eh.2.2; clear eh; go_simp
 refine (HP0.out _).mono ?_
 rintro e w10 ⟨rfl, kk⟩; have kk2 := gK.out.kp kk
 try go_wp2_with fail
 refine hK.out _ _ ⟨(CC.out _ kk2).1, (CC.out _ kk2).2, oh kk2⟩ (fun eh => ?_)
 clear hK K gK kk kk2; try simp only [Act.put, sm]
 refine tjH 6 rfl ?_ (by intro w hSw; obtain ⟨⟨g0, g1, g2, g3, g4, g5, g6⟩, ⟨g7, g8, g9, g10⟩, g11⟩ := hSw; go_simp <;> with_reducible rfl)
 refine tjH 7 rfl ?_ (by intro w hSw; obtain ⟨⟨g0, g1, g2, g3, g4, g5, g6⟩, ⟨g7, g8, g9, g10⟩, g11⟩ := hSw; go_simp <;> with_reducible rfl)
 refine tjH 8 rfl ?_ (by intro w hSw; obtain ⟨⟨g0, g1, g2, g3, g4, g5, g6⟩, ⟨g7, g8, g9, g10⟩, g11⟩ := hSw; go_simp <;> with_reducible rfl)
 refine tjH 9 rfl ?_ (by intro w hSw; obtain ⟨⟨g0, g1, g2, g3, g4, g5, g6⟩, ⟨g7, g8, g9, g10⟩, g11⟩ := hSw; go_simp <;> with_reducible rfl)
 refine rdH 10 rfl (fun K hK => ?_); have gK := eh.2.2; clear eh; go_simp
 refine (HP1.out _).mono ?_
 rintro e w11 ⟨rfl, kk⟩; have kk2 := gK.out.kp kk
 try go_wp2_with fail
 refine hK.out _ _ ⟨(CC.out _ kk2).1, (CC.out _ kk2).2, oh kk2⟩ (fun eh => ?_)
 clear hK K gK kk kk2; try simp only [Act.put, sm]
 refine tjH 11 rfl ?_ (by intro w hSw; obtain ⟨⟨g0, g1, g2, g3, g4, g5, g6⟩, ⟨g7, g8, g9, g10⟩, g11⟩ := hSw; go_simp <;> with_reducible rfl)
 refine tjH 12 rfl ?_ (by intro w hSw; obtain ⟨⟨g0, g1, g2, g3, g4, g5, g6⟩, ⟨g7, g8, g9, g10⟩, g11⟩ := hSw; go_simp <;> with_reducible rfl)
 refine tjU 13 rfl ?_; refine tjU 14 rfl ?_; refine tjU 15 rfl ?_
 refine tjH 16 rfl ?_ (by intro w hSw; obtain ⟨⟨g0, g1, g2, g3, g4, g5, g6⟩, ⟨g7, g8, g9, g10⟩, g11⟩ := hSw; go_simp <;> with_reducible rfl)
 refine tjH 17 rfl ?_ (by intro w hSw; obtain ⟨⟨g0, g1, g2, g3, g4, g5, g6⟩, ⟨g7, g8, g9, g10⟩, g11⟩ := hSw; go_simp <;> with_reducible rfl)
 refine tjU 18 rfl ?_; refine tjU 19 rfl ?_; refine tjU 20 rfl ?_; refine tjU 21 rfl ?_
 refine tjH 22 rfl ?_ (by intro w hSw; obtain ⟨⟨g0, g1, g2, g3, g4, g5, g6⟩, ⟨g7, g8, g9, g10⟩, g11⟩ := hSw; go_simp <;> with_reducible rfl)
 refine rdH 23 rfl (fun K hK => ?_); have gK := eh.2.2; clear eh; obtain ⟨_, a0, a1, a2, a3, hA⟩ := gK.out
 have c0 := Lib.cell_of_heap hA 0
 have c1 := Lib.cell_of_heap hA 1
 have c2 := Lib.cell_of_heap hA 2
 have c3 := Lib.cell_of_heap hA 3
 have f0 := fz hA 0
 have f1 := fz hA 1
 have f2 := fz hA 2
 have f3 := fz hA 3
 have HST := oh (gK.out.set (.func (.func fa) #[] #[]) (.func (.func fb) #[] #[]) (.func (.func fc) #[] #[]) (I6 fk))
 clear hA; go_simp; try go_wp2_with fail
 refine hK.out _ _ ⟨(CC.out _ HST.out.1).1, (CC.out _ HST.out.1).2, oh HST.out.1⟩ (fun eh => ?_)
 clear hK K gK; try simp only [Act.put, sm]
 refine rdH 24 rfl (fun K hK => ?_); clear eh; go_simp; try go_wp2_with fail
 refine hK.out _ _ ⟨(CC.out _ HST.out.1).1, (CC.out _ HST.out.1).2, oh HST.out.1⟩ (fun eh => ?_)
 clear hK K eh; refine wpAnyH_done (by kernel_rfl) ?_ _
 have hF := HST.out
 generalize ((((w11.setCell ⟨w.heap.size + 1, 0, none⟩ (.func (.func fa) #[] #[])).setCell ⟨w.heap.size + 1, 1, none⟩ (.func (.func fb) #[] #[])).setCell ⟨w.heap.size + 1, 2, none⟩ (.func (.func fc) #[] #[])).setCell ⟨w.heap.size + 1, 3, none⟩ (I6 fk)) = wf at hF ⊢
 clear HST c0 c1 c2 c3 f0 f1 f2 f3; obtain ⟨hF1, hF2⟩ := hF
 have q0 := Lib.cell_of_heap hF2 0
 have q1 := Lib.cell_of_heap hF2 1
 have q2 := Lib.cell_of_heap hF2 2
 have q3 := Lib.cell_of_heap hF2 3
 simp at q0 q1 q2 q3
 go_wp2_with fail
 try simp only [Exit.inBlock, Exit.then]
 refine bodyPost_ret (v := .tuple #[.agg #[.func (.func fa) #[] #[], .func (.func fb) #[] #[], .func (.func fc) #[] #[], I6 fk], .bool false]) (by simp [results, Tryz.results104, go_sem, q0, q1, q2, q3]) rfl ⟨rfl, HKX.out.row2 hF1.1 (by omega)⟩
theorem of_g_3 (ek fk ax ay bx bY cx cy : Int) (fa fb fc : Nat) (w : World) (hfam : ∀ V, Calls Tryz.prog 161 #[I6 ek] V fun E w' => E = .returned (.tuple #[.agg #[.func (.func fa) #[] #[], .func (.func fb) #[] #[], .func (.func fc) #[] #[], I6 fk], .bool true]) ∧ w' = V.alloc (.cells #[.func (.func fa) #[] #[], .func (.func fb) #[] #[], .func (.func fc) #[] #[], I6 fk] 201)) (hp0 : ∀ V, Calls Tryz.prog 162 #[.agg #[I6 ax, I6 ay]] V fun E w' => E = .returned (.bool true) ∧ Kp V w' none) (hp1 : ∀ V, Calls Tryz.prog 162 #[.agg #[I6 bx, I6 bY]] V fun E w' => E = .returned (.bool true) ∧ Kp V w' none) (hp2 : ∀ V, Calls Tryz.prog 162 #[.agg #[I6 cx, I6 cy]] V fun E w' => E = .returned (.bool false) ∧ Kp V w' none) :
  Calls Tryz.prog 104 #[.agg #[I6 ek, I6 ax, I6 ay, I6 bx, I6 bY, I6 cx, I6 cy]] w fun E w' => E = .returned (.tuple #[.agg #[.func (.func fa) #[] #[], .func (.func fb) #[] #[], .func (.func fc) #[] #[], I6 fk], .bool false]) ∧ Kp w w' none := by
 have HP0 := oh hp0; clear hp0; have HP1 := oh hp1; clear hp1; have HP2 := oh hp2; clear hp2
 have HB0 : Hid (((((w.alloc (.cells #[I6 ek, I6 ax, I6 ay, I6 bx, I6 bY, I6 cx, I6 cy] 123)).alloc (.cells #[.nilFunc, .nilFunc, .nilFunc, I6 0] 201)).alloc (.cells #[.func (.func fa) #[] #[], .func (.func fb) #[] #[], .func (.func fc) #[] #[], I6 fk] 201)).alloc (.cells #[.func (.func fa) #[] #[], .func (.func fb) #[] #[], .func (.func fc) #[] #[], I6 fk] 201)).heap[w.heap.size]? = some (.cells #[I6 ek, I6 ax, I6 ay, I6 bx, I6 bY, I6 cx, I6 cy] 123)) := oh (by
  have k1 : Kp (w.alloc (.cells #[I6 ek, I6 ax, I6 ay, I6 bx, I6 bY, I6 cx, I6 cy] 123)) ((((w.alloc (.cells #[I6 ek, I6 ax, I6 ay, I6 bx, I6 bY, I6 cx, I6 cy] 123)).alloc (.cells #[.nilFunc, .nilFunc, .nilFunc, I6 0] 201)).alloc (.cells #[.func (.func fa) #[] #[], .func (.func fb) #[] #[], .func (.func fc) #[] #[], I6 fk] 201)).alloc (.cells #[.func (.func fa) #[] #[], .func (.func fb) #[] #[], .func (.func fc) #[] #[], I6 fk] 201)) none := (((Kp.refl _ none).alloc _).alloc _).alloc _
  exact (k1.block _ (by simp) (by simp)).trans (heap_alloc_new w _))
 have HB1 : Hid (((((w.alloc (.cells #[I6 ek, I6 ax, I6 ay, I6 bx, I6 bY, I6 cx, I6 cy] 123)).alloc (.cells #[.nilFunc, .nilFunc, .nilFunc, I6 0] 201)).alloc (.cells #[.func (.func fa) #[] #[], .func (.func fb) #[] #[], .func (.func fc) #[] #[], I6 fk] 201)).alloc (.cells #[.func (.func fa) #[] #[], .func (.func fb) #[] #[], .func (.func fc) #[] #[], I6 fk] 201)).heap[w.heap.size + 1]? = some (.cells #[.nilFunc, .nilFunc, .nilFunc, I6 0] 201)) := oh (by
  have k1 : Kp ((w.alloc (.cells #[I6 ek, I6 ax, I6 ay, I6 bx, I6 bY, I6 cx, I6 cy] 123)).alloc (.cells #[.nilFunc, .nilFunc, .nilFunc, I6 0] 201)) ((((w.alloc (.cells #[I6 ek, I6 ax, I6 ay, I6 bx, I6 bY, I6 cx, I6 cy] 123)).alloc (.cells #[.nilFunc, .nilFunc, .nilFunc, I6 0] 201)).alloc (.cells #[.func (.func fa) #[] #[], .func (.func fb) #[] #[], .func (.func fc) #[] #[], I6 fk] 201)).alloc (.cells #[.func (.func fa) #[] #[], .func (.func fb) #[] #[], .func (.func fc) #[] #[], I6 fk] 201)) none := ((Kp.refl _ none).alloc _).alloc _
  exact (k1.block (w.heap.size + 1) (by simp) (by simp)).trans (by have := heap_alloc_new (w.alloc (.cells #[I6 ek, I6 ax, I6 ay, I6 bx, I6 bY, I6 cx, I6 cy] 123)) (.cells #[.nilFunc, .nilFunc, .nilFunc, I6 0] 201); simpa using this))
 have HB3 : Hid (((((w.alloc (.cells #[I6 ek, I6 ax, I6 ay, I6 bx, I6 bY, I6 cx, I6 cy] 123)).alloc (.cells #[.nilFunc, .nilFunc, .nilFunc, I6 0] 201)).alloc (.cells #[.func (.func fa) #[] #[], .func (.func fb) #[] #[], .func (.func fc) #[] #[], I6 fk] 201)).alloc (.cells #[.func (.func fa) #[] #[], .func (.func fb) #[] #[], .func (.func fc) #[] #[], I6 fk] 201)).heap[w.heap.size + 1 + 1 + 1]? = some (.cells #[.func (.func fa) #[] #[], .func (.func fb) #[] #[], .func (.func fc) #[] #[], I6 fk] 201)) := oh (by
  have := heap_alloc_new (((w.alloc (.cells #[I6 ek, I6 ax, I6 ay, I6 bx, I6 bY, I6 cx, I6 cy] 123)).alloc (.cells #[.nilFunc, .nilFunc, .nilFunc, I6 0] 201)).alloc (.cells #[.func (.func fa) #[] #[], .func (.func fb) #[] #[], .func (.func fc) #[] #[], I6 fk] 201)) (.cells #[.func (.func fa) #[] #[], .func (.func fb) #[] #[], .func (.func fc) #[] #[], I6 fk] 201)
  simpa using this)
 have HKX : Hid (Kp w ((((w.alloc (.cells #[I6 ek, I6 ax, I6 ay, I6 bx, I6 bY, I6 cx, I6 cy] 123)).alloc (.cells #[.nilFunc, .nilFunc, .nilFunc, I6 0] 201)).alloc (.cells #[.func (.func fa) #[] #[], .func (.func fb) #[] #[], .func (.func fc) #[] #[], I6 fk] 201)).alloc (.cells #[.func (.func fa) #[] #[], .func (.func fb) #[] #[], .func (.func fc) #[] #[], I6 fk] 201)) none) := oh ((((Kp.refl w none).alloc _).alloc _).alloc _ |>.alloc _)
 go_enter Tryz.func104, Tryz.ntmps104
 go_wp2_with fail
 refine (hfam _).mono ?_
 rintro e w1 ⟨rfl, rfl⟩; clear hfam; go_wp2_with fail
 generalize (((w.alloc (.cells #[I6 ek, I6 ax, I6 ay, I6 bx, I6 bY, I6 cx, I6 cy] 123)).alloc (.cells #[.nilFunc, .nilFunc, .nilFunc, I6 0] 201)).alloc (.cells #[.func (.func fa) #[] #[], .func (.func fb) #[] #[], .func (.func fc) #[] #[], I6 fk] 201)).alloc (.cells #[.func (.func fa) #[] #[], .func (.func fb) #[] #[], .func (.func fc) #[] #[], I6 fk] 201) = X at *
 have CC : Hid (∀ V, Own4 X V (w.heap.size + 1) → (V.cell? ⟨w.heap.size, 0, none⟩ = some (I6 ek) ∧ V.cell? ⟨w.heap.size, 1, none⟩ = some (I6 ax) ∧ V.cell? ⟨w.heap.size, 2, none⟩ = some (I6 ay) ∧ V.cell? ⟨w.heap.size, 3, none⟩ = some (I6 bx) ∧ V.cell? ⟨w.heap.size, 4, none⟩ = some (I6 bY) ∧ V.cell? ⟨w.heap.size, 5, none⟩ = some (I6 cx) ∧ V.cell? ⟨w.heap.size, 6, none⟩ = some (I6 cy)) ∧ (V.cell? ⟨w.heap.size + 1 + 1 + 1, 0, none⟩ = some (.func (.func fa) #[] #[]) ∧ V.cell? ⟨w.heap.size + 1 + 1 + 1, 1, none⟩ = some (.func (.func fb) #[] #[]) ∧ V.cell? ⟨w.heap.size + 1 + 1 + 1, 2, none⟩ = some (.func (.func fc) #[] #[]) ∧ V.cell? ⟨w.heap.size + 1 + 1 + 1, 3, none⟩ = some (I6 fk))) := oh fun V ⟨kV, _⟩ =>
  ⟨⟨ck HB0.out kV 0 rfl, ck HB0.out kV 1 rfl, ck HB0.out kV 2 rfl, ck HB0.out kV 3 rfl, ck HB0.out kV 4 rfl, ck HB0.out kV 5 rfl, ck HB0.out kV 6 rfl⟩, ⟨ck HB3.out kV 0 rfl, ck HB3.out kV 1 rfl, ck HB3.out kV 2 rfl, ck HB3.out kV 3 rfl⟩⟩
 refine wp_region_held_drew (S := fun V => (V.cell? ⟨w.heap.size, 0, none⟩ = some (I6 ek) ∧ V.cell? ⟨w.heap.size, 1, none⟩ = some (I6 ax) ∧ V.cell? ⟨w.heap.size, 2, none⟩ = some (I6 ay) ∧ V.cell? ⟨w.heap.size, 3, none⟩ = some (I6 bx) ∧ V.cell? ⟨w.heap.size, 4, none⟩ = some (I6 bY) ∧ V.cell? ⟨w.heap.size, 5, none⟩ = some (I6 cx) ∧ V.cell? ⟨w.heap.size, 6, none⟩ = some (I6 cy)) ∧ (V.cell? ⟨w.heap.size + 1 + 1 + 1, 0, none⟩ = some (.func (.func fa) #[] #[]) ∧ V.cell? ⟨w.heap.size + 1 + 1 + 1, 1, none⟩ = some (.func (.func fb) #[] #[]) ∧ V.cell? ⟨w.heap.size + 1 + 1 + 1, 2, none⟩ = some (.func (.func fc) #[] #[]) ∧ V.cell? ⟨w.heap.size + 1 + 1 + 1, 3, none⟩ = some (I6 fk)) ∧ Hid (Own4 X V (w.heap.size + 1))) (by kernel_rfl) ?_ (fun eh => ?_)
 ·have kk : Own4 X X.drew (w.heap.size + 1) := ⟨(Kp.refl X (some (w.heap.size + 1))).drew, _, _, _, _, HB1.out⟩; exact ⟨(CC.out _ kk).1, (CC.out _ kk).2, oh kk⟩
 refine tjH 0 rfl ?_ (by intro w hSw; obtain ⟨⟨g0, g1, g2, g3, g4, g5, g6⟩, ⟨g7, g8, g9, g10⟩, g11⟩ := hSw; go_simp <;> with_reducible rfl)
 refine tjH 1 rfl ?_ (by intro w hSw; obtain ⟨⟨g0, g1, g2, g3, g4, g5, g6⟩, ⟨g7, g8, g9, g10⟩, g11⟩ := hSw; go_simp <;> with_reducible rfl)
 refine tjH 2 rfl ?_ (by intro w hSw; obtain ⟨⟨g0, g1, g2, g3, g4, g5, g6⟩, ⟨g7, g8, g9, g10⟩, g11⟩ := hSw; go_simp <;> with_reducible rfl)
 refine tjH 3 rfl ?_ (by intro w hSw; obtain ⟨⟨g0, g1, g2, g3, g4, g5, g6⟩, ⟨g7, g8, g9, g10⟩, g11⟩ := hSw; go_simp <;> with_reducible rfl)
 refine tjH 4 rfl ?_ (by intro w hSw; obtain ⟨⟨g0, g1, g2, g3, g4, g5, g6⟩, ⟨g7, g8, g9, g10⟩, g11⟩ := hSw; go_simp <;> with_reducible rfl)
 refine rdH 5 rfl (fun K hK => ?_); have gK := eh.2.2; clear eh; go_simp
 refine (HP0.out _).mono ?_
 rintro e w10 ⟨rfl, kk⟩; have kk2 := gK.out.kp kk
 try go_wp2_with fail
 refine hK.out _ _ ⟨(CC.out _ kk2).1, (CC.out _ kk2).2, oh kk2⟩ (fun eh => ?_)
 clear hK K gK kk kk2; try simp only [Act.put, sm]
 refine tjH 6 rfl ?_ (by intro w hSw; obtain ⟨⟨g0, g1, g2, g3, g4, g5, g6⟩, ⟨g7, g8, g9, g10⟩, g11⟩ := hSw; go_simp <;> with_reducible rfl)
 refine tjH 7 rfl ?_ (by intro w hSw; obtain ⟨⟨g0, g1, g2, g3, g4, g5, g6⟩, ⟨g7, g8, g9, g10⟩, g11⟩ := hSw; go_simp <;> with_reducible rfl)
 refine tjH 8 rfl ?_ (by intro w hSw; obtain ⟨⟨g0, g1, g2, g3, g4, g5, g6⟩, ⟨g7, g8, g9, g10⟩, g11⟩ := hSw; go_simp <;> with_reducible rfl)
 refine tjH 9 rfl ?_ (by intro w hSw; obtain ⟨⟨g0, g1, g2, g3, g4, g5, g6⟩, ⟨g7, g8, g9, g10⟩, g11⟩ := hSw; go_simp <;> with_reducible rfl)
 refine rdH 10 rfl (fun K hK => ?_); have gK := eh.2.2; clear eh; go_simp
 refine (HP1.out _).mono ?_
 rintro e w11 ⟨rfl, kk⟩; have kk2 := gK.out.kp kk
 try go_wp2_with fail
 refine hK.out _ _ ⟨(CC.out _ kk2).1, (CC.out _ kk2).2, oh kk2⟩ (fun eh => ?_)
 clear hK K gK kk kk2; try simp only [Act.put, sm]
 refine tjH 11 rfl ?_ (by intro w hSw; obtain ⟨⟨g0, g1, g2, g3, g4, g5, g6⟩, ⟨g7, g8, g9, g10⟩, g11⟩ := hSw; go_simp <;> with_reducible rfl)
 refine tjH 12 rfl ?_ (by intro w hSw; obtain ⟨⟨g0, g1, g2, g3, g4, g5, g6⟩, ⟨g7, g8, g9, g10⟩, g11⟩ := hSw; go_simp <;> with_reducible rfl)
 refine tjH 13 rfl ?_ (by intro w hSw; obtain ⟨⟨g0, g1, g2, g3, g4, g5, g6⟩, ⟨g7, g8, g9, g10⟩, g11⟩ := hSw; go_simp <;> with_reducible rfl)
 refine tjH 14 rfl ?_ (by intro w hSw; obtain ⟨⟨g0, g1, g2, g3, g4, g5, g6⟩, ⟨g7, g8, g9, g10⟩, g11⟩ := hSw; go_simp <;> with_reducible rfl)
 refine rdH 15 rfl (fun K hK => ?_); have gK := eh.2.2; clear eh; go_simp
 refine (HP2.out _).mono ?_
 rintro e w12 ⟨rfl, kk⟩; have kk2 := gK.out.kp kk
 try go_wp2_with fail
 refine hK.out _ _ ⟨(CC.out _ kk2).1, (CC.out _ kk2).2, oh kk2⟩ (fun eh => ?_)
 clear hK K gK kk kk2; try simp only [Act.put, sm]
 refine tjH 16 rfl ?_ (by intro w hSw; obtain ⟨⟨g0, g1, g2, g3, g4, g5, g6⟩, ⟨g7, g8, g9, g10⟩, g11⟩ := hSw; go_simp <;> with_reducible rfl)
 refine tjH 17 rfl ?_ (by intro w hSw; obtain ⟨⟨g0, g1, g2, g3, g4, g5, g6⟩, ⟨g7, g8, g9, g10⟩, g11⟩ := hSw; go_simp <;> with_reducible rfl)
 refine tjU 18 rfl ?_; refine tjU 19 rfl ?_; refine tjU 20 rfl ?_; refine tjU 21 rfl ?_
 refine tjH 22 rfl ?_ (by intro w hSw; obtain ⟨⟨g0, g1, g2, g3, g4, g5, g6⟩, ⟨g7, g8, g9, g10⟩, g11⟩ := hSw; go_simp <;> with_reducible rfl)
 refine rdH 23 rfl (fun K hK => ?_); have gK := eh.2.2; clear eh; obtain ⟨_, a0, a1, a2, a3, hA⟩ := gK.out
 have c0 := Lib.cell_of_heap hA 0
 have c1 := Lib.cell_of_heap hA 1
 have c2 := Lib.cell_of_heap hA 2
 have c3 := Lib.cell_of_heap hA 3
 have f0 := fz hA 0
 have f1 := fz hA 1
 have f2 := fz hA 2
 have f3 := fz hA 3
 have HST := oh (gK.out.set (.func (.func fa) #[] #[]) (.func (.func fb) #[] #[]) (.func (.func fc) #[] #[]) (I6 fk))
 clear hA; go_simp; try go_wp2_with fail
 refine hK.out _ _ ⟨(CC.out _ HST.out.1).1, (CC.out _ HST.out.1).2, oh HST.out.1⟩ (fun eh => ?_)
 clear hK K gK; try simp only [Act.put, sm]
 refine rdH 24 rfl (fun K hK => ?_); clear eh; go_simp; try go_wp2_with fail
 refine hK.out _ _ ⟨(CC.out _ HST.out.1).1, (CC.out _ HST.out.1).2, oh HST.out.1⟩ (fun eh => ?_)
 clear hK K eh; refine wpAnyH_done (by kernel_rfl) ?_ _
 have hF := HST.out
 generalize ((((w12.setCell ⟨w.heap.size + 1, 0, none⟩ (.func (.func fa) #[] #[])).setCell ⟨w.heap.size + 1, 1, none⟩ (.func (.func fb) #[] #[])).setCell ⟨w.heap.size + 1, 2, none⟩ (.func (.func fc) #[] #[])).setCell ⟨w.heap.size + 1, 3, none⟩ (I6 fk)) = wf at hF ⊢
 clear HST c0 c1 c2 c3 f0 f1 f2 f3; obtain ⟨hF1, hF2⟩ := hF
 have q0 := Lib.cell_of_heap hF2 0
 have q1 := Lib.cell_of_heap hF2 1
 have q2 := Lib.cell_of_heap hF2 2
 have q3 := Lib.cell_of_heap hF2 3
 simp at q0 q1 q2 q3
 go_wp2_with fail
 try simp only [Exit.inBlock, Exit.then]
 refine bodyPost_ret (v := .tuple #[.agg #[.func (.func fa) #[] #[], .func (.func fb) #[] #[], .func (.func fc) #[] #[], I6 fk], .bool false]) (by simp [results, Tryz.results104, go_sem, q0, q1, q2, q3]) rfl ⟨rfl, HKX.out.row2 hF1.1 (by omega)⟩
theorem of_g_4 (ek fk ax ay bx bY cx cy : Int) (fa fb fc : Nat) (w : World) (hfam : ∀ V, Calls Tryz.prog 161 #[I6 ek] V fun E w' => E = .returned (.tuple #[.agg #[.func (.func fa) #[] #[], .func (.func fb) #[] #[], .func (.func fc) #[] #[], I6 fk], .bool true]) ∧ w' = V.alloc (.cells #[.func (.func fa) #[] #[], .func (.func fb) #[] #[], .func (.func fc) #[] #[], I6 fk] 201)) (hp0 : ∀ V, Calls Tryz.prog 162 #[.agg #[I6 ax, I6 ay]] V fun E w' => E = .returned (.bool true) ∧ Kp V w' none) (hp1 : ∀ V, Calls Tryz.prog 162 #[.agg #[I6 bx, I6 bY]] V fun E w' => E = .returned (.bool true) ∧ Kp V w' none) (hp2 : ∀ V, Calls Tryz.prog 162 #[.agg #[I6 cx, I6 cy]] V fun E w' => E = .returned (.bool true) ∧ Kp V w' none) (hcf : ∀ args V, (callFunc fa args).run Tryz.prog V = .ok (.enter fa args) V) (r : Bool) (hr : ∀ V, Calls Tryz.prog fa #[.agg #[I6 ek, I6 ax, I6 ay, I6 bx, I6 bY, I6 cx, I6 cy]] V fun E w' => E = .returned (.bool r) ∧ Kp V w' none) :
  Calls Tryz.prog 104 #[.agg #[I6 ek, I6 ax, I6 ay, I6 bx, I6 bY, I6 cx, I6 cy]] w fun E w' => E = .returned (.tuple #[.agg #[.func (.func fa) #[] #[], .func (.func fb) #[] #[], .func (.func fc) #[] #[], I6 fk], .bool r]) ∧ Kp w w' none := by
 have HP0 := oh hp0; clear hp0; have HP1 := oh hp1; clear hp1; have HP2 := oh hp2; clear hp2; have HCF := oh hcf; clear hcf; have HR := oh hr; clear hr
 have HB0 : Hid (((((w.alloc (.cells #[I6 ek, I6 ax, I6 ay, I6 bx, I6 bY, I6 cx, I6 cy] 123)).alloc (.cells #[.nilFunc, .nilFunc, .nilFunc, I6 0] 201)).alloc (.cells #[.func (.func fa) #[] #[], .func (.func fb) #[] #[], .func (.func fc) #[] #[], I6 fk] 201)).alloc (.cells #[.func (.func fa) #[] #[], .func (.func fb) #[] #[], .func (.func fc) #[] #[], I6 fk] 201)).heap[w.heap.size]? = some (.cells #[I6 ek, I6 ax, I6 ay, I6 bx, I6 bY, I6 cx, I6 cy] 123)) := oh (by
  have k1 : Kp (w.alloc (.cells #[I6 ek, I6 ax, I6 ay, I6 bx, I6 bY, I6 cx, I6 cy] 123)) ((((w.alloc (.cells #[I6 ek, I6 ax, I6 ay, I6 bx, I6 bY, I6 cx, I6 cy] 123)).alloc (.cells #[.nilFunc, .nilFunc, .nilFunc, I6 0] 201)).alloc (.cells #[.func (.func fa) #[] #[], .func (.func fb) #[] #[], .func (.func fc) #[] #[], I6 fk] 201)).alloc (.cells #[.func (.func fa) #[] #[], .func (.func fb) #[] #[], .func (.func fc) #[] #[], I6 fk] 201)) none := (((Kp.refl _ none).alloc _).alloc _).alloc _
  exact (k1.block _ (by simp) (by simp)).trans (heap_alloc_new w _))
 have HB1 : Hid (((((w.alloc (.cells #[I6 ek, I6 ax, I6 ay, I6 bx, I6 bY, I6 cx, I6 cy] 123)).alloc (.cells #[.nilFunc, .nilFunc, .nilFunc, I6 0] 201)).alloc (.cells #[.func (.func fa) #[] #[], .func (.func fb) #[] #[], .func (.func fc) #[] #[], I6 fk] 201)).alloc (.cells #[.func (.func fa) #[] #[], .func (.func fb) #[] #[], .func (.func fc) #[] #[], I6 fk] 201)).heap[w.heap.size + 1]? = some (.cells #[.nilFunc, .nilFunc, .nilFunc, I6 0] 201)) := oh (by
  have k1 : Kp ((w.alloc (.cells #[I6 ek, I6 ax, I6 ay, I6 bx, I6 bY, I6 cx, I6 cy] 123)).alloc (.cells #[.nilFunc, .nilFunc, .nilFunc, I6 0] 201)) ((((w.alloc (.cells #[I6 ek, I6 ax, I6 ay, I6 bx, I6 bY, I6 cx, I6 cy] 123)).alloc (.cells #[.nilFunc, .nilFunc, .nilFunc, I6 0] 201)).alloc (.cells #[.func (.func fa) #[] #[], .func (.func fb) #[] #[], .func (.func fc) #[] #[], I6 fk] 201)).alloc (.cells #[.func (.func fa) #[] #[], .func (.func fb) #[] #[], .func (.func fc) #[] #[], I6 fk] 201)) none := ((Kp.refl _ none).alloc _).alloc _
  exact (k1.block (w.heap.size + 1) (by simp) (by simp)).trans (by have := heap_alloc_new (w.alloc (.cells #[I6 ek, I6 ax, I6 ay, I6 bx, I6 bY, I6 cx, I6 cy] 123)) (.cells #[.nilFunc, .nilFunc, .nilFunc, I6 0] 201); simpa using this))
 have HB3 : Hid (((((w.alloc (.cells #[I6 ek, I6 ax, I6 ay, I6 bx, I6 bY, I6 cx, I6 cy] 123)).alloc (.cells #[.nilFunc, .nilFunc, .nilFunc, I6 0] 201)).alloc (.cells #[.func (.func fa) #[] #[], .func (.func fb) #[] #[], .func (.func fc) #[] #[], I6 fk] 201)).alloc (.cells #[.func (.func fa) #[] #[], .func (.func fb) #[] #[], .func (.func fc) #[] #[], I6 fk] 201)).heap[w.heap.size + 1 + 1 + 1]? = some (.cells #[.func (.func fa) #[] #[], .func (.func fb) #[] #[], .func (.func fc) #[] #[], I6 fk] 201)) := oh (by
  have := heap_alloc_new (((w.alloc (.cells #[I6 ek, I6 ax, I6 ay, I6 bx, I6 bY, I6 cx, I6 cy] 123)).alloc (.cells #[.nilFunc, .nilFunc, .nilFunc, I6 0] 201)).alloc (.cells #[.func (.func fa) #[] #[], .func (.func fb) #[] #[], .func (.func fc) #[] #[], I6 fk] 201)) (.cells #[.func (.func fa) #[] #[], .func (.func fb) #[] #[], .func (.func fc) #[] #[], I6 fk] 201)
  simpa using this)
 have HKX : Hid (Kp w ((((w.alloc (.cells #[I6 ek, I6 ax, I6 ay, I6 bx, I6 bY, I6 cx, I6 cy] 123)).alloc (.cells #[.nilFunc, .nilFunc, .nilFunc, I6 0] 201)).alloc (.cells #[.func (.func fa) #[] #[], .func (.func fb) #[] #[], .func (.func fc) #[] #[], I6 fk] 201)).alloc (.cells #[.func (.func fa) #[] #[], .func (.func fb) #[] #[], .func (.func fc) #[] #[], I6 fk] 201)) none) := oh ((((Kp.refl w none).alloc _).alloc _).alloc _ |>.alloc _)
 go_enter Tryz.func104, Tryz.ntmps104
 go_wp2_with fail
 refine (hfam _).mono ?_
 rintro e w1 ⟨rfl, rfl⟩; clear hfam; go_wp2_with fail
 generalize (((w.alloc (.cells #[I6 ek, I6 ax, I6 ay, I6 bx, I6 bY, I6 cx, I6 cy] 123)).alloc (.cells #[.nilFunc, .nilFunc, .nilFunc, I6 0] 201)).alloc (.cells #[.func (.func fa) #[] #[], .func (.func fb) #[] #[], .func (.func fc) #[] #[], I6 fk] 201)).alloc (.cells #[.func (.func fa) #[] #[], .func (.func fb) #[] #[], .func (.func fc) #[] #[], I6 fk] 201) = X at *
 have CC : Hid (∀ V, Own4 X V (w.heap.size + 1) → (V.cell? ⟨w.heap.size, 0, none⟩ = some (I6 ek) ∧ V.cell? ⟨w.heap.size, 1, none⟩ = some (I6 ax) ∧ V.cell? ⟨w.heap.size, 2, none⟩ = some (I6 ay) ∧ V.cell? ⟨w.heap.size, 3, none⟩ = some (I6 bx) ∧ V.cell? ⟨w.heap.size, 4, none⟩ = some (I6 bY) ∧ V.cell? ⟨w.heap.size, 5, none⟩ = some (I6 cx) ∧ V.cell? ⟨w.heap.size, 6, none⟩ = some (I6 cy)) ∧ (V.cell? ⟨w.heap.size + 1 + 1 + 1, 0, none⟩ = some (.func (.func fa) #[] #[]) ∧ V.cell? ⟨w.heap.size + 1 + 1 + 1, 1, none⟩ = some (.func (.func fb) #[] #[]) ∧ V.cell? ⟨w.heap.size + 1 + 1 + 1, 2, none⟩ = some (.func (.func fc) #[] #[]) ∧ V.cell? ⟨w.heap.size + 1 + 1 + 1, 3, none⟩ = some (I6 fk))) := oh fun V ⟨kV, _⟩ =>
  ⟨⟨ck HB0.out kV 0 rfl, ck HB0.out kV 1 rfl, ck HB0.out kV 2 rfl, ck HB0.out kV 3 rfl, ck HB0.out kV 4 rfl, ck HB0.out kV 5 rfl, ck HB0.out kV 6 rfl⟩, ⟨ck HB3.out kV 0 rfl, ck HB3.out kV 1 rfl, ck HB3.out kV 2 rfl, ck HB3.out kV 3 rfl⟩⟩
 refine wp_region_held_drew (S := fun V => (V.cell? ⟨w.heap.size, 0, none⟩ = some (I6 ek) ∧ V.cell? ⟨w.heap.size, 1, none⟩ = some (I6 ax) ∧ V.cell? ⟨w.heap.size, 2, none⟩ = some (I6 ay) ∧ V.cell? ⟨w.heap.size, 3, none⟩ = some (I6 bx) ∧ V.cell? ⟨w.heap.size, 4, none⟩ = some (I6 bY) ∧ V.cell? ⟨w.heap.size, 5, none⟩ = some (I6 cx) ∧ V.cell? ⟨w.heap.size, 6, none⟩ = some (I6 cy)) ∧ (V.cell? ⟨w.heap.size + 1 + 1 + 1, 0, none⟩ = some (.func (.func fa) #[] #[]) ∧ V.cell? ⟨w.heap.size + 1 + 1 + 1, 1, none⟩ = some (.func (.func fb) #[] #[]) ∧ V.cell? ⟨w.heap.size + 1 + 1 + 1, 2, none⟩ = some (.func (.func fc) #[] #[]) ∧ V.cell? ⟨w.heap.size + 1 + 1 + 1, 3, none⟩ = some (I6 fk)) ∧ Hid (Own4 X V (w.heap.size + 1))) (by kernel_rfl) ?_ (fun eh => ?_)
 ·have kk : Own4 X X.drew (w.heap.size + 1) := ⟨(Kp.refl X (some (w.heap.size + 1))).drew, _, _, _, _, HB1.out⟩; exact ⟨(CC.out _ kk).1, (CC.out _ kk).2, oh kk⟩
 refine tjH 0 rfl ?_ (by intro w hSw; obtain ⟨⟨g0, g1, g2, g3, g4, g5, g6⟩, ⟨g7, g8, g9, g10⟩, g11⟩ := hSw; go_simp <;> with_reducible rfl)
 refine tjH 1 rfl ?_ (by intro w hSw; obtain ⟨⟨g0, g1, g2, g3, g4, g5, g6⟩, ⟨g7, g8, g9, g10⟩, g11⟩ := hSw; go_simp <;> with_reducible rfl)
 refine tjH 2 rfl ?_ (by intro w hSw; obtain ⟨⟨g0, g1, g2, g3, g4, g5, g6⟩, ⟨g7, g8, g9, g10⟩, g11⟩ := hSw; go_simp <;> with_reducible rfl)
 refine tjH 3 rfl ?_ (by intro w hSw; obtain ⟨⟨g0, g1, g2, g3, g4, g5, g6⟩, ⟨g7, g8, g9, g10⟩, g11⟩ := hSw; go_simp <;> with_reducible rfl)
 refine tjH 4 rfl ?_ (by intro w hSw; obtain ⟨⟨g0, g1, g2, g3, g4, g5, g6⟩, ⟨g7, g8, g9, g10⟩, g11⟩ := hSw; go_simp <;> with_reducible rfl)
 refine rdH 5 rfl (fun K hK => ?_); have gK := eh.2.2; clear eh; go_simp
 refine (HP0.out _).mono ?_
 rintro e w10 ⟨rfl, kk⟩; have kk2 := gK.out.kp kk
 try go_wp2_with fail
 refine hK.out _ _ ⟨(CC.out _ kk2).1, (CC.out _ kk2).2, oh kk2⟩ (fun eh => ?_)
 clear hK K gK kk kk2; try simp only [Act.put, sm]
 refine tjH 6 rfl ?_ (by intro w hSw; obtain ⟨⟨g0, g1, g2, g3, g4, g5, g6⟩, ⟨g7, g8, g9, g10⟩, g11⟩ := hSw; go_simp <;> with_reducible rfl)
 refine tjH 7 rfl ?_ (by intro w hSw; obtain ⟨⟨g0, g1, g2, g3, g4, g5, g6⟩, ⟨g7, g8, g9, g10⟩, g11⟩ := hSw; go_simp <;> with_reducible rfl)
 refine tjH 8 rfl ?_ (by intro w hSw; obtain ⟨⟨g0, g1, g2, g3, g4, g5, g6⟩, ⟨g7, g8, g9, g10⟩, g11⟩ := hSw; go_simp <;> with_reducible rfl)
 refine tjH 9 rfl ?_ (by intro w hSw; obtain ⟨⟨g0, g1, g2, g3, g4, g5, g6⟩, ⟨g7, g8, g9, g10⟩, g11⟩ := hSw; go_simp <;> with_reducible rfl)
 refine rdH 10 rfl (fun K hK => ?_); have gK := eh.2.2; clear eh; go_simp
 refine (HP1.out _).mono ?_
 rintro e w11 ⟨rfl, kk⟩; have kk2 := gK.out.kp kk
 try go_wp2_with fail
 refine hK.out _ _ ⟨(CC.out _ kk2).1, (CC.out _ kk2).2, oh kk2⟩ (fun eh => ?_)
 clear hK K gK kk kk2; try simp only [Act.put, sm]
 refine tjH 11 rfl ?_ (by intro w hSw; obtain ⟨⟨g0, g1, g2, g3, g4, g5, g6⟩, ⟨g7, g8, g9, g10⟩, g11⟩ := hSw; go_simp <;> with_reducible rfl)
 refine tjH 12 rfl ?_ (by intro w hSw; obtain ⟨⟨g0, g1, g2, g3, g4, g5, g6⟩, ⟨g7, g8, g9, g10⟩, g11⟩ := hSw; go_simp <;> with_reducible rfl)
 refine tjH 13 rfl ?_ (by intro w hSw; obtain ⟨⟨g0, g1, g2, g3, g4, g5, g6⟩, ⟨g7, g8, g9, g10⟩, g11⟩ := hSw; go_simp <;> with_reducible rfl)
 refine tjH 14 rfl ?_ (by intro w hSw; obtain ⟨⟨g0, g1, g2, g3, g4, g5, g6⟩, ⟨g7, g8, g9, g10⟩, g11⟩ := hSw; go_simp <;> with_reducible rfl)
 refine rdH 15 rfl (fun K hK => ?_); have gK := eh.2.2; clear eh; go_simp
 refine (HP2.out _).mono ?_
 rintro e w12 ⟨rfl, kk⟩; have kk2 := gK.out.kp kk
 try go_wp2_with fail
 refine hK.out _ _ ⟨(CC.out _ kk2).1, (CC.out _ kk2).2, oh kk2⟩ (fun eh => ?_)
 clear hK K gK kk kk2; try simp only [Act.put, sm]
 refine tjH 16 rfl ?_ (by intro w hSw; obtain ⟨⟨g0, g1, g2, g3, g4, g5, g6⟩, ⟨g7, g8, g9, g10⟩, g11⟩ := hSw; go_simp <;> with_reducible rfl)
 refine tjH 17 rfl ?_ (by intro w hSw; obtain ⟨⟨g0, g1, g2, g3, g4, g5, g6⟩, ⟨g7, g8, g9, g10⟩, g11⟩ := hSw; go_simp <;> with_reducible rfl)
 refine tjH 18 rfl ?_ (by intro w hSw; obtain ⟨⟨g0, g1, g2, g3, g4, g5, g6⟩, ⟨g7, g8, g9, g10⟩, g11⟩ := hSw; go_simp <;> with_reducible rfl)
 refine tjH 19 rfl ?_ (by intro w hSw; obtain ⟨⟨g0, g1, g2, g3, g4, g5, g6⟩, ⟨g7, g8, g9, g10⟩, g11⟩ := hSw; go_simp <;> with_reducible rfl)
 refine tjH 20 rfl ?_ (by intro w hSw; obtain ⟨⟨g0, g1, g2, g3, g4, g5, g6⟩, ⟨g7, g8, g9, g10⟩, g11⟩ := hSw; go_simp <;> with_reducible rfl)
 refine rdH 21 rfl (fun K hK => ?_); have gK := eh.2.2; clear eh; go_simp; rw [HCF.out, Oper.upon_enter]
 refine (HR.out _).mono ?_
 rintro e w20 ⟨rfl, kk⟩; have kk2 := gK.out.kp kk
 try go_wp2_with fail
 refine hK.out _ _ ⟨(CC.out _ kk2).1, (CC.out _ kk2).2, oh kk2⟩ (fun eh => ?_)
 clear hK K gK kk kk2; try simp only [Act.put, sm]
 refine tjH 22 rfl ?_ (by intro w hSw; obtain ⟨⟨g0, g1, g2, g3, g4, g5, g6⟩, ⟨g7, g8, g9, g10⟩, g11⟩ := hSw; go_simp <;> with_reducible rfl)
 refine rdH 23 rfl (fun K hK => ?_); have gK := eh.2.2; clear eh; obtain ⟨_, a0, a1, a2, a3, hA⟩ := gK.out
 have c0 := Lib.cell_of_heap hA 0
 have c1 := Lib.cell_of_heap hA 1
 have c2 := Lib.cell_of_heap hA 2
 have c3 := Lib.cell_of_heap hA 3
 have f0 := fz hA 0
 have f1 := fz hA 1
 have f2 := fz hA 2
 have f3 := fz hA 3
 have HST := oh (gK.out.set (.func (.func fa) #[] #[]) (.func (.func fb) #[] #[]) (.func (.func fc) #[] #[]) (I6 fk))
 clear hA; go_simp; try go_wp2_with fail
 refine hK.out _ _ ⟨(CC.out _ HST.out.1).1, (CC.out _ HST.out.1).2, oh HST.out.1⟩ (fun eh => ?_)
 clear hK K gK; try simp only [Act.put, sm]
 refine rdH 24 rfl (fun K hK => ?_); clear eh; go_simp; try go_wp2_with fail
 refine hK.out _ _ ⟨(CC.out _ HST.out.1).1, (CC.out _ HST.out.1).2, oh HST.out.1⟩ (fun eh => ?_)
 clear hK K eh; refine wpAnyH_done (by kernel_rfl) ?_ _
 have hF := HST.out
 generalize ((((w20.setCell ⟨w.heap.size + 1, 0, none⟩ (.func (.func fa) #[] #[])).setCell ⟨w.heap.size + 1, 1, none⟩ (.func (.func fb) #[] #[])).setCell ⟨w.heap.size + 1, 2, none⟩ (.func (.func fc) #[] #[])).setCell ⟨w.heap.size + 1, 3, none⟩ (I6 fk)) = wf at hF ⊢
 clear HST c0 c1 c2 c3 f0 f1 f2 f3; obtain ⟨hF1, hF2⟩ := hF
 have q0 := Lib.cell_of_heap hF2 0
 have q1 := Lib.cell_of_heap hF2 1
 have q2 := Lib.cell_of_heap hF2 2
 have q3 := Lib.cell_of_heap hF2 3
 simp at q0 q1 q2 q3
 go_wp2_with fail
 try simp only [Exit.inBlock, Exit.then]
 refine bodyPost_ret (v := .tuple #[.agg #[.func (.func fa) #[] #[], .func (.func fb) #[] #[], .func (.func fc) #[] #[], I6 fk], .bool r]) (by simp [results, Tryz.results104, go_sem, q0, q1, q2, q3]) rfl ⟨rfl, HKX.out.row2 hF1.1 (by omega)⟩
end Go.Proofs.YtljjbdbgedmadaaGreatDoor
