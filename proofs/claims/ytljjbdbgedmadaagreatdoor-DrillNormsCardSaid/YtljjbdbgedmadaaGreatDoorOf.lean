/- The program's families of edges, and whether an edge is valid. Condition: none (the test of an arc: coordinates within the bounds). -/
import Derived.Test.YtljjbdbgedmadaaGreatDoorEn
import Derived.Test.YtljjbdbgedmadaaGreatDoorQu
import Derived.Laws.EntriesVeiled
namespace Go.Proofs.YtljjbdbgedmadaaGreatDoor
open Go.RowKit

theorem subc {ax ay bx bY : Int} (h1 : Mid ax) (h2 : Mid ay) (h3 : Mid bx) (h4 : Mid bY) : ∀ V, Calls Tryz.prog 59 #[.agg #[.int .i64 ax, .int .i64 ay], .agg #[.int .i64 bx, .int .i64 bY]] V fun E w' => E = .returned (.agg #[.int .i64 (ax - bx), .int .i64 (ay - bY)]) ∧ Kp V w' none := fun V => vsub_any ax ay bx bY V h1 h2 h3 h4
theorem quarter_any (ek ax ay bx bY cx cy turn : Int) (w : World) (ht : (turn = 1 ∧ ek = 2) ∨ (turn = 3 ∧ ek = 3)) (ha : Pl.Pt.ok ⟨ax, ay⟩) (hb : Pl.Pt.ok ⟨bx, bY⟩) (hc : Pl.Pt.ok ⟨cx, cy⟩) :
    Calls Tryz.prog 223 #[.agg #[.int .i64 ek, .int .i64 ax, .int .i64 ay, .int .i64 bx, .int .i64 bY, .int .i64 cx, .int .i64 cy], .int .i64 turn] w fun E w' => E = .returned (.bool (decide (Pl.Arc ⟨ek, ⟨ax, ay⟩, ⟨bx, bY⟩, ⟨cx, cy⟩⟩))) ∧ Kp w w' none := by
  obtain ⟨ha1, ha2⟩ := ha
  obtain ⟨hb1, hb2⟩ := hb
  obtain ⟨hc1, hc2⟩ := hc
  dsimp only at ha1 ha2 hb1 hb2 hc1 hc2
  have hs := subc (In.mid ha1) (In.mid ha2) (In.mid hc1) (In.mid hc2)
  have hs2 := subc (In.mid hb1) (In.mid hb2) (In.mid hc1) (In.mid hc2)
  have md1 := sub_mid ha1 hc1
  have md2 := sub_mid ha2 hc2
  have m0 : Mid 0 := by unfold Mid; omega
  have hr : ∃ rx ry, (∀ V, Calls Tryz.prog 60 #[.agg #[.int .i64 0, .int .i64 0, .int .i64 turn, .bool false], .agg #[.int .i64 (ax - cx), .int .i64 (ay - cy)]] V fun E w' => E = .returned (.agg #[.int .i64 rx, .int .i64 ry]) ∧ Kp V w' none) ∧ Pl.quarter ek ⟨ax - cx, ay - cy⟩ = ⟨rx, ry⟩ := by
    rcases ht with ⟨rfl, rfl⟩ | ⟨rfl, rfl⟩
    · exact ⟨_, _, fun V => apply_1false 0 0 1 _ _ V md1 md2 m0 m0 (by decide), by unfold Pl.quarter; rw [if_pos rfl]; simp⟩
    · exact ⟨_, _, fun V => apply_3false 0 0 3 _ _ V md1 md2 m0 m0 (by decide), by unfold Pl.quarter; rw [if_neg (by decide)]; simp⟩
  obtain ⟨rx, ry, hap, hq⟩ := hr
  have key : decide (Pl.Arc ⟨ek, ⟨ax, ay⟩, ⟨bx, bY⟩, ⟨cx, cy⟩⟩) = (decide (¬ (ax - cx = 0 ↔ ay - cy = 0)) && (decide (bx - cx = rx) && decide (bY - cy = ry))) := by
    rw [Bool.eq_iff_iff]
    simp only [Bool.and_eq_true, decide_eq_true_eq]
    unfold Pl.Arc Pl.sub
    dsimp only
    rw [hq]
    simp only [Pl.Pt.mk.injEq]
  rw [key]
  by_cases h1 : ax - cx = 0
  · by_cases h2 : ay - cy = 0
    · rw [show decide (¬ (ax - cx = 0 ↔ ay - cy = 0)) = false by simp [h1, h2], Bool.false_and]
      exact quarter_noa ek ax ay bx bY cx cy turn _ _ _ _ rx ry w hs hs2 hap (by simpa using h1) (by simpa using h2)
    · rw [show decide (¬ (ax - cx = 0 ↔ ay - cy = 0)) = true by simp [h1, h2], Bool.true_and]
      by_cases h3 : bx - cx = rx
      · by_cases h4 : bY - cy = ry
        · rw [decide_eq_true h3, decide_eq_true h4]
          exact quarter_oka ek ax ay bx bY cx cy turn _ _ _ _ rx ry w hs hs2 hap (by simpa using h1) (by simpa using h2) (by simpa using h3) (by simpa using h4)
        · rw [decide_eq_false h4, Bool.and_false]
          exact quarter_no2a ek ax ay bx bY cx cy turn _ _ _ _ rx ry w hs hs2 hap (by simpa using h1) (by simpa using h2) (by simpa using h3) (by simpa using h4)
      · rw [decide_eq_false h3, Bool.false_and]
        exact quarter_no1a ek ax ay bx bY cx cy turn _ _ _ _ rx ry w hs hs2 hap (by simpa using h1) (by simpa using h2) (by simpa using h3)
  · by_cases h2 : ay - cy = 0
    · rw [show decide (¬ (ax - cx = 0 ↔ ay - cy = 0)) = true by simp [h1, h2], Bool.true_and]
      by_cases h3 : bx - cx = rx
      · by_cases h4 : bY - cy = ry
        · rw [decide_eq_true h3, decide_eq_true h4]
          exact quarter_okb ek ax ay bx bY cx cy turn _ _ _ _ rx ry w hs hs2 hap (by simpa using h1) (by simpa using h2) (by simpa using h3) (by simpa using h4)
        · rw [decide_eq_false h4, Bool.and_false]
          exact quarter_no2b ek ax ay bx bY cx cy turn _ _ _ _ rx ry w hs hs2 hap (by simpa using h1) (by simpa using h2) (by simpa using h3) (by simpa using h4)
      · rw [decide_eq_false h3, Bool.false_and]
        exact quarter_no1b ek ax ay bx bY cx cy turn _ _ _ _ rx ry w hs hs2 hap (by simpa using h1) (by simpa using h2) (by simpa using h3)
    · rw [show decide (¬ (ax - cx = 0 ↔ ay - cy = 0)) = false by simp [h1, h2], Bool.false_and]
      exact quarter_nob ek ax ay bx bY cx cy turn _ _ _ _ rx ry w hs hs2 hap (by simpa using h1) (by simpa using h2)

set_option maxHeartbeats 2000000 in
set_option maxRecDepth 100000 in
theorem lone_any (ek ax ay bx bY cx cy : Int) (w : World) :
    Calls Tryz.prog 191 #[.agg #[.int .i64 ek, .int .i64 ax, .int .i64 ay, .int .i64 bx, .int .i64 bY, .int .i64 cx, .int .i64 cy]] w fun E w' => E = .returned (.bool (decide ((⟨cx, cy⟩ : Pl.Pt) = ⟨0, 0⟩))) ∧ Kp w w' none := by
  by_cases h1 : cx = 0
  · by_cases h2 : cy = 0
    · rw [show decide ((⟨cx, cy⟩ : Pl.Pt) = ⟨0, 0⟩) = true by simp [h1, h2]]
      have q1 : (cx == 0) = true := by simpa using h1
      have q2 : (cy == 0) = true := by simpa using h2
      clear h1 h2
      go_enter Tryz.func191, Tryz.ntmps191
      go_wp2
      go_ret
      exact ⟨rfl, (Kp.refl w none).alloc _⟩
    · rw [show decide ((⟨cx, cy⟩ : Pl.Pt) = ⟨0, 0⟩) = false by simp [h2]]
      have q1 : (cx == 0) = true := by simpa using h1
      have q2 : (cy == 0) = false := by simpa using h2
      clear h1 h2
      go_enter Tryz.func191, Tryz.ntmps191
      go_wp2
      go_ret
      exact ⟨rfl, (Kp.refl w none).alloc _⟩
  · rw [show decide ((⟨cx, cy⟩ : Pl.Pt) = ⟨0, 0⟩) = false by simp [h1]]
    have q1 : (cx == 0) = false := by simpa using h1
    clear h1
    go_enter Tryz.func191, Tryz.ntmps191
    go_wp2
    go_ret
    exact ⟨rfl, (Kp.refl w none).alloc _⟩

set_option maxHeartbeats 2000000 in
set_option maxRecDepth 100000 in
theorem left_any (ax ay bx bY cx cy : Int) (w : World) (ha : Pl.Pt.ok ⟨ax, ay⟩) (hb : Pl.Pt.ok ⟨bx, bY⟩) (hc : Pl.Pt.ok ⟨cx, cy⟩) :
    Calls Tryz.prog 194 #[.agg #[.int .i64 2, .int .i64 ax, .int .i64 ay, .int .i64 bx, .int .i64 bY, .int .i64 cx, .int .i64 cy]] w fun E w' => E = .returned (.bool (decide (Pl.Arc ⟨2, ⟨ax, ay⟩, ⟨bx, bY⟩, ⟨cx, cy⟩⟩))) ∧ Kp w w' none := by
  have HQ := Lib.hid (fun V => quarter_any 2 ax ay bx bY cx cy 1 V (by omega) ha hb hc)
  clear ha hb hc
  obtain ⟨r, hr⟩ : ∃ r, decide (Pl.Arc ⟨2, ⟨ax, ay⟩, ⟨bx, bY⟩, ⟨cx, cy⟩⟩) = r := ⟨_, rfl⟩
  rw [hr] at HQ ⊢
  clear hr
  go_enter Tryz.func194, Tryz.ntmps194
  go_wp2_with fail
  refine (HQ.out _).mono ?_
  rintro e w1 ⟨rfl, k1⟩
  have K1 := Lib.hid (((Kp.refl w none).alloc _).trans k1)
  clear k1
  go_wp2_with fail
  go_ret
  exact ⟨rfl, K1.out⟩

set_option maxHeartbeats 2000000 in
set_option maxRecDepth 100000 in
theorem rightw_any (ax ay bx bY cx cy : Int) (w : World) (ha : Pl.Pt.ok ⟨ax, ay⟩) (hb : Pl.Pt.ok ⟨bx, bY⟩) (hc : Pl.Pt.ok ⟨cx, cy⟩) :
    Calls Tryz.prog 197 #[.agg #[.int .i64 3, .int .i64 ax, .int .i64 ay, .int .i64 bx, .int .i64 bY, .int .i64 cx, .int .i64 cy]] w fun E w' => E = .returned (.bool (decide (Pl.Arc ⟨3, ⟨ax, ay⟩, ⟨bx, bY⟩, ⟨cx, cy⟩⟩))) ∧ Kp w w' none := by
  have HQ := Lib.hid (fun V => quarter_any 3 ax ay bx bY cx cy 3 V (by omega) ha hb hc)
  clear ha hb hc
  obtain ⟨r, hr⟩ : ∃ r, decide (Pl.Arc ⟨3, ⟨ax, ay⟩, ⟨bx, bY⟩, ⟨cx, cy⟩⟩) = r := ⟨_, rfl⟩
  rw [hr] at HQ ⊢
  clear hr
  go_enter Tryz.func197, Tryz.ntmps197
  go_wp2_with fail
  refine (HQ.out _).mono ?_
  rintro e w1 ⟨rfl, k1⟩
  have K1 := Lib.hid (((Kp.refl w none).alloc _).trans k1)
  clear k1
  go_wp2_with fail
  go_ret
  exact ⟨rfl, K1.out⟩

/-- The family of a kind. -/
def famV (k : Int) : Array Value := if k = 1 then #[.func (.func 191) #[] #[], .func (.func 192) #[] #[], .func (.func 193) #[] #[], .int .i64 1] else if k = 2 then #[.func (.func 194) #[] #[], .func (.func 195) #[] #[], .func (.func 196) #[] #[], .int .i64 3] else if k = 3 then #[.func (.func 197) #[] #[], .func (.func 195) #[] #[], .func (.func 196) #[] #[], .int .i64 2] else #[.nilFunc, .nilFunc, .nilFunc, .int .i64 k]
set_option maxHeartbeats 2000000 in
set_option maxRecDepth 100000 in
theorem families_any (k : Int) (w : World) :
    Calls Tryz.prog 161 #[.int .i64 k] w fun E w' => E = .returned (.tuple #[.agg (famV k), .bool (decide (1 ≤ k ∧ k ≤ 3))]) ∧ w' = w.alloc (.cells (famV k) 201) := by
  by_cases h1 : k = 1
  · subst h1
    go_enter Tryz.func161, Tryz.ntmps161
    go_wp2
    go_returns
    exact ⟨rfl, rfl⟩
  · by_cases h2 : k = 2
    · subst h2
      go_enter Tryz.func161, Tryz.ntmps161
      go_wp2
      go_returns
      exact ⟨rfl, rfl⟩
    · by_cases h3 : k = 3
      · subst h3
        go_enter Tryz.func161, Tryz.ntmps161
        go_wp2
        go_returns
        exact ⟨rfl, rfl⟩
      · have hf : famV k = #[.nilFunc, .nilFunc, .nilFunc, .int .i64 k] := by unfold famV; rw [if_neg h1, if_neg h2, if_neg h3]
        have hd : decide (1 ≤ k ∧ k ≤ 3) = false := by simp; omega
        have q1 : (k == 1) = false := by simpa using h1
        have q2 : (k == 2) = false := by simpa using h2
        have q3 : (k == 3) = false := by simpa using h3
        rw [hf, hd]
        clear h1 h2 h3 hf hd
        go_enter Tryz.func161, Tryz.ntmps161
        go_wp2
        go_returns
        exact ⟨rfl, rfl⟩

end Go.Proofs.YtljjbdbgedmadaaGreatDoor
