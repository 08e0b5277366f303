/- Points: sums, differences, turns, as both sides reckon them. Condition: coordinates whose sums fit into 62 bits.
   Numbers and points as both sides write them. Condition: coordinates within 2^61.
   Bounds of right edges, for their walks. No condition. One edge of a list in memory. No condition.
   Motions of points, on the program's side. Condition: coordinates within 2^61.
   Numbers drawn from a list, one after the other: each within its bound. Condition: bounds of at most 10^6; no other. -/
import Derived.Test.YtljjbdbgedmadaaGreatDoorBase
import Derived.Handy
import Derived.Test.YtljjbdbgedmadaaGreatDoorShelf
import Derived.Lib.FrozenHead2
import Derived.Lib.AppendIntMem
set_option maxRecDepth 100000
set_option maxHeartbeats 2000000
namespace Go.Proofs.YtljjbdbgedmadaaGreatDoor
open Go.RowKit
def Mid (n : Int) : Prop := -2305843009213693952 ≤ n ∧ n ≤ 2305843009213693952
theorem wrap_mid {n : Int} (h1 : -4611686018427387904 ≤ n) (h2 : n ≤ 4611686018427387904) : wrap64 n = n := by unfold wrap64; omega
theorem radd_x (ax ay bx bY : Int) (w : World) (h1 : Mid ax) (h2 : Mid ay) (h3 : Mid bx) (h4 : Mid bY) :
  Calls Tryz.prog 135 #[.agg #[I6 ax, I6 ay], .agg #[I6 bx, I6 bY]] w fun E w' => E = .returned (.agg #[I6 (ax + bx), I6 (ay + bY)]) ∧ w' = ((w.alloc (.cells #[I6 ax, I6 ay] 42)).alloc (.cells #[I6 bx, I6 bY] 42)).alloc (.cells #[I6 (ax + bx), I6 (ay + bY)] 42) := by
 unfold Mid at h1 h2 h3 h4
 have e1 : wrap64 (ax + bx) = ax + bx := wrap_mid (by omega) (by omega)
 have e2 : wrap64 (ay + bY) = ay + bY := wrap_mid (by omega) (by omega)
 clear h1 h2 h3 h4; go_enter Tryz.func135, Tryz.ntmps135
 go_wp2
 go_returns
 exact ⟨rfl, rfl⟩
theorem radd_any (ax ay bx bY : Int) (w : World) (h1 : Mid ax) (h2 : Mid ay) (h3 : Mid bx) (h4 : Mid bY) :
  Calls Tryz.prog 135 #[.agg #[I6 ax, I6 ay], .agg #[I6 bx, I6 bY]] w fun E w' => E = .returned (.agg #[I6 (ax + bx), I6 (ay + bY)]) ∧ Kp w w' none := by
 refine (radd_x ax ay bx bY w h1 h2 h3 h4).mono ?_
 rintro e w' ⟨rfl, rfl⟩; exact ⟨rfl, ((((Kp.refl w none).alloc _).alloc _).alloc _)⟩
theorem vadd_x (ax ay bx bY : Int) (w : World) (h1 : Mid ax) (h2 : Mid ay) (h3 : Mid bx) (h4 : Mid bY) :
  Calls Tryz.prog 105 #[.agg #[I6 ax, I6 ay], .agg #[I6 bx, I6 bY]] w fun E w' => E = .returned (.agg #[I6 (ax + bx), I6 (ay + bY)]) ∧ w' = ((w.alloc (.cells #[I6 ax, I6 ay] 42)).alloc (.cells #[I6 bx, I6 bY] 42)).alloc (.cells #[I6 (ax + bx), I6 (ay + bY)] 42) := by
 unfold Mid at h1 h2 h3 h4
 have e1 : wrap64 (ax + bx) = ax + bx := wrap_mid (by omega) (by omega)
 have e2 : wrap64 (ay + bY) = ay + bY := wrap_mid (by omega) (by omega)
 clear h1 h2 h3 h4; go_enter Tryz.func105, Tryz.ntmps105
 go_wp2
 go_returns
 exact ⟨rfl, rfl⟩
theorem rsub_x (ax ay bx bY : Int) (w : World) (h1 : Mid ax) (h2 : Mid ay) (h3 : Mid bx) (h4 : Mid bY) :
  Calls Tryz.prog 134 #[.agg #[I6 ax, I6 ay], .agg #[I6 bx, I6 bY]] w fun E w' => E = .returned (.agg #[I6 (ax - bx), I6 (ay - bY)]) ∧ w' = ((w.alloc (.cells #[I6 ax, I6 ay] 42)).alloc (.cells #[I6 bx, I6 bY] 42)).alloc (.cells #[I6 (ax - bx), I6 (ay - bY)] 42) := by
 unfold Mid at h1 h2 h3 h4
 have e1 : wrap64 (ax - bx) = ax - bx := wrap_mid (by omega) (by omega)
 have e2 : wrap64 (ay - bY) = ay - bY := wrap_mid (by omega) (by omega)
 clear h1 h2 h3 h4; go_enter Tryz.func134, Tryz.ntmps134
 go_wp2
 go_returns
 exact ⟨rfl, rfl⟩
theorem rsub_any (ax ay bx bY : Int) (w : World) (h1 : Mid ax) (h2 : Mid ay) (h3 : Mid bx) (h4 : Mid bY) :
  Calls Tryz.prog 134 #[.agg #[I6 ax, I6 ay], .agg #[I6 bx, I6 bY]] w fun E w' => E = .returned (.agg #[I6 (ax - bx), I6 (ay - bY)]) ∧ Kp w w' none := by
 refine (rsub_x ax ay bx bY w h1 h2 h3 h4).mono ?_
 rintro e w' ⟨rfl, rfl⟩; exact ⟨rfl, ((((Kp.refl w none).alloc _).alloc _).alloc _)⟩
theorem vsub_x (ax ay bx bY : Int) (w : World) (h1 : Mid ax) (h2 : Mid ay) (h3 : Mid bx) (h4 : Mid bY) :
  Calls Tryz.prog 59 #[.agg #[I6 ax, I6 ay], .agg #[I6 bx, I6 bY]] w fun E w' => E = .returned (.agg #[I6 (ax - bx), I6 (ay - bY)]) ∧ w' = ((w.alloc (.cells #[I6 ax, I6 ay] 42)).alloc (.cells #[I6 bx, I6 bY] 42)).alloc (.cells #[I6 (ax - bx), I6 (ay - bY)] 42) := by
 unfold Mid at h1 h2 h3 h4
 have e1 : wrap64 (ax - bx) = ax - bx := wrap_mid (by omega) (by omega)
 have e2 : wrap64 (ay - bY) = ay - bY := wrap_mid (by omega) (by omega)
 clear h1 h2 h3 h4; go_enter Tryz.func59, Tryz.ntmps59
 go_wp2
 go_returns
 exact ⟨rfl, rfl⟩
theorem vsub_any (ax ay bx bY : Int) (w : World) (h1 : Mid ax) (h2 : Mid ay) (h3 : Mid bx) (h4 : Mid bY) :
  Calls Tryz.prog 59 #[.agg #[I6 ax, I6 ay], .agg #[I6 bx, I6 bY]] w fun E w' => E = .returned (.agg #[I6 (ax - bx), I6 (ay - bY)]) ∧ Kp w w' none := by
 refine (vsub_x ax ay bx bY w h1 h2 h3 h4).mono ?_
 rintro e w' ⟨rfl, rfl⟩; exact ⟨rfl, ((((Kp.refl w none).alloc _).alloc _).alloc _)⟩
theorem and_three (t : Int) : bits BinOp.and IntKind.i64 t 3 = t % 4 := by
 show IntKind.i64.wrap (((BitVec.ofInt 64 t &&& BitVec.ofInt 64 3).toNat : Nat) : Int) = _
 rw [BitVec.toNat_and]; have h3 : (BitVec.ofInt 64 3).toNat = 2 ^ 2 - 1 := rfl
 rw [h3, Nat.and_two_pow_sub_one_eq_mod, IntKind.wrap_i64]
 have h1 : ((BitVec.ofInt 64 t).toNat : Int) = t % 18446744073709551616 := by
  rw [BitVec.toNat_ofInt]; have : (0 : Int) ≤ t % ((2 : Nat) ^ 64 : Nat) := Int.emod_nonneg _ (by decide)
  rw [Int.toNat_of_nonneg this]; rfl
 omega
theorem tmod4 (t : Int) : (wrap64 (t.tmod 4 + 4)).tmod 4 = t % 4 := by
 have h : t.tmod 4 = t % 4 ∨ (t.tmod 4 = t % 4 - 4) := by
  rcases Int.lt_or_le t 0 with h | h
  ·have e : t.tmod 4 = -((-t) % 4) := by rw [← Int.tmod_eq_emod_of_nonneg (by omega), Int.neg_tmod, Int.neg_neg]
   omega
  ·exact .inl (Int.tmod_eq_emod_of_nonneg h)
 have hw : wrap64 (t.tmod 4 + 4) = t.tmod 4 + 4 := by unfold wrap64; omega
 rw [hw, Int.tmod_eq_emod_of_nonneg (by omega)]; omega
theorem ret_int {a b : Int} (h : a = b) : Ending.returned (I6 a) = .returned (I6 b) := by rw [h]
theorem ret_ok {b : Bool} {P : Prop} [Decidable P] (h : b = true ↔ P) : Ending.returned (.bool b) = .returned (.bool (decide P)) := by
 rw [show b = decide P from Bool.eq_iff_iff.2 (by rw [decide_eq_true_iff]; exact h)]
theorem vright_any (x y : Int) (w : World) :
  Calls Tryz.prog 162 #[.agg #[I6 x, I6 y]] w fun E w' => E = .returned (.bool (decide (Pl.Pt.ok ⟨x, y⟩))) ∧ Kp w w' none := by
 go_enter Tryz.func162, Tryz.ntmps162
 go_wp2
 all_goals go_ret
 all_goals exact ⟨ret_ok (by simp only [decide_eq_true_eq, Bool.false_eq_true, false_iff]; unfold Pl.Pt.ok Pl.In; dsimp only; omega), (Kp.refl w none).alloc _⟩
theorem turns_any (ax ay t : Int) (m : Bool) (w : World) :
  Calls Tryz.prog 58 #[.agg #[I6 ax, I6 ay, I6 t, .bool m]] w fun E w' => E = .returned (I6 (t % 4)) ∧ w' = w.alloc (.cells #[I6 ax, I6 ay, I6 t, .bool m] 44) := by
 go_enter Tryz.func58, Tryz.ntmps58
 go_wp2
 go_ret
 exact ⟨ret_int (and_three t), rfl⟩
theorem rturns_any (t : Int) (w : World) :
  Calls Tryz.prog 202 #[I6 t] w fun E w' => E = .returned (I6 (t % 4)) ∧ w' = w := by
 go_enter Tryz.func202, Tryz.ntmps202
 go_wp2
 go_ret
 exact ⟨ret_int (tmod4 t), rfl⟩
theorem mirrored_any (x y : Int) (m : Bool) (w : World) (h1 : Mid x) :
  Calls Tryz.prog 174 #[.agg #[I6 x, I6 y], .bool m] w fun E w' => E = .returned (.agg #[I6 (if m then -x else x), I6 y]) ∧ Kp w w' none := by
 unfold Mid at h1
 have e1 : wrap64 (-x) = -x := wrap_mid (by omega) (by omega)
 clear h1
 cases m
 all_goals go_enter Tryz.func174, Tryz.ntmps174
 all_goals go_wp2
 all_goals go_returns
 all_goals exact ⟨rfl, (((Kp.refl w none).alloc _).alloc _)⟩
theorem four (t : Int) : t % 4 = 0 ∨ t % 4 = 1 ∨ t % 4 = 2 ∨ t % 4 = 3 := by omega
theorem turned_any (x y t : Int) (w : World) (h1 : Mid x) (h2 : Mid y) :
  Calls Tryz.prog 173 #[.agg #[I6 x, I6 y], I6 t] w fun E w' => E = .returned (.agg #[I6 (Pl.turn t ⟨x, y⟩).x, I6 (Pl.turn t ⟨x, y⟩).y]) ∧ Kp w w' none := by
 unfold Mid at h1 h2
 have e1 : wrap64 (-x) = -x := wrap_mid (by omega) (by omega)
 have e2 : wrap64 (-y) = -y := wrap_mid (by omega) (by omega)
 clear h1 h2; have hc := rturns_any t
 unfold Pl.turn
 rcases four t with h | h | h | h
 all_goals rw [h] at hc ⊢
 all_goals clear h
 all_goals simp only [Int.reduceEq, if_false, if_true]
 all_goals go_enter Tryz.func173, Tryz.ntmps173
 all_goals go_wp2_with (go_at_call 202; refine (hc _).mono ?_; rintro e w1 ⟨rfl, rfl⟩)
 all_goals go_returns
 all_goals exact ⟨rfl, (((Kp.refl w none).alloc _).alloc _)⟩
end Go.Proofs.YtljjbdbgedmadaaGreatDoor
set_option maxHeartbeats 1000000
set_option maxRecDepth 100000
namespace Go.Proofs.YtljjbdbgedmadaaGreatDoor
open Go.RowKit Go.Lib
theorem dec_small {u : Nat} (h : u < 10) : Lib.decDigits u = [UInt8.ofNat (48 + u)] := by rw [Lib.decDigits, dif_pos h]
theorem dec_big {u : Nat} (h : ¬ u < 10) : Lib.decDigits u = Lib.decDigits (u / 10) ++ [UInt8.ofNat (48 + u % 10)] := by rw [Lib.decDigits, dif_neg h]
theorem digit_toNat {d : Nat} (h : d < 10) : (UInt8.ofNat (48 + d)).toNat = 48 + d := by
 simp [UInt8.toNat_ofNat']; omega
theorem itoa_digit {n : Int} (h0 : 0 ≤ n) (h1 : n < 10) : Lib.itoa n = [UInt8.ofNat (48 + n.toNat)] := by
 unfold Lib.itoa; rw [if_neg (by omega), dec_small (by omega)]
theorem itoa_big {n : Int} (h1 : 10 ≤ n) : Lib.itoa n = Lib.itoa (n / 10) ++ Lib.itoa (n % 10) := by
 rw [itoa_digit (n := n % 10) (by omega) (by omega)]; unfold Lib.itoa; rw [if_neg (by omega), if_neg (by omega), dec_big (by omega), show (n / 10).toNat = n.toNat / 10 by omega, show (n % 10).toNat = n.toNat % 10 by omega]
theorem itoa_neg {n : Int} (h : n < 0) : Lib.itoa n = 45 :: Lib.itoa (-n) := by
 unfold Lib.itoa; rw [if_pos h, if_neg (by omega), show n.natAbs = (-n).toNat by omega]
theorem nDig_le (u : Nat) (h : u < 10000000000000000000) : Lib.nDigits u ≤ 19 := by
 refine Nat.le_of_not_lt fun h' => ?_
 have hp : ∀ k u, k < Lib.nDigits u → 1 ≤ k → 10 ^ k ≤ u := by
  intro k
  induction k with
  | zero => intro u _ h; omega
  | succ k ih =>
   intro u hu _
   by_cases h10 : u < 10
   ·rw [Lib.nDigits_small h10] at hu; omega
   ·rw [Lib.nDigits_big h10] at hu
    by_cases hk : k = 0
    ·subst hk; omega
    ·have := ih (u / 10) (by omega) (by omega)
     rw [Nat.pow_succ]; omega
 have := hp 19 u h' (by omega)
 simp at this
 omega
theorem itoa_length (n : Int) (h : Mid n) : (Lib.itoa n).length ≤ 20 := by
 unfold Mid at h; unfold Lib.itoa
 split
 ·rw [List.length_cons, Lib.decDigits_length]; have := nDig_le n.natAbs (by omega); omega
 ·rw [Lib.decDigits_length]; have := nDig_le n.toNat (by omega); omega
theorem pnt_length (x : UInt8) (p : Pl.Pt) (y : UInt8) (h1 : Mid p.x) (h2 : Mid p.y) : (Pl.pnt x p y).length ≤ 42 := by
 have := itoa_length p.x h1
 have := itoa_length p.y h2
 unfold Pl.pnt
 simp only [List.length_cons, List.length_append]; omega
theorem itoa_any (n : Int) (w : World) (he : Env w) (hn : Mid n) :
  Calls Tryz.prog 98 #[I6 n] w fun e w' => e = .returned (.string ⟨(Lib.itoa n).toArray⟩) ∧ Kp w w' none := by
 unfold Mid at hn
 refine (Tryz.strconv_Itoa n (by omega) (by omega) w he.tab).mono ?_
 rintro e w' ⟨rfl, k, os, rfl⟩; exact ⟨rfl, Kp.of_below (Lib.below_grow _ w (Nat.le_refl _) k os)⟩
def DecIs (n : Int) : Prop := ∀ w : World, Calls Tryz.prog 34 #[I6 n] w (fun e w' => e = .returned (.string ⟨(Lib.itoa n).toArray⟩) ∧ Kp w w' none)
theorem digit_conv (d : Int) (h0 : 0 ≤ d) (h1 : d < 10) (w : World) : (convert 100 9 (.slice (some ⟨w.heap.size, 0, none⟩) 1 1)).run Tryz.prog (w.alloc (.cells #[.int .u8 (48 + d)] 5)) = .ok (.string ⟨(Lib.itoa d).toArray⟩) (w.alloc (.cells #[.int .u8 (48 + d)] 5)) := by
 have h := run_convert_bytes_back (P := Tryz.prog) (w.alloc (.cells #[.int .u8 (48 + d)] 5)) 100 9 5 ⟨w.heap.size, 0, none⟩ 1 [UInt8.ofNat (48 + d.toNat)] Tryz.underlying100 Tryz.underlying5 Tryz.underlying9 (fun j hj => by
  have : j = 0 := by simpa using hj
  subst this
  show (w.alloc _).cell? ⟨w.heap.size, 0 + 0, none⟩ = _
  simp only [World.cell?, heap_alloc_new]
  have e := digit_toNat (d := d.toNat) (by omega)
  simp only [List.getElem_cons_zero, e]
  simp; omega)
 rw [itoa_digit h0 h1]; exact h
theorem dec_digit (n : Int) (h0 : 0 ≤ n) (h1 : n < 10) : DecIs n := by
 intro w; have hcv := digit_conv n h0 h1 w
 have hm : IntKind.u8.wrap (48 + n) = 48 + n := by rw [IntKind.wrap_u8]; omega
 go_enter Tryz.func34, Tryz.ntmps34
 go_wp2
 go_ret
 exact ⟨rfl, (Kp.refl _ _).alloc _⟩
theorem dec_pos (n : Int) (h0 : 10 ≤ n) (hn : Mid n) (h1 : DecIs (n / 10)) (h2 : DecIs (n % 10)) : DecIs n := by
 intro w; have l1 := itoa_length (n / 10) (by unfold Mid at *; omega)
 have l2 := itoa_length (n % 10) (by unfold Mid at *; omega)
 unfold Mid at hn; have HD := oh (itoa_big h0)
 have ht : n.tdiv 10 = n / 10 := Int.tdiv_eq_ediv_of_nonneg (by omega)
 have hr : n.tmod 10 = n % 10 := Int.tmod_eq_emod_of_nonneg (by omega)
 have hw : wrap64 (n / 10) = n / 10 := wrap_mid (by omega) (by omega)
 go_enter Tryz.func34, Tryz.ntmps34
 go_wp2_with fail
 refine (h1 _).mono ?_
 rintro e w1 ⟨rfl, k1⟩; have K1 := oh k1; clear k1; go_wp2_with fail
 refine (h2 _).mono ?_
 rintro e w2 ⟨rfl, k2⟩; have K2 := oh k2; clear k2; go_wp2_with fail
 go_ret
 exact ⟨ret_str (by rw [HD.out, cat_eq]), K1.out.trans K2.out⟩
theorem dec_neg (n : Int) (h0 : n < 0) (hn : Mid n) (h1 : DecIs (-n)) : DecIs n := by
 intro w; have l1 := itoa_length (-n) (by unfold Mid at *; omega)
 unfold Mid at hn; have HD := oh (itoa_neg h0)
 have hw : wrap64 (-n) = -n := wrap_mid (by omega) (by omega)
 go_enter Tryz.func34, Tryz.ntmps34
 go_wp2_with fail
 refine (h1 _).mono ?_
 rintro e w1 ⟨rfl, k1⟩; have K1 := oh k1; clear k1; go_wp2_with fail
 go_ret
 exact ⟨ret_str (by rw [HD.out]; exact cat_eq [45] _), K1.out⟩
theorem dec_any (n : Int) (hn : Mid n) : DecIs n := by
 have key : ∀ k (n : Int), 0 ≤ n → n.natAbs < k → Mid n → DecIs n := by
  intro k
  induction k with
  | zero => intro n _ h; omega
  | succ k ih =>
   intro n h0 hk hn
   by_cases h' : n < 10
   ·exact dec_digit n h0 h'
   ·exact dec_pos n (by omega) hn (ih _ (by omega) (by omega) (by unfold Mid at *; omega)) (dec_digit _ (by omega) (by omega))
 by_cases h : n < 0
 ·exact dec_neg n h hn (key _ (-n) (by omega) (Nat.lt_succ_self _) (by unfold Mid at *; omega))
 ·exact key _ n (by omega) (Nat.lt_succ_self _) hn
end Go.Proofs.YtljjbdbgedmadaaGreatDoor
namespace Go.Proofs.YtljjbdbgedmadaaGreatDoor
open Go.RowKit
theorem In.mid {n : Int} (h : Pl.In n) : Mid n := by unfold Pl.In at h; unfold Mid; omega
theorem chkE_zero {e : Pl.Ed} (h : Pl.chkE e = 0) : (e.k = 1 ∨ e.k = 2 ∨ e.k = 3) ∧ e.a.ok ∧ e.b.ok ∧ e.c.ok ∧ (e.k = 1 → e.c = ⟨0, 0⟩) ∧ (e.k ≠ 1 → Pl.Arc e) := by
 unfold Pl.chkE at h
 split at h
 ·cases h
 ·rename_i h1
  split at h
  ·cases h
  ·rename_i h2
   have h3 := Classical.not_not.1 h2
   refine ⟨by omega, h3.1, h3.2.1, h3.2.2, fun h4 => ?_, fun h4 => ?_⟩
   ·rw [if_pos h4] at h
    split at h
    ·assumption
    ·cases h
   ·rw [if_neg h4] at h
    split at h
    ·assumption
    ·cases h
theorem sub_mid {a b : Int} (h1 : Pl.In a) (h2 : Pl.In b) : Mid (a - b) := by unfold Pl.In at h1 h2; unfold Mid; omega
theorem LiesAt.ed {w : World} {ao : Option Addr} {cap : Nat} {es : List Pl.Ed} (h : LiesAt 7 edC w ao cap es) {k : Nat} (hk : k < es.length) : ∃ b off, ao = some ⟨b, off, none⟩ ∧ es.length ≤ cap ∧ b < w.heap.size ∧ ∀ w', Kp w w' none →
  w'.cell? ⟨b, off + k * 7, none⟩ = some (I6 es[k].k) ∧ w'.cell? ⟨b, off + k * 7 + 1, none⟩ = some (I6 es[k].a.x) ∧ w'.cell? ⟨b, off + k * 7 + 2, none⟩ = some (I6 es[k].a.y) ∧ w'.cell? ⟨b, off + k * 7 + 3, none⟩ = some (I6 es[k].b.x) ∧ w'.cell? ⟨b, off + k * 7 + 4, none⟩ = some (I6 es[k].b.y) ∧ w'.cell? ⟨b, off + k * 7 + 5, none⟩ = some (I6 es[k].c.x) ∧ w'.cell? ⟨b, off + k * 7 + 6, none⟩ = some (I6 es[k].c.y) := by
 obtain ⟨b, off, e, hb, hc, hr⟩ := h k hk
 refine ⟨b, off, e, hc, hb, fun w' K => ?_⟩
 have q : ∀ j, (hj : j < (edC es[k]).length) → w'.cell? ⟨b, off + k * 7 + j, none⟩ = some (edC es[k])[j] := fun j hj => (K.below.cell (p := ⟨b, off + k * 7 + j, none⟩) hb).trans (hr j hj)
 exact ⟨q 0 (by simp [edC]), q 1 (by simp [edC]), q 2 (by simp [edC]), q 3 (by simp [edC]), q 4 (by simp [edC]), q 5 (by simp [edC]), q 6 (by simp [edC])⟩
set_option maxHeartbeats 4000000
set_option maxRecDepth 100000
theorem apply_1false (ax ay t x y : Int) (w : World) (h1 : Mid x) (h2 : Mid y) (h3 : Mid ax) (h4 : Mid ay) (ht : t % 4 = 1) :
  Calls Tryz.prog 60 #[.agg #[I6 ax, I6 ay, I6 t, .bool false], .agg #[I6 x, I6 y]] w fun E w' => E = .returned (.agg #[I6 (-y + ax), I6 (x + ay)]) ∧ Kp w w' none := by
 have hm1 : Mid (-x) := by unfold Mid at *; omega
 have hm2 : Mid (-y) := by unfold Mid at *; omega
 have H1 := oh h1; have H2 := oh h2; have H3 := oh h3; have H4 := oh h4; have HM1 := oh hm1; have HM2 := oh hm2; unfold Mid at h1 h2 h3 h4
 have n1 : wrap64 (-x) = -x := wrap_mid (by omega) (by omega)
 have n2 : wrap64 (-y) = -y := wrap_mid (by omega) (by omega)
 have n3 : wrap64 (- -x) = x := by rw [Int.neg_neg]; exact wrap_mid (by omega) (by omega)
 have n4 : wrap64 (- -y) = y := by rw [Int.neg_neg]; exact wrap_mid (by omega) (by omega)
 have n5 : wrap64 x = x := wrap_mid (by omega) (by omega)
 have n6 : wrap64 y = y := wrap_mid (by omega) (by omega)
 clear h1 h2 h3 h4 hm1 hm2; have hc := turns_any ax ay t false
 rw [ht] at hc; clear ht; go_enter Tryz.func60, Tryz.ntmps60
 go_wp2_with (go_at_call 58; refine (hc _).mono ?_; rintro e w1 ⟨rfl, rfl⟩)
 refine wp_loop_rounds 2 ?_
 rw [rounds_succ]; go_wp2_with fail
 rw [rounds_succ]; go_wp2_with fail
 refine (vadd_x (-y) (x) ax ay _ HM2.out H1.out H3.out H4.out).mono ?_
 rintro e w2 ⟨rfl, rfl⟩; go_wp2_with fail
 go_returns
 exact ⟨rfl, by repeat first | exact Kp.refl _ _ | refine Kp.alloc ?_ _⟩
theorem apply_3false (ax ay t x y : Int) (w : World) (h1 : Mid x) (h2 : Mid y) (h3 : Mid ax) (h4 : Mid ay) (ht : t % 4 = 3) :
  Calls Tryz.prog 60 #[.agg #[I6 ax, I6 ay, I6 t, .bool false], .agg #[I6 x, I6 y]] w fun E w' => E = .returned (.agg #[I6 (y + ax), I6 (-x + ay)]) ∧ Kp w w' none := by
 have hm1 : Mid (-x) := by unfold Mid at *; omega
 have hm2 : Mid (-y) := by unfold Mid at *; omega
 have H1 := oh h1; have H2 := oh h2; have H3 := oh h3; have H4 := oh h4; have HM1 := oh hm1; have HM2 := oh hm2; unfold Mid at h1 h2 h3 h4
 have n1 : wrap64 (-x) = -x := wrap_mid (by omega) (by omega)
 have n2 : wrap64 (-y) = -y := wrap_mid (by omega) (by omega)
 have n3 : wrap64 (- -x) = x := by rw [Int.neg_neg]; exact wrap_mid (by omega) (by omega)
 have n4 : wrap64 (- -y) = y := by rw [Int.neg_neg]; exact wrap_mid (by omega) (by omega)
 have n5 : wrap64 x = x := wrap_mid (by omega) (by omega)
 have n6 : wrap64 y = y := wrap_mid (by omega) (by omega)
 clear h1 h2 h3 h4 hm1 hm2; have hc := turns_any ax ay t false
 rw [ht] at hc; clear ht; go_enter Tryz.func60, Tryz.ntmps60
 go_wp2_with (go_at_call 58; refine (hc _).mono ?_; rintro e w1 ⟨rfl, rfl⟩)
 refine wp_loop_rounds 4 ?_
 rw [rounds_succ]; go_wp2_with fail
 rw [rounds_succ]; go_wp2_with fail
 rw [rounds_succ]; go_wp2_with fail
 rw [rounds_succ]; go_wp2_with fail
 refine (vadd_x (y) (-x) ax ay _ H2.out HM1.out H3.out H4.out).mono ?_
 rintro e w2 ⟨rfl, rfl⟩; go_wp2_with fail
 go_returns
 exact ⟨rfl, by repeat first | exact Kp.refl _ _ | refine Kp.alloc ?_ _⟩
set_option maxHeartbeats 4000000
set_option maxRecDepth 100000
theorem tmod_range (n m : Int) (hm : 0 < m) : -m < n.tmod m ∧ n.tmod m < m := by
 constructor
 ·rcases Int.lt_or_le n 0 with h | h
  ·have e : n.tmod m = -((-n).tmod m) := by rw [Int.neg_tmod]; omega
   have := Int.tmod_lt_of_pos (-n) hm
   omega
  ·have := Int.tmod_nonneg m h
   omega
 ·exact Int.tmod_lt_of_pos n hm
def rem (n m : Int) : Int := (n.tmod m + m) % m
theorem rem_range (n m : Int) (h : 0 < m) : 0 ≤ rem n m ∧ rem n m < m := ⟨Int.emod_nonneg _ (by omega), Int.emod_lt_of_pos _ h⟩
theorem mod_any (n m : Int) (w : World) (h0 : 0 < m) (h1 : m ≤ 1000000) :
  Calls Tryz.prog 18 #[I6 n, I6 m] w fun E w' => E = .returned (I6 (rem n m)) ∧ w' = w := by
 obtain ⟨a, ha⟩ : ∃ a, n.tmod m = a := ⟨_, rfl⟩
 have hr := tmod_range n m h0
 rw [ha] at hr; have hs : wrap64 (a + m) = a + m := wrap_mid (by omega) (by omega)
 obtain ⟨s, hsv⟩ : ∃ s, a + m = s := ⟨_, rfl⟩
 have HR : Hid (rem n m = s % m) := oh (by unfold rem; rw [ha, hsv])
 have hs0 : 0 ≤ s := by omega
 rw [hsv] at hs; have HV : Hid (0 ≤ s % m ∧ s % m < m) := oh ⟨Int.emod_nonneg s (by omega), Int.emod_lt_of_pos s h0⟩
 have hm : (m == 0) = false := by simp; omega
 clear hr; go_enter Tryz.func18, Tryz.ntmps18
 go_wp2_with fail
 go_ret
 exact ⟨ret_int HR.out.symm, rfl⟩
def LenOk (n : Nat) : Prop := n ≤ 9223372036854775807
def DrawAt (D : Nat) (ao : Option Addr) (n cap : Nat) (w : World) : Prop := ∃ at_ : Nat, w.heap[D]? = some (.cells #[.slice ao n cap, I6 at_] 90 (0, 0)) ∧ at_ ≤ n
def Drew (D : Nat) (ao : Option Addr) (n cap : Nat) (w : World) (m : Int) (E : Ending) (w' : World) : Prop := ∃ v : Int, E = .returned (I6 v) ∧ (0 ≤ v ∧ v < m) ∧ DrawAt D ao n cap w' ∧ Kp w w' (some D)
theorem next_any (l : List Int) (n : Nat) (hn : l.length = n) (D : Nat) (ao : Option Addr) (cap : Nat) (m : Int) (W w : World) (hl : LiesAt 1 intVal W ao cap l) (hD : W.heap.size ≤ D) (hW : Kp W w none) (hd : DrawAt D ao n cap w) (h0 : 0 < m) (h1 : m ≤ 1000000) (hn2 : LenOk n) :
  Calls Tryz.prog 37 #[.pointer (some ⟨D, 0, none⟩), I6 m] w (Drew D ao n cap w m) := by
 obtain ⟨k, hb, hk⟩ := hd
 have c0 : w.cell? ⟨D, 0, none⟩ = some (.slice ao n cap) := by have := Lib.cell_of_heap hb 0; simpa using this
 have c1 : w.cell? ⟨D, 1, none⟩ = some (I6 k) := by have := Lib.cell_of_heap hb 1; simpa using this
 have f1 : w.frozen? ⟨D, 1, none⟩ = false := fz hb 1
 have HB := oh hb; have FL := oh hl; have HN := oh hn; have HWK := oh hW; have hk0 := nn k; have hn0 := nn n; clear hb hl hn hW
 by_cases hlt : k < n
 ·have hk1 : ¬ (n : Int) ≤ (k : Int) := by omega
  have hk2 : (k : Int) < (n : Int) := by omega
  obtain ⟨b, off, rfl, hbs, hcap, hr⟩ := FL.out.int k (by have := HN.out; omega)
  have hv0 := hr k (by have := HN.out; omega)
  obtain ⟨x, hx⟩ : ∃ x, l[k]'(by have := HN.out; omega) = x := ⟨_, rfl⟩
  rw [hx] at hv0; have hv1 : w.cell? ⟨b, off + k, none⟩ = some (I6 x) := (HWK.out.below.cell (p := ⟨b, off + k, none⟩) hbs).trans hv0
  have hcap2 : n ≤ cap := by have := HN.out; omega
  have hw1 : wrap64 ((k : Int) + 1) = (k : Int) + 1 := by have := hn2; unfold LenOk at this; unfold wrap64; omega
  have HV1 := oh hv1; have HDW : Hid (D ≠ b) := oh (by omega)
  obtain ⟨v, hv⟩ : ∃ v, rem x m = v := ⟨_, rfl⟩
  have HMM : Hid (∀ V, Calls Tryz.prog 18 #[I6 x, I6 m] V fun E w' => E = .returned (I6 v) ∧ w' = V) := oh (fun V => by rw [← hv]; exact mod_any x m V h0 h1)
  have HVR : Hid (0 ≤ v ∧ v < m) := oh (by rw [← hv]; exact rem_range x m h0)
  clear hx hv0 hr hcap hv1 hv; go_enter Tryz.func37, Tryz.ntmps37
  go_wp2_with fail
  go_quiet (fail)
  have KQ : Hid (Kp w (w.drewN nq) none) := oh ((Kp.refl w none).drewN nq)
  generalize w.drewN nq = wz at *
  have hbz := (KQ.out.block D (lt_of_block HB.out) (by simp)).trans HB.out
  have g0 : wz.cell? ⟨D, 0, none⟩ = some (.slice (some ⟨b, off, none⟩) n cap) := by have := Lib.cell_of_heap hbz 0; simpa using this
  have g1 : wz.cell? ⟨D, 1, none⟩ = some (I6 k) := by have := Lib.cell_of_heap hbz 1; simpa using this
  have g2 : wz.frozen? ⟨D, 1, none⟩ = false := fz hbz 1
  have hs := heap_set (o := 1) (v := I6 ((k : Int) + 1)) hbz
  have HS := oh hs; have KS : Hid (Kp wz (wz.setCell ⟨D, 1, none⟩ (I6 ((k : Int) + 1))) (some D)) := oh ((Kp.refl wz (some D)).set _)
  have e0 : (wz.setCell ⟨D, 1, none⟩ (I6 ((k : Int) + 1))).cell? ⟨D, 0, none⟩ = some (.slice (some ⟨b, off, none⟩) n cap) := by have := Lib.cell_of_heap hs 0; simpa using this
  have e1 : (wz.setCell ⟨D, 1, none⟩ (I6 ((k : Int) + 1))).cell? ⟨D, 1, none⟩ = some (I6 ((k : Int) + 1)) := by have := Lib.cell_of_heap hs 1; simpa using this
  have hvz : wz.cell? ⟨b, off + k, none⟩ = some (I6 x) := (KQ.out.below.cell (p := ⟨b, off + k, none⟩) (World.block_lt_of_cell? _ _ HV1.out)).trans HV1.out
  have e2 : (wz.setCell ⟨D, 1, none⟩ (I6 ((k : Int) + 1))).cell? ⟨b, off + k, none⟩ = some (I6 x) := (KS.out.cell_far ⟨b, off + k, none⟩ (World.block_lt_of_cell? _ _ hvz) (by have := HDW.out; simp; omega)).trans hvz
  clear hbz hs c0 c1 f1 hvz; go_wp2_with fail
  clear g0 g1 g2 hw1
  generalize wz.setCell ⟨D, 1, none⟩ (I6 ((k : Int) + 1)) = wy at *
  have hq1 : wrap64 ((k : Int) + 1 - 1) = (k : Int) := by have := hn2; unfold LenOk at this; unfold wrap64; omega
  have hq2 : IntKind.i64.wrap ((k : Int) + 1 - 1) = (k : Int) := by have := hn2; unfold LenOk at this; rw [IntKind.wrap_i64]; omega
  have hq3 : wrap64 (k : Int) = (k : Int) := by have := hn2; unfold LenOk at this; unfold wrap64; omega
  go_quiet ((refine (HMM.out _).mono ?_; rintro e wq ⟨rfl, rfl⟩; exact ⟨rfl, _, rfl⟩))
  have KF : Hid (Kp w (wy.drewN nq) (some D)) := oh (((KQ.out.weak (some D)).trans KS.out).drewN _)
  go_wp2_with fail
  go_ret
  exact ⟨v, rfl, HVR.out, ⟨k + 1, HS.out, hlt⟩, KF.out⟩
 ·have hk1 : (n : Int) ≤ (k : Int) := by omega
  go_enter Tryz.func37, Tryz.ntmps37
  go_wp2_with fail
  go_quiet (fail)
  go_wp2_with fail
  go_ret
  exact ⟨0, rfl, ⟨Int.le_refl _, h0⟩, ⟨k, HB.out, hk⟩, (Kp.refl w _).drewN nq⟩
end Go.Proofs.YtljjbdbgedmadaaGreatDoor
