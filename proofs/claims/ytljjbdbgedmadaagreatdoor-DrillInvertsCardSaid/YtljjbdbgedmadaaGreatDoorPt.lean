/- Numbers and points as both sides write them. Condition: coordinates within 2^61. -/
import Derived.Test.YtljjbdbgedmadaaGreatDoorVe
import Derived.Test.YtljjbdbgedmadaaGreatDoorShelf
import Derived.Lib.FrozenHead2
import Derived.Lib.AppendIntMem
namespace Go.Proofs.YtljjbdbgedmadaaGreatDoor
open Go.RowKit Go.Lib

theorem dec_small {u : Nat} (h : u < 10) : Lib.decDigits u = [UInt8.ofNat (48 + u)] := by rw [Lib.decDigits, dif_pos h]
theorem dec_big {u : Nat} (h : ¬ u < 10) : Lib.decDigits u = Lib.decDigits (u / 10) ++ [UInt8.ofNat (48 + u % 10)] := by rw [Lib.decDigits, dif_neg h]
theorem digit_toNat {d : Nat} (h : d < 10) : (UInt8.ofNat (48 + d)).toNat = 48 + d := by
  simp [UInt8.toNat_ofNat']; omega
theorem itoa_digit {n : Int} (h0 : 0 ≤ n) (h1 : n < 10) : Lib.itoa n = [UInt8.ofNat (48 + n.toNat)] := by
  unfold Lib.itoa; rw [if_neg (by omega), dec_small (by omega)]
theorem itoa_big {n : Int} (h1 : 10 ≤ n) : Lib.itoa n = Lib.itoa (n / 10) ++ Lib.itoa (n % 10) := by
  rw [itoa_digit (n := n % 10) (by omega) (by omega)]
  unfold Lib.itoa; rw [if_neg (by omega), if_neg (by omega), dec_big (by omega), show (n / 10).toNat = n.toNat / 10 by omega, show (n % 10).toNat = n.toNat % 10 by omega]
theorem itoa_neg {n : Int} (h : n < 0) : Lib.itoa n = 45 :: Lib.itoa (-n) := by
  unfold Lib.itoa; rw [if_pos h, if_neg (by omega), show n.natAbs = (-n).toNat by omega]
theorem nDig_le (u : Nat) (h : u < 10000000000000000000) : Lib.nDigits u ≤ 19 := by
  refine Nat.le_of_not_lt fun h' => ?_
  have hp : ∀ k u, k < Lib.nDigits u → 1 ≤ k → 10 ^ k ≤ u := by
    intro k
    induction k with
    | zero => intro u _ h; omega
    | succ k ih =>
      intro u hu _
      by_cases h10 : u < 10
      · rw [Lib.nDigits_small h10] at hu; omega
      · rw [Lib.nDigits_big h10] at hu
        by_cases hk : k = 0
        · subst hk; omega
        · have := ih (u / 10) (by omega) (by omega)
          rw [Nat.pow_succ]; omega
  have := hp 19 u h' (by omega)
  simp at this
  omega
theorem itoa_length (n : Int) (h : Mid n) : (Lib.itoa n).length ≤ 20 := by
  unfold Mid at h
  unfold Lib.itoa
  split
  · rw [List.length_cons, Lib.decDigits_length]; have := nDig_le n.natAbs (by omega); omega
  · rw [Lib.decDigits_length]; have := nDig_le n.toNat (by omega); omega
theorem pnt_length (x : UInt8) (p : Pl.Pt) (y : UInt8) (h1 : Mid p.x) (h2 : Mid p.y) : (Pl.pnt x p y).length ≤ 42 := by
  have := itoa_length p.x h1
  have := itoa_length p.y h2
  unfold Pl.pnt
  simp only [List.length_cons, List.length_append]; omega

/-- strconv.Itoa in the walks' frame. -/
theorem itoa_any (n : Int) (w : World) (he : Env w) (hn : Mid n) :
    Calls Tryz.prog 98 #[.int .i64 n] w fun e w' => e = .returned (.string ⟨(Lib.itoa n).toArray⟩) ∧ Kp w w' none := by
  unfold Mid at hn
  refine (Tryz.strconv_Itoa n (by omega) (by omega) w he.tab).mono ?_
  rintro e w' ⟨rfl, k, os, rfl⟩
  exact ⟨rfl, Kp.of_below (Lib.below_grow _ w (Nat.le_refl _) k os)⟩

/-- What number comes to. -/
def DecIs (n : Int) : Prop := ∀ w : World, Calls Tryz.prog 34 #[.int .i64 n] w (fun e w' => e = .returned (.string ⟨(Lib.itoa n).toArray⟩) ∧ Kp w w' none)
theorem digit_conv (d : Int) (h0 : 0 ≤ d) (h1 : d < 10) (w : World) : (convert 100 9 (.slice (some ⟨w.heap.size, 0, none⟩) 1 1)).run Tryz.prog (w.alloc (.cells #[.int .u8 (48 + d)] 5)) = .ok (.string ⟨(Lib.itoa d).toArray⟩) (w.alloc (.cells #[.int .u8 (48 + d)] 5)) := by
  have h := run_convert_bytes_back (P := Tryz.prog) (w.alloc (.cells #[.int .u8 (48 + d)] 5)) 100 9 5 ⟨w.heap.size, 0, none⟩ 1 [UInt8.ofNat (48 + d.toNat)] Tryz.underlying100 Tryz.underlying5 Tryz.underlying9 (fun j hj => by
    have : j = 0 := by simpa using hj
    subst this
    show (w.alloc _).cell? ⟨w.heap.size, 0 + 0, none⟩ = _
    simp only [World.cell?, heap_alloc_new]
    have e := digit_toNat (d := d.toNat) (by omega)
    simp only [List.getElem_cons_zero, e]
    simp; omega)
  rw [itoa_digit h0 h1]; exact h

set_option maxHeartbeats 1000000 in
set_option maxRecDepth 100000 in
theorem dec_digit (n : Int) (h0 : 0 ≤ n) (h1 : n < 10) : DecIs n := by
  intro w
  have hcv := digit_conv n h0 h1 w
  have hm : IntKind.u8.wrap (48 + n) = 48 + n := by rw [IntKind.wrap_u8]; omega
  go_enter Tryz.func34, Tryz.ntmps34
  go_wp2
  go_ret
  exact ⟨rfl, (Kp.refl _ _).alloc _⟩

set_option maxHeartbeats 1000000 in
set_option maxRecDepth 100000 in
theorem dec_pos (n : Int) (h0 : 10 ≤ n) (hn : Mid n) (h1 : DecIs (n / 10)) (h2 : DecIs (n % 10)) : DecIs n := by
  intro w
  have l1 := itoa_length (n / 10) (by unfold Mid at *; omega)
  have l2 := itoa_length (n % 10) (by unfold Mid at *; omega)
  unfold Mid at hn
  have HD := Lib.hid (itoa_big h0)
  have ht : n.tdiv 10 = n / 10 := Int.tdiv_eq_ediv_of_nonneg (by omega)
  have hr : n.tmod 10 = n % 10 := Int.tmod_eq_emod_of_nonneg (by omega)
  have hw : wrap64 (n / 10) = n / 10 := wrap_mid (by omega) (by omega)
  go_enter Tryz.func34, Tryz.ntmps34
  go_wp2_with fail
  refine (h1 _).mono ?_
  rintro e w1 ⟨rfl, k1⟩
  have K1 := Lib.hid k1
  clear k1
  go_wp2_with fail
  refine (h2 _).mono ?_
  rintro e w2 ⟨rfl, k2⟩
  have K2 := Lib.hid k2
  clear k2
  go_wp2_with fail
  go_ret
  exact ⟨ret_str (by rw [HD.out, cat_eq]), K1.out.trans K2.out⟩

set_option maxHeartbeats 1000000 in
set_option maxRecDepth 100000 in
theorem dec_neg (n : Int) (h0 : n < 0) (hn : Mid n) (h1 : DecIs (-n)) : DecIs n := by
  intro w
  have l1 := itoa_length (-n) (by unfold Mid at *; omega)
  unfold Mid at hn
  have HD := Lib.hid (itoa_neg h0)
  have hw : wrap64 (-n) = -n := wrap_mid (by omega) (by omega)
  go_enter Tryz.func34, Tryz.ntmps34
  go_wp2_with fail
  refine (h1 _).mono ?_
  rintro e w1 ⟨rfl, k1⟩
  have K1 := Lib.hid k1
  clear k1
  go_wp2_with fail
  go_ret
  exact ⟨ret_str (by rw [HD.out]; exact cat_eq [45] _), K1.out⟩

theorem dec_any (n : Int) (hn : Mid n) : DecIs n := by
  have key : ∀ k (n : Int), 0 ≤ n → n.natAbs < k → Mid n → DecIs n := by
    intro k
    induction k with
    | zero => intro n _ h; omega
    | succ k ih =>
      intro n h0 hk hn
      by_cases h' : n < 10
      · exact dec_digit n h0 h'
      · exact dec_pos n (by omega) hn (ih _ (by omega) (by omega) (by unfold Mid at *; omega)) (dec_digit _ (by omega) (by omega))
  by_cases h : n < 0
  · exact dec_neg n h hn (key _ (-n) (by omega) (Nat.lt_succ_self _) (by unfold Mid at *; omega))
  · exact key _ n (by omega) (Nat.lt_succ_self _) hn

end Go.Proofs.YtljjbdbgedmadaaGreatDoor
