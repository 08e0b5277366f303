/- The reference's decimal form is the library's; the reference's word is the program's. Conditions: numbers of 64 bits, strings of at most 2^20 bytes. -/
import Derived.Test.YtldjhjbodhhnbaaDoorWd
namespace Go.Proofs.YtldjhjbodhhnbaaDoor
open Go.RowKit

theorem itoa_digit {n : Int} (h0 : 0 ≤ n) (h1 : n < 10) : Lib.itoa n = [UInt8.ofNat (48 + n.toNat)] := by
  unfold Lib.itoa; rw [if_neg (by omega), Wr.dec_small (by omega)]
theorem itoa_big {n : Int} (h1 : 10 ≤ n) : Lib.itoa n = Lib.itoa (n / 10) ++ Lib.itoa (n % 10) := by
  rw [itoa_digit (n := n % 10) (by omega) (by omega)]
  unfold Lib.itoa; rw [if_neg (by omega), if_neg (by omega), Wr.dec_big (by omega), show (n / 10).toNat = n.toNat / 10 by omega, show (n % 10).toNat = n.toNat % 10 by omega]
theorem tdiv_neg {n : Int} (h : n < 0) : n.tdiv 10 = -((-n) / 10) := by
  rw [← Int.tdiv_eq_ediv_of_nonneg (by omega), Int.neg_tdiv, Int.neg_neg]
theorem tmod_neg {n : Int} (h : n < 0) : n.tmod 10 = -((-n) % 10) := by
  rw [← Int.tmod_eq_emod_of_nonneg (by omega), Int.neg_tmod, Int.neg_neg]
theorem itoa_neg_small {n : Int} (h : n < 0) (h1 : -10 < n) : Lib.itoa n = 45 :: Lib.itoa (-n) := by
  unfold Lib.itoa; rw [if_pos h, if_neg (by omega), show n.natAbs = (-n).toNat by omega]
theorem itoa_neg_big {n : Int} (h : n ≤ -10) : Lib.itoa n = Lib.itoa (n.tdiv 10) ++ Lib.itoa (-n.tmod 10) := by
  rw [tdiv_neg (by omega), tmod_neg (by omega), Int.neg_neg, itoa_digit (n := -n % 10) (by omega) (by omega)]
  unfold Lib.itoa
  rw [if_pos (by omega), if_pos (by omega), show n.natAbs = (-n).toNat by omega, Wr.dec_big (by omega), show (-(-n / 10)).natAbs = (-n).toNat / 10 by omega, show (-n % 10).toNat = (-n).toNat % 10 by omega]
  rfl

/-- What number comes to. -/
def DecIs (n : Int) : Prop := ∀ w : World, Calls Tryd.prog 27 #[.int .i64 n] w (fun e w' => e = .returned (.string ⟨(Lib.itoa n).toArray⟩) ∧ Kp w w' none)
theorem digit_conv (d : Int) (h0 : 0 ≤ d) (h1 : d < 10) (w : World) : (convert 34 9 (.slice (some ⟨w.heap.size, 0, none⟩) 1 1)).run Tryd.prog (w.alloc (.cells #[.int .u8 (48 + d)] 5)) = .ok (.string ⟨(Lib.itoa d).toArray⟩) (w.alloc (.cells #[.int .u8 (48 + d)] 5)) := by
  have h := run_convert_bytes_back (P := Tryd.prog) (w.alloc (.cells #[.int .u8 (48 + d)] 5)) 34 9 5 ⟨w.heap.size, 0, none⟩ 1 [UInt8.ofNat (48 + d.toNat)] Tryd.underlying34 Tryd.underlying5 Tryd.underlying9 (fun j hj => by
    have : j = 0 := by simpa using hj
    subst this
    show (w.alloc _).cell? ⟨w.heap.size, 0 + 0, none⟩ = _
    simp only [World.cell?, heap_alloc_new]
    have e := Wr.digit_toNat (d := d.toNat) (by omega)
    simp only [List.getElem_cons_zero, e]
    simp; omega)
  rw [itoa_digit h0 h1]; exact h

set_option maxHeartbeats 1000000 in
set_option maxRecDepth 100000 in
theorem dec_digit (n : Int) (h0 : 0 ≤ n) (h1 : n < 10) : DecIs n := by
  intro w
  have hcv := digit_conv n h0 h1 w
  have hr : n / 10 = 0 := by omega
  have hm : n % 10 = n := by omega
  go_enter Tryd.func27, Tryd.ntmps27
  go_wp2
  go_ret
  exact ⟨rfl, (Kp.refl _ _).alloc _⟩

set_option maxHeartbeats 1000000 in
set_option maxRecDepth 100000 in
theorem dec_pos (n : Int) (h0 : 10 ≤ n) (hn : Wr.I64 n) (h1 : DecIs (n / 10)) : DecIs n := by
  intro w
  have l1 := Wr.itoa_length (n / 10) (by unfold Wr.I64 at *; omega)
  have l2 := Wr.itoa_length (n % 10) (by unfold Wr.I64 at *; omega)
  unfold Wr.I64 at hn
  have HD := Lib.hid (itoa_big h0)
  have hcv := digit_conv (n % 10) (by omega) (by omega) w
  have hr : (n / 10 == 0) = false := by simp; omega
  have hm0 : 0 ≤ n % 10 := by omega
  have hm1 : n % 10 ≤ 9 := by omega
  go_enter Tryd.func27, Tryd.ntmps27
  go_wp2_with fail
  refine (h1 _).mono ?_
  rintro e w1 ⟨rfl, k1⟩
  have K1 := Lib.hid k1
  clear k1
  go_wp2_with fail
  go_ret
  exact ⟨ret_str (by rw [HD.out, cat_eq]), ((Kp.refl _ _).alloc _).trans K1.out⟩

set_option maxHeartbeats 1000000 in
set_option maxRecDepth 100000 in
theorem dec_neg1 (n : Int) (h0 : n < 0) (hn : -10 < n) (h1 : DecIs (-n)) : DecIs n := by
  intro w
  have l1 := Wr.itoa_length (-n) (by unfold Wr.I64 at *; omega)
  have HD := Lib.hid (itoa_neg_small h0 hn)
  have ht : (n.tdiv 10 == 0) = true := by rw [tdiv_neg h0]; simp; omega
  have hm : n.tmod 10 = n := by rw [tmod_neg h0]; omega
  go_enter Tryd.func27, Tryd.ntmps27
  go_wp2_with fail
  refine (h1 _).mono ?_
  rintro e w1 ⟨rfl, k1⟩
  have K1 := Lib.hid k1
  clear k1
  go_wp2_with fail
  go_ret
  exact ⟨ret_str (by rw [HD.out]; exact cat_eq [45] _), K1.out⟩

set_option maxHeartbeats 1000000 in
set_option maxRecDepth 100000 in
theorem dec_neg2 (n : Int) (h0 : n ≤ -10) (hn : Wr.I64 n) (h1 : DecIs (n.tdiv 10)) : DecIs n := by
  intro w
  unfold Wr.I64 at hn
  have l1 := Wr.itoa_length (n.tdiv 10) (by rw [tdiv_neg (by omega)]; unfold Wr.I64 at *; omega)
  have l2 := Wr.itoa_length (-n.tmod 10) (by rw [tmod_neg (by omega)]; unfold Wr.I64 at *; omega)
  have HD := Lib.hid (itoa_neg_big h0)
  have ht : (n.tdiv 10 == 0) = false := by rw [tdiv_neg (by omega)]; simp; omega
  have hm : -9 ≤ n.tmod 10 ∧ n.tmod 10 ≤ 0 := by rw [tmod_neg (by omega)]; omega
  obtain ⟨hm1, hm2⟩ := hm
  have hcv := digit_conv (-n.tmod 10) (by omega) (by omega) w
  go_enter Tryd.func27, Tryd.ntmps27
  go_wp2_with fail
  refine (h1 _).mono ?_
  rintro e w1 ⟨rfl, k1⟩
  have K1 := Lib.hid k1
  clear k1
  go_wp2_with fail
  go_ret
  exact ⟨ret_str (by rw [HD.out, cat_eq]), ((Kp.refl _ _).alloc _).trans K1.out⟩

theorem dec_any (n : Int) (hn : Wr.I64 n) : DecIs n := by
  have key : ∀ k (n : Int), n.natAbs < k → Wr.I64 n → DecIs n := by
    intro k
    induction k with
    | zero => intro n h; omega
    | succ k ih =>
      intro n hk hn
      by_cases h : n < 0
      · by_cases h' : -10 < n
        · exact dec_neg1 n h h' (dec_digit _ (by omega) (by omega))
        · refine dec_neg2 n (by omega) hn (ih _ ?_ ?_)
          · rw [tdiv_neg h]; omega
          · rw [tdiv_neg h]; unfold Wr.I64 at *; omega
      · by_cases h' : n < 10
        · exact dec_digit n (by omega) h'
        · exact dec_pos n (by omega) hn (ih _ (by omega) (by unfold Wr.I64 at *; omega))
  exact key _ n (Nat.lt_succ_self _) hn

end Go.Proofs.YtldjhjbodhhnbaaDoor
