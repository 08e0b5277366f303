/- Numbers and points as both sides write them. Condition: coordinates within 2^61. -/
import Derived.Test.YtljjbdbgedmadaaGreatDoorVe
import Derived.Test.YtljjbdbgedmadaaGreatDoorShelf
import Derived.Lib.FrozenHead2
import Derived.Lib.AppendIntMem
namespace Go.Proofs.YtljjbdbgedmadaaGreatDoor
open Go.RowKit Go.Lib

theorem dec_small {u : Nat} (h : u < 10) : Lib.decDigits u = [UInt8.ofNat (48 + u)] := by rw [Lib.decDigits, dif_pos h]
theorem dec_big {u : Nat} (h : ¬ u < 10) : Lib.decDigits u = Lib.decDigits (u / 10) ++ [UInt8.ofNat (48 + u % 10)] := by rw [Lib.decDigits, dif_neg h]
theorem digit_toNat {d : Nat} (h : d < 10) : (UInt8.ofNat (48 + d)).toNat = 48 + d := by
  simp [UInt8.toNat_ofNat']; omega
theorem itoa_digit {n : Int} (h0 : 0 ≤ n) (h1 : n < 10) : Lib.itoa n = [UInt8.ofNat (48 + n.toNat)] := by
  unfold Lib.itoa; rw [if_neg (by omega), dec_small (by omega)]
theorem nDig_le (u : Nat) (h : u < 10000000000000000000) : Lib.nDigits u ≤ 19 := by
  refine Nat.le_of_not_lt fun h' => ?_
  have hp : ∀ k u, k < Lib.nDigits u → 1 ≤ k → 10 ^ k ≤ u := by
    intro k
    induction k with
    | zero => intro u _ h; omega
    | succ k ih =>
      intro u hu _
      by_cases h10 : u < 10
      · rw [Lib.nDigits_small h10] at hu; omega
      · rw [Lib.nDigits_big h10] at hu
        by_cases hk : k = 0
        · subst hk; omega
        · have := ih (u / 10) (by omega) (by omega)
          rw [Nat.pow_succ]; omega
  have := hp 19 u h' (by omega)
  simp at this
  omega
theorem itoa_length (n : Int) (h : Mid n) : (Lib.itoa n).length ≤ 20 := by
  unfold Mid at h
  unfold Lib.itoa
  split
  · rw [List.length_cons, Lib.decDigits_length]; have := nDig_le n.natAbs (by omega); omega
  · rw [Lib.decDigits_length]; have := nDig_le n.toNat (by omega); omega
theorem pnt_length (x : UInt8) (p : Pl.Pt) (y : UInt8) (h1 : Mid p.x) (h2 : Mid p.y) : (Pl.pnt x p y).length ≤ 42 := by
  have := itoa_length p.x h1
  have := itoa_length p.y h2
  unfold Pl.pnt
  simp only [List.length_cons, List.length_append]; omega

/-- strconv.Itoa in the walks' frame. -/
theorem itoa_any (n : Int) (w : World) (he : Env w) (hn : Mid n) :
    Calls Tryz.prog 98 #[.int .i64 n] w fun e w' => e = .returned (.string ⟨(Lib.itoa n).toArray⟩) ∧ Kp w w' none := by
  unfold Mid at hn
  refine (Tryz.strconv_Itoa n (by omega) (by omega) w he.tab).mono ?_
  rintro e w' ⟨rfl, k, os, rfl⟩
  exact ⟨rfl, Kp.of_below (Lib.below_grow _ w (Nat.le_refl _) k os)⟩

/-- What number comes to. -/
def DecIs (n : Int) : Prop := ∀ w : World, Calls Tryz.prog 34 #[.int .i64 n] w (fun e w' => e = .returned (.string ⟨(Lib.itoa n).toArray⟩) ∧ Kp w w' none)
theorem digit_conv (d : Int) (h0 : 0 ≤ d) (h1 : d < 10) (w : World) : (convert 100 9 (.slice (some ⟨w.heap.size, 0, none⟩) 1 1)).run Tryz.prog (w.alloc (.cells #[.int .u8 (48 + d)] 5)) = .ok (.string ⟨(Lib.itoa d).toArray⟩) (w.alloc (.cells #[.int .u8 (48 + d)] 5)) := by
  have h := run_convert_bytes_back (P := Tryz.prog) (w.alloc (.cells #[.int .u8 (48 + d)] 5)) 100 9 5 ⟨w.heap.size, 0, none⟩ 1 [UInt8.ofNat (48 + d.toNat)] Tryz.underlying100 Tryz.underlying5 Tryz.underlying9 (fun j hj => by
    have : j = 0 := by simpa using hj
    subst this
    show (w.alloc _).cell? ⟨w.heap.size, 0 + 0, none⟩ = _
    simp only [World.cell?, heap_alloc_new]
    have e := digit_toNat (d := d.toNat) (by omega)
    simp only [List.getElem_cons_zero, e]
    simp; omega)
  rw [itoa_digit h0 h1]; exact h

set_option maxHeartbeats 1000000 in
set_option maxRecDepth 100000 in
theorem dec_digit (n : Int) (h0 : 0 ≤ n) (h1 : n < 10) : DecIs n := by
  intro w
  have hcv := digit_conv n h0 h1 w
  have hm : IntKind.u8.wrap (48 + n) = 48 + n := by rw [IntKind.wrap_u8]; omega
  go_enter Tryz.func34, Tryz.ntmps34
  go_wp2
  go_ret
  exact ⟨rfl, (Kp.refl _ _).alloc _⟩

end Go.Proofs.YtljjbdbgedmadaaGreatDoor
