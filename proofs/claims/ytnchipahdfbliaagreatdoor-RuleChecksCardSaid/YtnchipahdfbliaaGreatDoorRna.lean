/- The reference's names: letters, digits, Right, find, index, decimal forms, Has. Conditions: strings of at most 2^47 bytes, numbers of 64 bits.
  The reference's find, decimal forms, index, Has. Conditions: strings of at most 2^47 bytes, numbers of 64 bits, lists of at most 10^12.
  The reference's index, Has. Conditions: strings of at most 2^47 bytes, lists of at most 10^12. -/
import Derived.Test.YtnchipahdfbliaaGreatDoorNm
import Derived.Test.YtnchipahdfbliaaGreatDoorRuE

namespace Go.Proofs.YtnchipahdfbliaaGreatDoor
open Go.RowKit

theorem letter12_any (c : UInt8) (w : World) : Calls Tryz.prog 89 #[.int .u8 (c.toNat : Int)] w fun e w' => e = .returned (.bool (Ru.letter c)) ∧ w' = w := by
 have hr : ∀ b, (decide (97 ≤ c.toNat ∧ c.toNat ≤ 122) || decide (65 ≤ c.toNat ∧ c.toNat ≤ 90)) = b → Hid (Ru.letter c = b) := fun b h => Lib.hid h
 by_cases h1 : 97 ≤ c.toNat
 ·by_cases h2 : c.toNat ≤ 122
  ·have HR := hr true (by simp [h1, h2])
   clear hr
   have e1 : (97 : Int) ≤ (c.toNat : Int) := by omega
   have e2 : (c.toNat : Int) ≤ 122 := by omega
   go_enter Tryz.func89, Tryz.ntmps89
   go_wp2
   go_ret
   exact ⟨by rw [HR.out]; rfl, rfl⟩
  ·have HR := hr false (by simp [h2]; omega)
   clear hr
   have e1 : (97 : Int) ≤ (c.toNat : Int) := by omega
   have e2 : ¬ (c.toNat : Int) ≤ 122 := by omega
   have e3 : (65 : Int) ≤ (c.toNat : Int) := by omega
   have e4 : ¬ (c.toNat : Int) ≤ 90 := by omega
   go_enter Tryz.func89, Tryz.ntmps89
   go_wp2
   go_ret
   exact ⟨by rw [HR.out]; rfl, rfl⟩
 ·have e1 : ¬ (97 : Int) ≤ (c.toNat : Int) := by omega
  by_cases h3 : 65 ≤ c.toNat
  ·have e3 : (65 : Int) ≤ (c.toNat : Int) := by omega
   by_cases h4 : c.toNat ≤ 90
   ·have HR := hr true (by simp [h3, h4])
    clear hr
    have e4 : (c.toNat : Int) ≤ 90 := by omega
    go_enter Tryz.func89, Tryz.ntmps89
    go_wp2
    go_ret
    exact ⟨by rw [HR.out]; rfl, rfl⟩
   ·have HR := hr false (by simp [h1, h4])
    clear hr
    have e4 : ¬ (c.toNat : Int) ≤ 90 := by omega
    go_enter Tryz.func89, Tryz.ntmps89
    go_wp2
    go_ret
    exact ⟨by rw [HR.out]; rfl, rfl⟩
  ·have HR := hr false (by simp [h1, h3])
   clear hr
   have e3 : ¬ (65 : Int) ≤ (c.toNat : Int) := by omega
   go_enter Tryz.func89, Tryz.ntmps89
   go_wp2
   go_ret
   exact ⟨by rw [HR.out]; rfl, rfl⟩
theorem digit12_any (c : UInt8) (w : World) : Calls Tryz.prog 90 #[.int .u8 (c.toNat : Int)] w fun e w' => e = .returned (.bool (Ru.digit c)) ∧ w' = w := by
 have hr : ∀ b, decide (48 ≤ c.toNat ∧ c.toNat ≤ 57) = b → Hid (Ru.digit c = b) := fun b h => Lib.hid h
 by_cases h1 : 48 ≤ c.toNat
 ·have e1 : (48 : Int) ≤ (c.toNat : Int) := by omega
  by_cases h2 : c.toNat ≤ 57
  ·have HR := hr true (by simp [h1, h2])
   clear hr
   have e2 : (c.toNat : Int) ≤ 57 := by omega
   go_enter Tryz.func90, Tryz.ntmps90
   go_wp2
   go_ret
   exact ⟨by rw [HR.out]; rfl, rfl⟩
  ·have HR := hr false (by simp [h2])
   clear hr
   have e2 : ¬ (c.toNat : Int) ≤ 57 := by omega
   go_enter Tryz.func90, Tryz.ntmps90
   go_wp2
   go_ret
   exact ⟨by rw [HR.out]; rfl, rfl⟩
 ·have HR := hr false (by simp [h1])
  clear hr
  have e1 : ¬ (48 : Int) ≤ (c.toNat : Int) := by omega
  go_enter Tryz.func90, Tryz.ntmps90
  go_wp2
  go_ret
  exact ⟨by rw [HR.out]; rfl, rfl⟩

theorem nameC_eq {c : UInt8} {l d : Bool} (hl : Ru.letter c = l) (hd : Ru.digit c = d) : Ru.nameC c = (l || d || c == 95 || c == 43 || c == 45) := by unfold Ru.nameC; rw [hl, hd]
theorem nameR_of {s : List UInt8} (h0 : s ≠ []) (h16 : s.length ≤ 16) (ha : s.all Ru.nameC = true) {c : UInt8} (hc : s[0]? = some c) : Ru.nameR s = (Ru.letter c || c == 43) := by
 cases s with
 | nil => exact absurd rfl h0
 | cons x t =>
  have : x = c := by simpa using hc
  subst this
  simp only [Ru.nameR, ha, decide_eq_true h16, Bool.true_and]
theorem nameR_bad {s : List UInt8} {k : Nat} (hk : k < s.length) (h : Ru.nameC s[k] = false) : Ru.nameR s = false := by
 cases s with
 | nil => simp at hk
 | cons x t =>
  have ha : (x :: t).all Ru.nameC = false := by
   rw [List.all_eq_false]
   exact ⟨(x :: t)[k], List.getElem_mem _, by rw [h]; simp⟩
  simp only [Ru.nameR, ha, Bool.and_false, Bool.false_and]
theorem all_take {s : List UInt8} {f : UInt8 → Bool} {k : Nat} (hk : k < s.length) (h : (s.take k).all f = true) (hf : f s[k] = true) : (s.take (k + 1)).all f = true := by
 rw [List.take_add_one, List.getElem?_eq_getElem hk, List.all_append, h]
 simp [hf]
theorem neq_of_toNat {c e : UInt8} (h : c.toNat ≠ e.toNat) : (c == e) = false := by
 rw [beq_eq_false_iff_ne]; intro x; subst x; exact h rfl
theorem eq_of_toNat {c e : UInt8} (h : c.toNat = e.toNat) : (c == e) = true := by
 rw [beq_iff_eq]; exact UInt8.toNat_inj.1 h
set_option maxHeartbeats 4000000 in
set_option maxRecDepth 100000 in
theorem right12_any (s : List UInt8) (hs : s.length ≤ 140737488355328) (w : World) : Calls Tryz.prog 63 #[str s] w fun e w' => e = .returned (.bool (Ru.nameR s)) ∧ w' = w := by
 by_cases h0 : s = []
 ·subst h0
  go_enter Tryz.func63, Tryz.ntmps63
  go_wp2
  go_ret
  exact ⟨rfl, rfl⟩
 ·have hpos : 0 < s.length := List.length_pos_iff.2 h0
  have hp1 : ¬ (s.length : Int) < 1 := by omega
  by_cases h16 : 16 < s.length
  ·have hR : Hid (Ru.nameR s = false) := Lib.hid (by
    cases s with
    | nil => rfl
    | cons x t => have h : ¬ (x :: t).length ≤ 16 := (by omega); simp only [Ru.nameR, decide_eq_false h, Bool.false_and])
   have hq : (16 : Int) < (s.length : Int) := by omega
   go_enter Tryz.func63, Tryz.ntmps63
   go_wp2
   go_ret
   exact ⟨by rw [hR.out]; rfl, rfl⟩
  ·have hq : ¬ (16 : Int) < (s.length : Int) := by omega
   have H0 := Lib.hid h0
   clear h0
   go_enter Tryz.func63, Tryz.ntmps63
   go_wp2_with fail
   go_loopw [3] (fun i wr => ∃ k : Nat, k ≤ s.length ∧ i = .int .i64 (k : Int) ∧ Hid ((s.take k).all Ru.nameC = true) ∧ wr = w) (fun i _ => s.length - (intOf i).toNat)
   case atStart => exact ⟨0, Nat.zero_le _, rfl, Lib.hid (by simp), rfl⟩
   case round =>
    obtain ⟨k, hk, rfl, HA, rfl⟩ := hrel
    by_cases hlt : k < s.length
    ·obtain ⟨c, hc⟩ : ∃ c, s[k] = c := ⟨_, rfl⟩
     have hx : ∀ h', (⟨s.toArray⟩ : ByteArray)[k]'h' = c := fun h' => (show s.toArray[k]'_ = s[k] by simp).trans hc
     have c1 := letter12_any c wr
     have c2 := digit12_any c wr
     have HC := Lib.hid hc
     clear hc
     cases hl : Ru.letter c with
     | true =>
      rw [hl] at c1
      have HG : Hid (Ru.nameC s[k] = true) := Lib.hid (by rw [HC.out]; unfold Ru.nameC; rw [hl]; rfl)
      clear hl
      go_wp2_with (first | (go_at_call 89; refine c1.mono ?_; rintro e w1 ⟨rfl, rfl⟩) | (go_at_call 90; refine c2.mono ?_; rintro e w1 ⟨rfl, rfl⟩))
      go_roundw
      case rel => exact ⟨k + 1, hlt, by go_num, Lib.hid (all_take hlt HA.out HG.out), trivial⟩
      case measure => simp [intOf]; omega
     | false =>
      rw [hl] at c1
      cases hd : Ru.digit c with
      | true =>
       rw [hd] at c2
       have HG : Hid (Ru.nameC s[k] = true) := Lib.hid (by rw [HC.out]; unfold Ru.nameC; rw [hl, hd]; rfl)
       clear hl hd
       go_wp2_with (first | (go_at_call 89; refine c1.mono ?_; rintro e w1 ⟨rfl, rfl⟩) | (go_at_call 90; refine c2.mono ?_; rintro e w1 ⟨rfl, rfl⟩))
       go_roundw
       case rel => exact ⟨k + 1, hlt, by go_num, Lib.hid (all_take hlt HA.out HG.out), trivial⟩
       case measure => simp [intOf]; omega
      | false =>
       rw [hd] at c2
       by_cases h95 : c.toNat = 95
       ·have HG : Hid (Ru.nameC s[k] = true) := Lib.hid (by rw [HC.out]; unfold Ru.nameC; rw [hl, hd, eq_of_toNat (e := 95) h95]; rfl)
        have e95 : ((c.toNat : Int) != 95) = false := by rw [h95]; rfl
        clear hl hd h95
        go_wp2_with (first | (go_at_call 89; refine c1.mono ?_; rintro e w1 ⟨rfl, rfl⟩) | (go_at_call 90; refine c2.mono ?_; rintro e w1 ⟨rfl, rfl⟩))
        go_roundw
        case rel => exact ⟨k + 1, hlt, by go_num, Lib.hid (all_take hlt HA.out HG.out), trivial⟩
        case measure => simp [intOf]; omega
       ·have e95 : ((c.toNat : Int) != 95) = true := by simp; omega
        by_cases h43 : c.toNat = 43
        ·have HG : Hid (Ru.nameC s[k] = true) := Lib.hid (by rw [HC.out]; unfold Ru.nameC; rw [hl, hd, eq_of_toNat (e := 43) h43]; simp)
         have e43 : ((c.toNat : Int) != 43) = false := by rw [h43]; rfl
         clear hl hd h43 h95
         go_wp2_with (first | (go_at_call 89; refine c1.mono ?_; rintro e w1 ⟨rfl, rfl⟩) | (go_at_call 90; refine c2.mono ?_; rintro e w1 ⟨rfl, rfl⟩))
         go_roundw
         case rel => exact ⟨k + 1, hlt, by go_num, Lib.hid (all_take hlt HA.out HG.out), trivial⟩
         case measure => simp [intOf]; omega
        ·have e43 : ((c.toNat : Int) != 43) = true := by simp; omega
         by_cases h45 : c.toNat = 45
         ·have HG : Hid (Ru.nameC s[k] = true) := Lib.hid (by rw [HC.out]; unfold Ru.nameC; rw [hl, hd, eq_of_toNat (e := 45) h45]; simp)
          have e45 : ((c.toNat : Int) != 45) = false := by rw [h45]; rfl
          clear hl hd h45 h43 h95
          go_wp2_with (first | (go_at_call 89; refine c1.mono ?_; rintro e w1 ⟨rfl, rfl⟩) | (go_at_call 90; refine c2.mono ?_; rintro e w1 ⟨rfl, rfl⟩))
          go_roundw
          case rel => exact ⟨k + 1, hlt, by go_num, Lib.hid (all_take hlt HA.out HG.out), trivial⟩
          case measure => simp [intOf]; omega
         ·have e45 : ((c.toNat : Int) != 45) = true := by simp; omega
          have HG : Hid (Ru.nameC s[k] = false) := Lib.hid (by rw [HC.out]; unfold Ru.nameC; rw [hl, hd, neq_of_toNat (e := 95) h95, neq_of_toNat (e := 43) h43, neq_of_toNat (e := 45) h45]; rfl)
          clear hl hd h45 h43 h95
          go_wp2_with (first | (go_at_call 89; refine c1.mono ?_; rintro e w1 ⟨rfl, rfl⟩) | (go_at_call 90; refine c2.mono ?_; rintro e w1 ⟨rfl, rfl⟩))
          go_ret
          exact ⟨by rw [nameR_bad hlt HG.out]; rfl, rfl⟩
    ·obtain rfl : k = s.length := by omega
     have HAA : Hid (s.all Ru.nameC = true) := Lib.hid (by have := HA.out; rwa [List.take_length] at this)
     obtain ⟨c, hc⟩ : ∃ c, s[0]'hpos = c := ⟨_, rfl⟩
     have hx : ∀ h', (⟨s.toArray⟩ : ByteArray)[0]'h' = c := fun h' => (show s.toArray[0]'_ = s[0] by simp).trans hc
     have c1 := letter12_any c wr
     have HR := Lib.hid (nameR_of H0.out (by omega) HAA.out (c := c) (by rw [List.getElem?_eq_getElem hpos, hc]))
     clear hc
     cases hl : Ru.letter c with
     | true =>
      rw [hl] at c1
      have HR2 : Hid (Ru.nameR s = true) := Lib.hid (by rw [HR.out, hl]; rfl)
      clear hl
      go_wp2_with (go_at_call 89; refine c1.mono ?_; rintro e w1 ⟨rfl, rfl⟩)
      go_ret
      exact ⟨by rw [HR2.out]; rfl, rfl⟩
     | false =>
      rw [hl] at c1
      by_cases h43 : c.toNat = 43
      ·have HR2 : Hid (Ru.nameR s = true) := Lib.hid (by rw [HR.out, hl, eq_of_toNat (e := 43) h43]; rfl)
       have e43 : ((c.toNat : Int) == 43) = true := by rw [h43]; rfl
       clear hl h43
       go_wp2_with (go_at_call 89; refine c1.mono ?_; rintro e w1 ⟨rfl, rfl⟩)
       go_ret
       exact ⟨by rw [HR2.out]; rfl, rfl⟩
      ·have HR2 : Hid (Ru.nameR s = false) := Lib.hid (by rw [HR.out, hl, neq_of_toNat (e := 43) h43]; rfl)
       have e43 : ((c.toNat : Int) == 43) = false := by simp; omega
       clear hl h43
       go_wp2_with (go_at_call 89; refine c1.mono ?_; rintro e w1 ⟨rfl, rfl⟩)
       go_ret
       exact ⟨by rw [HR2.out]; rfl, rfl⟩
end Go.Proofs.YtnchipahdfbliaaGreatDoor

namespace Go.Proofs.YtnchipahdfbliaaGreatDoor
open Go.RowKit

def findI (c : UInt8) (s : List UInt8) : Int := match Wr.cut1 c s with
 | some (d, _) => d.length
 | none => -1
set_option maxHeartbeats 4000000 in
set_option maxRecDepth 100000 in
theorem find_any (s : List UInt8) (c : UInt8) (hs : s.length ≤ 140737488355328) (w : World) : Calls Tryz.prog 158 #[str s, .int .u8 (c.toNat : Int)] w fun e w' => e = .returned (.int .i64 (findI c s)) ∧ w' = w := by
 have hl0 : (0 : Int) ≤ (s.length : Int) := by omega
 go_enter Tryz.func158, Tryz.ntmps158
 go_wp2_with fail
 go_loopw [5] (fun i wr => ∃ k : Nat, k ≤ s.length ∧ i = .int .i64 (k : Int) ∧ Hid (∀ i, i < k → s[i]? ≠ some c) ∧ wr = w) (fun i _ => s.length - (intOf i).toNat)
 case atStart => exact ⟨0, Nat.zero_le _, rfl, Lib.hid (fun i hi => by omega), rfl⟩
 case round =>
  obtain ⟨k, hk, rfl, HA, rfl⟩ := hrel
  by_cases hlt : k < s.length
  ·obtain ⟨x, hc⟩ : ∃ c, s[k] = c := ⟨_, rfl⟩
   have hx : ∀ h', (⟨s.toArray⟩ : ByteArray)[k]'h' = x := fun h' => (show s.toArray[k]'_ = s[k] by simp).trans hc
   have HC : Hid (s[k]? = some x) := Lib.hid (by rw [List.getElem?_eq_getElem hlt, hc])
   clear hc
   by_cases he : x.toNat = c.toNat
   ·have hb : ((x.toNat : Int) == (c.toNat : Int)) = true := by rw [he]; simp
    have HR : Hid (findI c s = (k : Int)) := Lib.hid (by
     unfold findI
     have hxc : x = c := UInt8.toNat_inj.1 he
     rw [Wr.cut1_of_prefix k HA.out (by rw [HC.out, hxc])]
     simp; omega)
    clear he
    go_wp2_with fail
    go_ret
    exact ⟨by rw [HR.out]; rfl, rfl⟩
   ·have hb : ((x.toNat : Int) == (c.toNat : Int)) = false := by simp; omega
    have HA2 : Hid (∀ i, i < k + 1 → s[i]? ≠ some c) := Lib.hid fun i hi => by
     rcases Nat.lt_or_ge i k with h | h
     ·exact HA.out i h
     ·obtain rfl : i = k := by omega
      rw [HC.out]
      intro e
      injection e with e
      exact he (by rw [e])
    clear he
    go_wp2_with fail
    go_roundw
    case rel => exact ⟨k + 1, hlt, by go_num, HA2, trivial⟩
    case measure => simp [intOf]; omega
  ·obtain rfl : k = s.length := by omega
   have HR : Hid (findI c s = -1) := Lib.hid (by unfold findI; rw [Wr.cut1_none_of HA.out])
   go_wp2_with fail
   go_ret
   exact ⟨by rw [HR.out]; rfl, rfl⟩

/-! ### Decimal forms -/
theorem itoa_digit {n : Int} (h0 : 0 ≤ n) (h1 : n < 10) : Lib.itoa n = [UInt8.ofNat (48 + n.toNat)] := by
 unfold Lib.itoa; rw [if_neg (by omega), Wr.dec_small (by omega)]
theorem itoa_big {n : Int} (h1 : 10 ≤ n) : Lib.itoa n = Lib.itoa (n / 10) ++ Lib.itoa (n % 10) := by
 rw [itoa_digit (n := n % 10) (by omega) (by omega)]
 unfold Lib.itoa; rw [if_neg (by omega), if_neg (by omega), Wr.dec_big (by omega), show (n / 10).toNat = n.toNat / 10 by omega, show (n % 10).toNat = n.toNat % 10 by omega]
theorem itoa_neg {n : Int} (h : n < 0) : Lib.itoa n = 45 :: Lib.itoa (-n) := by
 unfold Lib.itoa; rw [if_pos h, if_neg (by omega), show n.natAbs = (-n).toNat by omega]
theorem digit_conv (d : Int) (h0 : 0 ≤ d) (h1 : d < 10) (w : World) : (convert 72 9 (.slice (some ⟨w.heap.size, 0, none⟩) 1 1)).run Tryz.prog (w.alloc (.cells #[.int .u8 (48 + d)] 5)) = .ok (.string ⟨(Lib.itoa d).toArray⟩) (w.alloc (.cells #[.int .u8 (48 + d)] 5)) := by
 have h := run_convert_bytes_back (P := Tryz.prog) (w.alloc (.cells #[.int .u8 (48 + d)] 5)) 72 9 5 ⟨w.heap.size, 0, none⟩ 1 [UInt8.ofNat (48 + d.toNat)] Tryz.underlying72 Tryz.underlying5 Tryz.underlying9 (fun j hj => by
  have : j = 0 := by simpa using hj
  subst this
  show (w.alloc _).cell? ⟨w.heap.size, 0 + 0, none⟩ = _
  simp only [World.cell?, heap_alloc_new]
  have e := Wr.digit_toNat (d := d.toNat) (by omega)
  simp only [List.getElem_cons_zero, e]
  simp; omega)
 rw [itoa_digit h0 h1]; exact h
def DecIs (f : FuncId) (n : Int) : Prop := ∀ w : World, Calls Tryz.prog f #[.int .i64 n] w (fun e w' => e = .returned (str (Lib.itoa n)) ∧ Kp w w' none)

set_option maxHeartbeats 1000000 in
set_option maxRecDepth 100000 in
theorem dec46_digit (n : Int) (h0 : 0 ≤ n) (h1 : n < 10) : DecIs 46 n := by
 intro w
 have hcv := digit_conv n h0 h1 w
 have h9 : ¬ n < 0 := by omega
 go_enter Tryz.func46, Tryz.ntmps46
 go_wp2
 go_ret
 exact ⟨rfl, (Kp.refl _ _).alloc _⟩
set_option maxHeartbeats 1000000 in
set_option maxRecDepth 100000 in
theorem dec46_pos (n : Int) (h0 : 10 ≤ n) (hn : Wr.I64 n) (h1 : DecIs 46 (n / 10)) : DecIs 46 n := by
 intro w
 have l1 := Wr.itoa_length (n / 10) (by unfold Wr.I64 at *; omega)
 have l2 := Wr.itoa_length (n % 10) (by unfold Wr.I64 at *; omega)
 unfold Wr.I64 at hn
 have HD := Lib.hid (itoa_big h0)
 have h2 := dec46_digit (n % 10) (by omega) (by omega)
 have h9 : ¬ n < 0 := by omega
 go_enter Tryz.func46, Tryz.ntmps46
 go_wp2_with fail
 refine (h1 _).mono ?_
 rintro e w1 ⟨rfl, k1⟩
 have K1 := Lib.hid k1
 clear k1
 go_wp2_with fail
 refine (h2 _).mono ?_
 rintro e w2 ⟨rfl, k2⟩
 have K2 := Lib.hid k2
 clear k2 h1 h2
 go_wp2_with fail
 go_ret
 exact ⟨ret_str (by rw [HD.out, cat_eq]), K1.out.trans K2.out⟩

set_option maxHeartbeats 1000000 in
set_option maxRecDepth 100000 in
theorem dec152_digit (n : Int) (h0 : 0 ≤ n) (h1 : n < 10) : DecIs 152 n := by
 intro w
 have hcv := digit_conv n h0 h1 w
 go_enter Tryz.func152, Tryz.ntmps152
 go_wp2
 go_ret
 exact ⟨rfl, (Kp.refl _ _).alloc _⟩
set_option maxHeartbeats 1000000 in
set_option maxRecDepth 100000 in
theorem dec152_pos (n : Int) (h0 : 10 ≤ n) (hn : Wr.I64 n) (h1 : DecIs 152 (n / 10)) : DecIs 152 n := by
 intro w
 have l1 := Wr.itoa_length (n / 10) (by unfold Wr.I64 at *; omega)
 have l2 := Wr.itoa_length (n % 10) (by unfold Wr.I64 at *; omega)
 unfold Wr.I64 at hn
 have HD := Lib.hid (itoa_big h0)
 have h2 := dec152_digit (n % 10) (by omega) (by omega)
 go_enter Tryz.func152, Tryz.ntmps152
 go_wp2_with fail
 refine (h1 _).mono ?_
 rintro e w1 ⟨rfl, k1⟩
 have K1 := Lib.hid k1
 clear k1
 go_wp2_with fail
 refine (h2 _).mono ?_
 rintro e w2 ⟨rfl, k2⟩
 have K2 := Lib.hid k2
 clear k2 h1 h2
 go_wp2_with fail
 go_ret
 exact ⟨ret_str (by rw [HD.out, cat_eq]), K1.out.trans K2.out⟩

set_option maxHeartbeats 1000000 in
set_option maxRecDepth 100000 in
theorem dec46_neg (n : Int) (h0 : n < 0) (hn : -9223372036854775808 < n) (h1 : DecIs 46 (-n)) : DecIs 46 n := by
 intro w
 have l1 := Wr.itoa_length (-n) (by unfold Wr.I64 at *; omega)
 have HD := Lib.hid (itoa_neg h0)
 go_enter Tryz.func46, Tryz.ntmps46
 go_wp2_with fail
 refine (h1 _).mono ?_
 rintro e w1 ⟨rfl, k1⟩
 have K1 := Lib.hid k1
 clear k1
 go_wp2_with fail
 go_ret
 exact ⟨ret_str (by rw [HD.out]; exact cat_eq [45] _), K1.out⟩
theorem dec46_nat : ∀ (k : Nat) (n : Int), 0 ≤ n → n.toNat < k → Wr.I64 n → DecIs 46 n
 | 0, n, h, hk, _ => by omega
 | k + 1, n, h, hk, hn => by
  by_cases h' : n < 10
  ·exact dec46_digit n h h'
  ·exact dec46_pos n (by omega) hn (dec46_nat k _ (by omega) (by omega) (by unfold Wr.I64 at *; omega))
theorem dec46_any (n : Int) (hn : Wr.I64 n) (h : n ≠ -9223372036854775808) : DecIs 46 n := by
 by_cases h0 : n < 0
 ·unfold Wr.I64 at hn
  exact dec46_neg n h0 (by omega) (dec46_nat _ _ (by omega) (Nat.lt_succ_self _) (by unfold Wr.I64; omega))
 ·exact dec46_nat _ n (by omega) (Nat.lt_succ_self _) hn
theorem dec152_any : ∀ (k : Nat) (n : Int), 0 ≤ n → n.toNat < k → Wr.I64 n → DecIs 152 n
 | 0, n, h, hk, _ => by omega
 | k + 1, n, h, hk, hn => by
  by_cases h' : n < 10
  ·exact dec152_digit n h h'
  ·exact dec152_pos n (by omega) hn (dec152_any k _ (by omega) (by omega) (by unfold Wr.I64 at *; omega))

end Go.Proofs.YtnchipahdfbliaaGreatDoor

namespace Go.Proofs.YtnchipahdfbliaaGreatDoor
open Go.RowKit

set_option maxHeartbeats 4000000 in
set_option maxRecDepth 100000 in
theorem index12_any (s : List UInt8) (hs : s.length ≤ 140737488355328) (w : World) : Calls Tryz.prog 159 #[str s] w fun e w' => e = .returned (.int .i64 (Ru.idxR s)) ∧ w' = w := by
 by_cases h0 : s.length < 1
 ·have HR : Hid (Ru.idxR s = -1) := Lib.hid (by unfold Ru.idxR; rw [if_pos (.inl h0)])
  have e0 : (s.length : Int) < 1 := by omega
  go_enter Tryz.func159, Tryz.ntmps159
  go_wp2
  go_ret
  exact ⟨by rw [HR.out]; rfl, rfl⟩
 ·have e0 : ¬ (s.length : Int) < 1 := by omega
  by_cases h3 : 3 < s.length
  ·have HR : Hid (Ru.idxR s = -1) := Lib.hid (by unfold Ru.idxR; rw [if_pos (.inr (.inl h3))])
   have e1 : (3 : Int) < (s.length : Int) := by omega
   go_enter Tryz.func159, Tryz.ntmps159
   go_wp2
   go_ret
   exact ⟨by rw [HR.out]; rfl, rfl⟩
  ·have e1 : ¬ (3 : Int) < (s.length : Int) := by omega
   obtain ⟨c, hc⟩ : ∃ c, s[0]'(by omega) = c := ⟨_, rfl⟩
   have hh : s.head? = some c := by rw [List.head?_eq_getElem?, List.getElem?_eq_getElem (by omega), hc]
   have hx0 : ∀ h', (⟨s.toArray⟩ : ByteArray)[0]'h' = c := fun h' => (show s.toArray[0]'_ = s[0]'(by omega) by simp).trans hc
   clear hc
   by_cases h1 : 1 < s.length
   ·have e2 : (1 : Int) < (s.length : Int) := by omega
    by_cases hz : c.toNat = 48
    ·have HR : Hid (Ru.idxR s = -1) := Lib.hid (by unfold Ru.idxR; rw [if_pos (.inr (.inr ⟨h1, by rw [hh]; congr 1; exact UInt8.toNat_inj.1 hz⟩))])
     have e3 : ((c.toNat : Int) == 48) = true := by rw [hz]; rfl
     clear hz hh
     go_enter Tryz.func159, Tryz.ntmps159
     go_wp2
     go_ret
     exact ⟨by rw [HR.out]; rfl, rfl⟩
    ·have e3 : ((c.toNat : Int) == 48) = false := by simp; omega
     have HN : Hid (¬ (s.length < 1 ∨ 3 < s.length ∨ (1 < s.length ∧ s.head? = some 48))) := Lib.hid (by
      intro h
      rcases h with h | h | ⟨_, h⟩
      ·omega
      ·omega
      ·rw [hh] at h; injection h with h; exact hz (by rw [h]; rfl))
     clear hz hh
     go_enter Tryz.func159, Tryz.ntmps159
     go_wp2_with fail
     go_loopw [3, 4] (fun v i wr => ∃ k : Nat, k ≤ s.length ∧ i = .int .i64 (k : Int) ∧ Hid (Ru.digits (s.take k)) ∧ (∃ z : Nat, z < 1000 ∧ v = .int .i64 (z : Int) ∧ Hid (Wr.dv (s.take k) = z)) ∧ wr = w) (fun _ i _ => s.length - (intOf i).toNat)
     case atStart => exact ⟨0, Nat.zero_le _, rfl, Lib.hid (fun c hc => by simp at hc), ⟨0, by omega, rfl, Lib.hid (by simp [Wr.dv])⟩, rfl⟩
     case round =>
      obtain ⟨k, hk, rfl, HA, ⟨z, hz, rfl, HZ⟩, rfl⟩ := hrel
      by_cases hlt : k < s.length
      ·obtain ⟨x, hc⟩ : ∃ c, s[k] = c := ⟨_, rfl⟩
       have hx : ∀ h', (⟨s.toArray⟩ : ByteArray)[k]'h' = x := fun h' => (show s.toArray[k]'_ = s[k] by simp).trans hc
       have HC : Hid (s[k] = x) := Lib.hid hc
       have c2 := digit12_any x wr
       clear hc
       by_cases hd : 48 ≤ x.toNat ∧ x.toNat ≤ 57
       ·have hdg : Ru.digit x = true := by unfold Ru.digit; exact decide_eq_true hd
        rw [hdg] at c2
        have HA2 : Hid (Ru.digits (s.take (k + 1))) := Lib.hid fun c hc => by
         rw [List.take_add_one, List.getElem?_eq_getElem hlt, List.mem_append] at hc
         rcases hc with hc | hc
         ·exact HA.out c hc
         ·rw [HC.out] at hc
          obtain rfl : c = x := by simpa using hc
          exact hd
        obtain ⟨y, hy⟩ : ∃ y : Nat, x.toNat - 48 = y := ⟨_, rfl⟩
        have hxy : (x.toNat : Int) - 48 = (y : Int) := by omega
        have hy9 : y ≤ 9 := by omega
        have hzz : 10 * z + y < 1000 := by
         have h1 := Ru.dv_all HA2.out
         have h2 : (s.take (k + 1)).length ≤ 3 := by rw [List.length_take]; omega
         have h3 : 10 ^ (s.take (k + 1)).length ≤ 10 ^ 3 := Nat.pow_le_pow_right (by omega) h2
         rw [Wr.dv_step s k hlt, HZ.out, HC.out] at h1
         omega
        have HZ2 : Hid (Wr.dv (s.take (k + 1)) = 10 * z + y) := Lib.hid (by rw [Wr.dv_step s k hlt, HZ.out, HC.out, hy])
        have hz0 : (0 : Int) ≤ (z : Int) := by omega
        have hz1 : (z : Int) < 1000 := by omega
        have hy0 : (0 : Int) ≤ (y : Int) := by omega
        have hy1 : (y : Int) ≤ 9 := by omega
        clear hd hdg hy
        go_wp2_with (go_at_call 90; refine c2.mono ?_; rintro e w1 ⟨rfl, rfl⟩)
        try rw [hxy]
        go_wp2_with fail
        go_roundw
        case rel => exact ⟨k + 1, hlt, by go_num, HA2, ⟨10 * z + y, hzz, by go_num, HZ2⟩, trivial⟩
        case measure => simp [intOf]; omega
       ·have hdg : Ru.digit x = false := by unfold Ru.digit; exact decide_eq_false hd
        rw [hdg] at c2
        have HR : Hid (Ru.idxR s = -1) := Lib.hid (by
         unfold Ru.idxR
         split; · rfl
         rw [if_neg]
         intro h
         have := h s[k] (List.getElem_mem _)
         rw [HC.out] at this
         exact hd this)
        clear hd hdg
        go_wp2_with (go_at_call 90; refine c2.mono ?_; rintro e w1 ⟨rfl, rfl⟩)
        go_ret
        exact ⟨by rw [HR.out]; rfl, rfl⟩
      ·obtain rfl : k = s.length := by omega
       have HR : Hid (Ru.idxR s = (z : Int)) := Lib.hid (by
        have h1 := HA.out
        have h2 := HZ.out
        rw [List.take_length] at h1 h2
        unfold Ru.idxR
        rw [if_neg HN.out, if_pos h1, h2])
       go_wp2_with fail
       go_ret
       exact ⟨by rw [HR.out]; rfl, rfl⟩
   ·have e2 : ¬ (1 : Int) < (s.length : Int) := by omega
    have HN : Hid (¬ (s.length < 1 ∨ 3 < s.length ∨ (1 < s.length ∧ s.head? = some 48))) := Lib.hid (by omega)
    clear hh
    go_enter Tryz.func159, Tryz.ntmps159
    go_wp2_with fail
    go_loopw [3, 4] (fun v i wr => ∃ k : Nat, k ≤ s.length ∧ i = .int .i64 (k : Int) ∧ Hid (Ru.digits (s.take k)) ∧ (∃ z : Nat, z < 1000 ∧ v = .int .i64 (z : Int) ∧ Hid (Wr.dv (s.take k) = z)) ∧ wr = w) (fun _ i _ => s.length - (intOf i).toNat)
    case atStart => exact ⟨0, Nat.zero_le _, rfl, Lib.hid (fun c hc => by simp at hc), ⟨0, by omega, rfl, Lib.hid (by simp [Wr.dv])⟩, rfl⟩
    case round =>
     obtain ⟨k, hk, rfl, HA, ⟨z, hz, rfl, HZ⟩, rfl⟩ := hrel
     by_cases hlt : k < s.length
     ·obtain ⟨x, hc⟩ : ∃ c, s[k] = c := ⟨_, rfl⟩
      have hx : ∀ h', (⟨s.toArray⟩ : ByteArray)[k]'h' = x := fun h' => (show s.toArray[k]'_ = s[k] by simp).trans hc
      have HC : Hid (s[k] = x) := Lib.hid hc
      have c2 := digit12_any x wr
      clear hc
      by_cases hd : 48 ≤ x.toNat ∧ x.toNat ≤ 57
      ·have hdg : Ru.digit x = true := by unfold Ru.digit; exact decide_eq_true hd
       rw [hdg] at c2
       have HA2 : Hid (Ru.digits (s.take (k + 1))) := Lib.hid fun c hc => by
        rw [List.take_add_one, List.getElem?_eq_getElem hlt, List.mem_append] at hc
        rcases hc with hc | hc
        ·exact HA.out c hc
        ·rw [HC.out] at hc
         obtain rfl : c = x := by simpa using hc
         exact hd
       obtain ⟨y, hy⟩ : ∃ y : Nat, x.toNat - 48 = y := ⟨_, rfl⟩
       have hxy : (x.toNat : Int) - 48 = (y : Int) := by omega
       have hy9 : y ≤ 9 := by omega
       have hzz : 10 * z + y < 1000 := by
        have h1 := Ru.dv_all HA2.out
        have h2 : (s.take (k + 1)).length ≤ 3 := by rw [List.length_take]; omega
        have h3 : 10 ^ (s.take (k + 1)).length ≤ 10 ^ 3 := Nat.pow_le_pow_right (by omega) h2
        rw [Wr.dv_step s k hlt, HZ.out, HC.out] at h1
        omega
       have HZ2 : Hid (Wr.dv (s.take (k + 1)) = 10 * z + y) := Lib.hid (by rw [Wr.dv_step s k hlt, HZ.out, HC.out, hy])
       have hz0 : (0 : Int) ≤ (z : Int) := by omega
       have hz1 : (z : Int) < 1000 := by omega
       have hy0 : (0 : Int) ≤ (y : Int) := by omega
       have hy1 : (y : Int) ≤ 9 := by omega
       clear hd hdg hy
       go_wp2_with (go_at_call 90; refine c2.mono ?_; rintro e w1 ⟨rfl, rfl⟩)
       try rw [hxy]
       go_wp2_with fail
       go_roundw
       case rel => exact ⟨k + 1, hlt, by go_num, HA2, ⟨10 * z + y, hzz, by go_num, HZ2⟩, trivial⟩
       case measure => simp [intOf]; omega
      ·have hdg : Ru.digit x = false := by unfold Ru.digit; exact decide_eq_false hd
       rw [hdg] at c2
       have HR : Hid (Ru.idxR s = -1) := Lib.hid (by
        unfold Ru.idxR
        split; · rfl
        rw [if_neg]
        intro h
        have := h s[k] (List.getElem_mem _)
        rw [HC.out] at this
        exact hd this)
       clear hd hdg
       go_wp2_with (go_at_call 90; refine c2.mono ?_; rintro e w1 ⟨rfl, rfl⟩)
       go_ret
       exact ⟨by rw [HR.out]; rfl, rfl⟩
     ·obtain rfl : k = s.length := by omega
      have HR : Hid (Ru.idxR s = (z : Int)) := Lib.hid (by
       have h1 := HA.out
       have h2 := HZ.out
       rw [List.take_length] at h1 h2
       unfold Ru.idxR
       rw [if_neg HN.out, if_pos h1, h2])
      go_wp2_with fail
      go_ret
      exact ⟨by rw [HR.out]; rfl, rfl⟩

set_option maxHeartbeats 4000000 in
set_option maxRecDepth 100000 in
theorem has12_any (xs : List (List UInt8)) (x : List UInt8) (ao : Option Addr) (cap n : Nat) (w : World) (hl : LiesAt 1 strVal w ao cap xs) (hn : xs.length = n) (hm : n ≤ 1000000000000) : Calls Tryz.prog 64 #[.slice ao n cap, str x] w fun e w' => e = .returned (.bool (decide (x ∈ xs))) ∧ w' = w := by
 have hl0 : (0 : Int) ≤ (n : Int) := by omega
 have HL := Lib.hid hl
 have HN := Lib.hid hn
 clear hl hn
 go_enter Tryz.func64, Tryz.ntmps64
 go_wp2_with fail
 go_loopw [5] (fun i wr => ∃ k : Nat, k ≤ n ∧ i = .int .i64 (k : Int) ∧ Hid (x ∉ xs.take k) ∧ wr = w) (fun i _ => n - (intOf i).toNat)
 case atStart => exact ⟨0, Nat.zero_le _, rfl, Lib.hid (by simp), rfl⟩
 case round =>
  obtain ⟨k, hk, rfl, HA, rfl⟩ := hrel
  by_cases hlt : k < n
  ·have h1 : k < xs.length := by rw [HN.out]; exact hlt
   obtain ⟨y, hy⟩ : ∃ c, xs[k] = c := ⟨_, rfl⟩
   obtain ⟨b, off, hao, hbl, hcap, hcc⟩ := LiesAt.str HL.out k h1
   subst hao
   have hc := hcc k h1
   rw [hy] at hc
   have hcap2 : n ≤ cap := by have := HN.out; omega
   have HY := Lib.hid hy
   clear hcc hy hcap
   by_cases he : y = x
   ·have hb : (y == x) = true := by rw [he]; simp
    have HR : Hid (decide (x ∈ xs) = true) := Lib.hid (decide_eq_true (by rw [← he, ← HY.out]; exact List.getElem_mem _))
    clear he
    go_wp2_with fail
    go_ret
    exact ⟨by rw [HR.out]; rfl, rfl⟩
   ·have hb : (y == x) = false := by simpa using he
    have HA2 : Hid (x ∉ xs.take (k + 1)) := Lib.hid (by
     rw [List.take_add_one, List.getElem?_eq_getElem h1, HY.out]
     intro h
     rcases List.mem_append.1 h with h | h
     ·exact HA.out h
     ·have h : x = y := by simpa using h
      exact he h.symm)
    clear he
    go_wp2_with fail
    go_roundw
    case rel => exact ⟨k + 1, hlt, by go_num, HA2, trivial⟩
    case measure => simp [intOf]; omega
  ·obtain rfl : k = n := by omega
   have HR : Hid (decide (x ∈ xs) = false) := Lib.hid (decide_eq_false (by have := HA.out; rwa [← HN.out, List.take_length] at this))
   go_wp2_with fail
   go_ret
   exact ⟨by rw [HR.out]; rfl, rfl⟩
end Go.Proofs.YtnchipahdfbliaaGreatDoor
