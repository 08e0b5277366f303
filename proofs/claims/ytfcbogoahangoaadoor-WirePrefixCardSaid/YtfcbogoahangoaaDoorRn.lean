/- The reference's reading of a number, walked. Conditions: the string that is read is shorter than 2^31 bytes. -/
import Derived.Test.YtfcbogoahangoaaDoorRf
namespace Go.Proofs.YtfcbogoahangoaaDoor
open Go.RowKit

/-- How the reference's number ends: it moves on only if there is one. -/
def RNumEnds (q : Nat) (S : List UInt8) (w : World) (o : Option (Int × List UInt8)) (E : Ending) (w' : World) : Prop :=
  match o with
  | some (n, l) => E = .returned (.tuple #[.int .i64 n, .bool true]) ∧ RfIs w' q S (some l) ∧ Kp w w' (some q)
  | none => E = .returned (.tuple #[.int .i64 0, .bool false]) ∧ Kp w w' none

theorem rnum_bad (q : Nat) (S : List UInt8) (en : Int) (w : World) (h : RfIs w q S none) : Calls Tryd.prog 43 #[.pointer (some ⟨q, 0, none⟩), .int .u8 en] w (RNumEnds q S w none) := by
  obtain ⟨p, hp, hl, h⟩ := h
  have c2 : w.cell? ⟨q, 2, none⟩ = some (.bool true) := by simp [World.cell?, h]
  clear h hl
  go_enter Tryd.func43, Tryd.ntmps43
  go_wp2
  go_ret2
  exact ⟨rfl, Kp.refl _ _⟩

theorem byte_at (S : List UInt8) (i : Nat) (_h : i < S.length) : ∀ h', (⟨S.toArray⟩ : ByteArray)[i]'h' = S[i] := fun _ => by
  show S.toArray[i]'_ = _; simp

theorem u8_ne {a b : UInt8} {n : Int} (hb : (b.toNat : Int) = n) (h : a ≠ b) : ((a.toNat : Int) != n) = true := by
  rw [bne_iff_ne, ← hb]; intro e; exact h (UInt8.toNat_inj.1 (by omega))
theorem u8_eq {a b : UInt8} {n : Int} (hb : (b.toNat : Int) = n) (h : a = b) : ((a.toNat : Int) != n) = false := by
  rw [h, hb]; simp

set_option maxHeartbeats 2000000 in
set_option maxRecDepth 100000 in
theorem rnum_end (q p : Nat) (S : List UInt8) (e : UInt8) (en : Int) (w : World) (he : (e.toNat : Int) = en) (hS : S.length < 2147483648) (hp : p ≤ S.length) (h : w.heap[q]? = some (.cells #[.string ⟨S.toArray⟩, .int .i64 p, .bool false] 59 (0, 0)))
    (hJ : S.length ≤ p + 21) (hno : ∀ i, i < S.length → p ≤ i → S[i]? ≠ some e) : Calls Tryd.prog 43 #[.pointer (some ⟨q, 0, none⟩), .int .u8 en] w (RNumEnds q S w none) := by
  have c0 : w.cell? ⟨q, 0, none⟩ = some (.string ⟨S.toArray⟩) := by simp [World.cell?, h]
  have c1 : w.cell? ⟨q, 1, none⟩ = some (.int .i64 p) := by simp [World.cell?, h]
  have c2 : w.cell? ⟨q, 2, none⟩ = some (.bool false) := by simp [World.cell?, h]
  have HNO := Lib.hid hno
  have HEN := Lib.hid he
  clear h hno he
  go_enter Tryd.func43, Tryd.ntmps43
  go_wp2
  go_loop [6] (fun t => ∃ i : Nat, p ≤ i ∧ i ≤ S.length ∧ t = .int .i64 i) (fun t => S.length - (intOf t).toNat)
  case atStart => exact ⟨p, Nat.le_refl _, hp, rfl⟩
  case round =>
    obtain ⟨i, hi, hiS, rfl⟩ := hrel
    by_cases hlt : i < S.length
    · obtain ⟨c, hc⟩ : ∃ c, S[i] = c := ⟨_, rfl⟩
      have hx : ∀ h', (⟨S.toArray⟩ : ByteArray)[i]'h' = c := fun h' => (byte_at S i hlt h').trans hc
      have hne : ((c.toNat : Int) != en) = true := u8_ne HEN.out (fun h => HNO.out i hlt hi (by rw [List.getElem?_eq_getElem hlt, hc, h]))
      clear hc
      go_wp2
      go_round
      case rel => exact ⟨i + 1, by omega, by omega, by go_num⟩
      case measure => simp [intOf]; omega
    · have : i = S.length := by omega
      subst this
      go_wp2
      go_ret2
      exact ⟨rfl, Kp.refl _ _⟩

set_option maxHeartbeats 2000000 in
set_option maxRecDepth 100000 in
theorem rnum_far (q p : Nat) (S : List UInt8) (e : UInt8) (en : Int) (w : World) (he : (e.toNat : Int) = en) (hS : S.length < 2147483648) (h : w.heap[q]? = some (.cells #[.string ⟨S.toArray⟩, .int .i64 p, .bool false] 59 (0, 0)))
    (hJ : p + 21 < S.length) (hno : ∀ i, i < S.length → p ≤ i → i ≤ p + 21 → S[i]? ≠ some e) : Calls Tryd.prog 43 #[.pointer (some ⟨q, 0, none⟩), .int .u8 en] w (RNumEnds q S w none) := by
  have c0 : w.cell? ⟨q, 0, none⟩ = some (.string ⟨S.toArray⟩) := by simp [World.cell?, h]
  have c1 : w.cell? ⟨q, 1, none⟩ = some (.int .i64 p) := by simp [World.cell?, h]
  have c2 : w.cell? ⟨q, 2, none⟩ = some (.bool false) := by simp [World.cell?, h]
  have HNO := Lib.hid hno
  have HEN := Lib.hid he
  clear h hno he
  go_enter Tryd.func43, Tryd.ntmps43
  go_wp2
  go_loop [6] (fun t => ∃ i : Nat, p ≤ i ∧ i ≤ p + 21 ∧ t = .int .i64 i) (fun t => S.length - (intOf t).toNat)
  case atStart => exact ⟨p, Nat.le_refl _, by omega, rfl⟩
  case round =>
    obtain ⟨i, hi, hiS, rfl⟩ := hrel
    have hlt : i < S.length := by omega
    obtain ⟨c, hc⟩ : ∃ c, S[i] = c := ⟨_, rfl⟩
    have hx : ∀ h', (⟨S.toArray⟩ : ByteArray)[i]'h' = c := fun h' => (byte_at S i hlt h').trans hc
    have hne : ((c.toNat : Int) != en) = true := u8_ne HEN.out (fun h => HNO.out i hlt hi hiS (by rw [List.getElem?_eq_getElem hlt, hc, h]))
    clear hc
    by_cases h21 : i < p + 21
    · go_wp2
      go_round
      case rel => exact ⟨i + 1, by omega, by omega, by go_num⟩
      case measure => simp [intOf]; omega
    · go_wp2
      go_ret2
      exact ⟨rfl, Kp.refl _ _⟩

end Go.Proofs.YtfcbogoahangoaaDoor
