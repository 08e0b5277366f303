/- The reference's line: taking some bytes; the value of a hexadecimal digit. Condition: what is read is shorter than 2^31 bytes. -/
import Derived.Test.YtldjhjbodhhnbaaDoorRw
namespace Go.Proofs.YtldjhjbodhhnbaaDoor
open Go.RowKit

/-- What is left of a line. -/
def LnIs (w : World) (x : Nat) (S : List UInt8) (bad : Bool) : Prop := w.heap[x]? = some (.cells #[.string ⟨S.toArray⟩, .bool bad] 66 (0, 0))
theorem LnIs.c0 {w : World} {x : Nat} {S : List UInt8} {bad : Bool} (h : LnIs w x S bad) : w.cell? ⟨x, 0, none⟩ = some (.string ⟨S.toArray⟩) := by rw [Lib.cell_of_heap h]; rfl
theorem LnIs.c1 {w : World} {x : Nat} {S : List UInt8} {bad : Bool} (h : LnIs w x S bad) : w.cell? ⟨x, 1, none⟩ = some (.bool bad) := by rw [Lib.cell_of_heap h]; rfl
theorem LnIs.keep {w w' : World} {x : Nat} {S : List UInt8} {bad : Bool} {row : Option Nat} (h : LnIs w x S bad) (k : Kp w w' row) (hr : row ≠ some x) : LnIs w' x S bad := (k.block x (lt_of_block h) (fun e => hr e.symm)).trans h
def TextEnds (w : World) (x : Nat) (S : List UInt8) (bad : Bool) (o : Option (List UInt8)) (E : Ending) (w' : World) : Prop :=
  E = .returned (.tuple #[]) ∧ (match o with | some r => LnIs w' x r bad | none => LnIs w' x S true) ∧ Kp w w' (some x)
set_option maxHeartbeats 1000000 in
set_option maxRecDepth 100000 in
theorem text_short (x : Nat) (S t : List UInt8) (bad : Bool) (w : World) (h : LnIs w x S bad) (hl : S.length < t.length) : Calls Tryd.prog 43 #[.pointer (some ⟨x, 0, none⟩), .string ⟨t.toArray⟩] w (TextEnds w x S bad none) := by
  have c0 := h.c0
  have c1 := h.c1
  have f1 : w.frozen? ⟨x, 1, none⟩ = false := Lib.frozen_of_heap h 1
  have H := Lib.hid h
  have hl2 : (S.length : Int) < (t.length : Int) := by omega
  clear h
  go_enter Tryd.func43, Tryd.ntmps43
  go_wp2
  go_end0
  exact ⟨rfl, heap_set H.out, (Kp.refl _ _).set _⟩
set_option maxHeartbeats 1000000 in
set_option maxRecDepth 100000 in
theorem text_no (x : Nat) (S t : List UInt8) (bad : Bool) (w : World) (h : LnIs w x S bad) (hl : t.length ≤ S.length) (ht : ¬ S.take t.length = t) : Calls Tryd.prog 43 #[.pointer (some ⟨x, 0, none⟩), .string ⟨t.toArray⟩] w (TextEnds w x S bad none) := by
  have c0 := h.c0
  have c1 := h.c1
  have f1 : w.frozen? ⟨x, 1, none⟩ = false := Lib.frozen_of_heap h 1
  have H := Lib.hid h
  have hl2 : (t.length : Int) ≤ (S.length : Int) := by omega
  have hl0 : (0 : Int) ≤ (t.length : Int) := by omega
  have hx : (⟨S.toArray⟩ : ByteArray).extract 0 t.length = ⟨(S.take t.length).toArray⟩ := ext_take _ _
  have hne : (S.take t.length != t) = true := by simpa using ht
  have hn2 : (S.take t.length == t) = false := by simpa using ht
  clear h ht
  go_enter Tryd.func43, Tryd.ntmps43
  go_wp2
  go_end0
  exact ⟨rfl, heap_set H.out, (Kp.refl _ _).set _⟩
set_option maxHeartbeats 1000000 in
set_option maxRecDepth 100000 in
theorem text_yes (x : Nat) (t r : List UInt8) (bad : Bool) (w : World) (h : LnIs w x (t ++ r) bad) : Calls Tryd.prog 43 #[.pointer (some ⟨x, 0, none⟩), .string ⟨t.toArray⟩] w (TextEnds w x (t ++ r) bad (some r)) := by
  obtain ⟨S, hS⟩ : ∃ S, t ++ r = S := ⟨_, rfl⟩
  rw [hS] at h ⊢
  have c0 := h.c0
  have c1 := h.c1
  have f0 : w.frozen? ⟨x, 0, none⟩ = false := Lib.frozen_of_heap h 0
  have H := Lib.hid h
  have hl : t.length ≤ S.length := by rw [← hS]; simp
  have hl2 : (t.length : Int) ≤ (S.length : Int) := by omega
  have hl0 : (0 : Int) ≤ (t.length : Int) := by omega
  have hx : (⟨S.toArray⟩ : ByteArray).extract 0 t.length = ⟨t.toArray⟩ := by rw [ext_take, ← hS]; simp
  have hd : (⟨S.toArray⟩ : ByteArray).extract t.length S.length = ⟨r.toArray⟩ := by rw [ext_drop, ← hS, List.drop_left]
  clear h hS
  go_enter Tryd.func43, Tryd.ntmps43
  go_wp2
  go_end0
  exact ⟨rfl, heap_set H.out, (Kp.refl _ _).set _⟩
theorem text_any (x : Nat) (S t : List UInt8) (bad : Bool) (w : World) (h : LnIs w x S bad) : Calls Tryd.prog 43 #[.pointer (some ⟨x, 0, none⟩), .string ⟨t.toArray⟩] w (TextEnds w x S bad (Li.textF t S)) := by
  cases e : Li.textF t S with
  | some r =>
    have := Li.textF_some.1 e
    subst this
    exact text_yes x t r bad w h
  | none =>
    have ht : ¬ S.take t.length = t := fun ht => by unfold Li.textF at e; rw [if_pos ht] at e; cases e
    rcases Nat.lt_or_ge S.length t.length with hl | hl
    · exact text_short x S t bad w h hl
    · exact text_no x S t bad w h hl ht
set_option maxHeartbeats 1000000 in
set_option maxRecDepth 100000 in
theorem digit_any (c : UInt8) (w : World) : Calls Tryd.prog 55 #[.int .u8 c.toNat] w fun e w' => e = .returned (.int .i64 (Li.digitOf c)) ∧ w = w' := by
  have hdg : ∀ j, (h : j < 16) → Li.digitOf (Li.hexd j) = j := fun j hj => by unfold Li.digitOf; rw [Li.hexv_hexd hj]; rfl
  have hno : (∀ j, j < 16 → Li.hexd j ≠ c) → Li.digitOf c = 0 := fun h => by
    unfold Li.digitOf
    cases e : Li.hexv c with
    | none => rfl
    | some n => exact absurd (Li.hexv_lt e).2 (h n (Li.hexv_lt e).1)
  have hlit : ∀ k, (h : k < 16) → ∀ h', (⟨#[48, 49, 50, 51, 52, 53, 54, 55, 56, 57, 97, 98, 99, 100, 101, 102]⟩ : ByteArray)[k]'h' = Li.hexd k := by
    have : ∀ k : Fin 16, (#[48, 49, 50, 51, 52, 53, 54, 55, 56, 57, 97, 98, 99, 100, 101, 102] : Array UInt8)[k.val]? = some (Li.hexd k.val) := by decide +kernel
    intro k hk h'
    have := this ⟨k, hk⟩
    obtain ⟨_, h2⟩ := Array.getElem?_eq_some_iff.1 this
    exact h2
  have HDG := Lib.hid hdg
  have HNO := Lib.hid hno
  have HLIT := Lib.hid hlit
  clear hdg hno hlit
  go_enter Tryd.func55, Tryd.ntmps55
  go_wp2
  go_loop [3] (fun i => ∃ k : Nat, k ≤ 16 ∧ i = .int .i64 k ∧ ∀ j, j < k → Li.hexd j ≠ c) (fun i => 16 - (intOf i).toNat)
  case atStart => exact ⟨0, by omega, rfl, fun j h => by omega⟩
  case round =>
    obtain ⟨k, hk, rfl, hall⟩ := hrel
    have HALL := Lib.hid hall
    clear hall
    by_cases hlt : k < 16
    · have hx0 := HLIT.out k hlt
      have hk0 : (0 : Int) ≤ (k : Int) := by omega
      by_cases he : Li.hexd k = c
      · have hb : (((Li.hexd k).toNat : Int) == (c.toNat : Int)) = true := by rw [he]; simp
        have HE := Lib.hid he
        clear he
        go_wp2
        go_ret
        exact ⟨by rw [← HE.out, HDG.out k hlt]; rfl, rfl⟩
      · have hb : (((Li.hexd k).toNat : Int) == (c.toNat : Int)) = false := beq_eq_false_iff_ne.2 (fun e => he (UInt8.toNat.inj (by omega)))
        have HE := Lib.hid he
        clear he
        go_wp2
        go_round
        case rel => exact ⟨k + 1, by omega, by go_num, fun j hj => by
          rcases Nat.lt_or_ge j k with h | h
          · exact HALL.out j h
          · obtain rfl : j = k := by omega
            exact HE.out⟩
        case measure => simp [intOf]; omega
    · obtain rfl : k = 16 := by omega
      go_wp2
      go_ret
      exact ⟨by rw [HNO.out HALL.out]; rfl, rfl⟩
end Go.Proofs.YtldjhjbodhhnbaaDoor
