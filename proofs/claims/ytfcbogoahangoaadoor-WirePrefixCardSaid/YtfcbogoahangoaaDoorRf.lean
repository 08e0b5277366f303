/- The reference's reader, walked: each method in terms of the plain decoders. Conditions: the string that is read is shorter than 2^31 bytes. -/
import Derived.Test.YtfcbogoahangoaaDoorDec
import Derived.Test.YtfcbogoahangoaaDoorPlainB
namespace Go.Proofs.YtfcbogoahangoaaDoor
open Go.RowKit

/-- Block q is the reference's reader of S: none: a wrong one; some l: l is left. -/
def RfIs (w : World) (q : Nat) (S : List UInt8) (st : Option (List UInt8)) : Prop :=
  ∃ p : Nat, p ≤ S.length ∧ (∀ l, st = some l → l = S.drop p) ∧ w.heap[q]? = some (.cells #[.string ⟨S.toArray⟩, .int .i64 p, .bool st.isNone] 59 (0, 0))

theorem RfIs.lt {w : World} {q : Nat} {S : List UInt8} {st : Option (List UInt8)} (h : RfIs w q S st) : q < w.heap.size := by
  obtain ⟨p, _, _, h⟩ := h; exact lt_of_block h
theorem RfIs.keep {w w' : World} {q : Nat} {S : List UInt8} {st : Option (List UInt8)} (h : RfIs w q S st) {row : Option Nat} (k : Kp w w' row) (hr : row ≠ some q) : RfIs w' q S st := by
  have hlt := h.lt
  obtain ⟨p, a, b, h⟩ := h
  exact ⟨p, a, b, (k.block q hlt (fun e => hr e.symm)).trans h⟩

theorem ret_int' {k : IntKind} {a b : Int} (h : a = b) : Ending.returned (.int k a) = .returned (.int k b) := by rw [h]

theorem rfbad_any (q : Nat) (S : List UInt8) (st : Option (List UInt8)) (w : World) (h : RfIs w q S st) : Calls Tryd.prog 35 #[.pointer (some ⟨q, 0, none⟩)] w fun e w' => e = .returned (.bool st.isNone) ∧ w = w' := by
  obtain ⟨p, _, _, h⟩ := h
  have c2 : w.cell? ⟨q, 2, none⟩ = some (.bool st.isNone) := by simp [World.cell?, h]
  clear h
  cases st <;> (
    go_enter Tryd.func35, Tryd.ntmps35
    go_wp2
    go_ret
    exact ⟨rfl, rfl⟩)

theorem rfnew_any (l : List UInt8) (w : World) : Calls Tryd.prog 21 #[.string ⟨l.toArray⟩] w fun e w' => e = .returned (.pointer (some ⟨w.heap.size, 0, none⟩)) ∧ RfIs w' w.heap.size l (some l) ∧ Kp w w' none := by
  go_enter Tryd.func21, Tryd.ntmps21
  go_wp2
  go_ret
  exact ⟨rfl, ⟨0, by simp, by intro l' h; injection h with h; simp [h], heap_alloc_new w _⟩, (Kp.refl _ _).alloc _⟩

theorem rfleft_any (q : Nat) (S : List UInt8) (st : Option (List UInt8)) (w : World) (hS : S.length < 2147483648) (h : RfIs w q S st) : Calls Tryd.prog 33 #[.pointer (some ⟨q, 0, none⟩)] w fun e w' => e = .returned (.int .i64 ((st.getD []).length : Nat)) ∧ ∃ n, w.drewN n = w' := by
  obtain ⟨p, hp, hl, h⟩ := h
  have c0 : w.cell? ⟨q, 0, none⟩ = some (.string ⟨S.toArray⟩) := by simp [World.cell?, h]
  have c1 : w.cell? ⟨q, 1, none⟩ = some (.int .i64 p) := by simp [World.cell?, h]
  have c2 : w.cell? ⟨q, 2, none⟩ = some (.bool st.isNone) := by simp [World.cell?, h]
  clear h
  cases st with
  | none =>
    clear hl
    go_enter Tryd.func33, Tryd.ntmps33
    go_wp2
    go_ret
    exact ⟨rfl, 0, rfl⟩
  | some l =>
    obtain rfl := hl l rfl
    clear hl
    go_enter Tryd.func33, Tryd.ntmps33
    go_wp2
    go_quiet (fail)
    go_wp2
    go_ret
    refine ⟨?_, _, rfl⟩
    refine ret_int' ?_
    simp; omega

theorem rffail_any (q : Nat) (S : List UInt8) (st : Option (List UInt8)) (w : World) (h : RfIs w q S st) : Calls Tryd.prog 44 #[.pointer (some ⟨q, 0, none⟩)] w fun e w' => e = .returned (.tuple #[]) ∧ RfIs w' q S none ∧ Kp w w' (some q) := by
  obtain ⟨p, hp, hl, h⟩ := h
  have c2 : w.cell? ⟨q, 2, none⟩ = some (.bool st.isNone) := by simp [World.cell?, h]
  have f2 : w.frozen? ⟨q, 2, none⟩ = false := by simp [World.frozen?, h]
  have H := Lib.hid h
  clear h hl
  go_enter Tryd.func44, Tryd.ntmps44
  go_wp2
  go_end0
  refine ⟨rfl, ⟨p, hp, by simp, ?_⟩, (Kp.refl _ _).set _⟩
  rw [heap_set H.out]
  rfl
end Go.Proofs.YtfcbogoahangoaaDoor
