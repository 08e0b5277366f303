/- The library's cuts and prefixes in the frame of the walks. Condition: a string that is cut is shorter than 4294967281 bytes. -/
import Derived.Test.YtldjhjbodhhnbaaDoorWd
namespace Go.Proofs.YtldjhjbodhhnbaaDoor
open Go.RowKit

theorem cut_no (l : List UInt8) (e : UInt8) (w : World) (he : Env w) (hs : l.length < 4294967281) (h : Wr.cut1 e l = none) :
    Calls Tryd.prog 41 #[.string ⟨l.toArray⟩, .string ⟨#[e]⟩] w fun E w' => E = .returned (.tuple #[.string ⟨l.toArray⟩, .string ⟨#[]⟩, .bool false]) ∧ ∃ n, w.drewN n = w' := by
  obtain ⟨m, hm⟩ := he.mx
  refine (Tryd.strings_Cut ⟨l.toArray⟩ ⟨#[e]⟩ m w (by show l.toArray.size < _; simpa using hs) hm).mono ?_
  rintro E w' ⟨rfl, n, rfl⟩
  have := Wr.cut_eq l e
  rw [h] at this
  simp only at this
  refine ⟨?_, n, rfl⟩
  simp only [this]
theorem cut_yes (l d t : List UInt8) (e : UInt8) (w : World) (he : Env w) (hs : l.length < 4294967281) (h : Wr.cut1 e l = some (d, t)) :
    Calls Tryd.prog 41 #[.string ⟨l.toArray⟩, .string ⟨#[e]⟩] w fun E w' => E = .returned (.tuple #[.string ⟨d.toArray⟩, .string ⟨t.toArray⟩, .bool true]) ∧ ∃ n, w.drewN n = w' := by
  obtain ⟨m, hm⟩ := he.mx
  refine (Tryd.strings_Cut ⟨l.toArray⟩ ⟨#[e]⟩ m w (by show l.toArray.size < _; simpa using hs) hm).mono ?_
  rintro E w' ⟨rfl, n, rfl⟩
  have := Wr.cut_eq l e
  rw [h] at this
  simp only at this
  refine ⟨?_, n, rfl⟩
  simp only [this]
theorem prefix_iff (s p : List UInt8) : Lib.hasPrefix s p = decide (s.take p.length = p) := by
  unfold Lib.hasPrefix
  rw [Bool.eq_iff_iff, List.isPrefixOf_iff_prefix, decide_eq_true_eq, List.prefix_iff_eq_take]
  exact ⟨fun h => h.symm, fun h => h.symm⟩
theorem hasPrefix_any (s p : List UInt8) (w : World) (b : Bool) (h : decide (s.take p.length = p) = b) : Calls Tryd.prog 60 #[.string ⟨s.toArray⟩, .string ⟨p.toArray⟩] w fun E w' => E = .returned (.bool b) ∧ w = w' := by
  refine (Tryd.strings_HasPrefix ⟨s.toArray⟩ ⟨p.toArray⟩ w).mono ?_
  rintro E w' ⟨rfl, rfl⟩
  exact ⟨by rw [← h, ← prefix_iff], rfl⟩
theorem cutPrefix_yes (s p : List UInt8) (w : World) (h : s.take p.length = p) : Calls Tryd.prog 50 #[.string ⟨s.toArray⟩, .string ⟨p.toArray⟩] w fun E w' => E = .returned (.tuple #[.string ⟨(s.drop p.length).toArray⟩, .bool true]) ∧ w = w' := by
  refine (Tryd.strings_CutPrefix ⟨s.toArray⟩ ⟨p.toArray⟩ w).mono ?_
  rintro E w' ⟨rfl, rfl⟩
  have e : Lib.hasPrefix s p = true := by rw [prefix_iff, decide_eq_true h]
  exact ⟨by simp only [Lib.trimPrefix, e, if_true], rfl⟩
theorem cutPrefix_no (s p : List UInt8) (w : World) (h : s.take p.length ≠ p) : Calls Tryd.prog 50 #[.string ⟨s.toArray⟩, .string ⟨p.toArray⟩] w fun E w' => E = .returned (.tuple #[.string ⟨s.toArray⟩, .bool false]) ∧ w = w' := by
  refine (Tryd.strings_CutPrefix ⟨s.toArray⟩ ⟨p.toArray⟩ w).mono ?_
  rintro E w' ⟨rfl, rfl⟩
  have e : Lib.hasPrefix s p = false := by rw [prefix_iff, decide_eq_false h]
  exact ⟨by simp only [Lib.trimPrefix, e, Bool.false_eq_true, if_false], rfl⟩
theorem index_any (s : List UInt8) (c : UInt8) (w : World) (n : Int) (h : Lib.indexByte s c = n) : Calls Tryd.prog 53 #[.string ⟨s.toArray⟩, .int .u8 c.toNat] w fun E w' => E = .returned (.int .i64 n) ∧ w = w' := by
  refine (Tryd.strings_IndexByte ⟨s.toArray⟩ c.toNat w).mono ?_
  rintro E w' ⟨rfl, rfl⟩
  refine ⟨?_, rfl⟩
  have e : ((c.toNat : Int).toNat.toUInt8) = c := by simp
  rw [e, ← h]
def hexL : List UInt8 := [48, 49, 50, 51, 52, 53, 54, 55, 56, 57, 97, 98, 99, 100, 101, 102]
theorem hex_index (c : UInt8) : Lib.indexByte hexL c = match Li.hexv c with | some n => (n : Int) | none => -1 := by
  have : ∀ k : Fin 256, Lib.indexByte hexL (UInt8.ofNat k.val) = match Li.hexv (UInt8.ofNat k.val) with | some n => (n : Int) | none => -1 := by decide +kernel
  have h := this ⟨c.toNat, c.toNat_lt⟩
  simpa using h

end Go.Proofs.YtldjhjbodhhnbaaDoor
