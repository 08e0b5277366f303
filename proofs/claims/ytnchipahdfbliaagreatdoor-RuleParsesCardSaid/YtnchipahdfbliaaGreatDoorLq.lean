/- What a parse hands out is right; its list by its length. No condition. -/
import Derived.Test.YtnchipahdfbliaaGreatDoorRnt
import Derived.Test.YtnchipahdfbliaaGreatDoorNx
import Derived.Test.YtnchipahdfbliaaGreatDoorSf
import Derived.Test.YtnchipahdfbliaaGreatDoorSg
namespace Go.Proofs.YtnchipahdfbliaaGreatDoor
open Go.RowKit

theorem Ru.parseL_check : ∀ (ps : List (List UInt8)) (n : Int) (acc : List Ru.Rule), Ru.check (Ru.parseL n acc ps).1 = 0
 | [], _, _ => rfl
 | [z], n, acc => by
  rw [Ru.parseL]
  split
  ·rfl
  ·split
   ·assumption
   ·rfl
 | x :: y :: r, n, acc => by
  rw [Ru.parseL]
  cases Ru.line x with
  | none => rfl
  | some q => exact Ru.parseL_check (y :: r) _ _
theorem Ru.parse_check (s : List UInt8) : Ru.check (Ru.parse s).1 = 0 := by
 unfold Ru.parse
 split
 ·rfl
 ·exact Ru.parseL_check _ _ _
theorem parse_len {f : FuncId} {t : List UInt8} {w : World} {x : List Ru.Rule × Int × Int} {A : List Ru.Rule} {a b : Int} (h : Calls Tryz.prog f #[str t] w (ParseIs x w)) (hx : x = (A, a, b)) :
  Calls Tryz.prog f #[str t] w fun e w' => ∃ (ps : List RV) (co : Option Addr) (pc mc : Nat), e = .returned (.tuple #[.slice co mc pc, .int .i64 a, .int .i64 b]) ∧ Hid (ps.length = mc ∧ A = ps.map (·.r) ∧ LiesAt 20 rC w' co pc ps ∧ (∀ q ∈ ps, q.Tree w') ∧ Kp w w' none) := by
 subst hx
 refine h.mono fun e w' ⟨⟨v, h1, h2⟩, h3⟩ => ?_
 obtain ⟨ps, co, pc, e1, e2, h4, h5⟩ := rules_len h2
 subst e2
 exact ⟨ps, co, pc, _, h1, Lib.hid ⟨rfl, e1, h4, h5, h3⟩⟩
end Go.Proofs.YtnchipahdfbliaaGreatDoor
