/- The way out of a line: the deferred function that recovers. No condition. -/
import Derived.Test.YtldjhjbodhhnbaaDoorQt
import Derived.Defers
import Derived.Recover
namespace Go.Proofs.YtldjhjbodhhnbaaDoor
open Go.RowKit

theorem quoted_any (s : List UInt8) (w : World) (he : Env w) (hs : s.length < 1048576) : Calls Tryd.prog 52 #[.string ⟨s.toArray⟩] w (QEnds w (Li.quoted s)) := by
  match s, hs with
  | [], _ => exact quoted_head [] w (by simp)
  | c :: t, hs =>
    by_cases hc : c = 34
    · subst hc
      cases h : Wr.cut1 34 t with
      | none =>
        have : Li.quoted (34 :: t) = none := by unfold Li.quoted; simp [h]
        rw [this]
        exact quoted_nocut t w he (by simp at hs; omega) h
      | some p => exact quoted_word t p.1 p.2 w he (by simp at hs; omega) h
    · have : Li.quoted (c :: t) = none := by
        unfold Li.quoted
        split
        · rename_i e; injection e with e _; exact absurd e hc
        · rfl
      rw [this]
      exact quoted_head (c :: t) w (by simpa using hc)

theorem catch_panicking (b : Nat) (x : Bool) (older : List PanicEntry) (w : World) (hb : w.heap[b]? = some (.cells #[.bool x] 4 (0, 0))) :
    CallsD Tryd.prog 49 #[.pointer (some ⟨b, 0, none⟩)] (.panicking ({ v := .iface 93 (.agg #[]), recovered := false } :: older)) w fun e u' w' =>
      e = .returned (.tuple #[]) ∧ u' = .panicking ({ v := .iface 93 (.agg #[]), recovered := true } :: older) ∧ w' = (w.alloc (.cells #[] 93)).setCell ⟨b, 0, none⟩ (.bool false) := by
  have hb2 : (w.alloc (.cells #[] 93)).heap[b]? = some (.cells #[.bool x] 4 (0, 0)) := (((Kp.refl w none).alloc (.cells #[] 93)).block b (lt_of_block hb) (by simp)).trans hb
  have hc2 : (w.alloc (.cells #[] 93)).cell? ⟨b, 0, none⟩ = some (.bool x) := by rw [Lib.cell_of_heap hb2]; rfl
  have hz2 : (w.alloc (.cells #[] 93)).frozen? ⟨b, 0, none⟩ = false := Lib.frozen_of_heap hb2 0
  refine callsD_of_wpS Tryd.func49 rfl fun c₀ cs hu => ?_
  apply wpS_seq
  apply wpS_region
  simp [wpOpsS, go_sem, recoverD, hu, Tryd.ntmps49, Exit.thenS]
  apply wpS_seq
  apply wpS_region
  simp [wpOpsS, go_sem, Exit.thenS]
  refine wpS_cond (t := true) (by simp [Act.eval, Array.replicate]) ?_
  simp only [if_true]
  apply wpS_seq
  apply wpS_region
  have hta : (Instr.typeAssert (.iface 93 (.agg #[])) 20 93 true).run Tryd.prog w = .ok (.tuple #[.agg #[], .bool true]) w := by kernel_rfl
  simp [wpOpsS, go_sem, Exit.thenS, hta]
  apply wpS_region
  have hnot : ∀ (x : Bool) (w : World), (Op.unary .not (.bool x)).run Tryd.prog w = .ok (.bool (!x)) w := fun _ _ => rfl
  simp [wpOpsS, go_sem, hc2, hz2, bodyPostS, results, Tryd.results49]

theorem catch_idle (p : Addr) (w : World) :
    CallsD Tryd.prog 49 #[.pointer (some p)] .returning w fun e u' w' => e = .returned (.tuple #[]) ∧ u' = .returning ∧ w' = w := by
  refine callsD_of_wpS Tryd.func49 rfl fun c₀ cs hu => ?_
  apply wpS_seq
  apply wpS_region
  simp [wpOpsS, go_sem, recoverD, hu, Tryd.ntmps49, Exit.thenS]
  apply wpS_seq
  apply wpS_region
  simp [wpOpsS, go_sem, Exit.thenS]
  refine wpS_cond (t := false) (by simp [Act.eval, Array.replicate]) ?_
  simp only [Bool.false_eq_true, if_false]
  refine wpS_of_wp (wp_skip ?_)
  cases c₀
  simp_all [bodyPostS, results, Tryd.results49]
end Go.Proofs.YtldjhjbodhhnbaaDoor
