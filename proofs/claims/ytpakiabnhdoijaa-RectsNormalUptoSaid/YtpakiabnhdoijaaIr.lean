/- A region within a round of a range over a function, walked as anywhere. Condition: no operation of it defers a call. -/
import Derived.RangeFuncNested
import Derived.RangeFuncBound
import Derived.RangeFuncCalls
import Derived.RangeFuncLeaves
import Derived.Shelf.Abstract
import Derived.Shelf.RegionOpen
import Derived.OwnWalkIn
import Derived.TacticsInMore
import Derived.LoopNIn
import Derived.LoopIn
import Derived.Test.YtpakiabnhdoijaaCm
namespace Go.Proofs.Ytpakiabnhdoijaa
open Go.RowKit Go.Shelf

theorem rows_wide {n : Nat} {P : Program} {l : Nat} {row : String} {args : Array Value} {w : World} {R : Value → World → Prop} (h : Rows P row args w R) : RowsIn (Fence.wide.inRound l) n P row args w R :=
  fun c cs _ => by
    obtain ⟨v, w', r, s⟩ := h c cs
    exact ⟨v, w', r, stepsIn_wide.2 s⟩
theorem oper_inRound {P : Program} {l n : Nat} {o : Oper} {a : Act} {w : World} {K K' : Act → World → Prop} {Q : Exit → Act → World → Prop} (hd : ∀ c, o.op ≠ .defer c) (hK : ∀ a w, K a w → K' a w) (h : Oper.wp P o a w K Q) : Oper.wpIn (Fence.wide.inRound l) n P o a w K' Q := by
  refine ⟨fun _ _ => trivial, ?_⟩
  rw [Oper.semAt_eq _ _ _ hd]
  unfold Oper.wp at h
  revert h
  cases (execOp a.eval o).run P w with
  | halt s w' => cases s <;> exact fun h => h
  | ok x w' =>
    cases x with
    | value v => exact fun h => hK _ _ h
    | skip => exact fun h => hK _ _ h
    | defer d => exact fun h => hK _ _ h
    | enter f args =>
      intro h
      refine ⟨fun h => by simp [Fence.wide] at h, CallsIn.inRound l (callsIn_wide.2 (Calls.mono h ?_))⟩
      intro e w'' he
      cases e with
      | returned v => exact hK _ _ he
      | panicked c => exact he
      | outgrown => exact he
    | row row args =>
      intro h
      exact ⟨fun h => by simp [Fence.wide] at h, rows_wide (Rows.mono h fun v w'' he => hK _ _ he)⟩
    | _ => intro h; exact h.elim
theorem op_inRound {P : Program} {l n : Nat} {ops : Array Oper} {Q : Exit → Act → World → Prop} (hd : ∀ o ∈ ops, ∀ c, o.op ≠ .defer c) (hQ : ¬ LetsOut Q) {i : Nat} {K K' : Act → World → Prop} (hK : ∀ a w, K a w → K' a w) {a : Act} {w : World} (h : wpOp P ops Q i K a w) : wpOpIn (Fence.wide.inRound l) n P ops Q i K' a w := by
  unfold wpOp at h
  unfold wpOpIn
  split at h
  · rename_i e; rw [e]; exact hK _ _ h
  · rename_i o e
    rw [e]
    dsimp only
    split at h
    · rename_i hw
      rw [if_pos hw]
      rcases h with h | h
      · exact oper_inRound (hd o (Array.mem_of_getElem? e)) hK h
      · exact absurd h.2 hQ
    · rename_i hw
      rw [if_neg hw]
      exact ⟨fun _ _ => trivial, hK _ _ h⟩
theorem any_inRound {P : Program} {l n : Nat} {md : Region.Mode} {ops : Array Oper} {Q : Exit → Act → World → Prop} (hd : ∀ o ∈ ops, ∀ c, o.op ≠ .defer c) (hQ : ¬ LetsOut Q) : ∀ (fuel : Nat) (listed : Array Bool) (a : Act) (w : World), wpAny P md ops Q fuel listed a w → wpAnyIn (Fence.wide.inRound l) n P md ops Q fuel listed a w
  | 0, _, _, _, h => h
  | fuel + 1, _, _, _, h => ⟨h.1, fun i hi => op_inRound hd hQ (fun a w hh => any_inRound hd hQ fuel _ a w hh) (h.2 i hi)⟩
/-- A drawn region in a round, walked with what is held of the world. -/
theorem region_inRound {P : Program} {l n id : Nat} {ops : Array Oper} {Q : Exit → Act → World → Prop} {S : World → Prop} {a : Act} {w : World} (hm : P.follows .mixedOrders = true) (hd : ∀ o ∈ ops, ∀ c, o.op ≠ .defer c) (hQ : ¬ LetsOut Q) (hS : S w.drew)
    (h : S w.drew → wpAnyH P .any ops Q S ops.size (Array.replicate ops.size false) a w.drew) : (Code.region id ops true).wpIn (Fence.wide.inRound l) n P Q a w :=
  wpIn_region_any hm (any_inRound hd hQ _ _ _ _ (wpAny_of_held _ _ _ _ (h hS)))
theorem list_inRound {P : Program} {l n : Nat} {ops : Array Oper} {Q : Exit → Act → World → Prop} (hQ : ¬ LetsOut Q) : ∀ (rest : List Oper) (_hd : ∀ o ∈ rest, ∀ c, o.op ≠ .defer c) (a : Act) (w : World), wpList P ops Q rest a w → wpListIn (Fence.wide.inRound l) n P ops Q rest a w
  | [], _, _, _, h => h
  | o :: rest, hd, a, w, h => by
    unfold wpList at h
    unfold wpListIn
    have ih := list_inRound (P := P) (l := l) (n := n) (ops := ops) hQ rest (fun o ho => hd o (List.mem_cons_of_mem _ ho))
    split at h
    · rename_i hw
      rw [if_pos hw]
      rcases h with h | h
      · exact oper_inRound (hd o List.mem_cons_self) ih h
      · exact absurd h.2 hQ
    · rename_i hw
      rw [if_neg hw]
      exact ⟨fun _ _ => trivial, ih _ _ h⟩
/-- A region that draws nothing, in a round. -/
theorem plain_inRound {P : Program} {l n id : Nat} {ops : Array Oper} {Q : Exit → Act → World → Prop} {a : Act} {w : World} (hd : ∀ o ∈ ops.toList, ∀ c, o.op ≠ .defer c) (hQ : ¬ LetsOut Q) (h : wpList P ops Q ops.toList a w) : (Code.region id ops false).wpIn (Fence.wide.inRound l) n P Q a w :=
  wpIn_region_list (list_inRound hQ _ hd _ _ h)

end Go.Proofs.Ytpakiabnhdoijaa
