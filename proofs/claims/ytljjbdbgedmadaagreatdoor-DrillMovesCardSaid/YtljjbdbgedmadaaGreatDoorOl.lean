/- A region that draws its order, walked under a condition that its last operation, which waits for all the others, need not keep. No condition. -/
import Derived.Test.YtljjbdbgedmadaaGreatDoorBase
namespace Go.Proofs.YtljjbdbgedmadaaGreatDoor
open Go.RowKit

section
variable {P : Program} {ops : Array Oper} {Q : Exit → Act → World → Prop} {md : Region.Mode} {S : World → Prop} {l : Nat}

/-- Whatever comes up, S holds behind it, unless it was number l. -/
def wpAnyL (P : Program) (md : Region.Mode) (ops : Array Oper) (Q : Exit → Act → World → Prop) (S : World → Prop) (l : Nat) : Nat → Array Bool → Act → World → Prop
  | 0, done, a, w => Region.ready md ops done = [] ∧ Q .normal a w
  | n + 1, done, a, w => (Region.ready md ops done = [] → Q .normal a w) ∧ ∀ i, i ∈ Region.ready md ops done → wpOp P ops Q i (fun b v => (i ≠ l → S v) ∧ wpAnyL P md ops Q S l n (done.setIfInBounds i true) b v) a w
theorem wpAny_of_last : ∀ (n : Nat) (done : Array Bool) (a : Act) (w : World), wpAnyL P md ops Q S l n done a w → wpAny P md ops Q n done a w
  | 0, _, _, _, h => h
  | n + 1, _, _, _, h => ⟨h.1, fun i hi => wpOp_mono (fun _ _ k => wpAny_of_last n _ _ _ k.2) (h.2 i hi)⟩
/-- Number l waits for number i. -/
def waits (md : Region.Mode) (ops : Array Oper) (l i : Nat) : Bool := match ops[l]? with
  | some o => o.after.any fun e => Region.binds md e && e.on == i
  | none => false
theorem waits_spec {i : Nat} {o : Oper} (h : waits md ops l i = true) (ho : ops[l]? = some o) : ∃ e ∈ o.after, Region.binds md e = true ∧ e.on = i := by
  unfold waits at h
  rw [ho] at h
  obtain ⟨k, hk, he⟩ := Array.any_eq_true.1 h
  rw [Bool.and_eq_true] at he
  exact ⟨_, Array.getElem_mem hk, he.1, by simpa using he.2⟩
theorem wpAnyL_first {i : Nat} {oi : Oper} {v : Value} (hi : ops[i]? = some oi) (hil : i ≠ l) (hw : waits md ops l i = true) (hsel : Region.noSelect ops = true) (hQ : ∀ c a w, Q (.panic c) (a.put oi.dst v) w → Q (.panic c) a w) :
    ∀ (n : Nat) (done : Array Bool) (a : Act) (w : World), (∀ j oj, ops[j]? = some oj → j ≠ i → done.getD j true = false → (∀ e ∈ oj.after, Region.binds md e = true → e.on ≠ i) → oi.apart ops oj = true) →
      i ∈ Region.ready md ops done → YieldsIf P ops S oi v a → S w → wpAnyL P md ops Q S l n (done.setIfInBounds i true) (a.put oi.dst v) w → wpAnyL P md ops Q S l (n + 1) done a w := by
  have hns := Region.noSelect_spec hsel
  intro n
  induction n with
  | zero =>
    intro done a w _ hr hy hS H
    refine ⟨fun h => absurd hr (by rw [h]; simp), fun j hj => ?_⟩
    rcases Nat.decEq j i with e | e
    · have h2 := ready_mono hj e
      rw [H.1] at h2
      exact absurd h2 (by simp)
    · subst e
      exact hy.wpOp hi hS ⟨fun _ => hS, H⟩
  | succ n ih =>
    intro done a w hf hr hy hS H
    refine ⟨fun h => absurd hr (by rw [h]; simp), fun j hj => ?_⟩
    rcases Nat.decEq j i with e | e
    · obtain ⟨hju, oj, hoj, hal⟩ := mem_ready.1 hj
      have hiu := (mem_ready.1 hr).1
      have hno : ∀ e ∈ oj.after, Region.binds md e = true → e.on ≠ i := by
        intro e he hb hx
        have h1 := hal e he hb
        rw [hx] at h1
        by_cases hs : i < done.size
        · simp [hs] at hiu h1
          rw [hiu] at h1
          exact absurd h1 (by simp)
        · simp [Array.getElem?_eq_none (Nat.le_of_not_lt hs)] at h1
      have hjl : j ≠ l := by
        intro hx
        subst hx
        obtain ⟨e, he, hb, hx⟩ := waits_spec hw hoj
        exact hno e he hb hx
      refine wpOp_mono (fun b v k => ⟨k.2.1, ?_⟩) (wpOp_putIf hoj (hf j oj hoj e hju hno) (fun cs c => hns i oi cs c hi) (fun cs c => hns j oj cs c hoj) hQ hy (H.2 j (ready_mono hj e)))
      refine ih _ b v ?_ (ready_mono hr (Ne.symm e)) k.1 (k.2.1 hjl) ?_
      · intro m om hm hmi hun hn
        refine hf m om hm hmi ?_ hn
        rcases Nat.decEq j m with e2 | e2
        · rw [getD_set_ne true e2] at hun; exact hun
        · subst e2; exact hju
      · rw [Array.setIfInBounds_comm _ _ e]; exact k.2.2
    · subst e
      exact hy.wpOp hi hS ⟨fun _ => hS, H⟩
/-- Take number i first. -/
theorem wpAnyL_take {i : Nat} {oi : Oper} {v : Value} {n : Nat} {done : Array Bool} {a : Act} {w : World} (hi : ops[i]? = some oi) (hw : (decide (i ≠ l) && waits md ops l i) = true)
    (hs : Region.noSelect ops = true) (hf : Region.free md ops done i = true) (hr : (Region.ready md ops done).contains i = true) (hQ : ∀ c a w, Q (.panic c) (a.put oi.dst v) w → Q (.panic c) a w)
    (hy : YieldsIf P ops S oi v a) (hS : S w) (h : wpAnyL P md ops Q S l n (done.setIfInBounds i true) (a.put oi.dst v) w) : wpAnyL P md ops Q S l (n + 1) done a w := by
  rw [Bool.and_eq_true, decide_eq_true_eq] at hw
  exact wpAnyL_first hi hw.1 hw.2 hs hQ n done a w (Region.free_spec hi hf) (by simpa using hr) hy hS h
/-- The ones that may come up now. -/
def AllReadyL (P : Program) (md : Region.Mode) (ops : Array Oper) (Q : Exit → Act → World → Prop) (S : World → Prop) (l n : Nat) (done : Array Bool) (a : Act) (w : World) (rs : List Nat) : Prop :=
  ∀ i ∈ rs, wpOp P ops Q i (fun b v => (i ≠ l → S v) ∧ wpAnyL P md ops Q S l n (done.setIfInBounds i true) b v) a w
theorem AllReadyL.nil {n : Nat} {done : Array Bool} {a : Act} {w : World} : AllReadyL P md ops Q S l n done a w [] := fun _ h => absurd h (by simp)
theorem AllReadyL.cons {n : Nat} {done : Array Bool} {a : Act} {w : World} {i : Nat} {o : Oper} {rs : List Nat} (ho : ops[i]? = some o)
    (h : ∀ K : Act → World → Prop, Shut (∀ b v, S v → (S v → wpAnyL P md ops Q S l n (done.setIfInBounds i true) b v) → K b v) → if Region.wanted o (yielded ops a.tmps) = true then Oper.wp P o a w K Q else K (a.put o.dst undef) w)
    (hs : AllReadyL P md ops Q S l n done a w rs) : AllReadyL P md ops Q S l n done a w (i :: rs) := fun j hj => by
  rcases List.mem_cons.1 hj with rfl | hj
  · exact wpOp_step ho (fun K hK => h K (fun b v hS hW => hK b v ⟨fun _ => hS, hW hS⟩))
  · exact hs j hj
/-- The last one. -/
theorem AllReadyL.last {n : Nat} {done : Array Bool} {a : Act} {w : World} {o : Oper} (ho : ops[l]? = some o)
    (h : ∀ K : Act → World → Prop, Shut (∀ b v, wpAnyL P md ops Q S l n (done.setIfInBounds l true) b v → K b v) → if Region.wanted o (yielded ops a.tmps) = true then Oper.wp P o a w K Q else K (a.put o.dst undef) w) :
    AllReadyL P md ops Q S l n done a w [l] := fun j hj => by
  rw [List.mem_singleton.1 hj]
  exact wpOp_step ho (fun K hK => h K (fun b v hW => hK b v ⟨fun hx => absurd rfl hx, hW⟩))
theorem wpAnyL_ready {rs : List Nat} {n : Nat} {done : Array Bool} {a : Act} {w : World} (hr : Region.ready md ops done = rs) (hne : rs ≠ []) (h : AllReadyL P md ops Q S l n done a w rs) : wpAnyL P md ops Q S l (n + 1) done a w := by
  subst hr
  exact ⟨fun h0 => absurd h0 hne, h⟩
theorem wpAnyL_done {done : Array Bool} {a : Act} {w : World} (hr : Region.ready md ops done = []) (h : Q .normal a w) : ∀ n, wpAnyL P md ops Q S l n done a w
  | 0 => ⟨hr, h⟩
  | _ + 1 => ⟨fun _ => h, fun i hi => absurd hi (by rw [hr]; simp)⟩
theorem wp_region_last (S : World → Prop) (l : Nat) {id : Nat} {a : Act} {w : World} (hm : P.follows .mixedOrders = true) (hS : S w.drew) (h : S w.drew → wpAnyL P .any ops Q S l ops.size (Array.replicate ops.size false) a w.drew) : (Code.region id ops true).wp P Q a w :=
  wp_region_any hm (wpAny_of_last _ _ _ _ (h hS))
end

section
variable {P : Program} {ops : Array Oper} {Q : Exit → Act → World → Prop} {md : Region.Mode} {S : World → Prop} {l : Nat}
theorem tkL (i : Nat) {oi : Oper} {v : Value} {n : Nat} {done : Array Bool} {a : Act} {w : World} (hi : ops[i]? = some oi) (h : wpAnyL P md ops Q S l n (done.setIfInBounds i true) (a.put oi.dst v) w)
    (hy : ∀ w, S w → (execOp a.eval oi).run P w = .ok (.value v) w := by intro w hSw; go_simp <;> with_reducible rfl) (hb : ((decide (i ≠ l) && waits md ops l i) && (Region.noSelect ops && (Region.free md ops done i && (Region.ready md ops done).contains i))) = true := by kernel_rfl) (hw : Region.wanted oi (yielded ops a.tmps) = true := by rfl) (hS : S w := by assumption)
    (hQ : ∀ c a w, Q (.panic c) (a.put oi.dst v) w → Q (.panic c) a w := by exact fun _ _ _ h => h) : wpAnyL P md ops Q S l (n + 1) done a w := by
  rw [Bool.and_eq_true (_ && _), Bool.and_eq_true (Region.noSelect ops), Bool.and_eq_true (Region.free md ops done i)] at hb
  exact wpAnyL_take hi hb.1 hb.2.1 hb.2.2.1 hb.2.2.2 hQ (.inl ⟨hw, hy⟩) hS h
end

end Go.Proofs.YtljjbdbgedmadaaGreatDoor
