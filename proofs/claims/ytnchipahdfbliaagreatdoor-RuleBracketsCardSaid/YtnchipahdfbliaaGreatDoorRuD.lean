/- The plain law of the rules, fourth part: reading leaves no more words than there were. No program is in sight; no condition. -/
import Derived.Test.YtnchipahdfbliaaGreatDoorRuC
namespace Go.Proofs.YtnchipahdfbliaaGreatDoor.Ru
open Go Go.Proofs.YtnchipahdfbliaaGreatDoor

/-- Reading takes words away. -/
def Less {α : Type} (rd : Ws → Option (α × Ws)) : Prop := ∀ ws a r, rd ws = some (a, r) → r.length ≤ ws.length
theorem next_less : Less next := fun ws a r h => by
  cases ws with
  | nil => cases h
  | cons x t =>
    unfold next at h
    dsimp only at h
    split at h
    · cases h
    · injection h with h; injection h with _ h2; subst h2; simp
theorem next_len {ws r : Ws} {x : Bytes} (h : next ws = some (x, r)) : ws = x :: r ∧ x ≠ [] := by
  cases ws with
  | nil => cases h
  | cons y t =>
    unfold next at h
    dsimp only at h
    split at h
    · cases h
    · rename_i hy
      injection h with h; injection h with h1 h2; subst h1; subst h2; exact ⟨rfl, hy⟩
theorem number_less : Less number := fun ws a r h => by
  unfold number at h
  split at h
  · cases h
  · rename_i x t hn
    cases hx : num x with
    | none => rw [hx] at h; cases h
    | some n =>
      rw [hx] at h
      injection h with h; injection h with _ h2; subst h2
      exact next_less _ _ _ hn
theorem must_less {k : Bytes} {ws r : Ws} (h : must k ws = some r) : r.length ≤ ws.length := by
  unfold must at h
  split at h
  · cases h
  · rename_i x t hn
    split at h
    · injection h with h; subst h; exact next_less _ _ _ hn
    · cases h
theorem four_less : Less four := fun ws b r h => by
  unfold four at h
  cases h0 : number ws with
  | none => rw [h0] at h; cases h
  | some p0 =>
    rw [h0] at h; simp only [Option.bind_some] at h
    cases h1 : number p0.2 with
    | none => rw [h1] at h; cases h
    | some p1 =>
      rw [h1] at h; simp only [Option.bind_some] at h
      cases h2 : number p1.2 with
      | none => rw [h2] at h; cases h
      | some p2 =>
        rw [h2] at h; simp only [Option.bind_some] at h
        cases h3 : number p2.2 with
        | none => rw [h3] at h; cases h
        | some p3 =>
          rw [h3] at h
          injection h with h; injection h with _ h4; subst h4
          have := number_less _ _ _ h0
          have := number_less _ _ _ h1
          have := number_less _ _ _ h2
          have := number_less _ _ _ h3
          omega
theorem more_less {word : Bytes} {op : Int} {rd : Ws → Option (Cond × Ws)} (hr : Less rd) : ∀ (k : Nat) (l : List Cond), Less (more word op rd k l)
  | 0, l => fun ws a r h => by injection h with h; injection h with _ h2; subst h2; exact Nat.le_refl _
  | k + 1, l => fun ws a r h => by
    rw [more] at h
    split at h
    · split at h
      · cases h
      · rename_i c r' hc
        have h1 := more_less hr k _ _ _ _ h
        have h2 := hr _ _ _ hc
        have h3 : ws.tail.length ≤ ws.length := by rw [List.length_tail]; omega
        omega
    · injection h with h; injection h with _ h2; subst h2; exact Nat.le_refl _
theorem lst_less {word : Bytes} {op : Int} {rd : Ws → Option (Cond × Ws)} (hr : Less rd) : Less (lst word op rd) := fun ws a r h => by
  unfold lst at h
  split at h
  · cases h
  · rename_i c r' hc
    exact Nat.le_trans (more_less hr _ _ _ _ _ h) (hr _ _ _ hc)
theorem map_less {α β : Type} {f : Ws → Option (α × Ws)} (hf : Less f) (g : α → β) {ws r : Ws} {b : β} (h : ((f ws).map fun p => (g p.1, p.2)) = some (b, r)) : r.length ≤ ws.length := by
  cases hx : f ws with
  | none => rw [hx] at h; cases h
  | some p =>
    rw [hx] at h
    injection h with h; injection h with _ h2; subst h2
    exact hf _ _ _ hx
theorem fac_less : ∀ n, Less (fac n)
  | 0 => fun ws a r h => by cases h
  | n + 1 => fun ws a r h => by
    have ih := fac_less n
    rw [fac] at h
    split at h
    · cases h
    · rename_i x t hn
      have h0 := next_less _ _ _ hn
      refine Nat.le_trans ?_ h0
      split at h; · exact map_less next_less (fun t => leaf 2 t 0 .none) h
      split at h; · exact map_less next_less (fun t => leaf 3 t 0 .none) h
      split at h; · exact map_less number_less (fun n => leaf 4 [] n .none) h
      split at h; · exact map_less number_less (fun n => leaf 5 [] n .none) h
      split at h; · exact map_less number_less (fun n => leaf 6 [] n .none) h
      split at h; · injection h with h; injection h with _ h2; subst h2; exact Nat.le_refl _
      split at h; · exact map_less four_less (fun b => leaf 7 [] 0 b) h
      split at h; · exact map_less ih (fun c => Cond.mk 8 [] 0 .none [c]) h
      split at h
      · cases hx : orc (fac n) t with
        | none => rw [hx] at h; cases h
        | some p =>
          rw [hx] at h
          simp only [Option.bind_some] at h
          cases hm : must kwR p.2 with
          | none => rw [hm] at h; cases h
          | some q =>
            rw [hm] at h
            injection h with h; injection h with _ h2; subst h2
            exact Nat.le_trans (must_less hm) (lst_less (lst_less ih) _ _ _ hx)
      · cases h
theorem orc_less (n : Nat) : Less (orc (fac n)) := lst_less (lst_less (fac_less n))
theorem more_some {word : Bytes} {op : Int} {rd : Ws → Option (Cond × Ws)} {k : Nat} {l : List Cond} {r : Ws} (h : r.head? = some word) : more word op rd (k + 1) l r = match rd r.tail with
    | none => none
    | some (c, r') => more word op rd k (l ++ [c]) r' := by rw [more, if_pos h]; rfl
end Go.Proofs.YtnchipahdfbliaaGreatDoor.Ru
