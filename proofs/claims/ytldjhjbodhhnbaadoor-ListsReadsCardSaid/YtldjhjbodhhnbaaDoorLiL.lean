/- The plain law of the lists, sixth part: a text line by line, as the reference reads it. No program is in sight. -/
import Derived.Test.YtldjhjbodhhnbaaDoorLiF
namespace Go.Proofs.YtldjhjbodhhnbaaDoor.Li
open Go Go.Proofs.YtldjhjbodhhnbaaDoor

/-- The lines, each with its line feed, and what stands behind the last one. -/
def linesF : Nat → Bytes → List Bytes
  | 0, s => [s]
  | f + 1, s => match Wr.cut1 10 s with
    | some (a, r) => (a ++ [10]) :: linesF f r
    | none => [s]
def linesL (s : Bytes) : List Bytes := linesF s.length s
theorem linesF_fuel : ∀ (f g : Nat) (s : Bytes), s.length ≤ f → s.length ≤ g → linesF f s = linesF g s
  | 0, 0, _, _, _ => rfl
  | 0, g + 1, s, h, _ => by
    have : s = [] := List.length_eq_zero_iff.1 (by omega)
    subst this; rfl
  | f + 1, 0, s, _, h => by
    have : s = [] := List.length_eq_zero_iff.1 (by omega)
    subst this; rfl
  | f + 1, g + 1, s, h1, h2 => by
    unfold linesF
    cases hc : Wr.cut1 10 s with
    | none => rfl
    | some p =>
      obtain ⟨a, r⟩ := p
      have hl : r.length < s.length := by have := (Wr.cut1_some hc).1; rw [this]; simp; omega
      simp only
      rw [linesF_fuel f g r (by omega) (by omega)]
theorem lines_cut {s a r : Bytes} (h : Wr.cut1 10 s = some (a, r)) : linesL s = (a ++ [10]) :: linesL r := by
  have hl : r.length < s.length := by have := (Wr.cut1_some h).1; rw [this]; simp; omega
  unfold linesL
  obtain ⟨f, hf⟩ : ∃ f, s.length = f + 1 := ⟨s.length - 1, by omega⟩
  rw [hf]
  conv => lhs; unfold linesF
  rw [h]
  simp only
  rw [linesF_fuel f r.length r (by omega) (Nat.le_refl _)]
theorem lines_none {s : Bytes} (h : Wr.cut1 10 s = none) : linesL s = [s] := by
  unfold linesL
  cases hl : s.length with
  | zero => rfl
  | succ f => unfold linesF; rw [h]
theorem lines_ne (s : Bytes) : linesL s ≠ [] := by
  cases h : Wr.cut1 10 s with
  | none => rw [lines_none h]; simp
  | some p => rw [lines_cut (a := p.1) (r := p.2) h]; simp
theorem lines_one (s : Bytes) : linesL s = [[]] ↔ s = [] := by
  cases h : Wr.cut1 10 s with
  | none => rw [lines_none h]; simp
  | some p =>
    rw [lines_cut (a := p.1) (r := p.2) h]
    constructor
    · intro e; simp at e
    · intro e; subst e; simp [Wr.cut1] at h
def refL (rf : Bytes → Option (List Fld)) : List Bytes → List (List Fld) → Nat → Rd
  | [], _, k => .bad k
  | x :: t, out, k => if x = endOf out.length ++ [10] then (if t = [[]] then .ok out else .bad (k + 2)) else match rf x with
    | some f => refL rf t (out ++ [f]) (k + 1)
    | none => .bad (k + 1)
theorem refL_read {rf : Bytes → Option (List Fld)} {kind : Bytes} {ks : List Kd} (h1 : ∀ t, rf (t ++ [10]) = parseLine kind ks t) (h2 : ∀ S fs, rf S = some fs → ∃ t, S = t ++ [10]) :
    ∀ (f : Nat) (s : Bytes) (out : List (List Fld)) (k : Nat), s.length < f → refL rf (linesL s) out k = readL kind ks f s out (k + 1)
  | 0, _, _, _, h => by omega
  | f + 1, s, out, k, h => by
    unfold readL
    cases hc : Wr.cut1 10 s with
    | none =>
      rw [lines_none hc]
      have hn : ∀ t : Bytes, s ≠ t ++ [10] := fun t e => by
        have := Wr.cut1_none.1 hc
        exact this (by rw [e]; simp)
      unfold refL
      rw [if_neg (hn _)]
      cases hr : rf s with
      | none => rfl
      | some fs => obtain ⟨t, ht⟩ := h2 s fs hr; exact absurd ht (hn t)
    | some p =>
      obtain ⟨a, r⟩ := p
      have hl : r.length < s.length := by have := (Wr.cut1_some hc).1; rw [this]; simp; omega
      rw [lines_cut hc]
      unfold refL
      simp only [h1, List.append_cancel_right_eq, lines_one]
      split
      · rfl
      · cases parseLine kind ks a with
        | none => rfl
        | some x => exact refL_read h1 h2 f r _ _ (by omega)
theorem row_read (s : Bytes) : refL rowF (linesL s) [] 0 = readFile place rowK s := refL_read rowF_parse (fun _ _ h => rowF_lf h) _ _ _ _ (Nat.lt_succ_self _)
theorem probe_read (s : Bytes) : refL probeF (linesL s) [] 0 = readFile probe probeK s := refL_read probeF_parse (fun _ _ h => probeF_lf h) _ _ _ _ (Nat.lt_succ_self _)
theorem lines_count : ∀ (f : Nat) (s : Bytes), (linesF f s).length ≤ s.length + 1
  | 0, s => by simp [linesF]
  | f + 1, s => by
    unfold linesF
    cases hc : Wr.cut1 10 s with
    | none => simp
    | some p =>
      obtain ⟨a, r⟩ := p
      have hl : r.length < s.length := by have := (Wr.cut1_some hc).1; rw [this]; simp; omega
      have := lines_count f r
      simp; omega
end Go.Proofs.YtldjhjbodhhnbaaDoor.Li
