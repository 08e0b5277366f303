/- A file of many discs at one place. No program here; no condition. -/
import Derived.Test.YtggplbenliaodaaDoorPlD
namespace Pl

def dsc : Dr := ⟨⟨1, [line ⟨0, 0⟩ ⟨0, 0⟩], 1⟩, false⟩
theorem chk_dsc : chk dsc.s = 0 := by decide
theorem bad_dscs (n : Nat) : firstBad (List.replicate n dsc) = 0 := firstBad_zero.2 fun d h => by rw [(List.mem_replicate.1 h).2]; exact chk_dsc
theorem radii_dscs (n : Nat) (h : 0 < n) : radii (List.replicate n dsc) = [1] := by
  have q : ∀ k, (List.replicate k dsc).foldl addR [1] = [1] := by
    intro k
    induction k with
    | zero => rfl
    | succ k ih => rw [List.replicate_succ, List.foldl_cons]; exact ih
  match n, h with
  | k + 1, _ => unfold radii; rw [List.replicate_succ, List.foldl_cons]; exact q k
theorem run_dscs (n : Nat) : ∀ st : St, st.c = false → st.ap = 10 → ((List.replicate n dsc).foldl (step [1]) st).t.length = st.t.length + 9 * n := by
  induction n with
  | zero => intro st _ _; rfl
  | succ n ih =>
    intro st h1 h2
    obtain ⟨t, c, ap⟩ := st
    dsimp only at h1 h2
    subst h1; subst h2
    rw [List.replicate_succ, List.foldl_cons, ih _ rfl rfl]
    have e : (step [1] ⟨t, false, 10⟩ dsc).t = t ++ [88, 48, 89, 48, 68, 48, 51, 42, 10] := by
      show t ++ _ ++ _ ++ _ = _
      have e1 : polT false dsc.clear = [] := rfl
      have e2 : selT [1] 10 dsc.s = [] := rfl
      have e3 : shapeT dsc.s = [88, 48, 89, 48, 68, 48, 51, 42, 10] := by decide +kernel
      rw [e1, e2, e3, List.append_nil, List.append_nil]
    rw [e, List.length_append]
    simp only [List.length_cons, List.length_nil]
    omega
theorem file_dscs (n : Nat) (h : 0 < n) : (fileT (List.replicate n dsc)).length = 64 + 9 * n := by
  unfold fileT runTo
  rw [List.take_length, radii_dscs n h]
  match n, h with
  | k + 1, _ =>
    rw [List.replicate_succ, List.foldl_cons, List.length_append, run_dscs k _ rfl rfl]
    have e : (step [1] ⟨start [1], false, 0⟩ dsc).t.length = 68 := by decide +kernel
    rw [e]
    simp only [List.length_cons, List.length_nil]
    omega
theorem write_dscs (n : Nat) (h : 0 < n) : write (List.replicate n dsc) = if 262144 < 64 + 9 * n then ([], 2) else (fileT (List.replicate n dsc), 0) := by
  unfold write
  rw [bad_dscs, if_neg (by decide), radii_dscs n h, if_neg (by decide), file_dscs n h]
end Pl
