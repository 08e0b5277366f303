/- What the laws take out of their arguments, read as lists. No condition. -/
import Derived.Test.YtldjhjbodhhnbaaDoorRp
namespace Go.Proofs.YtldjhjbodhhnbaaDoor
open Go.RowKit

theorem cellsX_get : ∀ (xs : List (List Li.Fld)) (k j : Nat) (h : k < xs.length) (_h6 : ∀ x ∈ xs, x.length = 6) (h2 : j < (cutX xs[k]).length), (cellsX xs)[k * 6 + j]? = some (fldVal (cutX xs[k])[j])
  | [], _, _, h, _, _ => by simp at h
  | x :: xs, 0, j, h, h6, h2 => by
    have e : cellsX (x :: xs) = (cutX x).map fldVal ++ cellsX xs := rfl
    simp only [Nat.zero_mul, Nat.zero_add, List.getElem_cons_zero] at h2 ⊢
    rw [e, List.getElem?_append_left (by simpa using h2), List.getElem?_map, List.getElem?_eq_getElem h2]; rfl
  | x :: xs, k + 1, j, h, h6, h2 => by
    have e : cellsX (x :: xs) = (cutX x).map fldVal ++ cellsX xs := rfl
    have hl : ((cutX x).map fldVal).length = 6 := by simp [cutX, h6 x (by simp)]
    have ih := cellsX_get xs k j (by simpa using h) (fun y hy => h6 y (by simp [hy])) (by simpa using h2)
    rw [e, List.getElem?_append_right (by omega), hl, show (k + 1) * 6 + j - 6 = k * 6 + j by omega, ih]
    rfl
theorem own_isRows {w : World} {base : Nat} {e : TypeId} {v : Value} {xs : List (List Li.Fld)} (h : w.ownsRow base e 6 v xs.length (cellsX xs)) (h6 : ∀ x ∈ xs, x.length = 6) : IsRows w v (xs.map cutX) := by
  rcases h.2 with ⟨rfl, h0⟩ | ⟨g, cap, cur, rfl, _, hg, hc, _⟩
  · have : xs = [] := List.length_eq_zero_iff.1 h0
    subst this
    exact .inl ⟨_, _, rfl, rfl⟩
  · refine .inr ⟨g, 0, cap, by simp, by simpa using hc, lt_of_block hg, fun k hk j hj => ?_⟩
    have hk' : k < xs.length := by simpa using hk
    have hj' : j < (cutX xs[k]).length := by simpa using hj
    have := h.cells rfl (k * 6 + j) _ (cellsX_get xs k j hk' h6 hj')
    rw [show ((⟨g, 0, none⟩ : Addr).add (k * 6 + j)) = ⟨g, k * 6 + j, none⟩ by simp [Addr.add]; omega] at this
    simpa using this
theorem rows_nil (ao : Option Addr) (cap : Nat) (w : World) : Calls Tryd.prog 10 #[.slice ao 0 cap] w fun E w' => E = .returned (.slice none 0 0) ∧ w = w' := by
  go_enter Tryd.func10, Tryd.ntmps10
  go_wp2_with fail
  go_loopw [3, 4] (fun v i wr => v = .slice none 0 0 ∧ i = .int .i64 0 ∧ w = wr) (fun _ _ _ => 0)
  case atStart => exact ⟨rfl, rfl, rfl⟩
  case round =>
    obtain ⟨rfl, rfl, rfl⟩ := hrel
    go_wp2_with fail
    go_ret
    exact ⟨rfl, rfl⟩
theorem probes_nil (ao : Option Addr) (cap : Nat) (w : World) : Calls Tryd.prog 13 #[.slice ao 0 cap] w fun E w' => E = .returned (.slice none 0 0) ∧ w = w' := by
  go_enter Tryd.func13, Tryd.ntmps13
  go_wp2_with fail
  go_loopw [3, 4] (fun v i wr => v = .slice none 0 0 ∧ i = .int .i64 0 ∧ w = wr) (fun _ _ _ => 0)
  case atStart => exact ⟨rfl, rfl, rfl⟩
  case round =>
    obtain ⟨rfl, rfl, rfl⟩ := hrel
    go_wp2_with fail
    go_ret
    exact ⟨rfl, rfl⟩
/-- A slice of the laws' arguments: its first eight elements are known. -/
def IsArg (w : World) (v : Value) (xs : List (List Li.Fld)) : Prop :=
  (∃ ao cap, v = .slice ao 0 cap ∧ xs = []) ∨ ∃ b off n cap, v = .slice (some ⟨b, off, none⟩) n cap ∧ n ≤ cap ∧ n ≤ 9223372036854775807 ∧ xs.length = min n 8 ∧ b < w.heap.size ∧ ∀ k, (h : k < xs.length) → ∀ j, (h2 : j < xs[k].length) → w.cell? ⟨b, off + k * 6 + j, none⟩ = some (fldVal xs[k][j])
theorem IsArg.keep {w w' : World} {v : Value} {xs : List (List Li.Fld)} (h : IsArg w v xs) (k : Kp w w' none) : IsArg w' v xs := by
  rcases h with h | ⟨b, off, n, cap, hv, hc, hn, hx, hb, hr⟩
  · exact .inl h
  · exact .inr ⟨b, off, n, cap, hv, hc, hn, hx, Nat.lt_of_lt_of_le hb k.size, fun i hi j hj => by rw [k.below.cell (p := ⟨b, off + i * 6 + j, none⟩) hb]; exact hr i hi j hj⟩
theorem rows_any (v : Value) (xs : List (List Li.Fld)) (w : World) (h : IsArg w v xs) (hg : ∀ x ∈ xs, Li.Good Li.rowK x ∧ ∀ t, Li.Fld.s t ∈ x → t.length ≤ 9223372036854775807) :
    Calls Tryd.prog 10 #[v] w fun E w' => ∃ u, E = .returned u ∧ IsRows w' u (xs.map cutX) ∧ Kp w w' none := by
  rcases h with ⟨ao, cap, rfl, rfl⟩ | ⟨b, off, n, cap, rfl, hc, hn, hx, hb, hr⟩
  · refine (rows_nil ao cap w).mono ?_
    rintro E w' ⟨rfl, rfl⟩
    exact ⟨_, rfl, .inl ⟨_, _, rfl, rfl⟩, Kp.refl _ _⟩
  · refine (rows_row b off cap n xs w hb hc hn hx hr hg).mono ?_
    rintro E w' ⟨u, rfl, ho, k⟩
    exact ⟨u, rfl, own_isRows ho (fun x hx => by have := congrArg List.length (hg x hx).1.1; rw [List.length_map] at this; exact this), k⟩
theorem probes_any (v : Value) (xs : List (List Li.Fld)) (w : World) (h : IsArg w v xs) (hg : ∀ x ∈ xs, Li.Good Li.probeK x ∧ ∀ t, Li.Fld.s t ∈ x → t.length ≤ 9223372036854775807) :
    Calls Tryd.prog 13 #[v] w fun E w' => ∃ u, E = .returned u ∧ IsRows w' u (xs.map cutX) ∧ Kp w w' none := by
  rcases h with ⟨ao, cap, rfl, rfl⟩ | ⟨b, off, n, cap, rfl, hc, hn, hx, hb, hr⟩
  · refine (probes_nil ao cap w).mono ?_
    rintro E w' ⟨rfl, rfl⟩
    exact ⟨_, rfl, .inl ⟨_, _, rfl, rfl⟩, Kp.refl _ _⟩
  · refine (probes_row b off cap n xs w hb hc hn hx hr hg).mono ?_
    rintro E w' ⟨u, rfl, ho, k⟩
    exact ⟨u, rfl, own_isRows ho (fun x hx => by have := congrArg List.length (hg x hx).1.1; rw [List.length_map] at this; exact this), k⟩
theorem cut_good {ks : List Li.Kd} {x : List Li.Fld} (h : Li.Good ks x) : Li.Good ks (cutX x) ∧ Short (cutX x) := by
  refine ⟨⟨?_, fun f hf => ?_⟩, fun t ht => ?_⟩
  · rw [← h.1]; unfold cutX; rw [List.map_map]
    refine List.map_congr_left fun f _ => ?_
    cases f <;> rfl
  · obtain ⟨g, hg, rfl⟩ := List.mem_map.1 hf
    have := h.2 g hg
    cases g <;> exact this
  · obtain ⟨g, hg, he⟩ := List.mem_map.1 ht
    cases g with
    | s u => injection he with he; subst he; simp; omega
    | i n => cases he
    | b x => cases he
end Go.Proofs.YtldjhjbodhhnbaaDoor
