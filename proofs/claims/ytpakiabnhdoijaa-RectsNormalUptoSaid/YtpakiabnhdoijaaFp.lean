/- Lists in memory beside a row that the call writes: what stays where it is; the last rectangles of a row, heightened one by one. No condition. -/
import Derived.Test.YtpakiabnhdoijaaFo
namespace Go.Proofs.Ytpakiabnhdoijaa
open Go.RowKit

/-- Where element k of a list lies, apart from the row of v. -/
def LiesOff {α : Type} (m : Nat) (f : α → List Value) (w : World) (ao : Option Addr) (cap : Nat) (xs : List α) (v : Value) : Prop :=
  ∀ k, (h : k < xs.length) → ∃ b off, ao = some ⟨b, off, none⟩ ∧ b < w.heap.size ∧ xs.length ≤ cap ∧ v.ownBlock ≠ some b ∧ ∀ j, (h2 : j < (f xs[k]).length) → w.cell? ⟨b, off + k * m + j, none⟩ = some (f xs[k])[j]
theorem LiesOff.at {α : Type} {m : Nat} {f : α → List Value} {w : World} {ao : Option Addr} {cap : Nat} {xs : List α} {v : Value} (h : LiesOff m f w ao cap xs v) : LiesAt m f w ao cap xs := fun k hk => by
  obtain ⟨b, off, e, hb, hc, _, hr⟩ := h k hk
  exact ⟨b, off, e, hb, hc, hr⟩
theorem LiesOff.keep {α : Type} {m : Nat} {f : α → List Value} {w w' : World} {ao : Option Addr} {cap : Nat} {xs : List α} {v : Value} (h : LiesOff m f w ao cap xs v) (k : Kp w w' v.ownBlock) : LiesOff m f w' ao cap xs v := fun i hi => by
  obtain ⟨b, off, e, hb, hc, hv, hr⟩ := h i hi
  exact ⟨b, off, e, Nat.lt_of_lt_of_le hb k.size, hc, hv, fun j hj => by rw [World.grownBy.cell_far k ⟨b, off + i * m + j, none⟩ hb (fun e => hv e.symm)]; exact hr j hj⟩
theorem LiesOff.turn {α : Type} {m : Nat} {f : α → List Value} {w w' : World} {ao : Option Addr} {cap : Nat} {xs : List α} {v v' : Value} (h : LiesOff m f w ao cap xs v) (k : Kp w w' v.ownBlock) (hv : v'.ownBlock = v.ownBlock ∨ ∃ n, w.heap.size ≤ n ∧ v'.ownBlock = some n) : LiesOff m f w' ao cap xs v' := fun i hi => by
  obtain ⟨b, off, e, hb, hc, hv2, hr⟩ := h.keep k i hi
  refine ⟨b, off, e, hb, hc, ?_, hr⟩
  obtain ⟨b', off', e', hb', _⟩ := h i hi
  rw [e] at e'
  injection e' with e'
  injection e' with e1 e2
  subst e1
  rcases hv with hv | ⟨n, hn, hv⟩
  · rw [hv]; exact hv2
  · rw [hv]; intro e; injection e with e; omega
/-- What a call has just made lies apart from what was owned. -/
theorem liesOff_new {α : Type} {m : Nat} {f : α → List Value} (hm : ∀ x, (f x).length = m) {w w' : World} {e e' : TypeId} {u v : Value} {xs : List α} (h : w'.ownsRow w.heap.size e m u xs.length (xs.flatMap f)) {base size n : Nat} {row : List Value} (hv : w.ownsRow base e' size v n row) :
    ∃ ao cap, u = .slice ao xs.length cap ∧ LiesOff m f w' ao cap xs v := by
  rcases h.2 with ⟨rfl, h0⟩ | ⟨g, cap, cur, rfl, hbase, hg, hc, _⟩
  · exact ⟨none, 0, by rw [h0], fun k hk => by omega⟩
  · refine ⟨_, cap, rfl, fun k hk => ⟨g, 0, rfl, lt_of_block hg, hc, fun e => ?_, fun j hj => ?_⟩⟩
    · have := (hv.lt g e).2; omega
    · have := h.cells rfl (k * m + j) _ (flat_get m f hm xs k j hk hj)
      rw [show ((⟨g, 0, none⟩ : Addr).add (k * m + j)) = ⟨g, k * m + j, none⟩ by unfold Addr.add; split <;> simp_all] at this
      simpa using this
theorem LiesOff.none {α : Type} {m : Nat} {f : α → List Value} {w : World} {ao : Option Addr} {cap : Nat} {v : Value} : LiesOff m f w ao cap ([] : List α) v := fun k hk => by simp at hk
theorem LiesOff.nil {α : Type} {m : Nat} {f : α → List Value} {w : World} {ao : Option Addr} {cap : Nat} {xs : List α} (h : LiesAt m f w ao cap xs) {v : Value} (hv : v.ownBlock = Option.none) : LiesOff m f w ao cap xs v := fun k hk => by
  obtain ⟨b, off, e, hb, hc, hr⟩ := h k hk
  exact ⟨b, off, e, hb, hc, by rw [hv]; simp, hr⟩

theorem lift_len (out : List Rc.Rect) (n : Nat) (z : Int) : (Rc.lift out n z).length = out.length := by
  unfold Rc.lift; rw [List.length_append, List.length_map, ← List.length_append, List.take_append_drop]
theorem flat_set_at {α : Type} {m : Nat} (f : α → List Value) (hm : ∀ x, (f x).length = m) : ∀ (xs : List α) (k j : Nat) (h : k < xs.length) (_hj : j < m) (x : α) (u : Value), f x = (f xs[k]).set j u → (xs.flatMap f).set (k * m + j) u = (xs.set k x).flatMap f
  | [], _, _, h, _, _, _, _ => by simp at h
  | y :: xs, 0, j, h, hj, x, u, hx => by
    simp only [List.getElem_cons_zero] at hx
    rw [List.set_cons_zero, List.flatMap_cons, List.flatMap_cons, List.set_append_left _ _ (by rw [hm]; omega), hx, Nat.zero_mul, Nat.zero_add]
  | y :: xs, k + 1, j, h, hj, x, u, hx => by
    simp only [List.getElem_cons_succ] at hx
    have e : (k + 1) * m + j = m + (k * m + j) := by rw [Nat.add_mul, Nat.one_mul]; omega
    rw [List.set_cons_succ, List.flatMap_cons, List.flatMap_cons, List.set_append_right _ _ (by rw [hm]; omega), hm, show (k + 1) * m + j - m = k * m + j by omega, flat_set_at f hm xs k j (by simpa using h) hj x u hx]
theorem lift_get (out : List Rc.Rect) (j : Nat) (z : Int) (i : Nat) (hj : j ≤ out.length) : (Rc.lift out j z)[i]? = if i < out.length - j then out[i]? else out[i]?.map (fun r => { r with y1 := z }) := by
  unfold Rc.lift
  rw [List.getElem?_append]
  have hl : (out.take (out.length - j)).length = out.length - j := by rw [List.length_take]; omega
  rw [hl]
  split
  · rename_i h; rw [List.getElem?_take, if_pos h]
  · rename_i h; rw [List.getElem?_map, List.getElem?_drop, show out.length - j + (i - (out.length - j)) = i by omega]
theorem lift_step (out : List Rc.Rect) (j : Nat) (z : Int) (h : j < out.length) : ((Rc.lift out j z).flatMap recVal).set ((out.length - 1 - j) * 4 + 3) (.int .i64 z) = (Rc.lift out (j + 1) z).flatMap recVal := by
  have hl := lift_len out j z
  have hk : out.length - 1 - j < (Rc.lift out j z).length := by omega
  have hk2 : out.length - 1 - j < out.length := by omega
  have e0 : (Rc.lift out j z)[out.length - 1 - j] = out[out.length - 1 - j] := by
    have := lift_get out j z (out.length - 1 - j) (by omega)
    rw [if_pos (by omega), List.getElem?_eq_getElem hk, List.getElem?_eq_getElem hk2] at this
    exact Option.some.inj this
  rw [flat_set_at recVal (m := 4) (fun _ => rfl) _ _ 3 hk (by omega) { out[out.length - 1 - j] with y1 := z } _ (by rw [e0]; rfl)]
  congr 1
  apply List.ext_getElem?
  intro i
  rw [List.getElem?_set, lift_get out j z i (by omega), lift_get out (j + 1) z i (by omega), hl]
  by_cases h3 : out.length - 1 - j = i
  · rw [if_pos h3, if_pos (by omega), if_neg (by omega)]
    subst h3
    rw [List.getElem?_eq_getElem hk2]
    rfl
  · rw [if_neg h3]
    by_cases h4 : i < out.length - (j + 1)
    · rw [if_pos (by omega), if_pos h4]
    · rw [if_neg (by omega), if_neg h4]
/-- A cell of an owned row whose last rectangles are being heightened. -/
theorem own_lift {w : World} {base g cap j : Nat} {out : List Rc.Rect} {z : Int} (h : w.ownsRow base 44 4 (.slice (some ⟨g, 0, none⟩) out.length cap) out.length ((Rc.lift out j z).flatMap recVal)) (hj : j < out.length) :
    (∃ u, w.cell? ⟨g, (out.length - 1 - j) * 4 + 3, none⟩ = some u) ∧ w.frozen? ⟨g, (out.length - 1 - j) * 4 + 3, none⟩ = false ∧
    (w.setCell ⟨g, (out.length - 1 - j) * 4 + 3, none⟩ (.int .i64 z)).ownsRow base 44 4 (.slice (some ⟨g, 0, none⟩) out.length cap) out.length ((Rc.lift out (j + 1) z).flatMap recVal) ∧ w.grownBy (w.setCell ⟨g, (out.length - 1 - j) * 4 + 3, none⟩ (.int .i64 z)) (some g) := by
  have hs := h.stored ((out.length - 1 - j) * 4 + 3) (.int .i64 z)
  rw [lift_step out j z hj] at hs
  refine ⟨?_, h.frozenAt _, hs.1, hs.2⟩
  rw [h.cellAt _ (by omega)]
  exact ⟨_, List.getElem?_eq_getElem (by rw [flat_len (m := 4) (f := recVal) (fun _ => rfl), lift_len]; omega)⟩

end Go.Proofs.Ytpakiabnhdoijaa
