/- Drawings that lists of numbers choose (Made). No condition. -/
import Derived.Test.YtggplbenliaodaaDoorMa
import Derived.Test.YtggplbenliaodaaDoorMp
namespace Go.Proofs.YtggplbenliaodaaDoor
open Go.RowKit

theorem infoDr : (Tryd.prog.info? 31).map (fun i => (i.zero, i.size, i.bytes)) = some (some (.agg #[.int .i64 0, .slice none 0 0, .int .i64 0, .bool false]), 4, 48) := by kernel_rfl
/-- A drawing, and where its edges lie. -/
structure DT where
  d : Pl.Dr
  ea : Option Addr
  ec : Nat
def dtC (t : DT) : List Value := [.int .i64 t.d.s.k, .slice t.ea t.d.s.es.length t.ec, .int .i64 t.d.s.r, .bool t.d.clear]
theorem dt_one : ∀ x : DT, ∀ u ∈ dtC x, u.oneCell' = true := by intro x q hq; simp [dtC] at hq; rcases hq with rfl | rfl | rfl | rfl <;> rfl
/-- Rows of numbers in memory. -/
def LiesRows (w : World) (ao : Option Addr) (cap : Nat) (rows : List (List Int)) : Prop :=
  ∀ k, (h : k < rows.length) → ∃ b off ra rc, ao = some ⟨b, off, none⟩ ∧ rows.length ≤ cap ∧ b < w.heap.size ∧ w.cell? ⟨b, off + k, none⟩ = some (.slice ra rows[k].length rc) ∧ LiesAt 1 intVal w ra rc rows[k] ∧ rows[k].length ≤ rc ∧ LenOk rows[k].length
/-- Drawings that a call hands out: each is right, and small. -/
def DrewDs (w : World) (E : Ending) (w' : World) : Prop := ∃ (ts : List DT) (ao : Option Addr) (cap : Nat), (∀ t ∈ ts, Pl.Fine t.d.s) ∧ ts.length ≤ 8 ∧ E = .returned (.slice ao ts.length cap) ∧ LiesAt 4 dtC w' ao cap ts ∧ (∀ t ∈ ts, LiesAt 7 edC w' t.ea t.ec t.d.s.es) ∧ (ts.length ≤ cap ∧ (ao = none → cap = 0)) ∧ (∀ p, ao = some p → w.heap.size ≤ p.block) ∧ Kp w w' none
theorem drs_lies {w : World} {cap : Nat} {ao : Option Addr} {ts : List DT} (h : LiesAt 4 dtC w ao cap ts) (hl : ∀ t ∈ ts, LiesAt 7 edC w t.ea t.ec t.d.s.es) : LiesDr w ao cap (ts.map (·.d)) := fun k hk => by
  have hk2 : k < ts.length := by simpa using hk
  obtain ⟨b, off, e, hb, hc, hr⟩ := h k hk2
  refine ⟨b, off, ts[k].ea, ts[k].ec, e, by simpa using hc, hb, ?_⟩
  have e1 : (ts.map (·.d))[k] = ts[k].d := by simp
  rw [e1]
  exact ⟨hr 0 (by simp [dtC]), hr 1 (by simp [dtC]), hr 2 (by simp [dtC]), hr 3 (by simp [dtC]), hl _ (List.getElem_mem hk2)⟩
theorem lies_tail {w : World} {b off cap : Nat} {xs : List Int} (h : LiesAt 1 intVal w (some ⟨b, off, none⟩) cap xs) (h0 : 0 < xs.length) : LiesAt 1 intVal w (if cap = 1 then some ⟨b, off, none⟩ else some ⟨b, off + 1, none⟩) (cap - 1) (xs.drop 1) := fun k hk => by
  have hk2 : 1 + k < xs.length := by rw [List.length_drop] at hk; omega
  obtain ⟨b2, off2, e, hb, hc, hr⟩ := h (1 + k) hk2
  injection e with e
  injection e with e1 e2
  subst e1; subst e2
  rw [if_neg (by omega)]
  refine ⟨b, off + 1, rfl, hb, by rw [List.length_drop]; omega, fun j hj => ?_⟩
  have e3 : (xs.drop 1)[k] = xs[1 + k] := List.getElem_drop
  simp only [e3] at hj ⊢
  rw [show off + 1 + k * 1 + j = off + (1 + k) * 1 + j by omega]
  exact hr j hj
def MmRel (n : Nat) (w : World) (v i : Value) (wr : World) : Prop := ∃ (k : Nat) (ts : List DT), k ≤ n ∧ k ≤ 8 ∧ i = .int .i64 k ∧ ts.length = k ∧ (∀ t ∈ ts, Pl.Fine t.d.s) ∧ Kp w wr none ∧ wr.ownsRow w.heap.size 31 4 v k (ts.flatMap dtC) ∧ ∀ t ∈ ts, LiesOff 7 edC wr t.ea t.ec t.d.s.es v
theorem own_cap {w : World} {base size n m cap : Nat} {e : TypeId} {ao : Option Addr} {row : List Value} (h : w.ownsRow base e size (.slice ao n cap) m row) : m ≤ cap := by
  rcases h.2 with ⟨hv, rfl⟩ | ⟨g, cap', _, hv, _, _, hc, _⟩
  · exact Nat.zero_le _
  · injection hv with h1 h2 h3
    subst h3; exact hc
theorem own_nil {w : World} {base size n m cap : Nat} {e : TypeId} {row : List Value} (h : w.ownsRow base e size (.slice none n cap) m row) : cap = 0 := by
  rcases h.2 with ⟨hv, _⟩ | ⟨g, cap', _, hv, _⟩
  · injection hv
  · injection hv with h1; cases h1
theorem lies_off_fresh {w w' : World} {v : Value} {ao : Option Addr} {cap : Nat} {es : List Pl.Ed} (h : LiesAt 7 edC w' ao cap es) (hv : ∀ q, v.ownBlock = some q → q < w.heap.size) (hf : ∀ p, ao = some p → w.heap.size ≤ p.block) : LiesOff 7 edC w' ao cap es v := fun k hk => by
  obtain ⟨b, off, e, hb, hc, hr⟩ := h k hk
  refine ⟨b, off, e, hb, hc, fun hq => ?_, hr⟩
  have h1 := hv b hq
  have h2 := hf _ e
  dsimp only at h2
  omega
theorem dt_list (w : World) (t : DT) : IsList 4 dtC (w.alloc (Obj.cells #[.int .i64 t.d.s.k, .slice t.ea t.d.s.es.length t.ec, .int .i64 t.d.s.r, .bool t.d.clear] 31)) (.slice (some ⟨w.heap.size, 0, none⟩) 1 1) [t] := by
  refine .inr ⟨w.heap.size, 0, 1, rfl, by simp, by simp, fun k hk j hj => ?_⟩
  simp at hk; subst hk
  have hj' : j = 0 ∨ j = 1 ∨ j = 2 ∨ j = 3 := by
    have : j < 4 := by simpa [dtC] using hj
    omega
  rcases hj' with rfl | rfl | rfl | rfl <;> exact hcell (heap_alloc_new w _) _ rfl
end Go.Proofs.YtggplbenliaodaaDoor
