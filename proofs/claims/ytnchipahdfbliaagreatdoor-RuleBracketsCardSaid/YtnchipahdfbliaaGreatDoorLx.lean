/- The ways out of a line. Conditions: the rule's block and the answer's block, one after the other. -/
import Derived.Test.YtnchipahdfbliaaGreatDoorWh
namespace Go.Proofs.YtnchipahdfbliaaGreatDoor
open Go.RowKit

theorem res52 (tmps : Array Value) (w : World) (b : Nat) (cs : Array Value) (x : Bool) (h2 : tmps[2]? = some (.pointer (some ⟨b, 0, none⟩))) (h3 : tmps[3]? = some (.pointer (some ⟨b + 1, 0, none⟩)))
    (hb : w.heap[b]? = some (.cells cs 42 (0, 0))) (hs : cs.size = 20) (hx : w.heap[b + 1]? = some (.cells #[.bool x] 4 (0, 0))) : (results Tryz.f52 tmps).run Tryz.prog w = .ok (.tuple #[.agg cs, .bool x]) w := by
  have hl := run_loadVar_row (P := Tryz.prog) w b 42 42 cs (0, 0) _ hb Tryz.underlying42 rfl (by rw [hs]; exact info42)
  have hc : w.cell? ⟨b + 1, 0, none⟩ = some (.bool x) := hcell hx 0 rfl
  have hl4 : (loadVar 4 ⟨b + 1, 0, none⟩).run Tryz.prog w = .ok (.bool x) w := by simp [go_sem, hc]
  simp [results, Tryz.results52, h2, h3, asAddr, hl, hl4]
/-- What line returns. -/
def LineIs (x : Option Ru.Rule) (w : World) (e : Ending) (w' : World) : Prop :=
  (match x with
  | some r => ∃ (a1 : Option Addr) (m1 p1 : Nat) (a2 : Option Addr) (m2 p2 : Nat), e = .returned (.tuple #[rA ⟨r, .slice a1 m1 p1, .slice a2 m2 p2⟩, .bool true]) ∧ TreeB w.heap.size w' r.a (.slice a1 m1 p1) ∧ TreeB w.heap.size w' r.b (.slice a2 m2 p2)
  | none => ∃ (r : Ru.Rule) (a1 : Option Addr) (m1 p1 : Nat) (a2 : Option Addr) (m2 p2 : Nat), e = .returned (.tuple #[rA ⟨r, .slice a1 m1 p1, .slice a2 m2 p2⟩, .bool false])) ∧ Kp w w' none
def zCond : Ru.Cond := .mk 0 [] 0 ⟨0, 0, 0, 0⟩ []
theorem rZ_is : Value.agg rZ = rA ⟨⟨[], 0, 0, 0, zCond, zCond⟩, .slice none 0 0, .slice none 0 0⟩ := rfl
theorem door_none {w wr : World} {cs : Array Value} {x : Bool} (tmps : Array Value) (h2 : tmps[2]? = some (.pointer (some ⟨w.heap.size, 0, none⟩))) (h3 : tmps[3]? = some (.pointer (some ⟨w.heap.size + 1, 0, none⟩)))
    (hb : wr.heap[w.heap.size]? = some (.cells cs 42 (0, 0))) (hs : cs.size = 20) (hx : wr.heap[w.heap.size + 1]? = some (.cells #[.bool x] 4 (0, 0))) (hK : Kp w wr none) {o : Option Ru.Rule} (ho : o = none) :
    Leaves Tryz.prog Tryz.f52 tmps (LineIs o w) [{ target := .fn (.func 73) #[.pointer (some ⟨w.heap.size, 0, none⟩), .pointer (some ⟨w.heap.size + 1, 0, none⟩)], args := #[] }] (.panicking badP) wr := by
  subst ho
  refine leaves_cons (f := 73) (args := #[.pointer (some ⟨w.heap.size, 0, none⟩), .pointer (some ⟨w.heap.size + 1, 0, none⟩)]) (by simp) (by simp [go_sem]) ?_
  refine (catch_panicking w.heap.size cs x [] wr hb hs hx).mono ?_
  rintro e u' w'' ⟨rfl, rfl, hb2, hx2, hk⟩
  exact ⟨_, res52 tmps w'' w.heap.size rZ false h2 h3 hb2 rfl hx2, ⟨⟨_, none, 0, 0, none, 0, 0, by rw [rZ_is]⟩, hk w none hK (Nat.le_refl _)⟩⟩
theorem door_some {w wr : World} {q : Ru.Rule} {a1 : Option Addr} {m1 p1 : Nat} {a2 : Option Addr} {m2 p2 : Nat} {x : Bool} (tmps : Array Value) (h2 : tmps[2]? = some (.pointer (some ⟨w.heap.size, 0, none⟩))) (h3 : tmps[3]? = some (.pointer (some ⟨w.heap.size + 1, 0, none⟩)))
    (hb : wr.heap[w.heap.size]? = some (.cells (rC ⟨q, .slice a1 m1 p1, .slice a2 m2 p2⟩).toArray 42 (0, 0))) (hx : wr.heap[w.heap.size + 1]? = some (.cells #[.bool x] 4 (0, 0))) (hK : Kp w wr none) {o : Option Ru.Rule} (ho : o = if x then some q else none) (ht : x = true → TreeB w.heap.size wr q.a (.slice a1 m1 p1) ∧ TreeB w.heap.size wr q.b (.slice a2 m2 p2)) :
    Leaves Tryz.prog Tryz.f52 tmps (LineIs o w) [{ target := .fn (.func 73) #[.pointer (some ⟨w.heap.size, 0, none⟩), .pointer (some ⟨w.heap.size + 1, 0, none⟩)], args := #[] }] .returning wr := by
  subst ho
  refine leaves_cons (f := 73) (args := #[.pointer (some ⟨w.heap.size, 0, none⟩), .pointer (some ⟨w.heap.size + 1, 0, none⟩)]) (by simp) (by simp [go_sem]) ?_
  refine (catch_idle _ _ wr).mono ?_
  rintro e u' w'' ⟨rfl, rfl, rfl⟩
  refine ⟨_, res52 tmps w'' w.heap.size _ x h2 h3 hb (by simp [rC_len]) hx, ?_, hK⟩
  cases x with
  | true => exact ⟨a1, m1, p1, a2, m2, p2, rfl, ht rfl⟩
  | false => exact ⟨q, a1, m1, p1, a2, m2, p2, rfl⟩
end Go.Proofs.YtnchipahdfbliaaGreatDoor
