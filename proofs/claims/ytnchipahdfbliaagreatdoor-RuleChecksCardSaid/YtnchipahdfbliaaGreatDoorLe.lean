/- The way out of a line: the deferred function that recovers. No condition.
  The words for what a rule asks: the list, and a word's place in it. No condition.
  The ways out of a line. Conditions: the rule's block and the answer's block, one after the other.
  A struct stored in the middle of a block. Condition: the block has so many cells. -/
import Derived.Test.YtnchipahdfbliaaGreatDoorFd
import Derived.Defers
import Derived.Recover

namespace Go.Proofs.YtnchipahdfbliaaGreatDoor
open Go.RowKit

/-- The zero rule's cells. -/
def rZ : Array Value := #[.string ⟨#[]⟩, .int .i64 0, .int .i64 0, .int .i64 0, .string ⟨#[]⟩, .int .i64 0, .int .i64 0, .int .i64 0, .int .i64 0, .int .i64 0, .slice none 0 0, .int .i64 0, .string ⟨#[]⟩, .int .i64 0, .int .i64 0, .int .i64 0, .int .i64 0, .int .i64 0, .slice none 0 0, .int .i64 0]
theorem rZ_one : ∀ v ∈ rZ.toList, v.oneCell' = true := by simp [rZ, Value.oneCell']
set_option maxHeartbeats 2000000 in
set_option maxRecDepth 100000 in
theorem catch_idle (p q : Addr) (w : World) :
  CallsD Tryz.prog 73 #[.pointer (some p), .pointer (some q)] .returning w fun e u' w' => e = .returned (.tuple #[]) ∧ u' = .returning ∧ w' = w := by
 refine callsD_of_wpS Tryz.func73 rfl fun c₀ cs hu => ?_
 apply wpS_seq
 apply wpS_region
 simp [wpOpsS, go_sem, recoverD, hu, Tryz.ntmps73, Exit.thenS]
 apply wpS_seq
 apply wpS_region
 simp [wpOpsS, go_sem, Exit.thenS]
 refine wpS_cond (t := false) (by simp [Act.eval, Array.replicate]) ?_
 simp only [Bool.false_eq_true, if_false]
 refine wpS_of_wp (wp_skip ?_)
 cases c₀
 simp_all [bodyPostS, results, Tryz.results73]
set_option maxHeartbeats 2000000 in
set_option maxRecDepth 100000 in
theorem catch_panicking (b : Nat) (cs₀ : Array Value) (x : Bool) (older : List PanicEntry) (w : World) (hb : w.heap[b]? = some (.cells cs₀ 42 (0, 0))) (hs : cs₀.size = 20) (hx : w.heap[b + 1]? = some (.cells #[.bool x] 4 (0, 0))) :
  CallsD Tryz.prog 73 #[.pointer (some ⟨b, 0, none⟩), .pointer (some ⟨b + 1, 0, none⟩)] (.panicking ({ v := .iface 115 (.agg #[]), recovered := false } :: older)) w fun e u' w' =>
   e = .returned (.tuple #[]) ∧ u' = .panicking ({ v := .iface 115 (.agg #[]), recovered := true } :: older) ∧ w'.heap[b]? = some (.cells rZ 42 (0, 0)) ∧ w'.heap[b + 1]? = some (.cells #[.bool false] 4 (0, 0)) ∧
    ∀ W R, Kp W w R → W.heap.size ≤ b → Kp W w' R := by
 have hk1 : Kp w (w.alloc (.cells #[] 115)) none := (Kp.refl w none).alloc _
 have HB := Lib.hid ((hk1.block b (lt_of_block hb) (by simp)).trans hb)
 have HX := Lib.hid ((hk1.block (b + 1) (lt_of_block hx) (by simp)).trans hx)
 have HK := Lib.hid hk1
 clear hb hx hk1
 refine callsD_of_wpS Tryz.func73 rfl fun c₀ cs hu => ?_
 refine (show Code.wpS _ _ _ { tmps := #[.pointer (some ⟨b, 0, none⟩), .pointer (some ⟨b + 1, 0, none⟩), undef, undef, undef, undef, undef, undef, undef, undef, undef, undef, undef, undef, undef, undef, undef], defers := [] } _ _ from ?_)
 apply wpS_seq
 apply wpS_region
 simp [wpOpsS, go_sem, recoverD, hu, Exit.thenS]
 apply wpS_seq
 apply wpS_region
 simp [wpOpsS, go_sem, Exit.thenS]
 refine wpS_cond (t := true) (by rfl) ?_
 simp only [if_true]
 refine wpS_of_wp ?_
 have hta : ∀ w : World, (Instr.typeAssert (.iface 115 (.agg #[])) 20 115 true).run Tryz.prog w = .ok (.tuple #[.agg #[], .bool true]) w := fun w => by kernel_rfl
 go_wp2_with (refine wpList_store_blk (by rfl) 42 _ _ (by rfl) b cs₀ 42 HB.out rZ (by rfl) (by rfl) info42 hs rZ_one (fun V hV hkV => ?_); have HV := Lib.hid hV; have HKV := Lib.hid hkV; have HXV := Lib.hid (res_kept HX.out hkV (by intro q hq; injection hq with hq; omega)); have hcx : V.cell? ⟨b + 1, 0, none⟩ = some (.bool x) := hcell HXV.out 0 rfl; have hzx : V.frozen? ⟨b + 1, 0, none⟩ = false := Lib.frozen_of_heap HXV.out 0; clear hV hkV)
 refine ⟨rfl, _, rfl, .tuple #[], by simp [results, Tryz.results73], rfl, rfl, ?_, heap_set HXV.out, fun W R hW hle => ?_⟩
 ·exact res_set HV.out (by omega)
 ·refine Kp.row (Kp.row hW ((HK.out.weak _).trans HKV.out) (by intro k hk; injection hk with hk; omega)) ((Kp.refl V (some (b + 1))).set _) (by intro k hk; injection hk with hk; omega)
end Go.Proofs.YtnchipahdfbliaaGreatDoor

namespace Go.Proofs.YtnchipahdfbliaaGreatDoor
open Go.RowKit

theorem whats_any (w : World) : Calls Tryz.prog 41 #[] w fun e w' => e = .returned (.slice (some ⟨w.heap.size, 0, none⟩) 4 4) ∧ w' = w.alloc (.cells (Ru.whats.map str).toArray 9) := by
 go_enter Tryz.func41, Tryz.ntmps41
 go_wp2_with fail
 go_ret
 exact ⟨rfl, rfl⟩
theorem str_inj (a x : List UInt8) : ((⟨a.toArray⟩ : ByteArray) = ⟨x.toArray⟩) ↔ (a = x) := by
 exact ⟨fun h => by injection h with h; injection h, fun h => by rw [h]⟩
theorem whats_idx (x : List UInt8) : Lib.idxOfS (Ru.whats.map fun s => (⟨s.toArray⟩ : ByteArray)) ⟨x.toArray⟩ = Ru.whatOf x - 1 := by
 by_cases h0 : x = Ru.whats[0]
 ·subst h0; rfl
 by_cases h1 : x = Ru.whats[1]
 ·subst h1; rfl
 by_cases h2 : x = Ru.whats[2]
 ·subst h2; rfl
 by_cases h3 : x = Ru.whats[3]
 ·subst h3; rfl
 have hn : x ∉ Ru.whats := by
  unfold Ru.whats at *
  simp only [List.mem_cons, List.not_mem_nil, or_false]
  rintro (h | h | h | h)
  ·exact h0 h
  ·exact h1 h
  ·exact h2 h
  ·exact h3 h
 have e1 : Ru.whatOf x = 0 := by
  unfold Ru.whatOf
  rw [List.idxOf?_eq_none_iff.2 hn]
 rw [e1]
 refine Lib.idxOfS_miss (Ru.whats.map fun s => (⟨s.toArray⟩ : ByteArray)) 4 ⟨x.toArray⟩ (fun j hj => ?_)
 match j, hj with
 | 0, _ => exact fun e => h0 ((str_inj _ _).1 e).symm
 | 1, _ => exact fun e => h1 ((str_inj _ _).1 e).symm
 | 2, _ => exact fun e => h2 ((str_inj _ _).1 e).symm
 | 3, _ => exact fun e => h3 ((str_inj _ _).1 e).symm
theorem index_what (b : Nat) (x : List UInt8) (w : World) (hb : w.heap[b]? = some (.cells (Ru.whats.map str).toArray 9 (0, 0))) : Calls Tryz.prog 77 #[.slice (some ⟨b, 0, none⟩) 4 4, str x] w fun e w' => e = .returned (.int .i64 (Ru.whatOf x - 1)) ∧ w' = w := by
 refine (Tryz.slices_Index_string b 0 4 4 (Ru.whats.map fun s => (⟨s.toArray⟩ : ByteArray)) ⟨x.toArray⟩ w (by decide) (by decide) (fun j hj => ?_)).mono ?_
 ·match j, hj with
  | 0, _ => exact hcell hb 0 rfl
  | 1, _ => exact hcell hb 1 rfl
  | 2, _ => exact hcell hb 2 rfl
  | 3, _ => exact hcell hb 3 rfl
  | n + 4, h => exact absurd h (by simp [Ru.whats])
 ·rintro e w' ⟨rfl, rfl⟩
  exact ⟨by rw [show (Ru.whats.map fun s => (⟨s.toArray⟩ : ByteArray)).take 4 = Ru.whats.map fun s => (⟨s.toArray⟩ : ByteArray) from rfl, whats_idx], rfl⟩
end Go.Proofs.YtnchipahdfbliaaGreatDoor

namespace Go.Proofs.YtnchipahdfbliaaGreatDoor
open Go.RowKit

theorem res52 (tmps : Array Value) (w : World) (b : Nat) (cs : Array Value) (x : Bool) (h2 : tmps[2]? = some (.pointer (some ⟨b, 0, none⟩))) (h3 : tmps[3]? = some (.pointer (some ⟨b + 1, 0, none⟩)))
  (hb : w.heap[b]? = some (.cells cs 42 (0, 0))) (hs : cs.size = 20) (hx : w.heap[b + 1]? = some (.cells #[.bool x] 4 (0, 0))) : (results Tryz.f52 tmps).run Tryz.prog w = .ok (.tuple #[.agg cs, .bool x]) w := by
 have hl := run_loadVar_row (P := Tryz.prog) w b 42 42 cs (0, 0) _ hb Tryz.underlying42 rfl (by rw [hs]; exact info42)
 have hc : w.cell? ⟨b + 1, 0, none⟩ = some (.bool x) := hcell hx 0 rfl
 have hl4 : (loadVar 4 ⟨b + 1, 0, none⟩).run Tryz.prog w = .ok (.bool x) w := by simp [go_sem, hc]
 simp [results, Tryz.results52, h2, h3, asAddr, hl, hl4]
/-- What line returns. -/
def LineIs (x : Option Ru.Rule) (w : World) (e : Ending) (w' : World) : Prop :=
 (match x with
 | some r => ∃ (a1 : Option Addr) (m1 p1 : Nat) (a2 : Option Addr) (m2 p2 : Nat), e = .returned (.tuple #[rA ⟨r, .slice a1 m1 p1, .slice a2 m2 p2⟩, .bool true]) ∧ TreeB w.heap.size w' r.a (.slice a1 m1 p1) ∧ TreeB w.heap.size w' r.b (.slice a2 m2 p2)
 | none => ∃ (r : Ru.Rule) (a1 : Option Addr) (m1 p1 : Nat) (a2 : Option Addr) (m2 p2 : Nat), e = .returned (.tuple #[rA ⟨r, .slice a1 m1 p1, .slice a2 m2 p2⟩, .bool false])) ∧ Kp w w' none
def zCond : Ru.Cond := .mk 0 [] 0 ⟨0, 0, 0, 0⟩ []
theorem rZ_is : Value.agg rZ = rA ⟨⟨[], 0, 0, 0, zCond, zCond⟩, .slice none 0 0, .slice none 0 0⟩ := rfl
theorem door_none {w wr : World} {cs : Array Value} {x : Bool} (tmps : Array Value) (h2 : tmps[2]? = some (.pointer (some ⟨w.heap.size, 0, none⟩))) (h3 : tmps[3]? = some (.pointer (some ⟨w.heap.size + 1, 0, none⟩)))
  (hb : wr.heap[w.heap.size]? = some (.cells cs 42 (0, 0))) (hs : cs.size = 20) (hx : wr.heap[w.heap.size + 1]? = some (.cells #[.bool x] 4 (0, 0))) (hK : Kp w wr none) {o : Option Ru.Rule} (ho : o = none) :
  Leaves Tryz.prog Tryz.f52 tmps (LineIs o w) [{ target := .fn (.func 73) #[.pointer (some ⟨w.heap.size, 0, none⟩), .pointer (some ⟨w.heap.size + 1, 0, none⟩)], args := #[] }] (.panicking badP) wr := by
 subst ho
 refine leaves_cons (f := 73) (args := #[.pointer (some ⟨w.heap.size, 0, none⟩), .pointer (some ⟨w.heap.size + 1, 0, none⟩)]) (by simp) (by simp [go_sem]) ?_
 refine (catch_panicking w.heap.size cs x [] wr hb hs hx).mono ?_
 rintro e u' w'' ⟨rfl, rfl, hb2, hx2, hk⟩
 exact ⟨_, res52 tmps w'' w.heap.size rZ false h2 h3 hb2 rfl hx2, ⟨⟨_, none, 0, 0, none, 0, 0, by rw [rZ_is]⟩, hk w none hK (Nat.le_refl _)⟩⟩
theorem door_some {w wr : World} {q : Ru.Rule} {a1 : Option Addr} {m1 p1 : Nat} {a2 : Option Addr} {m2 p2 : Nat} {x : Bool} (tmps : Array Value) (h2 : tmps[2]? = some (.pointer (some ⟨w.heap.size, 0, none⟩))) (h3 : tmps[3]? = some (.pointer (some ⟨w.heap.size + 1, 0, none⟩)))
  (hb : wr.heap[w.heap.size]? = some (.cells (rC ⟨q, .slice a1 m1 p1, .slice a2 m2 p2⟩).toArray 42 (0, 0))) (hx : wr.heap[w.heap.size + 1]? = some (.cells #[.bool x] 4 (0, 0))) (hK : Kp w wr none) {o : Option Ru.Rule} (ho : o = if x then some q else none) (ht : x = true → TreeB w.heap.size wr q.a (.slice a1 m1 p1) ∧ TreeB w.heap.size wr q.b (.slice a2 m2 p2)) :
  Leaves Tryz.prog Tryz.f52 tmps (LineIs o w) [{ target := .fn (.func 73) #[.pointer (some ⟨w.heap.size, 0, none⟩), .pointer (some ⟨w.heap.size + 1, 0, none⟩)], args := #[] }] .returning wr := by
 subst ho
 refine leaves_cons (f := 73) (args := #[.pointer (some ⟨w.heap.size, 0, none⟩), .pointer (some ⟨w.heap.size + 1, 0, none⟩)]) (by simp) (by simp [go_sem]) ?_
 refine (catch_idle _ _ wr).mono ?_
 rintro e u' w'' ⟨rfl, rfl, rfl⟩
 refine ⟨_, res52 tmps w'' w.heap.size _ x h2 h3 hb (by simp [rC_len]) hx, ?_, hK⟩
 cases x with
 | true => exact ⟨a1, m1, p1, a2, m2, p2, rfl, ht rfl⟩
 | false => exact ⟨q, a1, m1, p1, a2, m2, p2, rfl⟩
end Go.Proofs.YtnchipahdfbliaaGreatDoor

namespace Go.Proofs.YtnchipahdfbliaaGreatDoor
open Go.RowKit

def putAll (old : Array Value) (o : Nat) : List Value → Array Value
 | [] => old
 | v :: vs => putAll (old.setIfInBounds o v) (o + 1) vs
theorem heap_setCells {g : Nat} {t : TypeId} : ∀ (vs : List Value) (o : Nat) (w : World) (old : Array Value), w.heap[g]? = some (.cells old t (0, 0)) → (w.setCells g o vs).heap[g]? = some (.cells (putAll old o vs) t (0, 0)) ∧ Kp w (w.setCells g o vs) (some g)
 | [], _, w, _, h => ⟨h, Kp.refl w _⟩
 | v :: vs, o, w, old, h => by
  have := heap_setCells vs (o + 1) (w.setCell ⟨g, o, none⟩ v) _ (heap_set h)
  exact ⟨this.1, ((Kp.refl w (some g)).set v).trans this.2⟩
theorem wpList_store_at {ops : Array Oper} {rest : List Oper} {op : Oper} {a : Act} {w : World} {Q : Exit → Act → World → Prop} (hgd : op.guard = none) (ty : TypeId) (x y : Operand) (ho : op.op = .store ty x y)
  (g o : Nat) (old : Array Value) (t : TypeId) (hg : w.heap[g]? = some (.cells old t (0, 0))) (c' : Array Value) (hx : a.eval x = .pointer (some ⟨g, o, none⟩)) (hy : a.eval y = .agg c') (hi : (Tryz.prog.info? ty).map (·.size) = some c'.size) (hs : o + c'.size ≤ old.size) (h1 : ∀ v ∈ c'.toList, v.oneCell' = true)
  (h : ∀ V, V.heap[g]? = some (.cells (putAll old o c'.toList) t (0, 0)) → Kp w V (some g) → wpList Tryz.prog ops Q rest (a.put op.dst undef) V) : wpList Tryz.prog ops Q (op :: rest) a w := by
 have hh := heap_setCells c'.toList o w old hg
 refine wpList_store_mid hgd ty x y ho g o c' hx hy (fun j hj => ⟨?_, Lib.frozen_of_heap hg (o + j)⟩) hi (Array.all_eq_true_iff_forall_mem.2 (fun v hv => h1 v (by simpa using hv))) (h _ hh.1 hh.2)
 rw [Lib.cell_of_heap hg]
 have : o + j < old.size := by omega
 simp [this]
end Go.Proofs.YtnchipahdfbliaaGreatDoor
