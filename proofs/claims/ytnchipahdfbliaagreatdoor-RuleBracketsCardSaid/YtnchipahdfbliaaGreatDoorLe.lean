/- The way out of a line: the deferred function that recovers. No condition. -/
import Derived.Test.YtnchipahdfbliaaGreatDoorFd
import Derived.Defers
import Derived.Recover
namespace Go.Proofs.YtnchipahdfbliaaGreatDoor
open Go.RowKit

/-- The zero rule's cells. -/
def rZ : Array Value := #[.string ⟨#[]⟩, .int .i64 0, .int .i64 0, .int .i64 0, .string ⟨#[]⟩, .int .i64 0, .int .i64 0, .int .i64 0, .int .i64 0, .int .i64 0, .slice none 0 0, .int .i64 0, .string ⟨#[]⟩, .int .i64 0, .int .i64 0, .int .i64 0, .int .i64 0, .int .i64 0, .slice none 0 0, .int .i64 0]
theorem rZ_one : ∀ v ∈ rZ.toList, v.oneCell' = true := by simp [rZ, Value.oneCell']
set_option maxHeartbeats 2000000 in
set_option maxRecDepth 100000 in
theorem catch_idle (p q : Addr) (w : World) :
    CallsD Tryz.prog 73 #[.pointer (some p), .pointer (some q)] .returning w fun e u' w' => e = .returned (.tuple #[]) ∧ u' = .returning ∧ w' = w := by
  refine callsD_of_wpS Tryz.func73 rfl fun c₀ cs hu => ?_
  apply wpS_seq
  apply wpS_region
  simp [wpOpsS, go_sem, recoverD, hu, Tryz.ntmps73, Exit.thenS]
  apply wpS_seq
  apply wpS_region
  simp [wpOpsS, go_sem, Exit.thenS]
  refine wpS_cond (t := false) (by simp [Act.eval, Array.replicate]) ?_
  simp only [Bool.false_eq_true, if_false]
  refine wpS_of_wp (wp_skip ?_)
  cases c₀
  simp_all [bodyPostS, results, Tryz.results73]
set_option maxHeartbeats 2000000 in
set_option maxRecDepth 100000 in
theorem catch_panicking (b : Nat) (cs₀ : Array Value) (x : Bool) (older : List PanicEntry) (w : World) (hb : w.heap[b]? = some (.cells cs₀ 42 (0, 0))) (hs : cs₀.size = 20) (hx : w.heap[b + 1]? = some (.cells #[.bool x] 4 (0, 0))) :
    CallsD Tryz.prog 73 #[.pointer (some ⟨b, 0, none⟩), .pointer (some ⟨b + 1, 0, none⟩)] (.panicking ({ v := .iface 115 (.agg #[]), recovered := false } :: older)) w fun e u' w' =>
      e = .returned (.tuple #[]) ∧ u' = .panicking ({ v := .iface 115 (.agg #[]), recovered := true } :: older) ∧ w'.heap[b]? = some (.cells rZ 42 (0, 0)) ∧ w'.heap[b + 1]? = some (.cells #[.bool false] 4 (0, 0)) ∧
        ∀ W R, Kp W w R → W.heap.size ≤ b → Kp W w' R := by
  have hk1 : Kp w (w.alloc (.cells #[] 115)) none := (Kp.refl w none).alloc _
  have HB := Lib.hid ((hk1.block b (lt_of_block hb) (by simp)).trans hb)
  have HX := Lib.hid ((hk1.block (b + 1) (lt_of_block hx) (by simp)).trans hx)
  have HK := Lib.hid hk1
  clear hb hx hk1
  refine callsD_of_wpS Tryz.func73 rfl fun c₀ cs hu => ?_
  refine (show Code.wpS _ _ _ { tmps := #[.pointer (some ⟨b, 0, none⟩), .pointer (some ⟨b + 1, 0, none⟩), undef, undef, undef, undef, undef, undef, undef, undef, undef, undef, undef, undef, undef, undef, undef], defers := [] } _ _ from ?_)
  apply wpS_seq
  apply wpS_region
  simp [wpOpsS, go_sem, recoverD, hu, Exit.thenS]
  apply wpS_seq
  apply wpS_region
  simp [wpOpsS, go_sem, Exit.thenS]
  refine wpS_cond (t := true) (by rfl) ?_
  simp only [if_true]
  refine wpS_of_wp ?_
  have hta : ∀ w : World, (Instr.typeAssert (.iface 115 (.agg #[])) 20 115 true).run Tryz.prog w = .ok (.tuple #[.agg #[], .bool true]) w := fun w => by kernel_rfl
  go_wp2_with (refine wpList_store_blk (by rfl) 42 _ _ (by rfl) b cs₀ 42 HB.out rZ (by rfl) (by rfl) info42 hs rZ_one (fun V hV hkV => ?_); have HV := Lib.hid hV; have HKV := Lib.hid hkV; have HXV := Lib.hid (res_kept HX.out hkV (by intro q hq; injection hq with hq; omega)); have hcx : V.cell? ⟨b + 1, 0, none⟩ = some (.bool x) := hcell HXV.out 0 rfl; have hzx : V.frozen? ⟨b + 1, 0, none⟩ = false := Lib.frozen_of_heap HXV.out 0; clear hV hkV)
  refine ⟨rfl, _, rfl, .tuple #[], by simp [results, Tryz.results73], rfl, rfl, ?_, heap_set HXV.out, fun W R hW hle => ?_⟩
  · exact res_set HV.out (by omega)
  · refine Kp.row (Kp.row hW ((HK.out.weak _).trans HKV.out) (by intro k hk; injection hk with hk; omega)) ((Kp.refl V (some (b + 1))).set _) (by intro k hk; injection hk with hk; omega)
end Go.Proofs.YtnchipahdfbliaaGreatDoor
