/- A line read: the way out of it, and the line itself. Conditions: those of the readers of a line.
  A line read, whole. Conditions: those of the readers of a line; the state is good. -/
import Derived.Test.YtljjbdbgedmadaaGreatDoorQt
import Derived.Test.YtljjbdbgedmadaaGreatDoorQh
import Derived.Defers
import Derived.Recover
set_option maxHeartbeats 4000000
set_option maxRecDepth 100000
namespace Go.Proofs.YtljjbdbgedmadaaGreatDoor
open Go.RowKit Go.Lib
theorem ops_step {P : Program} {Q : Exit → Act → List Frame → World → Prop} {ops : Array Oper} {i : Nat} {rest : List Nat} {a : Act} {cs : List Frame} {w w' : World} {o : Oper} {v : Value} (ho : ops[i]? = some o) (hg : o.guard = none) (hx : (execOp a.eval o).run P w = .ok (.value v) w') (h : wpOpsS P ops Q rest (a.put o.dst v) cs w') : wpOpsS P ops Q (i :: rest) a cs w := by
 simp only [wpOpsS, ho]
 rw [if_pos (show Region.wanted o (yielded ops a.tmps) = true by simp [Region.wanted, hg]), hx]
 exact h
theorem ops_skip {P : Program} {Q : Exit → Act → List Frame → World → Prop} {ops : Array Oper} {i : Nat} {rest : List Nat} {a : Act} {cs : List Frame} {w w' : World} {o : Oper} (ho : ops[i]? = some o) (hg : o.guard = none) (hx : (execOp a.eval o).run P w = .ok .skip w') (h : wpOpsS P ops Q rest (a.put o.dst undef) cs w') : wpOpsS P ops Q (i :: rest) a cs w := by
 simp only [wpOpsS, ho]
 rw [if_pos (show Region.wanted o (yielded ops a.tmps) = true by simp [Region.wanted, hg]), hx]
 exact h
theorem ops_recover {P : Program} {Q : Exit → Act → List Frame → World → Prop} {ops : Array Oper} {i : Nat} {rest : List Nat} {a : Act} {cs cs' : List Frame} {w w' : World} {o : Oper} {v : Value} (ho : ops[i]? = some o) (hg : o.guard = none) (hx : (execOp a.eval o).run P w = .ok .recover w') (hr : recoverD cs = some (v, cs')) (h : wpOpsS P ops Q rest (a.put o.dst v) cs' w') : wpOpsS P ops Q (i :: rest) a cs w := by
 simp only [wpOpsS, ho]
 rw [if_pos (show Region.wanted o (yielded ops a.tmps) = true by simp [Region.wanted, hg]), hx]
 simp only [hr]
 exact h
theorem ops_none {P : Program} {Q : Exit → Act → List Frame → World → Prop} {ops : Array Oper} {i : Nat} {rest : List Nat} {a : Act} {cs : List Frame} {w w' : World} {o : Oper} (ho : ops[i]? = some o) (hg : o.guard = none) (hx : (execOp a.eval o).run P w = .ok .recover w') (hr : recoverD cs = none) (h : wpOpsS P ops Q rest (a.put o.dst .nilIface) cs w') : wpOpsS P ops Q (i :: rest) a cs w := by
 simp only [wpOpsS, ho]
 rw [if_pos (show Region.wanted o (yielded ops a.tmps) = true by simp [Region.wanted, hg]), hx]
 simp only [hr]
 exact h
theorem info196s : (Tryz.prog.info? 196).map (·.size) = some 1 := by kernel_rfl
theorem store_one (a : Act) (w : World) (o : Oper) (x y : Operand) (ho : o.op = .store 196 x y) (g : Nat) (e0 e : Int) (hb : w.heap[g]? = some (.cells #[I6 e0] 196 (0, 0))) (hx : a.eval x = .pointer (some ⟨g, 0, none⟩)) (hy : a.eval y = .agg #[I6 e]) :
  ∃ V, (execOp a.eval o).run Tryz.prog w = .ok .skip V ∧ V.heap[g]? = some (.cells #[I6 e] 196 (0, 0)) ∧ Kp w V (some g) := by
 have hlt := lt_of_block hb
 refine ⟨w.setRow g #[I6 e], ?_, ?_, ⟨rfl, rfl, rfl, by simp [World.setRow], fun k _ hr => ?_⟩⟩
 ·unfold execOp
  simp only [ho, hx, hy, Instr.storeAt, Instr.sureAddr, Sem.run_bind, Sem.run_pure, Result.andThen_ok, run_storeVar_row w g 196 196 #[I6 e0] #[I6 e] hb info196s rfl (by simp [Value.oneCell'])]
 ·have h' : w.heap[g] = .cells #[I6 e0] 196 (0, 0) := by simpa [Array.getElem?_eq_getElem hlt] using hb
  show (w.heap.modify g _)[g]? = _
  rw [Array.getElem?_eq_getElem (by simpa using hlt), Array.getElem_modify_self, h']
 ·show (w.heap.modify g _)[k]? = _
  rw [Array.getElem?_modify, if_neg (fun e => hr (by rw [e]))]
theorem recover_at (a : Act) (w : World) (o : Oper) (ho : o.op = .call { callee := .builtin .recover, args := #[], argTypes := #[] }) : (execOp a.eval o).run Tryz.prog w = .ok .recover w := by
 unfold execOp
 simp only [ho]
 kernel_rfl
theorem alloc_one (a : Act) (w : World) (o : Oper) (ho : o.op = .alloc 196) : (execOp a.eval o).run Tryz.prog w = .ok (.value (.pointer (some ⟨w.heap.size, 0, none⟩))) (w.alloc (.cells #[I6 0] 196)) := by
 unfold execOp
 simp only [ho]
 kernel_rfl
theorem assert_nil (a : Act) (w : World) (o : Oper) (x : Operand) (ho : o.op = .typeAssert x 20 196 true) (hx : a.eval x = .nilIface) : (execOp a.eval o).run Tryz.prog w = .ok (.value (.tuple #[.agg #[I6 0], .bool false])) w := by
 unfold execOp
 simp only [ho, hx]
 kernel_rfl
theorem assert_bad (a : Act) (w : World) (o : Oper) (x : Operand) (e : Int) (ho : o.op = .typeAssert x 20 196 true) (hx : a.eval x = .iface 196 (.agg #[I6 e])) : (execOp a.eval o).run Tryz.prog w = .ok (.value (.tuple #[.agg #[I6 e], .bool true])) w := by
 unfold execOp
 simp only [ho, hx]
 kernel_rfl
theorem extract_at (a : Act) (w : World) (o : Oper) (x : Operand) (k : Nat) (vs : Array Value) (v : Value) (ho : o.op = .extract x k) (hx : a.eval x = .tuple vs) (hv : vs[k]? = some v) : (execOp a.eval o).run Tryz.prog w = .ok (.value v) w := by
 unfold execOp
 simp only [ho, hx]
 simp [go_sem, hv]
theorem move_at (a : Act) (w : World) (o : Oper) (x : Operand) (v : Value) (ho : o.op = .move x ∨ o.op = .assign x) (hx : a.eval x = v) : (execOp a.eval o).run Tryz.prog w = .ok (.value v) w := by
 unfold execOp
 rcases ho with ho | ho <;> simp only [ho, hx] <;> rfl
theorem ops_end {P : Program} {Q : Exit → Act → List Frame → World → Prop} {ops : Array Oper} {a : Act} {cs : List Frame} {w : World} (h : Q .normal a cs w) : wpOpsS P ops Q [] a cs w := by
 unfold wpOpsS
 exact h
attribute [local irreducible] wpOpsS
def Tryz.st103 : Oper := { dst := none, op := Op.store 196 (Operand.tmp 1) (Operand.tmp 6), type := 0, pos := "drill.go:305", after := #[{ on := 5, ground := Ground.data }, { on := 3, ground := Ground.data }, { on := 0, ground := Ground.chain }, { on := 0, ground := Ground.phase }, { on := 1, ground := Ground.phase }, { on := 2, ground := Ground.phase }, { on := 3, ground := Ground.phase }, { on := 4, ground := Ground.textOnly Departure.lateStores }, { on := 5, ground := Ground.phase }], guard := none }
theorem catch_idle (p : Addr) (w : World) :
  CallsD Tryz.prog 103 #[.pointer (some p)] .returning w fun e u' w' => e = .returned (.tuple #[]) ∧ u' = .returning ∧ Kp w w' none := by
 refine callsD_of_wpS Tryz.func103 rfl fun c₀ cs hu => ?_
 have hr : recoverD (c₀ :: cs) = none := by simp [recoverD, hu]
 apply wpS_seq
 apply wpS_region
 change wpOpsS _ _ _ [0, 1, 2, 3, 4, 5, 6, 7] _ _ _
 change wpOpsS _ _ _ _ { tmps := #[.pointer (some p), undef, undef, undef, undef, undef, undef, undef, undef, undef, undef], defers := [] } _ _
 refine ops_none rfl rfl (recover_at _ _ _ rfl) hr ?_
 change wpOpsS _ _ _ _ { tmps := #[.pointer (some p), undef, undef, undef, .nilIface, undef, undef, undef, undef, undef, undef], defers := [] } _ _
 refine ops_step rfl rfl (assert_nil _ _ _ _ rfl rfl) ?_
 change wpOpsS _ _ _ _ { tmps := #[.pointer (some p), undef, undef, undef, .nilIface, .tuple #[.agg #[I6 0], .bool false], undef, undef, undef, undef, undef], defers := [] } _ _
 refine ops_step rfl rfl (move_at _ _ _ _ (.tuple #[.agg #[I6 0], .bool false]) (.inl rfl) rfl) ?_
 change wpOpsS _ _ _ _ { tmps := #[.pointer (some p), undef, undef, .tuple #[.agg #[I6 0], .bool false], .nilIface, .tuple #[.agg #[I6 0], .bool false], undef, undef, undef, undef, undef], defers := [] } _ _
 refine ops_step rfl rfl (extract_at _ _ _ (.tmp 3) 0 #[.agg #[I6 0], .bool false] (.agg #[I6 0]) rfl rfl rfl) ?_
 change wpOpsS _ _ _ _ { tmps := #[.pointer (some p), undef, undef, .tuple #[.agg #[I6 0], .bool false], .nilIface, .tuple #[.agg #[I6 0], .bool false], .agg #[I6 0], undef, undef, undef, undef], defers := [] } _ _
 refine ops_step rfl rfl (extract_at _ _ _ (.tmp 3) 1 #[.agg #[I6 0], .bool false] (.bool false) rfl rfl rfl) ?_
 change wpOpsS _ _ _ _ { tmps := #[.pointer (some p), undef, undef, .tuple #[.agg #[I6 0], .bool false], .nilIface, .tuple #[.agg #[I6 0], .bool false], .agg #[I6 0], .bool false, undef, undef, undef], defers := [] } _ _
 refine ops_step rfl rfl (alloc_one _ _ _ rfl) ?_
 change wpOpsS _ _ _ _ { tmps := #[.pointer (some p), .pointer (some ⟨w.heap.size, 0, none⟩), undef, .tuple #[.agg #[I6 0], .bool false], .nilIface, .tuple #[.agg #[I6 0], .bool false], .agg #[I6 0], .bool false, undef, undef, undef], defers := [] } _ _
 obtain ⟨V, hV, hb, hk⟩ := store_one { tmps := #[.pointer (some p), .pointer (some ⟨w.heap.size, 0, none⟩), undef, .tuple #[.agg #[I6 0], .bool false], .nilIface, .tuple #[.agg #[I6 0], .bool false], .agg #[I6 0], .bool false, undef, undef, undef], defers := [] } (w.alloc (.cells #[I6 0] 196)) (Tryz.st103) (.tmp 1) (.tmp 6) rfl w.heap.size 0 0 (heap_alloc_new w _) rfl rfl
 refine ops_skip rfl rfl hV ?_
 change wpOpsS _ _ _ _ { tmps := #[.pointer (some p), .pointer (some ⟨w.heap.size, 0, none⟩), undef, .tuple #[.agg #[I6 0], .bool false], .nilIface, .tuple #[.agg #[I6 0], .bool false], .agg #[I6 0], .bool false, undef, undef, undef], defers := [] } _ _
 refine ops_step rfl rfl (move_at _ _ _ _ (.bool false) (.inr rfl) rfl) ?_
 change wpOpsS _ _ _ _ { tmps := #[.pointer (some p), .pointer (some ⟨w.heap.size, 0, none⟩), .bool false, .tuple #[.agg #[I6 0], .bool false], .nilIface, .tuple #[.agg #[I6 0], .bool false], .agg #[I6 0], .bool false, undef, undef, undef], defers := [] } _ _
 refine ops_end ?_
 show Code.wpS _ _ _ _ _ _
 apply wpS_seq
 apply wpS_region
 change wpOpsS _ _ _ [0] _ _ _
 refine ops_step rfl rfl (move_at _ _ _ _ (.bool false) (.inl rfl) rfl) ?_
 refine ops_end ?_
 refine wpS_cond (t := false) rfl ?_
 simp only [Bool.false_eq_true, if_false]
 have hK : Kp w V none := ((Kp.refl w none).alloc _).of_own hk (Nat.le_refl _)
 refine wpS_of_wp (wp_skip ?_)
 refine ⟨rfl, .returning, ?_, .tuple #[], by simp [results, Tryz.results103], rfl, rfl, hK⟩
 cases c₀
 simp_all
theorem catch_panicking (b : Nat) (x e : Int) (older : List PanicEntry) (w : World) (hx : w.heap[b]? = some (.cells #[I6 x] 27 (0, 0))) :
  CallsD Tryz.prog 103 #[.pointer (some ⟨b, 0, none⟩)] (.panicking ({ v := .iface 196 (.agg #[I6 e]), recovered := false } :: older)) w fun E u' w' =>
   E = .returned (.tuple #[]) ∧ u' = .panicking ({ v := .iface 196 (.agg #[I6 e]), recovered := true } :: older) ∧ w'.heap[b]? = some (.cells #[I6 e] 27 (0, 0)) ∧ Kp w w' (some b) := by
 refine callsD_of_wpS Tryz.func103 rfl fun c₀ cs hu => ?_
 have hr : recoverD (c₀ :: cs) = some (.iface 196 (.agg #[I6 e]), { c₀ with mode := .panicking ({ v := .iface 196 (.agg #[I6 e]), recovered := true } :: older) } :: cs) := by simp [recoverD, hu]
 apply wpS_seq
 apply wpS_region
 change wpOpsS _ _ _ [0, 1, 2, 3, 4, 5, 6, 7] _ _ _
 change wpOpsS _ _ _ _ { tmps := #[.pointer (some ⟨b, 0, none⟩), undef, undef, undef, undef, undef, undef, undef, undef, undef, undef], defers := [] } _ _
 refine ops_recover rfl rfl (recover_at _ _ _ rfl) hr ?_
 change wpOpsS _ _ _ _ { tmps := #[.pointer (some ⟨b, 0, none⟩), undef, undef, undef, .iface 196 (.agg #[I6 e]), undef, undef, undef, undef, undef, undef], defers := [] } _ _
 refine ops_step rfl rfl (assert_bad _ _ _ _ e rfl rfl) ?_
 change wpOpsS _ _ _ _ { tmps := #[.pointer (some ⟨b, 0, none⟩), undef, undef, undef, .iface 196 (.agg #[I6 e]), .tuple #[.agg #[I6 e], .bool true], undef, undef, undef, undef, undef], defers := [] } _ _
 refine ops_step rfl rfl (move_at _ _ _ _ (.tuple #[.agg #[I6 e], .bool true]) (.inl rfl) rfl) ?_
 change wpOpsS _ _ _ _ { tmps := #[.pointer (some ⟨b, 0, none⟩), undef, undef, .tuple #[.agg #[I6 e], .bool true], .iface 196 (.agg #[I6 e]), .tuple #[.agg #[I6 e], .bool true], undef, undef, undef, undef, undef], defers := [] } _ _
 refine ops_step rfl rfl (extract_at _ _ _ (.tmp 3) 0 #[.agg #[I6 e], .bool true] (.agg #[I6 e]) rfl rfl rfl) ?_
 change wpOpsS _ _ _ _ { tmps := #[.pointer (some ⟨b, 0, none⟩), undef, undef, .tuple #[.agg #[I6 e], .bool true], .iface 196 (.agg #[I6 e]), .tuple #[.agg #[I6 e], .bool true], .agg #[I6 e], undef, undef, undef, undef], defers := [] } _ _
 refine ops_step rfl rfl (extract_at _ _ _ (.tmp 3) 1 #[.agg #[I6 e], .bool true] (.bool true) rfl rfl rfl) ?_
 change wpOpsS _ _ _ _ { tmps := #[.pointer (some ⟨b, 0, none⟩), undef, undef, .tuple #[.agg #[I6 e], .bool true], .iface 196 (.agg #[I6 e]), .tuple #[.agg #[I6 e], .bool true], .agg #[I6 e], .bool true, undef, undef, undef], defers := [] } _ _
 refine ops_step rfl rfl (alloc_one _ _ _ rfl) ?_
 change wpOpsS _ _ _ _ { tmps := #[.pointer (some ⟨b, 0, none⟩), .pointer (some ⟨w.heap.size, 0, none⟩), undef, .tuple #[.agg #[I6 e], .bool true], .iface 196 (.agg #[I6 e]), .tuple #[.agg #[I6 e], .bool true], .agg #[I6 e], .bool true, undef, undef, undef], defers := [] } _ _
 obtain ⟨V, hV, hb, hk⟩ := store_one { tmps := #[.pointer (some ⟨b, 0, none⟩), .pointer (some ⟨w.heap.size, 0, none⟩), undef, .tuple #[.agg #[I6 e], .bool true], .iface 196 (.agg #[I6 e]), .tuple #[.agg #[I6 e], .bool true], .agg #[I6 e], .bool true, undef, undef, undef], defers := [] } (w.alloc (.cells #[I6 0] 196)) (Tryz.st103) (.tmp 1) (.tmp 6) rfl w.heap.size 0 e (heap_alloc_new w _) rfl rfl
 refine ops_skip rfl rfl hV ?_
 change wpOpsS _ _ _ _ { tmps := #[.pointer (some ⟨b, 0, none⟩), .pointer (some ⟨w.heap.size, 0, none⟩), undef, .tuple #[.agg #[I6 e], .bool true], .iface 196 (.agg #[I6 e]), .tuple #[.agg #[I6 e], .bool true], .agg #[I6 e], .bool true, undef, undef, undef], defers := [] } _ _
 refine ops_step rfl rfl (move_at _ _ _ _ (.bool true) (.inr rfl) rfl) ?_
 change wpOpsS _ _ _ _ { tmps := #[.pointer (some ⟨b, 0, none⟩), .pointer (some ⟨w.heap.size, 0, none⟩), .bool true, .tuple #[.agg #[I6 e], .bool true], .iface 196 (.agg #[I6 e]), .tuple #[.agg #[I6 e], .bool true], .agg #[I6 e], .bool true, undef, undef, undef], defers := [] } _ _
 refine ops_end ?_
 show Code.wpS _ _ _ _ _ _
 apply wpS_seq
 apply wpS_region
 change wpOpsS _ _ _ [0] _ _ _
 refine ops_step rfl rfl (move_at _ _ _ _ (.bool true) (.inl rfl) rfl) ?_
 refine ops_end ?_
 refine wpS_cond (t := true) rfl ?_
 simp only [if_true]
 have hK : Kp w V none := ((Kp.refl w none).alloc _).of_own hk (Nat.le_refl _)
 have hlt : b < w.heap.size := lt_of_block hx
 have HX := oh (blk hx hK); have HK := oh hK
 have cN : V.cell? ⟨w.heap.size, 0, none⟩ = some (I6 e) := hcell hb 0 rfl
 have cb : V.cell? ⟨b, 0, none⟩ = some (I6 x) := hcell HX.out 0 rfl
 have fb := fz HX.out 0
 clear hK hV hb hk hx; refine wpS_of_wp ?_
 go_wp2_with fail
 refine ⟨rfl, _, rfl, .tuple #[], by simp [results, Tryz.results103], rfl, rfl, heap_set HX.out, (HK.out.weak _).trans ((Kp.refl V (some b)).set _)⟩
theorem RdRest.line {W : World} {N : Nat} {R m : Nat} {tools : List (Int × Int)} {es : List Pl.Ed} {ts : List HT} {eu ov : Value} {w w' : World} (h : RdRest W (some N) R m tools es ts eu ov w) (k : Kp w w' (some N)) (hN : W.heap.size ≤ N) : RdRest W none R m tools es ts eu ov w' where
 hR := h.hR
 hm := h.hm
 ne := h.ne
 rb := by obtain ⟨cs, hb⟩ := h.rb; exact ⟨cs, res_kept hb k (by intro q hq; injection hq with hq; rw [← hq]; exact h.ln_r rfl)⟩
 map := by obtain ⟨D, nn, h1, h2, h3⟩ := h.map; exact ⟨D, nn, h1.keep (k.block m h1.lt (by intro e; injection e with e; exact h.ln_m rfl e.symm)), h2, h3⟩
 eo := own_r h.eo k (own_not h.eo (h.ln N rfl) (by decide))
 oo := own_r h.oo k (own_not h.oo (h.ln N rfl) (by decide))
 he t ht := own_r (h.he t ht) k (own_not (h.he t ht) (h.ln N rfl) (by decide))
 dis := h.dis
 kp := h.kp.of_own k hN
 ln q hq := by cases hq
theorem RdAt.line {W : World} {N : Nat} {R m : Nat} {st : Dl.St} {w w' : World} (h : RdAt W (some N) R m st w) (k : Kp w w' (some N)) (hN : W.heap.size ≤ N) : RdAt W none R m st w' := by
 obtain ⟨eu, ov, ts, h1, h2, h3⟩ := h
 exact ⟨eu, ov, ts, h1, res_kept h2 k (by intro q hq; injection hq with hq; rw [← hq]; exact h3.ln_r rfl), h3.line k hN⟩
theorem RdAt.with {W : World} {L : Option Nat} {N : Nat} {R m : Nat} {st : Dl.St} {w : World} (h : RdAt W L R m st w) (hb : w.heap[N]? = some (.cells #[I6 0] 27 (0, 0))) : RdAt W (some N) R m st w := by
 obtain ⟨eu, ov, ts, h1, h2, h3⟩ := h
 exact ⟨eu, ov, ts, h1, h2, ⟨h3.hR, h3.hm, h3.ne, h3.rb, h3.map, h3.eo, h3.oo, h3.he, h3.dis, h3.kp, fun q hq => by injection hq with hq; rw [← hq]; exact hb⟩⟩
theorem RdAt.lnb {W : World} {N : Nat} {R m : Nat} {st : Dl.St} {w : World} (h : RdAt W (some N) R m st w) : w.heap[N]? = some (.cells #[I6 0] 27 (0, 0)) := by
 obtain ⟨eu, ov, ts, h1, h2, h3⟩ := h
 exact h3.ln N rfl
theorem res53 (tmps : Array Value) (w : World) (N : Nat) (e : Int) (h4 : tmps[4]? = some (.pointer (some ⟨N, 0, none⟩))) (hb : w.heap[N]? = some (.cells #[I6 e] 27 (0, 0))) : (results Tryz.f53 tmps).run Tryz.prog w = .ok (I6 e) w := by
 have hc : w.cell? ⟨N, 0, none⟩ = some (I6 e) := hcell hb 0 rfl
 have hl4 : (loadVar 27 ⟨N, 0, none⟩).run Tryz.prog w = .ok (I6 e) w := by simp [go_sem, hc]
 simp [results, Tryz.results53, h4, asAddr, hl4]
def LineIs (W : World) (R m : Nat) (x : Dl.St ⊕ Int) (E : Ending) (w' : World) : Prop := match x with
 | .inl u => E = .returned (I6 0) ∧ RdAt W none R m u w'
 | .inr e => E = .returned (I6 e) ∧ Kp W w' none
theorem door_bad {W : World} {R m N : Nat} {x : Dl.St ⊕ Int} {e : Int} (hx : x = .inr e) (tmps : Array Value) (h4 : tmps[4]? = some (.pointer (some ⟨N, 0, none⟩))) {wr : World} (hb : wr.heap[N]? = some (.cells #[I6 0] 27 (0, 0))) (hK : Kp W wr none) (hN : W.heap.size ≤ N) :
  Leaves Tryz.prog Tryz.f53 tmps (LineIs W R m x) [{ target := .fn (.func 103) #[.pointer (some ⟨N, 0, none⟩)], args := #[] }] (.panicking (bad e)) wr := by
 subst hx; refine leaves_cons (f := 103) (args := #[.pointer (some ⟨N, 0, none⟩)]) (by simp) (by simp [go_sem]) ?_
 refine (catch_panicking N 0 e [] wr hb).mono ?_
 rintro E u' w'' ⟨rfl, rfl, hb2, hk⟩; exact ⟨_, res53 tmps w'' N e h4 hb2, rfl, hK.of_own hk hN⟩
theorem door_good {W : World} {R m N : Nat} {x : Dl.St ⊕ Int} {u : Dl.St} (hx : x = .inl u) (tmps : Array Value) (h4 : tmps[4]? = some (.pointer (some ⟨N, 0, none⟩))) {wr : World} (hb : wr.heap[N]? = some (.cells #[I6 0] 27 (0, 0))) (h : RdAt W none R m u wr) :
  Leaves Tryz.prog Tryz.f53 tmps (LineIs W R m x) [{ target := .fn (.func 103) #[.pointer (some ⟨N, 0, none⟩)], args := #[] }] .returning wr := by
 subst hx; refine leaves_cons (f := 103) (args := #[.pointer (some ⟨N, 0, none⟩)]) (by simp) (by simp [go_sem]) ?_
 refine (catch_idle _ wr).mono ?_
 rintro E u' w'' ⟨rfl, rfl, hk⟩; exact ⟨_, res53 tmps w'' N 0 h4 (blk hb hk), rfl, h.keep hk⟩
theorem line_0 (W : World) (R m : Nat) (st : Dl.St) (s : List UInt8) (w : World) (h : RdAt W none R m st w) (hp : st.ph = 0) (x : Dl.St ⊕ Int)
  (hc : Calls Tryz.prog 51 #[.pointer (some ⟨R, 0, none⟩), str s] (w.alloc (.cells #[I6 0] 27)) (StepIs W (some w.heap.size) R m x)) :
  Calls Tryz.prog 53 #[.pointer (some ⟨R, 0, none⟩), str s] w (LineIs W R m x) := by
 have hN : W.heap.size ≤ w.heap.size := h.kp.size
 have c0 : (w.alloc (.cells #[I6 0] 27)).cell? ⟨R, 0, none⟩ = some (.func (.func 51) #[] #[]) := by
  obtain ⟨eu, ov, ts, hts, hb, hr⟩ := h
  exact hcell (blk hb ((Kp.refl w none).alloc _)) 0 (by rw [hp]; rfl)
 have hmf : ∀ (fn : Fn) (first cap : Array Value) (w : World), (Instr.makeFunc fn first cap).run Tryz.prog w = .ok (.func fn first cap) w := fun _ _ _ _ => rfl
 clear h hp
 cases x with
 | inl u =>
  have HC : Hid (Calls Tryz.prog 51 #[.pointer (some ⟨R, 0, none⟩), str s] (w.alloc (.cells #[I6 0] 27)) fun E w' => E = .returned (.tuple #[]) ∧ RdAt W (some w.heap.size) R m u w') := oh hc
  clear hc; go_enter_defers Tryz.func53, Tryz.ntmps53
  go_wp2_with (go_at_call 51; refine HC.out.mono ?_; rintro e w2 ⟨rfl, h2⟩; have H2 := oh h2; have cN : w2.cell? ⟨w.heap.size, 0, none⟩ = some (I6 0) := hcell h2.lnb 0 rfl; have fN := fz h2.lnb 0; clear h2)
  exact door_good rfl _ rfl (heap_set H2.out.lnb) (H2.out.line ((Kp.refl w2 (some w.heap.size)).set _) hN)
 | inr e =>
  have HC : Hid (Calls Tryz.prog 51 #[.pointer (some ⟨R, 0, none⟩), str s] (w.alloc (.cells #[I6 0] 27)) fun E w' => E = .panicked (bad e) ∧ KpL W (some w.heap.size) w') := oh hc
  clear hc; go_enter_defers Tryz.func53, Tryz.ntmps53
  go_wp2_with (go_at_call 51; refine HC.out.mono ?_; rintro E w2 ⟨rfl, k2⟩; have K2 := oh k2; clear k2)
  exact door_bad rfl _ rfl (K2.out.ln _ rfl) K2.out.kp hN
theorem line_1 (W : World) (R m : Nat) (st : Dl.St) (s : List UInt8) (w : World) (h : RdAt W none R m st w) (hp : st.ph = 1) (x : Dl.St ⊕ Int)
  (hc : Calls Tryz.prog 101 #[.pointer (some ⟨R, 0, none⟩), str s] (w.alloc (.cells #[I6 0] 27)) (StepIs W (some w.heap.size) R m x)) :
  Calls Tryz.prog 53 #[.pointer (some ⟨R, 0, none⟩), str s] w (LineIs W R m x) := by
 have hN : W.heap.size ≤ w.heap.size := h.kp.size
 have c0 : (w.alloc (.cells #[I6 0] 27)).cell? ⟨R, 0, none⟩ = some (.func (.func 101) #[] #[]) := by
  obtain ⟨eu, ov, ts, hts, hb, hr⟩ := h
  exact hcell (blk hb ((Kp.refl w none).alloc _)) 0 (by rw [hp]; rfl)
 have hmf : ∀ (fn : Fn) (first cap : Array Value) (w : World), (Instr.makeFunc fn first cap).run Tryz.prog w = .ok (.func fn first cap) w := fun _ _ _ _ => rfl
 clear h hp
 cases x with
 | inl u =>
  have HC : Hid (Calls Tryz.prog 101 #[.pointer (some ⟨R, 0, none⟩), str s] (w.alloc (.cells #[I6 0] 27)) fun E w' => E = .returned (.tuple #[]) ∧ RdAt W (some w.heap.size) R m u w') := oh hc
  clear hc; go_enter_defers Tryz.func53, Tryz.ntmps53
  go_wp2_with (go_at_call 101; refine HC.out.mono ?_; rintro e w2 ⟨rfl, h2⟩; have H2 := oh h2; have cN : w2.cell? ⟨w.heap.size, 0, none⟩ = some (I6 0) := hcell h2.lnb 0 rfl; have fN := fz h2.lnb 0; clear h2)
  exact door_good rfl _ rfl (heap_set H2.out.lnb) (H2.out.line ((Kp.refl w2 (some w.heap.size)).set _) hN)
 | inr e =>
  have HC : Hid (Calls Tryz.prog 101 #[.pointer (some ⟨R, 0, none⟩), str s] (w.alloc (.cells #[I6 0] 27)) fun E w' => E = .panicked (bad e) ∧ KpL W (some w.heap.size) w') := oh hc
  clear hc; go_enter_defers Tryz.func53, Tryz.ntmps53
  go_wp2_with (go_at_call 101; refine HC.out.mono ?_; rintro E w2 ⟨rfl, k2⟩; have K2 := oh k2; clear k2)
  exact door_bad rfl _ rfl (K2.out.ln _ rfl) K2.out.kp hN
theorem line_2 (W : World) (R m : Nat) (st : Dl.St) (s : List UInt8) (w : World) (h : RdAt W none R m st w) (hp : st.ph = 2) (x : Dl.St ⊕ Int)
  (hc : Calls Tryz.prog 159 #[.pointer (some ⟨R, 0, none⟩), str s] (w.alloc (.cells #[I6 0] 27)) (StepIs W (some w.heap.size) R m x)) :
  Calls Tryz.prog 53 #[.pointer (some ⟨R, 0, none⟩), str s] w (LineIs W R m x) := by
 have hN : W.heap.size ≤ w.heap.size := h.kp.size
 have c0 : (w.alloc (.cells #[I6 0] 27)).cell? ⟨R, 0, none⟩ = some (.func (.func 159) #[] #[]) := by
  obtain ⟨eu, ov, ts, hts, hb, hr⟩ := h
  exact hcell (blk hb ((Kp.refl w none).alloc _)) 0 (by rw [hp]; rfl)
 have hmf : ∀ (fn : Fn) (first cap : Array Value) (w : World), (Instr.makeFunc fn first cap).run Tryz.prog w = .ok (.func fn first cap) w := fun _ _ _ _ => rfl
 clear h hp
 cases x with
 | inl u =>
  have HC : Hid (Calls Tryz.prog 159 #[.pointer (some ⟨R, 0, none⟩), str s] (w.alloc (.cells #[I6 0] 27)) fun E w' => E = .returned (.tuple #[]) ∧ RdAt W (some w.heap.size) R m u w') := oh hc
  clear hc; go_enter_defers Tryz.func53, Tryz.ntmps53
  go_wp2_with (go_at_call 159; refine HC.out.mono ?_; rintro e w2 ⟨rfl, h2⟩; have H2 := oh h2; have cN : w2.cell? ⟨w.heap.size, 0, none⟩ = some (I6 0) := hcell h2.lnb 0 rfl; have fN := fz h2.lnb 0; clear h2)
  exact door_good rfl _ rfl (heap_set H2.out.lnb) (H2.out.line ((Kp.refl w2 (some w.heap.size)).set _) hN)
 | inr e =>
  have HC : Hid (Calls Tryz.prog 159 #[.pointer (some ⟨R, 0, none⟩), str s] (w.alloc (.cells #[I6 0] 27)) fun E w' => E = .panicked (bad e) ∧ KpL W (some w.heap.size) w') := oh hc
  clear hc; go_enter_defers Tryz.func53, Tryz.ntmps53
  go_wp2_with (go_at_call 159; refine HC.out.mono ?_; rintro E w2 ⟨rfl, k2⟩; have K2 := oh k2; clear k2)
  exact door_bad rfl _ rfl (K2.out.ln _ rfl) K2.out.kp hN
theorem line_3 (W : World) (R m : Nat) (st : Dl.St) (s : List UInt8) (w : World) (h : RdAt W none R m st w) (hp : st.ph = 3) (x : Dl.St ⊕ Int)
  (hc : Calls Tryz.prog 185 #[.pointer (some ⟨R, 0, none⟩), str s] (w.alloc (.cells #[I6 0] 27)) (StepIs W (some w.heap.size) R m x)) :
  Calls Tryz.prog 53 #[.pointer (some ⟨R, 0, none⟩), str s] w (LineIs W R m x) := by
 have hN : W.heap.size ≤ w.heap.size := h.kp.size
 have c0 : (w.alloc (.cells #[I6 0] 27)).cell? ⟨R, 0, none⟩ = some (.func (.func 185) #[] #[]) := by
  obtain ⟨eu, ov, ts, hts, hb, hr⟩ := h
  exact hcell (blk hb ((Kp.refl w none).alloc _)) 0 (by rw [hp]; rfl)
 have hmf : ∀ (fn : Fn) (first cap : Array Value) (w : World), (Instr.makeFunc fn first cap).run Tryz.prog w = .ok (.func fn first cap) w := fun _ _ _ _ => rfl
 clear h hp
 cases x with
 | inl u =>
  have HC : Hid (Calls Tryz.prog 185 #[.pointer (some ⟨R, 0, none⟩), str s] (w.alloc (.cells #[I6 0] 27)) fun E w' => E = .returned (.tuple #[]) ∧ RdAt W (some w.heap.size) R m u w') := oh hc
  clear hc; go_enter_defers Tryz.func53, Tryz.ntmps53
  go_wp2_with (go_at_call 185; refine HC.out.mono ?_; rintro e w2 ⟨rfl, h2⟩; have H2 := oh h2; have cN : w2.cell? ⟨w.heap.size, 0, none⟩ = some (I6 0) := hcell h2.lnb 0 rfl; have fN := fz h2.lnb 0; clear h2)
  exact door_good rfl _ rfl (heap_set H2.out.lnb) (H2.out.line ((Kp.refl w2 (some w.heap.size)).set _) hN)
 | inr e =>
  have HC : Hid (Calls Tryz.prog 185 #[.pointer (some ⟨R, 0, none⟩), str s] (w.alloc (.cells #[I6 0] 27)) fun E w' => E = .panicked (bad e) ∧ KpL W (some w.heap.size) w') := oh hc
  clear hc; go_enter_defers Tryz.func53, Tryz.ntmps53
  go_wp2_with (go_at_call 185; refine HC.out.mono ?_; rintro E w2 ⟨rfl, k2⟩; have K2 := oh k2; clear k2)
  exact door_bad rfl _ rfl (K2.out.ln _ rfl) K2.out.kp hN
theorem line_4 (W : World) (R m : Nat) (st : Dl.St) (s : List UInt8) (w : World) (h : RdAt W none R m st w) (hp : st.ph = 4) (x : Dl.St ⊕ Int)
  (hc : Calls Tryz.prog 237 #[.pointer (some ⟨R, 0, none⟩), str s] (w.alloc (.cells #[I6 0] 27)) (StepIs W (some w.heap.size) R m x)) :
  Calls Tryz.prog 53 #[.pointer (some ⟨R, 0, none⟩), str s] w (LineIs W R m x) := by
 have hN : W.heap.size ≤ w.heap.size := h.kp.size
 have c0 : (w.alloc (.cells #[I6 0] 27)).cell? ⟨R, 0, none⟩ = some (.func (.func 237) #[] #[]) := by
  obtain ⟨eu, ov, ts, hts, hb, hr⟩ := h
  exact hcell (blk hb ((Kp.refl w none).alloc _)) 0 (by rw [hp]; rfl)
 have hmf : ∀ (fn : Fn) (first cap : Array Value) (w : World), (Instr.makeFunc fn first cap).run Tryz.prog w = .ok (.func fn first cap) w := fun _ _ _ _ => rfl
 clear h hp
 cases x with
 | inl u =>
  have HC : Hid (Calls Tryz.prog 237 #[.pointer (some ⟨R, 0, none⟩), str s] (w.alloc (.cells #[I6 0] 27)) fun E w' => E = .returned (.tuple #[]) ∧ RdAt W (some w.heap.size) R m u w') := oh hc
  clear hc; go_enter_defers Tryz.func53, Tryz.ntmps53
  go_wp2_with (go_at_call 237; refine HC.out.mono ?_; rintro e w2 ⟨rfl, h2⟩; have H2 := oh h2; have cN : w2.cell? ⟨w.heap.size, 0, none⟩ = some (I6 0) := hcell h2.lnb 0 rfl; have fN := fz h2.lnb 0; clear h2)
  exact door_good rfl _ rfl (heap_set H2.out.lnb) (H2.out.line ((Kp.refl w2 (some w.heap.size)).set _) hN)
 | inr e =>
  have HC : Hid (Calls Tryz.prog 237 #[.pointer (some ⟨R, 0, none⟩), str s] (w.alloc (.cells #[I6 0] 27)) fun E w' => E = .panicked (bad e) ∧ KpL W (some w.heap.size) w') := oh hc
  clear hc; go_enter_defers Tryz.func53, Tryz.ntmps53
  go_wp2_with (go_at_call 237; refine HC.out.mono ?_; rintro E w2 ⟨rfl, k2⟩; have K2 := oh k2; clear k2)
  exact door_bad rfl _ rfl (K2.out.ln _ rfl) K2.out.kp hN
theorem line_5 (W : World) (R m : Nat) (st : Dl.St) (s : List UInt8) (w : World) (h : RdAt W none R m st w) (hp : st.ph = 5) (x : Dl.St ⊕ Int)
  (hc : Calls Tryz.prog 252 #[.pointer (some ⟨R, 0, none⟩), str s] (w.alloc (.cells #[I6 0] 27)) (StepIs W (some w.heap.size) R m x)) :
  Calls Tryz.prog 53 #[.pointer (some ⟨R, 0, none⟩), str s] w (LineIs W R m x) := by
 have hN : W.heap.size ≤ w.heap.size := h.kp.size
 have c0 : (w.alloc (.cells #[I6 0] 27)).cell? ⟨R, 0, none⟩ = some (.func (.func 252) #[] #[]) := by
  obtain ⟨eu, ov, ts, hts, hb, hr⟩ := h
  exact hcell (blk hb ((Kp.refl w none).alloc _)) 0 (by rw [hp]; rfl)
 have hmf : ∀ (fn : Fn) (first cap : Array Value) (w : World), (Instr.makeFunc fn first cap).run Tryz.prog w = .ok (.func fn first cap) w := fun _ _ _ _ => rfl
 clear h hp
 cases x with
 | inl u =>
  have HC : Hid (Calls Tryz.prog 252 #[.pointer (some ⟨R, 0, none⟩), str s] (w.alloc (.cells #[I6 0] 27)) fun E w' => E = .returned (.tuple #[]) ∧ RdAt W (some w.heap.size) R m u w') := oh hc
  clear hc; go_enter_defers Tryz.func53, Tryz.ntmps53
  go_wp2_with (go_at_call 252; refine HC.out.mono ?_; rintro e w2 ⟨rfl, h2⟩; have H2 := oh h2; have cN : w2.cell? ⟨w.heap.size, 0, none⟩ = some (I6 0) := hcell h2.lnb 0 rfl; have fN := fz h2.lnb 0; clear h2)
  exact door_good rfl _ rfl (heap_set H2.out.lnb) (H2.out.line ((Kp.refl w2 (some w.heap.size)).set _) hN)
 | inr e =>
  have HC : Hid (Calls Tryz.prog 252 #[.pointer (some ⟨R, 0, none⟩), str s] (w.alloc (.cells #[I6 0] 27)) fun E w' => E = .panicked (bad e) ∧ KpL W (some w.heap.size) w') := oh hc
  clear hc; go_enter_defers Tryz.func53, Tryz.ntmps53
  go_wp2_with (go_at_call 252; refine HC.out.mono ?_; rintro E w2 ⟨rfl, k2⟩; have K2 := oh k2; clear k2)
  exact door_bad rfl _ rfl (K2.out.ln _ rfl) K2.out.kp hN
theorem line_6 (W : World) (R m : Nat) (st : Dl.St) (s : List UInt8) (w : World) (h : RdAt W none R m st w) (hp : st.ph = 6) (x : Dl.St ⊕ Int)
  (hc : Calls Tryz.prog 208 #[.pointer (some ⟨R, 0, none⟩), str s] (w.alloc (.cells #[I6 0] 27)) (StepIs W (some w.heap.size) R m x)) :
  Calls Tryz.prog 53 #[.pointer (some ⟨R, 0, none⟩), str s] w (LineIs W R m x) := by
 have hN : W.heap.size ≤ w.heap.size := h.kp.size
 have c0 : (w.alloc (.cells #[I6 0] 27)).cell? ⟨R, 0, none⟩ = some (.func (.func 208) #[] #[]) := by
  obtain ⟨eu, ov, ts, hts, hb, hr⟩ := h
  exact hcell (blk hb ((Kp.refl w none).alloc _)) 0 (by rw [hp]; rfl)
 have hmf : ∀ (fn : Fn) (first cap : Array Value) (w : World), (Instr.makeFunc fn first cap).run Tryz.prog w = .ok (.func fn first cap) w := fun _ _ _ _ => rfl
 clear h hp
 cases x with
 | inl u =>
  have HC : Hid (Calls Tryz.prog 208 #[.pointer (some ⟨R, 0, none⟩), str s] (w.alloc (.cells #[I6 0] 27)) fun E w' => E = .returned (.tuple #[]) ∧ RdAt W (some w.heap.size) R m u w') := oh hc
  clear hc; go_enter_defers Tryz.func53, Tryz.ntmps53
  go_wp2_with (go_at_call 208; refine HC.out.mono ?_; rintro e w2 ⟨rfl, h2⟩; have H2 := oh h2; have cN : w2.cell? ⟨w.heap.size, 0, none⟩ = some (I6 0) := hcell h2.lnb 0 rfl; have fN := fz h2.lnb 0; clear h2)
  exact door_good rfl _ rfl (heap_set H2.out.lnb) (H2.out.line ((Kp.refl w2 (some w.heap.size)).set _) hN)
 | inr e =>
  have HC : Hid (Calls Tryz.prog 208 #[.pointer (some ⟨R, 0, none⟩), str s] (w.alloc (.cells #[I6 0] 27)) fun E w' => E = .panicked (bad e) ∧ KpL W (some w.heap.size) w') := oh hc
  clear hc; go_enter_defers Tryz.func53, Tryz.ntmps53
  go_wp2_with (go_at_call 208; refine HC.out.mono ?_; rintro E w2 ⟨rfl, k2⟩; have K2 := oh k2; clear k2)
  exact door_bad rfl _ rfl (K2.out.ln _ rfl) K2.out.kp hN
theorem rline_any (W : World) (R m : Nat) (st : Dl.St) (s : List UInt8) (w : World) (h : RdAt W none R m st w) (he : Env w) (hs : s.length ≤ 1000000000) (hok : Dl.Ok st) (hol : st.out.length ≤ 1000000) (hel : st.es.length ≤ 1000000) (htl : st.tools.length ≤ 1000000) :
  Calls Tryz.prog 53 #[.pointer (some ⟨R, 0, none⟩), str s] w (LineIs W R m (Dl.step st s)) := by
 have k1 := (Kp.refl w none).alloc (.cells #[I6 0] 27)
 have h1 : RdAt W (some w.heap.size) R m st (w.alloc (.cells #[I6 0] 27)) := (h.keep k1).with (heap_alloc_new w _)
 have he1 := he.kp0 k1
 have hph := hok.ph
 have : st.ph = 0 ∨ st.ph = 1 ∨ st.ph = 2 ∨ st.ph = 3 ∨ st.ph = 4 ∨ st.ph = 5 ∨ st.ph = 6 := by omega
 rcases this with hp | hp | hp | hp | hp | hp | hp
 ·exact line_0 W R m st s w h hp _ (first_any W _ R m st s _ h1 hp)
 ·exact line_1 W R m st s w h hp _ (second_any W _ R m st s _ h1 hp)
 ·have e : Dl.step st s = Dl.head st s := by unfold Dl.step; rw [hp]; rfl
  rw [e]; exact line_2 W R m st s w h hp _ (head_any W _ R m st s _ h1 he1 hs hp htl)
 ·have e : Dl.step st s = Dl.body st s := by unfold Dl.step; rw [hp]; rfl
  rw [e]; exact line_3 W R m st s w h hp _ (body_any W _ R m st s _ h1 he1 hs hp hok hol)
 ·exact line_4 W R m st s w h hp _ (opened_any W _ R m st s _ h1 hp)
 ·have e : Dl.step st s = Dl.routed st s := by unfold Dl.step; rw [hp]; rfl
  rw [e]; exact line_5 W R m st s w h hp _ (routed_any W _ R m st s _ h1 he1 hs hp hok hol hel)
 ·exact line_6 W R m st s w h hp _ (behind_any W _ R m st s _ h1 hp)
end Go.Proofs.YtljjbdbgedmadaaGreatDoor
