/- Whether two conditions, two rules are equal, by the program and by the reference. Conditions: what a machine holds. -/
import Derived.Test.YtnchipahdfbliaaGreatDoorTx
namespace Go.Proofs.YtnchipahdfbliaaGreatDoor
open Go.RowKit

open Classical in
/-- Whether two things are equal. -/
noncomputable def eqB {α : Type} (a b : α) : Bool := decide (a = b)
theorem eqB_t {α : Type} {a b : α} (h : a = b) : eqB a b = true := by unfold eqB; simp [h]
theorem eqB_f {α : Type} {a b : α} (h : a ≠ b) : eqB a b = false := by unfold eqB; simp [h]
theorem eqB_iff {α : Type} {a b : α} : eqB a b = true ↔ a = b := by unfold eqB; simp
/-- How a comparison ends. -/
def SameIs (x : Bool) (w : World) (e : Ending) (w' : World) : Prop := e = .returned (.bool x) ∧ Kp w w' none
theorem cond_ext {a b : Ru.Cond} (h1 : a.op = b.op) (h2 : a.text = b.text) (h3 : a.n = b.n) (h4 : a.box = b.box) (h5 : a.l = b.l) : a = b := by
 cases a; cases b
 simp only [Ru.Cond.op, Ru.Cond.text, Ru.Cond.n, Ru.Cond.box, Ru.Cond.l] at *
 subst h1 h2 h3 h4 h5; rfl
theorem rule_ext {a b : Ru.Rule} (h1 : a.name = b.name) (h2 : a.prio = b.prio) (h3 : a.what = b.what) (h4 : a.value = b.value) (h5 : a.a = b.a) (h6 : a.b = b.b) : a = b := by
 cases a; cases b
 simp only at *
 subst h1 h2 h3 h4 h5 h6; rfl
set_option maxHeartbeats 4000000 in
set_option maxRecDepth 100000 in
theorem same_rule (p q : Ru.Rule) (a1 : Option Addr) (m1 c1 : Nat) (a2 : Option Addr) (m2 c2 : Nat) (a3 : Option Addr) (m3 c3 : Nat) (a4 : Option Addr) (m4 c4 : Nat) (w : World)
  (hA : ∀ u, Kp w u none → Calls Tryz.prog 49 #[.agg #[.int .i64 p.a.op, str p.a.text, .int .i64 p.a.n, .int .i64 p.a.box.x0, .int .i64 p.a.box.y0, .int .i64 p.a.box.x1, .int .i64 p.a.box.y1, .slice a1 m1 c1], .agg #[.int .i64 q.a.op, str q.a.text, .int .i64 q.a.n, .int .i64 q.a.box.x0, .int .i64 q.a.box.y0, .int .i64 q.a.box.x1, .int .i64 q.a.box.y1, .slice a3 m3 c3]] u (SameIs (eqB p.a q.a) u)) (hB : ∀ u, Kp w u none → Calls Tryz.prog 49 #[.agg #[.int .i64 p.b.op, str p.b.text, .int .i64 p.b.n, .int .i64 p.b.box.x0, .int .i64 p.b.box.y0, .int .i64 p.b.box.x1, .int .i64 p.b.box.y1, .slice a2 m2 c2], .agg #[.int .i64 q.b.op, str q.b.text, .int .i64 q.b.n, .int .i64 q.b.box.x0, .int .i64 q.b.box.y0, .int .i64 q.b.box.x1, .int .i64 q.b.box.y1, .slice a4 m4 c4]] u (SameIs (eqB p.b q.b) u)) :
  Calls Tryz.prog 17 #[.agg #[str p.name, .int .i64 p.prio, .int .i64 p.what, .int .i64 p.a.op, str p.a.text, .int .i64 p.a.n, .int .i64 p.a.box.x0, .int .i64 p.a.box.y0, .int .i64 p.a.box.x1, .int .i64 p.a.box.y1, .slice a1 m1 c1, .int .i64 p.b.op, str p.b.text, .int .i64 p.b.n, .int .i64 p.b.box.x0, .int .i64 p.b.box.y0, .int .i64 p.b.box.x1, .int .i64 p.b.box.y1, .slice a2 m2 c2, .int .i64 p.value], .agg #[str q.name, .int .i64 q.prio, .int .i64 q.what, .int .i64 q.a.op, str q.a.text, .int .i64 q.a.n, .int .i64 q.a.box.x0, .int .i64 q.a.box.y0, .int .i64 q.a.box.x1, .int .i64 q.a.box.y1, .slice a3 m3 c3, .int .i64 q.b.op, str q.b.text, .int .i64 q.b.n, .int .i64 q.b.box.x0, .int .i64 q.b.box.y0, .int .i64 q.b.box.x1, .int .i64 q.b.box.y1, .slice a4 m4 c4, .int .i64 q.value]] w (SameIs (eqB p q) w) := by
 have hb0 : ((w.alloc (.cells #[str p.name, .int .i64 p.prio, .int .i64 p.what, .int .i64 p.a.op, str p.a.text, .int .i64 p.a.n, .int .i64 p.a.box.x0, .int .i64 p.a.box.y0, .int .i64 p.a.box.x1, .int .i64 p.a.box.y1, .slice a1 m1 c1, .int .i64 p.b.op, str p.b.text, .int .i64 p.b.n, .int .i64 p.b.box.x0, .int .i64 p.b.box.y0, .int .i64 p.b.box.x1, .int .i64 p.b.box.y1, .slice a2 m2 c2, .int .i64 p.value] 42)).alloc (.cells #[str q.name, .int .i64 q.prio, .int .i64 q.what, .int .i64 q.a.op, str q.a.text, .int .i64 q.a.n, .int .i64 q.a.box.x0, .int .i64 q.a.box.y0, .int .i64 q.a.box.x1, .int .i64 q.a.box.y1, .slice a3 m3 c3, .int .i64 q.b.op, str q.b.text, .int .i64 q.b.n, .int .i64 q.b.box.x0, .int .i64 q.b.box.y0, .int .i64 q.b.box.x1, .int .i64 q.b.box.y1, .slice a4 m4 c4, .int .i64 q.value] 42)).heap[w.heap.size]? = some (.cells #[str p.name, .int .i64 p.prio, .int .i64 p.what, .int .i64 p.a.op, str p.a.text, .int .i64 p.a.n, .int .i64 p.a.box.x0, .int .i64 p.a.box.y0, .int .i64 p.a.box.x1, .int .i64 p.a.box.y1, .slice a1 m1 c1, .int .i64 p.b.op, str p.b.text, .int .i64 p.b.n, .int .i64 p.b.box.x0, .int .i64 p.b.box.y0, .int .i64 p.b.box.x1, .int .i64 p.b.box.y1, .slice a2 m2 c2, .int .i64 p.value] 42 (0, 0)) := res_kept (heap_alloc_new w _) ((Kp.refl _ none).alloc _) (by simp)
 have hb1 : ((w.alloc (.cells #[str p.name, .int .i64 p.prio, .int .i64 p.what, .int .i64 p.a.op, str p.a.text, .int .i64 p.a.n, .int .i64 p.a.box.x0, .int .i64 p.a.box.y0, .int .i64 p.a.box.x1, .int .i64 p.a.box.y1, .slice a1 m1 c1, .int .i64 p.b.op, str p.b.text, .int .i64 p.b.n, .int .i64 p.b.box.x0, .int .i64 p.b.box.y0, .int .i64 p.b.box.x1, .int .i64 p.b.box.y1, .slice a2 m2 c2, .int .i64 p.value] 42)).alloc (.cells #[str q.name, .int .i64 q.prio, .int .i64 q.what, .int .i64 q.a.op, str q.a.text, .int .i64 q.a.n, .int .i64 q.a.box.x0, .int .i64 q.a.box.y0, .int .i64 q.a.box.x1, .int .i64 q.a.box.y1, .slice a3 m3 c3, .int .i64 q.b.op, str q.b.text, .int .i64 q.b.n, .int .i64 q.b.box.x0, .int .i64 q.b.box.y0, .int .i64 q.b.box.x1, .int .i64 q.b.box.y1, .slice a4 m4 c4, .int .i64 q.value] 42)).heap[w.heap.size + 1]? = some (.cells #[str q.name, .int .i64 q.prio, .int .i64 q.what, .int .i64 q.a.op, str q.a.text, .int .i64 q.a.n, .int .i64 q.a.box.x0, .int .i64 q.a.box.y0, .int .i64 q.a.box.x1, .int .i64 q.a.box.y1, .slice a3 m3 c3, .int .i64 q.b.op, str q.b.text, .int .i64 q.b.n, .int .i64 q.b.box.x0, .int .i64 q.b.box.y0, .int .i64 q.b.box.x1, .int .i64 q.b.box.y1, .slice a4 m4 c4, .int .i64 q.value] 42 (0, 0)) := heap_alloc2_new w _ _
 have k0 : Kp w ((w.alloc (.cells #[str p.name, .int .i64 p.prio, .int .i64 p.what, .int .i64 p.a.op, str p.a.text, .int .i64 p.a.n, .int .i64 p.a.box.x0, .int .i64 p.a.box.y0, .int .i64 p.a.box.x1, .int .i64 p.a.box.y1, .slice a1 m1 c1, .int .i64 p.b.op, str p.b.text, .int .i64 p.b.n, .int .i64 p.b.box.x0, .int .i64 p.b.box.y0, .int .i64 p.b.box.x1, .int .i64 p.b.box.y1, .slice a2 m2 c2, .int .i64 p.value] 42)).alloc (.cells #[str q.name, .int .i64 q.prio, .int .i64 q.what, .int .i64 q.a.op, str q.a.text, .int .i64 q.a.n, .int .i64 q.a.box.x0, .int .i64 q.a.box.y0, .int .i64 q.a.box.x1, .int .i64 q.a.box.y1, .slice a3 m3 c3, .int .i64 q.b.op, str q.b.text, .int .i64 q.b.n, .int .i64 q.b.box.x0, .int .i64 q.b.box.y0, .int .i64 q.b.box.x1, .int .i64 q.b.box.y1, .slice a4 m4 c4, .int .i64 q.value] 42)) none := ((Kp.refl _ _).alloc _).alloc _
 have HB0 := Lib.hid hb0
 have HB1 := Lib.hid hb1
 have HK := Lib.hid k0
 have HA := Lib.hid (hA _ k0)
 have HBc := Lib.hid hB
 have hH : ((w.alloc (.cells #[str p.name, .int .i64 p.prio, .int .i64 p.what, .int .i64 p.a.op, str p.a.text, .int .i64 p.a.n, .int .i64 p.a.box.x0, .int .i64 p.a.box.y0, .int .i64 p.a.box.x1, .int .i64 p.a.box.y1, .slice a1 m1 c1, .int .i64 p.b.op, str p.b.text, .int .i64 p.b.n, .int .i64 p.b.box.x0, .int .i64 p.b.box.y0, .int .i64 p.b.box.x1, .int .i64 p.b.box.y1, .slice a2 m2 c2, .int .i64 p.value] 42)).alloc (.cells #[str q.name, .int .i64 q.prio, .int .i64 q.what, .int .i64 q.a.op, str q.a.text, .int .i64 q.a.n, .int .i64 q.a.box.x0, .int .i64 q.a.box.y0, .int .i64 q.a.box.x1, .int .i64 q.a.box.y1, .slice a3 m3 c3, .int .i64 q.b.op, str q.b.text, .int .i64 q.b.n, .int .i64 q.b.box.x0, .int .i64 q.b.box.y0, .int .i64 q.b.box.x1, .int .i64 q.b.box.y1, .slice a4 m4 c4, .int .i64 q.value] 42)).heap.size = w.heap.size + 2 := by simp
 clear hA hB hb0 hb1 k0
 by_cases ename : p.name = q.name
 case neg =>
  have hb : (p.name == q.name) = false := by simpa using ename
  have hr : Hid (eqB p q = false) := Lib.hid (eqB_f (fun h => ename (by rw [h])))
  clear ename
  go_enter Tryz.func17, Tryz.ntmps17
  go_wp2_with fail
  go_ret
  exact ⟨by rw [hr.out]; rfl, HK.out⟩
 have hbname : (p.name == q.name) = true := by simpa using ename
 have Ename := Lib.hid ename
 clear ename
 by_cases eprio : p.prio = q.prio
 case neg =>
  have hb : (p.prio == q.prio) = false := by simpa using eprio
  have hr : Hid (eqB p q = false) := Lib.hid (eqB_f (fun h => eprio (by rw [h])))
  clear eprio
  go_enter Tryz.func17, Tryz.ntmps17
  go_wp2_with fail
  go_ret
  exact ⟨by rw [hr.out]; rfl, HK.out⟩
 have hbprio : (p.prio == q.prio) = true := by simpa using eprio
 have Eprio := Lib.hid eprio
 clear eprio
 by_cases ewhat : p.what = q.what
 case neg =>
  have hb : (p.what == q.what) = false := by simpa using ewhat
  have hr : Hid (eqB p q = false) := Lib.hid (eqB_f (fun h => ewhat (by rw [h])))
  clear ewhat
  go_enter Tryz.func17, Tryz.ntmps17
  go_wp2_with fail
  go_ret
  exact ⟨by rw [hr.out]; rfl, HK.out⟩
 have hbwhat : (p.what == q.what) = true := by simpa using ewhat
 have Ewhat := Lib.hid ewhat
 clear ewhat
 by_cases evalue : p.value = q.value
 case neg =>
  have hb : (p.value == q.value) = false := by simpa using evalue
  have hr : Hid (eqB p q = false) := Lib.hid (eqB_f (fun h => evalue (by rw [h])))
  clear evalue
  go_enter Tryz.func17, Tryz.ntmps17
  go_wp2_with fail
  go_ret
  exact ⟨by rw [hr.out]; rfl, HK.out⟩
 have hbvalue : (p.value == q.value) = true := by simpa using evalue
 have Evalue := Lib.hid evalue
 clear evalue
 by_cases ea : p.a = q.a
 case neg =>
  have hA := HA.out
  rw [eqB_f ea] at hA
  have hr : Hid (eqB p q = false) := Lib.hid (eqB_f (fun h => ea (by rw [h])))
  clear ea
  go_enter Tryz.func17, Tryz.ntmps17
  go_wp2_with (first | (go_at_call 49; refine hA.mono ?_; rintro e w1 ⟨rfl, hk1⟩))
  go_ret
  exact ⟨by rw [hr.out]; rfl, HK.out.trans hk1⟩
 have hA := HA.out
 rw [eqB_t ea] at hA
 have hr : Hid (eqB p q = eqB p.b q.b) := Lib.hid (by
  by_cases eb : p.b = q.b
  ·rw [eqB_t eb, eqB_t (rule_ext Ename.out Eprio.out Ewhat.out Evalue.out ea eb)]
  ·rw [eqB_f eb, eqB_f (fun h => eb (by rw [h]))])
 clear ea
 go_enter Tryz.func17, Tryz.ntmps17
 go_wp2_with (first | (go_at_call 49; refine hA.mono ?_; clear hA; rintro e w1 ⟨rfl, hk1⟩; have HK1 := Lib.hid hk1; have hbA := res_kept HB0.out hk1 (by simp); have hbB := res_kept HB1.out hk1 (by simp); have hp11 := hcell hbA 11 rfl; have hq11 := hcell hbB 11 rfl; have hp12 := hcell hbA 12 rfl; have hq12 := hcell hbB 12 rfl; have hp13 := hcell hbA 13 rfl; have hq13 := hcell hbB 13 rfl; have hp14 := hcell hbA 14 rfl; have hq14 := hcell hbB 14 rfl; have hp15 := hcell hbA 15 rfl; have hq15 := hcell hbB 15 rfl; have hp16 := hcell hbA 16 rfl; have hq16 := hcell hbB 16 rfl; have hp17 := hcell hbA 17 rfl; have hq17 := hcell hbB 17 rfl; have hp18 := hcell hbA 18 rfl; have hq18 := hcell hbB 18 rfl; clear hbA hbB; have hB := HBc.out w1 (HK.out.trans hk1); generalize eqB p.b q.b = xb at hB hr) | (go_at_call 49; refine hB.mono ?_; rintro e w2 ⟨rfl, hk2⟩))
 go_ret
 exact ⟨by rw [hr.out]; rfl, (HK.out.trans HK1.out).trans hk2⟩
set_option maxHeartbeats 4000000 in
set_option maxRecDepth 100000 in
theorem same_rule_ref (p q : Ru.Rule) (a1 : Option Addr) (m1 c1 : Nat) (a2 : Option Addr) (m2 c2 : Nat) (a3 : Option Addr) (m3 c3 : Nat) (a4 : Option Addr) (m4 c4 : Nat) (w : World)
  (hA : ∀ u, Kp w u none → Calls Tryz.prog 71 #[.agg #[.int .i64 p.a.op, str p.a.text, .int .i64 p.a.n, .int .i64 p.a.box.x0, .int .i64 p.a.box.y0, .int .i64 p.a.box.x1, .int .i64 p.a.box.y1, .slice a1 m1 c1], .agg #[.int .i64 q.a.op, str q.a.text, .int .i64 q.a.n, .int .i64 q.a.box.x0, .int .i64 q.a.box.y0, .int .i64 q.a.box.x1, .int .i64 q.a.box.y1, .slice a3 m3 c3]] u (SameIs (eqB p.a q.a) u)) (hB : ∀ u, Kp w u none → Calls Tryz.prog 71 #[.agg #[.int .i64 p.b.op, str p.b.text, .int .i64 p.b.n, .int .i64 p.b.box.x0, .int .i64 p.b.box.y0, .int .i64 p.b.box.x1, .int .i64 p.b.box.y1, .slice a2 m2 c2], .agg #[.int .i64 q.b.op, str q.b.text, .int .i64 q.b.n, .int .i64 q.b.box.x0, .int .i64 q.b.box.y0, .int .i64 q.b.box.x1, .int .i64 q.b.box.y1, .slice a4 m4 c4]] u (SameIs (eqB p.b q.b) u)) :
  Calls Tryz.prog 50 #[.agg #[str p.name, .int .i64 p.prio, .int .i64 p.what, .int .i64 p.a.op, str p.a.text, .int .i64 p.a.n, .int .i64 p.a.box.x0, .int .i64 p.a.box.y0, .int .i64 p.a.box.x1, .int .i64 p.a.box.y1, .slice a1 m1 c1, .int .i64 p.b.op, str p.b.text, .int .i64 p.b.n, .int .i64 p.b.box.x0, .int .i64 p.b.box.y0, .int .i64 p.b.box.x1, .int .i64 p.b.box.y1, .slice a2 m2 c2, .int .i64 p.value], .agg #[str q.name, .int .i64 q.prio, .int .i64 q.what, .int .i64 q.a.op, str q.a.text, .int .i64 q.a.n, .int .i64 q.a.box.x0, .int .i64 q.a.box.y0, .int .i64 q.a.box.x1, .int .i64 q.a.box.y1, .slice a3 m3 c3, .int .i64 q.b.op, str q.b.text, .int .i64 q.b.n, .int .i64 q.b.box.x0, .int .i64 q.b.box.y0, .int .i64 q.b.box.x1, .int .i64 q.b.box.y1, .slice a4 m4 c4, .int .i64 q.value]] w (SameIs (eqB p q) w) := by
 have hb0 : ((w.alloc (.cells #[str p.name, .int .i64 p.prio, .int .i64 p.what, .int .i64 p.a.op, str p.a.text, .int .i64 p.a.n, .int .i64 p.a.box.x0, .int .i64 p.a.box.y0, .int .i64 p.a.box.x1, .int .i64 p.a.box.y1, .slice a1 m1 c1, .int .i64 p.b.op, str p.b.text, .int .i64 p.b.n, .int .i64 p.b.box.x0, .int .i64 p.b.box.y0, .int .i64 p.b.box.x1, .int .i64 p.b.box.y1, .slice a2 m2 c2, .int .i64 p.value] 42)).alloc (.cells #[str q.name, .int .i64 q.prio, .int .i64 q.what, .int .i64 q.a.op, str q.a.text, .int .i64 q.a.n, .int .i64 q.a.box.x0, .int .i64 q.a.box.y0, .int .i64 q.a.box.x1, .int .i64 q.a.box.y1, .slice a3 m3 c3, .int .i64 q.b.op, str q.b.text, .int .i64 q.b.n, .int .i64 q.b.box.x0, .int .i64 q.b.box.y0, .int .i64 q.b.box.x1, .int .i64 q.b.box.y1, .slice a4 m4 c4, .int .i64 q.value] 42)).heap[w.heap.size]? = some (.cells #[str p.name, .int .i64 p.prio, .int .i64 p.what, .int .i64 p.a.op, str p.a.text, .int .i64 p.a.n, .int .i64 p.a.box.x0, .int .i64 p.a.box.y0, .int .i64 p.a.box.x1, .int .i64 p.a.box.y1, .slice a1 m1 c1, .int .i64 p.b.op, str p.b.text, .int .i64 p.b.n, .int .i64 p.b.box.x0, .int .i64 p.b.box.y0, .int .i64 p.b.box.x1, .int .i64 p.b.box.y1, .slice a2 m2 c2, .int .i64 p.value] 42 (0, 0)) := res_kept (heap_alloc_new w _) ((Kp.refl _ none).alloc _) (by simp)
 have hb1 : ((w.alloc (.cells #[str p.name, .int .i64 p.prio, .int .i64 p.what, .int .i64 p.a.op, str p.a.text, .int .i64 p.a.n, .int .i64 p.a.box.x0, .int .i64 p.a.box.y0, .int .i64 p.a.box.x1, .int .i64 p.a.box.y1, .slice a1 m1 c1, .int .i64 p.b.op, str p.b.text, .int .i64 p.b.n, .int .i64 p.b.box.x0, .int .i64 p.b.box.y0, .int .i64 p.b.box.x1, .int .i64 p.b.box.y1, .slice a2 m2 c2, .int .i64 p.value] 42)).alloc (.cells #[str q.name, .int .i64 q.prio, .int .i64 q.what, .int .i64 q.a.op, str q.a.text, .int .i64 q.a.n, .int .i64 q.a.box.x0, .int .i64 q.a.box.y0, .int .i64 q.a.box.x1, .int .i64 q.a.box.y1, .slice a3 m3 c3, .int .i64 q.b.op, str q.b.text, .int .i64 q.b.n, .int .i64 q.b.box.x0, .int .i64 q.b.box.y0, .int .i64 q.b.box.x1, .int .i64 q.b.box.y1, .slice a4 m4 c4, .int .i64 q.value] 42)).heap[w.heap.size + 1]? = some (.cells #[str q.name, .int .i64 q.prio, .int .i64 q.what, .int .i64 q.a.op, str q.a.text, .int .i64 q.a.n, .int .i64 q.a.box.x0, .int .i64 q.a.box.y0, .int .i64 q.a.box.x1, .int .i64 q.a.box.y1, .slice a3 m3 c3, .int .i64 q.b.op, str q.b.text, .int .i64 q.b.n, .int .i64 q.b.box.x0, .int .i64 q.b.box.y0, .int .i64 q.b.box.x1, .int .i64 q.b.box.y1, .slice a4 m4 c4, .int .i64 q.value] 42 (0, 0)) := heap_alloc2_new w _ _
 have k0 : Kp w ((w.alloc (.cells #[str p.name, .int .i64 p.prio, .int .i64 p.what, .int .i64 p.a.op, str p.a.text, .int .i64 p.a.n, .int .i64 p.a.box.x0, .int .i64 p.a.box.y0, .int .i64 p.a.box.x1, .int .i64 p.a.box.y1, .slice a1 m1 c1, .int .i64 p.b.op, str p.b.text, .int .i64 p.b.n, .int .i64 p.b.box.x0, .int .i64 p.b.box.y0, .int .i64 p.b.box.x1, .int .i64 p.b.box.y1, .slice a2 m2 c2, .int .i64 p.value] 42)).alloc (.cells #[str q.name, .int .i64 q.prio, .int .i64 q.what, .int .i64 q.a.op, str q.a.text, .int .i64 q.a.n, .int .i64 q.a.box.x0, .int .i64 q.a.box.y0, .int .i64 q.a.box.x1, .int .i64 q.a.box.y1, .slice a3 m3 c3, .int .i64 q.b.op, str q.b.text, .int .i64 q.b.n, .int .i64 q.b.box.x0, .int .i64 q.b.box.y0, .int .i64 q.b.box.x1, .int .i64 q.b.box.y1, .slice a4 m4 c4, .int .i64 q.value] 42)) none := ((Kp.refl _ _).alloc _).alloc _
 have HB0 := Lib.hid hb0
 have HB1 := Lib.hid hb1
 have HK := Lib.hid k0
 have HA := Lib.hid (hA _ k0)
 have HBc := Lib.hid hB
 have hH : ((w.alloc (.cells #[str p.name, .int .i64 p.prio, .int .i64 p.what, .int .i64 p.a.op, str p.a.text, .int .i64 p.a.n, .int .i64 p.a.box.x0, .int .i64 p.a.box.y0, .int .i64 p.a.box.x1, .int .i64 p.a.box.y1, .slice a1 m1 c1, .int .i64 p.b.op, str p.b.text, .int .i64 p.b.n, .int .i64 p.b.box.x0, .int .i64 p.b.box.y0, .int .i64 p.b.box.x1, .int .i64 p.b.box.y1, .slice a2 m2 c2, .int .i64 p.value] 42)).alloc (.cells #[str q.name, .int .i64 q.prio, .int .i64 q.what, .int .i64 q.a.op, str q.a.text, .int .i64 q.a.n, .int .i64 q.a.box.x0, .int .i64 q.a.box.y0, .int .i64 q.a.box.x1, .int .i64 q.a.box.y1, .slice a3 m3 c3, .int .i64 q.b.op, str q.b.text, .int .i64 q.b.n, .int .i64 q.b.box.x0, .int .i64 q.b.box.y0, .int .i64 q.b.box.x1, .int .i64 q.b.box.y1, .slice a4 m4 c4, .int .i64 q.value] 42)).heap.size = w.heap.size + 2 := by simp
 clear hA hB hb0 hb1 k0
 by_cases ename : p.name = q.name
 case neg =>
  have hb : (p.name == q.name) = false := by simpa using ename
  have hr : Hid (eqB p q = false) := Lib.hid (eqB_f (fun h => ename (by rw [h])))
  clear ename
  go_enter Tryz.func50, Tryz.ntmps50
  go_wp2_with fail
  go_ret
  exact ⟨by rw [hr.out]; rfl, HK.out⟩
 have hbname : (p.name == q.name) = true := by simpa using ename
 have Ename := Lib.hid ename
 clear ename
 by_cases eprio : p.prio = q.prio
 case neg =>
  have hb : (p.prio == q.prio) = false := by simpa using eprio
  have hr : Hid (eqB p q = false) := Lib.hid (eqB_f (fun h => eprio (by rw [h])))
  clear eprio
  go_enter Tryz.func50, Tryz.ntmps50
  go_wp2_with fail
  go_ret
  exact ⟨by rw [hr.out]; rfl, HK.out⟩
 have hbprio : (p.prio == q.prio) = true := by simpa using eprio
 have Eprio := Lib.hid eprio
 clear eprio
 by_cases ewhat : p.what = q.what
 case neg =>
  have hb : (p.what == q.what) = false := by simpa using ewhat
  have hr : Hid (eqB p q = false) := Lib.hid (eqB_f (fun h => ewhat (by rw [h])))
  clear ewhat
  go_enter Tryz.func50, Tryz.ntmps50
  go_wp2_with fail
  go_ret
  exact ⟨by rw [hr.out]; rfl, HK.out⟩
 have hbwhat : (p.what == q.what) = true := by simpa using ewhat
 have Ewhat := Lib.hid ewhat
 clear ewhat
 by_cases evalue : p.value = q.value
 case neg =>
  have hb : (p.value == q.value) = false := by simpa using evalue
  have hr : Hid (eqB p q = false) := Lib.hid (eqB_f (fun h => evalue (by rw [h])))
  clear evalue
  go_enter Tryz.func50, Tryz.ntmps50
  go_wp2_with fail
  go_ret
  exact ⟨by rw [hr.out]; rfl, HK.out⟩
 have hbvalue : (p.value == q.value) = true := by simpa using evalue
 have Evalue := Lib.hid evalue
 clear evalue
 by_cases ea : p.a = q.a
 case neg =>
  have hA := HA.out
  rw [eqB_f ea] at hA
  have hr : Hid (eqB p q = false) := Lib.hid (eqB_f (fun h => ea (by rw [h])))
  clear ea
  go_enter Tryz.func50, Tryz.ntmps50
  go_wp2_with (first | (go_at_call 71; refine hA.mono ?_; rintro e w1 ⟨rfl, hk1⟩))
  go_ret
  exact ⟨by rw [hr.out]; rfl, HK.out.trans hk1⟩
 have hA := HA.out
 rw [eqB_t ea] at hA
 have hr : Hid (eqB p q = eqB p.b q.b) := Lib.hid (by
  by_cases eb : p.b = q.b
  ·rw [eqB_t eb, eqB_t (rule_ext Ename.out Eprio.out Ewhat.out Evalue.out ea eb)]
  ·rw [eqB_f eb, eqB_f (fun h => eb (by rw [h]))])
 clear ea
 go_enter Tryz.func50, Tryz.ntmps50
 go_wp2_with (first | (go_at_call 71; refine hA.mono ?_; clear hA; rintro e w1 ⟨rfl, hk1⟩; have HK1 := Lib.hid hk1; have hbA := res_kept HB0.out hk1 (by simp); have hbB := res_kept HB1.out hk1 (by simp); have hp11 := hcell hbA 11 rfl; have hq11 := hcell hbB 11 rfl; have hp12 := hcell hbA 12 rfl; have hq12 := hcell hbB 12 rfl; have hp13 := hcell hbA 13 rfl; have hq13 := hcell hbB 13 rfl; have hp14 := hcell hbA 14 rfl; have hq14 := hcell hbB 14 rfl; have hp15 := hcell hbA 15 rfl; have hq15 := hcell hbB 15 rfl; have hp16 := hcell hbA 16 rfl; have hq16 := hcell hbB 16 rfl; have hp17 := hcell hbA 17 rfl; have hq17 := hcell hbB 17 rfl; have hp18 := hcell hbA 18 rfl; have hq18 := hcell hbB 18 rfl; clear hbA hbB; have hB := HBc.out w1 (HK.out.trans hk1); generalize eqB p.b q.b = xb at hB hr) | (go_at_call 71; refine hB.mono ?_; rintro e w2 ⟨rfl, hk2⟩))
 go_ret
 exact ⟨by rw [hr.out]; rfl, (HK.out.trans HK1.out).trans hk2⟩
set_option maxHeartbeats 4000000 in
set_option maxRecDepth 100000 in
theorem same_cond_no (p q : Ru.Cond) (a1 : Option Addr) (m1 c1 : Nat) (a2 : Option Addr) (m2 c2 : Nat) (w : World)
  (hne : p.op = q.op → p.text = q.text → p.n = q.n → p.box = q.box → False) : Calls Tryz.prog 49 #[.agg #[.int .i64 p.op, str p.text, .int .i64 p.n, .int .i64 p.box.x0, .int .i64 p.box.y0, .int .i64 p.box.x1, .int .i64 p.box.y1, .slice a1 m1 c1], .agg #[.int .i64 q.op, str q.text, .int .i64 q.n, .int .i64 q.box.x0, .int .i64 q.box.y0, .int .i64 q.box.x1, .int .i64 q.box.y1, .slice a2 m2 c2]] w (SameIs false w) := by
 have HK : Hid (Kp w ((w.alloc (.cells #[.int .i64 p.op, str p.text, .int .i64 p.n, .int .i64 p.box.x0, .int .i64 p.box.y0, .int .i64 p.box.x1, .int .i64 p.box.y1, .slice a1 m1 c1] 40)).alloc (.cells #[.int .i64 q.op, str q.text, .int .i64 q.n, .int .i64 q.box.x0, .int .i64 q.box.y0, .int .i64 q.box.x1, .int .i64 q.box.y1, .slice a2 m2 c2] 40)) none) := Lib.hid (((Kp.refl _ _).alloc _).alloc _)
 have HNE := Lib.hid hne
 clear hne
 by_cases eop : p.op = q.op
 case neg =>
  have hb : (p.op == q.op) = false := by simpa using eop
  have hb2 : (p.op != q.op) = true := by simp [bne, hb]
  clear eop HNE
  go_enter Tryz.func49, Tryz.ntmps49
  go_wp2_with fail
  go_ret
  exact ⟨rfl, HK.out⟩
 have hbop : (p.op == q.op) = true := by simpa using eop
 have hcop : (p.op != q.op) = false := by simp [bne, hbop]
 have Eop := Lib.hid eop
 clear eop
 by_cases etx : p.text = q.text
 case neg =>
  have hb : (p.text == q.text) = false := by simpa using etx
  have hb2 : (p.text != q.text) = true := by simp [bne, hb]
  clear etx HNE
  go_enter Tryz.func49, Tryz.ntmps49
  go_wp2_with fail
  go_ret
  exact ⟨rfl, HK.out⟩
 have hbtx : (p.text == q.text) = true := by simpa using etx
 have hctx : (p.text != q.text) = false := by simp [bne, hbtx]
 have Etx := Lib.hid etx
 clear etx
 by_cases en : p.n = q.n
 case neg =>
  have hb : (p.n == q.n) = false := by simpa using en
  have hb2 : (p.n != q.n) = true := by simp [bne, hb]
  clear en HNE
  go_enter Tryz.func49, Tryz.ntmps49
  go_wp2_with fail
  go_ret
  exact ⟨rfl, HK.out⟩
 have hbn : (p.n == q.n) = true := by simpa using en
 have hcn : (p.n != q.n) = false := by simp [bne, hbn]
 have En := Lib.hid en
 clear en
 by_cases ex0 : p.box.x0 = q.box.x0
 case neg =>
  have hb : (p.box.x0 == q.box.x0) = false := by simpa using ex0
  have hb2 : (p.box.x0 != q.box.x0) = true := by simp [bne, hb]
  clear ex0 HNE
  go_enter Tryz.func49, Tryz.ntmps49
  go_wp2_with fail
  go_ret
  exact ⟨rfl, HK.out⟩
 have hbx0 : (p.box.x0 == q.box.x0) = true := by simpa using ex0
 have hcx0 : (p.box.x0 != q.box.x0) = false := by simp [bne, hbx0]
 have Ex0 := Lib.hid ex0
 clear ex0
 by_cases ey0 : p.box.y0 = q.box.y0
 case neg =>
  have hb : (p.box.y0 == q.box.y0) = false := by simpa using ey0
  have hb2 : (p.box.y0 != q.box.y0) = true := by simp [bne, hb]
  clear ey0 HNE
  go_enter Tryz.func49, Tryz.ntmps49
  go_wp2_with fail
  go_ret
  exact ⟨rfl, HK.out⟩
 have hby0 : (p.box.y0 == q.box.y0) = true := by simpa using ey0
 have hcy0 : (p.box.y0 != q.box.y0) = false := by simp [bne, hby0]
 have Ey0 := Lib.hid ey0
 clear ey0
 by_cases ex1 : p.box.x1 = q.box.x1
 case neg =>
  have hb : (p.box.x1 == q.box.x1) = false := by simpa using ex1
  have hb2 : (p.box.x1 != q.box.x1) = true := by simp [bne, hb]
  clear ex1 HNE
  go_enter Tryz.func49, Tryz.ntmps49
  go_wp2_with fail
  go_ret
  exact ⟨rfl, HK.out⟩
 have hbx1 : (p.box.x1 == q.box.x1) = true := by simpa using ex1
 have hcx1 : (p.box.x1 != q.box.x1) = false := by simp [bne, hbx1]
 have Ex1 := Lib.hid ex1
 clear ex1
 by_cases ey1 : p.box.y1 = q.box.y1
 case neg =>
  have hb : (p.box.y1 == q.box.y1) = false := by simpa using ey1
  have hb2 : (p.box.y1 != q.box.y1) = true := by simp [bne, hb]
  clear ey1 HNE
  go_enter Tryz.func49, Tryz.ntmps49
  go_wp2_with fail
  go_ret
  exact ⟨rfl, HK.out⟩
 have hby1 : (p.box.y1 == q.box.y1) = true := by simpa using ey1
 have hcy1 : (p.box.y1 != q.box.y1) = false := by simp [bne, hby1]
 have Ey1 := Lib.hid ey1
 clear ey1
 exact (HNE.out Eop.out Etx.out En.out (by
  have h0 := Ex0.out; have h1 := Ey0.out; have h2 := Ex1.out; have h3 := Ey1.out
  cases hp : p.box; cases hq : q.box
  rw [hp, hq] at h0 h1 h2 h3
  simp only at h0 h1 h2 h3
  subst h0 h1 h2 h3; rfl)).elim
set_option maxHeartbeats 4000000 in
set_option maxRecDepth 100000 in
theorem same_cond_ref_no (p q : Ru.Cond) (a1 : Option Addr) (m1 c1 : Nat) (a2 : Option Addr) (m2 c2 : Nat) (w : World)
  (hne : p.op = q.op → p.text = q.text → p.n = q.n → p.box = q.box → False) : Calls Tryz.prog 71 #[.agg #[.int .i64 p.op, str p.text, .int .i64 p.n, .int .i64 p.box.x0, .int .i64 p.box.y0, .int .i64 p.box.x1, .int .i64 p.box.y1, .slice a1 m1 c1], .agg #[.int .i64 q.op, str q.text, .int .i64 q.n, .int .i64 q.box.x0, .int .i64 q.box.y0, .int .i64 q.box.x1, .int .i64 q.box.y1, .slice a2 m2 c2]] w (SameIs false w) := by
 have HK : Hid (Kp w ((w.alloc (.cells #[.int .i64 p.op, str p.text, .int .i64 p.n, .int .i64 p.box.x0, .int .i64 p.box.y0, .int .i64 p.box.x1, .int .i64 p.box.y1, .slice a1 m1 c1] 40)).alloc (.cells #[.int .i64 q.op, str q.text, .int .i64 q.n, .int .i64 q.box.x0, .int .i64 q.box.y0, .int .i64 q.box.x1, .int .i64 q.box.y1, .slice a2 m2 c2] 40)) none) := Lib.hid (((Kp.refl _ _).alloc _).alloc _)
 have HNE := Lib.hid hne
 clear hne
 by_cases eop : p.op = q.op
 case neg =>
  have hb : (p.op == q.op) = false := by simpa using eop
  have hb2 : (p.op != q.op) = true := by simp [bne, hb]
  clear eop HNE
  go_enter Tryz.func71, Tryz.ntmps71
  go_wp2_with fail
  go_ret
  exact ⟨rfl, HK.out⟩
 have hbop : (p.op == q.op) = true := by simpa using eop
 have hcop : (p.op != q.op) = false := by simp [bne, hbop]
 have Eop := Lib.hid eop
 clear eop
 by_cases etx : p.text = q.text
 case neg =>
  have hb : (p.text == q.text) = false := by simpa using etx
  have hb2 : (p.text != q.text) = true := by simp [bne, hb]
  clear etx HNE
  go_enter Tryz.func71, Tryz.ntmps71
  go_wp2_with fail
  go_ret
  exact ⟨rfl, HK.out⟩
 have hbtx : (p.text == q.text) = true := by simpa using etx
 have hctx : (p.text != q.text) = false := by simp [bne, hbtx]
 have Etx := Lib.hid etx
 clear etx
 by_cases en : p.n = q.n
 case neg =>
  have hb : (p.n == q.n) = false := by simpa using en
  have hb2 : (p.n != q.n) = true := by simp [bne, hb]
  clear en HNE
  go_enter Tryz.func71, Tryz.ntmps71
  go_wp2_with fail
  go_ret
  exact ⟨rfl, HK.out⟩
 have hbn : (p.n == q.n) = true := by simpa using en
 have hcn : (p.n != q.n) = false := by simp [bne, hbn]
 have En := Lib.hid en
 clear en
 by_cases ex0 : p.box.x0 = q.box.x0
 case neg =>
  have hb : (p.box.x0 == q.box.x0) = false := by simpa using ex0
  have hb2 : (p.box.x0 != q.box.x0) = true := by simp [bne, hb]
  clear ex0 HNE
  go_enter Tryz.func71, Tryz.ntmps71
  go_wp2_with fail
  go_ret
  exact ⟨rfl, HK.out⟩
 have hbx0 : (p.box.x0 == q.box.x0) = true := by simpa using ex0
 have hcx0 : (p.box.x0 != q.box.x0) = false := by simp [bne, hbx0]
 have Ex0 := Lib.hid ex0
 clear ex0
 by_cases ey0 : p.box.y0 = q.box.y0
 case neg =>
  have hb : (p.box.y0 == q.box.y0) = false := by simpa using ey0
  have hb2 : (p.box.y0 != q.box.y0) = true := by simp [bne, hb]
  clear ey0 HNE
  go_enter Tryz.func71, Tryz.ntmps71
  go_wp2_with fail
  go_ret
  exact ⟨rfl, HK.out⟩
 have hby0 : (p.box.y0 == q.box.y0) = true := by simpa using ey0
 have hcy0 : (p.box.y0 != q.box.y0) = false := by simp [bne, hby0]
 have Ey0 := Lib.hid ey0
 clear ey0
 by_cases ex1 : p.box.x1 = q.box.x1
 case neg =>
  have hb : (p.box.x1 == q.box.x1) = false := by simpa using ex1
  have hb2 : (p.box.x1 != q.box.x1) = true := by simp [bne, hb]
  clear ex1 HNE
  go_enter Tryz.func71, Tryz.ntmps71
  go_wp2_with fail
  go_ret
  exact ⟨rfl, HK.out⟩
 have hbx1 : (p.box.x1 == q.box.x1) = true := by simpa using ex1
 have hcx1 : (p.box.x1 != q.box.x1) = false := by simp [bne, hbx1]
 have Ex1 := Lib.hid ex1
 clear ex1
 by_cases ey1 : p.box.y1 = q.box.y1
 case neg =>
  have hb : (p.box.y1 == q.box.y1) = false := by simpa using ey1
  have hb2 : (p.box.y1 != q.box.y1) = true := by simp [bne, hb]
  clear ey1 HNE
  go_enter Tryz.func71, Tryz.ntmps71
  go_wp2_with fail
  go_ret
  exact ⟨rfl, HK.out⟩
 have hby1 : (p.box.y1 == q.box.y1) = true := by simpa using ey1
 have hcy1 : (p.box.y1 != q.box.y1) = false := by simp [bne, hby1]
 have Ey1 := Lib.hid ey1
 clear ey1
 exact (HNE.out Eop.out Etx.out En.out (by
  have h0 := Ex0.out; have h1 := Ey0.out; have h2 := Ex1.out; have h3 := Ey1.out
  cases hp : p.box; cases hq : q.box
  rw [hp, hq] at h0 h1 h2 h3
  simp only at h0 h1 h2 h3
  subst h0 h1 h2 h3; rfl)).elim
end Go.Proofs.YtnchipahdfbliaaGreatDoor
