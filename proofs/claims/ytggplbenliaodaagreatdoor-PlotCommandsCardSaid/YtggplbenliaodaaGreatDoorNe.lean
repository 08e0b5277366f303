/- Points that numbers choose (Near). Condition: a width of at most 1000. -/
import Derived.Test.YtggplbenliaodaaGreatDoorNx
namespace Go.Proofs.YtggplbenliaodaaGreatDoor
open Go.RowKit

/-- A coordinate of some hundreds. -/
def Small (b x : Int) : Prop := -b ≤ x ∧ x ≤ b
/-- What a call that draws hands out and leaves. -/
def DrewPt (D : Nat) (ao : Option Addr) (n cap : Nat) (w : World) (b : Int) (E : Ending) (w' : World) : Prop := ∃ x y : Int, E = .returned (.agg #[.int .i64 x, .int .i64 y]) ∧ Small b x ∧ Small b y ∧ DrawAt D ao n cap w' ∧ Kp w w' (some D)
theorem DrawAt.kp {D : Nat} {ao : Option Addr} {n cap : Nat} {w w' : World} (h : DrawAt D ao n cap w) (k : Kp w w' none) : DrawAt D ao n cap w' := by
  obtain ⟨a, hb, ha⟩ := h
  exact ⟨a, (k.block D (lt_of_block hb) (by simp)).trans hb, ha⟩
theorem DrawAt.lt {D : Nat} {ao : Option Addr} {n cap : Nat} {w : World} (h : DrawAt D ao n cap w) : D < w.heap.size := by
  obtain ⟨a, hb, ha⟩ := h; exact lt_of_block hb

set_option maxHeartbeats 4000000 in
set_option maxRecDepth 100000 in
theorem near_any (l : List Int) (n : Nat) (hn : l.length = n) (D : Nat) (ao : Option Addr) (cap : Nat) (b : Int) (W w : World) (hl : LiesAt 1 intVal W ao cap l) (hD : W.heap.size ≤ D) (hW : Kp W w none) (hd : DrawAt D ao n cap w) (h0 : 0 ≤ b) (h1 : b ≤ 1000) (hn2 : LenOk n) :
    Calls Tryz.prog 44 #[.pointer (some ⟨D, 0, none⟩), .int .i64 b] w (DrewPt D ao n cap w b) := by
  have HNX := Lib.hid (fun m V (hm : 0 < m) (hm2 : m ≤ 1000000) (kv : Kp W V none) (dv : DrawAt D ao n cap V) => next_any l n hn D ao cap m W V hl hD kv dv hm hm2 hn2)
  have HWK := Lib.hid hW
  have HDD := Lib.hid hd
  have hDlt := hd.lt
  have hb1 : wrap64 (2 * b) = 2 * b := wrap_mid (by omega) (by omega)
  have HB2 : Hid (wrap64 (2 * b + 1) = 2 * b + 1) := Lib.hid (wrap_mid (by omega) (by omega))
  have HNE : Hid (w.heap.size ≠ D) := Lib.hid (by omega)
  have HX := Lib.hid (heap_alloc_new w (Obj.cells #[.int .i64 0, .int .i64 0] 37))
  have KX : Hid (Kp w (w.alloc (Obj.cells #[.int .i64 0, .int .i64 0] 37)) none) := Lib.hid ((Kp.refl w none).alloc _)
  clear hl hn hW hd hDlt
  have hb2 := HB2.out
  go_enter Tryz.func44, Tryz.ntmps44
  go_wp2_with fail
  clear hb1 hb2
  refine (HNX.out (2 * b + 1) _ (by omega) (by omega) (HWK.out.trans KX.out) (HDD.out.kp KX.out)).mono ?_
  rintro E w1 ⟨x, rfl, hx, hd1, k1⟩
  have HD1 := Lib.hid hd1
  have K1 := Lib.hid k1
  have HX1 : Hid (w1.heap[w.heap.size]? = _) := Lib.hid ((k1.block w.heap.size (lt_of_block HX.out) (by have := HNE.out; simp; omega)).trans HX.out)
  have hp1 : wrap64 (x - b) = (x - b) := wrap_mid (by omega) (by omega)
  have HPX : Hid (Small b (x - b)) := Lib.hid (by unfold Small; omega)
  have hb1 : wrap64 (2 * b) = 2 * b := wrap_mid (by omega) (by omega)
  have hb2 := HB2.out
  clear hd1 k1
  go_wp2_with fail
  clear hb1 hb2 hp1
  refine (HNX.out (2 * b + 1) _ (by omega) (by omega) (HWK.out.of_own ((KX.out.weak (some D)).trans K1.out) hD) HD1.out).mono ?_
  rintro E w2 ⟨y, rfl, hy, hd2, k2⟩
  have HX2 : Hid (w2.heap[w.heap.size]? = _) := Lib.hid ((k2.block w.heap.size (lt_of_block HX1.out) (by have := HNE.out; simp; omega)).trans HX1.out)
  have HD2 := Lib.hid hd2
  have K2 := Lib.hid (K1.out.trans k2)
  have hp2 : wrap64 (y - b) = (y - b) := wrap_mid (by omega) (by omega)
  have HPY : Hid (Small b (y - b)) := Lib.hid (by unfold Small; omega)
  have z0 : w2.cell? ⟨w.heap.size, 0, none⟩ = some (.int .i64 0) := by have := Lib.cell_of_heap HX2.out 0; simpa using this
  have z1 : w2.cell? ⟨w.heap.size, 1, none⟩ = some (.int .i64 0) := by have := Lib.cell_of_heap HX2.out 1; simpa using this
  have f0 : w2.frozen? ⟨w.heap.size, 0, none⟩ = false := Lib.frozen_of_heap HX2.out 0
  have f1 : w2.frozen? ⟨w.heap.size, 1, none⟩ = false := Lib.frozen_of_heap HX2.out 1
  clear hd2 k2
  go_wp2_with fail
  have hs0 := heap_set (o := 0) (v := .int .i64 (x - b)) HX2.out
  have hs1 := heap_set (o := 1) (v := .int .i64 (y - b)) hs0
  have kf : Kp w2 ((w2.setCell ⟨w.heap.size, 0, none⟩ (.int .i64 (x - b))).setCell ⟨w.heap.size, 1, none⟩ (.int .i64 (y - b))) (some w.heap.size) := ((Kp.refl w2 (some w.heap.size)).set _).set _
  have KF := Lib.hid kf
  have HS1 := Lib.hid hs1
  have q0 : ((w2.setCell ⟨w.heap.size, 0, none⟩ (.int .i64 (x - b))).setCell ⟨w.heap.size, 1, none⟩ (.int .i64 (y - b))).cell? ⟨w.heap.size, 0, none⟩ = some (.int .i64 (x - b)) := by have := Lib.cell_of_heap hs1 0; simpa using this
  have q1 : ((w2.setCell ⟨w.heap.size, 0, none⟩ (.int .i64 (x - b))).setCell ⟨w.heap.size, 1, none⟩ (.int .i64 (y - b))).cell? ⟨w.heap.size, 1, none⟩ = some (.int .i64 (y - b)) := by have := Lib.cell_of_heap hs1 1; simpa using this
  clear z0 z1 f0 f1 hs0 hs1 kf hp2
  generalize (w2.setCell ⟨w.heap.size, 0, none⟩ (.int .i64 (x - b))).setCell ⟨w.heap.size, 1, none⟩ (.int .i64 (y - b)) = wf at *
  try simp only [Exit.inBlock, Exit.then]
  refine bodyPost_ret (v := .agg #[.int .i64 (x - b), .int .i64 (y - b)]) (by simp [results, Tryz.results44, go_sem, q0, q1]) rfl ?_
  refine ⟨x - b, y - b, rfl, HPX.out, HPY.out, ?_, ?_⟩
  · obtain ⟨a, hb, ha⟩ := HD2.out
    exact ⟨a, (KF.out.block D (lt_of_block hb) (by have := HNE.out; simp; omega)).trans hb, ha⟩
  · have k3 : Kp w w2 (some D) := (KX.out.weak (some D)).trans K2.out
    exact k3.of_own KF.out (Nat.le_refl _)

end Go.Proofs.YtggplbenliaodaaGreatDoor
