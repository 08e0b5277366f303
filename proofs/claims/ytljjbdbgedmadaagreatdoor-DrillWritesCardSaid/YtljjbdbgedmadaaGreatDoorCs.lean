/- The iterator of a shape's joints: what it yields, whatever the loop's body does, as long as it keeps what lay before. Condition: at most 2^16 edges; at least one.
   The program's test of a shape. Condition: at most 2^16 edges. The program's test of a shape, whatever it is. No condition. -/
import Derived.Test.YtljjbdbgedmadaaGreatDoorPt
import Derived.RangeFuncNested
import Derived.RangeFuncBound
import Derived.RangeFuncCalls
import Derived.RangeFuncLeaves
import Derived.Shelf.Abstract
import Derived.Shelf.RegionOpen
import Derived.OwnWalkIn
import Derived.TacticsInMore
import Derived.LoopNIn
import Derived.LoopIn
import Derived.Test.YtljjbdbgedmadaaGreatDoorCk
import Derived.Test.YtljjbdbgedmadaaGreatDoorPlA
set_option maxHeartbeats 8000000
set_option maxRecDepth 100000
namespace Go.Proofs.YtljjbdbgedmadaaGreatDoor
open Go.RowKit Go.Shelf
open Pl (pairs joints pairs_length pairs_take joints_open joints_closed)
def encP (x : Pl.Ed × Pl.Ed) : Array Value := #[.agg (edV x.1), .agg (edV x.2)]
attribute [local go_sem] Oper.semAt_some
theorem joints_iter (n : Nat) (hn : 1 ≤ n) (l : List Pl.Ed) (closed : Bool) (ao : Option Addr) (cap : Nat) (w : World) (Bl Bc : Nat) (hBl : w.cell? ⟨Bl, 0, none⟩ = some (.slice ao l.length cap)) (hBc : w.cell? ⟨Bc, 0, none⟩ = some (.bool closed)) (hl : LiesAt 7 edC w ao cap l) (h0 : 0 < l.length) (hlen : l.length ≤ 65536) :
  SeqStopsK Fence.wide n Tryz.prog 177 #[.pointer (some ⟨Bl, 0, none⟩), .pointer (some ⟨Bc, 0, none⟩)] encP (Below w.heap.size) (fun xs => xs = joints l closed) (fun pre => ∀ p ∈ pre, p ∈ joints l closed) (joints l closed).length w := by
 intro L J Jx W hW hJ hJx hY hj0; refine callsIn_wide.2 ?_
 change Calls Tryz.prog 177 #[.func (.yield L) #[] #[], .pointer (some ⟨Bl, 0, none⟩), .pointer (some ⟨Bc, 0, none⟩)] W _
 have KW : ∀ V, Below w.heap.size W V → Kp w V none := fun V h => Kp.of_below (hW.trans h)
 have CB : Hid (∀ V, Below w.heap.size W V → V.cell? ⟨Bl, 0, none⟩ = some (.slice ao l.length cap) ∧ V.cell? ⟨Bc, 0, none⟩ = some (.bool closed)) := oh fun V h =>
  ⟨((KW V h).below.cell (p := ⟨Bl, 0, none⟩) (World.block_lt_of_cell? _ _ hBl)).trans hBl, ((KW V h).below.cell (p := ⟨Bc, 0, none⟩) (World.block_lt_of_cell? _ _ hBc)).trans hBc⟩
 have FL : Hid (∀ (k : Nat) (hk : k < l.length), ∃ b off, ao = some ⟨b, off, none⟩ ∧ l.length ≤ cap ∧ ∀ V, Below w.heap.size W V →
  V.cell? ⟨b, off + k * 7, none⟩ = some (I6 l[k].k) ∧ V.cell? ⟨b, off + k * 7 + 1, none⟩ = some (I6 l[k].a.x) ∧ V.cell? ⟨b, off + k * 7 + 2, none⟩ = some (I6 l[k].a.y) ∧ V.cell? ⟨b, off + k * 7 + 3, none⟩ = some (I6 l[k].b.x) ∧ V.cell? ⟨b, off + k * 7 + 4, none⟩ = some (I6 l[k].b.y) ∧ V.cell? ⟨b, off + k * 7 + 5, none⟩ = some (I6 l[k].c.x) ∧ V.cell? ⟨b, off + k * 7 + 6, none⟩ = some (I6 l[k].c.y)) := oh fun k hk => by
  obtain ⟨b, off, e, hc, _, hr⟩ := hl.ed hk
  exact ⟨b, off, e, hc, fun V h => hr V (KW V h)⟩
 have HJ := oh hJ; have HY := oh hY; have HJ0 := oh hj0; have HB0 : Hid (w.heap.size ≤ W.heap.size) := oh hW.size
 clear hl hBl hBc hJ hJx hY hj0 hW KW; have hn0 : (0 : Int) ≤ (l.length : Int) := Int.natCast_nonneg _
 have hm : Tryz.prog.follows .mixedOrders = true := by kernel_rfl
 have HMEM : Hid (∀ p ∈ pairs l, p ∈ joints l closed) := oh fun p hp => by unfold joints; exact List.mem_append_left _ hp
 have HJL : Hid ((pairs l).length ≤ (joints l closed).length ∧ (joints l closed).take (pairs l).length = pairs l) := oh (by unfold joints; simp)
 go_enter Tryz.func177, Tryz.ntmps177
 refine (wpIn_wide (n := n)).1 ?_
 gi_wp2
 gi_loopw [4] (fun i wr => ∃ k : Nat, k + 1 ≤ l.length ∧ i = I6 ((k : Int) + 1) ∧ J ((pairs l).take k) wr ∧ Below w.heap.size W wr) (fun i _ => l.length - (intOf i).toNat)
 case atStart => exact ⟨0, h0, rfl, HJ0.out, Below.refl _ _⟩
 case round =>
  obtain ⟨k, hk, rfl, hJk, hbw⟩ := hrel; have HJK := oh hJk; have HBW := oh hbw
  obtain ⟨c0, c1⟩ := CB.out wr hbw
  clear hJk; have hk0 := nn k
  by_cases hlt : k + 1 < l.length
  ·have hk2 : (k : Int) + 1 < (l.length : Int) := by omega
   have hk3 : (k : Int) < (l.length : Int) := by omega
   have hw1 : wrap64 ((k : Int) + 1 + 1) = (k : Int) + 1 + 1 := by unfold wrap64; omega
   have hw2 : wrap64 ((k : Int) + 1 - 1) = (k : Int) := by unfold wrap64; omega
   have hw3 : wrap64 (k : Int) = (k : Int) := by unfold wrap64; omega
   have hw4 : IntKind.i64.wrap ((k : Int) + 1 - 1) = (k : Int) := by rw [IntKind.wrap_i64]; omega
   have hw5 : IntKind.i64.wrap (k : Int) = (k : Int) := by rw [IntKind.wrap_i64]; omega
   obtain ⟨b, off, rfl, hcap, hce⟩ := FL.out k (by omega)
   obtain ⟨b', off', hao, _, hce1⟩ := FL.out (k + 1) hlt
   injection hao with hao; injection hao with e1 e2; subst e1; subst e2
   have hd := hce wr hbw
   have he := hce1 wr hbw
   clear hce hce1 hbw; have HPT := oh (pairs_take l k hlt)
   obtain ⟨y, hy⟩ : ∃ y, l[k] = y := ⟨_, rfl⟩
   obtain ⟨z, hz⟩ : ∃ z, l[k + 1] = z := ⟨_, rfl⟩
   rw [hy] at hd HPT; rw [hz] at he HPT; clear hy hz; obtain ⟨d0, d1, d2, d3, d4, d5, d6⟩ := hd; obtain ⟨e0, e1, e2, e3, e4, e5, e6⟩ := he
   have hJd : J ((pairs l).take k) wr.drew := HJ.out _ wr _ none HJK.out (Kp.refl wr none).drew (fun r e => by cases e)
   obtain ⟨fn, tmps, assign, body, hyd, hR⟩ := HY.out ((pairs l).take k) (y, z) wr.drew hJd (by rw [List.length_take]; have := HJL.out.1; have := pairs_length l; omega)
   dsimp only [encP, edV] at hyd
   have HRR : Hid (RoundIn Fence.wide (n - 1) Tryz.prog L fn tmps assign body wr.drew fun e W' => ∃ b : Bool, e = .returned (.bool b) ∧ ((b = true ∧ J ((pairs l).take (k + 1)) W' ∧ Below w.heap.size wr.drew W') ∨ (b = false ∧ Jx ((pairs l).take k ++ [(y, z)]) W'))) := oh (hR.mono (by
    rintro e W3 (⟨rfl, hJ3, hk3⟩ | ⟨rfl, hJx3⟩)
    ·exact ⟨true, rfl, .inl ⟨rfl, by rw [HPT.out]; exact hJ3, hk3⟩⟩
    ·exact ⟨false, rfl, .inr ⟨rfl, hJx3⟩⟩))
   clear hR hJd
   gi_wp2
   gi_region_with_o (refine HRR.out.mono ?_; rintro e W3 ⟨b, rfl, hb⟩)
   all_goals
    rcases hb with ⟨rfl, hJ3, hk3⟩ | ⟨rfl, hJx3⟩
    ·have HREL : Hid (J ((pairs l).take (k + 1)) W3 ∧ Below w.heap.size W W3) := oh ⟨hJ3, (HBW.out.drew).trans hk3⟩
     clear hJ3 hk3
     gi_wp2
     go_roundw
     case rel => exact ⟨k + 1, by omega, by go_num, HREL.out.1, HREL.out.2⟩
     case measure => simp [intOf]; omega
    ·gi_wp2
     refine bodyPost_ret (results_none rfl _ _ _) rfl ?_
     exact ⟨⟨_, rfl⟩, .inr ⟨_, fun p hp => HMEM.out p (List.mem_of_mem_take (HPT.out.symm ▸ hp)), hJx3⟩⟩
  ·have hk2 : ¬ (k : Int) + 1 < (l.length : Int) := by omega
   have hkl : k + 1 = l.length := by omega
   have HJP : Hid (J (pairs l) wr) := oh (by have := HJK.out; rw [List.take_of_length_le (by rw [pairs_length]; omega)] at this; exact this)
   cases closed
   ·gi_wp2
    go_end0
    have hj : J (joints l false) wr := by rw [joints_open]; exact HJP.out
    first
     | exact ⟨⟨_, rfl⟩, .inl hj⟩
     | exact ⟨⟨_, rfl⟩, .inl ⟨_, rfl, hj⟩⟩
     | exact .inl hj
   ·have HJC := oh (joints_closed l h0); rw [HJC.out] at HY HJL
    have hw1 : wrap64 ((l.length : Int) - 1) = (k : Int) := by unfold wrap64; omega
    have hw4 : IntKind.i64.wrap ((l.length : Int) - 1) = (k : Int) := by rw [IntKind.wrap_i64]; omega
    have hk3 : (k : Int) < (l.length : Int) := by omega
    have hk4 : (0 : Int) < (l.length : Int) := by omega
    obtain ⟨b, off, rfl, hcap, hce⟩ := FL.out k (by omega)
    obtain ⟨b', off', hao, _, hce1⟩ := FL.out 0 h0
    injection hao with hao; injection hao with e1 e2; subst e1; subst e2
    have hd := hce wr hbw
    have he := hce1 wr hbw
    clear hce hce1 hbw; obtain ⟨y, hy⟩ : ∃ y, l[k] = y := ⟨_, rfl⟩
    obtain ⟨z, hz⟩ : ∃ z, l[0] = z := ⟨_, rfl⟩
    have hy2 : l[l.length - 1] = y := by rw [← hy]; congr 1; omega
    rw [hy] at hd; rw [hz] at he HY HJL HJC; rw [hy2] at HY HJL HJC; clear hy hz hy2; simp only [Nat.zero_mul, Nat.add_zero] at he
    obtain ⟨d0, d1, d2, d3, d4, d5, d6⟩ := hd; obtain ⟨e0, e1, e2, e3, e4, e5, e6⟩ := he
    have hJd : J (pairs l) wr.drew := HJ.out _ wr _ none HJP.out (Kp.refl wr none).drew (fun r e => by cases e)
    obtain ⟨fn, tmps, assign, body, hyd, hR⟩ := HY.out (pairs l) (y, z) wr.drew hJd (by simp)
    dsimp only [encP, edV] at hyd
    have HRR : Hid (RoundIn Fence.wide (n - 1) Tryz.prog L fn tmps assign body wr.drew fun e W' => ∃ b : Bool, e = .returned (.bool b) ∧ ((b = true ∧ J (pairs l ++ [(y, z)]) W' ∧ Below w.heap.size wr.drew W') ∨ (b = false ∧ Jx (pairs l ++ [(y, z)]) W'))) := oh (hR.mono (by
     rintro e W3 (⟨rfl, hJ3, hk3⟩ | ⟨rfl, hJx3⟩)
     ·exact ⟨true, rfl, .inl ⟨rfl, hJ3, hk3⟩⟩
     ·exact ⟨false, rfl, .inr ⟨rfl, hJx3⟩⟩))
    clear hR hJd
    gi_wp2
    gi_region_with_o (refine HRR.out.mono ?_; rintro e W3 ⟨b, rfl, hb⟩)
    all_goals
     gi_wp2
     go_end0
     rcases hb with ⟨rfl, hJ3, hk3⟩ | ⟨rfl, hJx3⟩
     ·first
       | exact ⟨⟨_, rfl⟩, .inl (HJC.out.symm ▸ hJ3)⟩
       | exact ⟨⟨_, rfl⟩, .inl ⟨_, rfl, HJC.out.symm ▸ hJ3⟩⟩
       | exact .inl (HJC.out.symm ▸ hJ3)
     ·first
       | exact ⟨⟨_, rfl⟩, .inr ⟨_, fun p hp => HJC.out.symm ▸ hp, hJx3⟩⟩
       | exact .inr ⟨_, fun p hp => HJC.out.symm ▸ hp, hJx3⟩
set_option maxRecDepth 100000
set_option maxHeartbeats 8000000
attribute [local go_sem] Oper.semAt_some
structure Bx (k r : Int) (n : Nat) (ao : Option Addr) (cap : Nat) (w : World) (e : Int) (W : World) : Prop where
 below : Below w.heap.size w W
 box : W.heap[w.heap.size]? = some (.cells #[I6 k, .slice ao n cap, I6 r] 50 (0, 0))
 res : W.heap[w.heap.size + 1]? = some (.cells #[I6 e] 27 (0, 0))
theorem Bx.keep {k r e : Int} {n cap : Nat} {ao : Option Addr} {w W W' : World} (h : Bx k r n ao cap w e W) (K : Kp W W' none) : Bx k r n ao cap w e W' where
 below := h.below.trans (K.below.mono h.below.size)
 box := (K.block _ (lt_of_block h.box) (by simp)).trans h.box
 res := (K.block _ (lt_of_block h.res) (by simp)).trans h.res
theorem Bx.from {k r e : Int} {n cap : Nat} {ao : Option Addr} {w W W' : World} {row : Option Nat} {B : Nat} (h : Bx k r n ao cap w e W) (K : W.grownBy W' row) (hr : ∀ i, row = some i → B ≤ i) (hB : w.heap.size + 2 ≤ B) : Bx k r n ao cap w e W' where
 below := h.below.grown K h.below.size (fun i hi => by have := hr i hi; omega)
 box := (K.block _ (lt_of_block h.box) (fun e => by have := hr _ e.symm; omega)).trans h.box
 res := (K.block _ (lt_of_block h.res) (fun e => by have := hr _ e.symm; omega)).trans h.res
theorem Bx.set {k r e : Int} {n cap : Nat} {ao : Option Addr} {w W : World} (h : Bx k r n ao cap w e W) (v : Int) : Bx k r n ao cap w v (W.setCell ⟨w.heap.size + 1, 0, none⟩ (I6 v)) where
 below := h.below.setCell (p := ⟨w.heap.size + 1, 0, none⟩) (by show w.heap.size ≤ w.heap.size + 1; omega) _
 box := (Below.heap_setCell _ _ _ _ (by show ¬ (w.heap.size = w.heap.size + 1); omega)).trans h.box
 res := heap_set h.res
theorem Bx.cells {k r e : Int} {n cap : Nat} {ao : Option Addr} {w W : World} (h : Bx k r n ao cap w e W) : W.cell? ⟨w.heap.size, 0, none⟩ = some (I6 k) ∧ W.cell? ⟨w.heap.size, 1, none⟩ = some (.slice ao n cap) ∧ W.cell? ⟨w.heap.size, 2, none⟩ = some (I6 r) ∧ W.cell? ⟨w.heap.size + 1, 0, none⟩ = some (I6 e) ∧ W.frozen? ⟨w.heap.size + 1, 0, none⟩ = false := by
 have q0 : W.cell? ⟨w.heap.size, 0, none⟩ = _ := Lib.cell_of_heap h.box 0
 have q1 : W.cell? ⟨w.heap.size, 1, none⟩ = _ := Lib.cell_of_heap h.box 1
 have q2 : W.cell? ⟨w.heap.size, 2, none⟩ = _ := Lib.cell_of_heap h.box 2
 have q3 : W.cell? ⟨w.heap.size + 1, 0, none⟩ = _ := Lib.cell_of_heap h.res 0
 exact ⟨q0, q1, q2, q3, fz h.res 0⟩
theorem Bx.new (k r : Int) (n : Nat) (ao : Option Addr) (cap : Nat) (w : World) (e : Int) : Bx k r n ao cap w e ((w.alloc (.cells #[I6 k, .slice ao n cap, I6 r] 50)).alloc (.cells #[I6 e] 27)) where
 below := (((Kp.refl w none).alloc _).alloc _).below
 box := (((Kp.refl _ none).alloc _).block _ (by simp) (by simp)).trans (heap_alloc_new w _)
 res := by have := heap_alloc_new (w.alloc (.cells #[I6 k, .slice ao n cap, I6 r] 50)) (.cells #[I6 e] 27); simpa using this
theorem heap_box {W : World} {N : Nat} {v : Value} {t : TypeId} (h : W.heap[N]? = some (.cells #[v] t (0, 0))) : W.cell? ⟨N, 0, none⟩ = some v := by
 have := Lib.cell_of_heap h 0; simpa using this
theorem joints_x (sl : Value) (ao : Option Addr) (n cap : Nat) (_hs : sl = .slice ao n cap) (c : Bool) (w : World) :
  Calls Tryz.prog 145 #[.slice ao n cap, .bool c] w fun E w' => E = .returned (.func (.func 177) #[] #[.pointer (some ⟨w.heap.size, 0, none⟩), .pointer (some ⟨w.heap.size + 1, 0, none⟩)]) ∧ w' = (w.alloc (.cells #[.slice ao n cap] 48)).alloc (.cells #[.bool c] 4) := by
 go_enter Tryz.func145, Tryz.ntmps145
 go_wp2
 go_ret
 exact ⟨rfl, rfl⟩
theorem scheck_kind (k r : Int) (n : Nat) (ao : Option Addr) (cap : Nat) (w : World) (h1 : (k == 1) = false) (h2 : (k == 2) = false) :
  Calls Tryz.prog 93 #[.agg #[I6 k, .slice ao n cap, I6 r]] w fun E w' => E = .returned (I6 12) ∧ Kp w w' none := by
 refine (callsIn_wide (n := 6)).1 ?_
 refine callsIn_of_wp_marks Tryz.func93 rfl trivial ?_ rfl
 simp only [Tryz.ntmps93, List.size_toArray, List.length_cons, List.length_nil, Nat.reduceAdd, Nat.reduceSub, Array.replicate_succ, Array.replicate_zero, List.push_toArray, List.append_toArray, List.nil_append, List.cons_append]
 refine wpIn_wide.2 ?_
 go_wp2_with fail
 refine ⟨I6 12, by simp [results, Tryz.results93, go_sem], rfl, ((Kp.refl w none).alloc _).alloc _⟩
theorem scheck_none1 (r : Int) (n : Nat) (ao : Option Addr) (cap : Nat) (w : World) (h1 : ((n : Int) == 0) = true) :
  Calls Tryz.prog 93 #[.agg #[I6 1, .slice ao n cap, I6 r]] w fun E w' => E = .returned (I6 12) ∧ Kp w w' none := by
 refine (callsIn_wide (n := 6)).1 ?_
 refine callsIn_of_wp_marks Tryz.func93 rfl trivial ?_ rfl
 simp only [Tryz.ntmps93, List.size_toArray, List.length_cons, List.length_nil, Nat.reduceAdd, Nat.reduceSub, Array.replicate_succ, Array.replicate_zero, List.push_toArray, List.append_toArray, List.nil_append, List.cons_append]
 refine wpIn_wide.2 ?_
 go_wp2_with fail
 refine ⟨I6 12, by simp [results, Tryz.results93, go_sem], rfl, ((Kp.refl w none).alloc _).alloc _⟩
theorem scheck_none2 (r : Int) (n : Nat) (ao : Option Addr) (cap : Nat) (w : World) (h1 : ((n : Int) == 0) = true) :
  Calls Tryz.prog 93 #[.agg #[I6 2, .slice ao n cap, I6 r]] w fun E w' => E = .returned (I6 12) ∧ Kp w w' none := by
 refine (callsIn_wide (n := 6)).1 ?_
 refine callsIn_of_wp_marks Tryz.func93 rfl trivial ?_ rfl
 simp only [Tryz.ntmps93, List.size_toArray, List.length_cons, List.length_nil, Nat.reduceAdd, Nat.reduceSub, Array.replicate_succ, Array.replicate_zero, List.push_toArray, List.append_toArray, List.nil_append, List.cons_append]
 refine wpIn_wide.2 ?_
 go_wp2_with fail
 refine ⟨I6 12, by simp [results, Tryz.results93, go_sem], rfl, ((Kp.refl w none).alloc _).alloc _⟩
theorem scheck_one2 (r : Int) (n : Nat) (ao : Option Addr) (cap : Nat) (w : World) (h1 : ((n : Int) == 0) = false) (h2 : (n : Int) < 2) :
  Calls Tryz.prog 93 #[.agg #[I6 2, .slice ao n cap, I6 r]] w fun E w' => E = .returned (I6 12) ∧ Kp w w' none := by
 refine (callsIn_wide (n := 6)).1 ?_
 refine callsIn_of_wp_marks Tryz.func93 rfl trivial ?_ rfl
 simp only [Tryz.ntmps93, List.size_toArray, List.length_cons, List.length_nil, Nat.reduceAdd, Nat.reduceSub, Array.replicate_succ, Array.replicate_zero, List.push_toArray, List.append_toArray, List.nil_append, List.cons_append]
 refine wpIn_wide.2 ?_
 go_wp2_with fail
 refine ⟨I6 12, by simp [results, Tryz.results93, go_sem], rfl, ((Kp.refl w none).alloc _).alloc _⟩
theorem scheck_many1 (r : Int) (n : Nat) (ao : Option Addr) (cap : Nat) (w : World) (h1 : ((n : Int) == 0) = false) (h2 : 40 < (n : Int)) :
  Calls Tryz.prog 93 #[.agg #[I6 1, .slice ao n cap, I6 r]] w fun E w' => E = .returned (I6 2) ∧ Kp w w' none := by
 refine (callsIn_wide (n := 6)).1 ?_
 refine callsIn_of_wp_marks Tryz.func93 rfl trivial ?_ rfl
 simp only [Tryz.ntmps93, List.size_toArray, List.length_cons, List.length_nil, Nat.reduceAdd, Nat.reduceSub, Array.replicate_succ, Array.replicate_zero, List.push_toArray, List.append_toArray, List.nil_append, List.cons_append]
 refine wpIn_wide.2 ?_
 go_wp2_with fail
 refine ⟨I6 2, by simp [results, Tryz.results93, go_sem], rfl, ((Kp.refl w none).alloc _).alloc _⟩
theorem scheck_many2 (r : Int) (n : Nat) (ao : Option Addr) (cap : Nat) (w : World) (h1 : ((n : Int) == 0) = false) (h2 : 40 < (n : Int)) (_h3 : 2 ≤ (n : Int)) :
  Calls Tryz.prog 93 #[.agg #[I6 2, .slice ao n cap, I6 r]] w fun E w' => E = .returned (I6 2) ∧ Kp w w' none := by
 refine (callsIn_wide (n := 6)).1 ?_
 refine callsIn_of_wp_marks Tryz.func93 rfl trivial ?_ rfl
 simp only [Tryz.ntmps93, List.size_toArray, List.length_cons, List.length_nil, Nat.reduceAdd, Nat.reduceSub, Array.replicate_succ, Array.replicate_zero, List.push_toArray, List.append_toArray, List.nil_append, List.cons_append]
 refine wpIn_wide.2 ?_
 go_wp2_with fail
 refine ⟨I6 2, by simp [results, Tryz.results93, go_sem], rfl, ((Kp.refl w none).alloc _).alloc _⟩
theorem scheck_main1 (r : Int) (es : List Pl.Ed) (n : Nat) (hn : es.length = n) (ao : Option Addr) (cap : Nat) (w : World) (hes : LiesAt 7 edC w ao cap es) (h0 : 1 ≤ n) (h40 : n ≤ 40) :
  Calls Tryz.prog 93 #[.agg #[I6 1, .slice ao n cap, I6 r]] w fun E w' => E = .returned (I6 (Pl.chk ⟨1, es, r⟩)) ∧ Kp w w' none := by
 have FE := oh hes; have HN := oh hn; have HCE : Hid (Pl.firstErr es ≠ 0 → Pl.chk ⟨1, es, r⟩ = Pl.firstErr es) := oh fun h => Pl.chk_err ⟨1, es, r⟩ (by simp) (by show 0 < es.length; omega) (fun h => absurd h (by show ¬ ((1 : Int) = 2); decide)) (by show es.length ≤ 40; omega) h
 have HCM : Hid (Pl.firstErr es = 0 → Pl.chk ⟨1, es, r⟩ = if ∀ p ∈ Pl.joints es false, Pl.Joined p then (if r < 0 ∨ 4194304 < r then 3 else 0) else 12) := oh fun h => Pl.chk_path es r (by omega) (by omega) h
 obtain ⟨fin, hfin⟩ : ∃ f, Pl.chk ⟨1, es, r⟩ = f := ⟨_, rfl⟩
 rw [hfin] at HCE HCM ⊢; clear hes hn hfin; have hn0 := nn n; have hn1 : ((n : Int) == 0) = false := by simp; omega
 have hn2 : 1 ≤ (n : Int) := by omega
 have hn3 : (n : Int) ≤ 40 := by omega
 have HX := oh (Bx.new 1 r n ao cap w 0)
 refine (callsIn_wide (n := 6)).1 ?_
 refine callsIn_of_wp_marks Tryz.func93 rfl trivial ?_ rfl
 simp only [Tryz.ntmps93, List.size_toArray, List.length_cons, List.length_nil, Nat.reduceAdd, Nat.reduceSub, Array.replicate_succ, Array.replicate_zero, List.push_toArray, List.append_toArray, List.nil_append, List.cons_append]
 refine wpIn_wide.2 ?_
 go_wp2_with fail
 generalize (w.alloc (.cells #[I6 1, .slice ao n cap, I6 r] 50)).alloc (.cells #[I6 0] 27) = X at *
 go_loopw [39] (fun i wr => ∃ j : Nat, j ≤ n ∧ i = I6 j ∧ Pl.firstErr es = Pl.firstErr (es.drop j) ∧ Bx 1 r n ao cap w 0 wr) (fun i _ => n - (intOf i).toNat)
 case atStart => exact ⟨0, Nat.zero_le _, rfl, rfl, HX.out⟩
 case round =>
  obtain ⟨j, hj, rfl, hfe, hbx⟩ := hrel; have HFE := oh hfe; have HB := oh hbx; obtain ⟨q0, q1, q2, q3, q4⟩ := hbx.cells; clear hfe hbx HX
  have hj0 := nn j
  by_cases hlt : j < n
  ·have hj1 : (j : Int) < (n : Int) := by omega
   obtain ⟨bo, off, rfl, hcap, hbo, hcells⟩ := FE.out.ed (k := j) (by have := HN.out; omega)
   have hc0 := hcells _ (Kp.of_below HB.out.below)
   have hcap2 : n ≤ cap := by have := HN.out; omega
   obtain ⟨e, hx⟩ : ∃ e, es[j]'(by have := HN.out; omega) = e := ⟨_, rfl⟩
   rw [hx] at hc0; have HDR : Hid (Pl.firstErr es = if Pl.chkE e = 0 then Pl.firstErr (es.drop (j + 1)) else Pl.chkE e) := oh (by rw [HFE.out, Pl.firstErr_drop es j (by have := HN.out; omega), hx])
   clear hcells hx hcap; obtain ⟨d0, d1, d2, d3, d4, d5, d6⟩ := hc0
   have hce := fun V => check_any e V
   unfold edV at hce
   obtain ⟨er, her⟩ : ∃ er, Pl.chkE e = er := ⟨_, rfl⟩
   rw [her] at HDR hce; have HEC := oh hce; clear her hce
   by_cases hz : er = 0
   ·have hz1 : (er == 0) = true := by simpa using hz
    have HD2 : Hid (Pl.firstErr es = Pl.firstErr (es.drop (j + 1))) := oh (by rw [HDR.out, if_pos hz])
    clear hz HDR; go_wp2_with fail
    refine (HEC.out _).mono ?_
    rintro E w2 ⟨rfl, k2⟩; have HB2 := oh ((HB.out.keep ((Kp.refl wr none).alloc _)).keep k2)
    clear k2; go_wp2_with fail
    go_roundw
    case rel => exact ⟨j + 1, hlt, by go_num, HD2.out, HB2.out⟩
    case measure => simp [intOf]; omega
   ·have hz1 : (er == 0) = false := by simpa using hz
    have HD2 : Hid (fin = er) := oh (by have h1 := HDR.out; rw [if_neg hz] at h1; rw [HCE.out (by rw [h1]; exact hz), h1])
    clear hz HDR; go_wp2_with fail
    refine (HEC.out _).mono ?_
    rintro E w2 ⟨rfl, k2⟩; have HB2 := oh ((HB.out.keep ((Kp.refl wr none).alloc _)).keep k2)
    clear k2; obtain ⟨y0, y1, y2, y3, y4⟩ := HB2.out.cells; go_wp2_with fail
    have hf := (HB2.out.set er).cells.2.2.2.1
    refine ⟨I6 er, by simp [results, Tryz.results93, go_sem, hf], by rw [HD2.out], Kp.of_below (HB2.out.set er).below⟩
  ·have hj1 : ¬ (j : Int) < (n : Int) := by omega
   have HFZ : Hid (Pl.firstErr es = 0) := oh (by rw [HFE.out, Pl.firstErr_end es j (by have := HN.out; omega)])
   have HCC := oh (HCM.out HFZ.out); clear HCM HCE HFE; go_wp2_with fail
   refine (joints_x _ ao n cap rfl false wr).mono ?_
   rintro E w3 ⟨rfl, hw3⟩; have hk3 : Kp wr w3 none := by rw [hw3]; exact ((Kp.refl wr none).alloc _).alloc _
   have b1 : w3.heap[wr.heap.size]? = some (.cells #[.slice ao n cap] 48 (0, 0)) := by rw [hw3]; exact (((Kp.refl _ none).alloc _).block _ (by simp) (by simp)).trans (heap_alloc_new wr _)
   have b2 : w3.heap[wr.heap.size + 1]? = some (.cells #[.bool false] 4 (0, 0)) := by rw [hw3]; have := heap_alloc_new (wr.alloc (.cells #[.slice ao n cap] 48)) (.cells #[.bool false] 4); simpa using this
   have hsz : w.heap.size + 2 ≤ w3.heap.size := by have := lt_of_block HB.out.res; have := hk3.size; omega
   have HB3 := oh (HB.out.keep hk3)
   have hl3 : LiesAt 7 edC w3 ao cap es := FE.out.keep (Kp.of_below HB3.out.below)
   clear hw3; go_wp2_with fail
   refine (wpIn_wide (n := 6)).1 ?_
   refine wpIn_rangeFunc_ownH (P := Tryz.prog) rfl (by omega) (gf := 177) (lb := #[.pointer (some ⟨wr.heap.size, 0, none⟩), .pointer (some ⟨wr.heap.size + 1, 0, none⟩)]) rfl trivial (enters_of Tryz.func177 (by kernel_rfl) rfl)
    (joints_iter 5 (by omega) es false ao cap w3 wr.heap.size (wr.heap.size + 1) (by rw [HN.out]; exact heap_box b1) (heap_box b2) hl3 (by have := HN.out; omega) (by have := HN.out; omega)) belowK_t (belowK_b (Nat.le_refl _)) (Below.refl _ _) (fun _ => rfl)
    (fun pre W => Bx 1 r n ao cap w 0 W ∧ (∀ p ∈ pre, Pl.Joined p) ∧ w3.heap.size ≤ W.heap.size) (fun c pre W => c = .ret ∧ Bx 1 r n ao cap w 12 W ∧ ¬ ∀ p ∈ pre, Pl.Joined p)
    (fun pre A B row h hg hr => ⟨h.1.from hg (fun i hi => (hr i hi).1) hsz, h.2.1, Nat.le_trans h.2.2 hg.size⟩) (fun c pre A B row h hg hr => ⟨h.1, h.2.1.from hg (fun i hi => (hr i hi).1) hsz, h.2.2⟩) ⟨HB3.out, (fun p hp => by cases hp), Nat.le_refl _⟩
    (fun x a' W => ∃ B1 B2, W.heap[B1]? = some (.cells (edV x.1) 123 (0, 0)) ∧ W.heap[B2]? = some (.cells (edV x.2) 123 (0, 0)) ∧ a' = { tmps := #[.agg #[I6 1, .slice ao n cap, I6 r], .pointer (some ⟨w.heap.size, 0, none⟩), .pointer (some ⟨w.heap.size + 1, 0, none⟩), .bool false, undef, u5, u6, .pointer (some ⟨B1, 0, none⟩), .pointer (some ⟨B2, 0, none⟩), .pointer (some ⟨w.heap.size, 0, none⟩), I6 1, .bool false, .bool false, .pointer (some ⟨w.heap.size, 0, none⟩), I6 1, .bool false, .bool false, undef, undef, .bool false, .pointer (some ⟨w.heap.size, 1, none⟩), .slice ao n cap, I6 n, .bool false, .bool false, .bool false, undef, undef, undef, undef, .bool false, .bool (decide ((40 : Int) < n)), .pointer (some ⟨w.heap.size, 1, none⟩), .slice ao n cap, I6 n, .bool (decide ((40 : Int) < n)), .pointer (some ⟨w.heap.size, 1, none⟩), .slice ao n cap, I6 n, I6 j, .bool false, u41, u42, u43, u44, u45, u46, u47, u48, .pointer (some ⟨w.heap.size, 1, none⟩), .slice ao n cap, .bool false, .func (.func 177) #[] #[.pointer (some ⟨wr.heap.size, 0, none⟩), .pointer (some ⟨wr.heap.size + 1, 0, none⟩)], .agg (edV x.1), .agg (edV x.2), undef, undef, undef, undef, undef, undef, undef, undef, undef, undef, undef, undef, undef, undef, undef, undef, undef, undef, undef, undef, undef], defers := [] })
    (fun x a' => by
     rintro _ A B row ⟨B1, B2, h1, h2, h3⟩ hg hr; refine ⟨B1, B2, (hg.block B1 (lt_of_block h1) ?_).trans h1, (hg.block B2 (lt_of_block h2) ?_).trans h2, h3⟩
     ·intro e2; obtain ⟨_, o, ho, hc⟩ := hr B1 e2.symm; rw [h1] at ho; injection ho with ho; subst ho; cases hc
     ·intro e2; obtain ⟨_, o, ho, hc⟩ := hr B2 e2.symm; rw [h2] at ho; injection ho with ho; subst ho; cases hc) ?assign ?body ?done ?stop
   case assign =>
    intro l pre x W K hI hK; obtain ⟨⟨xk, ⟨xax, xay⟩, ⟨xbx, xby⟩, ⟨xcx, xcy⟩⟩, ⟨yk, ⟨yax, yay⟩, ⟨ybx, yby⟩, ⟨ycx, ycy⟩⟩⟩ := x; unfold edV at hK
    dsimp only [encP, edV] at hK ⊢
    gi_wp2
    have hkk : Kp W ((W.alloc (.cells #[I6 xk, I6 xax, I6 xay, I6 xbx, I6 xby, I6 xcx, I6 xcy] 123)).alloc (.cells #[I6 yk, I6 yax, I6 yay, I6 ybx, I6 yby, I6 ycx, I6 ycy] 123)) none := ((Kp.refl W none).alloc _).alloc _
    refine hK _ _ (((KeepsOthers.alloc _ _).trans (KeepsOthers.alloc _ _)).from _) (hkk.below.mono hI.2.2) ⟨hI.1.keep hkk, hI.2.1, Nat.le_trans hI.2.2 hkk.size⟩ ⟨W.heap.size, W.heap.size + 1, ?_, ?_, rfl⟩
    ·exact (((Kp.refl _ none).alloc _).block _ (by simp) (by simp)).trans (heap_alloc_new W _)
    ·have := heap_alloc_new (W.alloc (.cells #[I6 xk, I6 xax, I6 xay, I6 xbx, I6 xby, I6 xcx, I6 xcy] 123)) (.cells #[I6 yk, I6 yax, I6 yay, I6 ybx, I6 yby, I6 ycx, I6 ycy] 123)
     simpa using this
   case body =>
    rintro l pre x a' W hl ⟨rr, hrr⟩ ⟨hbx, hpre, hszW⟩ ⟨B1, B2, h1, h2, rfl⟩ hlen; have HPRE : Hid (∀ p ∈ pre, Pl.Joined p) := oh hpre
    have HBX := oh hbx; obtain ⟨q0, q1, q2, q3, q4⟩ := hbx.cells; obtain ⟨⟨xk, ⟨xax, xay⟩, ⟨xbx, xby⟩, ⟨xcx, xcy⟩⟩, ⟨yk, ⟨yax, yay⟩, ⟨ybx, yby⟩, ⟨ycx, ycy⟩⟩⟩ := x
    dsimp only [edV] at h1 h2 ⊢
    have c3 : W.cell? ⟨B1, 3, none⟩ = some (I6 xbx) := Lib.cell_of_heap h1 3
    have c4 : W.cell? ⟨B1, 4, none⟩ = some (I6 xby) := Lib.cell_of_heap h1 4
    have d1 : W.cell? ⟨B2, 1, none⟩ = some (I6 yax) := Lib.cell_of_heap h2 1
    have d2 : W.cell? ⟨B2, 2, none⟩ = some (I6 yay) := Lib.cell_of_heap h2 2
    have HBS := oh (hbx.set 12)
    have HBEL : Hid (w3.heap.size ≤ W.heap.size) := oh (Nat.le_trans hl (Nat.le_of_lt (Array.getElem?_eq_some_iff.1 hrr).1))
    clear hbx hpre h1 h2 hrr
    by_cases e1 : xbx = yax
    ·by_cases e2 : xby = yay
     ·have HJ : Hid (∀ p ∈ pre ++ [((⟨xk, ⟨xax, xay⟩, ⟨xbx, xby⟩, ⟨xcx, xcy⟩⟩ : Pl.Ed), (⟨yk, ⟨yax, yay⟩, ⟨ybx, yby⟩, ⟨ycx, ycy⟩⟩ : Pl.Ed))], Pl.Joined p) := oh fun p hp => by
       rcases List.mem_append.1 hp with hp | hp
       ·exact HPRE.out p hp
       ·rw [List.mem_singleton.1 hp, e1, e2]; rfl
      have t1 : (xbx == yax) = true := by simpa using e1
      have t2 : (xby == yay) = true := by simpa using e2
      clear e1 e2
      gi_wp2
      exact ⟨(KeepsOthers.refl _).from _, Below.refl _ _, HBX.out, HJ.out, hszW⟩
     ·have HJ : Hid (¬ ∀ p ∈ pre ++ [((⟨xk, ⟨xax, xay⟩, ⟨xbx, xby⟩, ⟨xcx, xcy⟩⟩ : Pl.Ed), (⟨yk, ⟨yax, yay⟩, ⟨ybx, yby⟩, ⟨ycx, ycy⟩⟩ : Pl.Ed))], Pl.Joined p) := oh fun h => by
       have := h _ (List.mem_append_right pre (List.mem_singleton.2 rfl))
       unfold Pl.Joined at this
       simp at this
       exact e2 this.2
      have t1 : (xbx == yax) = true := by simpa using e1
      have t2 : (xby == yay) = false := by simpa using e2
      clear e1 e2
      gi_wp2
      exact ⟨(KeepsOthers.setCell _ _ _).from _, rfl, HBS.out, HJ.out⟩
    ·have HJ : Hid (¬ ∀ p ∈ pre ++ [((⟨xk, ⟨xax, xay⟩, ⟨xbx, xby⟩, ⟨xcx, xcy⟩⟩ : Pl.Ed), (⟨yk, ⟨yax, yay⟩, ⟨ybx, yby⟩, ⟨ycx, ycy⟩⟩ : Pl.Ed))], Pl.Joined p) := oh fun h => by
      have := h _ (List.mem_append_right pre (List.mem_singleton.2 rfl))
      unfold Pl.Joined at this
      simp at this
      exact e1 this.1
     have t1 : (xbx == yax) = false := by simpa using e1
     clear e1
     gi_wp2
     exact ⟨(KeepsOthers.setCell _ _ _).from _, rfl, HBS.out, HJ.out⟩
   case done =>
    rintro D xs W hD rfl ⟨hbx, hall, _⟩ hK; have HFIN : Hid (fin = if r < 0 ∨ 4194304 < r then 3 else 0) := oh (by rw [HCC.out, if_pos hall])
    have HBX := oh hbx; have HKD := oh hK; obtain ⟨q0, q1, q2, q3, q4⟩ := hbx.cells; clear hbx hK hall
    by_cases hr0 : r < 0
    ·skip
     have HV : Hid (fin = 3) := oh (by rw [HFIN.out, if_pos (.inl hr0)])
     clear HFIN; go_wp2_with fail
     have hK2 := (KeepsOthers.setCell W ⟨w.heap.size + 1, 0, none⟩ (I6 3)).same D _ HKD.out rfl
     refine ⟨by simp, .inl ⟨_, _, rfl, run_takeDeferred hK2, ?_⟩⟩
     have hb := (HBX.out.set 3).from (B := w3.heap.size) (grownBy_putObj' (W.setCell ⟨w.heap.size + 1, 0, none⟩ (I6 3)) D (.deferred none)) (fun i e => by injection e with e; omega) hsz
     have hc := hb.cells.2.2.2.1
     exact ⟨I6 3, by simp [results, Tryz.results93, go_sem, hc], by rw [HV.out], Kp.of_below hb.below⟩
    ·by_cases hr1 : 4194304 < r
     ·skip
      have HV : Hid (fin = 3) := oh (by rw [HFIN.out, if_pos (.inr hr1)])
      clear HFIN; go_wp2_with fail
      have hK2 := (KeepsOthers.setCell W ⟨w.heap.size + 1, 0, none⟩ (I6 3)).same D _ HKD.out rfl
      refine ⟨by simp, .inl ⟨_, _, rfl, run_takeDeferred hK2, ?_⟩⟩
      have hb := (HBX.out.set 3).from (B := w3.heap.size) (grownBy_putObj' (W.setCell ⟨w.heap.size + 1, 0, none⟩ (I6 3)) D (.deferred none)) (fun i e => by injection e with e; omega) hsz
      have hc := hb.cells.2.2.2.1
      exact ⟨I6 3, by simp [results, Tryz.results93, go_sem, hc], by rw [HV.out], Kp.of_below hb.below⟩
     ·skip
      have HV : Hid (fin = 0) := oh (by rw [HFIN.out, if_neg (by omega)])
      clear HFIN; go_wp2_with fail
      have hK2 := (KeepsOthers.setCell W ⟨w.heap.size + 1, 0, none⟩ (I6 0)).same D _ HKD.out rfl
      refine ⟨by simp, .inl ⟨_, _, rfl, run_takeDeferred hK2, ?_⟩⟩
      have hb := (HBX.out.set 0).from (B := w3.heap.size) (grownBy_putObj' (W.setCell ⟨w.heap.size + 1, 0, none⟩ (I6 0)) D (.deferred none)) (fun i e => by injection e with e; omega) hsz
      have hc := hb.cells.2.2.2.1
      exact ⟨I6 0, by simp [results, Tryz.results93, go_sem, hc], by rw [HV.out], Kp.of_below hb.below⟩
   case stop =>
    rintro D c pre W hD hSp ⟨rfl, hbx, hne⟩ hK; have HFIN : Hid (fin = 12) := oh (by rw [HCC.out, if_neg (fun h => hne fun p hp => h p (hSp p hp))])
    have HBX := oh hbx; have HKD := oh hK
    gi_wp2
    refine ⟨by simp, .inl ⟨_, _, rfl, run_takeDeferred HKD.out, ?_⟩⟩
    have hb := HBX.out.from (B := w3.heap.size) (grownBy_putObj' W D (.deferred none)) (fun i e => by injection e with e; omega) hsz
    have hc := hb.cells.2.2.2.1
    exact ⟨I6 12, by simp [results, Tryz.results93, go_sem, hc], by rw [HFIN.out], Kp.of_below hb.below⟩
theorem scheck_main2 (r : Int) (es : List Pl.Ed) (n : Nat) (hn : es.length = n) (ao : Option Addr) (cap : Nat) (w : World) (hes : LiesAt 7 edC w ao cap es) (h0 : 2 ≤ n) (h40 : n ≤ 40) :
  Calls Tryz.prog 93 #[.agg #[I6 2, .slice ao n cap, I6 r]] w fun E w' => E = .returned (I6 (Pl.chk ⟨2, es, r⟩)) ∧ Kp w w' none := by
 have FE := oh hes; have HN := oh hn; have HCE : Hid (Pl.firstErr es ≠ 0 → Pl.chk ⟨2, es, r⟩ = Pl.firstErr es) := oh fun h => Pl.chk_err ⟨2, es, r⟩ (by simp) (by show 0 < es.length; omega) (fun _ => by show 2 ≤ es.length; omega) (by show es.length ≤ 40; omega) h
 have HCM : Hid (Pl.firstErr es = 0 → Pl.chk ⟨2, es, r⟩ = if ∀ p ∈ Pl.joints es true, Pl.Joined p then (if r ≠ 0 ∨ r < 0 ∨ 4194304 < r then 3 else 0) else 12) := oh fun h => Pl.chk_area es r (by omega) (by omega) h
 obtain ⟨fin, hfin⟩ : ∃ f, Pl.chk ⟨2, es, r⟩ = f := ⟨_, rfl⟩
 rw [hfin] at HCE HCM ⊢; clear hes hn hfin; have hn0 := nn n; have hn1 : ((n : Int) == 0) = false := by simp; omega
 have hn2 : 2 ≤ (n : Int) := by omega
 have hn3 : (n : Int) ≤ 40 := by omega
 have HX := oh (Bx.new 2 r n ao cap w 0)
 refine (callsIn_wide (n := 6)).1 ?_
 refine callsIn_of_wp_marks Tryz.func93 rfl trivial ?_ rfl
 simp only [Tryz.ntmps93, List.size_toArray, List.length_cons, List.length_nil, Nat.reduceAdd, Nat.reduceSub, Array.replicate_succ, Array.replicate_zero, List.push_toArray, List.append_toArray, List.nil_append, List.cons_append]
 refine wpIn_wide.2 ?_
 go_wp2_with fail
 generalize (w.alloc (.cells #[I6 2, .slice ao n cap, I6 r] 50)).alloc (.cells #[I6 0] 27) = X at *
 go_loopw [39] (fun i wr => ∃ j : Nat, j ≤ n ∧ i = I6 j ∧ Pl.firstErr es = Pl.firstErr (es.drop j) ∧ Bx 2 r n ao cap w 0 wr) (fun i _ => n - (intOf i).toNat)
 case atStart => exact ⟨0, Nat.zero_le _, rfl, rfl, HX.out⟩
 case round =>
  obtain ⟨j, hj, rfl, hfe, hbx⟩ := hrel; have HFE := oh hfe; have HB := oh hbx; obtain ⟨q0, q1, q2, q3, q4⟩ := hbx.cells; clear hfe hbx HX
  have hj0 := nn j
  by_cases hlt : j < n
  ·have hj1 : (j : Int) < (n : Int) := by omega
   obtain ⟨bo, off, rfl, hcap, hbo, hcells⟩ := FE.out.ed (k := j) (by have := HN.out; omega)
   have hc0 := hcells _ (Kp.of_below HB.out.below)
   have hcap2 : n ≤ cap := by have := HN.out; omega
   obtain ⟨e, hx⟩ : ∃ e, es[j]'(by have := HN.out; omega) = e := ⟨_, rfl⟩
   rw [hx] at hc0; have HDR : Hid (Pl.firstErr es = if Pl.chkE e = 0 then Pl.firstErr (es.drop (j + 1)) else Pl.chkE e) := oh (by rw [HFE.out, Pl.firstErr_drop es j (by have := HN.out; omega), hx])
   clear hcells hx hcap; obtain ⟨d0, d1, d2, d3, d4, d5, d6⟩ := hc0
   have hce := fun V => check_any e V
   unfold edV at hce
   obtain ⟨er, her⟩ : ∃ er, Pl.chkE e = er := ⟨_, rfl⟩
   rw [her] at HDR hce; have HEC := oh hce; clear her hce
   by_cases hz : er = 0
   ·have hz1 : (er == 0) = true := by simpa using hz
    have HD2 : Hid (Pl.firstErr es = Pl.firstErr (es.drop (j + 1))) := oh (by rw [HDR.out, if_pos hz])
    clear hz HDR; go_wp2_with fail
    refine (HEC.out _).mono ?_
    rintro E w2 ⟨rfl, k2⟩; have HB2 := oh ((HB.out.keep ((Kp.refl wr none).alloc _)).keep k2)
    clear k2; go_wp2_with fail
    go_roundw
    case rel => exact ⟨j + 1, hlt, by go_num, HD2.out, HB2.out⟩
    case measure => simp [intOf]; omega
   ·have hz1 : (er == 0) = false := by simpa using hz
    have HD2 : Hid (fin = er) := oh (by have h1 := HDR.out; rw [if_neg hz] at h1; rw [HCE.out (by rw [h1]; exact hz), h1])
    clear hz HDR; go_wp2_with fail
    refine (HEC.out _).mono ?_
    rintro E w2 ⟨rfl, k2⟩; have HB2 := oh ((HB.out.keep ((Kp.refl wr none).alloc _)).keep k2)
    clear k2; obtain ⟨y0, y1, y2, y3, y4⟩ := HB2.out.cells; go_wp2_with fail
    have hf := (HB2.out.set er).cells.2.2.2.1
    refine ⟨I6 er, by simp [results, Tryz.results93, go_sem, hf], by rw [HD2.out], Kp.of_below (HB2.out.set er).below⟩
  ·have hj1 : ¬ (j : Int) < (n : Int) := by omega
   have HFZ : Hid (Pl.firstErr es = 0) := oh (by rw [HFE.out, Pl.firstErr_end es j (by have := HN.out; omega)])
   have HCC := oh (HCM.out HFZ.out); clear HCM HCE HFE; go_wp2_with fail
   refine (joints_x _ ao n cap rfl true wr).mono ?_
   rintro E w3 ⟨rfl, hw3⟩; have hk3 : Kp wr w3 none := by rw [hw3]; exact ((Kp.refl wr none).alloc _).alloc _
   have b1 : w3.heap[wr.heap.size]? = some (.cells #[.slice ao n cap] 48 (0, 0)) := by rw [hw3]; exact (((Kp.refl _ none).alloc _).block _ (by simp) (by simp)).trans (heap_alloc_new wr _)
   have b2 : w3.heap[wr.heap.size + 1]? = some (.cells #[.bool true] 4 (0, 0)) := by rw [hw3]; have := heap_alloc_new (wr.alloc (.cells #[.slice ao n cap] 48)) (.cells #[.bool true] 4); simpa using this
   have hsz : w.heap.size + 2 ≤ w3.heap.size := by have := lt_of_block HB.out.res; have := hk3.size; omega
   have HB3 := oh (HB.out.keep hk3)
   have hl3 : LiesAt 7 edC w3 ao cap es := FE.out.keep (Kp.of_below HB3.out.below)
   clear hw3; go_wp2_with fail
   refine (wpIn_wide (n := 6)).1 ?_
   refine wpIn_rangeFunc_ownH (P := Tryz.prog) rfl (by omega) (gf := 177) (lb := #[.pointer (some ⟨wr.heap.size, 0, none⟩), .pointer (some ⟨wr.heap.size + 1, 0, none⟩)]) rfl trivial (enters_of Tryz.func177 (by kernel_rfl) rfl)
    (joints_iter 5 (by omega) es true ao cap w3 wr.heap.size (wr.heap.size + 1) (by rw [HN.out]; exact heap_box b1) (heap_box b2) hl3 (by have := HN.out; omega) (by have := HN.out; omega)) belowK_t (belowK_b (Nat.le_refl _)) (Below.refl _ _) (fun _ => rfl)
    (fun pre W => Bx 2 r n ao cap w 0 W ∧ (∀ p ∈ pre, Pl.Joined p) ∧ w3.heap.size ≤ W.heap.size) (fun c pre W => c = .ret ∧ Bx 2 r n ao cap w 12 W ∧ ¬ ∀ p ∈ pre, Pl.Joined p)
    (fun pre A B row h hg hr => ⟨h.1.from hg (fun i hi => (hr i hi).1) hsz, h.2.1, Nat.le_trans h.2.2 hg.size⟩) (fun c pre A B row h hg hr => ⟨h.1, h.2.1.from hg (fun i hi => (hr i hi).1) hsz, h.2.2⟩) ⟨HB3.out, (fun p hp => by cases hp), Nat.le_refl _⟩
    (fun x a' W => ∃ B1 B2, W.heap[B1]? = some (.cells (edV x.1) 123 (0, 0)) ∧ W.heap[B2]? = some (.cells (edV x.2) 123 (0, 0)) ∧ a' = { tmps := #[.agg #[I6 2, .slice ao n cap, I6 r], .pointer (some ⟨w.heap.size, 0, none⟩), .pointer (some ⟨w.heap.size + 1, 0, none⟩), .bool true, undef, u5, u6, .pointer (some ⟨B1, 0, none⟩), .pointer (some ⟨B2, 0, none⟩), .pointer (some ⟨w.heap.size, 0, none⟩), I6 2, .bool true, .bool (decide ((n : Int) < 2)), .pointer (some ⟨w.heap.size, 0, none⟩), I6 2, .bool true, .bool true, .bool true, .bool false, .bool false, .pointer (some ⟨w.heap.size, 1, none⟩), .slice ao n cap, I6 n, .bool false, .bool true, .bool true, .pointer (some ⟨w.heap.size, 1, none⟩), .slice ao n cap, I6 n, .bool (decide ((n : Int) < 2)), .bool (decide ((n : Int) < 2)), .bool (decide ((40 : Int) < n)), .pointer (some ⟨w.heap.size, 1, none⟩), .slice ao n cap, I6 n, .bool (decide ((40 : Int) < n)), .pointer (some ⟨w.heap.size, 1, none⟩), .slice ao n cap, I6 n, I6 j, .bool false, u41, u42, u43, u44, u45, u46, u47, u48, .pointer (some ⟨w.heap.size, 1, none⟩), .slice ao n cap, .bool true, .func (.func 177) #[] #[.pointer (some ⟨wr.heap.size, 0, none⟩), .pointer (some ⟨wr.heap.size + 1, 0, none⟩)], .agg (edV x.1), .agg (edV x.2), undef, undef, undef, undef, undef, undef, undef, undef, undef, undef, undef, undef, undef, undef, undef, undef, undef, undef, undef, undef, undef], defers := [] })
    (fun x a' => by
     rintro _ A B row ⟨B1, B2, h1, h2, h3⟩ hg hr; refine ⟨B1, B2, (hg.block B1 (lt_of_block h1) ?_).trans h1, (hg.block B2 (lt_of_block h2) ?_).trans h2, h3⟩
     ·intro e2; obtain ⟨_, o, ho, hc⟩ := hr B1 e2.symm; rw [h1] at ho; injection ho with ho; subst ho; cases hc
     ·intro e2; obtain ⟨_, o, ho, hc⟩ := hr B2 e2.symm; rw [h2] at ho; injection ho with ho; subst ho; cases hc) ?assign ?body ?done ?stop
   case assign =>
    intro l pre x W K hI hK; obtain ⟨⟨xk, ⟨xax, xay⟩, ⟨xbx, xby⟩, ⟨xcx, xcy⟩⟩, ⟨yk, ⟨yax, yay⟩, ⟨ybx, yby⟩, ⟨ycx, ycy⟩⟩⟩ := x; unfold edV at hK
    dsimp only [encP, edV] at hK ⊢
    gi_wp2
    have hkk : Kp W ((W.alloc (.cells #[I6 xk, I6 xax, I6 xay, I6 xbx, I6 xby, I6 xcx, I6 xcy] 123)).alloc (.cells #[I6 yk, I6 yax, I6 yay, I6 ybx, I6 yby, I6 ycx, I6 ycy] 123)) none := ((Kp.refl W none).alloc _).alloc _
    refine hK _ _ (((KeepsOthers.alloc _ _).trans (KeepsOthers.alloc _ _)).from _) (hkk.below.mono hI.2.2) ⟨hI.1.keep hkk, hI.2.1, Nat.le_trans hI.2.2 hkk.size⟩ ⟨W.heap.size, W.heap.size + 1, ?_, ?_, rfl⟩
    ·exact (((Kp.refl _ none).alloc _).block _ (by simp) (by simp)).trans (heap_alloc_new W _)
    ·have := heap_alloc_new (W.alloc (.cells #[I6 xk, I6 xax, I6 xay, I6 xbx, I6 xby, I6 xcx, I6 xcy] 123)) (.cells #[I6 yk, I6 yax, I6 yay, I6 ybx, I6 yby, I6 ycx, I6 ycy] 123)
     simpa using this
   case body =>
    rintro l pre x a' W hl ⟨rr, hrr⟩ ⟨hbx, hpre, hszW⟩ ⟨B1, B2, h1, h2, rfl⟩ hlen; have HPRE : Hid (∀ p ∈ pre, Pl.Joined p) := oh hpre
    have HBX := oh hbx; obtain ⟨q0, q1, q2, q3, q4⟩ := hbx.cells; obtain ⟨⟨xk, ⟨xax, xay⟩, ⟨xbx, xby⟩, ⟨xcx, xcy⟩⟩, ⟨yk, ⟨yax, yay⟩, ⟨ybx, yby⟩, ⟨ycx, ycy⟩⟩⟩ := x
    dsimp only [edV] at h1 h2 ⊢
    have c3 : W.cell? ⟨B1, 3, none⟩ = some (I6 xbx) := Lib.cell_of_heap h1 3
    have c4 : W.cell? ⟨B1, 4, none⟩ = some (I6 xby) := Lib.cell_of_heap h1 4
    have d1 : W.cell? ⟨B2, 1, none⟩ = some (I6 yax) := Lib.cell_of_heap h2 1
    have d2 : W.cell? ⟨B2, 2, none⟩ = some (I6 yay) := Lib.cell_of_heap h2 2
    have HBS := oh (hbx.set 12)
    have HBEL : Hid (w3.heap.size ≤ W.heap.size) := oh (Nat.le_trans hl (Nat.le_of_lt (Array.getElem?_eq_some_iff.1 hrr).1))
    clear hbx hpre h1 h2 hrr
    by_cases e1 : xbx = yax
    ·by_cases e2 : xby = yay
     ·have HJ : Hid (∀ p ∈ pre ++ [((⟨xk, ⟨xax, xay⟩, ⟨xbx, xby⟩, ⟨xcx, xcy⟩⟩ : Pl.Ed), (⟨yk, ⟨yax, yay⟩, ⟨ybx, yby⟩, ⟨ycx, ycy⟩⟩ : Pl.Ed))], Pl.Joined p) := oh fun p hp => by
       rcases List.mem_append.1 hp with hp | hp
       ·exact HPRE.out p hp
       ·rw [List.mem_singleton.1 hp, e1, e2]; rfl
      have t1 : (xbx == yax) = true := by simpa using e1
      have t2 : (xby == yay) = true := by simpa using e2
      clear e1 e2
      gi_wp2
      exact ⟨(KeepsOthers.refl _).from _, Below.refl _ _, HBX.out, HJ.out, hszW⟩
     ·have HJ : Hid (¬ ∀ p ∈ pre ++ [((⟨xk, ⟨xax, xay⟩, ⟨xbx, xby⟩, ⟨xcx, xcy⟩⟩ : Pl.Ed), (⟨yk, ⟨yax, yay⟩, ⟨ybx, yby⟩, ⟨ycx, ycy⟩⟩ : Pl.Ed))], Pl.Joined p) := oh fun h => by
       have := h _ (List.mem_append_right pre (List.mem_singleton.2 rfl))
       unfold Pl.Joined at this
       simp at this
       exact e2 this.2
      have t1 : (xbx == yax) = true := by simpa using e1
      have t2 : (xby == yay) = false := by simpa using e2
      clear e1 e2
      gi_wp2
      exact ⟨(KeepsOthers.setCell _ _ _).from _, rfl, HBS.out, HJ.out⟩
    ·have HJ : Hid (¬ ∀ p ∈ pre ++ [((⟨xk, ⟨xax, xay⟩, ⟨xbx, xby⟩, ⟨xcx, xcy⟩⟩ : Pl.Ed), (⟨yk, ⟨yax, yay⟩, ⟨ybx, yby⟩, ⟨ycx, ycy⟩⟩ : Pl.Ed))], Pl.Joined p) := oh fun h => by
      have := h _ (List.mem_append_right pre (List.mem_singleton.2 rfl))
      unfold Pl.Joined at this
      simp at this
      exact e1 this.1
     have t1 : (xbx == yax) = false := by simpa using e1
     clear e1
     gi_wp2
     exact ⟨(KeepsOthers.setCell _ _ _).from _, rfl, HBS.out, HJ.out⟩
   case done =>
    rintro D xs W hD rfl ⟨hbx, hall, _⟩ hK; have HFIN : Hid (fin = if r ≠ 0 ∨ r < 0 ∨ 4194304 < r then 3 else 0) := oh (by rw [HCC.out, if_pos hall])
    have HBX := oh hbx; have HKD := oh hK; obtain ⟨q0, q1, q2, q3, q4⟩ := hbx.cells; clear hbx hK hall
    by_cases hr0 : r = 0
    ·subst hr0; have HV : Hid (fin = 0) := oh (by rw [HFIN.out, if_neg (by omega)])
     clear HFIN; go_wp2_with fail
     have hK2 := (KeepsOthers.setCell W ⟨w.heap.size + 1, 0, none⟩ (I6 0)).same D _ HKD.out rfl
     refine ⟨by simp, .inl ⟨_, _, rfl, run_takeDeferred hK2, ?_⟩⟩
     have hb := (HBX.out.set 0).from (B := w3.heap.size) (grownBy_putObj' (W.setCell ⟨w.heap.size + 1, 0, none⟩ (I6 0)) D (.deferred none)) (fun i e => by injection e with e; omega) hsz
     have hc := hb.cells.2.2.2.1
     exact ⟨I6 0, by simp [results, Tryz.results93, go_sem, hc], by rw [HV.out], Kp.of_below hb.below⟩
    ·have hr1 : (r == 0) = false := by simpa using hr0
     have HV : Hid (fin = 3) := oh (by rw [HFIN.out, if_pos (.inl hr0)])
     clear HFIN; go_wp2_with fail
     have hK2 := (KeepsOthers.setCell W ⟨w.heap.size + 1, 0, none⟩ (I6 3)).same D _ HKD.out rfl
     refine ⟨by simp, .inl ⟨_, _, rfl, run_takeDeferred hK2, ?_⟩⟩
     have hb := (HBX.out.set 3).from (B := w3.heap.size) (grownBy_putObj' (W.setCell ⟨w.heap.size + 1, 0, none⟩ (I6 3)) D (.deferred none)) (fun i e => by injection e with e; omega) hsz
     have hc := hb.cells.2.2.2.1
     exact ⟨I6 3, by simp [results, Tryz.results93, go_sem, hc], by rw [HV.out], Kp.of_below hb.below⟩
   case stop =>
    rintro D c pre W hD hSp ⟨rfl, hbx, hne⟩ hK; have HFIN : Hid (fin = 12) := oh (by rw [HCC.out, if_neg (fun h => hne fun p hp => h p (hSp p hp))])
    have HBX := oh hbx; have HKD := oh hK
    gi_wp2
    refine ⟨by simp, .inl ⟨_, _, rfl, run_takeDeferred HKD.out, ?_⟩⟩
    have hb := HBX.out.from (B := w3.heap.size) (grownBy_putObj' W D (.deferred none)) (fun i e => by injection e with e; omega) hsz
    have hc := hb.cells.2.2.2.1
    exact ⟨I6 12, by simp [results, Tryz.results93, go_sem, hc], by rw [HFIN.out], Kp.of_below hb.below⟩
end Go.Proofs.YtljjbdbgedmadaaGreatDoor
namespace Go.Proofs.YtljjbdbgedmadaaGreatDoor
open Go.RowKit
theorem scheck_any (s : Pl.Sh) (n : Nat) (hn : s.es.length = n) (ao : Option Addr) (cap : Nat) (w : World) (hes : LiesAt 7 edC w ao cap s.es) :
  Calls Tryz.prog 93 #[.agg #[I6 s.k, .slice ao n cap, I6 s.r]] w fun E w' => E = .returned (I6 (Pl.chk s)) ∧ Kp w w' none := by
 obtain ⟨k, es, r⟩ := s
 dsimp only at hn hes ⊢
 by_cases h1 : k = 1
 ·subst h1
  by_cases h2 : n = 0
  ·rw [Pl.chk_few ⟨1, es, r⟩ (.inr (.inl (by show es.length = 0; omega)))]
   exact scheck_none1 r n ao cap w (by simp; omega)
  ·by_cases h3 : 40 < n
   ·rw [Pl.chk_many ⟨1, es, r⟩ (.inl rfl) (by show 40 < es.length; omega)]
    exact scheck_many1 r n ao cap w (by simp; omega) (by omega)
   ·exact scheck_main1 r es n hn ao cap w hes (by omega) (by omega)
 ·by_cases h2 : k = 2
  ·subst h2
   by_cases h3 : n = 0
   ·rw [Pl.chk_few ⟨2, es, r⟩ (.inr (.inl (by show es.length = 0; omega)))]
    exact scheck_none2 r n ao cap w (by simp; omega)
   ·by_cases h4 : n < 2
    ·rw [Pl.chk_few ⟨2, es, r⟩ (.inr (.inr ⟨rfl, by show es.length < 2; omega⟩))]
     exact scheck_one2 r n ao cap w (by simp; omega) (by omega)
    ·by_cases h5 : 40 < n
     ·rw [show Pl.chk ⟨2, es, r⟩ = 2 by unfold Pl.chk; rw [if_neg (by show ¬ _; dsimp only; omega), if_pos (by show 40 < es.length; omega)]]
      exact scheck_many2 r n ao cap w (by simp; omega) (by omega) (by omega)
     ·exact scheck_main2 r es n hn ao cap w hes (by omega) (by omega)
  ·rw [Pl.chk_few ⟨k, es, r⟩ (.inl ⟨h1, h2⟩)]; exact scheck_kind k r n ao cap w (by simpa using h1) (by simpa using h2)
end Go.Proofs.YtljjbdbgedmadaaGreatDoor
