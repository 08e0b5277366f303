/- What a call owns stays owned behind the library's Sort and Compact at integers; Index at integers. Condition: what each contract asks.
  The program's test of a hole. Condition: none but the model's bounds. -/
import Derived.Test.YtljjbdbgedmadaaGreatDoorSq
import Derived.Test.YtljjbdbgedmadaaGreatDoorPt
import Derived.Test.YtljjbdbgedmadaaGreatDoorHs
import Derived.Test.YtljjbdbgedmadaaGreatDoorCs
set_option maxHeartbeats 4000000
set_option maxRecDepth 100000
namespace Go.Proofs.YtljjbdbgedmadaaGreatDoor
open Go.RowKit Go.Sort
section
variable {α : Type} [Inhabited α] (enc : α → Value)
theorem heap_put {w : World} {g n : Nat} {os : Array Obj} {cur : Array Value} {e : TypeId} {fr : Nat × Nat} (d : Array α) (hb : w.heap[g]? = some (.cells cur e fr)) :
  (grow (putRow enc (Sort.ahead w n) g 0 d) os).heap[g]? = some (.cells (putCells enc 0 d cur) e fr) := by
 have hg : g < w.heap.size := (Array.getElem?_eq_some_iff.1 hb).1
 rw [heap_grow_old _ _ (by simpa using hg)]; simp [putRow, mapBlock, Sort.ahead, Array.getElem?_modify, hb, onCells]
theorem grownBy_put {w : World} {g n : Nat} {os : Array Obj} (d : Array α) : w.grownBy (grow (putRow enc (Sort.ahead w n) g 0 d) os) (some g) := by
 refine ⟨rfl, rfl, rfl, by simp, fun k hk hne => ?_⟩
 rw [heap_grow_old _ _ (by simpa using hk)]; have : g ≠ k := fun e => hne (by rw [e])
 simp [putRow, mapBlock, Sort.ahead, Array.getElem?_modify, this]
theorem take_put (cur : Array Value) (d : Array α) (h : d.size ≤ cur.size) : (putCells enc 0 d cur).toList.take d.size = d.toList.map enc := by
 apply List.ext_getElem?
 intro j
 by_cases hj : j < d.size
 ·rw [List.getElem?_take_of_lt hj, Array.getElem?_toList]; simp [putCells, hj, show j < cur.size by omega]
 ·rw [List.getElem?_take_eq_none (by omega), List.getElem?_eq_none (by simp; omega)]
theorem own_put {w : World} {base g cap n size : Nat} {e : TypeId} {os : Array Obj} {xs : List Value} {m : Nat} (h : w.ownsRow base e size (.slice (some ⟨g, 0, none⟩) n cap) n xs) (d : Array α) (hd : d.size = n * size) :
  (grow (putRow enc (Sort.ahead w m) g 0 d) os).ownsRow base e size (.slice (some ⟨g, 0, none⟩) n cap) n (d.toList.map enc) := by
 refine ⟨by simp [hd], ?_⟩
 rcases h.2 with ⟨h', _⟩ | ⟨g', cap', cur, h', hb, hg, hnc, hcm, hcs, _⟩
 ·simp at h'
 ·simp only [Value.slice.injEq, Option.some.injEq, Addr.mk.injEq, and_true, true_and] at h'
  obtain ⟨rfl, rfl⟩ := h'
  have hle : n * size ≤ cap * size := Nat.mul_le_mul_right _ hnc
  exact .inr ⟨g, cap, _, rfl, hb, heap_put enc d hg, hnc, hcm, by simp [putCells, hcs], by rw [← hd]; exact take_put enc cur d (by omega)⟩
theorem own_holds {w : World} {base g cap n size : Nat} {e : TypeId} {xs : List Value} (h : w.ownsRow base e size (.slice (some ⟨g, 0, none⟩) n cap) n xs) (d : Array α) (hd : d.toList.map enc = xs) : Holds enc w g 0 d := by
 intro j hj; have hlen : xs.length = n * size := h.1
 have hj2 : j < n * size := by rw [← hlen, ← hd]; simpa using hj
 refine ⟨?_, by rw [Nat.zero_add]; exact h.frozenAt j⟩
 rw [Nat.zero_add, h.cellAt j hj2, ← hd]; simp [hj]
end
/-! ### Sort at integers -/
theorem sortInts_own {w : World} {base : Nat} {v : Value} {xs : List Int} (h : w.ownsRow base 3 1 v xs.length (xs.flatMap intVal)) (hsz : xs.length < 4611686018427387904) :
  Calls Tryz.prog 43 #[v] w fun E w' => E = .returned (.tuple #[]) ∧ w'.ownsRow base 3 1 v (xs.mergeSort fun x y => decide (x ≤ y)).length ((xs.mergeSort fun x y => decide (x ≤ y)).flatMap intVal) ∧ Kp w w' v.ownBlock := by
 have hflat : ∀ l : List Int, l.flatMap intVal = l.map (Value.int .i64) := fun l => by
  induction l with
  | nil => rfl
  | cons a l ih => rw [List.flatMap_cons, List.map_cons, ih]; rfl
 rcases h.2 with ⟨rfl, h0⟩ | ⟨g, cap, cur, rfl, _, hg, _⟩
 ·have hx : xs = [] := List.length_eq_zero_iff.1 h0
  subst hx; refine (Tryz.slices_Sort_int_none none 0 w).mono ?_
  rintro E w' ⟨rfl, rfl⟩; exact ⟨rfl, by simpa using h, (Kp.refl _ _)⟩
 ·rw [hflat] at h; have hH := own_holds (Value.int .i64) h xs.toArray rfl
  refine (Tryz.slices_Sort_int g 0 cap xs w hH (lt_of_block hg) hsz).mono ?_
  rintro E w' ⟨rfl, n, os, rfl⟩; have hl : (xs.mergeSort fun x y => decide (x ≤ y)).length = xs.length := List.length_mergeSort _
  refine ⟨rfl, ?_, grownBy_put (Value.int .i64) _⟩
  rw [hflat, hl]; exact own_put (Value.int .i64) h _ (by simp)
theorem compactInts_own {w : World} {base : Nat} {v : Value} {xs : List Int} (h : w.ownsRow base 3 1 v xs.length (xs.flatMap intVal)) (hsz : xs.length ≤ 1000000000) (hcl : (Lib.compact xs).length ≤ xs.length) :
  Calls Tryz.prog 44 #[v] w fun E w' => ∃ ao cap, E = .returned (.slice ao (Lib.compact xs).length cap) ∧ Kp w w' v.ownBlock ∧ (0 < (Lib.compact xs).length → ∃ g cur, ao = some ⟨g, 0, none⟩ ∧ base ≤ g ∧ (Lib.compact xs).length ≤ cap ∧ w'.heap[g]? = some (.cells cur 3 (0, 0)) ∧ ∀ k, (hk : k < (Lib.compact xs).length) → cur[k]? = some (I6 (Lib.compact xs)[k])) := by
 have hflat : ∀ l : List Int, l.flatMap intVal = l.map (Value.int .i64) := fun l => by
  induction l with
  | nil => rfl
  | cons a l ih => rw [List.flatMap_cons, List.map_cons, ih]; rfl
 rcases h.2 with ⟨rfl, h0⟩ | ⟨g, cap, cur, rfl, hbase, hg, hnc, hcm, hcs, htake⟩
 ·have hx : xs = [] := List.length_eq_zero_iff.1 h0
  subst hx; refine (Tryz.slices_Compact_int_empty none 0 w).mono ?_
  rintro E w' ⟨rfl, rfl⟩; exact ⟨none, 0, rfl, Kp.refl _ _, fun h => absurd h (by have := hcl; rw [List.length_nil] at this; omega)⟩
 ·rw [hflat] at h; have hH := own_holds (Value.int .i64) h xs.toArray rfl
  refine (Tryz.slices_Compact_int g 0 cap xs w hH (by omega) hnc).mono ?_
  rintro E w' ⟨rfl, q, rfl⟩; have hd : (Lib.compact xs ++ List.replicate (xs.length - (Lib.compact xs).length) (0 : Int)).toArray.size = xs.length := by simp; omega
  have e0 : putRow (Value.int .i64) (Sort.ahead w q) g 0 (Lib.compact xs ++ List.replicate (xs.length - (Lib.compact xs).length) 0).toArray = grow (putRow (Value.int .i64) (Sort.ahead w q) g 0 (Lib.compact xs ++ List.replicate (xs.length - (Lib.compact xs).length) 0).toArray) #[] := by
   unfold grow; rw [Array.append_empty]
  rw [e0]; refine ⟨some ⟨g, 0, none⟩, cap, rfl, grownBy_put (Value.int .i64) _, fun _ => ⟨g, _, rfl, hbase, by omega, heap_put (Value.int .i64) _ hg, fun k hk => ?_⟩⟩
  have ht := take_put (Value.int .i64) cur (Lib.compact xs ++ List.replicate (xs.length - (Lib.compact xs).length) 0).toArray (by rw [hd, hcs]; omega)
  rw [hd] at ht
  have h2 : ((putCells (Value.int .i64) 0 (Lib.compact xs ++ List.replicate (xs.length - (Lib.compact xs).length) 0).toArray cur).toList.take xs.length)[k]? = some (I6 (Lib.compact xs)[k]) := by
   rw [ht, List.map_append, List.getElem?_append_left (by simpa using hk)]; simp [hk]
  rw [List.getElem?_take_of_lt (by omega), Array.getElem?_toList] at h2; exact h2
end Go.Proofs.YtljjbdbgedmadaaGreatDoor
namespace Go.Proofs.YtljjbdbgedmadaaGreatDoor
open Go.RowKit
theorem checked_any (h : Dl.Ho) (n : Nat) (hn : h.s.es.length = n) (ea : Option Addr) (ec : Nat) (w : World) (hl : LiesAt 7 edC w ea ec h.s.es) :
  Calls Tryz.prog 42 #[.agg #[I6 h.s.k, .slice ea n ec, I6 h.s.r, I6 h.f, I6 h.t, .bool h.pl]] w fun E w' => E = .returned (I6 (Dl.chkH h)) ∧ Kp w w' none := by
 have hcs := fun V (k : Kp w V none) => scheck_any h.s n hn ea ec V (hl.keep k)
 obtain ⟨e, he⟩ : ∃ e, Pl.chk h.s = e := ⟨_, rfl⟩
 obtain ⟨b, hb⟩ : ∃ b, Dl.spanR h.f h.t = b := ⟨_, rfl⟩
 have hrt := fun V => right_any h.s.k h.s.r h.f h.t h.pl ea n ec V
 obtain ⟨⟨k, es, r⟩, f, t, p⟩ := h
 dsimp only at *
 rw [he] at hcs; simp only [hb] at hrt
 have HCS := oh hcs; have HRT := oh hrt; have k0 := (Kp.refl w none).alloc (.cells #[I6 k, .slice ea n ec, I6 r, I6 f, I6 t, .bool p] 52)
 have K0 := oh k0; have HB := oh (heap_alloc_new w (.cells #[I6 k, .slice ea n ec, I6 r, I6 f, I6 t, .bool p] 52))
 have HE := oh he; have HBB := oh hb; clear hcs hrt k0 hl he hb hn; have HW : Hid (Dl.chkH ⟨⟨k, es, r⟩, f, t, p⟩ = if e ≠ 0 then e else if k ≠ 1 ∨ r = 0 then 12 else if b = false then 72 else 0) := oh (by unfold Dl.chkH; dsimp only; rw [HE.out, HBB.out])
 clear HE HBB; obtain ⟨c, hc⟩ : ∃ c, Dl.chkH ⟨⟨k, es, r⟩, f, t, p⟩ = c := ⟨_, rfl⟩
 rw [hc] at HW ⊢; clear hc
 by_cases he : e = 0
 ·subst he
  by_cases hk : k = 1
  ·subst hk
   by_cases hr : r = 0
   ·subst hr; have HC : Hid (c = 12) := oh (by rw [HW.out]; simp)
    clear HW HRT; go_enter Tryz.func42, Tryz.ntmps42
    go_wp2_with (go_at_call 93; refine (HCS.out _ K0.out).mono ?_; rintro E w1 ⟨rfl, k1⟩; have K1 := oh (K0.out.trans k1); have z0 := ck HB.out k1 0 rfl; have z2 := ck HB.out k1 2 rfl; clear k1)
    go_ret
    exact ⟨ret_int HC.out.symm, K1.out⟩
   ·have HC : Hid (c = if b = false then 72 else 0) := oh (by rw [HW.out]; simp [hr])
    have hr2 : (r == 0) = false := by simpa using hr
    clear HW hr
    cases b
    ·have HC2 : Hid (c = 72) := oh (by rw [HC.out]; rfl)
     clear HC; go_enter Tryz.func42, Tryz.ntmps42
     go_wp2_with (first | (go_at_call 93; refine (HCS.out _ K0.out).mono ?_; rintro E w1 ⟨rfl, k1⟩; have K1 := oh (K0.out.trans k1); have HB1 := oh (blk HB.out k1); have z0 := ck HB.out k1 0 rfl; have z1 := ck HB.out k1 1 rfl; have z2 := ck HB.out k1 2 rfl; have z3 := ck HB.out k1 3 rfl; have z4 := ck HB.out k1 4 rfl; have z5 := ck HB.out k1 5 rfl; clear k1) | (go_at_call 94; refine (HRT.out _).mono ?_; rintro E w2 ⟨rfl, k2⟩; have K2 := oh (K1.out.trans k2); clear k2))
     go_ret
     exact ⟨ret_int HC2.out.symm, K2.out⟩
    ·have HC2 : Hid (c = 0) := oh (by rw [HC.out]; rfl)
     clear HC; go_enter Tryz.func42, Tryz.ntmps42
     go_wp2_with (first | (go_at_call 93; refine (HCS.out _ K0.out).mono ?_; rintro E w1 ⟨rfl, k1⟩; have K1 := oh (K0.out.trans k1); have HB1 := oh (blk HB.out k1); have z0 := ck HB.out k1 0 rfl; have z1 := ck HB.out k1 1 rfl; have z2 := ck HB.out k1 2 rfl; have z3 := ck HB.out k1 3 rfl; have z4 := ck HB.out k1 4 rfl; have z5 := ck HB.out k1 5 rfl; clear k1) | (go_at_call 94; refine (HRT.out _).mono ?_; rintro E w2 ⟨rfl, k2⟩; have K2 := oh (K1.out.trans k2); clear k2))
     go_ret
     exact ⟨ret_int HC2.out.symm, K2.out⟩
  ·have HC : Hid (c = 12) := oh (by rw [HW.out]; simp [hk])
   have hk2 : (k == 1) = false := by simpa using hk
   have hk3 : (k != 1) = true := by simpa using hk
   clear HW HRT hk; go_enter Tryz.func42, Tryz.ntmps42
   go_wp2_with (go_at_call 93; refine (HCS.out _ K0.out).mono ?_; rintro E w1 ⟨rfl, k1⟩; have K1 := oh (K0.out.trans k1); have z0 := ck HB.out k1 0 rfl; have z2 := ck HB.out k1 2 rfl; clear k1)
   go_ret
   exact ⟨ret_int HC.out.symm, K1.out⟩
 ·have HC : Hid (c = e) := oh (by rw [HW.out, if_pos he])
  have he2 : (e == 0) = false := by simpa using he
  have he3 : (e != 0) = true := by simpa using he
  clear HW HRT he; go_enter Tryz.func42, Tryz.ntmps42
  go_wp2_with (go_at_call 93; refine (HCS.out _ K0.out).mono ?_; rintro E w1 ⟨rfl, k1⟩; have K1 := oh (K0.out.trans k1); clear k1)
  go_ret
  exact ⟨ret_int HC.out.symm, K1.out⟩
end Go.Proofs.YtljjbdbgedmadaaGreatDoor
