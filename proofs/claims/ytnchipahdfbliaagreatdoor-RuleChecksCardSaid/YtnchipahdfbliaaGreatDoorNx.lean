/- Numbers drawn from a list, one after the other: each within its bound. Condition: bounds of at most 10^6; no other.
  A region that draws its order, walked under a condition that its last operation, which waits for all the others, need not keep. No condition.
  A region that draws its order, walked by what holds whichever operations are done: one step for each operation, whatever the order. No condition. -/
import Derived.Test.YtnchipahdfbliaaGreatDoorTx
import Derived.Handy

namespace Go.Proofs.YtnchipahdfbliaaGreatDoor
open Go.RowKit

theorem wrap_mid {n : Int} (h1 : -4611686018427387904 ≤ n) (h2 : n ≤ 4611686018427387904) : wrap64 n = n := by unfold wrap64; omega
theorem ret_int {a b : Int} (h : a = b) : Ending.returned (.int .i64 a) = .returned (.int .i64 b) := by rw [h]
theorem tmod_range (n m : Int) (hm : 0 < m) : -m < n.tmod m ∧ n.tmod m < m := by
 constructor
 ·rcases Int.lt_or_le n 0 with h | h
  ·have e : n.tmod m = -((-n).tmod m) := by rw [Int.neg_tmod]; omega
   have := Int.tmod_lt_of_pos (-n) hm
   omega
  ·have := Int.tmod_nonneg m h
   omega
 ·exact Int.tmod_lt_of_pos n hm
def rem (n m : Int) : Int := (n.tmod m + m) % m
theorem rem_range (n m : Int) (h : 0 < m) : 0 ≤ rem n m ∧ rem n m < m := ⟨Int.emod_nonneg _ (by omega), Int.emod_lt_of_pos _ h⟩
set_option maxHeartbeats 1000000 in
set_option maxRecDepth 100000 in
theorem mod_any (n m : Int) (w : World) (h0 : 0 < m) (h1 : m ≤ 1000000) :
  Calls Tryz.prog 22 #[.int .i64 n, .int .i64 m] w fun E w' => E = .returned (.int .i64 (rem n m)) ∧ w' = w := by
 obtain ⟨a, ha⟩ : ∃ a, n.tmod m = a := ⟨_, rfl⟩
 have hr := tmod_range n m h0
 rw [ha] at hr
 have hs : wrap64 (a + m) = a + m := wrap_mid (by omega) (by omega)
 obtain ⟨s, hsv⟩ : ∃ s, a + m = s := ⟨_, rfl⟩
 have HR : Hid (rem n m = s % m) := Lib.hid (by unfold rem; rw [ha, hsv])
 have hs0 : 0 ≤ s := by omega
 rw [hsv] at hs
 have HV : Hid (0 ≤ s % m ∧ s % m < m) := Lib.hid ⟨Int.emod_nonneg s (by omega), Int.emod_lt_of_pos s h0⟩
 have hm : (m == 0) = false := by simp; omega
 clear hr
 go_enter Tryz.func22, Tryz.ntmps22
 go_wp2_with fail
 go_ret
 exact ⟨ret_int HR.out.symm, rfl⟩

theorem wrap_mid' {n m : Int} (h : n = m) (h1 : -4611686018427387904 ≤ m) (h2 : m ≤ 4611686018427387904) : wrap64 n = m := by rw [h]; exact wrap_mid h1 h2
/-- A length of the machine. -/
def LenOk (n : Nat) : Prop := n ≤ 9223372036854775807
/-- What draws from a list: where it stands. -/
def DrawAt (D : Nat) (ao : Option Addr) (n cap : Nat) (w : World) : Prop := ∃ at_ : Nat, w.heap[D]? = some (.cells #[.slice ao n cap, .int .i64 at_] 59 (0, 0)) ∧ at_ ≤ n
/-- What a number drawn is. -/
def Drew (D : Nat) (ao : Option Addr) (n cap : Nat) (w : World) (m : Int) (E : Ending) (w' : World) : Prop := ∃ v : Int, E = .returned (.int .i64 v) ∧ (0 ≤ v ∧ v < m) ∧ DrawAt D ao n cap w' ∧ Kp w w' (some D)

set_option maxHeartbeats 4000000 in
set_option maxRecDepth 100000 in
theorem draw_any (l : List Int) (n : Nat) (hn : l.length = n) (D : Nat) (ao : Option Addr) (cap : Nat) (m : Int) (W w : World) (hl : LiesAt 1 intVal W ao cap l) (hD : W.heap.size ≤ D) (hW : Kp W w none) (hd : DrawAt D ao n cap w) (h0 : 0 < m) (h1 : m ≤ 1000000) (hn2 : LenOk n) :
  Calls Tryz.prog 29 #[.pointer (some ⟨D, 0, none⟩), .int .i64 m] w (Drew D ao n cap w m) := by
 obtain ⟨k, hb, hk⟩ := hd
 have c0 : w.cell? ⟨D, 0, none⟩ = some (.slice ao n cap) := by have := Lib.cell_of_heap hb 0; simpa using this
 have c1 : w.cell? ⟨D, 1, none⟩ = some (.int .i64 k) := by have := Lib.cell_of_heap hb 1; simpa using this
 have f1 : w.frozen? ⟨D, 1, none⟩ = false := Lib.frozen_of_heap hb 1
 have HB := Lib.hid hb
 have FL := Lib.hid hl
 have HN := Lib.hid hn
 have HWK := Lib.hid hW
 have hk0 : (0 : Int) ≤ (k : Int) := Int.natCast_nonneg _
 have hn0 : (0 : Int) ≤ (n : Int) := Int.natCast_nonneg _
 clear hb hl hn hW
 by_cases hlt : k < n
 ·have hk1 : ¬ (n : Int) ≤ (k : Int) := by omega
  have hk2 : (k : Int) < (n : Int) := by omega
  obtain ⟨b, off, rfl, hbs, hcap, hr⟩ := FL.out.int k (by have := HN.out; omega)
  have hv0 := hr k (by have := HN.out; omega)
  obtain ⟨x, hx⟩ : ∃ x, l[k]'(by have := HN.out; omega) = x := ⟨_, rfl⟩
  rw [hx] at hv0
  have hv1 : w.cell? ⟨b, off + k, none⟩ = some (.int .i64 x) := (HWK.out.below.cell (p := ⟨b, off + k, none⟩) hbs).trans hv0
  have hcap2 : n ≤ cap := by have := HN.out; omega
  have hw1 : wrap64 ((k : Int) + 1) = (k : Int) + 1 := by have := hn2; unfold LenOk at this; unfold wrap64; omega
  have HV1 := Lib.hid hv1
  have HDW : Hid (D ≠ b) := Lib.hid (by omega)
  obtain ⟨v, hv⟩ : ∃ v, rem x m = v := ⟨_, rfl⟩
  have HMM : Hid (∀ V, Calls Tryz.prog 22 #[.int .i64 x, .int .i64 m] V fun E w' => E = .returned (.int .i64 v) ∧ w' = V) := Lib.hid (fun V => by rw [← hv]; exact mod_any x m V h0 h1)
  have HVR : Hid (0 ≤ v ∧ v < m) := Lib.hid (by rw [← hv]; exact rem_range x m h0)
  clear hx hv0 hr hcap hv1 hv
  go_enter Tryz.func29, Tryz.ntmps29
  go_wp2_with fail
  go_quiet (fail)
  have KQ : Hid (Kp w (w.drewN nq) none) := Lib.hid ((Kp.refl w none).drewN nq)
  generalize w.drewN nq = wz at *
  have hbz := (KQ.out.block D (lt_of_block HB.out) (by simp)).trans HB.out
  have g0 : wz.cell? ⟨D, 0, none⟩ = some (.slice (some ⟨b, off, none⟩) n cap) := by have := Lib.cell_of_heap hbz 0; simpa using this
  have g1 : wz.cell? ⟨D, 1, none⟩ = some (.int .i64 k) := by have := Lib.cell_of_heap hbz 1; simpa using this
  have g2 : wz.frozen? ⟨D, 1, none⟩ = false := Lib.frozen_of_heap hbz 1
  have hs := heap_set (o := 1) (v := .int .i64 ((k : Int) + 1)) hbz
  have HS := Lib.hid hs
  have KS : Hid (Kp wz (wz.setCell ⟨D, 1, none⟩ (.int .i64 ((k : Int) + 1))) (some D)) := Lib.hid ((Kp.refl wz (some D)).set _)
  have e0 : (wz.setCell ⟨D, 1, none⟩ (.int .i64 ((k : Int) + 1))).cell? ⟨D, 0, none⟩ = some (.slice (some ⟨b, off, none⟩) n cap) := by have := Lib.cell_of_heap hs 0; simpa using this
  have e1 : (wz.setCell ⟨D, 1, none⟩ (.int .i64 ((k : Int) + 1))).cell? ⟨D, 1, none⟩ = some (.int .i64 ((k : Int) + 1)) := by have := Lib.cell_of_heap hs 1; simpa using this
  have hvz : wz.cell? ⟨b, off + k, none⟩ = some (.int .i64 x) := (KQ.out.below.cell (p := ⟨b, off + k, none⟩) (World.block_lt_of_cell? _ _ HV1.out)).trans HV1.out
  have e2 : (wz.setCell ⟨D, 1, none⟩ (.int .i64 ((k : Int) + 1))).cell? ⟨b, off + k, none⟩ = some (.int .i64 x) := (KS.out.cell_far ⟨b, off + k, none⟩ (World.block_lt_of_cell? _ _ hvz) (by have := HDW.out; simp; omega)).trans hvz
  clear hbz hs c0 c1 f1 hvz
  go_wp2_with fail
  clear g0 g1 g2 hw1
  generalize wz.setCell ⟨D, 1, none⟩ (.int .i64 ((k : Int) + 1)) = wy at *
  have hq1 : wrap64 ((k : Int) + 1 - 1) = (k : Int) := by have := hn2; unfold LenOk at this; unfold wrap64; omega
  have hq2 : IntKind.i64.wrap ((k : Int) + 1 - 1) = (k : Int) := by have := hn2; unfold LenOk at this; rw [IntKind.wrap_i64]; omega
  have hq3 : wrap64 (k : Int) = (k : Int) := by have := hn2; unfold LenOk at this; unfold wrap64; omega
  go_quiet ((refine (HMM.out _).mono ?_; rintro e wq ⟨rfl, rfl⟩; exact ⟨rfl, _, rfl⟩))
  have KF : Hid (Kp w (wy.drewN nq) (some D)) := Lib.hid (((KQ.out.weak (some D)).trans KS.out).drewN _)
  go_wp2_with fail
  go_ret
  exact ⟨v, rfl, HVR.out, ⟨k + 1, HS.out, hlt⟩, KF.out⟩
 ·have hk1 : (n : Int) ≤ (k : Int) := by omega
  go_enter Tryz.func29, Tryz.ntmps29
  go_wp2_with fail
  go_quiet (fail)
  go_wp2_with fail
  go_ret
  exact ⟨0, rfl, ⟨Int.le_refl _, h0⟩, ⟨k, HB.out, hk⟩, (Kp.refl w _).drewN nq⟩

end Go.Proofs.YtnchipahdfbliaaGreatDoor

namespace Go.Proofs.YtnchipahdfbliaaGreatDoor
open Go.RowKit

section
variable {P : Program} {ops : Array Oper} {Q : Exit → Act → World → Prop} {md : Region.Mode} {S : World → Prop} {l : Nat}

/-- Whatever comes up, S holds behind it, unless it was number l. -/
def wpAnyL (P : Program) (md : Region.Mode) (ops : Array Oper) (Q : Exit → Act → World → Prop) (S : World → Prop) (l : Nat) : Nat → Array Bool → Act → World → Prop
 | 0, done, a, w => Region.ready md ops done = [] ∧ Q .normal a w
 | n + 1, done, a, w => (Region.ready md ops done = [] → Q .normal a w) ∧ ∀ i, i ∈ Region.ready md ops done → wpOp P ops Q i (fun b v => (i ≠ l → S v) ∧ wpAnyL P md ops Q S l n (done.setIfInBounds i true) b v) a w
theorem wpAny_of_last : ∀ (n : Nat) (done : Array Bool) (a : Act) (w : World), wpAnyL P md ops Q S l n done a w → wpAny P md ops Q n done a w
 | 0, _, _, _, h => h
 | n + 1, _, _, _, h => ⟨h.1, fun i hi => wpOp_mono (fun _ _ k => wpAny_of_last n _ _ _ k.2) (h.2 i hi)⟩
/-- Number l waits for number i. -/
def waits (md : Region.Mode) (ops : Array Oper) (l i : Nat) : Bool := match ops[l]? with
 | some o => o.after.any fun e => Region.binds md e && e.on == i
 | none => false
theorem waits_spec {i : Nat} {o : Oper} (h : waits md ops l i = true) (ho : ops[l]? = some o) : ∃ e ∈ o.after, Region.binds md e = true ∧ e.on = i := by
 unfold waits at h
 rw [ho] at h
 obtain ⟨k, hk, he⟩ := Array.any_eq_true.1 h
 rw [Bool.and_eq_true] at he
 exact ⟨_, Array.getElem_mem hk, he.1, by simpa using he.2⟩
theorem wpAnyL_first {i : Nat} {oi : Oper} {v : Value} (hi : ops[i]? = some oi) (hil : i ≠ l) (hw : waits md ops l i = true) (hsel : Region.noSelect ops = true) (hQ : ∀ c a w, Q (.panic c) (a.put oi.dst v) w → Q (.panic c) a w) :
  ∀ (n : Nat) (done : Array Bool) (a : Act) (w : World), (∀ j oj, ops[j]? = some oj → j ≠ i → done.getD j true = false → (∀ e ∈ oj.after, Region.binds md e = true → e.on ≠ i) → oi.apart ops oj = true) →
   i ∈ Region.ready md ops done → YieldsIf P ops S oi v a → S w → wpAnyL P md ops Q S l n (done.setIfInBounds i true) (a.put oi.dst v) w → wpAnyL P md ops Q S l (n + 1) done a w := by
 have hns := Region.noSelect_spec hsel
 intro n
 induction n with
 | zero =>
  intro done a w _ hr hy hS H
  refine ⟨fun h => absurd hr (by rw [h]; simp), fun j hj => ?_⟩
  rcases Nat.decEq j i with e | e
  ·have h2 := ready_mono hj e
   rw [H.1] at h2
   exact absurd h2 (by simp)
  ·subst e
   exact hy.wpOp hi hS ⟨fun _ => hS, H⟩
 | succ n ih =>
  intro done a w hf hr hy hS H
  refine ⟨fun h => absurd hr (by rw [h]; simp), fun j hj => ?_⟩
  rcases Nat.decEq j i with e | e
  ·obtain ⟨hju, oj, hoj, hal⟩ := mem_ready.1 hj
   have hiu := (mem_ready.1 hr).1
   have hno : ∀ e ∈ oj.after, Region.binds md e = true → e.on ≠ i := by
    intro e he hb hx
    have h1 := hal e he hb
    rw [hx] at h1
    by_cases hs : i < done.size
    ·simp [hs] at hiu h1
     rw [hiu] at h1
     exact absurd h1 (by simp)
    ·simp [Array.getElem?_eq_none (Nat.le_of_not_lt hs)] at h1
   have hjl : j ≠ l := by
    intro hx
    subst hx
    obtain ⟨e, he, hb, hx⟩ := waits_spec hw hoj
    exact hno e he hb hx
   refine wpOp_mono (fun b v k => ⟨k.2.1, ?_⟩) (wpOp_putIf hoj (hf j oj hoj e hju hno) (fun cs c => hns i oi cs c hi) (fun cs c => hns j oj cs c hoj) hQ hy (H.2 j (ready_mono hj e)))
   refine ih _ b v ?_ (ready_mono hr (Ne.symm e)) k.1 (k.2.1 hjl) ?_
   ·intro m om hm hmi hun hn
    refine hf m om hm hmi ?_ hn
    rcases Nat.decEq j m with e2 | e2
    ·rw [getD_set_ne true e2] at hun; exact hun
    ·subst e2; exact hju
   ·rw [Array.setIfInBounds_comm _ _ e]; exact k.2.2
  ·subst e
   exact hy.wpOp hi hS ⟨fun _ => hS, H⟩
/-- Take number i first. -/
theorem wpAnyL_take {i : Nat} {oi : Oper} {v : Value} {n : Nat} {done : Array Bool} {a : Act} {w : World} (hi : ops[i]? = some oi) (hw : (decide (i ≠ l) && waits md ops l i) = true)
  (hs : Region.noSelect ops = true) (hf : Region.free md ops done i = true) (hr : (Region.ready md ops done).contains i = true) (hQ : ∀ c a w, Q (.panic c) (a.put oi.dst v) w → Q (.panic c) a w)
  (hy : YieldsIf P ops S oi v a) (hS : S w) (h : wpAnyL P md ops Q S l n (done.setIfInBounds i true) (a.put oi.dst v) w) : wpAnyL P md ops Q S l (n + 1) done a w := by
 rw [Bool.and_eq_true, decide_eq_true_eq] at hw
 exact wpAnyL_first hi hw.1 hw.2 hs hQ n done a w (Region.free_spec hi hf) (by simpa using hr) hy hS h
/-- The ones that may come up now. -/
def AllReadyL (P : Program) (md : Region.Mode) (ops : Array Oper) (Q : Exit → Act → World → Prop) (S : World → Prop) (l n : Nat) (done : Array Bool) (a : Act) (w : World) (rs : List Nat) : Prop :=
 ∀ i ∈ rs, wpOp P ops Q i (fun b v => (i ≠ l → S v) ∧ wpAnyL P md ops Q S l n (done.setIfInBounds i true) b v) a w
theorem AllReadyL.nil {n : Nat} {done : Array Bool} {a : Act} {w : World} : AllReadyL P md ops Q S l n done a w [] := fun _ h => absurd h (by simp)
theorem AllReadyL.cons {n : Nat} {done : Array Bool} {a : Act} {w : World} {i : Nat} {o : Oper} {rs : List Nat} (ho : ops[i]? = some o)
  (h : ∀ K : Act → World → Prop, Shut (∀ b v, S v → (S v → wpAnyL P md ops Q S l n (done.setIfInBounds i true) b v) → K b v) → if Region.wanted o (yielded ops a.tmps) = true then Oper.wp P o a w K Q else K (a.put o.dst undef) w)
  (hs : AllReadyL P md ops Q S l n done a w rs) : AllReadyL P md ops Q S l n done a w (i :: rs) := fun j hj => by
 rcases List.mem_cons.1 hj with rfl | hj
 ·exact wpOp_step ho (fun K hK => h K (fun b v hS hW => hK b v ⟨fun _ => hS, hW hS⟩))
 ·exact hs j hj
/-- The last one. -/
theorem AllReadyL.last {n : Nat} {done : Array Bool} {a : Act} {w : World} {o : Oper} (ho : ops[l]? = some o)
  (h : ∀ K : Act → World → Prop, Shut (∀ b v, wpAnyL P md ops Q S l n (done.setIfInBounds l true) b v → K b v) → if Region.wanted o (yielded ops a.tmps) = true then Oper.wp P o a w K Q else K (a.put o.dst undef) w) :
  AllReadyL P md ops Q S l n done a w [l] := fun j hj => by
 rw [List.mem_singleton.1 hj]
 exact wpOp_step ho (fun K hK => h K (fun b v hW => hK b v ⟨fun hx => absurd rfl hx, hW⟩))
theorem wpAnyL_ready {rs : List Nat} {n : Nat} {done : Array Bool} {a : Act} {w : World} (hr : Region.ready md ops done = rs) (hne : rs ≠ []) (h : AllReadyL P md ops Q S l n done a w rs) : wpAnyL P md ops Q S l (n + 1) done a w := by
 subst hr
 exact ⟨fun h0 => absurd h0 hne, h⟩
theorem wpAnyL_done {done : Array Bool} {a : Act} {w : World} (hr : Region.ready md ops done = []) (h : Q .normal a w) : ∀ n, wpAnyL P md ops Q S l n done a w
 | 0 => ⟨hr, h⟩
 | _ + 1 => ⟨fun _ => h, fun i hi => absurd hi (by rw [hr]; simp)⟩
theorem wp_region_last (S : World → Prop) (l : Nat) {id : Nat} {a : Act} {w : World} (hm : P.follows .mixedOrders = true) (hS : S w.drew) (h : S w.drew → wpAnyL P .any ops Q S l ops.size (Array.replicate ops.size false) a w.drew) : (Code.region id ops true).wp P Q a w :=
 wp_region_any hm (wpAny_of_last _ _ _ _ (h hS))
end

section
variable {P : Program} {ops : Array Oper} {Q : Exit → Act → World → Prop} {md : Region.Mode} {S : World → Prop} {l : Nat}
theorem tkL (i : Nat) {oi : Oper} {v : Value} {n : Nat} {done : Array Bool} {a : Act} {w : World} (hi : ops[i]? = some oi) (h : wpAnyL P md ops Q S l n (done.setIfInBounds i true) (a.put oi.dst v) w)
  (hy : ∀ w, S w → (execOp a.eval oi).run P w = .ok (.value v) w := by intro w hSw; go_simp <;> with_reducible rfl) (hb : ((decide (i ≠ l) && waits md ops l i) && (Region.noSelect ops && (Region.free md ops done i && (Region.ready md ops done).contains i))) = true := by kernel_rfl) (hw : Region.wanted oi (yielded ops a.tmps) = true := by rfl) (hS : S w := by assumption)
  (hQ : ∀ c a w, Q (.panic c) (a.put oi.dst v) w → Q (.panic c) a w := by exact fun _ _ _ h => h) : wpAnyL P md ops Q S l (n + 1) done a w := by
 rw [Bool.and_eq_true (_ && _), Bool.and_eq_true (Region.noSelect ops), Bool.and_eq_true (Region.free md ops done i)] at hb
 exact wpAnyL_take hi hb.1 hb.2.1 hb.2.2.1 hb.2.2.2 hQ (.inl ⟨hw, hy⟩) hS h
end

end Go.Proofs.YtnchipahdfbliaaGreatDoor

namespace Go.Proofs.YtnchipahdfbliaaGreatDoor
open Go.RowKit

section
variable {P : Program} {ops : Array Oper} {Q : Exit → Act → World → Prop} {md : Region.Mode}

/-- Every operation waits only for ones ahead of it. -/
def ahead (md : Region.Mode) (ops : Array Oper) : Bool := (List.range ops.size).all fun i => match ops[i]? with
 | some o => o.after.all fun e => !Region.binds md e || decide (e.on < i)
 | none => true
theorem ahead_spec (h : ahead md ops = true) {i : Nat} {o : Oper} (ho : ops[i]? = some o) : ∀ e ∈ o.after, Region.binds md e = true → e.on < i := by
 intro e he hb
 have hi : i < ops.size := (Array.getElem?_eq_some_iff.1 ho).1
 have h1 := List.all_eq_true.1 h i (by simp [hi])
 rw [ho] at h1
 have h2 := Array.all_eq_true_iff_forall_mem.1 h1 e he
 rw [hb] at h2
 simpa using h2
theorem all_done (ha : ahead md ops = true) {done : Array Bool} (hz : done.size = ops.size) (hr : Region.ready md ops done = []) : ∀ i, i < ops.size → done.getD i false = true := by
 intro i
 induction i using Nat.strongRecOn with
 | _ i ih =>
  intro hi
  have hi2 : i < done.size := by omega
  cases hd : done.getD i false with
  | true => rfl
  | false =>
   have hm : i ∈ Region.ready md ops done := mem_ready.2 ⟨by simp [hi2] at hd ⊢; exact hd, ops[i], by simp [hi], fun e he hb => by
    have h1 := ahead_spec ha (i := i) (o := ops[i]) (by simp [hi]) e he hb
    exact ih e.on h1 (by omega)⟩
   rw [hr] at hm
   exact absurd hm (by simp)
/-- Number i is done too. -/
def upd (d : Nat → Bool) (i j : Nat) : Bool := if j = i then true else d j
/-- How many are left. -/
def left : List Bool → Nat
 | [] => 0
 | true :: l => left l
 | false :: l => left l + 1
theorem left_set : ∀ (l : List Bool) (i : Nat), l[i]? = some false → left (l.set i true) + 1 = left l
 | [], i, h => by simp at h
 | b :: l, 0, h => by
  simp at h
  subst h
  rfl
 | b :: l, i + 1, h => by
  simp at h
  have := left_set l i h
  cases b <;> simp [left] <;> omega
theorem left_zero : ∀ (l : List Bool), left l = 0 → ∀ i : Nat, l[i]? ≠ some false
 | [], _, i => by simp
 | true :: l, h, 0 => by simp
 | true :: l, h, i + 1 => by
  rw [List.getElem?_cons_succ]
  exact left_zero l h i
 | false :: l, h, _ => by simp [left] at h
/-- What one step is asked for. -/
def StepOf (P : Program) (md : Region.Mode) (ops : Array Oper) (Q : Exit → Act → World → Prop) (J : (Nat → Bool) → Act → World → Prop) (i : Nat) : Prop :=
 ∀ (d : Nat → Bool) (a : Act) (w : World), d i = false → (∀ j, waits md ops i j = true → d j = true) → (∀ l j, waits md ops l j = true → d l = true → d j = true) → J d a w → wpOp P ops Q i (fun b v => J (upd d i) b v) a w
def Steps (P : Program) (md : Region.Mode) (ops : Array Oper) (Q : Exit → Act → World → Prop) (J : (Nat → Bool) → Act → World → Prop) (rs : List Nat) : Prop := ∀ i ∈ rs, StepOf P md ops Q J i
theorem Steps.nil {J : (Nat → Bool) → Act → World → Prop} : Steps P md ops Q J [] := fun _ h => absurd h (by simp)
theorem Steps.cons {J : (Nat → Bool) → Act → World → Prop} {i : Nat} {o : Oper} {rs : List Nat} (ho : ops[i]? = some o)
  (h : ∀ (d : Nat → Bool) (a : Act) (w : World), d i = false → (∀ j, waits md ops i j = true → d j = true) → (∀ l j, waits md ops l j = true → d l = true → d j = true) → J d a w → ∀ K : Act → World → Prop, Shut (∀ b v, J (upd d i) b v → K b v) → if Region.wanted o (yielded ops a.tmps) = true then Oper.wp P o a w K Q else K (a.put o.dst undef) w)
  (hs : Steps P md ops Q J rs) : Steps P md ops Q J (i :: rs) := fun j hj => by
 rcases List.mem_cons.1 hj with rfl | hj
 ·exact fun d a w h0 h1 h2 hJ => wpOp_step ho (fun K hK => h d a w h0 h1 h2 hJ K (fun b v hW => hK b v hW))
 ·exact hs j hj
theorem Steps.skip {J : (Nat → Bool) → Act → World → Prop} {i : Nat} {rs : List Nat} (h : ∀ d a w, J d a w → d i = true) (hs : Steps P md ops Q J rs) : Steps P md ops Q J (i :: rs) := fun j hj => by
 rcases List.mem_cons.1 hj with rfl | hj
 ·exact fun d a w h0 _ _ hJ => absurd (h d a w hJ) (by simp [h0])
 ·exact hs j hj
theorem waits_iff {l j : Nat} {o : Oper} (ho : ops[l]? = some o) : waits md ops l j = true ↔ ∃ e ∈ o.after, Region.binds md e = true ∧ e.on = j := by
 refine ⟨fun h => waits_spec h ho, ?_⟩
 rintro ⟨e, he, hb, rfl⟩
 unfold waits
 rw [ho]
 obtain ⟨k, hk, rfl⟩ := Array.mem_iff_getElem.1 he
 exact Array.any_eq_true.2 ⟨k, hk, by rw [hb]; simp⟩
theorem wpAny_inv {J : (Nat → Bool) → Act → World → Prop} {rs : List Nat} (ha : ahead md ops = true) (hrs : List.range ops.size = rs) (hs : Steps P md ops Q J rs)
  (he : ∀ (d : Nat → Bool) (a : Act) (w : World), (∀ i, i < ops.size → d i = true) → J d a w → Q .normal a w) :
  ∀ (n : Nat) (done : Array Bool) (a : Act) (w : World), done.size = ops.size → (∀ l j, waits md ops l j = true → done.getD l false = true → done.getD j false = true) → left done.toList ≤ n → J (fun i => done.getD i false) a w → wpAny P md ops Q n done a w := by
 intro n
 induction n with
 | zero =>
  intro done a w hz hc hl hJ
  have hall : ∀ i, i < ops.size → done.getD i false = true := by
   intro i hi
   have h1 := left_zero done.toList (by omega) i
   have hi2 : i < done.size := by omega
   rw [Array.getElem?_toList] at h1
   simp [hi2] at h1 ⊢
   exact h1
  refine ⟨?_, he _ _ _ hall hJ⟩
  rw [List.eq_nil_iff_forall_not_mem]
  intro i hi
  obtain ⟨h0, o, ho, _⟩ := mem_ready.1 hi
  have hi3 : i < ops.size := (Array.getElem?_eq_some_iff.1 ho).1
  have h1 := hall i hi3
  have hi2 : i < done.size := by omega
  simp [hi2] at h0 h1
  rw [h0] at h1
  exact absurd h1 (by simp)
 | succ n ih =>
  intro done a w hz hc hl hJ
  refine ⟨fun hr => he _ _ _ (all_done ha hz hr) hJ, fun i hi => ?_⟩
  obtain ⟨h0, o, ho, hal⟩ := mem_ready.1 hi
  have hi3 : i < ops.size := (Array.getElem?_eq_some_iff.1 ho).1
  have hi2 : i < done.size := by omega
  have h0f : done.getD i false = false := by simp [hi2] at h0 ⊢; exact h0
  refine wpOp_mono (fun b v hJ2 => ih _ b v (by simp [hz]) ?_ ?_ ?_) (hs i (by rw [← hrs]; simp [hi3]) (fun j => done.getD j false) a w h0f ?_ hc hJ)
  ·intro l j hw hd
   rcases Nat.decEq l i with e | e
   ·exact getD_set_true (hc l j hw (by rw [getD_set_ne false (Ne.symm e)] at hd; exact hd))
   ·subst e
    obtain ⟨e, he, hb, rfl⟩ := (waits_iff ho).1 hw
    exact getD_set_true (hal e he hb)
  ·have h1 := left_set done.toList i (by rw [Array.getElem?_toList]; simp [hi2] at h0 ⊢; exact h0)
   rw [Array.toList_setIfInBounds]
   omega
  ·have hf : (fun j => (done.setIfInBounds i true).getD j false) = upd (fun j => done.getD j false) i := by
    funext j
    unfold upd
    split
    ·rename_i h; subst h; simp [hi2]
    ·rename_i h; rw [getD_set_ne false (Ne.symm h)]
   rw [hf]; exact hJ2
  ·intro j hw
   obtain ⟨e, he, hb, rfl⟩ := (waits_iff ho).1 hw
   exact hal e he hb
theorem wpAnyH_true : ∀ (n : Nat) (done : Array Bool) (a : Act) (w : World), wpAny P md ops Q n done a w → wpAnyH P md ops Q (fun _ => True) n done a w
 | 0, _, _, _, h => h
 | n + 1, _, _, _, h => ⟨h.1, fun i hi => wpOp_mono (fun b v k => ⟨trivial, wpAnyH_true n _ b v k⟩) (h.2 i hi)⟩
/-- The law behind the takes. -/
theorem wpAnyH_inv {J : (Nat → Bool) → Act → World → Prop} {rs : List Nat} {n : Nat} {done : Array Bool} {a : Act} {w : World} (hb : (ahead md ops && (decide (done.size = ops.size) && (decide (left done.toList ≤ n) && ((List.range ops.size).all fun l => (List.range ops.size).all fun j => !waits md ops l j || (!done.getD l false || done.getD j false))))) = true)
  (hrs : List.range ops.size = rs) (hJ : J (fun i => done.getD i false) a w) (hs : Steps P md ops Q J rs) (he : ∀ (d : Nat → Bool) (a : Act) (w : World), (∀ i, i < ops.size → d i = true) → J d a w → Q .normal a w) :
  wpAnyH P md ops Q (fun _ => True) n done a w := by
 rw [Bool.and_eq_true, Bool.and_eq_true, Bool.and_eq_true, decide_eq_true_eq, decide_eq_true_eq] at hb
 obtain ⟨h1, h2, h3, h4⟩ := hb
 refine wpAnyH_true _ _ _ _ (wpAny_inv h1 hrs hs he n done a w h2 ?_ h3 hJ)
 intro l j hw hd
 have hl : l < ops.size := by
  rw [← h2]
  rcases Nat.lt_or_ge l done.size with h | h
  ·exact h
  ·simp [Array.getElem?_eq_none h] at hd
 cases ho : ops[l]? with
 | none => simp [hl] at ho
 | some o =>
  obtain ⟨e, he, hb, rfl⟩ := (waits_iff ho).1 hw
  have hj : e.on < ops.size := Nat.lt_trans (ahead_spec h1 ho e he hb) hl
  have h5 := List.all_eq_true.1 (List.all_eq_true.1 h4 l (by simp [hl])) e.on (by simp [hj])
  rw [hw, hd] at h5
  simpa using h5
end

end Go.Proofs.YtnchipahdfbliaaGreatDoor
