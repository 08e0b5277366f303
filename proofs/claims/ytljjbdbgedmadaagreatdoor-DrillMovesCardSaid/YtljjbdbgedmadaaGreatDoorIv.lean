/- Motions turned back (the program's Inverse). Condition: coordinates of at most 2^61. -/
import Derived.Test.YtljjbdbgedmadaaGreatDoorMv
import Derived.Test.YtljjbdbgedmadaaGreatDoorVe
namespace Pl
def inv (m : Mo) : Mo :=
 if m.mirror then ⟨⟨-(apply ⟨⟨0, 0⟩, m.turn % 4, true⟩ m.at_).x, -(apply ⟨⟨0, 0⟩, m.turn % 4, true⟩ m.at_).y⟩, m.turn % 4, true⟩
 else ⟨⟨-(apply ⟨⟨0, 0⟩, (4 - m.turn % 4) % 4, false⟩ m.at_).x, -(apply ⟨⟨0, 0⟩, (4 - m.turn % 4) % 4, false⟩ m.at_).y⟩, (4 - m.turn % 4) % 4, false⟩
end Pl
namespace Go.Proofs.YtljjbdbgedmadaaGreatDoor
open Go.RowKit

theorem apply_mid (m : Pl.Mo) (p : Pl.Pt) (h1 : Mid p.x) (h2 : Mid p.y) (h0 : m.at_ = ⟨0, 0⟩) : Mid (Pl.apply m p).x ∧ Mid (Pl.apply m p).y := by
 have h := turn_abs m.turn ⟨if m.mirror then -p.x else p.x, p.y⟩ (neg_mid m.mirror h1) h2
 unfold Pl.apply Pl.add
 rw [h0]
 simpa using h
theorem store4 {w : World} {p : Nat} {a0 a1 a2 a3 : Value} (h : w.heap[p]? = some (.cells #[a0, a1, a2, a3] 44 (0, 0))) (b0 b1 b2 b3 : Value) :
  ((((w.setCell ⟨p, 0, none⟩ b0).setCell ⟨p, 1, none⟩ b1).setCell ⟨p, 2, none⟩ b2).setCell ⟨p, 3, none⟩ b3).heap[p]? = some (.cells #[b0, b1, b2, b3] 44 (0, 0)) ∧ Kp w ((((w.setCell ⟨p, 0, none⟩ b0).setCell ⟨p, 1, none⟩ b1).setCell ⟨p, 2, none⟩ b2).setCell ⟨p, 3, none⟩ b3) (some p) := by
 have h1 := heap_set (o := 3) (v := b3) (heap_set (o := 2) (v := b2) (heap_set (o := 1) (v := b1) (heap_set (o := 0) (v := b0) h)))
 exact ⟨by simpa using h1, ((((Kp.refl w (some p)).set _).set _).set _).set _⟩
set_option maxRecDepth 100000 in
theorem eq44t (x y t : Int) (V : World) : Sem.run Tryz.prog (binOp BinOp.eql 44 (.agg #[.int .i64 x, .int .i64 y, .int .i64 t, .bool true]) (.agg #[.int .i64 0, .int .i64 0, .int .i64 0, .bool false])) V = .ok (.bool false) V := by
 by_cases h1 : x = 0 <;> by_cases h2 : y = 0 <;> by_cases h3 : t = 0 <;> simp [go_sem, h1, h2, h3]
set_option maxRecDepth 100000 in
theorem eq44 (x y t : Int) (h : ¬ (x = 0 ∧ y = 0 ∧ t = 0)) (V : World) : Sem.run Tryz.prog (binOp BinOp.eql 44 (.agg #[.int .i64 x, .int .i64 y, .int .i64 t, .bool false]) (.agg #[.int .i64 0, .int .i64 0, .int .i64 0, .bool false])) V = .ok (.bool false) V := by
 by_cases h1 : x = 0 <;> by_cases h2 : y = 0 <;> by_cases h3 : t = 0 <;> simp [go_sem, h1, h2, h3] <;> exact absurd ⟨h1, h2, h3⟩ h
set_option maxHeartbeats 8000000 in
set_option maxRecDepth 100000 in
theorem inverse_false (x y t : Int) (w : World) (h1 : Mid x) (h2 : Mid y) :
  Calls Tryz.prog 22 #[.agg #[.int .i64 x, .int .i64 y, .int .i64 t, .bool false]] w fun E w' => E = .returned (.agg #[.int .i64 (-(Pl.apply ⟨⟨0, 0⟩, ((4 - t % 4) % 4), false⟩ ⟨x, y⟩).x), .int .i64 (-(Pl.apply ⟨⟨0, 0⟩, ((4 - t % 4) % 4), false⟩ ⟨x, y⟩).y), .int .i64 ((4 - t % 4) % 4), .bool false]) ∧ Kp w w' none := by
 by_cases hz : x = 0 ∧ y = 0 ∧ t = 0
 ·obtain ⟨rfl, rfl, rfl⟩ := hz
  go_enter Tryz.func22, Tryz.ntmps22
  go_wp2_with fail
  have KF : Hid (Kp w ((w.alloc (Obj.cells #[.int .i64 0, .int .i64 0, .int .i64 0, .bool false] 44)).alloc (Obj.cells #[.int .i64 0, .int .i64 0, .int .i64 0, .bool false] 44)) none) := Lib.hid (((Kp.refl w none).alloc _).alloc _)
  have HR := heap_alloc_new (w.alloc (Obj.cells #[.int .i64 0, .int .i64 0, .int .i64 0, .bool false] 44)) (Obj.cells #[.int .i64 0, .int .i64 0, .int .i64 0, .bool false] 44)
  have q0 := hcell HR 0 rfl
  have q1 := hcell HR 1 rfl
  have q2 := hcell HR 2 rfl
  have q3 := hcell HR 3 rfl
  exact bodyPost_ret (v := .agg #[.int .i64 0, .int .i64 0, .int .i64 0, .bool false]) (by simp [results, Tryz.results22, go_sem]) rfl ⟨rfl, KF.out⟩
 have HT : Hid (∀ V, Calls Tryz.prog 58 #[.agg #[.int .i64 x, .int .i64 y, .int .i64 t, .bool false]] V fun E w' => E = .returned (.int .i64 (t % 4)) ∧ Kp V w' none) := Lib.hid fun V => (turns_any x y t false V).mono fun E w' h => ⟨h.1, by rw [h.2]; exact (Kp.refl V none).alloc _⟩
 have HAP := Lib.hid (fun V => apply_any ⟨⟨0, 0⟩, ((4 - t % 4) % 4), false⟩ ⟨x, y⟩ V h1 h2 (by unfold Mid; dsimp only; omega) (by unfold Mid; dsimp only; omega))
 have hq := apply_mid ⟨⟨0, 0⟩, ((4 - t % 4) % 4), false⟩ ⟨x, y⟩ h1 h2 rfl
 have HQE : Hid (∀ V, Sem.run Tryz.prog (binOp BinOp.eql 44 (.agg #[.int .i64 x, .int .i64 y, .int .i64 t, .bool false]) (.agg #[.int .i64 0, .int .i64 0, .int .i64 0, .bool false])) V = .ok (.bool false) V) := Lib.hid (eq44 x y t hz)
 obtain ⟨f, hf⟩ : ∃ f, (4 - t % 4) % 4 = f := ⟨_, rfl⟩
 obtain ⟨u, hu⟩ : ∃ u, t % 4 = u := ⟨_, rfl⟩
 have HNG : Hid (wrap64 (-u) = -u) := Lib.hid (wrap_mid (by omega) (by omega))
 have HN4 : Hid (IntKind.i64.wrap (-u) = -u ∧ (-u) % 4 = f) := Lib.hid ⟨by rw [IntKind.wrap_i64]; omega, by omega⟩
 rw [hf] at HAP hq ⊢
 rw [hu] at HT
 dsimp only at HAP
 have HS : Hid (∀ V, Calls Tryz.prog 59 #[.agg #[.int .i64 0, .int .i64 0], .agg #[.int .i64 (Pl.apply ⟨⟨0, 0⟩, f, false⟩ ⟨x, y⟩).x, .int .i64 (Pl.apply ⟨⟨0, 0⟩, f, false⟩ ⟨x, y⟩).y]] V fun E w' => E = .returned (.agg #[.int .i64 (-(Pl.apply ⟨⟨0, 0⟩, f, false⟩ ⟨x, y⟩).x), .int .i64 (-(Pl.apply ⟨⟨0, 0⟩, f, false⟩ ⟨x, y⟩).y)]) ∧ Kp V w' none) := Lib.hid fun V => by
  have h := vsub_any 0 0 _ _ V (by unfold Mid; omega) (by unfold Mid; omega) hq.1 hq.2
  rw [Int.zero_sub, Int.zero_sub] at h
  exact h
 generalize (Pl.apply ⟨⟨0, 0⟩, f, false⟩ ⟨x, y⟩).x = ax at *
 generalize (Pl.apply ⟨⟨0, 0⟩, f, false⟩ ⟨x, y⟩).y = ay at *
 clear hq hu h1 h2 hz hf
 go_enter Tryz.func22, Tryz.ntmps22
 have hqe := HQE.out
 go_upto_region 3 with fail
 clear hqe
 have HB : Hid (((w.alloc (Obj.cells #[.int .i64 x, .int .i64 y, .int .i64 t, .bool false] 44)).alloc (Obj.cells #[.int .i64 0, .int .i64 0, .int .i64 0, .bool false] 44)).heap[w.heap.size]? = some (Obj.cells #[.int .i64 x, .int .i64 y, .int .i64 t, .bool false] 44 (0, 0))) := Lib.hid (blk (heap_alloc_new w _) ((Kp.refl _ none).alloc _))
 have HR : Hid (((w.alloc (Obj.cells #[.int .i64 x, .int .i64 y, .int .i64 t, .bool false] 44)).alloc (Obj.cells #[.int .i64 0, .int .i64 0, .int .i64 0, .bool false] 44)).heap[w.heap.size + 1]? = some (Obj.cells #[.int .i64 0, .int .i64 0, .int .i64 0, .bool false] 44 (0, 0))) := Lib.hid (by have h := heap_alloc_new (w.alloc (Obj.cells #[.int .i64 x, .int .i64 y, .int .i64 t, .bool false] 44)) (Obj.cells #[.int .i64 0, .int .i64 0, .int .i64 0, .bool false] 44); simpa using h)
 have HQ : Hid (Kp w ((w.alloc (Obj.cells #[.int .i64 x, .int .i64 y, .int .i64 t, .bool false] 44)).alloc (Obj.cells #[.int .i64 0, .int .i64 0, .int .i64 0, .bool false] 44)) none) := Lib.hid (((Kp.refl w none).alloc _).alloc _)
 generalize (w.alloc (Obj.cells #[.int .i64 x, .int .i64 y, .int .i64 t, .bool false] 44)).alloc (Obj.cells #[.int .i64 0, .int .i64 0, .int .i64 0, .bool false] 44) = wB at *
 go_cut [3] from 4 to 29 (fun s3 wx => ∃ p : Nat, s3 = .pointer (some ⟨p, 0, none⟩) ∧ wx.heap[p]? = some (.cells #[.int .i64 0, .int .i64 0, .int .i64 u, .bool false] 44 (0, 0)) ∧ w.heap.size + 2 ≤ p ∧ Kp w wx none ∧ wx.heap[w.heap.size]? = some (Obj.cells #[.int .i64 x, .int .i64 y, .int .i64 t, .bool false] 44 (0, 0)) ∧ wx.heap[w.heap.size + 1]? = some (Obj.cells #[.int .i64 0, .int .i64 0, .int .i64 0, .bool false] 44 (0, 0)))
 case first =>
  have HQn := Lib.hid (HQ.out.trans (Kp.refl wB none).drew)
  clear HQ
  have HQ := HQn
  clear HQn
  have HBn := Lib.hid (blk HB.out (Kp.refl wB none).drew)
  clear HB
  have HB := HBn
  clear HBn
  have HRn := Lib.hid (blk HR.out (Kp.refl wB none).drew)
  clear HR
  have HR := HRn
  clear HRn
  refine wp_region_last (fun V => V.cell? ⟨w.heap.size, 0, none⟩ = some (.int .i64 x) ∧ V.cell? ⟨w.heap.size, 1, none⟩ = some (.int .i64 y) ∧ V.cell? ⟨w.heap.size, 2, none⟩ = some (.int .i64 t) ∧ V.cell? ⟨w.heap.size, 3, none⟩ = some (.bool false) ∧ True) 6 (by kernel_rfl) ?_ (fun hHeld => ?_)
  ·exact ⟨hcell HB.out 0 rfl, hcell HB.out 1 rfl, hcell HB.out 2 rfl, hcell HB.out 3 rfl, trivial⟩
  generalize wB.drew = V0 at *
  refine tkL 0 rfl ?_
  try simp only [Act.put, sm]
  refine tkL 2 rfl ?_
  try simp only [Act.put, sm]
  refine tkL 3 rfl ?_
  try simp only [Act.put, sm]
  refine wpAnyL_ready (rs := [1, 5]) (by kernel_rfl) (by simp) ?_
  refine AllReadyL.cons (o := _) rfl (fun K hK => ?_) (AllReadyL.cons (o := _) rfl (fun K hK => ?_) AllReadyL.nil)
  ·clear hHeld
   go_simp
   refine (HT.out _).mono ?_
   rintro E V1 ⟨rfl, kk⟩
   have HQn := Lib.hid (HQ.out.trans kk)
   clear HQ
   have HQ := HQn
   clear HQn
   have HBn := Lib.hid (blk HB.out kk)
   clear HB
   have HB := HBn
   clear HBn
   have HRn := Lib.hid (blk HR.out kk)
   clear HR
   have HR := HRn
   clear HRn
   clear kk
   try go_wp2_with fail
   refine hK.out _ _ ?_ (fun hHeld => ?_)
   ·exact ⟨hcell HB.out 0 rfl, hcell HB.out 1 rfl, hcell HB.out 2 rfl, hcell HB.out 3 rfl, trivial⟩
   clear hK K
   try simp only [Act.put, sm]
   refine tkL 4 rfl ?_
   try simp only [Act.put, sm]
   refine wpAnyL_ready (rs := [5]) (by kernel_rfl) (by simp) ?_
   refine AllReadyL.cons (o := _) rfl (fun K hK => ?_) AllReadyL.nil
   clear hHeld
   go_simp
   have ka := (Kp.refl V1 none).alloc (.cells #[.int .i64 0, .int .i64 0, .int .i64 0, .bool false] 44)
   have HED : Hid (w.heap.size + 2 ≤ V1.heap.size) := Lib.hid (by have h1 := lt_of_block HR.out; omega)
   have HQn := Lib.hid (HQ.out.trans ka)
   clear HQ
   have HQ := HQn
   clear HQn
   have HBn := Lib.hid (blk HB.out ka)
   clear HB
   have HB := HBn
   clear HBn
   have HRn := Lib.hid (blk HR.out ka)
   clear HR
   have HR := HRn
   clear HRn
   have HE := Lib.hid (heap_alloc_new V1 (.cells #[.int .i64 0, .int .i64 0, .int .i64 0, .bool false] 44))
   clear ka
   try go_wp2_with fail
   refine hK.out _ _ ?_ (fun hHeld => ?_)
   ·exact ⟨hcell HB.out 0 rfl, hcell HB.out 1 rfl, hcell HB.out 2 rfl, hcell HB.out 3 rfl, trivial⟩
   clear hK K
   try simp only [Act.put, sm]
   generalize V1.alloc (.cells #[.int .i64 0, .int .i64 0, .int .i64 0, .bool false] 44) = V2 at *
   refine wpAnyL_ready (rs := [6]) (by kernel_rfl) (by simp) ?_
   refine AllReadyL.last (o := _) rfl (fun K hK => ?_)
   have f0 := Lib.frozen_of_heap HE.out 0
   have f1 := Lib.frozen_of_heap HE.out 1
   have f2 := Lib.frozen_of_heap HE.out 2
   have f3 := Lib.frozen_of_heap HE.out 3
   have c0 := hcell HE.out 0 rfl
   have c1 := hcell HE.out 1 rfl
   have c2 := hcell HE.out 2 rfl
   have c3 := hcell HE.out 3 rfl
   clear hHeld
   go_simp
   try go_wp2_with fail
   refine hK.out _ _ ?_
   clear hK K f0 f1 f2 f3 c0 c1 c2 c3
   try simp only [Act.put, sm]
   refine wpAnyL_done (by kernel_rfl) ?_ _
   have hst := store4 HE.out (.int .i64 0) (.int .i64 0) (.int .i64 u) (.bool false)
   have kk := hst.2
   have KF := Lib.hid (HQ.out.of_own kk (by have := HED.out; omega))
   have HBF := Lib.hid ((kk.block _ (lt_of_block HB.out) (by have := HED.out; intro q; have := Option.some.inj q; omega)).trans HB.out)
   have HRF := Lib.hid ((kk.block _ (lt_of_block HR.out) (by have := HED.out; intro q; have := Option.some.inj q; omega)).trans HR.out)
   have HEF := Lib.hid hst.1
   clear hst kk
   go_wp2_with fail
   go_meet
   exact ⟨_, rfl, HEF.out, HED.out, KF.out, HBF.out, HRF.out⟩
  ·clear hHeld
   go_simp
   have ka := (Kp.refl V0 none).alloc (.cells #[.int .i64 0, .int .i64 0, .int .i64 0, .bool false] 44)
   have HED : Hid (w.heap.size + 2 ≤ V0.heap.size) := Lib.hid (by have h1 := lt_of_block HR.out; omega)
   have HQn := Lib.hid (HQ.out.trans ka)
   clear HQ
   have HQ := HQn
   clear HQn
   have HBn := Lib.hid (blk HB.out ka)
   clear HB
   have HB := HBn
   clear HBn
   have HRn := Lib.hid (blk HR.out ka)
   clear HR
   have HR := HRn
   clear HRn
   have HE := Lib.hid (heap_alloc_new V0 (.cells #[.int .i64 0, .int .i64 0, .int .i64 0, .bool false] 44))
   clear ka
   try go_wp2_with fail
   refine hK.out _ _ ?_ (fun hHeld => ?_)
   ·exact ⟨hcell HB.out 0 rfl, hcell HB.out 1 rfl, hcell HB.out 2 rfl, hcell HB.out 3 rfl, trivial⟩
   clear hK K
   try simp only [Act.put, sm]
   generalize V0.alloc (.cells #[.int .i64 0, .int .i64 0, .int .i64 0, .bool false] 44) = V3 at *
   refine wpAnyL_ready (rs := [1]) (by kernel_rfl) (by simp) ?_
   refine AllReadyL.cons (o := _) rfl (fun K hK => ?_) AllReadyL.nil
   clear hHeld
   go_simp
   refine (HT.out _).mono ?_
   rintro E V4 ⟨rfl, kk⟩
   have HQn := Lib.hid (HQ.out.trans kk)
   clear HQ
   have HQ := HQn
   clear HQn
   have HBn := Lib.hid (blk HB.out kk)
   clear HB
   have HB := HBn
   clear HBn
   have HRn := Lib.hid (blk HR.out kk)
   clear HR
   have HR := HRn
   clear HRn
   have HEn := Lib.hid (blk HE.out kk)
   clear HE
   have HE := HEn
   clear HEn
   clear kk
   try go_wp2_with fail
   refine hK.out _ _ ?_ (fun hHeld => ?_)
   ·exact ⟨hcell HB.out 0 rfl, hcell HB.out 1 rfl, hcell HB.out 2 rfl, hcell HB.out 3 rfl, trivial⟩
   clear hK K
   try simp only [Act.put, sm]
   refine tkL 4 rfl ?_
   try simp only [Act.put, sm]
   refine wpAnyL_ready (rs := [6]) (by kernel_rfl) (by simp) ?_
   refine AllReadyL.last (o := _) rfl (fun K hK => ?_)
   have f0 := Lib.frozen_of_heap HE.out 0
   have f1 := Lib.frozen_of_heap HE.out 1
   have f2 := Lib.frozen_of_heap HE.out 2
   have f3 := Lib.frozen_of_heap HE.out 3
   have c0 := hcell HE.out 0 rfl
   have c1 := hcell HE.out 1 rfl
   have c2 := hcell HE.out 2 rfl
   have c3 := hcell HE.out 3 rfl
   clear hHeld
   go_simp
   try go_wp2_with fail
   refine hK.out _ _ ?_
   clear hK K f0 f1 f2 f3 c0 c1 c2 c3
   try simp only [Act.put, sm]
   refine wpAnyL_done (by kernel_rfl) ?_ _
   have hst := store4 HE.out (.int .i64 0) (.int .i64 0) (.int .i64 u) (.bool false)
   have kk := hst.2
   have KF := Lib.hid (HQ.out.of_own kk (by have := HED.out; omega))
   have HBF := Lib.hid ((kk.block _ (lt_of_block HB.out) (by have := HED.out; intro q; have := Option.some.inj q; omega)).trans HB.out)
   have HRF := Lib.hid ((kk.block _ (lt_of_block HR.out) (by have := HED.out; intro q; have := Option.some.inj q; omega)).trans HR.out)
   have HEF := Lib.hid hst.1
   clear hst kk
   go_wp2_with fail
   go_meet
   exact ⟨_, rfl, HEF.out, HED.out, KF.out, HBF.out, HRF.out⟩
 case rest =>
  obtain ⟨p, rfl, hE, hp, hK, hB, hR⟩ := hcut
  have HE3 := Lib.hid hE
  have HP := Lib.hid hp
  have HQ3 := Lib.hid hK
  have HB3 := Lib.hid hB
  have HR3 := Lib.hid hR
  clear hE hp hK hB hR HB HR HQ
  have b0 := hcell HB3.out 0 rfl
  have b1 := hcell HB3.out 1 rfl
  have b2 := hcell HB3.out 2 rfl
  have b3 := hcell HB3.out 3 rfl
  go_wp2_with fail
  refine (HT.out _).mono ?_
  rintro E wy ⟨rfl, k4⟩
  have HE2 := Lib.hid (blk HE3.out k4)
  have HR2 := Lib.hid (blk HR3.out k4)
  have HB2 := Lib.hid (blk HB3.out k4)
  have HQ2 := Lib.hid (HQ3.out.trans k4)
  clear k4 b0 b1 b2 b3 HE3 HR3 HB3 HQ3
  have f2 := Lib.frozen_of_heap HE2.out 2
  have e2 := hcell HE2.out 2 rfl
  have hng := HNG.out
  have hn4 := HN4.out.1
  have h3 := and_three (-u)
  rw [HN4.out.2] at h3
  go_upto_region 6 with fail
  clear f2 e2 hng hn4 h3
  have hs := heap_set (o := 2) (v := .int .i64 f) HE2.out
  simp at hs
  have kz := ((Kp.refl wy (some p)).set (o := 2) (.int .i64 f))
  have HE3 := Lib.hid hs
  have HR3 := Lib.hid ((kz.block _ (lt_of_block HR2.out) (by have := HP.out; intro q; have := Option.some.inj q; omega)).trans HR2.out)
  have HB3 := Lib.hid ((kz.block _ (lt_of_block HB2.out) (by have := HP.out; intro q; have := Option.some.inj q; omega)).trans HB2.out)
  have HQ3 := Lib.hid (HQ2.out.of_own kz (by have := HP.out; omega))
  clear hs kz HE2 HR2 HB2 HQ2
  generalize wy.setCell ⟨p, 2, none⟩ (.int .i64 f) = wz at *
  have e0 := hcell HE3.out 0 rfl
  have e1 := hcell HE3.out 1 rfl
  have e2 := hcell HE3.out 2 rfl
  have e3 := hcell HE3.out 3 rfl
  have b0 := hcell HB3.out 0 rfl
  have b1 := hcell HB3.out 1 rfl
  go_wp2_with fail
  refine (HAP.out _).mono ?_
  rintro E w4 ⟨rfl, k4⟩
  have HE4 := Lib.hid (blk HE3.out k4)
  have HR4 := Lib.hid (blk HR3.out k4)
  have HQ4 := Lib.hid (HQ3.out.trans k4)
  clear k4 e0 e1 e2 e3 b0 b1 HE3 HR3 HQ3 HB3
  go_wp2_with fail
  refine (HS.out _).mono ?_
  rintro E w5 ⟨rfl, k5⟩
  have HE5 := Lib.hid (blk HE4.out k5)
  have HR5 := Lib.hid (blk HR4.out k5)
  have HQ5 := Lib.hid (HQ4.out.trans k5)
  clear k5 HE4 HR4 HQ4
  have f0 := Lib.frozen_of_heap HE5.out 0
  have f1 := Lib.frozen_of_heap HE5.out 1
  have e0 := hcell HE5.out 0 rfl
  have e1 := hcell HE5.out 1 rfl
  go_upto_region 7 with fail
  clear f0 f1 e0 e1
  have hs := heap_set (o := 1) (v := .int .i64 (-ay)) (heap_set (o := 0) (v := .int .i64 (-ax)) HE5.out)
  simp at hs
  have kz := ((Kp.refl w5 (some p)).set (o := 0) (.int .i64 (-ax))).set (o := 1) (.int .i64 (-ay))
  have HE6 := Lib.hid hs
  have HR6 := Lib.hid ((kz.block _ (lt_of_block HR5.out) (by have := HP.out; intro q; have := Option.some.inj q; omega)).trans HR5.out)
  have HQ6 := Lib.hid (HQ5.out.of_own kz (by have := HP.out; omega))
  clear hs kz HE5 HR5 HQ5
  generalize (w5.setCell ⟨p, 0, none⟩ (.int .i64 (-ax))).setCell ⟨p, 1, none⟩ (.int .i64 (-ay)) = w6 at *
  have e0 := hcell HE6.out 0 rfl
  have e1 := hcell HE6.out 1 rfl
  have e2 := hcell HE6.out 2 rfl
  have e3 := hcell HE6.out 3 rfl
  have x0 := hcell HR6.out 0 rfl
  have x1 := hcell HR6.out 1 rfl
  have x2 := hcell HR6.out 2 rfl
  have x3 := hcell HR6.out 3 rfl
  have f0 := Lib.frozen_of_heap HR6.out 0
  have f1 := Lib.frozen_of_heap HR6.out 1
  have f2 := Lib.frozen_of_heap HR6.out 2
  have f3 := Lib.frozen_of_heap HR6.out 3
  go_wp2_with fail
  have hst := store4 HR6.out (.int .i64 (-ax)) (.int .i64 (-ay)) (.int .i64 f) (.bool false)
  have KF := Lib.hid (HQ6.out.of_own hst.2 (by omega))
  have q0 := hcell hst.1 0 rfl
  have q1 := hcell hst.1 1 rfl
  have q2 := hcell hst.1 2 rfl
  have q3 := hcell hst.1 3 rfl
  clear hst e0 x0 f0 e1 x1 f1 e2 x2 f2 e3 x3 f3 HE6 HR6 HQ6
  generalize ((((w6.setCell ⟨w.heap.size + 1, 0, none⟩ (.int .i64 (-ax))).setCell ⟨w.heap.size + 1, 1, none⟩ (.int .i64 (-ay))).setCell ⟨w.heap.size + 1, 2, none⟩ (.int .i64 f)).setCell ⟨w.heap.size + 1, 3, none⟩ (.bool false)) = wf at *
  exact bodyPost_ret (v := .agg #[.int .i64 (-ax), .int .i64 (-ay), .int .i64 f, .bool false]) (by simp [results, Tryz.results22, go_sem, q0, q1, q2, q3]) rfl ⟨rfl, KF.out⟩
set_option maxHeartbeats 8000000 in
set_option maxRecDepth 100000 in
theorem inverse_true (x y t : Int) (w : World) (h1 : Mid x) (h2 : Mid y) :
  Calls Tryz.prog 22 #[.agg #[.int .i64 x, .int .i64 y, .int .i64 t, .bool true]] w fun E w' => E = .returned (.agg #[.int .i64 (-(Pl.apply ⟨⟨0, 0⟩, (t % 4), true⟩ ⟨x, y⟩).x), .int .i64 (-(Pl.apply ⟨⟨0, 0⟩, (t % 4), true⟩ ⟨x, y⟩).y), .int .i64 (t % 4), .bool true]) ∧ Kp w w' none := by
 have HT : Hid (∀ V, Calls Tryz.prog 58 #[.agg #[.int .i64 x, .int .i64 y, .int .i64 t, .bool true]] V fun E w' => E = .returned (.int .i64 (t % 4)) ∧ Kp V w' none) := Lib.hid fun V => (turns_any x y t true V).mono fun E w' h => ⟨h.1, by rw [h.2]; exact (Kp.refl V none).alloc _⟩
 have HAP := Lib.hid (fun V => apply_any ⟨⟨0, 0⟩, (t % 4), true⟩ ⟨x, y⟩ V h1 h2 (by unfold Mid; dsimp only; omega) (by unfold Mid; dsimp only; omega))
 have hq := apply_mid ⟨⟨0, 0⟩, (t % 4), true⟩ ⟨x, y⟩ h1 h2 rfl
 obtain ⟨u, hu⟩ : ∃ u, t % 4 = u := ⟨_, rfl⟩
 have HQE : Hid (∀ V, Sem.run Tryz.prog (binOp BinOp.eql 44 (.agg #[.int .i64 x, .int .i64 y, .int .i64 t, .bool true]) (.agg #[.int .i64 0, .int .i64 0, .int .i64 0, .bool false])) V = .ok (.bool false) V) := Lib.hid (eq44t x y t)
 rw [hu] at HAP hq HT ⊢
 dsimp only at HAP
 have HS : Hid (∀ V, Calls Tryz.prog 59 #[.agg #[.int .i64 0, .int .i64 0], .agg #[.int .i64 (Pl.apply ⟨⟨0, 0⟩, u, true⟩ ⟨x, y⟩).x, .int .i64 (Pl.apply ⟨⟨0, 0⟩, u, true⟩ ⟨x, y⟩).y]] V fun E w' => E = .returned (.agg #[.int .i64 (-(Pl.apply ⟨⟨0, 0⟩, u, true⟩ ⟨x, y⟩).x), .int .i64 (-(Pl.apply ⟨⟨0, 0⟩, u, true⟩ ⟨x, y⟩).y)]) ∧ Kp V w' none) := Lib.hid fun V => by
  have h := vsub_any 0 0 _ _ V (by unfold Mid; omega) (by unfold Mid; omega) hq.1 hq.2
  rw [Int.zero_sub, Int.zero_sub] at h
  exact h
 generalize (Pl.apply ⟨⟨0, 0⟩, u, true⟩ ⟨x, y⟩).x = ax at *
 generalize (Pl.apply ⟨⟨0, 0⟩, u, true⟩ ⟨x, y⟩).y = ay at *
 clear hq hu h1 h2 
 go_enter Tryz.func22, Tryz.ntmps22
 have hqe := HQE.out
 go_upto_region 3 with fail
 clear hqe
 have HB : Hid (((w.alloc (Obj.cells #[.int .i64 x, .int .i64 y, .int .i64 t, .bool true] 44)).alloc (Obj.cells #[.int .i64 0, .int .i64 0, .int .i64 0, .bool false] 44)).heap[w.heap.size]? = some (Obj.cells #[.int .i64 x, .int .i64 y, .int .i64 t, .bool true] 44 (0, 0))) := Lib.hid (blk (heap_alloc_new w _) ((Kp.refl _ none).alloc _))
 have HR : Hid (((w.alloc (Obj.cells #[.int .i64 x, .int .i64 y, .int .i64 t, .bool true] 44)).alloc (Obj.cells #[.int .i64 0, .int .i64 0, .int .i64 0, .bool false] 44)).heap[w.heap.size + 1]? = some (Obj.cells #[.int .i64 0, .int .i64 0, .int .i64 0, .bool false] 44 (0, 0))) := Lib.hid (by have h := heap_alloc_new (w.alloc (Obj.cells #[.int .i64 x, .int .i64 y, .int .i64 t, .bool true] 44)) (Obj.cells #[.int .i64 0, .int .i64 0, .int .i64 0, .bool false] 44); simpa using h)
 have HQ : Hid (Kp w ((w.alloc (Obj.cells #[.int .i64 x, .int .i64 y, .int .i64 t, .bool true] 44)).alloc (Obj.cells #[.int .i64 0, .int .i64 0, .int .i64 0, .bool false] 44)) none) := Lib.hid (((Kp.refl w none).alloc _).alloc _)
 generalize (w.alloc (Obj.cells #[.int .i64 x, .int .i64 y, .int .i64 t, .bool true] 44)).alloc (Obj.cells #[.int .i64 0, .int .i64 0, .int .i64 0, .bool false] 44) = wB at *
 go_cut [3] from 4 to 29 (fun s3 wx => ∃ p : Nat, s3 = .pointer (some ⟨p, 0, none⟩) ∧ wx.heap[p]? = some (.cells #[.int .i64 0, .int .i64 0, .int .i64 u, .bool true] 44 (0, 0)) ∧ w.heap.size + 2 ≤ p ∧ Kp w wx none ∧ wx.heap[w.heap.size]? = some (Obj.cells #[.int .i64 x, .int .i64 y, .int .i64 t, .bool true] 44 (0, 0)) ∧ wx.heap[w.heap.size + 1]? = some (Obj.cells #[.int .i64 0, .int .i64 0, .int .i64 0, .bool false] 44 (0, 0)))
 case first =>
  have HQn := Lib.hid (HQ.out.trans (Kp.refl wB none).drew)
  clear HQ
  have HQ := HQn
  clear HQn
  have HBn := Lib.hid (blk HB.out (Kp.refl wB none).drew)
  clear HB
  have HB := HBn
  clear HBn
  have HRn := Lib.hid (blk HR.out (Kp.refl wB none).drew)
  clear HR
  have HR := HRn
  clear HRn
  refine wp_region_last (fun V => V.cell? ⟨w.heap.size, 0, none⟩ = some (.int .i64 x) ∧ V.cell? ⟨w.heap.size, 1, none⟩ = some (.int .i64 y) ∧ V.cell? ⟨w.heap.size, 2, none⟩ = some (.int .i64 t) ∧ V.cell? ⟨w.heap.size, 3, none⟩ = some (.bool true) ∧ True) 6 (by kernel_rfl) ?_ (fun hHeld => ?_)
  ·exact ⟨hcell HB.out 0 rfl, hcell HB.out 1 rfl, hcell HB.out 2 rfl, hcell HB.out 3 rfl, trivial⟩
  generalize wB.drew = V0 at *
  refine tkL 0 rfl ?_
  try simp only [Act.put, sm]
  refine tkL 2 rfl ?_
  try simp only [Act.put, sm]
  refine tkL 3 rfl ?_
  try simp only [Act.put, sm]
  refine wpAnyL_ready (rs := [1, 5]) (by kernel_rfl) (by simp) ?_
  refine AllReadyL.cons (o := _) rfl (fun K hK => ?_) (AllReadyL.cons (o := _) rfl (fun K hK => ?_) AllReadyL.nil)
  ·clear hHeld
   go_simp
   refine (HT.out _).mono ?_
   rintro E V1 ⟨rfl, kk⟩
   have HQn := Lib.hid (HQ.out.trans kk)
   clear HQ
   have HQ := HQn
   clear HQn
   have HBn := Lib.hid (blk HB.out kk)
   clear HB
   have HB := HBn
   clear HBn
   have HRn := Lib.hid (blk HR.out kk)
   clear HR
   have HR := HRn
   clear HRn
   clear kk
   try go_wp2_with fail
   refine hK.out _ _ ?_ (fun hHeld => ?_)
   ·exact ⟨hcell HB.out 0 rfl, hcell HB.out 1 rfl, hcell HB.out 2 rfl, hcell HB.out 3 rfl, trivial⟩
   clear hK K
   try simp only [Act.put, sm]
   refine tkL 4 rfl ?_
   try simp only [Act.put, sm]
   refine wpAnyL_ready (rs := [5]) (by kernel_rfl) (by simp) ?_
   refine AllReadyL.cons (o := _) rfl (fun K hK => ?_) AllReadyL.nil
   clear hHeld
   go_simp
   have ka := (Kp.refl V1 none).alloc (.cells #[.int .i64 0, .int .i64 0, .int .i64 0, .bool false] 44)
   have HED : Hid (w.heap.size + 2 ≤ V1.heap.size) := Lib.hid (by have h1 := lt_of_block HR.out; omega)
   have HQn := Lib.hid (HQ.out.trans ka)
   clear HQ
   have HQ := HQn
   clear HQn
   have HBn := Lib.hid (blk HB.out ka)
   clear HB
   have HB := HBn
   clear HBn
   have HRn := Lib.hid (blk HR.out ka)
   clear HR
   have HR := HRn
   clear HRn
   have HE := Lib.hid (heap_alloc_new V1 (.cells #[.int .i64 0, .int .i64 0, .int .i64 0, .bool false] 44))
   clear ka
   try go_wp2_with fail
   refine hK.out _ _ ?_ (fun hHeld => ?_)
   ·exact ⟨hcell HB.out 0 rfl, hcell HB.out 1 rfl, hcell HB.out 2 rfl, hcell HB.out 3 rfl, trivial⟩
   clear hK K
   try simp only [Act.put, sm]
   generalize V1.alloc (.cells #[.int .i64 0, .int .i64 0, .int .i64 0, .bool false] 44) = V2 at *
   refine wpAnyL_ready (rs := [6]) (by kernel_rfl) (by simp) ?_
   refine AllReadyL.last (o := _) rfl (fun K hK => ?_)
   have f0 := Lib.frozen_of_heap HE.out 0
   have f1 := Lib.frozen_of_heap HE.out 1
   have f2 := Lib.frozen_of_heap HE.out 2
   have f3 := Lib.frozen_of_heap HE.out 3
   have c0 := hcell HE.out 0 rfl
   have c1 := hcell HE.out 1 rfl
   have c2 := hcell HE.out 2 rfl
   have c3 := hcell HE.out 3 rfl
   clear hHeld
   go_simp
   try go_wp2_with fail
   refine hK.out _ _ ?_
   clear hK K f0 f1 f2 f3 c0 c1 c2 c3
   try simp only [Act.put, sm]
   refine wpAnyL_done (by kernel_rfl) ?_ _
   have hst := store4 HE.out (.int .i64 0) (.int .i64 0) (.int .i64 u) (.bool true)
   have kk := hst.2
   have KF := Lib.hid (HQ.out.of_own kk (by have := HED.out; omega))
   have HBF := Lib.hid ((kk.block _ (lt_of_block HB.out) (by have := HED.out; intro q; have := Option.some.inj q; omega)).trans HB.out)
   have HRF := Lib.hid ((kk.block _ (lt_of_block HR.out) (by have := HED.out; intro q; have := Option.some.inj q; omega)).trans HR.out)
   have HEF := Lib.hid hst.1
   clear hst kk
   go_wp2_with fail
   go_meet
   exact ⟨_, rfl, HEF.out, HED.out, KF.out, HBF.out, HRF.out⟩
  ·clear hHeld
   go_simp
   have ka := (Kp.refl V0 none).alloc (.cells #[.int .i64 0, .int .i64 0, .int .i64 0, .bool false] 44)
   have HED : Hid (w.heap.size + 2 ≤ V0.heap.size) := Lib.hid (by have h1 := lt_of_block HR.out; omega)
   have HQn := Lib.hid (HQ.out.trans ka)
   clear HQ
   have HQ := HQn
   clear HQn
   have HBn := Lib.hid (blk HB.out ka)
   clear HB
   have HB := HBn
   clear HBn
   have HRn := Lib.hid (blk HR.out ka)
   clear HR
   have HR := HRn
   clear HRn
   have HE := Lib.hid (heap_alloc_new V0 (.cells #[.int .i64 0, .int .i64 0, .int .i64 0, .bool false] 44))
   clear ka
   try go_wp2_with fail
   refine hK.out _ _ ?_ (fun hHeld => ?_)
   ·exact ⟨hcell HB.out 0 rfl, hcell HB.out 1 rfl, hcell HB.out 2 rfl, hcell HB.out 3 rfl, trivial⟩
   clear hK K
   try simp only [Act.put, sm]
   generalize V0.alloc (.cells #[.int .i64 0, .int .i64 0, .int .i64 0, .bool false] 44) = V3 at *
   refine wpAnyL_ready (rs := [1]) (by kernel_rfl) (by simp) ?_
   refine AllReadyL.cons (o := _) rfl (fun K hK => ?_) AllReadyL.nil
   clear hHeld
   go_simp
   refine (HT.out _).mono ?_
   rintro E V4 ⟨rfl, kk⟩
   have HQn := Lib.hid (HQ.out.trans kk)
   clear HQ
   have HQ := HQn
   clear HQn
   have HBn := Lib.hid (blk HB.out kk)
   clear HB
   have HB := HBn
   clear HBn
   have HRn := Lib.hid (blk HR.out kk)
   clear HR
   have HR := HRn
   clear HRn
   have HEn := Lib.hid (blk HE.out kk)
   clear HE
   have HE := HEn
   clear HEn
   clear kk
   try go_wp2_with fail
   refine hK.out _ _ ?_ (fun hHeld => ?_)
   ·exact ⟨hcell HB.out 0 rfl, hcell HB.out 1 rfl, hcell HB.out 2 rfl, hcell HB.out 3 rfl, trivial⟩
   clear hK K
   try simp only [Act.put, sm]
   refine tkL 4 rfl ?_
   try simp only [Act.put, sm]
   refine wpAnyL_ready (rs := [6]) (by kernel_rfl) (by simp) ?_
   refine AllReadyL.last (o := _) rfl (fun K hK => ?_)
   have f0 := Lib.frozen_of_heap HE.out 0
   have f1 := Lib.frozen_of_heap HE.out 1
   have f2 := Lib.frozen_of_heap HE.out 2
   have f3 := Lib.frozen_of_heap HE.out 3
   have c0 := hcell HE.out 0 rfl
   have c1 := hcell HE.out 1 rfl
   have c2 := hcell HE.out 2 rfl
   have c3 := hcell HE.out 3 rfl
   clear hHeld
   go_simp
   try go_wp2_with fail
   refine hK.out _ _ ?_
   clear hK K f0 f1 f2 f3 c0 c1 c2 c3
   try simp only [Act.put, sm]
   refine wpAnyL_done (by kernel_rfl) ?_ _
   have hst := store4 HE.out (.int .i64 0) (.int .i64 0) (.int .i64 u) (.bool true)
   have kk := hst.2
   have KF := Lib.hid (HQ.out.of_own kk (by have := HED.out; omega))
   have HBF := Lib.hid ((kk.block _ (lt_of_block HB.out) (by have := HED.out; intro q; have := Option.some.inj q; omega)).trans HB.out)
   have HRF := Lib.hid ((kk.block _ (lt_of_block HR.out) (by have := HED.out; intro q; have := Option.some.inj q; omega)).trans HR.out)
   have HEF := Lib.hid hst.1
   clear hst kk
   go_wp2_with fail
   go_meet
   exact ⟨_, rfl, HEF.out, HED.out, KF.out, HBF.out, HRF.out⟩
 case rest =>
  obtain ⟨p, rfl, hE, hp, hK, hB, hR⟩ := hcut
  have HE3 := Lib.hid hE
  have HP := Lib.hid hp
  have HQ3 := Lib.hid hK
  have HB3 := Lib.hid hB
  have HR3 := Lib.hid hR
  clear hE hp hK hB hR HB HR HQ
  have b3 := hcell HB3.out 3 rfl
  go_upto_region 6 with fail
  clear b3
  have e0 := hcell HE3.out 0 rfl
  have e1 := hcell HE3.out 1 rfl
  have e2 := hcell HE3.out 2 rfl
  have e3 := hcell HE3.out 3 rfl
  have b0 := hcell HB3.out 0 rfl
  have b1 := hcell HB3.out 1 rfl
  go_wp2_with fail
  refine (HAP.out _).mono ?_
  rintro E w4 ⟨rfl, k4⟩
  have HE4 := Lib.hid (blk HE3.out k4)
  have HR4 := Lib.hid (blk HR3.out k4)
  have HQ4 := Lib.hid (HQ3.out.trans k4)
  clear k4 e0 e1 e2 e3 b0 b1 HE3 HR3 HQ3 HB3
  go_wp2_with fail
  refine (HS.out _).mono ?_
  rintro E w5 ⟨rfl, k5⟩
  have HE5 := Lib.hid (blk HE4.out k5)
  have HR5 := Lib.hid (blk HR4.out k5)
  have HQ5 := Lib.hid (HQ4.out.trans k5)
  clear k5 HE4 HR4 HQ4
  have f0 := Lib.frozen_of_heap HE5.out 0
  have f1 := Lib.frozen_of_heap HE5.out 1
  have e0 := hcell HE5.out 0 rfl
  have e1 := hcell HE5.out 1 rfl
  go_upto_region 7 with fail
  clear f0 f1 e0 e1
  have hs := heap_set (o := 1) (v := .int .i64 (-ay)) (heap_set (o := 0) (v := .int .i64 (-ax)) HE5.out)
  simp at hs
  have kz := ((Kp.refl w5 (some p)).set (o := 0) (.int .i64 (-ax))).set (o := 1) (.int .i64 (-ay))
  have HE6 := Lib.hid hs
  have HR6 := Lib.hid ((kz.block _ (lt_of_block HR5.out) (by have := HP.out; intro q; have := Option.some.inj q; omega)).trans HR5.out)
  have HQ6 := Lib.hid (HQ5.out.of_own kz (by have := HP.out; omega))
  clear hs kz HE5 HR5 HQ5
  generalize (w5.setCell ⟨p, 0, none⟩ (.int .i64 (-ax))).setCell ⟨p, 1, none⟩ (.int .i64 (-ay)) = w6 at *
  have e0 := hcell HE6.out 0 rfl
  have e1 := hcell HE6.out 1 rfl
  have e2 := hcell HE6.out 2 rfl
  have e3 := hcell HE6.out 3 rfl
  have x0 := hcell HR6.out 0 rfl
  have x1 := hcell HR6.out 1 rfl
  have x2 := hcell HR6.out 2 rfl
  have x3 := hcell HR6.out 3 rfl
  have f0 := Lib.frozen_of_heap HR6.out 0
  have f1 := Lib.frozen_of_heap HR6.out 1
  have f2 := Lib.frozen_of_heap HR6.out 2
  have f3 := Lib.frozen_of_heap HR6.out 3
  go_wp2_with fail
  have hst := store4 HR6.out (.int .i64 (-ax)) (.int .i64 (-ay)) (.int .i64 u) (.bool true)
  have KF := Lib.hid (HQ6.out.of_own hst.2 (by omega))
  have q0 := hcell hst.1 0 rfl
  have q1 := hcell hst.1 1 rfl
  have q2 := hcell hst.1 2 rfl
  have q3 := hcell hst.1 3 rfl
  clear hst e0 x0 f0 e1 x1 f1 e2 x2 f2 e3 x3 f3 HE6 HR6 HQ6
  generalize ((((w6.setCell ⟨w.heap.size + 1, 0, none⟩ (.int .i64 (-ax))).setCell ⟨w.heap.size + 1, 1, none⟩ (.int .i64 (-ay))).setCell ⟨w.heap.size + 1, 2, none⟩ (.int .i64 u)).setCell ⟨w.heap.size + 1, 3, none⟩ (.bool true)) = wf at *
  exact bodyPost_ret (v := .agg #[.int .i64 (-ax), .int .i64 (-ay), .int .i64 u, .bool true]) (by simp [results, Tryz.results22, go_sem, q0, q1, q2, q3]) rfl ⟨rfl, KF.out⟩
theorem inverse_any (m : Pl.Mo) (w : World) (h1 : Mid m.at_.x) (h2 : Mid m.at_.y) : Calls Tryz.prog 22 #[.agg #[.int .i64 m.at_.x, .int .i64 m.at_.y, .int .i64 m.turn, .bool m.mirror]] w fun E w' => E = .returned (.agg #[.int .i64 (Pl.inv m).at_.x, .int .i64 (Pl.inv m).at_.y, .int .i64 (Pl.inv m).turn, .bool (Pl.inv m).mirror]) ∧ Kp w w' none := by
 obtain ⟨⟨x, y⟩, t, b⟩ := m
 cases b
 ·exact inverse_false x y t w h1 h2
 ·exact inverse_true x y t w h1 h2
end Go.Proofs.YtljjbdbgedmadaaGreatDoor
