/- Discs, rectangles, circles and rounded rectangles that are made. Condition: coordinates of at most 2^61. -/
import Derived.Test.YtggplbenliaodaaGreatDoorLp
namespace Go.Proofs.YtggplbenliaodaaGreatDoor
open Go.RowKit

/-- A block of four points. -/
theorem pts4 (w : World) (x0 y0 x1 y1 x2 y2 x3 y3 : Int) : LiesAt 2 ptC (w.alloc (Obj.cells #[.int .i64 x0, .int .i64 y0, .int .i64 x1, .int .i64 y1, .int .i64 x2, .int .i64 y2, .int .i64 x3, .int .i64 y3] 37)) (some ⟨w.heap.size, 0, none⟩) 4 [⟨x0, y0⟩, ⟨x1, y1⟩, ⟨x2, y2⟩, ⟨x3, y3⟩] := fun k hk => by
  refine ⟨w.heap.size, 0, rfl, by simp, Nat.le_refl _, fun j hj => ?_⟩
  have hk' : k = 0 ∨ k = 1 ∨ k = 2 ∨ k = 3 := by simp at hk; omega
  have hj' : j = 0 ∨ j = 1 := by
    have : j < 2 := by rcases hk' with rfl | rfl | rfl | rfl <;> simpa [ptC] using hj
    omega
  rcases hk' with rfl | rfl | rfl | rfl <;> rcases hj' with rfl | rfl <;> exact hcell (heap_alloc_new w _) _ rfl
set_option maxHeartbeats 4000000 in
set_option maxRecDepth 100000 in
theorem disc_any (x y r : Int) (w : World) : Calls Tryz.prog 20 #[.agg #[.int .i64 x, .int .i64 y], .int .i64 r] w (ShapeIs w (Pl.disc ⟨x, y⟩ r)) := by
  go_enter Tryz.func20, Tryz.ntmps20
  go_wp2_with fail
  go_returns
  have hl := ed_list (w := (w.alloc (Obj.cells #[.int .i64 x, .int .i64 y] 37)).alloc (Obj.cells #[.int .i64 1, .slice (some ⟨w.heap.size + 1 + 1, 0, none⟩) 1 1, .int .i64 r] 25)) (Pl.line ⟨x, y⟩ ⟨x, y⟩)
  simp at hl
  exact ⟨_, _, rfl, hl.lies, fun p hp => by injection hp with hp; subst hp; dsimp only; omega, (((Kp.refl w none).alloc _).alloc _).alloc _⟩


set_option maxHeartbeats 4000000 in
set_option maxRecDepth 100000 in
theorem rrect_any (x0 y0 x1 y1 : Int) (w : World) : Calls Tryz.prog 42 #[.agg #[.int .i64 x0, .int .i64 y0, .int .i64 x1, .int .i64 y1]] w (ShapeIs w ⟨2, Pl.loopE [⟨x0, y0⟩, ⟨x1, y0⟩, ⟨x1, y1⟩, ⟨x0, y1⟩] 4, 0⟩) := by
  go_enter Tryz.func42, Tryz.ntmps42
  go_wp2_with fail
  have HL := Lib.hid (pts4 ((w.alloc (Obj.cells #[.int .i64 x0, .int .i64 y0, .int .i64 x1, .int .i64 y1] 88)).alloc (Obj.cells #[.int .i64 0, .slice none 0 0, .int .i64 0] 25)) x0 y0 x1 y0 x1 y1 x0 y1)
  simp at HL
  have HR0 : Hid (((w.alloc (Obj.cells #[.int .i64 x0, .int .i64 y0, .int .i64 x1, .int .i64 y1] 88)).alloc (Obj.cells #[.int .i64 0, .slice none 0 0, .int .i64 0] 25)).heap[w.heap.size + 1]? = some (Obj.cells #[.int .i64 0, .slice none 0 0, .int .i64 0] 25 (0, 0))) := Lib.hid (by have h := heap_alloc_new (w.alloc (Obj.cells #[.int .i64 x0, .int .i64 y0, .int .i64 x1, .int .i64 y1] 88)) (Obj.cells #[.int .i64 0, .slice none 0 0, .int .i64 0] 25); simpa using h)
  refine (loop_any [⟨x0, y0⟩, ⟨x1, y0⟩, ⟨x1, y1⟩, ⟨x0, y1⟩] 4 rfl _ _ _ HL.out (by omega) (by omega)).mono ?_
  rintro E w1 ⟨ea, ec, rfl, hl, hf, k1⟩
  have HR := Lib.hid (blk HR0.out (((Kp.refl _ none).alloc _).trans k1))
  have K1 := Lib.hid ((((Kp.refl w none).alloc _).alloc _).trans (((Kp.refl _ none).alloc _).trans k1))
  have HLI := Lib.hid hl
  have FRX : Hid (∀ p, ea = some p → w.heap.size ≤ p.block ∧ p.block ≠ w.heap.size + 1) := Lib.hid (fun p hp => by have := hf p hp; simp at this; omega)
  clear hl hf k1 HL HR0
  have g0 := Lib.frozen_of_heap HR.out 0
  have g1 := Lib.frozen_of_heap HR.out 1
  have g2 := Lib.frozen_of_heap HR.out 2
  have x0' : w1.cell? ⟨w.heap.size + 1, 0, none⟩ = some (.int .i64 0) := hcell HR.out 0 rfl
  have x1' : w1.cell? ⟨w.heap.size + 1, 1, none⟩ = some (.slice none 0 0) := hcell HR.out 1 rfl
  have x2' : w1.cell? ⟨w.heap.size + 1, 2, none⟩ = some (.int .i64 0) := hcell HR.out 2 rfl
  go_wp2_with fail
  clear x0' x1' x2' g0 g1 g2
  have hs0 := heap_set (o := 0) (v := .int .i64 2) HR.out
  have hs1 := heap_set (o := 1) (v := .slice ea (Pl.loopE [⟨x0, y0⟩, ⟨x1, y0⟩, ⟨x1, y1⟩, ⟨x0, y1⟩] 4).length ec) hs0
  have hs2 := heap_set (o := 2) (v := .int .i64 0) hs1
  have q0 := Lib.cell_of_heap hs2 0
  have q1 := Lib.cell_of_heap hs2 1
  have q2 := Lib.cell_of_heap hs2 2
  simp at q0 q1 q2
  have HO : Hid (LiesAt 7 edC (((w1.setCell ⟨w.heap.size + 1, 0, none⟩ (.int .i64 2)).setCell ⟨w.heap.size + 1, 1, none⟩ (.slice ea (Pl.loopE [⟨x0, y0⟩, ⟨x1, y0⟩, ⟨x1, y1⟩, ⟨x0, y1⟩] 4).length ec)).setCell ⟨w.heap.size + 1, 2, none⟩ (.int .i64 0)) ea ec _) := Lib.hid (HLI.out.keepRow ((((Kp.refl w1 (some (w.heap.size + 1))).set (.int .i64 2)).set (.slice ea (Pl.loopE [⟨x0, y0⟩, ⟨x1, y0⟩, ⟨x1, y1⟩, ⟨x0, y1⟩] 4).length ec)).set (.int .i64 0)) (fun p hp => (FRX.out p hp).2))
  have KF : Hid (Kp w (((w1.setCell ⟨w.heap.size + 1, 0, none⟩ (.int .i64 2)).setCell ⟨w.heap.size + 1, 1, none⟩ (.slice ea (Pl.loopE [⟨x0, y0⟩, ⟨x1, y0⟩, ⟨x1, y1⟩, ⟨x0, y1⟩] 4).length ec)).setCell ⟨w.heap.size + 1, 2, none⟩ (.int .i64 0)) none) := Lib.hid (K1.out.of_own ((((Kp.refl w1 (some (w.heap.size + 1))).set (.int .i64 2)).set (.slice ea (Pl.loopE [⟨x0, y0⟩, ⟨x1, y0⟩, ⟨x1, y1⟩, ⟨x0, y1⟩] 4).length ec)).set (.int .i64 0)) (by omega))
  clear hs0 hs1 hs2
  generalize (((w1.setCell ⟨w.heap.size + 1, 0, none⟩ (.int .i64 2)).setCell ⟨w.heap.size + 1, 1, none⟩ (.slice ea (Pl.loopE [⟨x0, y0⟩, ⟨x1, y0⟩, ⟨x1, y1⟩, ⟨x0, y1⟩] 4).length ec)).setCell ⟨w.heap.size + 1, 2, none⟩ (.int .i64 0)) = wf at *
  exact bodyPost_ret (v := .agg #[.int .i64 2, .slice ea (Pl.loopE [⟨x0, y0⟩, ⟨x1, y0⟩, ⟨x1, y1⟩, ⟨x0, y1⟩] 4).length ec, .int .i64 0]) (by simp [results, Tryz.results42, go_sem, q0, q1, q2]) rfl ⟨ea, ec, rfl, HO.out, fun p hp => (FRX.out p hp).1, KF.out⟩


def CiRel (cx cy r kind : Int) (w : World) (i : Value) (wr : World) : Prop := ∃ k : Nat, k ≤ 4 ∧ i = .int .i64 k ∧ Kp w wr none ∧ wr.heap[w.heap.size]? = some (.cells #[.int .i64 cx, .int .i64 cy] 37 (0, 0)) ∧ wr.heap[w.heap.size + 1]? = some (Obj.cells #[.int .i64 0, .slice none 0 0, .int .i64 0] 25 (0, 0)) ∧ ∃ u, Bs (w.heap.size + 1 + 1) (w.heap.size + 1 + 1 + 1) 2 (Pl.circE ⟨cx, cy⟩ r kind k) 0 u wr
set_option maxHeartbeats 4000000 in
set_option maxRecDepth 100000 in
theorem circ_left (cx cy r : Int) (w : World) (h1 : Mid cx) (h2 : Mid cy) (h3 : 0 ≤ r ∧ r ≤ 1000000) : Calls Tryz.prog 48 #[.agg #[.int .i64 cx, .int .i64 cy], .int .i64 r, .int .i64 2] w (ShapeIs w ⟨2, Pl.circE ⟨cx, cy⟩ r 2 4, 0⟩) := by
  obtain ⟨i0, hi, hz0, hz1, hz2⟩ := info_parts infoEd
  go_enter Tryz.func48, Tryz.ntmps48
  go_wp2_with fail
  go_loopw [8] (fun i wr => CiRel cx cy r 2 w i wr) (fun i _ => 4 - (intOf i).toNat)
  case atStart =>
    exact ⟨0, Nat.zero_le _, rfl, (((Kp.refl w none).alloc _).alloc _).alloc _, blk (blk (heap_alloc_new w _) ((Kp.refl _ none).alloc _)) ((Kp.refl _ none).alloc _), blk (by have h := heap_alloc_new (w.alloc (Obj.cells #[.int .i64 cx, .int .i64 cy] 37)) (Obj.cells #[.int .i64 0, .slice none 0 0, .int .i64 0] 25); simpa using h) ((Kp.refl _ none).alloc _), _, by
      have h := Bs.new ((w.alloc (Obj.cells #[.int .i64 cx, .int .i64 cy] 37)).alloc (Obj.cells #[.int .i64 0, .slice none 0 0, .int .i64 0] 25)) 2
      simpa [Pl.circE] using h⟩
  case round =>
    obtain ⟨k, hk, rfl, hK, hX, hR, u, hB⟩ := hrel
    have HK := Lib.hid hK
    have HR := Lib.hid hR
    have HX := Lib.hid hX
    have HB := Lib.hid hB
    clear hK hR hB hX
    have hk0 : (0 : Int) ≤ (k : Int) := Int.natCast_nonneg _
    by_cases hlt : k < 4
    · have hk1 : (k : Int) < 4 := by omega
      have HLN : Hid ((Pl.circE ⟨cx, cy⟩ r 2 k).length ≤ 8) := Lib.hid (by rw [Pl.circE_length]; omega)
      obtain ⟨e, he⟩ : ∃ e, Pl.circAt ⟨cx, cy⟩ r 2 k = e := ⟨_, rfl⟩
      have HC : Hid (∀ V, Calls Tryz.prog 68 #[.agg #[.int .i64 cx, .int .i64 cy], .int .i64 r, .int .i64 ((k : Int)), .int .i64 2] V fun E w' => E = .returned (.agg #[.int .i64 e.k, .int .i64 e.a.x, .int .i64 e.a.y, .int .i64 e.b.x, .int .i64 e.b.y, .int .i64 e.c.x, .int .i64 e.c.y]) ∧ Kp V w' none) := Lib.hid (fun V => by rw [← he]; exact rarc_any cx cy r ((k : Int)) 2 V h1 h2 h3 (by omega))
      have HE : Hid (Pl.circAt ⟨cx, cy⟩ r 2 k = e) := Lib.hid he
      have hw4 : wrap64 (4 - (k : Int)) = 4 - (k : Int) := wrap_mid (by omega) (by omega)
      have HMK : Hid (∀ v wq, Kp w wq none → wq.heap[w.heap.size]? = some (.cells #[.int .i64 cx, .int .i64 cy] 37 (0, 0)) → wq.heap[w.heap.size + 1]? = some (Obj.cells #[.int .i64 0, .slice none 0 0, .int .i64 0] 25 (0, 0)) → Bs (w.heap.size + 1 + 1) (w.heap.size + 1 + 1 + 1) 2 (Pl.circE ⟨cx, cy⟩ r 2 (k + 1)) 0 v wq → CiRel cx cy r 2 w (.int .i64 (k + 1)) wq) := Lib.hid (fun v wq k1 k2 k3 k4 => ⟨k + 1, by omega, by go_num, k1, k2, k3, v, k4⟩)
      clear he
      go_wp2_with fail
      have HA0 := Lib.hid (HB.out.keep (Kp.refl wr none).drew)
      have KA0 : Hid (Kp w wr.drew none) := Lib.hid HK.out.drew
      have HX0 := Lib.hid (blk HX.out (Kp.refl wr none).drew)
      have HR0 := Lib.hid (blk HR.out (Kp.refl wr none).drew)
      refine wp_region_last (fun V => V.cell? ⟨w.heap.size + 1 + 1, 1, none⟩ = some u ∧ V.cell? ⟨w.heap.size, 0, none⟩ = some (.int .i64 cx) ∧ V.cell? ⟨w.heap.size, 1, none⟩ = some (.int .i64 cy) ∧ True) 10 (by kernel_rfl) ?_ (fun hHeld => ?_)
      · exact ⟨HA0.out.cell, hcell HX0.out 0 rfl, hcell HX0.out 1 rfl, trivial⟩
      refine tkL 0 rfl ?_
      try simp only [Act.put, sm]
      refine tkL 1 rfl ?_
      try simp only [Act.put, sm]
      refine tkL 2 rfl ?_
      try simp only [Act.put, sm]
      refine tkL 3 rfl ?_
      try simp only [Act.put, sm]
      refine tkL 4 rfl ?_
      try simp only [Act.put, sm]
      refine tkL 5 rfl ?_
      try simp only [Act.put, sm]
      refine wpAnyL_ready (rs := [6]) (by kernel_rfl) (by simp) ?_
      refine AllReadyL.cons (o := _) rfl (fun K hK => ?_) AllReadyL.nil
      have gK := hHeld
      clear hHeld
      clear gK
      go_simp
      refine (HC.out _).mono ?_
      rintro e w2 ⟨rfl, kk⟩
      have HA1 := Lib.hid (HA0.out.keep kk)
      have KA1 : Hid (Kp w w2 none) := Lib.hid (KA0.out.trans kk)
      have HX1 := Lib.hid (blk HX0.out kk)
      have HR1 := Lib.hid (blk HR0.out kk)
      clear HA0 KA0 HX0 HR0 kk
      have HA0 := HA1
      have KA0 := KA1
      have HX0 := HX1
      have HR0 := HR1
      clear HA1 KA1 HX1 HR1
      try go_wp2_with fail
      refine hK.out _ _ ?_ (fun hHeld => ?_)
      · exact ⟨HA0.out.cell, hcell HX0.out 0 rfl, hcell HX0.out 1 rfl, trivial⟩
      clear hK K
      try simp only [Act.put, sm]
      refine wpAnyL_ready (rs := [7]) (by kernel_rfl) (by simp) ?_
      refine AllReadyL.cons (o := _) rfl (fun K hK => ?_) AllReadyL.nil
      have gK := hHeld
      clear hHeld
      clear gK
      go_simp
      try go_wp2_with fail
      have HA1 := Lib.hid (HA0.out.keep ((Kp.refl _ none).alloc (Obj.cells #[.int .i64 e.k, .int .i64 e.a.x, .int .i64 e.a.y, .int .i64 e.b.x, .int .i64 e.b.y, .int .i64 e.c.x, .int .i64 e.c.y] 39)))
      have KA1 : Hid (Kp w _ none) := Lib.hid (KA0.out.alloc (Obj.cells #[.int .i64 e.k, .int .i64 e.a.x, .int .i64 e.a.y, .int .i64 e.b.x, .int .i64 e.b.y, .int .i64 e.c.x, .int .i64 e.c.y] 39))
      have HX1 := Lib.hid (blk HX0.out ((Kp.refl _ none).alloc (Obj.cells #[.int .i64 e.k, .int .i64 e.a.x, .int .i64 e.a.y, .int .i64 e.b.x, .int .i64 e.b.y, .int .i64 e.c.x, .int .i64 e.c.y] 39)))
      have HR1 := Lib.hid (blk HR0.out ((Kp.refl _ none).alloc (Obj.cells #[.int .i64 e.k, .int .i64 e.a.x, .int .i64 e.a.y, .int .i64 e.b.x, .int .i64 e.b.y, .int .i64 e.c.x, .int .i64 e.c.y] 39)))
      have HE1 : Hid (IsList 7 edC _ _ [e]) := Lib.hid (ed_list (w := w2) e)
      refine hK.out _ _ ?_ (fun hHeld => ?_)
      · exact ⟨HA1.out.cell, hcell HX1.out 0 rfl, hcell HX1.out 1 rfl, trivial⟩
      clear hK K HA0 KA0 HX0 HR0
      try simp only [Act.put, sm]
      refine wpAnyL_ready (rs := [8]) (by kernel_rfl) (by simp) ?_
      refine AllReadyL.cons (o := _) rfl (fun K hK => ?_) AllReadyL.nil
      have gK := hHeld
      clear hHeld
      clear gK
      refine step_app (f := edC) rfl (.tmp 21) (.tmp 27) (w.heap.size + 1 + 1 + 1) 23 39 rfl i0 _ 7 56 (by kernel_rfl) hi hz0 hz1 hz2 rfl (by omega) (fun _ => rfl) (by intro x q hq; simp [edC] at hq; rcases hq with rfl | rfl | rfl | rfl | rfl | rfl | rfl <;> rfl) _ _ _ rfl HA1.out.2.2 _ [e] rfl HE1.out (by have := HLN.out; unfold maxLen; simp <;> omega) (by have := HLN.out; simp <;> omega) HA1.out.2.1.2 ?_
      intro v3 w3 ho hg hb
      obtain ⟨ea3, ec3, rfl⟩ := own_slice ho
      have HO3 := Lib.hid ho
      have HG3 := Lib.hid hg
      have HX3 := Lib.hid (res_kept HX1.out hg (fun q hq => by have := (HA1.out.2.2.lt q hq).1; have := HA1.out.2.1.1; omega))
      have HR3 := Lib.hid (res_kept HR1.out hg (fun q hq => by have := (HA1.out.2.2.lt q hq).1; have := HA1.out.2.1.1; omega))
      clear ho hg hb
      try simp only [Act.put, sm]
      have hA3 : Hid (w3.heap[_]? = _) := Lib.hid (HA1.out.other HG3.out)
      have KA3 : Hid (Kp w w3 none) := Lib.hid (Kp.row KA1.out HG3.out (fun q hq => by have := (HA1.out.2.2.lt q hq).1; have := HA1.out.2.1.1; omega))
      refine hK _ _ ?_ (fun hHeld => ?_)
      · exact ⟨(hcell hA3.out 1 rfl), hcell HX3.out 0 rfl, hcell HX3.out 1 rfl, trivial⟩
      clear hK K
      try simp only [Act.put, sm]
      refine tkL 9 rfl ?_
      try simp only [Act.put, sm]
      refine wpAnyL_ready (rs := [10]) (by kernel_rfl) (by simp) ?_
      refine AllReadyL.last (o := _) rfl (fun K hK => ?_)
      have f3 := Lib.frozen_of_heap hA3.out 1
      have c3 : w3.cell? ⟨w.heap.size + 1 + 1, 1, none⟩ = some u := hcell hA3.out 1 rfl
      clear hHeld
      go_simp
      try go_wp2_with fail
      refine hK.out _ _ ?_
      clear hK K
      try simp only [Act.put, sm]
      have HF : Hid (Bs (w.heap.size + 1 + 1) (w.heap.size + 1 + 1 + 1) 2 (Pl.circE ⟨cx, cy⟩ r 2 (k + 1)) 0 (.slice ea3 ((Pl.circE ⟨cx, cy⟩ r 2 k).length + [e].length) ec3) (w3.setCell ⟨w.heap.size + 1 + 1, 1, none⟩ (.slice ea3 ((Pl.circE ⟨cx, cy⟩ r 2 k).length + [e].length) ec3))) := Lib.hid (HA1.out.put HG3.out HO3.out (by rw [Pl.circE_length, Pl.circE_length]; rfl) (by rw [Pl.circE_step, List.flatMap_append, HE.out]))
      have KF : Hid (Kp w (w3.setCell ⟨w.heap.size + 1 + 1, 1, none⟩ (.slice ea3 ((Pl.circE ⟨cx, cy⟩ r 2 k).length + [e].length) ec3)) none) := Lib.hid (HA1.out.far KA1.out (by omega) HG3.out)
      have HXF := Lib.hid (res_set (i := 1) (A := w.heap.size + 1 + 1) (v := (.slice ea3 ((Pl.circE ⟨cx, cy⟩ r 2 k).length + [e].length) ec3)) HX3.out (by omega))
      have HRF := Lib.hid (res_set (i := 1) (A := w.heap.size + 1 + 1) (v := (.slice ea3 ((Pl.circE ⟨cx, cy⟩ r 2 k).length + [e].length) ec3)) HR3.out (by omega))
      clear f3 c3 HO3 hA3 KA3 HA1 KA1 HE1 HG3 HX1 HX3 HR1 HR3
      generalize w3.setCell ⟨w.heap.size + 1 + 1, 1, none⟩ (.slice ea3 ((Pl.circE ⟨cx, cy⟩ r 2 k).length + [e].length) ec3) = wF at *
      refine wpAnyL_done (by kernel_rfl) ?_ _
      have HREL := Lib.hid (HMK.out _ _ KF.out HXF.out HRF.out HF.out)
      clear HF KF HXF HRF HMK
      go_wp2_with fail
      first | exact ⟨HREL.out, by simp [intOf]; omega⟩ | (go_roundw; all_goals first | exact HREL.out | (simp [intOf]; omega))
    · have hk1 : ¬ (k : Int) < 4 := by omega
      have hkn : k = 4 := by omega
      subst hkn
      clear hk1 hk0 hk
      obtain ⟨ea, ec, rfl⟩ := HB.out.slice
      have hc0 : wr.cell? ⟨w.heap.size + 1 + 1, 0, none⟩ = some (.int .i64 2) := hcell HB.out.1 0 rfl
      have hc1 : wr.cell? ⟨w.heap.size + 1 + 1, 1, none⟩ = some (.slice ea (Pl.circE ⟨cx, cy⟩ r 2 4).length ec) := hcell HB.out.1 1 rfl
      have hc2 : wr.cell? ⟨w.heap.size + 1 + 1, 2, none⟩ = some (.int .i64 0) := hcell HB.out.1 2 rfl
      have g0 := Lib.frozen_of_heap HR.out 0
      have g1 := Lib.frozen_of_heap HR.out 1
      have g2 := Lib.frozen_of_heap HR.out 2
      have x0 : wr.cell? ⟨w.heap.size + 1, 0, none⟩ = some (.int .i64 0) := hcell HR.out 0 rfl
      have x1 : wr.cell? ⟨w.heap.size + 1, 1, none⟩ = some (.slice none 0 0) := hcell HR.out 1 rfl
      have x2 : wr.cell? ⟨w.heap.size + 1, 2, none⟩ = some (.int .i64 0) := hcell HR.out 2 rfl
      go_wp2_with fail
      clear x0 x1 x2 g0 g1 g2 hc0 hc1 hc2
      have hs0 := heap_set (o := 0) (v := .int .i64 2) HR.out
      have hs1 := heap_set (o := 1) (v := .slice ea (Pl.circE ⟨cx, cy⟩ r 2 4).length ec) hs0
      have hs2 := heap_set (o := 2) (v := .int .i64 0) hs1
      have q0 := Lib.cell_of_heap hs2 0
      have q1 := Lib.cell_of_heap hs2 1
      have q2 := Lib.cell_of_heap hs2 2
      simp at q0 q1 q2
      have HO := Lib.hid (Bs.out (R := w.heap.size + 1) (x0 := .int .i64 2) (x1 := .slice ea (Pl.circE ⟨cx, cy⟩ r 2 4).length ec) (x2 := .int .i64 0) HB.out (by omega)).2
      have KF : Hid (Kp w (((wr.setCell ⟨w.heap.size + 1, 0, none⟩ (.int .i64 2)).setCell ⟨w.heap.size + 1, 1, none⟩ (.slice ea (Pl.circE ⟨cx, cy⟩ r 2 4).length ec)).setCell ⟨w.heap.size + 1, 2, none⟩ (.int .i64 0)) none) := Lib.hid (HK.out.of_own ((((Kp.refl wr (some (w.heap.size + 1))).set (.int .i64 2)).set (.slice ea (Pl.circE ⟨cx, cy⟩ r 2 4).length ec)).set (.int .i64 0)) (by omega))
      have FR : Hid (∀ p, ea = some p → w.heap.size ≤ p.block) := Lib.hid (fun p hp => by have := HB.out.fresh p hp; omega)
      clear hs0 hs1 hs2
      generalize (((wr.setCell ⟨w.heap.size + 1, 0, none⟩ (.int .i64 2)).setCell ⟨w.heap.size + 1, 1, none⟩ (.slice ea (Pl.circE ⟨cx, cy⟩ r 2 4).length ec)).setCell ⟨w.heap.size + 1, 2, none⟩ (.int .i64 0)) = wf at *
      exact bodyPost_ret (v := .agg #[.int .i64 2, .slice ea (Pl.circE ⟨cx, cy⟩ r 2 4).length ec, .int .i64 0]) (by simp [results, Tryz.results48, go_sem, q0, q1, q2]) rfl ⟨ea, ec, rfl, HO.out, FR.out, KF.out⟩

set_option maxHeartbeats 4000000 in
set_option maxRecDepth 100000 in
theorem circ_right (cx cy r : Int) (w : World) (h1 : Mid cx) (h2 : Mid cy) (h3 : 0 ≤ r ∧ r ≤ 1000000) : Calls Tryz.prog 48 #[.agg #[.int .i64 cx, .int .i64 cy], .int .i64 r, .int .i64 3] w (ShapeIs w ⟨2, Pl.circE ⟨cx, cy⟩ r 3 4, 0⟩) := by
  obtain ⟨i0, hi, hz0, hz1, hz2⟩ := info_parts infoEd
  go_enter Tryz.func48, Tryz.ntmps48
  go_wp2_with fail
  go_loopw [8] (fun i wr => CiRel cx cy r 3 w i wr) (fun i _ => 4 - (intOf i).toNat)
  case atStart =>
    exact ⟨0, Nat.zero_le _, rfl, (((Kp.refl w none).alloc _).alloc _).alloc _, blk (blk (heap_alloc_new w _) ((Kp.refl _ none).alloc _)) ((Kp.refl _ none).alloc _), blk (by have h := heap_alloc_new (w.alloc (Obj.cells #[.int .i64 cx, .int .i64 cy] 37)) (Obj.cells #[.int .i64 0, .slice none 0 0, .int .i64 0] 25); simpa using h) ((Kp.refl _ none).alloc _), _, by
      have h := Bs.new ((w.alloc (Obj.cells #[.int .i64 cx, .int .i64 cy] 37)).alloc (Obj.cells #[.int .i64 0, .slice none 0 0, .int .i64 0] 25)) 2
      simpa [Pl.circE] using h⟩
  case round =>
    obtain ⟨k, hk, rfl, hK, hX, hR, u, hB⟩ := hrel
    have HK := Lib.hid hK
    have HR := Lib.hid hR
    have HX := Lib.hid hX
    have HB := Lib.hid hB
    clear hK hR hB hX
    have hk0 : (0 : Int) ≤ (k : Int) := Int.natCast_nonneg _
    by_cases hlt : k < 4
    · have hk1 : (k : Int) < 4 := by omega
      have HLN : Hid ((Pl.circE ⟨cx, cy⟩ r 3 k).length ≤ 8) := Lib.hid (by rw [Pl.circE_length]; omega)
      obtain ⟨e, he⟩ : ∃ e, Pl.circAt ⟨cx, cy⟩ r 3 k = e := ⟨_, rfl⟩
      have HC : Hid (∀ V, Calls Tryz.prog 68 #[.agg #[.int .i64 cx, .int .i64 cy], .int .i64 r, .int .i64 (4 - (k : Int)), .int .i64 3] V fun E w' => E = .returned (.agg #[.int .i64 e.k, .int .i64 e.a.x, .int .i64 e.a.y, .int .i64 e.b.x, .int .i64 e.b.y, .int .i64 e.c.x, .int .i64 e.c.y]) ∧ Kp V w' none) := Lib.hid (fun V => by rw [← he]; exact rarc_any cx cy r (4 - (k : Int)) 3 V h1 h2 h3 (by omega))
      have HE : Hid (Pl.circAt ⟨cx, cy⟩ r 3 k = e) := Lib.hid he
      have hw4 : wrap64 (4 - (k : Int)) = 4 - (k : Int) := wrap_mid (by omega) (by omega)
      have HMK : Hid (∀ v wq, Kp w wq none → wq.heap[w.heap.size]? = some (.cells #[.int .i64 cx, .int .i64 cy] 37 (0, 0)) → wq.heap[w.heap.size + 1]? = some (Obj.cells #[.int .i64 0, .slice none 0 0, .int .i64 0] 25 (0, 0)) → Bs (w.heap.size + 1 + 1) (w.heap.size + 1 + 1 + 1) 2 (Pl.circE ⟨cx, cy⟩ r 3 (k + 1)) 0 v wq → CiRel cx cy r 3 w (.int .i64 (k + 1)) wq) := Lib.hid (fun v wq k1 k2 k3 k4 => ⟨k + 1, by omega, by go_num, k1, k2, k3, v, k4⟩)
      clear he
      go_wp2_with fail
      have HA0 := Lib.hid (HB.out.keep (Kp.refl wr none).drew)
      have KA0 : Hid (Kp w wr.drew none) := Lib.hid HK.out.drew
      have HX0 := Lib.hid (blk HX.out (Kp.refl wr none).drew)
      have HR0 := Lib.hid (blk HR.out (Kp.refl wr none).drew)
      refine wp_region_last (fun V => V.cell? ⟨w.heap.size + 1 + 1, 1, none⟩ = some u ∧ V.cell? ⟨w.heap.size, 0, none⟩ = some (.int .i64 cx) ∧ V.cell? ⟨w.heap.size, 1, none⟩ = some (.int .i64 cy) ∧ True) 10 (by kernel_rfl) ?_ (fun hHeld => ?_)
      · exact ⟨HA0.out.cell, hcell HX0.out 0 rfl, hcell HX0.out 1 rfl, trivial⟩
      refine tkL 0 rfl ?_
      try simp only [Act.put, sm]
      refine tkL 1 rfl ?_
      try simp only [Act.put, sm]
      refine tkL 2 rfl ?_
      try simp only [Act.put, sm]
      refine tkL 3 rfl ?_
      try simp only [Act.put, sm]
      refine tkL 4 rfl ?_
      try simp only [Act.put, sm]
      refine tkL 5 rfl ?_
      try simp only [Act.put, sm]
      refine wpAnyL_ready (rs := [6]) (by kernel_rfl) (by simp) ?_
      refine AllReadyL.cons (o := _) rfl (fun K hK => ?_) AllReadyL.nil
      have gK := hHeld
      clear hHeld
      clear gK
      go_simp
      refine (HC.out _).mono ?_
      rintro e w2 ⟨rfl, kk⟩
      have HA1 := Lib.hid (HA0.out.keep kk)
      have KA1 : Hid (Kp w w2 none) := Lib.hid (KA0.out.trans kk)
      have HX1 := Lib.hid (blk HX0.out kk)
      have HR1 := Lib.hid (blk HR0.out kk)
      clear HA0 KA0 HX0 HR0 kk
      have HA0 := HA1
      have KA0 := KA1
      have HX0 := HX1
      have HR0 := HR1
      clear HA1 KA1 HX1 HR1
      try go_wp2_with fail
      refine hK.out _ _ ?_ (fun hHeld => ?_)
      · exact ⟨HA0.out.cell, hcell HX0.out 0 rfl, hcell HX0.out 1 rfl, trivial⟩
      clear hK K
      try simp only [Act.put, sm]
      refine wpAnyL_ready (rs := [7]) (by kernel_rfl) (by simp) ?_
      refine AllReadyL.cons (o := _) rfl (fun K hK => ?_) AllReadyL.nil
      have gK := hHeld
      clear hHeld
      clear gK
      go_simp
      try go_wp2_with fail
      have HA1 := Lib.hid (HA0.out.keep ((Kp.refl _ none).alloc (Obj.cells #[.int .i64 e.k, .int .i64 e.a.x, .int .i64 e.a.y, .int .i64 e.b.x, .int .i64 e.b.y, .int .i64 e.c.x, .int .i64 e.c.y] 39)))
      have KA1 : Hid (Kp w _ none) := Lib.hid (KA0.out.alloc (Obj.cells #[.int .i64 e.k, .int .i64 e.a.x, .int .i64 e.a.y, .int .i64 e.b.x, .int .i64 e.b.y, .int .i64 e.c.x, .int .i64 e.c.y] 39))
      have HX1 := Lib.hid (blk HX0.out ((Kp.refl _ none).alloc (Obj.cells #[.int .i64 e.k, .int .i64 e.a.x, .int .i64 e.a.y, .int .i64 e.b.x, .int .i64 e.b.y, .int .i64 e.c.x, .int .i64 e.c.y] 39)))
      have HR1 := Lib.hid (blk HR0.out ((Kp.refl _ none).alloc (Obj.cells #[.int .i64 e.k, .int .i64 e.a.x, .int .i64 e.a.y, .int .i64 e.b.x, .int .i64 e.b.y, .int .i64 e.c.x, .int .i64 e.c.y] 39)))
      have HE1 : Hid (IsList 7 edC _ _ [e]) := Lib.hid (ed_list (w := w2) e)
      refine hK.out _ _ ?_ (fun hHeld => ?_)
      · exact ⟨HA1.out.cell, hcell HX1.out 0 rfl, hcell HX1.out 1 rfl, trivial⟩
      clear hK K HA0 KA0 HX0 HR0
      try simp only [Act.put, sm]
      refine wpAnyL_ready (rs := [8]) (by kernel_rfl) (by simp) ?_
      refine AllReadyL.cons (o := _) rfl (fun K hK => ?_) AllReadyL.nil
      have gK := hHeld
      clear hHeld
      clear gK
      refine step_app (f := edC) rfl (.tmp 21) (.tmp 27) (w.heap.size + 1 + 1 + 1) 23 39 rfl i0 _ 7 56 (by kernel_rfl) hi hz0 hz1 hz2 rfl (by omega) (fun _ => rfl) (by intro x q hq; simp [edC] at hq; rcases hq with rfl | rfl | rfl | rfl | rfl | rfl | rfl <;> rfl) _ _ _ rfl HA1.out.2.2 _ [e] rfl HE1.out (by have := HLN.out; unfold maxLen; simp <;> omega) (by have := HLN.out; simp <;> omega) HA1.out.2.1.2 ?_
      intro v3 w3 ho hg hb
      obtain ⟨ea3, ec3, rfl⟩ := own_slice ho
      have HO3 := Lib.hid ho
      have HG3 := Lib.hid hg
      have HX3 := Lib.hid (res_kept HX1.out hg (fun q hq => by have := (HA1.out.2.2.lt q hq).1; have := HA1.out.2.1.1; omega))
      have HR3 := Lib.hid (res_kept HR1.out hg (fun q hq => by have := (HA1.out.2.2.lt q hq).1; have := HA1.out.2.1.1; omega))
      clear ho hg hb
      try simp only [Act.put, sm]
      have hA3 : Hid (w3.heap[_]? = _) := Lib.hid (HA1.out.other HG3.out)
      have KA3 : Hid (Kp w w3 none) := Lib.hid (Kp.row KA1.out HG3.out (fun q hq => by have := (HA1.out.2.2.lt q hq).1; have := HA1.out.2.1.1; omega))
      refine hK _ _ ?_ (fun hHeld => ?_)
      · exact ⟨(hcell hA3.out 1 rfl), hcell HX3.out 0 rfl, hcell HX3.out 1 rfl, trivial⟩
      clear hK K
      try simp only [Act.put, sm]
      refine tkL 9 rfl ?_
      try simp only [Act.put, sm]
      refine wpAnyL_ready (rs := [10]) (by kernel_rfl) (by simp) ?_
      refine AllReadyL.last (o := _) rfl (fun K hK => ?_)
      have f3 := Lib.frozen_of_heap hA3.out 1
      have c3 : w3.cell? ⟨w.heap.size + 1 + 1, 1, none⟩ = some u := hcell hA3.out 1 rfl
      clear hHeld
      go_simp
      try go_wp2_with fail
      refine hK.out _ _ ?_
      clear hK K
      try simp only [Act.put, sm]
      have HF : Hid (Bs (w.heap.size + 1 + 1) (w.heap.size + 1 + 1 + 1) 2 (Pl.circE ⟨cx, cy⟩ r 3 (k + 1)) 0 (.slice ea3 ((Pl.circE ⟨cx, cy⟩ r 3 k).length + [e].length) ec3) (w3.setCell ⟨w.heap.size + 1 + 1, 1, none⟩ (.slice ea3 ((Pl.circE ⟨cx, cy⟩ r 3 k).length + [e].length) ec3))) := Lib.hid (HA1.out.put HG3.out HO3.out (by rw [Pl.circE_length, Pl.circE_length]; rfl) (by rw [Pl.circE_step, List.flatMap_append, HE.out]))
      have KF : Hid (Kp w (w3.setCell ⟨w.heap.size + 1 + 1, 1, none⟩ (.slice ea3 ((Pl.circE ⟨cx, cy⟩ r 3 k).length + [e].length) ec3)) none) := Lib.hid (HA1.out.far KA1.out (by omega) HG3.out)
      have HXF := Lib.hid (res_set (i := 1) (A := w.heap.size + 1 + 1) (v := (.slice ea3 ((Pl.circE ⟨cx, cy⟩ r 3 k).length + [e].length) ec3)) HX3.out (by omega))
      have HRF := Lib.hid (res_set (i := 1) (A := w.heap.size + 1 + 1) (v := (.slice ea3 ((Pl.circE ⟨cx, cy⟩ r 3 k).length + [e].length) ec3)) HR3.out (by omega))
      clear f3 c3 HO3 hA3 KA3 HA1 KA1 HE1 HG3 HX1 HX3 HR1 HR3
      generalize w3.setCell ⟨w.heap.size + 1 + 1, 1, none⟩ (.slice ea3 ((Pl.circE ⟨cx, cy⟩ r 3 k).length + [e].length) ec3) = wF at *
      refine wpAnyL_done (by kernel_rfl) ?_ _
      have HREL := Lib.hid (HMK.out _ _ KF.out HXF.out HRF.out HF.out)
      clear HF KF HXF HRF HMK
      go_wp2_with fail
      first | exact ⟨HREL.out, by simp [intOf]; omega⟩ | (go_roundw; all_goals first | exact HREL.out | (simp [intOf]; omega))
    · have hk1 : ¬ (k : Int) < 4 := by omega
      have hkn : k = 4 := by omega
      subst hkn
      clear hk1 hk0 hk
      obtain ⟨ea, ec, rfl⟩ := HB.out.slice
      have hc0 : wr.cell? ⟨w.heap.size + 1 + 1, 0, none⟩ = some (.int .i64 2) := hcell HB.out.1 0 rfl
      have hc1 : wr.cell? ⟨w.heap.size + 1 + 1, 1, none⟩ = some (.slice ea (Pl.circE ⟨cx, cy⟩ r 3 4).length ec) := hcell HB.out.1 1 rfl
      have hc2 : wr.cell? ⟨w.heap.size + 1 + 1, 2, none⟩ = some (.int .i64 0) := hcell HB.out.1 2 rfl
      have g0 := Lib.frozen_of_heap HR.out 0
      have g1 := Lib.frozen_of_heap HR.out 1
      have g2 := Lib.frozen_of_heap HR.out 2
      have x0 : wr.cell? ⟨w.heap.size + 1, 0, none⟩ = some (.int .i64 0) := hcell HR.out 0 rfl
      have x1 : wr.cell? ⟨w.heap.size + 1, 1, none⟩ = some (.slice none 0 0) := hcell HR.out 1 rfl
      have x2 : wr.cell? ⟨w.heap.size + 1, 2, none⟩ = some (.int .i64 0) := hcell HR.out 2 rfl
      go_wp2_with fail
      clear x0 x1 x2 g0 g1 g2 hc0 hc1 hc2
      have hs0 := heap_set (o := 0) (v := .int .i64 2) HR.out
      have hs1 := heap_set (o := 1) (v := .slice ea (Pl.circE ⟨cx, cy⟩ r 3 4).length ec) hs0
      have hs2 := heap_set (o := 2) (v := .int .i64 0) hs1
      have q0 := Lib.cell_of_heap hs2 0
      have q1 := Lib.cell_of_heap hs2 1
      have q2 := Lib.cell_of_heap hs2 2
      simp at q0 q1 q2
      have HO := Lib.hid (Bs.out (R := w.heap.size + 1) (x0 := .int .i64 2) (x1 := .slice ea (Pl.circE ⟨cx, cy⟩ r 3 4).length ec) (x2 := .int .i64 0) HB.out (by omega)).2
      have KF : Hid (Kp w (((wr.setCell ⟨w.heap.size + 1, 0, none⟩ (.int .i64 2)).setCell ⟨w.heap.size + 1, 1, none⟩ (.slice ea (Pl.circE ⟨cx, cy⟩ r 3 4).length ec)).setCell ⟨w.heap.size + 1, 2, none⟩ (.int .i64 0)) none) := Lib.hid (HK.out.of_own ((((Kp.refl wr (some (w.heap.size + 1))).set (.int .i64 2)).set (.slice ea (Pl.circE ⟨cx, cy⟩ r 3 4).length ec)).set (.int .i64 0)) (by omega))
      have FR : Hid (∀ p, ea = some p → w.heap.size ≤ p.block) := Lib.hid (fun p hp => by have := HB.out.fresh p hp; omega)
      clear hs0 hs1 hs2
      generalize (((wr.setCell ⟨w.heap.size + 1, 0, none⟩ (.int .i64 2)).setCell ⟨w.heap.size + 1, 1, none⟩ (.slice ea (Pl.circE ⟨cx, cy⟩ r 3 4).length ec)).setCell ⟨w.heap.size + 1, 2, none⟩ (.int .i64 0)) = wf at *
      exact bodyPost_ret (v := .agg #[.int .i64 2, .slice ea (Pl.circE ⟨cx, cy⟩ r 3 4).length ec, .int .i64 0]) (by simp [results, Tryz.results48, go_sem, q0, q1, q2]) rfl ⟨ea, ec, rfl, HO.out, FR.out, KF.out⟩


end Go.Proofs.YtggplbenliaodaaGreatDoor
