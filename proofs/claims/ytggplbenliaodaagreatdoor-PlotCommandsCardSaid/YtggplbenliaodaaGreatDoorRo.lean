/- Rounded rectangles that are made. Condition: coordinates of at most 10^6. -/
import Derived.Test.YtggplbenliaodaaGreatDoorSh
namespace Go.Proofs.YtggplbenliaodaaGreatDoor
open Go.RowKit

def RoRel (x0 y0 x1 y1 r : Int) (w : World) (i : Value) (wr : World) : Prop := ∃ k : Nat, k ≤ 4 ∧ i = .int .i64 k ∧ Kp w wr none ∧ wr.heap[w.heap.size + 1 + 1 + 1]? = some (.cells #[.int .i64 (x1 - r), .int .i64 (y0 + r), .int .i64 (x1 - r), .int .i64 (y1 - r), .int .i64 (x0 + r), .int .i64 (y1 - r), .int .i64 (x0 + r), .int .i64 (y0 + r)] 124 (0, 0)) ∧ wr.heap[w.heap.size + 1]? = some (Obj.cells #[.int .i64 0, .slice none 0 0, .int .i64 0] 25 (0, 0)) ∧ ∃ u, Bs (w.heap.size + 1 + 1) (w.heap.size + 1 + 1 + 1 + 1) 2 (Pl.roundE (⟨x0, y0, x1, y1⟩ : Pl.Box) r k) 0 u wr
set_option maxHeartbeats 4000000 in
set_option maxRecDepth 100000 in
theorem round_any (x0 y0 x1 y1 r : Int) (w : World) (h1 : -1000000 ≤ x0 ∧ x0 ≤ 1000000) (h2 : -1000000 ≤ y0 ∧ y0 ≤ 1000000) (h3 : -1000000 ≤ x1 ∧ x1 ≤ 1000000) (h4 : -1000000 ≤ y1 ∧ y1 ≤ 1000000) (h5 : 0 ≤ r ∧ r ≤ 1000000) :
    Calls Tryz.prog 49 #[.agg #[.int .i64 x0, .int .i64 y0, .int .i64 x1, .int .i64 y1], .int .i64 r] w (ShapeIs w ⟨2, Pl.roundE (⟨x0, y0, x1, y1⟩ : Pl.Box) r 4, 0⟩) := by
  obtain ⟨i0, hi, hz0, hz1, hz2⟩ := info_parts infoEd
  have e1 : wrap64 (x1 - r) = x1 - r := wrap_mid (by omega) (by omega)
  have e2 : wrap64 (y0 + r) = y0 + r := wrap_mid (by omega) (by omega)
  have e3 : wrap64 (y1 - r) = y1 - r := wrap_mid (by omega) (by omega)
  have e4 : wrap64 (x0 + r) = x0 + r := wrap_mid (by omega) (by omega)
  have HC : Hid (∀ n : Nat, Mid (Pl.corner (⟨x0, y0, x1, y1⟩ : Pl.Box) r n).x ∧ Mid (Pl.corner (⟨x0, y0, x1, y1⟩ : Pl.Box) r n).y) := Lib.hid (fun n => by
    unfold Pl.corner Mid
    split
    · dsimp only; omega
    · split
      · dsimp only; omega
      · split <;> (dsimp only; omega))
  have H5 := Lib.hid h5
  clear h1 h2 h3 h4 h5
  go_enter Tryz.func49, Tryz.ntmps49
  go_wp2_with fail
  clear e1 e2 e3 e4
  go_loopw [7] (fun i wr => RoRel x0 y0 x1 y1 r w i wr) (fun i _ => 4 - (intOf i).toNat)
  case atStart =>
    refine ⟨0, Nat.zero_le _, rfl, ((((Kp.refl w none).alloc _).alloc _).alloc _).alloc _, by have h := heap_alloc_new (((w.alloc (Obj.cells #[.int .i64 x0, .int .i64 y0, .int .i64 x1, .int .i64 y1] 88)).alloc (Obj.cells #[.int .i64 0, .slice none 0 0, .int .i64 0] 25)).alloc (Obj.cells #[.int .i64 2, .slice none 0 0, .int .i64 0] 25)) (Obj.cells #[.int .i64 (x1 - r), .int .i64 (y0 + r), .int .i64 (x1 - r), .int .i64 (y1 - r), .int .i64 (x0 + r), .int .i64 (y1 - r), .int .i64 (x0 + r), .int .i64 (y0 + r)] 124); simpa using h, blk (w := (w.alloc (Obj.cells #[.int .i64 x0, .int .i64 y0, .int .i64 x1, .int .i64 y1] 88)).alloc (Obj.cells #[.int .i64 0, .slice none 0 0, .int .i64 0] 25)) (by have h := heap_alloc_new (w.alloc (Obj.cells #[.int .i64 x0, .int .i64 y0, .int .i64 x1, .int .i64 y1] 88)) (Obj.cells #[.int .i64 0, .slice none 0 0, .int .i64 0] 25); simpa using h) (((Kp.refl _ none).alloc _).alloc _), .slice none 0 0, ?_⟩
    have h := ((Bs.new ((w.alloc (Obj.cells #[.int .i64 x0, .int .i64 y0, .int .i64 x1, .int .i64 y1] 88)).alloc (Obj.cells #[.int .i64 0, .slice none 0 0, .int .i64 0] 25)) 2).keep ((Kp.refl _ none).alloc (Obj.cells #[.int .i64 (x1 - r), .int .i64 (y0 + r), .int .i64 (x1 - r), .int .i64 (y1 - r), .int .i64 (x0 + r), .int .i64 (y1 - r), .int .i64 (x0 + r), .int .i64 (y0 + r)] 124))).raise (M := w.heap.size + 1 + 1 + 1 + 1) (by simp) (by simp)
    simpa [Pl.roundE] using h
  case round =>
    obtain ⟨k, hk, rfl, hK, hQ, hR, u, hB⟩ := hrel
    have HK := Lib.hid hK
    have HR := Lib.hid hR
    have HQ := Lib.hid hQ
    have HB := Lib.hid hB
    have hsA0 : Hid (w.heap.size + 1 + 1 + 1 + 1 ≤ wr.heap.size) := Lib.hid hB.2.1.2
    clear hK hR hB hQ
    have hk0 : (0 : Int) ≤ (k : Int) := Int.natCast_nonneg _
    by_cases hlt : k < 4
    · have hk1 : (k : Int) < 4 := by omega
      have HLN : Hid ((Pl.roundE (⟨x0, y0, x1, y1⟩ : Pl.Box) r k).length ≤ 8) := Lib.hid (by rw [Pl.roundE_length]; omega)
      obtain ⟨e, he⟩ : ∃ e, Pl.cornA (⟨x0, y0, x1, y1⟩ : Pl.Box) r k = e := ⟨_, rfl⟩
      obtain ⟨f, hf⟩ : ∃ e, Pl.cornN (⟨x0, y0, x1, y1⟩ : Pl.Box) r k = e := ⟨_, rfl⟩
      obtain ⟨g, hg⟩ : ∃ g, Pl.line e.b f.a = g := ⟨_, rfl⟩
      obtain ⟨j, hj⟩ : ∃ j, (k + 1) % 4 = j := ⟨_, rfl⟩
      have HEG : Hid ([Pl.cornA (⟨x0, y0, x1, y1⟩ : Pl.Box) r k, Pl.line (Pl.cornA (⟨x0, y0, x1, y1⟩ : Pl.Box) r k).b (Pl.cornN (⟨x0, y0, x1, y1⟩ : Pl.Box) r k).a] = [e, g]) := Lib.hid (by rw [he, hf, hg])
      obtain ⟨p, hp⟩ : ∃ p, Pl.corner (⟨x0, y0, x1, y1⟩ : Pl.Box) r k = p := ⟨_, rfl⟩
      obtain ⟨q, hq⟩ : ∃ p, Pl.corner (⟨x0, y0, x1, y1⟩ : Pl.Box) r j = p := ⟨_, rfl⟩
      have HC1 : Hid (∀ V, Calls Tryz.prog 68 #[.agg #[.int .i64 p.x, .int .i64 p.y], .int .i64 r, .int .i64 ((k : Int) + 3), .int .i64 2] V fun E w' => E = .returned (.agg #[.int .i64 e.k, .int .i64 e.a.x, .int .i64 e.a.y, .int .i64 e.b.x, .int .i64 e.b.y, .int .i64 e.c.x, .int .i64 e.c.y]) ∧ Kp V w' none) := Lib.hid (fun V => by rw [← he]; unfold Pl.cornA; rw [hp]; exact rarc_any p.x p.y r ((k : Int) + 3) 2 V (by rw [← hp]; exact (HC.out k).1) (by rw [← hp]; exact (HC.out k).2) H5.out (by omega))
      have HC2 : Hid (∀ V, Calls Tryz.prog 68 #[.agg #[.int .i64 q.x, .int .i64 q.y], .int .i64 r, .int .i64 ((k : Int) + 4), .int .i64 2] V fun E w' => E = .returned (.agg #[.int .i64 f.k, .int .i64 f.a.x, .int .i64 f.a.y, .int .i64 f.b.x, .int .i64 f.b.y, .int .i64 f.c.x, .int .i64 f.c.y]) ∧ Kp V w' none) := Lib.hid (fun V => by rw [← hf]; unfold Pl.cornN; rw [hj, hq]; exact rarc_any q.x q.y r ((k : Int) + 4) 2 V (by rw [← hq]; exact (HC.out j).1) (by rw [← hq]; exact (HC.out j).2) H5.out (by omega))
      have HG : Hid (∀ V, Calls Tryz.prog 66 #[.agg #[.int .i64 e.b.x, .int .i64 e.b.y], .agg #[.int .i64 f.a.x, .int .i64 f.a.y]] V fun E w' => E = .returned (.agg #[.int .i64 g.k, .int .i64 g.a.x, .int .i64 g.a.y, .int .i64 g.b.x, .int .i64 g.b.y, .int .i64 g.c.x, .int .i64 g.c.y]) ∧ Kp V w' none) := Lib.hid (fun V => by rw [← hg]; exact line_any _ _ _ _ V)
      have hj0 : (0 : Int) ≤ (j : Int) := Int.natCast_nonneg _
      have hj4 : j < 4 := by omega
      have hj1 : (j : Int) < 4 := by omega
      have HCX : Hid (∀ (V : World) (n : Nat) (c : Pl.Pt), V.heap[w.heap.size + 1 + 1 + 1]? = some (.cells #[.int .i64 (x1 - r), .int .i64 (y0 + r), .int .i64 (x1 - r), .int .i64 (y1 - r), .int .i64 (x0 + r), .int .i64 (y1 - r), .int .i64 (x0 + r), .int .i64 (y0 + r)] 124 (0, 0)) → n < 4 → Pl.corner (⟨x0, y0, x1, y1⟩ : Pl.Box) r n = c → V.cell? ⟨w.heap.size + 1 + 1 + 1, n * 2, none⟩ = some (.int .i64 c.x) ∧ V.cell? ⟨w.heap.size + 1 + 1 + 1, n * 2 + 1, none⟩ = some (.int .i64 c.y)) := Lib.hid (fun V n c h hn hc => by
        subst hc
        have : n = 0 ∨ n = 1 ∨ n = 2 ∨ n = 3 := by omega
        rcases this with rfl | rfl | rfl | rfl <;> exact ⟨hcell h _ rfl, hcell h _ rfl⟩)
      have hpx := (HCX.out wr k p HQ.out hlt hp).1
      have hpy := (HCX.out wr k p HQ.out hlt hp).2
      have HQJ : Hid (∀ V : World, V.heap[w.heap.size + 1 + 1 + 1]? = some (.cells #[.int .i64 (x1 - r), .int .i64 (y0 + r), .int .i64 (x1 - r), .int .i64 (y1 - r), .int .i64 (x0 + r), .int .i64 (y1 - r), .int .i64 (x0 + r), .int .i64 (y0 + r)] 124 (0, 0)) → V.cell? ⟨w.heap.size + 1 + 1 + 1, j * 2, none⟩ = some (.int .i64 q.x) ∧ V.cell? ⟨w.heap.size + 1 + 1 + 1, j * 2 + 1, none⟩ = some (.int .i64 q.y)) := Lib.hid (fun V h => HCX.out V j q h hj4 hq)
      have hw1 : wrap64 ((k : Int) + 1) = (k : Int) + 1 := wrap_mid (by omega) (by omega)
      have hw3 : wrap64 ((k : Int) + 3) = (k : Int) + 3 := wrap_mid (by omega) (by omega)
      have hw4 : wrap64 ((k : Int) + 4) = (k : Int) + 4 := wrap_mid (by omega) (by omega)
      have hrm : ((k : Int) + 1).tmod 4 = (j : Int) := by rw [Int.tmod_eq_emod_of_nonneg (by omega), ← hj]; simp
      have HMK : Hid (∀ v wq, Kp w wq none → wq.heap[w.heap.size + 1 + 1 + 1]? = some (.cells #[.int .i64 (x1 - r), .int .i64 (y0 + r), .int .i64 (x1 - r), .int .i64 (y1 - r), .int .i64 (x0 + r), .int .i64 (y1 - r), .int .i64 (x0 + r), .int .i64 (y0 + r)] 124 (0, 0)) → wq.heap[w.heap.size + 1]? = some (Obj.cells #[.int .i64 0, .slice none 0 0, .int .i64 0] 25 (0, 0)) → Bs (w.heap.size + 1 + 1) (w.heap.size + 1 + 1 + 1 + 1) 2 (Pl.roundE (⟨x0, y0, x1, y1⟩ : Pl.Box) r (k + 1)) 0 v wq → RoRel x0 y0 x1 y1 r w (.int .i64 (k + 1)) wq) := Lib.hid (fun v wq k1 k2 k3 k4 => ⟨k + 1, by omega, by go_num, k1, k2, k3, v, k4⟩)
      clear he hf hg hj hp hq HCX
      go_wp2_with fail
      refine (HC1.out _).mono ?_
      rintro E w1 ⟨rfl, k1⟩
      have K1 := Lib.hid k1
      have hs1 := k1.size
      have HQ1 := Lib.hid (blk HQ.out k1)
      have hqx := (HQJ.out _ (blk HQ1.out ((Kp.refl w1 none).alloc (Obj.cells #[.int .i64 e.k, .int .i64 e.a.x, .int .i64 e.a.y, .int .i64 e.b.x, .int .i64 e.b.y, .int .i64 e.c.x, .int .i64 e.c.y] 39)))).1
      have hqy := (HQJ.out _ (blk HQ1.out ((Kp.refl w1 none).alloc (Obj.cells #[.int .i64 e.k, .int .i64 e.a.x, .int .i64 e.a.y, .int .i64 e.b.x, .int .i64 e.b.y, .int .i64 e.c.x, .int .i64 e.c.y] 39)))).2
      clear k1 hpx hpy
      go_wp2_with fail
      refine (HC2.out _).mono ?_
      rintro E w2 ⟨rfl, k2⟩
      have hs2 : w1.heap.size + 1 ≤ w2.heap.size := by have := k2.size; simpa using this
      have HE0 := Lib.hid (blk (heap_alloc_new w1 (Obj.cells #[.int .i64 e.k, .int .i64 e.a.x, .int .i64 e.a.y, .int .i64 e.b.x, .int .i64 e.b.y, .int .i64 e.c.x, .int .i64 e.c.y] 39)) k2)
      have KW : Hid (Kp wr w2 none) := Lib.hid ((K1.out.alloc (Obj.cells #[.int .i64 e.k, .int .i64 e.a.x, .int .i64 e.a.y, .int .i64 e.b.x, .int .i64 e.b.y, .int .i64 e.c.x, .int .i64 e.c.y] 39)).trans k2)
      clear k2 hqx hqy K1 HQ1 hw3 hw4 hw1 hrm
      go_wp2_with fail
      have HPF := Lib.hid (heap_alloc_new w2 (Obj.cells #[.int .i64 f.k, .int .i64 f.a.x, .int .i64 f.a.y, .int .i64 f.b.x, .int .i64 f.b.y, .int .i64 f.c.x, .int .i64 f.c.y] 39))
      have HPE := Lib.hid (blk HE0.out ((Kp.refl w2 none).alloc (Obj.cells #[.int .i64 f.k, .int .i64 f.a.x, .int .i64 f.a.y, .int .i64 f.b.x, .int .i64 f.b.y, .int .i64 f.c.x, .int .i64 f.c.y] 39)))
      have KW3 : Hid (Kp wr (w2.alloc (Obj.cells #[.int .i64 f.k, .int .i64 f.a.x, .int .i64 f.a.y, .int .i64 f.b.x, .int .i64 f.b.y, .int .i64 f.c.x, .int .i64 f.c.y] 39)) none) := Lib.hid (KW.out.alloc _)
      have HB3 := Lib.hid (HB.out.keep KW3.out)
      have HR3 := Lib.hid (blk HR.out KW3.out)
      have HQ3 := Lib.hid (blk HQ.out KW3.out)
      have HK3 := Lib.hid (HK.out.trans KW3.out)
      have HOW : Hid (∀ q, u.ownBlock = some q → q < wr.heap.size) := Lib.hid (fun q hq => (HB.out.2.2.lt q hq).2)
      clear HB HR HQ HK KW KW3 HE0
      have HB := HB3
      have HR := HR3
      have HQ := HQ3
      have HK := HK3
      clear HB3 HR3 HQ3 HK3
      have hsA : w.heap.size + 1 + 1 + 1 + 1 ≤ wr.heap.size := hsA0.out
      generalize w2.alloc (Obj.cells #[.int .i64 f.k, .int .i64 f.a.x, .int .i64 f.a.y, .int .i64 f.b.x, .int .i64 f.b.y, .int .i64 f.c.x, .int .i64 f.c.y] 39) = w3 at *
      have HA0 := Lib.hid (HB.out.keep (Kp.refl w3 none).drew)
      have KA0 : Hid (Kp w w3.drew none) := Lib.hid HK.out.drew
      have HR0 := Lib.hid (blk HR.out (Kp.refl w3 none).drew)
      have HQ0 := Lib.hid (blk HQ.out (Kp.refl w3 none).drew)
      have HPE0 := Lib.hid (blk HPE.out (Kp.refl w3 none).drew)
      have HPF0 := Lib.hid (blk HPF.out (Kp.refl w3 none).drew)
      refine wp_region_last (fun V => V.cell? ⟨w.heap.size + 1 + 1, 1, none⟩ = some u ∧ V.cell? ⟨w1.heap.size, 0, none⟩ = some (.int .i64 e.k) ∧ V.cell? ⟨w1.heap.size, 1, none⟩ = some (.int .i64 e.a.x) ∧ V.cell? ⟨w1.heap.size, 2, none⟩ = some (.int .i64 e.a.y) ∧ V.cell? ⟨w1.heap.size, 3, none⟩ = some (.int .i64 e.b.x) ∧ V.cell? ⟨w1.heap.size, 4, none⟩ = some (.int .i64 e.b.y) ∧ V.cell? ⟨w1.heap.size, 5, none⟩ = some (.int .i64 e.c.x) ∧ V.cell? ⟨w1.heap.size, 6, none⟩ = some (.int .i64 e.c.y) ∧ V.cell? ⟨w2.heap.size, 1, none⟩ = some (.int .i64 f.a.x) ∧ V.cell? ⟨w2.heap.size, 2, none⟩ = some (.int .i64 f.a.y) ∧ True) 11 (by kernel_rfl) ?_ (fun hHeld => ?_)
      · exact ⟨HA0.out.cell, hcell HPE0.out 0 rfl, hcell HPE0.out 1 rfl, hcell HPE0.out 2 rfl, hcell HPE0.out 3 rfl, hcell HPE0.out 4 rfl, hcell HPE0.out 5 rfl, hcell HPE0.out 6 rfl, hcell HPF0.out 1 rfl, hcell HPF0.out 2 rfl, trivial⟩
      refine tkL 0 rfl ?_
      try simp only [Act.put, sm]
      refine tkL 1 rfl ?_
      try simp only [Act.put, sm]
      refine tkL 2 rfl ?_
      try simp only [Act.put, sm]
      refine tkL 3 rfl ?_
      try simp only [Act.put, sm]
      refine tkL 4 rfl ?_
      try simp only [Act.put, sm]
      refine tkL 5 rfl ?_
      try simp only [Act.put, sm]
      refine tkL 6 rfl ?_
      try simp only [Act.put, sm]
      refine wpAnyL_ready (rs := [7]) (by kernel_rfl) (by simp) ?_
      refine AllReadyL.cons (o := _) rfl (fun K hK => ?_) AllReadyL.nil
      have gK := hHeld
      clear hHeld
      clear gK
      go_simp
      refine (HG.out _).mono ?_
      rintro e w4 ⟨rfl, kk⟩
      have HA1 := Lib.hid (HA0.out.keep kk)
      have KA1 : Hid (Kp w w4 none) := Lib.hid (KA0.out.trans kk)
      have HR1 := Lib.hid (blk HR0.out kk)
      have HQ1 := Lib.hid (blk HQ0.out kk)
      have HPE1 := Lib.hid (blk HPE0.out kk)
      have HPF1 := Lib.hid (blk HPF0.out kk)
      clear HA0 KA0 HR0 HQ0 HPE0 HPF0 kk
      have HA0 := HA1
      have KA0 := KA1
      have HR0 := HR1
      have HQ0 := HQ1
      have HPE0 := HPE1
      have HPF0 := HPF1
      clear HA1 KA1 HR1 HQ1 HPE1 HPF1
      try go_wp2_with fail
      refine hK.out _ _ ?_ (fun hHeld => ?_)
      · exact ⟨HA0.out.cell, hcell HPE0.out 0 rfl, hcell HPE0.out 1 rfl, hcell HPE0.out 2 rfl, hcell HPE0.out 3 rfl, hcell HPE0.out 4 rfl, hcell HPE0.out 5 rfl, hcell HPE0.out 6 rfl, hcell HPF0.out 1 rfl, hcell HPF0.out 2 rfl, trivial⟩
      clear hK K
      try simp only [Act.put, sm]
      refine wpAnyL_ready (rs := [8]) (by kernel_rfl) (by simp) ?_
      refine AllReadyL.cons (o := _) rfl (fun K hK => ?_) AllReadyL.nil
      have gK := hHeld
      clear hHeld
      clear gK
      go_simp
      try go_wp2_with fail
      have HA1 := Lib.hid (HA0.out.keep ((Kp.refl _ none).alloc (Obj.cells #[.int .i64 e.k, .int .i64 e.a.x, .int .i64 e.a.y, .int .i64 e.b.x, .int .i64 e.b.y, .int .i64 e.c.x, .int .i64 e.c.y, .int .i64 g.k, .int .i64 g.a.x, .int .i64 g.a.y, .int .i64 g.b.x, .int .i64 g.b.y, .int .i64 g.c.x, .int .i64 g.c.y] 39)))
      have KA1 : Hid (Kp w _ none) := Lib.hid (KA0.out.alloc (Obj.cells #[.int .i64 e.k, .int .i64 e.a.x, .int .i64 e.a.y, .int .i64 e.b.x, .int .i64 e.b.y, .int .i64 e.c.x, .int .i64 e.c.y, .int .i64 g.k, .int .i64 g.a.x, .int .i64 g.a.y, .int .i64 g.b.x, .int .i64 g.b.y, .int .i64 g.c.x, .int .i64 g.c.y] 39))
      have HR1 := Lib.hid (blk HR0.out ((Kp.refl _ none).alloc (Obj.cells #[.int .i64 e.k, .int .i64 e.a.x, .int .i64 e.a.y, .int .i64 e.b.x, .int .i64 e.b.y, .int .i64 e.c.x, .int .i64 e.c.y, .int .i64 g.k, .int .i64 g.a.x, .int .i64 g.a.y, .int .i64 g.b.x, .int .i64 g.b.y, .int .i64 g.c.x, .int .i64 g.c.y] 39)))
      have HQ1 := Lib.hid (blk HQ0.out ((Kp.refl _ none).alloc (Obj.cells #[.int .i64 e.k, .int .i64 e.a.x, .int .i64 e.a.y, .int .i64 e.b.x, .int .i64 e.b.y, .int .i64 e.c.x, .int .i64 e.c.y, .int .i64 g.k, .int .i64 g.a.x, .int .i64 g.a.y, .int .i64 g.b.x, .int .i64 g.b.y, .int .i64 g.c.x, .int .i64 g.c.y] 39)))
      have HPE1 := Lib.hid (blk HPE0.out ((Kp.refl _ none).alloc (Obj.cells #[.int .i64 e.k, .int .i64 e.a.x, .int .i64 e.a.y, .int .i64 e.b.x, .int .i64 e.b.y, .int .i64 e.c.x, .int .i64 e.c.y, .int .i64 g.k, .int .i64 g.a.x, .int .i64 g.a.y, .int .i64 g.b.x, .int .i64 g.b.y, .int .i64 g.c.x, .int .i64 g.c.y] 39)))
      have HPF1 := Lib.hid (blk HPF0.out ((Kp.refl _ none).alloc (Obj.cells #[.int .i64 e.k, .int .i64 e.a.x, .int .i64 e.a.y, .int .i64 e.b.x, .int .i64 e.b.y, .int .i64 e.c.x, .int .i64 e.c.y, .int .i64 g.k, .int .i64 g.a.x, .int .i64 g.a.y, .int .i64 g.b.x, .int .i64 g.b.y, .int .i64 g.c.x, .int .i64 g.c.y] 39)))
      have HE1 : Hid (IsList 7 edC _ _ [e, g]) := Lib.hid (ed_list2 (w := w4) e g)
      refine hK.out _ _ ?_ (fun hHeld => ?_)
      · exact ⟨HA1.out.cell, hcell HPE1.out 0 rfl, hcell HPE1.out 1 rfl, hcell HPE1.out 2 rfl, hcell HPE1.out 3 rfl, hcell HPE1.out 4 rfl, hcell HPE1.out 5 rfl, hcell HPE1.out 6 rfl, hcell HPF1.out 1 rfl, hcell HPF1.out 2 rfl, trivial⟩
      clear hK K HA0 KA0 HR0 HQ0 HPE0 HPF0
      try simp only [Act.put, sm]
      refine wpAnyL_ready (rs := [9]) (by kernel_rfl) (by simp) ?_
      refine AllReadyL.cons (o := _) rfl (fun K hK => ?_) AllReadyL.nil
      have gK := hHeld
      clear hHeld
      clear gK
      refine step_app (f := edC) rfl (.tmp 69) (.tmp 76) (w.heap.size + 1 + 1 + 1 + 1) 23 39 rfl i0 _ 7 56 (by kernel_rfl) hi hz0 hz1 hz2 rfl (by omega) (fun _ => rfl) (by intro x q hq; simp [edC] at hq; rcases hq with rfl | rfl | rfl | rfl | rfl | rfl | rfl <;> rfl) _ _ _ rfl HA1.out.2.2 _ [e, g] rfl HE1.out (by have := HLN.out; unfold maxLen; simp <;> omega) (by have := HLN.out; simp <;> omega) HA1.out.2.1.2 ?_
      intro v3 w3 ho hg hb
      obtain ⟨ea3, ec3, rfl⟩ := own_slice ho
      have HO3 := Lib.hid ho
      have HG3 := Lib.hid hg
      have HR3 := Lib.hid (res_kept HR1.out hg (fun q hq => by have := (HA1.out.2.2.lt q hq).1; have := HA1.out.2.1.1; omega))
      have HQ3 := Lib.hid (res_kept HQ1.out hg (fun q hq => by have := (HA1.out.2.2.lt q hq).1; have := HA1.out.2.1.1; omega))
      have HPE3 := Lib.hid (res_kept HPE1.out hg (fun q hq => by have := HOW.out q hq; omega))
      have HPF3 := Lib.hid (res_kept HPF1.out hg (fun q hq => by have := HOW.out q hq; omega))
      clear ho hg hb
      try simp only [Act.put, sm]
      have hA3 : Hid (w3.heap[_]? = _) := Lib.hid (HA1.out.other HG3.out)
      have KA3 : Hid (Kp w w3 none) := Lib.hid (Kp.row KA1.out HG3.out (fun q hq => by have := (HA1.out.2.2.lt q hq).1; have := HA1.out.2.1.1; omega))
      refine hK _ _ ?_ (fun hHeld => ?_)
      · exact ⟨(hcell hA3.out 1 rfl), hcell HPE3.out 0 rfl, hcell HPE3.out 1 rfl, hcell HPE3.out 2 rfl, hcell HPE3.out 3 rfl, hcell HPE3.out 4 rfl, hcell HPE3.out 5 rfl, hcell HPE3.out 6 rfl, hcell HPF3.out 1 rfl, hcell HPF3.out 2 rfl, trivial⟩
      clear hK K
      try simp only [Act.put, sm]
      refine tkL 10 rfl ?_
      try simp only [Act.put, sm]
      refine wpAnyL_ready (rs := [11]) (by kernel_rfl) (by simp) ?_
      refine AllReadyL.last (o := _) rfl (fun K hK => ?_)
      have f3 := Lib.frozen_of_heap hA3.out 1
      have c3 : w3.cell? ⟨w.heap.size + 1 + 1, 1, none⟩ = some u := hcell hA3.out 1 rfl
      clear hHeld
      go_simp
      try go_wp2_with fail
      refine hK.out _ _ ?_
      clear hK K
      try simp only [Act.put, sm]
      have HF : Hid (Bs (w.heap.size + 1 + 1) (w.heap.size + 1 + 1 + 1 + 1) 2 (Pl.roundE (⟨x0, y0, x1, y1⟩ : Pl.Box) r (k + 1)) 0 (.slice ea3 ((Pl.roundE (⟨x0, y0, x1, y1⟩ : Pl.Box) r k).length + [e, g].length) ec3) (w3.setCell ⟨w.heap.size + 1 + 1, 1, none⟩ (.slice ea3 ((Pl.roundE (⟨x0, y0, x1, y1⟩ : Pl.Box) r k).length + [e, g].length) ec3))) := Lib.hid (HA1.out.put HG3.out HO3.out (by rw [Pl.roundE_length, Pl.roundE_length]; rfl) (by rw [Pl.roundE_step, List.flatMap_append, HEG.out]))
      have KF : Hid (Kp w (w3.setCell ⟨w.heap.size + 1 + 1, 1, none⟩ (.slice ea3 ((Pl.roundE (⟨x0, y0, x1, y1⟩ : Pl.Box) r k).length + [e, g].length) ec3)) none) := Lib.hid (HA1.out.far KA1.out (by omega) HG3.out)
      have HRF := Lib.hid (res_set (i := 1) (A := w.heap.size + 1 + 1) (v := (.slice ea3 ((Pl.roundE (⟨x0, y0, x1, y1⟩ : Pl.Box) r k).length + [e, g].length) ec3)) HR3.out (by omega))
      have HQF := Lib.hid (res_set (i := 1) (A := w.heap.size + 1 + 1) (v := (.slice ea3 ((Pl.roundE (⟨x0, y0, x1, y1⟩ : Pl.Box) r k).length + [e, g].length) ec3)) HQ3.out (by omega))
      have HPEF := Lib.hid (res_set (i := 1) (A := w.heap.size + 1 + 1) (v := (.slice ea3 ((Pl.roundE (⟨x0, y0, x1, y1⟩ : Pl.Box) r k).length + [e, g].length) ec3)) HPE3.out (by omega))
      have HPFF := Lib.hid (res_set (i := 1) (A := w.heap.size + 1 + 1) (v := (.slice ea3 ((Pl.roundE (⟨x0, y0, x1, y1⟩ : Pl.Box) r k).length + [e, g].length) ec3)) HPF3.out (by omega))
      clear f3 c3 HO3 hA3 KA3 HA1 KA1 HE1 HG3 HR1 HR3 HQ1 HQ3 HPE1 HPE3 HPF1 HPF3
      generalize w3.setCell ⟨w.heap.size + 1 + 1, 1, none⟩ (.slice ea3 ((Pl.roundE (⟨x0, y0, x1, y1⟩ : Pl.Box) r k).length + [e, g].length) ec3) = wF at *
      refine wpAnyL_done (by kernel_rfl) ?_ _
      have HREL := Lib.hid (HMK.out _ _ KF.out HQF.out HRF.out HF.out)
      clear HF KF HQF HRF HMK
      go_wp2_with fail
      first | exact ⟨HREL.out, by simp [intOf]; omega⟩ | (go_roundw; all_goals first | exact HREL.out | (simp [intOf]; omega))
    · have hk1 : ¬ (k : Int) < 4 := by omega
      have hkn : k = 4 := by omega
      subst hkn
      clear hk1 hk0 hk
      obtain ⟨ea, ec, rfl⟩ := HB.out.slice
      have hc0 : wr.cell? ⟨w.heap.size + 1 + 1, 0, none⟩ = some (.int .i64 2) := hcell HB.out.1 0 rfl
      have hc1 : wr.cell? ⟨w.heap.size + 1 + 1, 1, none⟩ = some (.slice ea (Pl.roundE (⟨x0, y0, x1, y1⟩ : Pl.Box) r 4).length ec) := hcell HB.out.1 1 rfl
      have hc2 : wr.cell? ⟨w.heap.size + 1 + 1, 2, none⟩ = some (.int .i64 0) := hcell HB.out.1 2 rfl
      have g0 := Lib.frozen_of_heap HR.out 0
      have g1 := Lib.frozen_of_heap HR.out 1
      have g2 := Lib.frozen_of_heap HR.out 2
      have x0' : wr.cell? ⟨w.heap.size + 1, 0, none⟩ = some (.int .i64 0) := hcell HR.out 0 rfl
      have x1' : wr.cell? ⟨w.heap.size + 1, 1, none⟩ = some (.slice none 0 0) := hcell HR.out 1 rfl
      have x2' : wr.cell? ⟨w.heap.size + 1, 2, none⟩ = some (.int .i64 0) := hcell HR.out 2 rfl
      go_wp2_with fail
      clear x0' x1' x2' g0 g1 g2 hc0 hc1 hc2
      have hs0 := heap_set (o := 0) (v := .int .i64 2) HR.out
      have hs1 := heap_set (o := 1) (v := .slice ea (Pl.roundE (⟨x0, y0, x1, y1⟩ : Pl.Box) r 4).length ec) hs0
      have hs2 := heap_set (o := 2) (v := .int .i64 0) hs1
      have q0 := Lib.cell_of_heap hs2 0
      have q1 := Lib.cell_of_heap hs2 1
      have q2 := Lib.cell_of_heap hs2 2
      simp at q0 q1 q2
      have HO := Lib.hid (Bs.out (R := w.heap.size + 1) (x0 := .int .i64 2) (x1 := .slice ea (Pl.roundE (⟨x0, y0, x1, y1⟩ : Pl.Box) r 4).length ec) (x2 := .int .i64 0) HB.out (by omega)).2
      have KF : Hid (Kp w (((wr.setCell ⟨w.heap.size + 1, 0, none⟩ (.int .i64 2)).setCell ⟨w.heap.size + 1, 1, none⟩ (.slice ea (Pl.roundE (⟨x0, y0, x1, y1⟩ : Pl.Box) r 4).length ec)).setCell ⟨w.heap.size + 1, 2, none⟩ (.int .i64 0)) none) := Lib.hid (HK.out.of_own ((((Kp.refl wr (some (w.heap.size + 1))).set (.int .i64 2)).set (.slice ea (Pl.roundE (⟨x0, y0, x1, y1⟩ : Pl.Box) r 4).length ec)).set (.int .i64 0)) (by omega))
      have FR : Hid (∀ p, ea = some p → w.heap.size ≤ p.block) := Lib.hid (fun p hp => by have := HB.out.fresh p hp; omega)
      clear hs0 hs1 hs2
      generalize (((wr.setCell ⟨w.heap.size + 1, 0, none⟩ (.int .i64 2)).setCell ⟨w.heap.size + 1, 1, none⟩ (.slice ea (Pl.roundE (⟨x0, y0, x1, y1⟩ : Pl.Box) r 4).length ec)).setCell ⟨w.heap.size + 1, 2, none⟩ (.int .i64 0)) = wf at *
      exact bodyPost_ret (v := .agg #[.int .i64 2, .slice ea (Pl.roundE (⟨x0, y0, x1, y1⟩ : Pl.Box) r 4).length ec, .int .i64 0]) (by simp [results, Tryz.results49, go_sem, q0, q1, q2]) rfl ⟨ea, ec, rfl, HO.out, FR.out, KF.out⟩

end Go.Proofs.YtggplbenliaodaaGreatDoor
