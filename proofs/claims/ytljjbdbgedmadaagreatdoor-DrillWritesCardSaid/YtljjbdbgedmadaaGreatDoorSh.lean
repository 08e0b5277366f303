/- A shape that a call builds, edge by edge, in a variable of its own. No condition but the model's bounds.
   The area between points (Loop). Condition: at most 8 points.
   Discs, rectangles, circles and rounded rectangles that are made. Condition: coordinates of at most 2^61. -/
import Derived.Test.YtljjbdbgedmadaaGreatDoorBase
import Derived.Test.YtljjbdbgedmadaaGreatDoorAp
import Derived.Test.YtljjbdbgedmadaaGreatDoorEz
namespace Go.Proofs.YtljjbdbgedmadaaGreatDoor
open Go.RowKit
theorem infoEd : (Tryz.prog.info? 123).map (fun i => (i.zero, i.size, i.bytes)) = some (some (.agg #[I6 0, I6 0, I6 0, I6 0, I6 0, I6 0, I6 0]), 7, 56) := by kernel_rfl
def ShapeIs (w : World) (s : Pl.Sh) (E : Ending) (w' : World) : Prop := ∃ ao cap, E = .returned (.agg #[I6 s.k, .slice ao s.es.length cap, I6 s.r]) ∧ LiesAt 7 edC w' ao cap s.es ∧ (∀ p, ao = some p → w.heap.size ≤ p.block) ∧ Kp w w' none
def Bs (A N : Nat) (kind : Int) (es : List Pl.Ed) (r : Int) (u : Value) (w : World) : Prop := w.heap[A]? = some (.cells #[I6 kind, u, I6 r] 50 (0, 0)) ∧ (A < N ∧ N ≤ w.heap.size) ∧ w.ownsRow N 123 7 u es.length (es.flatMap edC)
theorem Bs.keep {A N : Nat} {kind r : Int} {es : List Pl.Ed} {u : Value} {w w' : World} (h : Bs A N kind es r u w) (k : Kp w w' none) : Bs A N kind es r u w' :=
 ⟨blk h.1 k, ⟨h.2.1.1, Nat.le_trans h.2.1.2 k.size⟩, h.2.2.kept k (by cases u.ownBlock <;> simp)⟩
theorem Bs.keepRow {A N D : Nat} {kind r : Int} {es : List Pl.Ed} {u : Value} {w w' : World} (h : Bs A N kind es r u w) (k : Kp w w' (some D)) (hD : D < A) : Bs A N kind es r u w' :=
 ⟨(k.block A (lt_of_block h.1) (by simp; omega)).trans h.1, ⟨h.2.1.1, Nat.le_trans h.2.1.2 k.size⟩, h.2.2.kept k (by
  cases e : u.ownBlock with
  | none => exact .inl rfl
  | some b => exact .inr (by have := (h.2.2.lt b e).1; have := h.2.1.1; intro e2; injection e2 with e2; omega))⟩
theorem Bs.cell {A N : Nat} {kind r : Int} {es : List Pl.Ed} {u : Value} {w : World} (h : Bs A N kind es r u w) : w.cell? ⟨A, 1, none⟩ = some u := by have := Lib.cell_of_heap h.1 1; simpa using this
theorem Bs.lt {A N : Nat} {kind r : Int} {es : List Pl.Ed} {u : Value} {w : World} (h : Bs A N kind es r u w) : A < w.heap.size := lt_of_block h.1
theorem Bs.other {A N : Nat} {kind r : Int} {es : List Pl.Ed} {u : Value} {w w' : World} (h : Bs A N kind es r u w) (k : Kp w w' u.ownBlock) : w'.heap[A]? = some (.cells #[I6 kind, u, I6 r] 50 (0, 0)) :=
 (k.block A h.lt (fun e => by have := (h.2.2.lt A e.symm).1; have := h.2.1.1; omega)).trans h.1
theorem Bs.put {A N : Nat} {kind r : Int} {es : List Pl.Ed} {u v : Value} {w w' : World} {fs : List Pl.Ed} {n : Nat} {row : List Value} (h : Bs A N kind es r u w) (k : Kp w w' u.ownBlock) (ho : w'.ownsRow N 123 7 v n row) (hn : n = fs.length) (hr : row = fs.flatMap edC) : Bs A N kind fs r v (w'.setCell ⟨A, 1, none⟩ v) := by
 subst hn; subst hr; have hA := h.2.1
 have hsz : w.heap.size ≤ w'.heap.size := k.size
 refine ⟨?_, ⟨hA.1, Nat.le_trans hA.2 (Nat.le_trans hsz ((Kp.refl w' (some A)).set (o := 1) v).size)⟩, ho.kept (row := some A) ((Kp.refl _ _).set _) (by
  cases e : v.ownBlock with
  | none => exact .inl rfl
  | some b => exact .inr (by have := (ho.lt b e).1; have := h.2.1.1; intro e2; injection e2 with e2; omega))⟩
 have := heap_set (o := 1) (v := v) (h.other k)
 simpa using this
theorem Bs.far {W : World} {A N : Nat} {kind r : Int} {es : List Pl.Ed} {u v : Value} {w w' : World} {row : Option Nat} (h : Bs A N kind es r u w) (h0 : Kp W w row) (hA : W.heap.size ≤ A) (k : Kp w w' u.ownBlock) : Kp W (w'.setCell ⟨A, 1, none⟩ v) row := by
 have h1 : Kp W w' row := Kp.row h0 k (fun b e => by have := (h.2.2.lt b e).1; have := h.2.1.1; omega)
 exact Kp.of_own h1 ((Kp.refl _ _).set _) hA
theorem Bs.new (w : World) (kind : Int) : Bs w.heap.size (w.heap.size + 1) kind [] 0 (.slice none 0 0) (w.alloc (.cells #[I6 kind, .slice none 0 0, I6 0] 50)) :=
 ⟨heap_alloc_new _ _, ⟨by omega, by simp⟩, by rfl, .inl ⟨rfl, rfl⟩⟩
theorem Bs.out {A N R : Nat} {kind r : Int} {es : List Pl.Ed} {ao : Option Addr} {n cap : Nat} {w : World} (h : Bs A N kind es r (.slice ao n cap) w) (hR : R < A) {x0 x1 x2 : Value} : n = es.length ∧ LiesAt 7 edC (((w.setCell ⟨R, 0, none⟩ x0).setCell ⟨R, 1, none⟩ x1).setCell ⟨R, 2, none⟩ x2) ao cap es := by
 have k : Kp w (((w.setCell ⟨R, 0, none⟩ x0).setCell ⟨R, 1, none⟩ x1).setCell ⟨R, 2, none⟩ x2) (some R) := (((Kp.refl w (some R)).set _).set _).set _
 exact own_lies (m := 7) (f := edC) (fun _ => rfl) (h.2.2.kept k (own_ne h.2.2 (by have := h.2.1.1; omega)))
theorem Bs.slice {A N : Nat} {kind r : Int} {es : List Pl.Ed} {u : Value} {w : World} (h : Bs A N kind es r u w) : ∃ ao cap, u = .slice ao es.length cap := by
 obtain ⟨ao, cap, e, _⟩ := (isList_own (m := 7) (f := edC) (fun _ => rfl) h.2.2).form
 exact ⟨ao, cap, e⟩
theorem ed_list2 {w : World} (e f : Pl.Ed) : IsList 7 edC (w.alloc (.cells #[I6 e.k, I6 e.a.x, I6 e.a.y, I6 e.b.x, I6 e.b.y, I6 e.c.x, I6 e.c.y, I6 f.k, I6 f.a.x, I6 f.a.y, I6 f.b.x, I6 f.b.y, I6 f.c.x, I6 f.c.y] 123)) (.slice (some ⟨w.heap.size, 0, none⟩) 2 2) [e, f] := by
 refine .inr ⟨w.heap.size, 0, 2, rfl, by simp, by simp, fun k hk j hj => ?_⟩
 have hj' : j < 7 := by
  have : k = 0 ∨ k = 1 := by simp at hk; omega
  rcases this with rfl | rfl <;> simpa [edC] using hj
 have hk' : k = 0 ∨ k = 1 := by simp at hk; omega
 have hj7 : j = 0 ∨ j = 1 ∨ j = 2 ∨ j = 3 ∨ j = 4 ∨ j = 5 ∨ j = 6 := by omega
 rcases hk' with rfl | rfl <;> rcases hj7 with rfl | rfl | rfl | rfl | rfl | rfl | rfl <;> exact hcell (heap_alloc_new w _) _ rfl
theorem Bs.fresh {A N : Nat} {kind r : Int} {es : List Pl.Ed} {ao : Option Addr} {n cap : Nat} {w : World} (h : Bs A N kind es r (.slice ao n cap) w) : ∀ p, ao = some p → N ≤ p.block := fun p hp => by
 subst hp; exact (h.2.2.lt p.block (by cases p; rfl)).1
set_option maxHeartbeats 4000000
set_option maxRecDepth 100000
theorem LiesAt.pts {w : World} {ao : Option Addr} {cap : Nat} {ps : List Pl.Pt} (h : LiesAt 2 ptC w ao cap ps) (h0 : 0 < ps.length) : ∃ b off, ao = some ⟨b, off, none⟩ ∧ b < w.heap.size ∧ ps.length ≤ cap ∧
  ∀ i, (hi : i < ps.length) → ∀ V, Kp w V none → V.cell? ⟨b, off + i * 2, none⟩ = some (I6 ps[i].x) ∧ V.cell? ⟨b, off + i * 2 + 1, none⟩ = some (I6 ps[i].y) := by
 obtain ⟨b, off, rfl, hb, hc, _⟩ := h 0 h0
 refine ⟨b, off, rfl, hb, hc, fun i hi V k => ?_⟩
 obtain ⟨b2, off2, e, _, _, hr⟩ := h i hi
 injection e with e; injection e with e1 e2; subst e1; subst e2
 have h0 := hr 0 (by simp [ptC])
 have h1 := hr 1 (by simp [ptC])
 exact ⟨(k.below.cell (p := ⟨b, off + i * 2, none⟩) hb).trans (by simpa [ptC] using h0), (k.below.cell (p := ⟨b, off + i * 2 + 1, none⟩) hb).trans (by simpa [ptC] using h1)⟩
def LoRel (ps : List Pl.Pt) (w : World) (i : Value) (wr : World) : Prop := ∃ k : Nat, k ≤ ps.length ∧ i = I6 k ∧ Kp w wr none ∧ wr.heap[w.heap.size]? = some (.cells #[I6 0, .slice none 0 0, I6 0] 50 (0, 0)) ∧ ∃ u, Bs (w.heap.size + 1) (w.heap.size + 1 + 1) 2 (Pl.loopE ps k) 0 u wr
theorem loop_any (ps : List Pl.Pt) (n : Nat) (hn : ps.length = n) (ao : Option Addr) (cap : Nat) (w : World) (hps : LiesAt 2 ptC w ao cap ps) (h0 : 0 < n) (h8 : n ≤ 8) :
  Calls Tryz.prog 111 #[.slice ao n cap] w (ShapeIs w ⟨2, Pl.loopE ps n, 0⟩) := by
 have FP := oh hps; have HN := oh hn; clear hps hn; obtain ⟨i0, hi, hz0, hz1, hz2⟩ := info_parts infoEd
 have hn0 : (0 : Int) < (n : Int) := by omega
 go_enter Tryz.func111, Tryz.ntmps111
 go_wp2_with fail
 go_loopw [4] (fun i wr => LoRel ps w i wr) (fun i _ => n - (intOf i).toNat)
 case atStart =>
  exact ⟨0, Nat.zero_le _, rfl, ((Kp.refl w none).alloc _).alloc _, blk (heap_alloc_new w _) ((Kp.refl _ none).alloc _), _, by
   have h := Bs.new (w.alloc (.cells #[I6 0, .slice none 0 0, I6 0] 50)) 2
   simpa [Pl.loopE] using h⟩
 case round =>
  obtain ⟨k, hk, rfl, hK, hR, u, hB⟩ := hrel; have HK := oh hK; have HR := oh hR; have HB := oh hB; clear hK hR hB
  have hk0 := nn k
  by_cases hlt : k < n
  ·have hk1 : (k : Int) < (n : Int) := by omega
   obtain ⟨j, hj⟩ : ∃ j, (k + 1) % n = j := ⟨_, rfl⟩
   have hjn : j < n := by rw [← hj]; exact Nat.mod_lt _ (by omega)
   have hj0 := nn j; have hj1 : (j : Int) < (n : Int) := by omega
   have hw1 : IntKind.i64.wrap ((k : Int) + 1) = (k : Int) + 1 := by rw [IntKind.wrap_i64]; omega
   have hrm : ((k : Int) + 1).tmod (n : Int) = (j : Int) := by rw [Int.tmod_eq_emod_of_nonneg (by omega), ← hj]; simp
   have hnz : (n = 0) = False := eq_false (by omega)
   obtain ⟨b, off, rfl, hbw, hcap, hpt⟩ := FP.out.pts (by have := HN.out; omega)
   have hcap2 : n ≤ cap := by have := HN.out; omega
   have HPK := oh (hpt k (by have := HN.out; omega))
   have HPJ := oh (hpt j (by have := HN.out; omega))
   have HLA0 : Hid (Pl.loopAt ps k = Pl.line (ps[k]'(by have := HN.out; omega)) (ps[j]'(by have := HN.out; omega))) := oh (by
    have hl := HN.out; have hj2 : (k + 1) % ps.length = j := by rw [hl]; exact hj
    unfold Pl.loopAt
    rw [hj2, List.getD_eq_getElem?_getD, List.getD_eq_getElem?_getD, List.getElem?_eq_getElem (by omega), List.getElem?_eq_getElem (by omega)]; rfl)
   obtain ⟨p, hp⟩ : ∃ p, ps[k]'(by have := HN.out; omega) = p := ⟨_, rfl⟩
   obtain ⟨q, hq⟩ : ∃ p, ps[j]'(by have := HN.out; omega) = p := ⟨_, rfl⟩
   rw [hp] at HPK HLA0; rw [hq] at HPJ HLA0; clear hp hq hpt; obtain ⟨ax, ay⟩ := p; obtain ⟨bx, bY⟩ := q
   dsimp only at HPK HPJ
   obtain ⟨e, he⟩ : ∃ e : Pl.Ed, Pl.line ⟨ax, ay⟩ ⟨bx, bY⟩ = e := ⟨_, rfl⟩
   have HLA : Hid ([Pl.loopAt ps k].flatMap edC = [Pl.line ⟨ax, ay⟩ ⟨bx, bY⟩].flatMap edC) := oh (by rw [HLA0.out])
   have HLN : Hid ((Pl.loopE ps k).length ≤ 8) := oh (by rw [Pl.loopE_length]; omega)
   have HMK : Hid (∀ v wq, Kp w wq none → wq.heap[w.heap.size]? = some (.cells #[I6 0, .slice none 0 0, I6 0] 50 (0, 0)) → Bs (w.heap.size + 1) (w.heap.size + 1 + 1) 2 (Pl.loopE ps (k + 1)) 0 v wq → LoRel ps w (I6 (k + 1)) wq) := oh (fun v wq k1 k2 k3 => ⟨k + 1, by have := HN.out; omega, by go_num, k1, k2, v, k3⟩)
   clear hj he e HLA0; go_wp2_with fail
   refine wp_region_last (fun V => V.cell? ⟨w.heap.size + 1, 1, none⟩ = some u ∧ V.cell? ⟨b, off + k * 2, none⟩ = some (I6 ax) ∧ V.cell? ⟨b, off + k * 2 + 1, none⟩ = some (I6 ay) ∧ V.cell? ⟨b, off + j * 2, none⟩ = some (I6 bx) ∧ V.cell? ⟨b, off + j * 2 + 1, none⟩ = some (I6 bY) ∧ Hid (Kp wr V u.ownBlock)) 18 (by kernel_rfl) ?_ (fun eh => ?_)
   ·exact ⟨HB.out.cell, (HPK.out _ HK.out.drew).1, (HPK.out _ HK.out.drew).2, (HPJ.out _ HK.out.drew).1, (HPJ.out _ HK.out.drew).2, oh ((Kp.refl wr _).drew)⟩
   refine tjL 0 rfl ?_; refine tjL 1 rfl ?_; refine tjL 2 rfl ?_; refine tjL 3 rfl ?_; refine tjL 4 rfl ?_; refine tjL 5 rfl ?_; refine tjL 6 rfl ?_; refine tjL 7 rfl ?_; refine tjL 8 rfl ?_; refine tjL 9 rfl ?_; refine tjL 10 rfl ?_; refine tjL 11 rfl ?_; refine tjL 12 rfl ?_; refine tjL 13 rfl ?_; refine tjL 14 rfl ?_
   have HRA := oh (blk HR.out ((Kp.refl wr none).drew.alloc (.cells #[I6 1, I6 ax, I6 ay, I6 bx, I6 bY, I6 0, I6 0] 123)))
   have HA0 := oh (HB.out.keep (Kp.refl wr none).drew)
   have KA0 : Hid (Kp w wr.drew none) := oh HK.out.drew
   refine rdL 15 rfl (fun K hK => ?_); have gK := eh.2.2.2.2.2; clear eh; go_simp; try go_wp2_with fail
   have HA1 := oh (HA0.out.keep ((Kp.refl _ none).alloc (.cells #[I6 1, I6 ax, I6 ay, I6 bx, I6 bY, I6 0, I6 0] 123)))
   have KA1 : Hid (Kp w _ none) := oh (KA0.out.alloc (.cells #[I6 1, I6 ax, I6 ay, I6 bx, I6 bY, I6 0, I6 0] 123))
   have HE1 : Hid (IsList 7 edC _ _ [(Pl.line ⟨ax, ay⟩ ⟨bx, bY⟩)]) := oh (ed_list (w := wr.drew) (Pl.line ⟨ax, ay⟩ ⟨bx, bY⟩))
   refine hK.out _ _ ?_ (fun eh => ?_)
   ·exact ⟨HA1.out.cell, (HPK.out _ KA1.out).1, (HPK.out _ KA1.out).2, (HPJ.out _ KA1.out).1, (HPJ.out _ KA1.out).2, oh ((gK.out.trans ((Kp.refl _ _).alloc _)))⟩
   clear hK K gK HA0 KA0; try simp only [Act.put, sm]
   refine rdL 16 rfl (fun K hK => ?_); have gK := eh.2.2.2.2.2; clear eh
   refine step_app (f := edC) rfl (.tmp 13) (.tmp 27) (w.heap.size + 1 + 1) 48 123 rfl i0 _ 7 56 (by kernel_rfl) hi hz0 hz1 hz2 rfl (by omega) (fun _ => rfl) (by intro x q hq; simp [edC] at hq; rcases hq with rfl | rfl | rfl | rfl | rfl | rfl | rfl <;> rfl) _ _ _ rfl HA1.out.2.2 _ [(Pl.line ⟨ax, ay⟩ ⟨bx, bY⟩)] rfl HE1.out (by have := HLN.out; unfold maxLen; simp <;> omega) (by have := HLN.out; simp <;> omega) HA1.out.2.1.2 ?_
   intro v3 w3 ho hg hb; obtain ⟨ea3, ec3, rfl⟩ := own_slice ho
   have HR3 := oh (res_kept HRA.out hg (fun q hq => by have := (HA1.out.2.2.lt q hq).1; omega))
   have HO3 := oh ho; have HG3 := oh hg; clear ho hg hb; try simp only [Act.put, sm]
   have hA3 : Hid (w3.heap[_]? = _) := oh (HA1.out.other HG3.out)
   have KA3 : Hid (Kp w w3 none) := oh (Kp.row KA1.out HG3.out (fun q hq => by have := (HA1.out.2.2.lt q hq).1; have := HA1.out.2.1.1; omega))
   refine hK _ _ ?_ (fun eh => ?_)
   ·exact ⟨(by have := Lib.cell_of_heap hA3.out 1; simpa using this), (HPK.out _ KA3.out).1, (HPK.out _ KA3.out).2, (HPJ.out _ KA3.out).1, (HPJ.out _ KA3.out).2, oh (gK.out.trans HG3.out)⟩
   clear hK K gK; try simp only [Act.put, sm]
   refine tjL 17 rfl ?_; refine rdE rfl (fun K hK => ?_)
   have f3 := fz hA3.out 1
   have c3 := Lib.cell_of_heap hA3.out 1
   simp at c3
   clear eh; go_simp; try go_wp2_with fail
   refine hK.out _ _ ?_
   clear hK K; try simp only [Act.put, sm]
   have HF : Hid (Bs (w.heap.size + 1) (w.heap.size + 1 + 1) 2 (Pl.loopE ps (k + 1)) 0 _ (w3.setCell ⟨w.heap.size + 1, 1, none⟩ (.slice ea3 ((Pl.loopE ps k).length + [(Pl.line ⟨ax, ay⟩ ⟨bx, bY⟩)].length) ec3))) := oh (HA1.out.put HG3.out HO3.out (by rw [Pl.loopE_length, Pl.loopE_length]; rfl) (by rw [Pl.loopE_step, List.flatMap_append, HLA.out]))
   have KF : Hid (Kp w (w3.setCell ⟨w.heap.size + 1, 1, none⟩ (.slice ea3 ((Pl.loopE ps k).length + [(Pl.line ⟨ax, ay⟩ ⟨bx, bY⟩)].length) ec3)) none) := oh (HA1.out.far KA1.out (by omega) HG3.out)
   clear f3 c3 HO3 hA3 KA3 HA1 KA1 HE1; refine wpAnyL_done (by kernel_rfl) ?_ _
   have HREL := oh (HMK.out _ _ KF.out (res_set HR3.out (by omega)) HF.out)
   clear HF KF HR3; go_wp2_with fail
   first | exact ⟨HREL.out, by simp [intOf]; omega⟩ | (go_roundw; all_goals first | exact HREL.out | (simp [intOf]; omega))
  ·have hk1 : ¬ (k : Int) < (n : Int) := by omega
   have hkn : k = n := by have := HN.out; omega
   subst hkn; obtain ⟨ea, ec, rfl⟩ := HB.out.slice
   have hc0 : wr.cell? ⟨w.heap.size + 1, 0, none⟩ = some (I6 2) := by have := Lib.cell_of_heap HB.out.1 0; simpa using this
   have hc1 : wr.cell? ⟨w.heap.size + 1, 1, none⟩ = some (.slice ea (Pl.loopE ps k).length ec) := by have := Lib.cell_of_heap HB.out.1 1; simpa using this
   have hc2 : wr.cell? ⟨w.heap.size + 1, 2, none⟩ = some (I6 0) := by have := Lib.cell_of_heap HB.out.1 2; simpa using this
   have g0 := fz HR.out 0
   have g1 := fz HR.out 1
   have g2 := fz HR.out 2
   have x0 := Lib.cell_of_heap HR.out 0
   have x1 := Lib.cell_of_heap HR.out 1
   have x2 := Lib.cell_of_heap HR.out 2
   simp at x0 x1 x2
   go_wp2_with fail
   clear x0 x1 x2 g0 g1 g2 hc0 hc1 hc2; have hs0 := heap_set (o := 0) (v := I6 2) HR.out
   have hs1 := heap_set (o := 1) (v := .slice ea (Pl.loopE ps k).length ec) hs0
   have hs2 := heap_set (o := 2) (v := I6 0) hs1
   have q0 := Lib.cell_of_heap hs2 0
   have q1 := Lib.cell_of_heap hs2 1
   have q2 := Lib.cell_of_heap hs2 2
   simp at q0 q1 q2
   have HO := oh (Bs.out (R := w.heap.size) (x0 := I6 2) (x1 := .slice ea (Pl.loopE ps k).length ec) (x2 := I6 0) HB.out (by omega)).2
   have KF : Hid (Kp w (((wr.setCell ⟨w.heap.size, 0, none⟩ (I6 2)).setCell ⟨w.heap.size, 1, none⟩ (.slice ea (Pl.loopE ps k).length ec)).setCell ⟨w.heap.size, 2, none⟩ (I6 0)) none) := oh (HK.out.of_own ((((Kp.refl wr (some (w.heap.size))).set (I6 2)).set (.slice ea (Pl.loopE ps k).length ec)).set (I6 0)) (by omega))
   have FR : Hid (∀ p, ea = some p → w.heap.size ≤ p.block) := oh (fun p hp => by have := HB.out.fresh p hp; omega)
   clear hs0 hs1 hs2
   generalize (((wr.setCell ⟨w.heap.size, 0, none⟩ (I6 2)).setCell ⟨w.heap.size, 1, none⟩ (.slice ea (Pl.loopE ps k).length ec)).setCell ⟨w.heap.size, 2, none⟩ (I6 0)) = wf at *
   exact bodyPost_ret (v := .agg #[I6 2, .slice ea (Pl.loopE ps k).length ec, I6 0]) (by simp [results, Tryz.results111, go_sem, q0, q1, q2]) rfl ⟨ea, ec, rfl, HO.out, FR.out, KF.out⟩
set_option maxHeartbeats 4000000
set_option maxRecDepth 100000
theorem pts4 (w : World) (x0 y0 x1 y1 x2 y2 x3 y3 : Int) : LiesAt 2 ptC (w.alloc (.cells #[I6 x0, I6 y0, I6 x1, I6 y1, I6 x2, I6 y2, I6 x3, I6 y3] 42)) (some ⟨w.heap.size, 0, none⟩) 4 [⟨x0, y0⟩, ⟨x1, y1⟩, ⟨x2, y2⟩, ⟨x3, y3⟩] := fun k hk => by
 refine ⟨w.heap.size, 0, rfl, by simp, Nat.le_refl _, fun j hj => ?_⟩
 have hk' : k = 0 ∨ k = 1 ∨ k = 2 ∨ k = 3 := by simp at hk; omega
 have hj' : j = 0 ∨ j = 1 := by
  have : j < 2 := by rcases hk' with rfl | rfl | rfl | rfl <;> simpa [ptC] using hj
  omega
 rcases hk' with rfl | rfl | rfl | rfl <;> rcases hj' with rfl | rfl <;> exact hcell (heap_alloc_new w _) _ rfl
theorem rdisc_any (x y r : Int) (w : World) : Calls Tryz.prog 39 #[.agg #[I6 x, I6 y], I6 r] w (ShapeIs w (Pl.disc ⟨x, y⟩ r)) := by
 go_enter Tryz.func39, Tryz.ntmps39
 go_wp2_with fail
 go_returns
 have hl := ed_list (w := (w.alloc (.cells #[I6 x, I6 y] 42)).alloc (.cells #[I6 1, .slice (some ⟨w.heap.size + 1 + 1, 0, none⟩) 1 1, I6 r] 50)) (Pl.line ⟨x, y⟩ ⟨x, y⟩)
 simp at hl
 exact ⟨_, _, rfl, hl.lies, fun p hp => by injection hp with hp; subst hp; dsimp only; omega, (((Kp.refl w none).alloc _).alloc _).alloc _⟩
theorem rrect_any (x0 y0 x1 y1 : Int) (w : World) : Calls Tryz.prog 73 #[.agg #[I6 x0, I6 y0, I6 x1, I6 y1]] w (ShapeIs w ⟨2, Pl.loopE [⟨x0, y0⟩, ⟨x1, y0⟩, ⟨x1, y1⟩, ⟨x0, y1⟩] 4, 0⟩) := by
 go_enter Tryz.func73, Tryz.ntmps73
 go_wp2_with fail
 have HL := oh (pts4 ((w.alloc (.cells #[I6 x0, I6 y0, I6 x1, I6 y1] 142)).alloc (.cells #[I6 0, .slice none 0 0, I6 0] 50)) x0 y0 x1 y0 x1 y1 x0 y1)
 simp at HL
 have HR0 : Hid (((w.alloc (.cells #[I6 x0, I6 y0, I6 x1, I6 y1] 142)).alloc (.cells #[I6 0, .slice none 0 0, I6 0] 50)).heap[w.heap.size + 1]? = some (.cells #[I6 0, .slice none 0 0, I6 0] 50 (0, 0))) := oh (by have h := heap_alloc_new (w.alloc (.cells #[I6 x0, I6 y0, I6 x1, I6 y1] 142)) (.cells #[I6 0, .slice none 0 0, I6 0] 50); simpa using h)
 refine (loop_any [⟨x0, y0⟩, ⟨x1, y0⟩, ⟨x1, y1⟩, ⟨x0, y1⟩] 4 rfl _ _ _ HL.out (by omega) (by omega)).mono ?_
 rintro E w1 ⟨ea, ec, rfl, hl, hf, k1⟩; have HR := oh (blk HR0.out (((Kp.refl _ none).alloc _).trans k1))
 have K1 := oh ((((Kp.refl w none).alloc _).alloc _).trans (((Kp.refl _ none).alloc _).trans k1))
 have HLI := oh hl; have FRX : Hid (∀ p, ea = some p → w.heap.size ≤ p.block ∧ p.block ≠ w.heap.size + 1) := oh (fun p hp => by have := hf p hp; simp at this; omega)
 clear hl hf k1 HL HR0; have g0 := fz HR.out 0
 have g1 := fz HR.out 1
 have g2 := fz HR.out 2
 have x0' : w1.cell? ⟨w.heap.size + 1, 0, none⟩ = some (I6 0) := hcell HR.out 0 rfl
 have x1' : w1.cell? ⟨w.heap.size + 1, 1, none⟩ = some (.slice none 0 0) := hcell HR.out 1 rfl
 have x2' : w1.cell? ⟨w.heap.size + 1, 2, none⟩ = some (I6 0) := hcell HR.out 2 rfl
 go_wp2_with fail
 clear x0' x1' x2' g0 g1 g2; have hs0 := heap_set (o := 0) (v := I6 2) HR.out
 have hs1 := heap_set (o := 1) (v := .slice ea (Pl.loopE [⟨x0, y0⟩, ⟨x1, y0⟩, ⟨x1, y1⟩, ⟨x0, y1⟩] 4).length ec) hs0
 have hs2 := heap_set (o := 2) (v := I6 0) hs1
 have q0 := Lib.cell_of_heap hs2 0
 have q1 := Lib.cell_of_heap hs2 1
 have q2 := Lib.cell_of_heap hs2 2
 simp at q0 q1 q2
 have HO : Hid (LiesAt 7 edC (((w1.setCell ⟨w.heap.size + 1, 0, none⟩ (I6 2)).setCell ⟨w.heap.size + 1, 1, none⟩ (.slice ea (Pl.loopE [⟨x0, y0⟩, ⟨x1, y0⟩, ⟨x1, y1⟩, ⟨x0, y1⟩] 4).length ec)).setCell ⟨w.heap.size + 1, 2, none⟩ (I6 0)) ea ec _) := oh (HLI.out.keepRow ((((Kp.refl w1 (some (w.heap.size + 1))).set (I6 2)).set (.slice ea (Pl.loopE [⟨x0, y0⟩, ⟨x1, y0⟩, ⟨x1, y1⟩, ⟨x0, y1⟩] 4).length ec)).set (I6 0)) (fun p hp => (FRX.out p hp).2))
 have KF : Hid (Kp w (((w1.setCell ⟨w.heap.size + 1, 0, none⟩ (I6 2)).setCell ⟨w.heap.size + 1, 1, none⟩ (.slice ea (Pl.loopE [⟨x0, y0⟩, ⟨x1, y0⟩, ⟨x1, y1⟩, ⟨x0, y1⟩] 4).length ec)).setCell ⟨w.heap.size + 1, 2, none⟩ (I6 0)) none) := oh (K1.out.of_own ((((Kp.refl w1 (some (w.heap.size + 1))).set (I6 2)).set (.slice ea (Pl.loopE [⟨x0, y0⟩, ⟨x1, y0⟩, ⟨x1, y1⟩, ⟨x0, y1⟩] 4).length ec)).set (I6 0)) (by omega))
 clear hs0 hs1 hs2
 generalize (((w1.setCell ⟨w.heap.size + 1, 0, none⟩ (I6 2)).setCell ⟨w.heap.size + 1, 1, none⟩ (.slice ea (Pl.loopE [⟨x0, y0⟩, ⟨x1, y0⟩, ⟨x1, y1⟩, ⟨x0, y1⟩] 4).length ec)).setCell ⟨w.heap.size + 1, 2, none⟩ (I6 0)) = wf at *
 exact bodyPost_ret (v := .agg #[I6 2, .slice ea (Pl.loopE [⟨x0, y0⟩, ⟨x1, y0⟩, ⟨x1, y1⟩, ⟨x0, y1⟩] 4).length ec, I6 0]) (by simp [results, Tryz.results73, go_sem, q0, q1, q2]) rfl ⟨ea, ec, rfl, HO.out, fun p hp => (FRX.out p hp).1, KF.out⟩
end Go.Proofs.YtljjbdbgedmadaaGreatDoor
