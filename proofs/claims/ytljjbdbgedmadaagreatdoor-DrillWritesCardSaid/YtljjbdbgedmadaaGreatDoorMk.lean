/- The makers of edges of the reference's shapes: a line, a quarter of a circle. Conditions: a point within 1000, a radius of at most 30. -/
import Derived.Test.YtljjbdbgedmadaaGreatDoorAp
import Derived.Test.YtljjbdbgedmadaaGreatDoorHs
import Derived.Test.YtljjbdbgedmadaaGreatDoorBase
import Derived.Deep.CutBlock
import Derived.Deep.CutRange
set_option maxHeartbeats 8000000
set_option maxRecDepth 100000
namespace Go.Proofs.YtljjbdbgedmadaaGreatDoor
open Go.RowKit
def Box (b : Int) (x y : Int) : Prop := (-b ≤ x ∧ x ≤ b) ∧ (-b ≤ y ∧ y ≤ b)
theorem turn_box (t : Int) {b x y : Int} (h : Box b x y) : Box b (Pl.turn t ⟨x, y⟩).x (Pl.turn t ⟨x, y⟩).y := by
 unfold Pl.turn
 unfold Box at *
 split
 ·dsimp only; omega
 ·split
  ·dsimp only; omega
  ·split <;> (dsimp only; omega)
theorem apply_turn (t x y : Int) (V : World) {b : Int} (h : Box b x y) (hb : b ≤ 1000000) : Calls Tryz.prog 136 #[.agg #[I6 0, I6 0, I6 t, .bool false], .agg #[I6 x, I6 y]] V fun E w' => E = .returned (.agg #[I6 (Pl.turn t ⟨x, y⟩).x, I6 (Pl.turn t ⟨x, y⟩).y]) ∧ Kp V w' none := by
 unfold Box at h
 have h := rapply_any 0 0 x y t false V (by unfold Mid; omega) (by unfold Mid; omega) (by unfold Mid; omega) (by unfold Mid; omega)
 simpa [Pl.apply, Pl.add] using h
theorem heap_two {w : World} {p : Nat} {a0 a1 : Value} {T : TypeId} (h : w.heap[p]? = some (.cells #[a0, a1] T (0, 0))) (b0 b1 : Value) : ((w.setCell ⟨p, 0, none⟩ b0).setCell ⟨p, 1, none⟩ b1).heap[p]? = some (.cells #[b0, b1] T (0, 0)) ∧ Kp w ((w.setCell ⟨p, 0, none⟩ b0).setCell ⟨p, 1, none⟩ b1) (some p) :=
 ⟨heap_set (o := 1) (v := b1) (heap_set (o := 0) (v := b0) h), ((Kp.refl w (some p)).set _).set _⟩
theorem heap_seven2 {w : World} {B : Nat} {a0 a1 a2 a3 a4 a5 a6 : Value} (h : w.heap[B]? = some (.cells #[a0, a1, a2, a3, a4, a5, a6] 123 (0, 0))) (v0 v1 v2 v3 v4 v5 v6 : Value) :
  (((((((w.setCell ⟨B, 0, none⟩ (v0)).setCell ⟨B, 1, none⟩ (v1)).setCell ⟨B, 2, none⟩ (v2)).setCell ⟨B, 3, none⟩ (v3)).setCell ⟨B, 4, none⟩ (v4)).setCell ⟨B, 5, none⟩ (v5)).setCell ⟨B, 6, none⟩ (v6)).heap[B]? = some (.cells #[v0, v1, v2, v3, v4, v5, v6] 123 (0, 0)) ∧ Kp w (((((((w.setCell ⟨B, 0, none⟩ (v0)).setCell ⟨B, 1, none⟩ (v1)).setCell ⟨B, 2, none⟩ (v2)).setCell ⟨B, 3, none⟩ (v3)).setCell ⟨B, 4, none⟩ (v4)).setCell ⟨B, 5, none⟩ (v5)).setCell ⟨B, 6, none⟩ (v6)) (some B) :=
 ⟨heap_set (o := 6) (v := v6) (heap_set (o := 5) (v := v5) (heap_set (o := 4) (v := v4) (heap_set (o := 3) (v := v3) (heap_set (o := 2) (v := v2) (heap_set (o := 1) (v := v1) (heap_set (o := 0) (v := v0) h)))))), (((((((Kp.refl w (some B)).set _).set _).set _).set _).set _).set _).set _⟩
structure QQ (w : World) (px py tn : Int) (V : World) : Prop where
 kp : Kp w V none
 p : V.heap[w.heap.size]? = some (.cells #[I6 px, I6 py] 42 (0, 0))
 r : V.heap[w.heap.size + 1]? = some (.cells #[I6 0, I6 0, I6 0, I6 0, I6 0, I6 0, I6 0] 123 (0, 0))
 m : V.heap[w.heap.size + 1 + 1]? = some (.cells #[I6 0, I6 0, I6 tn, .bool false] 44 (0, 0))
theorem QQ.keep {w V V' : World} {px py tn : Int} (h : QQ w px py tn V) (k : Kp V V' none) : QQ w px py tn V' := ⟨h.kp.trans k, blk h.p k, blk h.r k, blk h.m k⟩
theorem QQ.sz {w V : World} {px py tn : Int} (h : QQ w px py tn V) : w.heap.size + 3 ≤ V.heap.size := lt_of_block h.m
theorem QQ.row {w V V' : World} {px py tn : Int} {B : Nat} (h : QQ w px py tn V) (k : Kp V V' (some B)) (hB : w.heap.size + 3 ≤ B) : QQ w px py tn V' :=
 ⟨Kp.of_own h.kp k (by omega), res_kept h.p k (by intro q hq; injection hq with hq; omega), res_kept h.r k (by intro q hq; injection hq with hq; omega), res_kept h.m k (by intro q hq; injection hq with hq; omega)⟩
theorem QQ.new (w : World) (px py tn : Int) : QQ w px py tn (((w.alloc (.cells #[I6 px, I6 py] 42)).alloc (.cells #[I6 0, I6 0, I6 0, I6 0, I6 0, I6 0, I6 0] 123)).alloc (.cells #[I6 0, I6 0, I6 tn, .bool false] 44)) := by
 have h2 := heap_alloc_new (w.alloc (.cells #[I6 px, I6 py] 42)) (.cells #[I6 0, I6 0, I6 0, I6 0, I6 0, I6 0, I6 0] 123)
 have h3 := heap_alloc_new ((w.alloc (.cells #[I6 px, I6 py] 42)).alloc (.cells #[I6 0, I6 0, I6 0, I6 0, I6 0, I6 0, I6 0] 123)) (.cells #[I6 0, I6 0, I6 tn, .bool false] 44)
 have e1 : (w.alloc (.cells #[I6 px, I6 py] 42)).heap.size = w.heap.size + 1 := by simp
 have e2 : ((w.alloc (.cells #[I6 px, I6 py] 42)).alloc (.cells #[I6 0, I6 0, I6 0, I6 0, I6 0, I6 0, I6 0] 123)).heap.size = w.heap.size + 1 + 1 := by simp
 rw [e1] at h2; rw [e2] at h3; exact ⟨(((Kp.refl w none).alloc _).alloc _).alloc _, blk (blk (heap_alloc_new w _) ((Kp.refl _ none).alloc _)) ((Kp.refl _ none).alloc _), blk h2 ((Kp.refl _ none).alloc _), h3⟩
def quarterE (px py r tn : Int) (rt : Bool) : Pl.Ed :=
 let c : Pl.Pt := ⟨px + (Pl.turn tn ⟨r, 0⟩).x, py + (Pl.turn tn ⟨r, 0⟩).y⟩
 let v := Pl.turn (if rt then 3 else 1) ⟨px - c.x, py - c.y⟩
 ⟨if rt then 3 else 2, ⟨px, py⟩, ⟨c.x + v.x, c.y + v.y⟩, c⟩
theorem quarterE_of {px py r tn cx cy ux uy vx vy : Int} (rt : Bool) (h1 : cx = px + (Pl.turn tn ⟨r, 0⟩).x) (h2 : cy = py + (Pl.turn tn ⟨r, 0⟩).y) (h3 : ux = px - cx) (h4 : uy = py - cy) (h5 : vx = (Pl.turn (if rt then 3 else 1) ⟨ux, uy⟩).x) (h6 : vy = (Pl.turn (if rt then 3 else 1) ⟨ux, uy⟩).y) : quarterE px py r tn rt = ⟨if rt then 3 else 2, ⟨px, py⟩, ⟨cx + vx, cy + vy⟩, ⟨cx, cy⟩⟩ := by
 subst h5; subst h6; subst h3; subst h4; subst h1; subst h2; rfl
theorem quart_any (px py r tn : Int) (rt : Bool) (w : World) (hp : Box 1000 px py) (hr : 0 ≤ r ∧ r ≤ 30) : Calls Tryz.prog 91 #[.agg #[I6 px, I6 py], I6 r, I6 tn, .bool rt] w fun E w' => E = .returned (.agg #[I6 (quarterE px py r tn rt).k, I6 (quarterE px py r tn rt).a.x, I6 (quarterE px py r tn rt).a.y, I6 (quarterE px py r tn rt).b.x, I6 (quarterE px py r tn rt).b.y, I6 (quarterE px py r tn rt).c.x, I6 (quarterE px py r tn rt).c.y]) ∧ Kp w w' none := by
 have hb0 : Box 30 r 0 := by unfold Box; omega
 obtain ⟨tx, htx⟩ : ∃ x, (Pl.turn tn ⟨r, 0⟩).x = x := ⟨_, rfl⟩
 obtain ⟨ty, hty⟩ : ∃ x, (Pl.turn tn ⟨r, 0⟩).y = x := ⟨_, rfl⟩
 have hbt := turn_box tn hb0
 rw [htx, hty] at hbt; have HAP : Hid (∀ V, Calls Tryz.prog 136 #[.agg #[I6 0, I6 0, I6 tn, .bool false], .agg #[I6 r, I6 0]] V fun E w' => E = .returned (.agg #[I6 tx, I6 ty]) ∧ Kp V w' none) := oh (fun V => by have h := apply_turn tn r 0 V hb0 (by omega); rw [htx, hty] at h; exact h)
 obtain ⟨cx, hcx⟩ : ∃ x, px + tx = x := ⟨_, rfl⟩
 obtain ⟨cy, hcy⟩ : ∃ x, py + ty = x := ⟨_, rfl⟩
 have HAD : Hid (∀ V, Calls Tryz.prog 135 #[.agg #[I6 px, I6 py], .agg #[I6 tx, I6 ty]] V fun E w' => E = .returned (.agg #[I6 cx, I6 cy]) ∧ Kp V w' none) := oh (fun V => by rw [← hcx, ← hcy]; exact radd_any px py tx ty V (by unfold Box at hp; unfold Mid; omega) (by unfold Box at hp; unfold Mid; omega) (by unfold Box at hbt; unfold Mid; omega) (by unfold Box at hbt; unfold Mid; omega))
 obtain ⟨ux, hux⟩ : ∃ x, px - cx = x := ⟨_, rfl⟩
 obtain ⟨uy, huy⟩ : ∃ x, py - cy = x := ⟨_, rfl⟩
 have HCB : Hid ((-2000 ≤ cx ∧ cx ≤ 2000) ∧ (-2000 ≤ cy ∧ cy ≤ 2000)) := oh (by unfold Box at hp hbt; omega)
 have HUB : Hid (Box 30 ux uy) := oh (by unfold Box at *; omega)
 have HSU : Hid (∀ V, Calls Tryz.prog 134 #[.agg #[I6 px, I6 py], .agg #[I6 cx, I6 cy]] V fun E w' => E = .returned (.agg #[I6 ux, I6 uy]) ∧ Kp V w' none) := oh (fun V => by rw [← hux, ← huy]; have h := HCB.out; exact rsub_any px py cx cy V (by unfold Box at hp; unfold Mid; omega) (by unfold Box at hp; unfold Mid; omega) (by unfold Mid; omega) (by unfold Mid; omega))
 have HC1 : Hid (cx = px + (Pl.turn tn ⟨r, 0⟩).x) := oh (by rw [htx, hcx])
 have HC2 : Hid (cy = py + (Pl.turn tn ⟨r, 0⟩).y) := oh (by rw [hty, hcy])
 have HU1 : Hid (ux = px - cx) := oh hux.symm
 have HU2 : Hid (uy = py - cy) := oh huy.symm
 clear hb0 hbt hcx hcy hux huy htx hty hp hr; have HQ := oh (QQ.new w px py tn)
 go_enter Tryz.func91, Tryz.ntmps91
 go_upto_region 2 with fail
 generalize ((w.alloc (.cells #[I6 px, I6 py] 42)).alloc (.cells #[I6 0, I6 0, I6 0, I6 0, I6 0, I6 0, I6 0] 123)).alloc (.cells #[I6 0, I6 0, I6 tn, .bool false] 44) = X at *
 go_cut [10] from 16 to 21 (fun s10 wx => ∃ B : Nat, s10 = .pointer (some ⟨B, 0, none⟩) ∧ QQ w px py tn wx ∧ wx.heap[B]? = some (.cells #[I6 cx, I6 cy] 42 (0, 0)) ∧ w.heap.size + 3 ≤ B)
 case first =>
  replace HQ := oh (HQ.out.keep (Kp.refl X none).drew); refine wp_region_last (fun V => V.cell? ⟨w.heap.size, 0, none⟩ = some (I6 px) ∧ V.cell? ⟨w.heap.size, 1, none⟩ = some (I6 py) ∧ V.cell? ⟨w.heap.size + 1 + 1, 0, none⟩ = some (I6 0) ∧ V.cell? ⟨w.heap.size + 1 + 1, 1, none⟩ = some (I6 0) ∧ V.cell? ⟨w.heap.size + 1 + 1, 2, none⟩ = some (I6 tn) ∧ V.cell? ⟨w.heap.size + 1 + 1, 3, none⟩ = some (.bool false)) 7 (by kernel_rfl) ?_ (fun eh => ?_)
  ·exact ⟨hcell HQ.out.p 0 rfl, hcell HQ.out.p 1 rfl, hcell HQ.out.m 0 rfl, hcell HQ.out.m 1 rfl, hcell HQ.out.m 2 rfl, hcell HQ.out.m 3 rfl⟩
  generalize X.drew = Y at *
  refine tjL 0 rfl ?_; refine tjL 1 rfl ?_; refine tjL 2 rfl ?_; refine tjL 3 rfl ?_
  refine rdD 4 6 rfl rfl (fun K hK => ?_) (fun K hK => ?_)
  ·clear eh; go_simp; refine (HAP.out _).mono ?_
   rintro E V1 ⟨rfl, kk⟩; replace HQ := oh (HQ.out.keep kk); clear kk; try go_wp2_with fail
   refine hK.out _ _ ?_ (fun eh => ?_)
   ·exact ⟨hcell HQ.out.p 0 rfl, hcell HQ.out.p 1 rfl, hcell HQ.out.m 0 rfl, hcell HQ.out.m 1 rfl, hcell HQ.out.m 2 rfl, hcell HQ.out.m 3 rfl⟩
   clear hK K; try simp only [Act.put, sm]
   refine rdD 5 6 rfl rfl (fun K hK => ?_) (fun K hK => ?_)
   ·clear eh; go_simp; refine (HAD.out _).mono ?_
    rintro E V2 ⟨rfl, kk⟩; replace HQ := oh (HQ.out.keep kk); clear kk; try go_wp2_with fail
    refine hK.out _ _ ?_ (fun eh => ?_)
    ·exact ⟨hcell HQ.out.p 0 rfl, hcell HQ.out.p 1 rfl, hcell HQ.out.m 0 rfl, hcell HQ.out.m 1 rfl, hcell HQ.out.m 2 rfl, hcell HQ.out.m 3 rfl⟩
    clear hK K; try simp only [Act.put, sm]
    refine rdL 6 rfl (fun K hK => ?_); clear eh; go_simp; have ka := (Kp.refl V2 none).alloc (.cells #[I6 0, I6 0] 42)
    have HCD : Hid (w.heap.size + 3 ≤ V2.heap.size) := oh (by exact HQ.out.sz)
    replace HQ := oh (HQ.out.keep ka)
    have HC := oh (heap_alloc_new V2 (.cells #[I6 0, I6 0] 42))
    clear ka; try go_wp2_with fail
    refine hK.out _ _ ?_ (fun eh => ?_)
    ·exact ⟨hcell HQ.out.p 0 rfl, hcell HQ.out.p 1 rfl, hcell HQ.out.m 0 rfl, hcell HQ.out.m 1 rfl, hcell HQ.out.m 2 rfl, hcell HQ.out.m 3 rfl⟩
    clear hK K; try simp only [Act.put, sm]
    generalize V2.alloc (.cells #[I6 0, I6 0] 42) = V3 at *
    refine rdE rfl (fun K hK => ?_)
    have f0 := fz HC.out 0
    have f1 := fz HC.out 1
    have z0 := hcell HC.out 0 rfl
    have z1 := hcell HC.out 1 rfl
    clear eh; go_simp; try go_wp2_with fail
    refine hK.out _ _ ?_
    clear hK K f0 f1 z0 z1; try simp only [Act.put, sm]
    refine wpAnyL_done (by kernel_rfl) ?_ _
    have hs := heap_two HC.out (I6 cx) (I6 cy)
    have kk := hs.2
    have HS := oh hs.1
    have HQ9 := oh (HQ.out.row kk HCD.out); clear hs kk; go_wp2_with fail
    go_meet
    exact ⟨_, rfl, HQ9.out, HS.out, HCD.out⟩
   ·clear eh; go_simp; have ka := (Kp.refl V1 none).alloc (.cells #[I6 0, I6 0] 42)
    have HCD : Hid (w.heap.size + 3 ≤ V1.heap.size) := oh (by exact HQ.out.sz)
    replace HQ := oh (HQ.out.keep ka)
    have HC := oh (heap_alloc_new V1 (.cells #[I6 0, I6 0] 42))
    clear ka; try go_wp2_with fail
    refine hK.out _ _ ?_ (fun eh => ?_)
    ·exact ⟨hcell HQ.out.p 0 rfl, hcell HQ.out.p 1 rfl, hcell HQ.out.m 0 rfl, hcell HQ.out.m 1 rfl, hcell HQ.out.m 2 rfl, hcell HQ.out.m 3 rfl⟩
    clear hK K; try simp only [Act.put, sm]
    generalize V1.alloc (.cells #[I6 0, I6 0] 42) = V4 at *
    refine rdL 5 rfl (fun K hK => ?_); clear eh; go_simp; refine (HAD.out _).mono ?_
    rintro E V5 ⟨rfl, kk⟩; replace HQ := oh (HQ.out.keep kk); replace HC := oh (blk HC.out kk); clear kk; try go_wp2_with fail
    refine hK.out _ _ ?_ (fun eh => ?_)
    ·exact ⟨hcell HQ.out.p 0 rfl, hcell HQ.out.p 1 rfl, hcell HQ.out.m 0 rfl, hcell HQ.out.m 1 rfl, hcell HQ.out.m 2 rfl, hcell HQ.out.m 3 rfl⟩
    clear hK K; try simp only [Act.put, sm]
    refine rdE rfl (fun K hK => ?_)
    have f0 := fz HC.out 0
    have f1 := fz HC.out 1
    have z0 := hcell HC.out 0 rfl
    have z1 := hcell HC.out 1 rfl
    clear eh; go_simp; try go_wp2_with fail
    refine hK.out _ _ ?_
    clear hK K f0 f1 z0 z1; try simp only [Act.put, sm]
    refine wpAnyL_done (by kernel_rfl) ?_ _
    have hs := heap_two HC.out (I6 cx) (I6 cy)
    have kk := hs.2
    have HS := oh hs.1
    have HQ9 := oh (HQ.out.row kk HCD.out); clear hs kk; go_wp2_with fail
    go_meet
    exact ⟨_, rfl, HQ9.out, HS.out, HCD.out⟩
  ·clear eh; go_simp; have ka := (Kp.refl Y none).alloc (.cells #[I6 0, I6 0] 42)
   have HCD : Hid (w.heap.size + 3 ≤ Y.heap.size) := oh (by exact HQ.out.sz)
   replace HQ := oh (HQ.out.keep ka)
   have HC := oh (heap_alloc_new Y (.cells #[I6 0, I6 0] 42))
   clear ka; try go_wp2_with fail
   refine hK.out _ _ ?_ (fun eh => ?_)
   ·exact ⟨hcell HQ.out.p 0 rfl, hcell HQ.out.p 1 rfl, hcell HQ.out.m 0 rfl, hcell HQ.out.m 1 rfl, hcell HQ.out.m 2 rfl, hcell HQ.out.m 3 rfl⟩
   clear hK K; try simp only [Act.put, sm]
   generalize Y.alloc (.cells #[I6 0, I6 0] 42) = V6 at *
   refine rdL 4 rfl (fun K hK => ?_); clear eh; go_simp; refine (HAP.out _).mono ?_
   rintro E V7 ⟨rfl, kk⟩; replace HQ := oh (HQ.out.keep kk); replace HC := oh (blk HC.out kk); clear kk; try go_wp2_with fail
   refine hK.out _ _ ?_ (fun eh => ?_)
   ·exact ⟨hcell HQ.out.p 0 rfl, hcell HQ.out.p 1 rfl, hcell HQ.out.m 0 rfl, hcell HQ.out.m 1 rfl, hcell HQ.out.m 2 rfl, hcell HQ.out.m 3 rfl⟩
   clear hK K; try simp only [Act.put, sm]
   refine rdL 5 rfl (fun K hK => ?_); clear eh; go_simp; refine (HAD.out _).mono ?_
   rintro E V8 ⟨rfl, kk⟩; replace HQ := oh (HQ.out.keep kk); replace HC := oh (blk HC.out kk); clear kk; try go_wp2_with fail
   refine hK.out _ _ ?_ (fun eh => ?_)
   ·exact ⟨hcell HQ.out.p 0 rfl, hcell HQ.out.p 1 rfl, hcell HQ.out.m 0 rfl, hcell HQ.out.m 1 rfl, hcell HQ.out.m 2 rfl, hcell HQ.out.m 3 rfl⟩
   clear hK K; try simp only [Act.put, sm]
   refine rdE rfl (fun K hK => ?_)
   have f0 := fz HC.out 0
   have f1 := fz HC.out 1
   have z0 := hcell HC.out 0 rfl
   have z1 := hcell HC.out 1 rfl
   clear eh; go_simp; try go_wp2_with fail
   refine hK.out _ _ ?_
   clear hK K f0 f1 z0 z1; try simp only [Act.put, sm]
   refine wpAnyL_done (by kernel_rfl) ?_ _
   have hs := heap_two HC.out (I6 cx) (I6 cy)
   have kk := hs.2
   have HS := oh hs.1
   have HQ9 := oh (HQ.out.row kk HCD.out); clear hs kk; go_wp2_with fail
   go_meet
   exact ⟨_, rfl, HQ9.out, HS.out, HCD.out⟩
 case rest =>
  obtain ⟨B, rfl, hq, hc, hcd⟩ := hcut; have HQ := oh hq; have HC := oh hc; have HCD := oh hcd
  have HCL : Hid (B < wc.heap.size) := oh (lt_of_block hc)
  clear hq hc hcd
  cases rt with
  | false =>
   obtain ⟨vx, hvx⟩ : ∃ x, (Pl.turn 1 ⟨ux, uy⟩).x = x := ⟨_, rfl⟩
   obtain ⟨vy, hvy⟩ : ∃ x, (Pl.turn 1 ⟨ux, uy⟩).y = x := ⟨_, rfl⟩
   have HV1 := oh hvx.symm
   have HV2 := oh hvy.symm
   have HVB := oh (turn_box 1 HUB.out); rw [hvx, hvy] at HVB
   have HAD2 : Hid (∀ V, Calls Tryz.prog 135 #[.agg #[I6 cx, I6 cy], .agg #[I6 vx, I6 vy]] V fun E w' => E = .returned (.agg #[I6 (cx + vx), I6 (cy + vy)]) ∧ Kp V w' none) := oh (fun V => radd_any cx cy vx vy V (by have := HCB.out; unfold Mid; omega) (by have := HCB.out; unfold Mid; omega) (by have := HVB.out; unfold Box at this; unfold Mid; omega) (by have := HVB.out; unfold Box at this; unfold Mid; omega))
   have HAV : Hid (∀ V, Calls Tryz.prog 136 #[.agg #[I6 0, I6 0, I6 1, .bool false], .agg #[I6 ux, I6 uy]] V fun E w' => E = .returned (.agg #[I6 vx, I6 vy]) ∧ Kp V w' none) := oh (fun V => by have h := apply_turn 1 ux uy V HUB.out (by omega); rw [hvx, hvy] at h; exact h)
   have HQE := oh (quarterE_of false HC1.out HC2.out HU1.out HU2.out HV1.out HV2.out); clear hvx hvy
   have p0 := hcell HQ.out.p 0 rfl
   have p1 := hcell HQ.out.p 1 rfl
   have c0 := hcell HC.out 0 rfl
   have c1 := hcell HC.out 1 rfl
   go_upto_region 5 with (go_at_call 134; refine (HSU.out _).mono ?_; rintro E wu ⟨rfl, kk⟩; have HQ := oh (HQ.out.keep kk); have HQU := oh HQ.out.sz; have HC := oh (blk HC.out kk); clear kk)
   clear p0 p1 c0 c1; have HU := oh (heap_alloc_new wu (.cells #[I6 ux, I6 uy] 42))
   have HQ := oh (HQ.out.keep ((Kp.refl wu none).alloc (.cells #[I6 ux, I6 uy] 42)))
   have HC := oh (blk HC.out ((Kp.refl wu none).alloc (.cells #[I6 ux, I6 uy] 42)))
   obtain ⟨BU, hBU⟩ : ∃ x, wu.heap.size = x := ⟨_, rfl⟩
   have HUD : Hid (w.heap.size + 3 ≤ BU) := oh (by have := HQ.out.sz; have := lt_of_block HU.out; have h := HQU.out; omega)
   generalize wu.alloc (.cells #[I6 ux, I6 uy] 42) = wv at *
   rw [hBU] at HU ⊢; clear hBU; have u0 := hcell HU.out 0 rfl
   have u1 := hcell HU.out 1 rfl
   go_upto_region 9 with (go_at_call 136; refine (HAV.out _).mono ?_; rintro E wx ⟨rfl, kk⟩; have HQ := oh (HQ.out.keep kk); have HC := oh (blk HC.out kk); have HU := oh (blk HU.out kk); have HQ7 := oh HQ.out.sz; clear kk)
   clear u0 u1; have HW := oh (heap_alloc_new wx (.cells #[I6 vx, I6 vy] 42))
   have ka := ((Kp.refl wx none).alloc (.cells #[I6 vx, I6 vy] 42))
   have HQ := oh (HQ.out.keep ka); have HC := oh (blk HC.out ka)
   obtain ⟨B2, hB2⟩ : ∃ x, wx.heap.size = x := ⟨_, rfl⟩
   clear ka
   generalize wx.alloc (.cells #[I6 vx, I6 vy] 42) = wy at *
   rw [hB2] at HW ⊢; clear hB2; replace HQ := oh (HQ.out.keep (Kp.refl wy none).drew); replace HC := oh (blk HC.out (Kp.refl wy none).drew); replace HW := oh (blk HW.out (Kp.refl wy none).drew); refine wp_region_last (fun V => V.cell? ⟨w.heap.size, 0, none⟩ = some (I6 px) ∧ V.cell? ⟨w.heap.size, 1, none⟩ = some (I6 py) ∧ V.cell? ⟨B, 0, none⟩ = some (I6 cx) ∧ V.cell? ⟨B, 1, none⟩ = some (I6 cy) ∧ V.cell? ⟨B2, 0, none⟩ = some (I6 vx) ∧ V.cell? ⟨B2, 1, none⟩ = some (I6 vy)) 7 (by kernel_rfl) ?_ (fun eh => ?_)
   ·exact ⟨hcell HQ.out.p 0 rfl, hcell HQ.out.p 1 rfl, hcell HC.out 0 rfl, hcell HC.out 1 rfl, hcell HW.out 0 rfl, hcell HW.out 1 rfl⟩
   generalize wy.drew = Y at *
   refine tjL 0 rfl ?_; refine tjL 1 rfl ?_; refine tjL 2 rfl ?_; refine tjL 3 rfl ?_; refine tjL 5 rfl ?_; refine rdL 4 rfl (fun K hK => ?_); clear eh; go_simp
   refine (HAD2.out _).mono ?_
   rintro E V1 ⟨rfl, kk⟩; replace HQ := oh (HQ.out.keep kk); replace HC := oh (blk HC.out kk); replace HW := oh (blk HW.out kk); clear kk; try go_wp2_with fail
   refine hK.out _ _ ?_ (fun eh => ?_)
   ·exact ⟨hcell HQ.out.p 0 rfl, hcell HQ.out.p 1 rfl, hcell HC.out 0 rfl, hcell HC.out 1 rfl, hcell HW.out 0 rfl, hcell HW.out 1 rfl⟩
   clear hK K; try simp only [Act.put, sm]
   refine tjL 6 rfl ?_; refine rdE rfl (fun K hK => ?_)
   have f0 := fz HQ.out.r 0
   have f1 := fz HQ.out.r 1
   have f2 := fz HQ.out.r 2
   have f3 := fz HQ.out.r 3
   have f4 := fz HQ.out.r 4
   have f5 := fz HQ.out.r 5
   have f6 := fz HQ.out.r 6
   have z0 := hcell HQ.out.r 0 rfl
   have z1 := hcell HQ.out.r 1 rfl
   have z2 := hcell HQ.out.r 2 rfl
   have z3 := hcell HQ.out.r 3 rfl
   have z4 := hcell HQ.out.r 4 rfl
   have z5 := hcell HQ.out.r 5 rfl
   have z6 := hcell HQ.out.r 6 rfl
   clear eh; go_simp; try go_wp2_with fail
   refine hK.out _ _ ?_
   clear hK K f0 z0 f1 z1 f2 z2 f3 z3 f4 z4 f5 z5 f6 z6; try simp only [Act.put, sm]
   refine wpAnyL_done (by kernel_rfl) ?_ _
   have hs := heap_seven2 HQ.out.r (I6 2) (I6 px) (I6 py) (I6 (cx + vx)) (I6 (cy + vy)) (I6 cx) (I6 cy)
   have HS := oh hs.1
   have HKF := oh (Kp.of_own HQ.out.kp hs.2 (Nat.le_succ _))
   clear hs
   generalize (((((((V1.setCell ⟨w.heap.size + 1, 0, none⟩ (I6 2)).setCell ⟨w.heap.size + 1, 1, none⟩ (I6 px)).setCell ⟨w.heap.size + 1, 2, none⟩ (I6 py)).setCell ⟨w.heap.size + 1, 3, none⟩ (I6 (cx + vx))).setCell ⟨w.heap.size + 1, 4, none⟩ (I6 (cy + vy))).setCell ⟨w.heap.size + 1, 5, none⟩ (I6 cx)).setCell ⟨w.heap.size + 1, 6, none⟩ (I6 cy)) = wf at *
   have q0 := hcell HS.out 0 rfl
   have q1 := hcell HS.out 1 rfl
   have q2 := hcell HS.out 2 rfl
   have q3 := hcell HS.out 3 rfl
   have q4 := hcell HS.out 4 rfl
   have q5 := hcell HS.out 5 rfl
   have q6 := hcell HS.out 6 rfl
   go_wp2_with fail
   exact bodyPost_ret (v := .agg #[I6 2, I6 px, I6 py, I6 (cx + vx), I6 (cy + vy), I6 cx, I6 cy]) (by simp [results, Tryz.results91, go_sem, q0, q1, q2, q3, q4, q5, q6]) rfl ⟨by rw [HQE.out]; rfl, HKF.out⟩
  | true =>
   obtain ⟨vx, hvx⟩ : ∃ x, (Pl.turn 3 ⟨ux, uy⟩).x = x := ⟨_, rfl⟩
   obtain ⟨vy, hvy⟩ : ∃ x, (Pl.turn 3 ⟨ux, uy⟩).y = x := ⟨_, rfl⟩
   have HV1 := oh hvx.symm
   have HV2 := oh hvy.symm
   have HVB := oh (turn_box 3 HUB.out); rw [hvx, hvy] at HVB
   have HAD2 : Hid (∀ V, Calls Tryz.prog 135 #[.agg #[I6 cx, I6 cy], .agg #[I6 vx, I6 vy]] V fun E w' => E = .returned (.agg #[I6 (cx + vx), I6 (cy + vy)]) ∧ Kp V w' none) := oh (fun V => radd_any cx cy vx vy V (by have := HCB.out; unfold Mid; omega) (by have := HCB.out; unfold Mid; omega) (by have := HVB.out; unfold Box at this; unfold Mid; omega) (by have := HVB.out; unfold Box at this; unfold Mid; omega))
   have HAV : Hid (∀ V, Calls Tryz.prog 136 #[.agg #[I6 0, I6 0, I6 3, .bool false], .agg #[I6 ux, I6 uy]] V fun E w' => E = .returned (.agg #[I6 vx, I6 vy]) ∧ Kp V w' none) := oh (fun V => by have h := apply_turn 3 ux uy V HUB.out (by omega); rw [hvx, hvy] at h; exact h)
   have HAV0 : Hid (∀ V, Calls Tryz.prog 136 #[.agg #[I6 0, I6 0, I6 1, .bool false], .agg #[I6 ux, I6 uy]] V fun E w' => E = .returned (.agg #[I6 (Pl.turn 1 ⟨ux, uy⟩).x, I6 (Pl.turn 1 ⟨ux, uy⟩).y]) ∧ Kp V w' none) := oh (fun V => apply_turn 1 ux uy V HUB.out (by omega))
   have HQE := oh (quarterE_of true HC1.out HC2.out HU1.out HU2.out HV1.out HV2.out); clear hvx hvy
   have p0 := hcell HQ.out.p 0 rfl
   have p1 := hcell HQ.out.p 1 rfl
   have c0 := hcell HC.out 0 rfl
   have c1 := hcell HC.out 1 rfl
   go_upto_region 5 with (go_at_call 134; refine (HSU.out _).mono ?_; rintro E wu ⟨rfl, kk⟩; have HQ := oh (HQ.out.keep kk); have HQU := oh HQ.out.sz; have HC := oh (blk HC.out kk); clear kk)
   clear p0 p1 c0 c1; have HU := oh (heap_alloc_new wu (.cells #[I6 ux, I6 uy] 42))
   have HQ := oh (HQ.out.keep ((Kp.refl wu none).alloc (.cells #[I6 ux, I6 uy] 42)))
   have HC := oh (blk HC.out ((Kp.refl wu none).alloc (.cells #[I6 ux, I6 uy] 42)))
   obtain ⟨BU, hBU⟩ : ∃ x, wu.heap.size = x := ⟨_, rfl⟩
   have HUD : Hid (w.heap.size + 3 ≤ BU) := oh (by have := HQ.out.sz; have := lt_of_block HU.out; have h := HQU.out; omega)
   generalize wu.alloc (.cells #[I6 ux, I6 uy] 42) = wv at *
   rw [hBU] at HU ⊢; clear hBU; have u0 := hcell HU.out 0 rfl
   have u1 := hcell HU.out 1 rfl
   go_upto_region 8 with (go_at_call 136; refine (HAV0.out _).mono ?_; rintro E wx ⟨rfl, kk⟩; have HQ := oh (HQ.out.keep kk); have HC := oh (blk HC.out kk); have HU := oh (blk HU.out kk); have HQ7 := oh HQ.out.sz; clear kk)
   have HBC : Hid (B < wx.heap.size) := oh (lt_of_block HC.out)
   have HW := oh (heap_alloc_new wx (.cells #[I6 (Pl.turn 1 ⟨ux, uy⟩).x, I6 (Pl.turn 1 ⟨ux, uy⟩).y] 42))
   have ka := ((Kp.refl wx none).alloc (.cells #[I6 (Pl.turn 1 ⟨ux, uy⟩).x, I6 (Pl.turn 1 ⟨ux, uy⟩).y] 42))
   have HQ := oh (HQ.out.keep ka); have HC := oh (blk HC.out ka); have HU := oh (blk HU.out ka)
   obtain ⟨B2, hB2⟩ : ∃ x, wx.heap.size = x := ⟨_, rfl⟩
   have HB2 : Hid (w.heap.size + 3 ≤ B2) := oh (by have := HQ7.out; omega)
   clear ka u0 u1
   generalize wx.alloc (.cells #[I6 (Pl.turn 1 ⟨ux, uy⟩).x, I6 (Pl.turn 1 ⟨ux, uy⟩).y] 42) = wz at *
   rw [hB2] at HW HBC ⊢; clear hB2; have u0 := hcell HU.out 0 rfl
   have u1 := hcell HU.out 1 rfl
   go_upto_region 9 with (go_at_call 136; refine (HAV.out _).mono ?_; rintro E wy ⟨rfl, kk⟩; have HQ := oh (HQ.out.keep kk); have HC := oh (blk HC.out kk); have HW := oh (blk HW.out kk); have f0 := fz HW.out 0; have f1 := fz HW.out 1; have z0 := hcell HW.out 0 rfl; have z1 := hcell HW.out 1 rfl; clear kk)
   clear u0 u1 f0 f1 z0 z1; have hs := heap_two HW.out (I6 vx) (I6 vy)
   have HQ := oh (HQ.out.row hs.2 HB2.out)
   have HC := oh ((hs.2.block _ (lt_of_block HC.out) (by have := HBC.out; simp; omega)).trans HC.out)
   have HW := oh hs.1
   clear hs
   generalize (wy.setCell ⟨B2, 0, none⟩ (I6 vx)).setCell ⟨B2, 1, none⟩ (I6 vy) = wy2 at *
   replace HQ := oh (HQ.out.keep (Kp.refl wy2 none).drew); replace HC := oh (blk HC.out (Kp.refl wy2 none).drew); replace HW := oh (blk HW.out (Kp.refl wy2 none).drew); refine wp_region_last (fun V => V.cell? ⟨w.heap.size, 0, none⟩ = some (I6 px) ∧ V.cell? ⟨w.heap.size, 1, none⟩ = some (I6 py) ∧ V.cell? ⟨B, 0, none⟩ = some (I6 cx) ∧ V.cell? ⟨B, 1, none⟩ = some (I6 cy) ∧ V.cell? ⟨B2, 0, none⟩ = some (I6 vx) ∧ V.cell? ⟨B2, 1, none⟩ = some (I6 vy)) 7 (by kernel_rfl) ?_ (fun eh => ?_)
   ·exact ⟨hcell HQ.out.p 0 rfl, hcell HQ.out.p 1 rfl, hcell HC.out 0 rfl, hcell HC.out 1 rfl, hcell HW.out 0 rfl, hcell HW.out 1 rfl⟩
   generalize wy2.drew = Y at *
   refine tjL 0 rfl ?_; refine tjL 1 rfl ?_; refine tjL 2 rfl ?_; refine tjL 3 rfl ?_; refine tjL 5 rfl ?_; refine rdL 4 rfl (fun K hK => ?_); clear eh; go_simp
   refine (HAD2.out _).mono ?_
   rintro E V1 ⟨rfl, kk⟩; replace HQ := oh (HQ.out.keep kk); replace HC := oh (blk HC.out kk); replace HW := oh (blk HW.out kk); clear kk; try go_wp2_with fail
   refine hK.out _ _ ?_ (fun eh => ?_)
   ·exact ⟨hcell HQ.out.p 0 rfl, hcell HQ.out.p 1 rfl, hcell HC.out 0 rfl, hcell HC.out 1 rfl, hcell HW.out 0 rfl, hcell HW.out 1 rfl⟩
   clear hK K; try simp only [Act.put, sm]
   refine tjL 6 rfl ?_; refine rdE rfl (fun K hK => ?_)
   have f0 := fz HQ.out.r 0
   have f1 := fz HQ.out.r 1
   have f2 := fz HQ.out.r 2
   have f3 := fz HQ.out.r 3
   have f4 := fz HQ.out.r 4
   have f5 := fz HQ.out.r 5
   have f6 := fz HQ.out.r 6
   have z0 := hcell HQ.out.r 0 rfl
   have z1 := hcell HQ.out.r 1 rfl
   have z2 := hcell HQ.out.r 2 rfl
   have z3 := hcell HQ.out.r 3 rfl
   have z4 := hcell HQ.out.r 4 rfl
   have z5 := hcell HQ.out.r 5 rfl
   have z6 := hcell HQ.out.r 6 rfl
   clear eh; go_simp; try go_wp2_with fail
   refine hK.out _ _ ?_
   clear hK K f0 z0 f1 z1 f2 z2 f3 z3 f4 z4 f5 z5 f6 z6; try simp only [Act.put, sm]
   refine wpAnyL_done (by kernel_rfl) ?_ _
   have hs := heap_seven2 HQ.out.r (I6 3) (I6 px) (I6 py) (I6 (cx + vx)) (I6 (cy + vy)) (I6 cx) (I6 cy)
   have HS := oh hs.1
   have HKF := oh (Kp.of_own HQ.out.kp hs.2 (Nat.le_succ _))
   clear hs
   generalize (((((((V1.setCell ⟨w.heap.size + 1, 0, none⟩ (I6 3)).setCell ⟨w.heap.size + 1, 1, none⟩ (I6 px)).setCell ⟨w.heap.size + 1, 2, none⟩ (I6 py)).setCell ⟨w.heap.size + 1, 3, none⟩ (I6 (cx + vx))).setCell ⟨w.heap.size + 1, 4, none⟩ (I6 (cy + vy))).setCell ⟨w.heap.size + 1, 5, none⟩ (I6 cx)).setCell ⟨w.heap.size + 1, 6, none⟩ (I6 cy)) = wf at *
   have q0 := hcell HS.out 0 rfl
   have q1 := hcell HS.out 1 rfl
   have q2 := hcell HS.out 2 rfl
   have q3 := hcell HS.out 3 rfl
   have q4 := hcell HS.out 4 rfl
   have q5 := hcell HS.out 5 rfl
   have q6 := hcell HS.out 6 rfl
   go_wp2_with fail
   exact bodyPost_ret (v := .agg #[I6 3, I6 px, I6 py, I6 (cx + vx), I6 (cy + vy), I6 cx, I6 cy]) (by simp [results, Tryz.results91, go_sem, q0, q1, q2, q3, q4, q5, q6]) rfl ⟨by rw [HQE.out]; rfl, HKF.out⟩
end Go.Proofs.YtljjbdbgedmadaaGreatDoor
