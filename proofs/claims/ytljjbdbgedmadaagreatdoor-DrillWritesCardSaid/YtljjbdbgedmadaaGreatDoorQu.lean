/- The program's test of an edge. Condition: points within the bounds for the test of an arc. -/
import Derived.Test.YtljjbdbgedmadaaGreatDoorPt
set_option maxHeartbeats 8000000
set_option maxRecDepth 100000
namespace Go.Proofs.YtljjbdbgedmadaaGreatDoor
open Go.RowKit
theorem quarter_oka (ek ax ay bx bY cx cy turn dx dy qx qy rx ry : Int) (w : World) (hs : ∀ V, Calls Tryz.prog 59 #[.agg #[I6 ax, I6 ay], .agg #[I6 cx, I6 cy]] V fun E w' => E = .returned (.agg #[I6 dx, I6 dy]) ∧ Kp V w' none)
  (hs2 : ∀ V, Calls Tryz.prog 59 #[.agg #[I6 bx, I6 bY], .agg #[I6 cx, I6 cy]] V fun E w' => E = .returned (.agg #[I6 qx, I6 qy]) ∧ Kp V w' none)
  (ha : ∀ V, Calls Tryz.prog 60 #[.agg #[I6 0, I6 0, I6 turn, .bool false], .agg #[I6 dx, I6 dy]] V fun E w' => E = .returned (.agg #[I6 rx, I6 ry]) ∧ Kp V w' none)
  (hg1 : (dx == 0) = true) (hg2 : (dy == 0) = false) (hc1 : (qx == rx) = true) (hc2 : (qy == ry) = true) :
  Calls Tryz.prog 223 #[.agg #[I6 ek, I6 ax, I6 ay, I6 bx, I6 bY, I6 cx, I6 cy], I6 turn] w fun E w' => E = .returned (.bool true) ∧ Kp w w' none := by
 have HS := oh hs; have HS2 := oh hs2; have HA := oh ha; clear hs hs2 ha; have HB0 := oh (heap_alloc_new w (.cells #[I6 ek, I6 ax, I6 ay, I6 bx, I6 bY, I6 cx, I6 cy] 123))
 have HK0 : Hid (Kp w (w.alloc (.cells #[I6 ek, I6 ax, I6 ay, I6 bx, I6 bY, I6 cx, I6 cy] 123)) none) := oh ((Kp.refl w none).alloc _)
 go_enter Tryz.func223, Tryz.ntmps223
 go_wp2_with fail
 refine (HS.out _).mono ?_
 rintro e w1 ⟨rfl, k1⟩; have HB1 : Hid (w1.heap[w.heap.size]? = some (.cells #[I6 ek, I6 ax, I6 ay, I6 bx, I6 bY, I6 cx, I6 cy] 123)) := oh ((k1.block _ (by simp) (by simp)).trans HB0.out)
 have HK1 := oh (HK0.out.trans k1)
 have HLT : Hid (w.heap.size < w1.heap.size) := oh (lt_of_block HB1.out)
 clear k1; have HD := oh (heap_alloc_new w1 (.cells #[I6 dx, I6 dy] 42))
 have CC : Hid (∀ V, Kp (w1.alloc (.cells #[I6 dx, I6 dy] 42)) V none → (V.cell? ⟨w.heap.size, 3, none⟩ = some (I6 bx) ∧ V.cell? ⟨w.heap.size, 4, none⟩ = some (I6 bY) ∧ V.cell? ⟨w.heap.size, 5, none⟩ = some (I6 cx) ∧ V.cell? ⟨w.heap.size, 6, none⟩ = some (I6 cy) ∧ V.cell? ⟨w1.heap.size, 0, none⟩ = some (I6 dx) ∧ V.cell? ⟨w1.heap.size, 1, none⟩ = some (I6 dy)) ∧ Hid (Kp w V none)) := oh fun V kV => by
  have k2 := ((Kp.refl w1 none).alloc (.cells #[I6 dx, I6 dy] 42)).trans kV
  exact ⟨⟨ck HB1.out k2 3 rfl, ck HB1.out k2 4 rfl, ck HB1.out k2 5 rfl, ck HB1.out k2 6 rfl, ck HD.out kV 0 rfl, ck HD.out kV 1 rfl⟩, oh (HK1.out.trans k2)⟩
 go_wp2_with fail
 refine wp_region_held_drew (S := fun V => (V.cell? ⟨w.heap.size, 3, none⟩ = some (I6 bx) ∧ V.cell? ⟨w.heap.size, 4, none⟩ = some (I6 bY) ∧ V.cell? ⟨w.heap.size, 5, none⟩ = some (I6 cx) ∧ V.cell? ⟨w.heap.size, 6, none⟩ = some (I6 cy) ∧ V.cell? ⟨w1.heap.size, 0, none⟩ = some (I6 dx) ∧ V.cell? ⟨w1.heap.size, 1, none⟩ = some (I6 dy)) ∧ Hid (Kp (w1.alloc (.cells #[I6 dx, I6 dy] 42)) V none)) (by kernel_rfl) ?_ (fun eh => ?_)
 ·exact ⟨(CC.out _ (Kp.refl _ none).drew).1, oh (Kp.refl _ none).drew⟩
 refine tjH 0 rfl ?_ (by intro w hSw; obtain ⟨⟨g1, g2, g3, g4, g5, g6⟩, g7⟩ := hSw; go_simp <;> with_reducible rfl)
 refine tjH 1 rfl ?_ (by intro w hSw; obtain ⟨⟨g1, g2, g3, g4, g5, g6⟩, g7⟩ := hSw; go_simp <;> with_reducible rfl)
 refine tjH 2 rfl ?_ (by intro w hSw; obtain ⟨⟨g1, g2, g3, g4, g5, g6⟩, g7⟩ := hSw; go_simp <;> with_reducible rfl)
 refine tjH 3 rfl ?_ (by intro w hSw; obtain ⟨⟨g1, g2, g3, g4, g5, g6⟩, g7⟩ := hSw; go_simp <;> with_reducible rfl)
 refine tjH 4 rfl ?_ (by intro w hSw; obtain ⟨⟨g1, g2, g3, g4, g5, g6⟩, g7⟩ := hSw; go_simp <;> with_reducible rfl)
 refine tjH 5 rfl ?_ (by intro w hSw; obtain ⟨⟨g1, g2, g3, g4, g5, g6⟩, g7⟩ := hSw; go_simp <;> with_reducible rfl)
 refine tjH 6 rfl ?_ (by intro w hSw; obtain ⟨⟨g1, g2, g3, g4, g5, g6⟩, g7⟩ := hSw; go_simp <;> with_reducible rfl)
 refine tjH 7 rfl ?_ (by intro w hSw; obtain ⟨⟨g1, g2, g3, g4, g5, g6⟩, g7⟩ := hSw; go_simp <;> with_reducible rfl)
 refine tjH 8 rfl ?_ (by intro w hSw; obtain ⟨⟨g1, g2, g3, g4, g5, g6⟩, g7⟩ := hSw; go_simp <;> with_reducible rfl)
 refine tjH 9 rfl ?_ (by intro w hSw; obtain ⟨⟨g1, g2, g3, g4, g5, g6⟩, g7⟩ := hSw; go_simp <;> with_reducible rfl)
 refine tjH 10 rfl ?_ (by intro w hSw; obtain ⟨⟨g1, g2, g3, g4, g5, g6⟩, g7⟩ := hSw; go_simp <;> with_reducible rfl)
 refine tjH 11 rfl ?_ (by intro w hSw; obtain ⟨⟨g1, g2, g3, g4, g5, g6⟩, g7⟩ := hSw; go_simp <;> with_reducible rfl)
 refine tjH 13 rfl ?_ (by intro w hSw; obtain ⟨⟨g1, g2, g3, g4, g5, g6⟩, g7⟩ := hSw; go_simp <;> with_reducible rfl)
 refine tjH 14 rfl ?_ (by intro w hSw; obtain ⟨⟨g1, g2, g3, g4, g5, g6⟩, g7⟩ := hSw; go_simp <;> with_reducible rfl)
 refine tjH 15 rfl ?_ (by intro w hSw; obtain ⟨⟨g1, g2, g3, g4, g5, g6⟩, g7⟩ := hSw; go_simp <;> with_reducible rfl)
 refine rdH 12 rfl (fun K hK => ?_); have gK := eh.2; clear eh; go_simp
 refine (HS2.out _).mono ?_
 rintro e w3 ⟨rfl, kk⟩; try go_wp2_with fail
 refine hK.out _ _ ⟨(CC.out _ (gK.out.trans kk)).1, oh (gK.out.trans kk)⟩ (fun eh => ?_)
 clear hK K gK kk; try simp only [Act.put, sm]
 refine rdH 16 rfl (fun K hK => ?_); have gK := eh.2; clear eh; go_simp
 refine (HA.out _).mono ?_
 rintro e w4 ⟨rfl, kk⟩; try go_wp2_with fail
 refine hK.out _ _ ⟨(CC.out _ (gK.out.trans kk)).1, oh (gK.out.trans kk)⟩ (fun eh => ?_)
 clear hK K gK kk; try simp only [Act.put, sm]
 refine tjH 17 rfl ?_ (by intro w hSw; obtain ⟨⟨g1, g2, g3, g4, g5, g6⟩, g7⟩ := hSw; go_simp <;> with_reducible rfl)
 refine tjH 18 rfl ?_ (by intro w hSw; obtain ⟨⟨g1, g2, g3, g4, g5, g6⟩, g7⟩ := hSw; go_simp <;> with_reducible rfl)
 refine rdH 19 rfl (fun K hK => ?_); have gK := eh.2; clear eh; go_simp; try go_wp2_with fail
 refine hK.out _ _ ⟨(CC.out _ gK.out).1, gK⟩ (fun eh => ?_)
 have KZ := oh (CC.out _ gK.out).2
 clear hK K eh gK; refine wpAnyH_done (by kernel_rfl) ?_ _
 go_wp2_with fail
 go_ret
 exact ⟨rfl, KZ.out.out⟩
theorem quarter_no1a (ek ax ay bx bY cx cy turn dx dy qx qy rx ry : Int) (w : World) (hs : ∀ V, Calls Tryz.prog 59 #[.agg #[I6 ax, I6 ay], .agg #[I6 cx, I6 cy]] V fun E w' => E = .returned (.agg #[I6 dx, I6 dy]) ∧ Kp V w' none)
  (hs2 : ∀ V, Calls Tryz.prog 59 #[.agg #[I6 bx, I6 bY], .agg #[I6 cx, I6 cy]] V fun E w' => E = .returned (.agg #[I6 qx, I6 qy]) ∧ Kp V w' none)
  (ha : ∀ V, Calls Tryz.prog 60 #[.agg #[I6 0, I6 0, I6 turn, .bool false], .agg #[I6 dx, I6 dy]] V fun E w' => E = .returned (.agg #[I6 rx, I6 ry]) ∧ Kp V w' none)
  (hg1 : (dx == 0) = true) (hg2 : (dy == 0) = false) (hc1 : (qx == rx) = false)  :
  Calls Tryz.prog 223 #[.agg #[I6 ek, I6 ax, I6 ay, I6 bx, I6 bY, I6 cx, I6 cy], I6 turn] w fun E w' => E = .returned (.bool false) ∧ Kp w w' none := by
 have HS := oh hs; have HS2 := oh hs2; have HA := oh ha; clear hs hs2 ha; have HB0 := oh (heap_alloc_new w (.cells #[I6 ek, I6 ax, I6 ay, I6 bx, I6 bY, I6 cx, I6 cy] 123))
 have HK0 : Hid (Kp w (w.alloc (.cells #[I6 ek, I6 ax, I6 ay, I6 bx, I6 bY, I6 cx, I6 cy] 123)) none) := oh ((Kp.refl w none).alloc _)
 go_enter Tryz.func223, Tryz.ntmps223
 go_wp2_with fail
 refine (HS.out _).mono ?_
 rintro e w1 ⟨rfl, k1⟩; have HB1 : Hid (w1.heap[w.heap.size]? = some (.cells #[I6 ek, I6 ax, I6 ay, I6 bx, I6 bY, I6 cx, I6 cy] 123)) := oh ((k1.block _ (by simp) (by simp)).trans HB0.out)
 have HK1 := oh (HK0.out.trans k1)
 have HLT : Hid (w.heap.size < w1.heap.size) := oh (lt_of_block HB1.out)
 clear k1; have HD := oh (heap_alloc_new w1 (.cells #[I6 dx, I6 dy] 42))
 have CC : Hid (∀ V, Kp (w1.alloc (.cells #[I6 dx, I6 dy] 42)) V none → (V.cell? ⟨w.heap.size, 3, none⟩ = some (I6 bx) ∧ V.cell? ⟨w.heap.size, 4, none⟩ = some (I6 bY) ∧ V.cell? ⟨w.heap.size, 5, none⟩ = some (I6 cx) ∧ V.cell? ⟨w.heap.size, 6, none⟩ = some (I6 cy) ∧ V.cell? ⟨w1.heap.size, 0, none⟩ = some (I6 dx) ∧ V.cell? ⟨w1.heap.size, 1, none⟩ = some (I6 dy)) ∧ Hid (Kp w V none)) := oh fun V kV => by
  have k2 := ((Kp.refl w1 none).alloc (.cells #[I6 dx, I6 dy] 42)).trans kV
  exact ⟨⟨ck HB1.out k2 3 rfl, ck HB1.out k2 4 rfl, ck HB1.out k2 5 rfl, ck HB1.out k2 6 rfl, ck HD.out kV 0 rfl, ck HD.out kV 1 rfl⟩, oh (HK1.out.trans k2)⟩
 go_wp2_with fail
 refine wp_region_held_drew (S := fun V => (V.cell? ⟨w.heap.size, 3, none⟩ = some (I6 bx) ∧ V.cell? ⟨w.heap.size, 4, none⟩ = some (I6 bY) ∧ V.cell? ⟨w.heap.size, 5, none⟩ = some (I6 cx) ∧ V.cell? ⟨w.heap.size, 6, none⟩ = some (I6 cy) ∧ V.cell? ⟨w1.heap.size, 0, none⟩ = some (I6 dx) ∧ V.cell? ⟨w1.heap.size, 1, none⟩ = some (I6 dy)) ∧ Hid (Kp (w1.alloc (.cells #[I6 dx, I6 dy] 42)) V none)) (by kernel_rfl) ?_ (fun eh => ?_)
 ·exact ⟨(CC.out _ (Kp.refl _ none).drew).1, oh (Kp.refl _ none).drew⟩
 refine tjH 0 rfl ?_ (by intro w hSw; obtain ⟨⟨g1, g2, g3, g4, g5, g6⟩, g7⟩ := hSw; go_simp <;> with_reducible rfl)
 refine tjH 1 rfl ?_ (by intro w hSw; obtain ⟨⟨g1, g2, g3, g4, g5, g6⟩, g7⟩ := hSw; go_simp <;> with_reducible rfl)
 refine tjH 2 rfl ?_ (by intro w hSw; obtain ⟨⟨g1, g2, g3, g4, g5, g6⟩, g7⟩ := hSw; go_simp <;> with_reducible rfl)
 refine tjH 3 rfl ?_ (by intro w hSw; obtain ⟨⟨g1, g2, g3, g4, g5, g6⟩, g7⟩ := hSw; go_simp <;> with_reducible rfl)
 refine tjH 4 rfl ?_ (by intro w hSw; obtain ⟨⟨g1, g2, g3, g4, g5, g6⟩, g7⟩ := hSw; go_simp <;> with_reducible rfl)
 refine tjH 5 rfl ?_ (by intro w hSw; obtain ⟨⟨g1, g2, g3, g4, g5, g6⟩, g7⟩ := hSw; go_simp <;> with_reducible rfl)
 refine tjH 6 rfl ?_ (by intro w hSw; obtain ⟨⟨g1, g2, g3, g4, g5, g6⟩, g7⟩ := hSw; go_simp <;> with_reducible rfl)
 refine tjH 7 rfl ?_ (by intro w hSw; obtain ⟨⟨g1, g2, g3, g4, g5, g6⟩, g7⟩ := hSw; go_simp <;> with_reducible rfl)
 refine tjH 8 rfl ?_ (by intro w hSw; obtain ⟨⟨g1, g2, g3, g4, g5, g6⟩, g7⟩ := hSw; go_simp <;> with_reducible rfl)
 refine tjH 9 rfl ?_ (by intro w hSw; obtain ⟨⟨g1, g2, g3, g4, g5, g6⟩, g7⟩ := hSw; go_simp <;> with_reducible rfl)
 refine tjH 10 rfl ?_ (by intro w hSw; obtain ⟨⟨g1, g2, g3, g4, g5, g6⟩, g7⟩ := hSw; go_simp <;> with_reducible rfl)
 refine tjH 11 rfl ?_ (by intro w hSw; obtain ⟨⟨g1, g2, g3, g4, g5, g6⟩, g7⟩ := hSw; go_simp <;> with_reducible rfl)
 refine tjH 13 rfl ?_ (by intro w hSw; obtain ⟨⟨g1, g2, g3, g4, g5, g6⟩, g7⟩ := hSw; go_simp <;> with_reducible rfl)
 refine tjH 14 rfl ?_ (by intro w hSw; obtain ⟨⟨g1, g2, g3, g4, g5, g6⟩, g7⟩ := hSw; go_simp <;> with_reducible rfl)
 refine tjH 15 rfl ?_ (by intro w hSw; obtain ⟨⟨g1, g2, g3, g4, g5, g6⟩, g7⟩ := hSw; go_simp <;> with_reducible rfl)
 refine rdH 12 rfl (fun K hK => ?_); have gK := eh.2; clear eh; go_simp
 refine (HS2.out _).mono ?_
 rintro e w3 ⟨rfl, kk⟩; try go_wp2_with fail
 refine hK.out _ _ ⟨(CC.out _ (gK.out.trans kk)).1, oh (gK.out.trans kk)⟩ (fun eh => ?_)
 clear hK K gK kk; try simp only [Act.put, sm]
 refine rdH 16 rfl (fun K hK => ?_); have gK := eh.2; clear eh; go_simp
 refine (HA.out _).mono ?_
 rintro e w4 ⟨rfl, kk⟩; try go_wp2_with fail
 refine hK.out _ _ ⟨(CC.out _ (gK.out.trans kk)).1, oh (gK.out.trans kk)⟩ (fun eh => ?_)
 clear hK K gK kk; try simp only [Act.put, sm]
 refine tjH 17 rfl ?_ (by intro w hSw; obtain ⟨⟨g1, g2, g3, g4, g5, g6⟩, g7⟩ := hSw; go_simp <;> with_reducible rfl)
 refine tjH 18 rfl ?_ (by intro w hSw; obtain ⟨⟨g1, g2, g3, g4, g5, g6⟩, g7⟩ := hSw; go_simp <;> with_reducible rfl)
 refine rdH 19 rfl (fun K hK => ?_); have gK := eh.2; clear eh; go_simp; try go_wp2_with fail
 refine hK.out _ _ ⟨(CC.out _ gK.out).1, gK⟩ (fun eh => ?_)
 have KZ := oh (CC.out _ gK.out).2
 clear hK K eh gK; refine wpAnyH_done (by kernel_rfl) ?_ _
 go_wp2_with fail
 go_ret
 exact ⟨rfl, KZ.out.out⟩
theorem quarter_no2a (ek ax ay bx bY cx cy turn dx dy qx qy rx ry : Int) (w : World) (hs : ∀ V, Calls Tryz.prog 59 #[.agg #[I6 ax, I6 ay], .agg #[I6 cx, I6 cy]] V fun E w' => E = .returned (.agg #[I6 dx, I6 dy]) ∧ Kp V w' none)
  (hs2 : ∀ V, Calls Tryz.prog 59 #[.agg #[I6 bx, I6 bY], .agg #[I6 cx, I6 cy]] V fun E w' => E = .returned (.agg #[I6 qx, I6 qy]) ∧ Kp V w' none)
  (ha : ∀ V, Calls Tryz.prog 60 #[.agg #[I6 0, I6 0, I6 turn, .bool false], .agg #[I6 dx, I6 dy]] V fun E w' => E = .returned (.agg #[I6 rx, I6 ry]) ∧ Kp V w' none)
  (hg1 : (dx == 0) = true) (hg2 : (dy == 0) = false) (hc1 : (qx == rx) = true) (hc2 : (qy == ry) = false) :
  Calls Tryz.prog 223 #[.agg #[I6 ek, I6 ax, I6 ay, I6 bx, I6 bY, I6 cx, I6 cy], I6 turn] w fun E w' => E = .returned (.bool false) ∧ Kp w w' none := by
 have HS := oh hs; have HS2 := oh hs2; have HA := oh ha; clear hs hs2 ha; have HB0 := oh (heap_alloc_new w (.cells #[I6 ek, I6 ax, I6 ay, I6 bx, I6 bY, I6 cx, I6 cy] 123))
 have HK0 : Hid (Kp w (w.alloc (.cells #[I6 ek, I6 ax, I6 ay, I6 bx, I6 bY, I6 cx, I6 cy] 123)) none) := oh ((Kp.refl w none).alloc _)
 go_enter Tryz.func223, Tryz.ntmps223
 go_wp2_with fail
 refine (HS.out _).mono ?_
 rintro e w1 ⟨rfl, k1⟩; have HB1 : Hid (w1.heap[w.heap.size]? = some (.cells #[I6 ek, I6 ax, I6 ay, I6 bx, I6 bY, I6 cx, I6 cy] 123)) := oh ((k1.block _ (by simp) (by simp)).trans HB0.out)
 have HK1 := oh (HK0.out.trans k1)
 have HLT : Hid (w.heap.size < w1.heap.size) := oh (lt_of_block HB1.out)
 clear k1; have HD := oh (heap_alloc_new w1 (.cells #[I6 dx, I6 dy] 42))
 have CC : Hid (∀ V, Kp (w1.alloc (.cells #[I6 dx, I6 dy] 42)) V none → (V.cell? ⟨w.heap.size, 3, none⟩ = some (I6 bx) ∧ V.cell? ⟨w.heap.size, 4, none⟩ = some (I6 bY) ∧ V.cell? ⟨w.heap.size, 5, none⟩ = some (I6 cx) ∧ V.cell? ⟨w.heap.size, 6, none⟩ = some (I6 cy) ∧ V.cell? ⟨w1.heap.size, 0, none⟩ = some (I6 dx) ∧ V.cell? ⟨w1.heap.size, 1, none⟩ = some (I6 dy)) ∧ Hid (Kp w V none)) := oh fun V kV => by
  have k2 := ((Kp.refl w1 none).alloc (.cells #[I6 dx, I6 dy] 42)).trans kV
  exact ⟨⟨ck HB1.out k2 3 rfl, ck HB1.out k2 4 rfl, ck HB1.out k2 5 rfl, ck HB1.out k2 6 rfl, ck HD.out kV 0 rfl, ck HD.out kV 1 rfl⟩, oh (HK1.out.trans k2)⟩
 go_wp2_with fail
 refine wp_region_held_drew (S := fun V => (V.cell? ⟨w.heap.size, 3, none⟩ = some (I6 bx) ∧ V.cell? ⟨w.heap.size, 4, none⟩ = some (I6 bY) ∧ V.cell? ⟨w.heap.size, 5, none⟩ = some (I6 cx) ∧ V.cell? ⟨w.heap.size, 6, none⟩ = some (I6 cy) ∧ V.cell? ⟨w1.heap.size, 0, none⟩ = some (I6 dx) ∧ V.cell? ⟨w1.heap.size, 1, none⟩ = some (I6 dy)) ∧ Hid (Kp (w1.alloc (.cells #[I6 dx, I6 dy] 42)) V none)) (by kernel_rfl) ?_ (fun eh => ?_)
 ·exact ⟨(CC.out _ (Kp.refl _ none).drew).1, oh (Kp.refl _ none).drew⟩
 refine tjH 0 rfl ?_ (by intro w hSw; obtain ⟨⟨g1, g2, g3, g4, g5, g6⟩, g7⟩ := hSw; go_simp <;> with_reducible rfl)
 refine tjH 1 rfl ?_ (by intro w hSw; obtain ⟨⟨g1, g2, g3, g4, g5, g6⟩, g7⟩ := hSw; go_simp <;> with_reducible rfl)
 refine tjH 2 rfl ?_ (by intro w hSw; obtain ⟨⟨g1, g2, g3, g4, g5, g6⟩, g7⟩ := hSw; go_simp <;> with_reducible rfl)
 refine tjH 3 rfl ?_ (by intro w hSw; obtain ⟨⟨g1, g2, g3, g4, g5, g6⟩, g7⟩ := hSw; go_simp <;> with_reducible rfl)
 refine tjH 4 rfl ?_ (by intro w hSw; obtain ⟨⟨g1, g2, g3, g4, g5, g6⟩, g7⟩ := hSw; go_simp <;> with_reducible rfl)
 refine tjH 5 rfl ?_ (by intro w hSw; obtain ⟨⟨g1, g2, g3, g4, g5, g6⟩, g7⟩ := hSw; go_simp <;> with_reducible rfl)
 refine tjH 6 rfl ?_ (by intro w hSw; obtain ⟨⟨g1, g2, g3, g4, g5, g6⟩, g7⟩ := hSw; go_simp <;> with_reducible rfl)
 refine tjH 7 rfl ?_ (by intro w hSw; obtain ⟨⟨g1, g2, g3, g4, g5, g6⟩, g7⟩ := hSw; go_simp <;> with_reducible rfl)
 refine tjH 8 rfl ?_ (by intro w hSw; obtain ⟨⟨g1, g2, g3, g4, g5, g6⟩, g7⟩ := hSw; go_simp <;> with_reducible rfl)
 refine tjH 9 rfl ?_ (by intro w hSw; obtain ⟨⟨g1, g2, g3, g4, g5, g6⟩, g7⟩ := hSw; go_simp <;> with_reducible rfl)
 refine tjH 10 rfl ?_ (by intro w hSw; obtain ⟨⟨g1, g2, g3, g4, g5, g6⟩, g7⟩ := hSw; go_simp <;> with_reducible rfl)
 refine tjH 11 rfl ?_ (by intro w hSw; obtain ⟨⟨g1, g2, g3, g4, g5, g6⟩, g7⟩ := hSw; go_simp <;> with_reducible rfl)
 refine tjH 13 rfl ?_ (by intro w hSw; obtain ⟨⟨g1, g2, g3, g4, g5, g6⟩, g7⟩ := hSw; go_simp <;> with_reducible rfl)
 refine tjH 14 rfl ?_ (by intro w hSw; obtain ⟨⟨g1, g2, g3, g4, g5, g6⟩, g7⟩ := hSw; go_simp <;> with_reducible rfl)
 refine tjH 15 rfl ?_ (by intro w hSw; obtain ⟨⟨g1, g2, g3, g4, g5, g6⟩, g7⟩ := hSw; go_simp <;> with_reducible rfl)
 refine rdH 12 rfl (fun K hK => ?_); have gK := eh.2; clear eh; go_simp
 refine (HS2.out _).mono ?_
 rintro e w3 ⟨rfl, kk⟩; try go_wp2_with fail
 refine hK.out _ _ ⟨(CC.out _ (gK.out.trans kk)).1, oh (gK.out.trans kk)⟩ (fun eh => ?_)
 clear hK K gK kk; try simp only [Act.put, sm]
 refine rdH 16 rfl (fun K hK => ?_); have gK := eh.2; clear eh; go_simp
 refine (HA.out _).mono ?_
 rintro e w4 ⟨rfl, kk⟩; try go_wp2_with fail
 refine hK.out _ _ ⟨(CC.out _ (gK.out.trans kk)).1, oh (gK.out.trans kk)⟩ (fun eh => ?_)
 clear hK K gK kk; try simp only [Act.put, sm]
 refine tjH 17 rfl ?_ (by intro w hSw; obtain ⟨⟨g1, g2, g3, g4, g5, g6⟩, g7⟩ := hSw; go_simp <;> with_reducible rfl)
 refine tjH 18 rfl ?_ (by intro w hSw; obtain ⟨⟨g1, g2, g3, g4, g5, g6⟩, g7⟩ := hSw; go_simp <;> with_reducible rfl)
 refine rdH 19 rfl (fun K hK => ?_); have gK := eh.2; clear eh; go_simp; try go_wp2_with fail
 refine hK.out _ _ ⟨(CC.out _ gK.out).1, gK⟩ (fun eh => ?_)
 have KZ := oh (CC.out _ gK.out).2
 clear hK K eh gK; refine wpAnyH_done (by kernel_rfl) ?_ _
 go_wp2_with fail
 go_ret
 exact ⟨rfl, KZ.out.out⟩
theorem quarter_okb (ek ax ay bx bY cx cy turn dx dy qx qy rx ry : Int) (w : World) (hs : ∀ V, Calls Tryz.prog 59 #[.agg #[I6 ax, I6 ay], .agg #[I6 cx, I6 cy]] V fun E w' => E = .returned (.agg #[I6 dx, I6 dy]) ∧ Kp V w' none)
  (hs2 : ∀ V, Calls Tryz.prog 59 #[.agg #[I6 bx, I6 bY], .agg #[I6 cx, I6 cy]] V fun E w' => E = .returned (.agg #[I6 qx, I6 qy]) ∧ Kp V w' none)
  (ha : ∀ V, Calls Tryz.prog 60 #[.agg #[I6 0, I6 0, I6 turn, .bool false], .agg #[I6 dx, I6 dy]] V fun E w' => E = .returned (.agg #[I6 rx, I6 ry]) ∧ Kp V w' none)
  (hg1 : (dx == 0) = false) (hg2 : (dy == 0) = true) (hc1 : (qx == rx) = true) (hc2 : (qy == ry) = true) :
  Calls Tryz.prog 223 #[.agg #[I6 ek, I6 ax, I6 ay, I6 bx, I6 bY, I6 cx, I6 cy], I6 turn] w fun E w' => E = .returned (.bool true) ∧ Kp w w' none := by
 have HS := oh hs; have HS2 := oh hs2; have HA := oh ha; clear hs hs2 ha; have HB0 := oh (heap_alloc_new w (.cells #[I6 ek, I6 ax, I6 ay, I6 bx, I6 bY, I6 cx, I6 cy] 123))
 have HK0 : Hid (Kp w (w.alloc (.cells #[I6 ek, I6 ax, I6 ay, I6 bx, I6 bY, I6 cx, I6 cy] 123)) none) := oh ((Kp.refl w none).alloc _)
 go_enter Tryz.func223, Tryz.ntmps223
 go_wp2_with fail
 refine (HS.out _).mono ?_
 rintro e w1 ⟨rfl, k1⟩; have HB1 : Hid (w1.heap[w.heap.size]? = some (.cells #[I6 ek, I6 ax, I6 ay, I6 bx, I6 bY, I6 cx, I6 cy] 123)) := oh ((k1.block _ (by simp) (by simp)).trans HB0.out)
 have HK1 := oh (HK0.out.trans k1)
 have HLT : Hid (w.heap.size < w1.heap.size) := oh (lt_of_block HB1.out)
 clear k1; have HD := oh (heap_alloc_new w1 (.cells #[I6 dx, I6 dy] 42))
 have CC : Hid (∀ V, Kp (w1.alloc (.cells #[I6 dx, I6 dy] 42)) V none → (V.cell? ⟨w.heap.size, 3, none⟩ = some (I6 bx) ∧ V.cell? ⟨w.heap.size, 4, none⟩ = some (I6 bY) ∧ V.cell? ⟨w.heap.size, 5, none⟩ = some (I6 cx) ∧ V.cell? ⟨w.heap.size, 6, none⟩ = some (I6 cy) ∧ V.cell? ⟨w1.heap.size, 0, none⟩ = some (I6 dx) ∧ V.cell? ⟨w1.heap.size, 1, none⟩ = some (I6 dy)) ∧ Hid (Kp w V none)) := oh fun V kV => by
  have k2 := ((Kp.refl w1 none).alloc (.cells #[I6 dx, I6 dy] 42)).trans kV
  exact ⟨⟨ck HB1.out k2 3 rfl, ck HB1.out k2 4 rfl, ck HB1.out k2 5 rfl, ck HB1.out k2 6 rfl, ck HD.out kV 0 rfl, ck HD.out kV 1 rfl⟩, oh (HK1.out.trans k2)⟩
 go_wp2_with fail
 refine wp_region_held_drew (S := fun V => (V.cell? ⟨w.heap.size, 3, none⟩ = some (I6 bx) ∧ V.cell? ⟨w.heap.size, 4, none⟩ = some (I6 bY) ∧ V.cell? ⟨w.heap.size, 5, none⟩ = some (I6 cx) ∧ V.cell? ⟨w.heap.size, 6, none⟩ = some (I6 cy) ∧ V.cell? ⟨w1.heap.size, 0, none⟩ = some (I6 dx) ∧ V.cell? ⟨w1.heap.size, 1, none⟩ = some (I6 dy)) ∧ Hid (Kp (w1.alloc (.cells #[I6 dx, I6 dy] 42)) V none)) (by kernel_rfl) ?_ (fun eh => ?_)
 ·exact ⟨(CC.out _ (Kp.refl _ none).drew).1, oh (Kp.refl _ none).drew⟩
 refine tjH 0 rfl ?_ (by intro w hSw; obtain ⟨⟨g1, g2, g3, g4, g5, g6⟩, g7⟩ := hSw; go_simp <;> with_reducible rfl)
 refine tjH 1 rfl ?_ (by intro w hSw; obtain ⟨⟨g1, g2, g3, g4, g5, g6⟩, g7⟩ := hSw; go_simp <;> with_reducible rfl)
 refine tjH 2 rfl ?_ (by intro w hSw; obtain ⟨⟨g1, g2, g3, g4, g5, g6⟩, g7⟩ := hSw; go_simp <;> with_reducible rfl)
 refine tjH 3 rfl ?_ (by intro w hSw; obtain ⟨⟨g1, g2, g3, g4, g5, g6⟩, g7⟩ := hSw; go_simp <;> with_reducible rfl)
 refine tjH 4 rfl ?_ (by intro w hSw; obtain ⟨⟨g1, g2, g3, g4, g5, g6⟩, g7⟩ := hSw; go_simp <;> with_reducible rfl)
 refine tjH 5 rfl ?_ (by intro w hSw; obtain ⟨⟨g1, g2, g3, g4, g5, g6⟩, g7⟩ := hSw; go_simp <;> with_reducible rfl)
 refine tjH 6 rfl ?_ (by intro w hSw; obtain ⟨⟨g1, g2, g3, g4, g5, g6⟩, g7⟩ := hSw; go_simp <;> with_reducible rfl)
 refine tjH 7 rfl ?_ (by intro w hSw; obtain ⟨⟨g1, g2, g3, g4, g5, g6⟩, g7⟩ := hSw; go_simp <;> with_reducible rfl)
 refine tjH 8 rfl ?_ (by intro w hSw; obtain ⟨⟨g1, g2, g3, g4, g5, g6⟩, g7⟩ := hSw; go_simp <;> with_reducible rfl)
 refine tjH 9 rfl ?_ (by intro w hSw; obtain ⟨⟨g1, g2, g3, g4, g5, g6⟩, g7⟩ := hSw; go_simp <;> with_reducible rfl)
 refine tjH 10 rfl ?_ (by intro w hSw; obtain ⟨⟨g1, g2, g3, g4, g5, g6⟩, g7⟩ := hSw; go_simp <;> with_reducible rfl)
 refine tjH 11 rfl ?_ (by intro w hSw; obtain ⟨⟨g1, g2, g3, g4, g5, g6⟩, g7⟩ := hSw; go_simp <;> with_reducible rfl)
 refine tjH 13 rfl ?_ (by intro w hSw; obtain ⟨⟨g1, g2, g3, g4, g5, g6⟩, g7⟩ := hSw; go_simp <;> with_reducible rfl)
 refine tjH 14 rfl ?_ (by intro w hSw; obtain ⟨⟨g1, g2, g3, g4, g5, g6⟩, g7⟩ := hSw; go_simp <;> with_reducible rfl)
 refine tjH 15 rfl ?_ (by intro w hSw; obtain ⟨⟨g1, g2, g3, g4, g5, g6⟩, g7⟩ := hSw; go_simp <;> with_reducible rfl)
 refine rdH 12 rfl (fun K hK => ?_); have gK := eh.2; clear eh; go_simp
 refine (HS2.out _).mono ?_
 rintro e w3 ⟨rfl, kk⟩; try go_wp2_with fail
 refine hK.out _ _ ⟨(CC.out _ (gK.out.trans kk)).1, oh (gK.out.trans kk)⟩ (fun eh => ?_)
 clear hK K gK kk; try simp only [Act.put, sm]
 refine rdH 16 rfl (fun K hK => ?_); have gK := eh.2; clear eh; go_simp
 refine (HA.out _).mono ?_
 rintro e w4 ⟨rfl, kk⟩; try go_wp2_with fail
 refine hK.out _ _ ⟨(CC.out _ (gK.out.trans kk)).1, oh (gK.out.trans kk)⟩ (fun eh => ?_)
 clear hK K gK kk; try simp only [Act.put, sm]
 refine tjH 17 rfl ?_ (by intro w hSw; obtain ⟨⟨g1, g2, g3, g4, g5, g6⟩, g7⟩ := hSw; go_simp <;> with_reducible rfl)
 refine tjH 18 rfl ?_ (by intro w hSw; obtain ⟨⟨g1, g2, g3, g4, g5, g6⟩, g7⟩ := hSw; go_simp <;> with_reducible rfl)
 refine rdH 19 rfl (fun K hK => ?_); have gK := eh.2; clear eh; go_simp; try go_wp2_with fail
 refine hK.out _ _ ⟨(CC.out _ gK.out).1, gK⟩ (fun eh => ?_)
 have KZ := oh (CC.out _ gK.out).2
 clear hK K eh gK; refine wpAnyH_done (by kernel_rfl) ?_ _
 go_wp2_with fail
 go_ret
 exact ⟨rfl, KZ.out.out⟩
theorem quarter_no1b (ek ax ay bx bY cx cy turn dx dy qx qy rx ry : Int) (w : World) (hs : ∀ V, Calls Tryz.prog 59 #[.agg #[I6 ax, I6 ay], .agg #[I6 cx, I6 cy]] V fun E w' => E = .returned (.agg #[I6 dx, I6 dy]) ∧ Kp V w' none)
  (hs2 : ∀ V, Calls Tryz.prog 59 #[.agg #[I6 bx, I6 bY], .agg #[I6 cx, I6 cy]] V fun E w' => E = .returned (.agg #[I6 qx, I6 qy]) ∧ Kp V w' none)
  (ha : ∀ V, Calls Tryz.prog 60 #[.agg #[I6 0, I6 0, I6 turn, .bool false], .agg #[I6 dx, I6 dy]] V fun E w' => E = .returned (.agg #[I6 rx, I6 ry]) ∧ Kp V w' none)
  (hg1 : (dx == 0) = false) (hg2 : (dy == 0) = true) (hc1 : (qx == rx) = false)  :
  Calls Tryz.prog 223 #[.agg #[I6 ek, I6 ax, I6 ay, I6 bx, I6 bY, I6 cx, I6 cy], I6 turn] w fun E w' => E = .returned (.bool false) ∧ Kp w w' none := by
 have HS := oh hs; have HS2 := oh hs2; have HA := oh ha; clear hs hs2 ha; have HB0 := oh (heap_alloc_new w (.cells #[I6 ek, I6 ax, I6 ay, I6 bx, I6 bY, I6 cx, I6 cy] 123))
 have HK0 : Hid (Kp w (w.alloc (.cells #[I6 ek, I6 ax, I6 ay, I6 bx, I6 bY, I6 cx, I6 cy] 123)) none) := oh ((Kp.refl w none).alloc _)
 go_enter Tryz.func223, Tryz.ntmps223
 go_wp2_with fail
 refine (HS.out _).mono ?_
 rintro e w1 ⟨rfl, k1⟩; have HB1 : Hid (w1.heap[w.heap.size]? = some (.cells #[I6 ek, I6 ax, I6 ay, I6 bx, I6 bY, I6 cx, I6 cy] 123)) := oh ((k1.block _ (by simp) (by simp)).trans HB0.out)
 have HK1 := oh (HK0.out.trans k1)
 have HLT : Hid (w.heap.size < w1.heap.size) := oh (lt_of_block HB1.out)
 clear k1; have HD := oh (heap_alloc_new w1 (.cells #[I6 dx, I6 dy] 42))
 have CC : Hid (∀ V, Kp (w1.alloc (.cells #[I6 dx, I6 dy] 42)) V none → (V.cell? ⟨w.heap.size, 3, none⟩ = some (I6 bx) ∧ V.cell? ⟨w.heap.size, 4, none⟩ = some (I6 bY) ∧ V.cell? ⟨w.heap.size, 5, none⟩ = some (I6 cx) ∧ V.cell? ⟨w.heap.size, 6, none⟩ = some (I6 cy) ∧ V.cell? ⟨w1.heap.size, 0, none⟩ = some (I6 dx) ∧ V.cell? ⟨w1.heap.size, 1, none⟩ = some (I6 dy)) ∧ Hid (Kp w V none)) := oh fun V kV => by
  have k2 := ((Kp.refl w1 none).alloc (.cells #[I6 dx, I6 dy] 42)).trans kV
  exact ⟨⟨ck HB1.out k2 3 rfl, ck HB1.out k2 4 rfl, ck HB1.out k2 5 rfl, ck HB1.out k2 6 rfl, ck HD.out kV 0 rfl, ck HD.out kV 1 rfl⟩, oh (HK1.out.trans k2)⟩
 go_wp2_with fail
 refine wp_region_held_drew (S := fun V => (V.cell? ⟨w.heap.size, 3, none⟩ = some (I6 bx) ∧ V.cell? ⟨w.heap.size, 4, none⟩ = some (I6 bY) ∧ V.cell? ⟨w.heap.size, 5, none⟩ = some (I6 cx) ∧ V.cell? ⟨w.heap.size, 6, none⟩ = some (I6 cy) ∧ V.cell? ⟨w1.heap.size, 0, none⟩ = some (I6 dx) ∧ V.cell? ⟨w1.heap.size, 1, none⟩ = some (I6 dy)) ∧ Hid (Kp (w1.alloc (.cells #[I6 dx, I6 dy] 42)) V none)) (by kernel_rfl) ?_ (fun eh => ?_)
 ·exact ⟨(CC.out _ (Kp.refl _ none).drew).1, oh (Kp.refl _ none).drew⟩
 refine tjH 0 rfl ?_ (by intro w hSw; obtain ⟨⟨g1, g2, g3, g4, g5, g6⟩, g7⟩ := hSw; go_simp <;> with_reducible rfl)
 refine tjH 1 rfl ?_ (by intro w hSw; obtain ⟨⟨g1, g2, g3, g4, g5, g6⟩, g7⟩ := hSw; go_simp <;> with_reducible rfl)
 refine tjH 2 rfl ?_ (by intro w hSw; obtain ⟨⟨g1, g2, g3, g4, g5, g6⟩, g7⟩ := hSw; go_simp <;> with_reducible rfl)
 refine tjH 3 rfl ?_ (by intro w hSw; obtain ⟨⟨g1, g2, g3, g4, g5, g6⟩, g7⟩ := hSw; go_simp <;> with_reducible rfl)
 refine tjH 4 rfl ?_ (by intro w hSw; obtain ⟨⟨g1, g2, g3, g4, g5, g6⟩, g7⟩ := hSw; go_simp <;> with_reducible rfl)
 refine tjH 5 rfl ?_ (by intro w hSw; obtain ⟨⟨g1, g2, g3, g4, g5, g6⟩, g7⟩ := hSw; go_simp <;> with_reducible rfl)
 refine tjH 6 rfl ?_ (by intro w hSw; obtain ⟨⟨g1, g2, g3, g4, g5, g6⟩, g7⟩ := hSw; go_simp <;> with_reducible rfl)
 refine tjH 7 rfl ?_ (by intro w hSw; obtain ⟨⟨g1, g2, g3, g4, g5, g6⟩, g7⟩ := hSw; go_simp <;> with_reducible rfl)
 refine tjH 8 rfl ?_ (by intro w hSw; obtain ⟨⟨g1, g2, g3, g4, g5, g6⟩, g7⟩ := hSw; go_simp <;> with_reducible rfl)
 refine tjH 9 rfl ?_ (by intro w hSw; obtain ⟨⟨g1, g2, g3, g4, g5, g6⟩, g7⟩ := hSw; go_simp <;> with_reducible rfl)
 refine tjH 10 rfl ?_ (by intro w hSw; obtain ⟨⟨g1, g2, g3, g4, g5, g6⟩, g7⟩ := hSw; go_simp <;> with_reducible rfl)
 refine tjH 11 rfl ?_ (by intro w hSw; obtain ⟨⟨g1, g2, g3, g4, g5, g6⟩, g7⟩ := hSw; go_simp <;> with_reducible rfl)
 refine tjH 13 rfl ?_ (by intro w hSw; obtain ⟨⟨g1, g2, g3, g4, g5, g6⟩, g7⟩ := hSw; go_simp <;> with_reducible rfl)
 refine tjH 14 rfl ?_ (by intro w hSw; obtain ⟨⟨g1, g2, g3, g4, g5, g6⟩, g7⟩ := hSw; go_simp <;> with_reducible rfl)
 refine tjH 15 rfl ?_ (by intro w hSw; obtain ⟨⟨g1, g2, g3, g4, g5, g6⟩, g7⟩ := hSw; go_simp <;> with_reducible rfl)
 refine rdH 12 rfl (fun K hK => ?_); have gK := eh.2; clear eh; go_simp
 refine (HS2.out _).mono ?_
 rintro e w3 ⟨rfl, kk⟩; try go_wp2_with fail
 refine hK.out _ _ ⟨(CC.out _ (gK.out.trans kk)).1, oh (gK.out.trans kk)⟩ (fun eh => ?_)
 clear hK K gK kk; try simp only [Act.put, sm]
 refine rdH 16 rfl (fun K hK => ?_); have gK := eh.2; clear eh; go_simp
 refine (HA.out _).mono ?_
 rintro e w4 ⟨rfl, kk⟩; try go_wp2_with fail
 refine hK.out _ _ ⟨(CC.out _ (gK.out.trans kk)).1, oh (gK.out.trans kk)⟩ (fun eh => ?_)
 clear hK K gK kk; try simp only [Act.put, sm]
 refine tjH 17 rfl ?_ (by intro w hSw; obtain ⟨⟨g1, g2, g3, g4, g5, g6⟩, g7⟩ := hSw; go_simp <;> with_reducible rfl)
 refine tjH 18 rfl ?_ (by intro w hSw; obtain ⟨⟨g1, g2, g3, g4, g5, g6⟩, g7⟩ := hSw; go_simp <;> with_reducible rfl)
 refine rdH 19 rfl (fun K hK => ?_); have gK := eh.2; clear eh; go_simp; try go_wp2_with fail
 refine hK.out _ _ ⟨(CC.out _ gK.out).1, gK⟩ (fun eh => ?_)
 have KZ := oh (CC.out _ gK.out).2
 clear hK K eh gK; refine wpAnyH_done (by kernel_rfl) ?_ _
 go_wp2_with fail
 go_ret
 exact ⟨rfl, KZ.out.out⟩
theorem quarter_no2b (ek ax ay bx bY cx cy turn dx dy qx qy rx ry : Int) (w : World) (hs : ∀ V, Calls Tryz.prog 59 #[.agg #[I6 ax, I6 ay], .agg #[I6 cx, I6 cy]] V fun E w' => E = .returned (.agg #[I6 dx, I6 dy]) ∧ Kp V w' none)
  (hs2 : ∀ V, Calls Tryz.prog 59 #[.agg #[I6 bx, I6 bY], .agg #[I6 cx, I6 cy]] V fun E w' => E = .returned (.agg #[I6 qx, I6 qy]) ∧ Kp V w' none)
  (ha : ∀ V, Calls Tryz.prog 60 #[.agg #[I6 0, I6 0, I6 turn, .bool false], .agg #[I6 dx, I6 dy]] V fun E w' => E = .returned (.agg #[I6 rx, I6 ry]) ∧ Kp V w' none)
  (hg1 : (dx == 0) = false) (hg2 : (dy == 0) = true) (hc1 : (qx == rx) = true) (hc2 : (qy == ry) = false) :
  Calls Tryz.prog 223 #[.agg #[I6 ek, I6 ax, I6 ay, I6 bx, I6 bY, I6 cx, I6 cy], I6 turn] w fun E w' => E = .returned (.bool false) ∧ Kp w w' none := by
 have HS := oh hs; have HS2 := oh hs2; have HA := oh ha; clear hs hs2 ha; have HB0 := oh (heap_alloc_new w (.cells #[I6 ek, I6 ax, I6 ay, I6 bx, I6 bY, I6 cx, I6 cy] 123))
 have HK0 : Hid (Kp w (w.alloc (.cells #[I6 ek, I6 ax, I6 ay, I6 bx, I6 bY, I6 cx, I6 cy] 123)) none) := oh ((Kp.refl w none).alloc _)
 go_enter Tryz.func223, Tryz.ntmps223
 go_wp2_with fail
 refine (HS.out _).mono ?_
 rintro e w1 ⟨rfl, k1⟩; have HB1 : Hid (w1.heap[w.heap.size]? = some (.cells #[I6 ek, I6 ax, I6 ay, I6 bx, I6 bY, I6 cx, I6 cy] 123)) := oh ((k1.block _ (by simp) (by simp)).trans HB0.out)
 have HK1 := oh (HK0.out.trans k1)
 have HLT : Hid (w.heap.size < w1.heap.size) := oh (lt_of_block HB1.out)
 clear k1; have HD := oh (heap_alloc_new w1 (.cells #[I6 dx, I6 dy] 42))
 have CC : Hid (∀ V, Kp (w1.alloc (.cells #[I6 dx, I6 dy] 42)) V none → (V.cell? ⟨w.heap.size, 3, none⟩ = some (I6 bx) ∧ V.cell? ⟨w.heap.size, 4, none⟩ = some (I6 bY) ∧ V.cell? ⟨w.heap.size, 5, none⟩ = some (I6 cx) ∧ V.cell? ⟨w.heap.size, 6, none⟩ = some (I6 cy) ∧ V.cell? ⟨w1.heap.size, 0, none⟩ = some (I6 dx) ∧ V.cell? ⟨w1.heap.size, 1, none⟩ = some (I6 dy)) ∧ Hid (Kp w V none)) := oh fun V kV => by
  have k2 := ((Kp.refl w1 none).alloc (.cells #[I6 dx, I6 dy] 42)).trans kV
  exact ⟨⟨ck HB1.out k2 3 rfl, ck HB1.out k2 4 rfl, ck HB1.out k2 5 rfl, ck HB1.out k2 6 rfl, ck HD.out kV 0 rfl, ck HD.out kV 1 rfl⟩, oh (HK1.out.trans k2)⟩
 go_wp2_with fail
 refine wp_region_held_drew (S := fun V => (V.cell? ⟨w.heap.size, 3, none⟩ = some (I6 bx) ∧ V.cell? ⟨w.heap.size, 4, none⟩ = some (I6 bY) ∧ V.cell? ⟨w.heap.size, 5, none⟩ = some (I6 cx) ∧ V.cell? ⟨w.heap.size, 6, none⟩ = some (I6 cy) ∧ V.cell? ⟨w1.heap.size, 0, none⟩ = some (I6 dx) ∧ V.cell? ⟨w1.heap.size, 1, none⟩ = some (I6 dy)) ∧ Hid (Kp (w1.alloc (.cells #[I6 dx, I6 dy] 42)) V none)) (by kernel_rfl) ?_ (fun eh => ?_)
 ·exact ⟨(CC.out _ (Kp.refl _ none).drew).1, oh (Kp.refl _ none).drew⟩
 refine tjH 0 rfl ?_ (by intro w hSw; obtain ⟨⟨g1, g2, g3, g4, g5, g6⟩, g7⟩ := hSw; go_simp <;> with_reducible rfl)
 refine tjH 1 rfl ?_ (by intro w hSw; obtain ⟨⟨g1, g2, g3, g4, g5, g6⟩, g7⟩ := hSw; go_simp <;> with_reducible rfl)
 refine tjH 2 rfl ?_ (by intro w hSw; obtain ⟨⟨g1, g2, g3, g4, g5, g6⟩, g7⟩ := hSw; go_simp <;> with_reducible rfl)
 refine tjH 3 rfl ?_ (by intro w hSw; obtain ⟨⟨g1, g2, g3, g4, g5, g6⟩, g7⟩ := hSw; go_simp <;> with_reducible rfl)
 refine tjH 4 rfl ?_ (by intro w hSw; obtain ⟨⟨g1, g2, g3, g4, g5, g6⟩, g7⟩ := hSw; go_simp <;> with_reducible rfl)
 refine tjH 5 rfl ?_ (by intro w hSw; obtain ⟨⟨g1, g2, g3, g4, g5, g6⟩, g7⟩ := hSw; go_simp <;> with_reducible rfl)
 refine tjH 6 rfl ?_ (by intro w hSw; obtain ⟨⟨g1, g2, g3, g4, g5, g6⟩, g7⟩ := hSw; go_simp <;> with_reducible rfl)
 refine tjH 7 rfl ?_ (by intro w hSw; obtain ⟨⟨g1, g2, g3, g4, g5, g6⟩, g7⟩ := hSw; go_simp <;> with_reducible rfl)
 refine tjH 8 rfl ?_ (by intro w hSw; obtain ⟨⟨g1, g2, g3, g4, g5, g6⟩, g7⟩ := hSw; go_simp <;> with_reducible rfl)
 refine tjH 9 rfl ?_ (by intro w hSw; obtain ⟨⟨g1, g2, g3, g4, g5, g6⟩, g7⟩ := hSw; go_simp <;> with_reducible rfl)
 refine tjH 10 rfl ?_ (by intro w hSw; obtain ⟨⟨g1, g2, g3, g4, g5, g6⟩, g7⟩ := hSw; go_simp <;> with_reducible rfl)
 refine tjH 11 rfl ?_ (by intro w hSw; obtain ⟨⟨g1, g2, g3, g4, g5, g6⟩, g7⟩ := hSw; go_simp <;> with_reducible rfl)
 refine tjH 13 rfl ?_ (by intro w hSw; obtain ⟨⟨g1, g2, g3, g4, g5, g6⟩, g7⟩ := hSw; go_simp <;> with_reducible rfl)
 refine tjH 14 rfl ?_ (by intro w hSw; obtain ⟨⟨g1, g2, g3, g4, g5, g6⟩, g7⟩ := hSw; go_simp <;> with_reducible rfl)
 refine tjH 15 rfl ?_ (by intro w hSw; obtain ⟨⟨g1, g2, g3, g4, g5, g6⟩, g7⟩ := hSw; go_simp <;> with_reducible rfl)
 refine rdH 12 rfl (fun K hK => ?_); have gK := eh.2; clear eh; go_simp
 refine (HS2.out _).mono ?_
 rintro e w3 ⟨rfl, kk⟩; try go_wp2_with fail
 refine hK.out _ _ ⟨(CC.out _ (gK.out.trans kk)).1, oh (gK.out.trans kk)⟩ (fun eh => ?_)
 clear hK K gK kk; try simp only [Act.put, sm]
 refine rdH 16 rfl (fun K hK => ?_); have gK := eh.2; clear eh; go_simp
 refine (HA.out _).mono ?_
 rintro e w4 ⟨rfl, kk⟩; try go_wp2_with fail
 refine hK.out _ _ ⟨(CC.out _ (gK.out.trans kk)).1, oh (gK.out.trans kk)⟩ (fun eh => ?_)
 clear hK K gK kk; try simp only [Act.put, sm]
 refine tjH 17 rfl ?_ (by intro w hSw; obtain ⟨⟨g1, g2, g3, g4, g5, g6⟩, g7⟩ := hSw; go_simp <;> with_reducible rfl)
 refine tjH 18 rfl ?_ (by intro w hSw; obtain ⟨⟨g1, g2, g3, g4, g5, g6⟩, g7⟩ := hSw; go_simp <;> with_reducible rfl)
 refine rdH 19 rfl (fun K hK => ?_); have gK := eh.2; clear eh; go_simp; try go_wp2_with fail
 refine hK.out _ _ ⟨(CC.out _ gK.out).1, gK⟩ (fun eh => ?_)
 have KZ := oh (CC.out _ gK.out).2
 clear hK K eh gK; refine wpAnyH_done (by kernel_rfl) ?_ _
 go_wp2_with fail
 go_ret
 exact ⟨rfl, KZ.out.out⟩
theorem quarter_noa (ek ax ay bx bY cx cy turn dx dy qx qy rx ry : Int) (w : World) (hs : ∀ V, Calls Tryz.prog 59 #[.agg #[I6 ax, I6 ay], .agg #[I6 cx, I6 cy]] V fun E w' => E = .returned (.agg #[I6 dx, I6 dy]) ∧ Kp V w' none)
  (hs2 : ∀ V, Calls Tryz.prog 59 #[.agg #[I6 bx, I6 bY], .agg #[I6 cx, I6 cy]] V fun E w' => E = .returned (.agg #[I6 qx, I6 qy]) ∧ Kp V w' none)
  (ha : ∀ V, Calls Tryz.prog 60 #[.agg #[I6 0, I6 0, I6 turn, .bool false], .agg #[I6 dx, I6 dy]] V fun E w' => E = .returned (.agg #[I6 rx, I6 ry]) ∧ Kp V w' none)
  (hg1 : (dx == 0) = true) (hg2 : (dy == 0) = true)   :
  Calls Tryz.prog 223 #[.agg #[I6 ek, I6 ax, I6 ay, I6 bx, I6 bY, I6 cx, I6 cy], I6 turn] w fun E w' => E = .returned (.bool false) ∧ Kp w w' none := by
 have HS := oh hs; have HS2 := oh hs2; have HA := oh ha; clear hs hs2 ha; have HB0 := oh (heap_alloc_new w (.cells #[I6 ek, I6 ax, I6 ay, I6 bx, I6 bY, I6 cx, I6 cy] 123))
 have HK0 : Hid (Kp w (w.alloc (.cells #[I6 ek, I6 ax, I6 ay, I6 bx, I6 bY, I6 cx, I6 cy] 123)) none) := oh ((Kp.refl w none).alloc _)
 go_enter Tryz.func223, Tryz.ntmps223
 go_wp2_with fail
 refine (HS.out _).mono ?_
 rintro e w1 ⟨rfl, k1⟩; have HB1 : Hid (w1.heap[w.heap.size]? = some (.cells #[I6 ek, I6 ax, I6 ay, I6 bx, I6 bY, I6 cx, I6 cy] 123)) := oh ((k1.block _ (by simp) (by simp)).trans HB0.out)
 have HK1 := oh (HK0.out.trans k1)
 have HLT : Hid (w.heap.size < w1.heap.size) := oh (lt_of_block HB1.out)
 clear k1; have HD := oh (heap_alloc_new w1 (.cells #[I6 dx, I6 dy] 42))
 have CC : Hid (∀ V, Kp (w1.alloc (.cells #[I6 dx, I6 dy] 42)) V none → (V.cell? ⟨w.heap.size, 3, none⟩ = some (I6 bx) ∧ V.cell? ⟨w.heap.size, 4, none⟩ = some (I6 bY) ∧ V.cell? ⟨w.heap.size, 5, none⟩ = some (I6 cx) ∧ V.cell? ⟨w.heap.size, 6, none⟩ = some (I6 cy) ∧ V.cell? ⟨w1.heap.size, 0, none⟩ = some (I6 dx) ∧ V.cell? ⟨w1.heap.size, 1, none⟩ = some (I6 dy)) ∧ Hid (Kp w V none)) := oh fun V kV => by
  have k2 := ((Kp.refl w1 none).alloc (.cells #[I6 dx, I6 dy] 42)).trans kV
  exact ⟨⟨ck HB1.out k2 3 rfl, ck HB1.out k2 4 rfl, ck HB1.out k2 5 rfl, ck HB1.out k2 6 rfl, ck HD.out kV 0 rfl, ck HD.out kV 1 rfl⟩, oh (HK1.out.trans k2)⟩
 go_wp2_with fail
 refine wp_region_held_drew (S := fun V => (V.cell? ⟨w.heap.size, 3, none⟩ = some (I6 bx) ∧ V.cell? ⟨w.heap.size, 4, none⟩ = some (I6 bY) ∧ V.cell? ⟨w.heap.size, 5, none⟩ = some (I6 cx) ∧ V.cell? ⟨w.heap.size, 6, none⟩ = some (I6 cy) ∧ V.cell? ⟨w1.heap.size, 0, none⟩ = some (I6 dx) ∧ V.cell? ⟨w1.heap.size, 1, none⟩ = some (I6 dy)) ∧ Hid (Kp (w1.alloc (.cells #[I6 dx, I6 dy] 42)) V none)) (by kernel_rfl) ?_ (fun eh => ?_)
 ·exact ⟨(CC.out _ (Kp.refl _ none).drew).1, oh (Kp.refl _ none).drew⟩
 refine tjH 0 rfl ?_ (by intro w hSw; obtain ⟨⟨g1, g2, g3, g4, g5, g6⟩, g7⟩ := hSw; go_simp <;> with_reducible rfl)
 refine tjH 1 rfl ?_ (by intro w hSw; obtain ⟨⟨g1, g2, g3, g4, g5, g6⟩, g7⟩ := hSw; go_simp <;> with_reducible rfl)
 refine tjH 2 rfl ?_ (by intro w hSw; obtain ⟨⟨g1, g2, g3, g4, g5, g6⟩, g7⟩ := hSw; go_simp <;> with_reducible rfl)
 refine tjH 3 rfl ?_ (by intro w hSw; obtain ⟨⟨g1, g2, g3, g4, g5, g6⟩, g7⟩ := hSw; go_simp <;> with_reducible rfl)
 refine tjH 4 rfl ?_ (by intro w hSw; obtain ⟨⟨g1, g2, g3, g4, g5, g6⟩, g7⟩ := hSw; go_simp <;> with_reducible rfl)
 refine tjH 5 rfl ?_ (by intro w hSw; obtain ⟨⟨g1, g2, g3, g4, g5, g6⟩, g7⟩ := hSw; go_simp <;> with_reducible rfl)
 refine tjH 6 rfl ?_ (by intro w hSw; obtain ⟨⟨g1, g2, g3, g4, g5, g6⟩, g7⟩ := hSw; go_simp <;> with_reducible rfl)
 refine tjH 7 rfl ?_ (by intro w hSw; obtain ⟨⟨g1, g2, g3, g4, g5, g6⟩, g7⟩ := hSw; go_simp <;> with_reducible rfl)
 refine tjU 8 rfl ?_; refine tjU 9 rfl ?_; refine tjU 10 rfl ?_; refine tjU 11 rfl ?_; refine tjU 12 rfl ?_; refine tjU 13 rfl ?_; refine tjU 14 rfl ?_; refine tjU 15 rfl ?_; refine tjU 16 rfl ?_; refine tjU 17 rfl ?_
 refine tjH 18 rfl ?_ (by intro w hSw; obtain ⟨⟨g1, g2, g3, g4, g5, g6⟩, g7⟩ := hSw; go_simp <;> with_reducible rfl)
 refine rdH 19 rfl (fun K hK => ?_); have gK := eh.2; clear eh; go_simp; try go_wp2_with fail
 refine hK.out _ _ ⟨(CC.out _ gK.out).1, gK⟩ (fun eh => ?_)
 have KZ := oh (CC.out _ gK.out).2
 clear hK K eh gK; refine wpAnyH_done (by kernel_rfl) ?_ _
 go_wp2_with fail
 go_ret
 exact ⟨rfl, KZ.out.out⟩
theorem quarter_nob (ek ax ay bx bY cx cy turn dx dy qx qy rx ry : Int) (w : World) (hs : ∀ V, Calls Tryz.prog 59 #[.agg #[I6 ax, I6 ay], .agg #[I6 cx, I6 cy]] V fun E w' => E = .returned (.agg #[I6 dx, I6 dy]) ∧ Kp V w' none)
  (hs2 : ∀ V, Calls Tryz.prog 59 #[.agg #[I6 bx, I6 bY], .agg #[I6 cx, I6 cy]] V fun E w' => E = .returned (.agg #[I6 qx, I6 qy]) ∧ Kp V w' none)
  (ha : ∀ V, Calls Tryz.prog 60 #[.agg #[I6 0, I6 0, I6 turn, .bool false], .agg #[I6 dx, I6 dy]] V fun E w' => E = .returned (.agg #[I6 rx, I6 ry]) ∧ Kp V w' none)
  (hg1 : (dx == 0) = false) (hg2 : (dy == 0) = false)   :
  Calls Tryz.prog 223 #[.agg #[I6 ek, I6 ax, I6 ay, I6 bx, I6 bY, I6 cx, I6 cy], I6 turn] w fun E w' => E = .returned (.bool false) ∧ Kp w w' none := by
 have HS := oh hs; have HS2 := oh hs2; have HA := oh ha; clear hs hs2 ha; have HB0 := oh (heap_alloc_new w (.cells #[I6 ek, I6 ax, I6 ay, I6 bx, I6 bY, I6 cx, I6 cy] 123))
 have HK0 : Hid (Kp w (w.alloc (.cells #[I6 ek, I6 ax, I6 ay, I6 bx, I6 bY, I6 cx, I6 cy] 123)) none) := oh ((Kp.refl w none).alloc _)
 go_enter Tryz.func223, Tryz.ntmps223
 go_wp2_with fail
 refine (HS.out _).mono ?_
 rintro e w1 ⟨rfl, k1⟩; have HB1 : Hid (w1.heap[w.heap.size]? = some (.cells #[I6 ek, I6 ax, I6 ay, I6 bx, I6 bY, I6 cx, I6 cy] 123)) := oh ((k1.block _ (by simp) (by simp)).trans HB0.out)
 have HK1 := oh (HK0.out.trans k1)
 have HLT : Hid (w.heap.size < w1.heap.size) := oh (lt_of_block HB1.out)
 clear k1; have HD := oh (heap_alloc_new w1 (.cells #[I6 dx, I6 dy] 42))
 have CC : Hid (∀ V, Kp (w1.alloc (.cells #[I6 dx, I6 dy] 42)) V none → (V.cell? ⟨w.heap.size, 3, none⟩ = some (I6 bx) ∧ V.cell? ⟨w.heap.size, 4, none⟩ = some (I6 bY) ∧ V.cell? ⟨w.heap.size, 5, none⟩ = some (I6 cx) ∧ V.cell? ⟨w.heap.size, 6, none⟩ = some (I6 cy) ∧ V.cell? ⟨w1.heap.size, 0, none⟩ = some (I6 dx) ∧ V.cell? ⟨w1.heap.size, 1, none⟩ = some (I6 dy)) ∧ Hid (Kp w V none)) := oh fun V kV => by
  have k2 := ((Kp.refl w1 none).alloc (.cells #[I6 dx, I6 dy] 42)).trans kV
  exact ⟨⟨ck HB1.out k2 3 rfl, ck HB1.out k2 4 rfl, ck HB1.out k2 5 rfl, ck HB1.out k2 6 rfl, ck HD.out kV 0 rfl, ck HD.out kV 1 rfl⟩, oh (HK1.out.trans k2)⟩
 go_wp2_with fail
 refine wp_region_held_drew (S := fun V => (V.cell? ⟨w.heap.size, 3, none⟩ = some (I6 bx) ∧ V.cell? ⟨w.heap.size, 4, none⟩ = some (I6 bY) ∧ V.cell? ⟨w.heap.size, 5, none⟩ = some (I6 cx) ∧ V.cell? ⟨w.heap.size, 6, none⟩ = some (I6 cy) ∧ V.cell? ⟨w1.heap.size, 0, none⟩ = some (I6 dx) ∧ V.cell? ⟨w1.heap.size, 1, none⟩ = some (I6 dy)) ∧ Hid (Kp (w1.alloc (.cells #[I6 dx, I6 dy] 42)) V none)) (by kernel_rfl) ?_ (fun eh => ?_)
 ·exact ⟨(CC.out _ (Kp.refl _ none).drew).1, oh (Kp.refl _ none).drew⟩
 refine tjH 0 rfl ?_ (by intro w hSw; obtain ⟨⟨g1, g2, g3, g4, g5, g6⟩, g7⟩ := hSw; go_simp <;> with_reducible rfl)
 refine tjH 1 rfl ?_ (by intro w hSw; obtain ⟨⟨g1, g2, g3, g4, g5, g6⟩, g7⟩ := hSw; go_simp <;> with_reducible rfl)
 refine tjH 2 rfl ?_ (by intro w hSw; obtain ⟨⟨g1, g2, g3, g4, g5, g6⟩, g7⟩ := hSw; go_simp <;> with_reducible rfl)
 refine tjH 3 rfl ?_ (by intro w hSw; obtain ⟨⟨g1, g2, g3, g4, g5, g6⟩, g7⟩ := hSw; go_simp <;> with_reducible rfl)
 refine tjH 4 rfl ?_ (by intro w hSw; obtain ⟨⟨g1, g2, g3, g4, g5, g6⟩, g7⟩ := hSw; go_simp <;> with_reducible rfl)
 refine tjH 5 rfl ?_ (by intro w hSw; obtain ⟨⟨g1, g2, g3, g4, g5, g6⟩, g7⟩ := hSw; go_simp <;> with_reducible rfl)
 refine tjH 6 rfl ?_ (by intro w hSw; obtain ⟨⟨g1, g2, g3, g4, g5, g6⟩, g7⟩ := hSw; go_simp <;> with_reducible rfl)
 refine tjH 7 rfl ?_ (by intro w hSw; obtain ⟨⟨g1, g2, g3, g4, g5, g6⟩, g7⟩ := hSw; go_simp <;> with_reducible rfl)
 refine tjU 8 rfl ?_; refine tjU 9 rfl ?_; refine tjU 10 rfl ?_; refine tjU 11 rfl ?_; refine tjU 12 rfl ?_; refine tjU 13 rfl ?_; refine tjU 14 rfl ?_; refine tjU 15 rfl ?_; refine tjU 16 rfl ?_; refine tjU 17 rfl ?_
 refine tjH 18 rfl ?_ (by intro w hSw; obtain ⟨⟨g1, g2, g3, g4, g5, g6⟩, g7⟩ := hSw; go_simp <;> with_reducible rfl)
 refine rdH 19 rfl (fun K hK => ?_); have gK := eh.2; clear eh; go_simp; try go_wp2_with fail
 refine hK.out _ _ ⟨(CC.out _ gK.out).1, gK⟩ (fun eh => ?_)
 have KZ := oh (CC.out _ gK.out).2
 clear hK K eh gK; refine wpAnyH_done (by kernel_rfl) ?_ _
 go_wp2_with fail
 go_ret
 exact ⟨rfl, KZ.out.out⟩
end Go.Proofs.YtljjbdbgedmadaaGreatDoor
