/- The program's test of an edge. Condition: points within the bounds for the test of an arc. -/
import Derived.Test.YtljjbdbgedmadaaGreatDoorAy
import Derived.Test.YtljjbdbgedmadaaGreatDoorPt
namespace Go.Proofs.YtljjbdbgedmadaaGreatDoor
open Go.RowKit


set_option maxHeartbeats 8000000 in
set_option maxRecDepth 100000 in
theorem quarter_oka (ek ax ay bx bY cx cy turn dx dy qx qy rx ry : Int) (w : World) (hs : ∀ V, Calls Tryz.prog 59 #[.agg #[.int .i64 ax, .int .i64 ay], .agg #[.int .i64 cx, .int .i64 cy]] V fun E w' => E = .returned (.agg #[.int .i64 dx, .int .i64 dy]) ∧ Kp V w' none)
    (hs2 : ∀ V, Calls Tryz.prog 59 #[.agg #[.int .i64 bx, .int .i64 bY], .agg #[.int .i64 cx, .int .i64 cy]] V fun E w' => E = .returned (.agg #[.int .i64 qx, .int .i64 qy]) ∧ Kp V w' none)
    (ha : ∀ V, Calls Tryz.prog 60 #[.agg #[.int .i64 0, .int .i64 0, .int .i64 turn, .bool false], .agg #[.int .i64 dx, .int .i64 dy]] V fun E w' => E = .returned (.agg #[.int .i64 rx, .int .i64 ry]) ∧ Kp V w' none)
    (hg1 : (dx == 0) = true) (hg2 : (dy == 0) = false) (hc1 : (qx == rx) = true) (hc2 : (qy == ry) = true) :
    Calls Tryz.prog 223 #[.agg #[.int .i64 ek, .int .i64 ax, .int .i64 ay, .int .i64 bx, .int .i64 bY, .int .i64 cx, .int .i64 cy], .int .i64 turn] w fun E w' => E = .returned (.bool true) ∧ Kp w w' none := by
  have HS := Lib.hid hs
  have HS2 := Lib.hid hs2
  have HA := Lib.hid ha
  clear hs hs2 ha
  have HB0 := Lib.hid (heap_alloc_new w (Obj.cells #[.int .i64 ek, .int .i64 ax, .int .i64 ay, .int .i64 bx, .int .i64 bY, .int .i64 cx, .int .i64 cy] 123))
  have HK0 : Hid (Kp w (w.alloc (Obj.cells #[.int .i64 ek, .int .i64 ax, .int .i64 ay, .int .i64 bx, .int .i64 bY, .int .i64 cx, .int .i64 cy] 123)) none) := Lib.hid ((Kp.refl w none).alloc _)
  go_enter Tryz.func223, Tryz.ntmps223
  go_wp2_with fail
  refine (HS.out _).mono ?_
  rintro e w1 ⟨rfl, k1⟩
  have HB1 : Hid (w1.heap[w.heap.size]? = some (Obj.cells #[.int .i64 ek, .int .i64 ax, .int .i64 ay, .int .i64 bx, .int .i64 bY, .int .i64 cx, .int .i64 cy] 123)) := Lib.hid ((k1.block _ (by simp) (by simp)).trans HB0.out)
  have HK1 := Lib.hid (HK0.out.trans k1)
  have HLT : Hid (w.heap.size < w1.heap.size) := Lib.hid (lt_of_block HB1.out)
  clear k1
  have HD := Lib.hid (heap_alloc_new w1 (Obj.cells #[.int .i64 dx, .int .i64 dy] 42))
  have CC : Hid (∀ V, Kp (w1.alloc (Obj.cells #[.int .i64 dx, .int .i64 dy] 42)) V none → (V.cell? ⟨w.heap.size, 3, none⟩ = some (.int .i64 bx) ∧ V.cell? ⟨w.heap.size, 4, none⟩ = some (.int .i64 bY) ∧ V.cell? ⟨w.heap.size, 5, none⟩ = some (.int .i64 cx) ∧ V.cell? ⟨w.heap.size, 6, none⟩ = some (.int .i64 cy) ∧ V.cell? ⟨w1.heap.size, 0, none⟩ = some (.int .i64 dx) ∧ V.cell? ⟨w1.heap.size, 1, none⟩ = some (.int .i64 dy)) ∧ Hid (Kp w V none)) := Lib.hid fun V kV => by
    have k2 := ((Kp.refl w1 none).alloc (Obj.cells #[.int .i64 dx, .int .i64 dy] 42)).trans kV
    exact ⟨⟨ckr HB1.out k2 (by simp) 3 rfl, ckr HB1.out k2 (by simp) 4 rfl, ckr HB1.out k2 (by simp) 5 rfl, ckr HB1.out k2 (by simp) 6 rfl, ckr HD.out kV (by simp) 0 rfl, ckr HD.out kV (by simp) 1 rfl⟩, Lib.hid (HK1.out.trans k2)⟩
  go_wp2_with fail
  refine wp_region_held_drew (S := fun V => (V.cell? ⟨w.heap.size, 3, none⟩ = some (.int .i64 bx) ∧ V.cell? ⟨w.heap.size, 4, none⟩ = some (.int .i64 bY) ∧ V.cell? ⟨w.heap.size, 5, none⟩ = some (.int .i64 cx) ∧ V.cell? ⟨w.heap.size, 6, none⟩ = some (.int .i64 cy) ∧ V.cell? ⟨w1.heap.size, 0, none⟩ = some (.int .i64 dx) ∧ V.cell? ⟨w1.heap.size, 1, none⟩ = some (.int .i64 dy)) ∧ Hid (Kp (w1.alloc (Obj.cells #[.int .i64 dx, .int .i64 dy] 42)) V none)) (by kernel_rfl) ?_ (fun hHeld => ?_)
  · exact ⟨(CC.out _ (Kp.refl _ none).drew).1, Lib.hid (Kp.refl _ none).drew⟩
  refine tkH 0 rfl ?_ (by intro w hSw; obtain ⟨⟨g1, g2, g3, g4, g5, g6⟩, g7⟩ := hSw; go_simp <;> with_reducible rfl)
  try simp only [Act.put, sm]
  refine tkH 1 rfl ?_ (by intro w hSw; obtain ⟨⟨g1, g2, g3, g4, g5, g6⟩, g7⟩ := hSw; go_simp <;> with_reducible rfl)
  try simp only [Act.put, sm]
  refine tkH 2 rfl ?_ (by intro w hSw; obtain ⟨⟨g1, g2, g3, g4, g5, g6⟩, g7⟩ := hSw; go_simp <;> with_reducible rfl)
  try simp only [Act.put, sm]
  refine tkH 3 rfl ?_ (by intro w hSw; obtain ⟨⟨g1, g2, g3, g4, g5, g6⟩, g7⟩ := hSw; go_simp <;> with_reducible rfl)
  try simp only [Act.put, sm]
  refine tkH 4 rfl ?_ (by intro w hSw; obtain ⟨⟨g1, g2, g3, g4, g5, g6⟩, g7⟩ := hSw; go_simp <;> with_reducible rfl)
  try simp only [Act.put, sm]
  refine tkH 5 rfl ?_ (by intro w hSw; obtain ⟨⟨g1, g2, g3, g4, g5, g6⟩, g7⟩ := hSw; go_simp <;> with_reducible rfl)
  try simp only [Act.put, sm]
  refine tkH 6 rfl ?_ (by intro w hSw; obtain ⟨⟨g1, g2, g3, g4, g5, g6⟩, g7⟩ := hSw; go_simp <;> with_reducible rfl)
  try simp only [Act.put, sm]
  refine tkH 7 rfl ?_ (by intro w hSw; obtain ⟨⟨g1, g2, g3, g4, g5, g6⟩, g7⟩ := hSw; go_simp <;> with_reducible rfl)
  try simp only [Act.put, sm]
  refine tkH 8 rfl ?_ (by intro w hSw; obtain ⟨⟨g1, g2, g3, g4, g5, g6⟩, g7⟩ := hSw; go_simp <;> with_reducible rfl)
  try simp only [Act.put, sm]
  refine tkH 9 rfl ?_ (by intro w hSw; obtain ⟨⟨g1, g2, g3, g4, g5, g6⟩, g7⟩ := hSw; go_simp <;> with_reducible rfl)
  try simp only [Act.put, sm]
  refine tkH 10 rfl ?_ (by intro w hSw; obtain ⟨⟨g1, g2, g3, g4, g5, g6⟩, g7⟩ := hSw; go_simp <;> with_reducible rfl)
  try simp only [Act.put, sm]
  refine tkH 11 rfl ?_ (by intro w hSw; obtain ⟨⟨g1, g2, g3, g4, g5, g6⟩, g7⟩ := hSw; go_simp <;> with_reducible rfl)
  try simp only [Act.put, sm]
  refine tkH 13 rfl ?_ (by intro w hSw; obtain ⟨⟨g1, g2, g3, g4, g5, g6⟩, g7⟩ := hSw; go_simp <;> with_reducible rfl)
  try simp only [Act.put, sm]
  refine tkH 14 rfl ?_ (by intro w hSw; obtain ⟨⟨g1, g2, g3, g4, g5, g6⟩, g7⟩ := hSw; go_simp <;> with_reducible rfl)
  try simp only [Act.put, sm]
  refine tkH 15 rfl ?_ (by intro w hSw; obtain ⟨⟨g1, g2, g3, g4, g5, g6⟩, g7⟩ := hSw; go_simp <;> with_reducible rfl)
  try simp only [Act.put, sm]
  refine wpAnyH_ready (rs := [12]) (by kernel_rfl) (by simp) ?_
  refine AllReadyH.cons (o := _) rfl (fun K hK => ?_) AllReadyH.nil
  have gK := hHeld.2
  clear hHeld
  go_simp
  refine (HS2.out _).mono ?_
  rintro e w3 ⟨rfl, kk⟩
  try go_wp2_with fail
  refine hK.out _ _ ⟨(CC.out _ (gK.out.trans kk)).1, Lib.hid (gK.out.trans kk)⟩ (fun hHeld => ?_)
  clear hK K gK kk
  try simp only [Act.put, sm]
  refine wpAnyH_ready (rs := [16]) (by kernel_rfl) (by simp) ?_
  refine AllReadyH.cons (o := _) rfl (fun K hK => ?_) AllReadyH.nil
  have gK := hHeld.2
  clear hHeld
  go_simp
  refine (HA.out _).mono ?_
  rintro e w4 ⟨rfl, kk⟩
  try go_wp2_with fail
  refine hK.out _ _ ⟨(CC.out _ (gK.out.trans kk)).1, Lib.hid (gK.out.trans kk)⟩ (fun hHeld => ?_)
  clear hK K gK kk
  try simp only [Act.put, sm]
  refine tkH 17 rfl ?_ (by intro w hSw; obtain ⟨⟨g1, g2, g3, g4, g5, g6⟩, g7⟩ := hSw; go_simp <;> with_reducible rfl)
  try simp only [Act.put, sm]
  refine tkH 18 rfl ?_ (by intro w hSw; obtain ⟨⟨g1, g2, g3, g4, g5, g6⟩, g7⟩ := hSw; go_simp <;> with_reducible rfl)
  try simp only [Act.put, sm]
  refine wpAnyH_ready (rs := [19]) (by kernel_rfl) (by simp) ?_
  refine AllReadyH.cons (o := _) rfl (fun K hK => ?_) AllReadyH.nil
  have gK := hHeld.2
  clear hHeld
  go_simp
  try go_wp2_with fail
  refine hK.out _ _ ⟨(CC.out _ gK.out).1, gK⟩ (fun hHeld => ?_)
  have KZ := Lib.hid (CC.out _ gK.out).2
  clear hK K hHeld gK
  refine wpAnyH_done (by kernel_rfl) ?_ _
  go_wp2_with fail
  go_ret
  exact ⟨rfl, KZ.out.out⟩

set_option maxHeartbeats 8000000 in
set_option maxRecDepth 100000 in
theorem quarter_no1a (ek ax ay bx bY cx cy turn dx dy qx qy rx ry : Int) (w : World) (hs : ∀ V, Calls Tryz.prog 59 #[.agg #[.int .i64 ax, .int .i64 ay], .agg #[.int .i64 cx, .int .i64 cy]] V fun E w' => E = .returned (.agg #[.int .i64 dx, .int .i64 dy]) ∧ Kp V w' none)
    (hs2 : ∀ V, Calls Tryz.prog 59 #[.agg #[.int .i64 bx, .int .i64 bY], .agg #[.int .i64 cx, .int .i64 cy]] V fun E w' => E = .returned (.agg #[.int .i64 qx, .int .i64 qy]) ∧ Kp V w' none)
    (ha : ∀ V, Calls Tryz.prog 60 #[.agg #[.int .i64 0, .int .i64 0, .int .i64 turn, .bool false], .agg #[.int .i64 dx, .int .i64 dy]] V fun E w' => E = .returned (.agg #[.int .i64 rx, .int .i64 ry]) ∧ Kp V w' none)
    (hg1 : (dx == 0) = true) (hg2 : (dy == 0) = false) (hc1 : (qx == rx) = false)  :
    Calls Tryz.prog 223 #[.agg #[.int .i64 ek, .int .i64 ax, .int .i64 ay, .int .i64 bx, .int .i64 bY, .int .i64 cx, .int .i64 cy], .int .i64 turn] w fun E w' => E = .returned (.bool false) ∧ Kp w w' none := by
  have HS := Lib.hid hs
  have HS2 := Lib.hid hs2
  have HA := Lib.hid ha
  clear hs hs2 ha
  have HB0 := Lib.hid (heap_alloc_new w (Obj.cells #[.int .i64 ek, .int .i64 ax, .int .i64 ay, .int .i64 bx, .int .i64 bY, .int .i64 cx, .int .i64 cy] 123))
  have HK0 : Hid (Kp w (w.alloc (Obj.cells #[.int .i64 ek, .int .i64 ax, .int .i64 ay, .int .i64 bx, .int .i64 bY, .int .i64 cx, .int .i64 cy] 123)) none) := Lib.hid ((Kp.refl w none).alloc _)
  go_enter Tryz.func223, Tryz.ntmps223
  go_wp2_with fail
  refine (HS.out _).mono ?_
  rintro e w1 ⟨rfl, k1⟩
  have HB1 : Hid (w1.heap[w.heap.size]? = some (Obj.cells #[.int .i64 ek, .int .i64 ax, .int .i64 ay, .int .i64 bx, .int .i64 bY, .int .i64 cx, .int .i64 cy] 123)) := Lib.hid ((k1.block _ (by simp) (by simp)).trans HB0.out)
  have HK1 := Lib.hid (HK0.out.trans k1)
  have HLT : Hid (w.heap.size < w1.heap.size) := Lib.hid (lt_of_block HB1.out)
  clear k1
  have HD := Lib.hid (heap_alloc_new w1 (Obj.cells #[.int .i64 dx, .int .i64 dy] 42))
  have CC : Hid (∀ V, Kp (w1.alloc (Obj.cells #[.int .i64 dx, .int .i64 dy] 42)) V none → (V.cell? ⟨w.heap.size, 3, none⟩ = some (.int .i64 bx) ∧ V.cell? ⟨w.heap.size, 4, none⟩ = some (.int .i64 bY) ∧ V.cell? ⟨w.heap.size, 5, none⟩ = some (.int .i64 cx) ∧ V.cell? ⟨w.heap.size, 6, none⟩ = some (.int .i64 cy) ∧ V.cell? ⟨w1.heap.size, 0, none⟩ = some (.int .i64 dx) ∧ V.cell? ⟨w1.heap.size, 1, none⟩ = some (.int .i64 dy)) ∧ Hid (Kp w V none)) := Lib.hid fun V kV => by
    have k2 := ((Kp.refl w1 none).alloc (Obj.cells #[.int .i64 dx, .int .i64 dy] 42)).trans kV
    exact ⟨⟨ckr HB1.out k2 (by simp) 3 rfl, ckr HB1.out k2 (by simp) 4 rfl, ckr HB1.out k2 (by simp) 5 rfl, ckr HB1.out k2 (by simp) 6 rfl, ckr HD.out kV (by simp) 0 rfl, ckr HD.out kV (by simp) 1 rfl⟩, Lib.hid (HK1.out.trans k2)⟩
  go_wp2_with fail
  refine wp_region_held_drew (S := fun V => (V.cell? ⟨w.heap.size, 3, none⟩ = some (.int .i64 bx) ∧ V.cell? ⟨w.heap.size, 4, none⟩ = some (.int .i64 bY) ∧ V.cell? ⟨w.heap.size, 5, none⟩ = some (.int .i64 cx) ∧ V.cell? ⟨w.heap.size, 6, none⟩ = some (.int .i64 cy) ∧ V.cell? ⟨w1.heap.size, 0, none⟩ = some (.int .i64 dx) ∧ V.cell? ⟨w1.heap.size, 1, none⟩ = some (.int .i64 dy)) ∧ Hid (Kp (w1.alloc (Obj.cells #[.int .i64 dx, .int .i64 dy] 42)) V none)) (by kernel_rfl) ?_ (fun hHeld => ?_)
  · exact ⟨(CC.out _ (Kp.refl _ none).drew).1, Lib.hid (Kp.refl _ none).drew⟩
  refine tkH 0 rfl ?_ (by intro w hSw; obtain ⟨⟨g1, g2, g3, g4, g5, g6⟩, g7⟩ := hSw; go_simp <;> with_reducible rfl)
  try simp only [Act.put, sm]
  refine tkH 1 rfl ?_ (by intro w hSw; obtain ⟨⟨g1, g2, g3, g4, g5, g6⟩, g7⟩ := hSw; go_simp <;> with_reducible rfl)
  try simp only [Act.put, sm]
  refine tkH 2 rfl ?_ (by intro w hSw; obtain ⟨⟨g1, g2, g3, g4, g5, g6⟩, g7⟩ := hSw; go_simp <;> with_reducible rfl)
  try simp only [Act.put, sm]
  refine tkH 3 rfl ?_ (by intro w hSw; obtain ⟨⟨g1, g2, g3, g4, g5, g6⟩, g7⟩ := hSw; go_simp <;> with_reducible rfl)
  try simp only [Act.put, sm]
  refine tkH 4 rfl ?_ (by intro w hSw; obtain ⟨⟨g1, g2, g3, g4, g5, g6⟩, g7⟩ := hSw; go_simp <;> with_reducible rfl)
  try simp only [Act.put, sm]
  refine tkH 5 rfl ?_ (by intro w hSw; obtain ⟨⟨g1, g2, g3, g4, g5, g6⟩, g7⟩ := hSw; go_simp <;> with_reducible rfl)
  try simp only [Act.put, sm]
  refine tkH 6 rfl ?_ (by intro w hSw; obtain ⟨⟨g1, g2, g3, g4, g5, g6⟩, g7⟩ := hSw; go_simp <;> with_reducible rfl)
  try simp only [Act.put, sm]
  refine tkH 7 rfl ?_ (by intro w hSw; obtain ⟨⟨g1, g2, g3, g4, g5, g6⟩, g7⟩ := hSw; go_simp <;> with_reducible rfl)
  try simp only [Act.put, sm]
  refine tkH 8 rfl ?_ (by intro w hSw; obtain ⟨⟨g1, g2, g3, g4, g5, g6⟩, g7⟩ := hSw; go_simp <;> with_reducible rfl)
  try simp only [Act.put, sm]
  refine tkH 9 rfl ?_ (by intro w hSw; obtain ⟨⟨g1, g2, g3, g4, g5, g6⟩, g7⟩ := hSw; go_simp <;> with_reducible rfl)
  try simp only [Act.put, sm]
  refine tkH 10 rfl ?_ (by intro w hSw; obtain ⟨⟨g1, g2, g3, g4, g5, g6⟩, g7⟩ := hSw; go_simp <;> with_reducible rfl)
  try simp only [Act.put, sm]
  refine tkH 11 rfl ?_ (by intro w hSw; obtain ⟨⟨g1, g2, g3, g4, g5, g6⟩, g7⟩ := hSw; go_simp <;> with_reducible rfl)
  try simp only [Act.put, sm]
  refine tkH 13 rfl ?_ (by intro w hSw; obtain ⟨⟨g1, g2, g3, g4, g5, g6⟩, g7⟩ := hSw; go_simp <;> with_reducible rfl)
  try simp only [Act.put, sm]
  refine tkH 14 rfl ?_ (by intro w hSw; obtain ⟨⟨g1, g2, g3, g4, g5, g6⟩, g7⟩ := hSw; go_simp <;> with_reducible rfl)
  try simp only [Act.put, sm]
  refine tkH 15 rfl ?_ (by intro w hSw; obtain ⟨⟨g1, g2, g3, g4, g5, g6⟩, g7⟩ := hSw; go_simp <;> with_reducible rfl)
  try simp only [Act.put, sm]
  refine wpAnyH_ready (rs := [12]) (by kernel_rfl) (by simp) ?_
  refine AllReadyH.cons (o := _) rfl (fun K hK => ?_) AllReadyH.nil
  have gK := hHeld.2
  clear hHeld
  go_simp
  refine (HS2.out _).mono ?_
  rintro e w3 ⟨rfl, kk⟩
  try go_wp2_with fail
  refine hK.out _ _ ⟨(CC.out _ (gK.out.trans kk)).1, Lib.hid (gK.out.trans kk)⟩ (fun hHeld => ?_)
  clear hK K gK kk
  try simp only [Act.put, sm]
  refine wpAnyH_ready (rs := [16]) (by kernel_rfl) (by simp) ?_
  refine AllReadyH.cons (o := _) rfl (fun K hK => ?_) AllReadyH.nil
  have gK := hHeld.2
  clear hHeld
  go_simp
  refine (HA.out _).mono ?_
  rintro e w4 ⟨rfl, kk⟩
  try go_wp2_with fail
  refine hK.out _ _ ⟨(CC.out _ (gK.out.trans kk)).1, Lib.hid (gK.out.trans kk)⟩ (fun hHeld => ?_)
  clear hK K gK kk
  try simp only [Act.put, sm]
  refine tkH 17 rfl ?_ (by intro w hSw; obtain ⟨⟨g1, g2, g3, g4, g5, g6⟩, g7⟩ := hSw; go_simp <;> with_reducible rfl)
  try simp only [Act.put, sm]
  refine tkH 18 rfl ?_ (by intro w hSw; obtain ⟨⟨g1, g2, g3, g4, g5, g6⟩, g7⟩ := hSw; go_simp <;> with_reducible rfl)
  try simp only [Act.put, sm]
  refine wpAnyH_ready (rs := [19]) (by kernel_rfl) (by simp) ?_
  refine AllReadyH.cons (o := _) rfl (fun K hK => ?_) AllReadyH.nil
  have gK := hHeld.2
  clear hHeld
  go_simp
  try go_wp2_with fail
  refine hK.out _ _ ⟨(CC.out _ gK.out).1, gK⟩ (fun hHeld => ?_)
  have KZ := Lib.hid (CC.out _ gK.out).2
  clear hK K hHeld gK
  refine wpAnyH_done (by kernel_rfl) ?_ _
  go_wp2_with fail
  go_ret
  exact ⟨rfl, KZ.out.out⟩

set_option maxHeartbeats 8000000 in
set_option maxRecDepth 100000 in
theorem quarter_no2a (ek ax ay bx bY cx cy turn dx dy qx qy rx ry : Int) (w : World) (hs : ∀ V, Calls Tryz.prog 59 #[.agg #[.int .i64 ax, .int .i64 ay], .agg #[.int .i64 cx, .int .i64 cy]] V fun E w' => E = .returned (.agg #[.int .i64 dx, .int .i64 dy]) ∧ Kp V w' none)
    (hs2 : ∀ V, Calls Tryz.prog 59 #[.agg #[.int .i64 bx, .int .i64 bY], .agg #[.int .i64 cx, .int .i64 cy]] V fun E w' => E = .returned (.agg #[.int .i64 qx, .int .i64 qy]) ∧ Kp V w' none)
    (ha : ∀ V, Calls Tryz.prog 60 #[.agg #[.int .i64 0, .int .i64 0, .int .i64 turn, .bool false], .agg #[.int .i64 dx, .int .i64 dy]] V fun E w' => E = .returned (.agg #[.int .i64 rx, .int .i64 ry]) ∧ Kp V w' none)
    (hg1 : (dx == 0) = true) (hg2 : (dy == 0) = false) (hc1 : (qx == rx) = true) (hc2 : (qy == ry) = false) :
    Calls Tryz.prog 223 #[.agg #[.int .i64 ek, .int .i64 ax, .int .i64 ay, .int .i64 bx, .int .i64 bY, .int .i64 cx, .int .i64 cy], .int .i64 turn] w fun E w' => E = .returned (.bool false) ∧ Kp w w' none := by
  have HS := Lib.hid hs
  have HS2 := Lib.hid hs2
  have HA := Lib.hid ha
  clear hs hs2 ha
  have HB0 := Lib.hid (heap_alloc_new w (Obj.cells #[.int .i64 ek, .int .i64 ax, .int .i64 ay, .int .i64 bx, .int .i64 bY, .int .i64 cx, .int .i64 cy] 123))
  have HK0 : Hid (Kp w (w.alloc (Obj.cells #[.int .i64 ek, .int .i64 ax, .int .i64 ay, .int .i64 bx, .int .i64 bY, .int .i64 cx, .int .i64 cy] 123)) none) := Lib.hid ((Kp.refl w none).alloc _)
  go_enter Tryz.func223, Tryz.ntmps223
  go_wp2_with fail
  refine (HS.out _).mono ?_
  rintro e w1 ⟨rfl, k1⟩
  have HB1 : Hid (w1.heap[w.heap.size]? = some (Obj.cells #[.int .i64 ek, .int .i64 ax, .int .i64 ay, .int .i64 bx, .int .i64 bY, .int .i64 cx, .int .i64 cy] 123)) := Lib.hid ((k1.block _ (by simp) (by simp)).trans HB0.out)
  have HK1 := Lib.hid (HK0.out.trans k1)
  have HLT : Hid (w.heap.size < w1.heap.size) := Lib.hid (lt_of_block HB1.out)
  clear k1
  have HD := Lib.hid (heap_alloc_new w1 (Obj.cells #[.int .i64 dx, .int .i64 dy] 42))
  have CC : Hid (∀ V, Kp (w1.alloc (Obj.cells #[.int .i64 dx, .int .i64 dy] 42)) V none → (V.cell? ⟨w.heap.size, 3, none⟩ = some (.int .i64 bx) ∧ V.cell? ⟨w.heap.size, 4, none⟩ = some (.int .i64 bY) ∧ V.cell? ⟨w.heap.size, 5, none⟩ = some (.int .i64 cx) ∧ V.cell? ⟨w.heap.size, 6, none⟩ = some (.int .i64 cy) ∧ V.cell? ⟨w1.heap.size, 0, none⟩ = some (.int .i64 dx) ∧ V.cell? ⟨w1.heap.size, 1, none⟩ = some (.int .i64 dy)) ∧ Hid (Kp w V none)) := Lib.hid fun V kV => by
    have k2 := ((Kp.refl w1 none).alloc (Obj.cells #[.int .i64 dx, .int .i64 dy] 42)).trans kV
    exact ⟨⟨ckr HB1.out k2 (by simp) 3 rfl, ckr HB1.out k2 (by simp) 4 rfl, ckr HB1.out k2 (by simp) 5 rfl, ckr HB1.out k2 (by simp) 6 rfl, ckr HD.out kV (by simp) 0 rfl, ckr HD.out kV (by simp) 1 rfl⟩, Lib.hid (HK1.out.trans k2)⟩
  go_wp2_with fail
  refine wp_region_held_drew (S := fun V => (V.cell? ⟨w.heap.size, 3, none⟩ = some (.int .i64 bx) ∧ V.cell? ⟨w.heap.size, 4, none⟩ = some (.int .i64 bY) ∧ V.cell? ⟨w.heap.size, 5, none⟩ = some (.int .i64 cx) ∧ V.cell? ⟨w.heap.size, 6, none⟩ = some (.int .i64 cy) ∧ V.cell? ⟨w1.heap.size, 0, none⟩ = some (.int .i64 dx) ∧ V.cell? ⟨w1.heap.size, 1, none⟩ = some (.int .i64 dy)) ∧ Hid (Kp (w1.alloc (Obj.cells #[.int .i64 dx, .int .i64 dy] 42)) V none)) (by kernel_rfl) ?_ (fun hHeld => ?_)
  · exact ⟨(CC.out _ (Kp.refl _ none).drew).1, Lib.hid (Kp.refl _ none).drew⟩
  refine tkH 0 rfl ?_ (by intro w hSw; obtain ⟨⟨g1, g2, g3, g4, g5, g6⟩, g7⟩ := hSw; go_simp <;> with_reducible rfl)
  try simp only [Act.put, sm]
  refine tkH 1 rfl ?_ (by intro w hSw; obtain ⟨⟨g1, g2, g3, g4, g5, g6⟩, g7⟩ := hSw; go_simp <;> with_reducible rfl)
  try simp only [Act.put, sm]
  refine tkH 2 rfl ?_ (by intro w hSw; obtain ⟨⟨g1, g2, g3, g4, g5, g6⟩, g7⟩ := hSw; go_simp <;> with_reducible rfl)
  try simp only [Act.put, sm]
  refine tkH 3 rfl ?_ (by intro w hSw; obtain ⟨⟨g1, g2, g3, g4, g5, g6⟩, g7⟩ := hSw; go_simp <;> with_reducible rfl)
  try simp only [Act.put, sm]
  refine tkH 4 rfl ?_ (by intro w hSw; obtain ⟨⟨g1, g2, g3, g4, g5, g6⟩, g7⟩ := hSw; go_simp <;> with_reducible rfl)
  try simp only [Act.put, sm]
  refine tkH 5 rfl ?_ (by intro w hSw; obtain ⟨⟨g1, g2, g3, g4, g5, g6⟩, g7⟩ := hSw; go_simp <;> with_reducible rfl)
  try simp only [Act.put, sm]
  refine tkH 6 rfl ?_ (by intro w hSw; obtain ⟨⟨g1, g2, g3, g4, g5, g6⟩, g7⟩ := hSw; go_simp <;> with_reducible rfl)
  try simp only [Act.put, sm]
  refine tkH 7 rfl ?_ (by intro w hSw; obtain ⟨⟨g1, g2, g3, g4, g5, g6⟩, g7⟩ := hSw; go_simp <;> with_reducible rfl)
  try simp only [Act.put, sm]
  refine tkH 8 rfl ?_ (by intro w hSw; obtain ⟨⟨g1, g2, g3, g4, g5, g6⟩, g7⟩ := hSw; go_simp <;> with_reducible rfl)
  try simp only [Act.put, sm]
  refine tkH 9 rfl ?_ (by intro w hSw; obtain ⟨⟨g1, g2, g3, g4, g5, g6⟩, g7⟩ := hSw; go_simp <;> with_reducible rfl)
  try simp only [Act.put, sm]
  refine tkH 10 rfl ?_ (by intro w hSw; obtain ⟨⟨g1, g2, g3, g4, g5, g6⟩, g7⟩ := hSw; go_simp <;> with_reducible rfl)
  try simp only [Act.put, sm]
  refine tkH 11 rfl ?_ (by intro w hSw; obtain ⟨⟨g1, g2, g3, g4, g5, g6⟩, g7⟩ := hSw; go_simp <;> with_reducible rfl)
  try simp only [Act.put, sm]
  refine tkH 13 rfl ?_ (by intro w hSw; obtain ⟨⟨g1, g2, g3, g4, g5, g6⟩, g7⟩ := hSw; go_simp <;> with_reducible rfl)
  try simp only [Act.put, sm]
  refine tkH 14 rfl ?_ (by intro w hSw; obtain ⟨⟨g1, g2, g3, g4, g5, g6⟩, g7⟩ := hSw; go_simp <;> with_reducible rfl)
  try simp only [Act.put, sm]
  refine tkH 15 rfl ?_ (by intro w hSw; obtain ⟨⟨g1, g2, g3, g4, g5, g6⟩, g7⟩ := hSw; go_simp <;> with_reducible rfl)
  try simp only [Act.put, sm]
  refine wpAnyH_ready (rs := [12]) (by kernel_rfl) (by simp) ?_
  refine AllReadyH.cons (o := _) rfl (fun K hK => ?_) AllReadyH.nil
  have gK := hHeld.2
  clear hHeld
  go_simp
  refine (HS2.out _).mono ?_
  rintro e w3 ⟨rfl, kk⟩
  try go_wp2_with fail
  refine hK.out _ _ ⟨(CC.out _ (gK.out.trans kk)).1, Lib.hid (gK.out.trans kk)⟩ (fun hHeld => ?_)
  clear hK K gK kk
  try simp only [Act.put, sm]
  refine wpAnyH_ready (rs := [16]) (by kernel_rfl) (by simp) ?_
  refine AllReadyH.cons (o := _) rfl (fun K hK => ?_) AllReadyH.nil
  have gK := hHeld.2
  clear hHeld
  go_simp
  refine (HA.out _).mono ?_
  rintro e w4 ⟨rfl, kk⟩
  try go_wp2_with fail
  refine hK.out _ _ ⟨(CC.out _ (gK.out.trans kk)).1, Lib.hid (gK.out.trans kk)⟩ (fun hHeld => ?_)
  clear hK K gK kk
  try simp only [Act.put, sm]
  refine tkH 17 rfl ?_ (by intro w hSw; obtain ⟨⟨g1, g2, g3, g4, g5, g6⟩, g7⟩ := hSw; go_simp <;> with_reducible rfl)
  try simp only [Act.put, sm]
  refine tkH 18 rfl ?_ (by intro w hSw; obtain ⟨⟨g1, g2, g3, g4, g5, g6⟩, g7⟩ := hSw; go_simp <;> with_reducible rfl)
  try simp only [Act.put, sm]
  refine wpAnyH_ready (rs := [19]) (by kernel_rfl) (by simp) ?_
  refine AllReadyH.cons (o := _) rfl (fun K hK => ?_) AllReadyH.nil
  have gK := hHeld.2
  clear hHeld
  go_simp
  try go_wp2_with fail
  refine hK.out _ _ ⟨(CC.out _ gK.out).1, gK⟩ (fun hHeld => ?_)
  have KZ := Lib.hid (CC.out _ gK.out).2
  clear hK K hHeld gK
  refine wpAnyH_done (by kernel_rfl) ?_ _
  go_wp2_with fail
  go_ret
  exact ⟨rfl, KZ.out.out⟩

set_option maxHeartbeats 8000000 in
set_option maxRecDepth 100000 in
theorem quarter_okb (ek ax ay bx bY cx cy turn dx dy qx qy rx ry : Int) (w : World) (hs : ∀ V, Calls Tryz.prog 59 #[.agg #[.int .i64 ax, .int .i64 ay], .agg #[.int .i64 cx, .int .i64 cy]] V fun E w' => E = .returned (.agg #[.int .i64 dx, .int .i64 dy]) ∧ Kp V w' none)
    (hs2 : ∀ V, Calls Tryz.prog 59 #[.agg #[.int .i64 bx, .int .i64 bY], .agg #[.int .i64 cx, .int .i64 cy]] V fun E w' => E = .returned (.agg #[.int .i64 qx, .int .i64 qy]) ∧ Kp V w' none)
    (ha : ∀ V, Calls Tryz.prog 60 #[.agg #[.int .i64 0, .int .i64 0, .int .i64 turn, .bool false], .agg #[.int .i64 dx, .int .i64 dy]] V fun E w' => E = .returned (.agg #[.int .i64 rx, .int .i64 ry]) ∧ Kp V w' none)
    (hg1 : (dx == 0) = false) (hg2 : (dy == 0) = true) (hc1 : (qx == rx) = true) (hc2 : (qy == ry) = true) :
    Calls Tryz.prog 223 #[.agg #[.int .i64 ek, .int .i64 ax, .int .i64 ay, .int .i64 bx, .int .i64 bY, .int .i64 cx, .int .i64 cy], .int .i64 turn] w fun E w' => E = .returned (.bool true) ∧ Kp w w' none := by
  have HS := Lib.hid hs
  have HS2 := Lib.hid hs2
  have HA := Lib.hid ha
  clear hs hs2 ha
  have HB0 := Lib.hid (heap_alloc_new w (Obj.cells #[.int .i64 ek, .int .i64 ax, .int .i64 ay, .int .i64 bx, .int .i64 bY, .int .i64 cx, .int .i64 cy] 123))
  have HK0 : Hid (Kp w (w.alloc (Obj.cells #[.int .i64 ek, .int .i64 ax, .int .i64 ay, .int .i64 bx, .int .i64 bY, .int .i64 cx, .int .i64 cy] 123)) none) := Lib.hid ((Kp.refl w none).alloc _)
  go_enter Tryz.func223, Tryz.ntmps223
  go_wp2_with fail
  refine (HS.out _).mono ?_
  rintro e w1 ⟨rfl, k1⟩
  have HB1 : Hid (w1.heap[w.heap.size]? = some (Obj.cells #[.int .i64 ek, .int .i64 ax, .int .i64 ay, .int .i64 bx, .int .i64 bY, .int .i64 cx, .int .i64 cy] 123)) := Lib.hid ((k1.block _ (by simp) (by simp)).trans HB0.out)
  have HK1 := Lib.hid (HK0.out.trans k1)
  have HLT : Hid (w.heap.size < w1.heap.size) := Lib.hid (lt_of_block HB1.out)
  clear k1
  have HD := Lib.hid (heap_alloc_new w1 (Obj.cells #[.int .i64 dx, .int .i64 dy] 42))
  have CC : Hid (∀ V, Kp (w1.alloc (Obj.cells #[.int .i64 dx, .int .i64 dy] 42)) V none → (V.cell? ⟨w.heap.size, 3, none⟩ = some (.int .i64 bx) ∧ V.cell? ⟨w.heap.size, 4, none⟩ = some (.int .i64 bY) ∧ V.cell? ⟨w.heap.size, 5, none⟩ = some (.int .i64 cx) ∧ V.cell? ⟨w.heap.size, 6, none⟩ = some (.int .i64 cy) ∧ V.cell? ⟨w1.heap.size, 0, none⟩ = some (.int .i64 dx) ∧ V.cell? ⟨w1.heap.size, 1, none⟩ = some (.int .i64 dy)) ∧ Hid (Kp w V none)) := Lib.hid fun V kV => by
    have k2 := ((Kp.refl w1 none).alloc (Obj.cells #[.int .i64 dx, .int .i64 dy] 42)).trans kV
    exact ⟨⟨ckr HB1.out k2 (by simp) 3 rfl, ckr HB1.out k2 (by simp) 4 rfl, ckr HB1.out k2 (by simp) 5 rfl, ckr HB1.out k2 (by simp) 6 rfl, ckr HD.out kV (by simp) 0 rfl, ckr HD.out kV (by simp) 1 rfl⟩, Lib.hid (HK1.out.trans k2)⟩
  go_wp2_with fail
  refine wp_region_held_drew (S := fun V => (V.cell? ⟨w.heap.size, 3, none⟩ = some (.int .i64 bx) ∧ V.cell? ⟨w.heap.size, 4, none⟩ = some (.int .i64 bY) ∧ V.cell? ⟨w.heap.size, 5, none⟩ = some (.int .i64 cx) ∧ V.cell? ⟨w.heap.size, 6, none⟩ = some (.int .i64 cy) ∧ V.cell? ⟨w1.heap.size, 0, none⟩ = some (.int .i64 dx) ∧ V.cell? ⟨w1.heap.size, 1, none⟩ = some (.int .i64 dy)) ∧ Hid (Kp (w1.alloc (Obj.cells #[.int .i64 dx, .int .i64 dy] 42)) V none)) (by kernel_rfl) ?_ (fun hHeld => ?_)
  · exact ⟨(CC.out _ (Kp.refl _ none).drew).1, Lib.hid (Kp.refl _ none).drew⟩
  refine tkH 0 rfl ?_ (by intro w hSw; obtain ⟨⟨g1, g2, g3, g4, g5, g6⟩, g7⟩ := hSw; go_simp <;> with_reducible rfl)
  try simp only [Act.put, sm]
  refine tkH 1 rfl ?_ (by intro w hSw; obtain ⟨⟨g1, g2, g3, g4, g5, g6⟩, g7⟩ := hSw; go_simp <;> with_reducible rfl)
  try simp only [Act.put, sm]
  refine tkH 2 rfl ?_ (by intro w hSw; obtain ⟨⟨g1, g2, g3, g4, g5, g6⟩, g7⟩ := hSw; go_simp <;> with_reducible rfl)
  try simp only [Act.put, sm]
  refine tkH 3 rfl ?_ (by intro w hSw; obtain ⟨⟨g1, g2, g3, g4, g5, g6⟩, g7⟩ := hSw; go_simp <;> with_reducible rfl)
  try simp only [Act.put, sm]
  refine tkH 4 rfl ?_ (by intro w hSw; obtain ⟨⟨g1, g2, g3, g4, g5, g6⟩, g7⟩ := hSw; go_simp <;> with_reducible rfl)
  try simp only [Act.put, sm]
  refine tkH 5 rfl ?_ (by intro w hSw; obtain ⟨⟨g1, g2, g3, g4, g5, g6⟩, g7⟩ := hSw; go_simp <;> with_reducible rfl)
  try simp only [Act.put, sm]
  refine tkH 6 rfl ?_ (by intro w hSw; obtain ⟨⟨g1, g2, g3, g4, g5, g6⟩, g7⟩ := hSw; go_simp <;> with_reducible rfl)
  try simp only [Act.put, sm]
  refine tkH 7 rfl ?_ (by intro w hSw; obtain ⟨⟨g1, g2, g3, g4, g5, g6⟩, g7⟩ := hSw; go_simp <;> with_reducible rfl)
  try simp only [Act.put, sm]
  refine tkH 8 rfl ?_ (by intro w hSw; obtain ⟨⟨g1, g2, g3, g4, g5, g6⟩, g7⟩ := hSw; go_simp <;> with_reducible rfl)
  try simp only [Act.put, sm]
  refine tkH 9 rfl ?_ (by intro w hSw; obtain ⟨⟨g1, g2, g3, g4, g5, g6⟩, g7⟩ := hSw; go_simp <;> with_reducible rfl)
  try simp only [Act.put, sm]
  refine tkH 10 rfl ?_ (by intro w hSw; obtain ⟨⟨g1, g2, g3, g4, g5, g6⟩, g7⟩ := hSw; go_simp <;> with_reducible rfl)
  try simp only [Act.put, sm]
  refine tkH 11 rfl ?_ (by intro w hSw; obtain ⟨⟨g1, g2, g3, g4, g5, g6⟩, g7⟩ := hSw; go_simp <;> with_reducible rfl)
  try simp only [Act.put, sm]
  refine tkH 13 rfl ?_ (by intro w hSw; obtain ⟨⟨g1, g2, g3, g4, g5, g6⟩, g7⟩ := hSw; go_simp <;> with_reducible rfl)
  try simp only [Act.put, sm]
  refine tkH 14 rfl ?_ (by intro w hSw; obtain ⟨⟨g1, g2, g3, g4, g5, g6⟩, g7⟩ := hSw; go_simp <;> with_reducible rfl)
  try simp only [Act.put, sm]
  refine tkH 15 rfl ?_ (by intro w hSw; obtain ⟨⟨g1, g2, g3, g4, g5, g6⟩, g7⟩ := hSw; go_simp <;> with_reducible rfl)
  try simp only [Act.put, sm]
  refine wpAnyH_ready (rs := [12]) (by kernel_rfl) (by simp) ?_
  refine AllReadyH.cons (o := _) rfl (fun K hK => ?_) AllReadyH.nil
  have gK := hHeld.2
  clear hHeld
  go_simp
  refine (HS2.out _).mono ?_
  rintro e w3 ⟨rfl, kk⟩
  try go_wp2_with fail
  refine hK.out _ _ ⟨(CC.out _ (gK.out.trans kk)).1, Lib.hid (gK.out.trans kk)⟩ (fun hHeld => ?_)
  clear hK K gK kk
  try simp only [Act.put, sm]
  refine wpAnyH_ready (rs := [16]) (by kernel_rfl) (by simp) ?_
  refine AllReadyH.cons (o := _) rfl (fun K hK => ?_) AllReadyH.nil
  have gK := hHeld.2
  clear hHeld
  go_simp
  refine (HA.out _).mono ?_
  rintro e w4 ⟨rfl, kk⟩
  try go_wp2_with fail
  refine hK.out _ _ ⟨(CC.out _ (gK.out.trans kk)).1, Lib.hid (gK.out.trans kk)⟩ (fun hHeld => ?_)
  clear hK K gK kk
  try simp only [Act.put, sm]
  refine tkH 17 rfl ?_ (by intro w hSw; obtain ⟨⟨g1, g2, g3, g4, g5, g6⟩, g7⟩ := hSw; go_simp <;> with_reducible rfl)
  try simp only [Act.put, sm]
  refine tkH 18 rfl ?_ (by intro w hSw; obtain ⟨⟨g1, g2, g3, g4, g5, g6⟩, g7⟩ := hSw; go_simp <;> with_reducible rfl)
  try simp only [Act.put, sm]
  refine wpAnyH_ready (rs := [19]) (by kernel_rfl) (by simp) ?_
  refine AllReadyH.cons (o := _) rfl (fun K hK => ?_) AllReadyH.nil
  have gK := hHeld.2
  clear hHeld
  go_simp
  try go_wp2_with fail
  refine hK.out _ _ ⟨(CC.out _ gK.out).1, gK⟩ (fun hHeld => ?_)
  have KZ := Lib.hid (CC.out _ gK.out).2
  clear hK K hHeld gK
  refine wpAnyH_done (by kernel_rfl) ?_ _
  go_wp2_with fail
  go_ret
  exact ⟨rfl, KZ.out.out⟩

set_option maxHeartbeats 8000000 in
set_option maxRecDepth 100000 in
theorem quarter_no1b (ek ax ay bx bY cx cy turn dx dy qx qy rx ry : Int) (w : World) (hs : ∀ V, Calls Tryz.prog 59 #[.agg #[.int .i64 ax, .int .i64 ay], .agg #[.int .i64 cx, .int .i64 cy]] V fun E w' => E = .returned (.agg #[.int .i64 dx, .int .i64 dy]) ∧ Kp V w' none)
    (hs2 : ∀ V, Calls Tryz.prog 59 #[.agg #[.int .i64 bx, .int .i64 bY], .agg #[.int .i64 cx, .int .i64 cy]] V fun E w' => E = .returned (.agg #[.int .i64 qx, .int .i64 qy]) ∧ Kp V w' none)
    (ha : ∀ V, Calls Tryz.prog 60 #[.agg #[.int .i64 0, .int .i64 0, .int .i64 turn, .bool false], .agg #[.int .i64 dx, .int .i64 dy]] V fun E w' => E = .returned (.agg #[.int .i64 rx, .int .i64 ry]) ∧ Kp V w' none)
    (hg1 : (dx == 0) = false) (hg2 : (dy == 0) = true) (hc1 : (qx == rx) = false)  :
    Calls Tryz.prog 223 #[.agg #[.int .i64 ek, .int .i64 ax, .int .i64 ay, .int .i64 bx, .int .i64 bY, .int .i64 cx, .int .i64 cy], .int .i64 turn] w fun E w' => E = .returned (.bool false) ∧ Kp w w' none := by
  have HS := Lib.hid hs
  have HS2 := Lib.hid hs2
  have HA := Lib.hid ha
  clear hs hs2 ha
  have HB0 := Lib.hid (heap_alloc_new w (Obj.cells #[.int .i64 ek, .int .i64 ax, .int .i64 ay, .int .i64 bx, .int .i64 bY, .int .i64 cx, .int .i64 cy] 123))
  have HK0 : Hid (Kp w (w.alloc (Obj.cells #[.int .i64 ek, .int .i64 ax, .int .i64 ay, .int .i64 bx, .int .i64 bY, .int .i64 cx, .int .i64 cy] 123)) none) := Lib.hid ((Kp.refl w none).alloc _)
  go_enter Tryz.func223, Tryz.ntmps223
  go_wp2_with fail
  refine (HS.out _).mono ?_
  rintro e w1 ⟨rfl, k1⟩
  have HB1 : Hid (w1.heap[w.heap.size]? = some (Obj.cells #[.int .i64 ek, .int .i64 ax, .int .i64 ay, .int .i64 bx, .int .i64 bY, .int .i64 cx, .int .i64 cy] 123)) := Lib.hid ((k1.block _ (by simp) (by simp)).trans HB0.out)
  have HK1 := Lib.hid (HK0.out.trans k1)
  have HLT : Hid (w.heap.size < w1.heap.size) := Lib.hid (lt_of_block HB1.out)
  clear k1
  have HD := Lib.hid (heap_alloc_new w1 (Obj.cells #[.int .i64 dx, .int .i64 dy] 42))
  have CC : Hid (∀ V, Kp (w1.alloc (Obj.cells #[.int .i64 dx, .int .i64 dy] 42)) V none → (V.cell? ⟨w.heap.size, 3, none⟩ = some (.int .i64 bx) ∧ V.cell? ⟨w.heap.size, 4, none⟩ = some (.int .i64 bY) ∧ V.cell? ⟨w.heap.size, 5, none⟩ = some (.int .i64 cx) ∧ V.cell? ⟨w.heap.size, 6, none⟩ = some (.int .i64 cy) ∧ V.cell? ⟨w1.heap.size, 0, none⟩ = some (.int .i64 dx) ∧ V.cell? ⟨w1.heap.size, 1, none⟩ = some (.int .i64 dy)) ∧ Hid (Kp w V none)) := Lib.hid fun V kV => by
    have k2 := ((Kp.refl w1 none).alloc (Obj.cells #[.int .i64 dx, .int .i64 dy] 42)).trans kV
    exact ⟨⟨ckr HB1.out k2 (by simp) 3 rfl, ckr HB1.out k2 (by simp) 4 rfl, ckr HB1.out k2 (by simp) 5 rfl, ckr HB1.out k2 (by simp) 6 rfl, ckr HD.out kV (by simp) 0 rfl, ckr HD.out kV (by simp) 1 rfl⟩, Lib.hid (HK1.out.trans k2)⟩
  go_wp2_with fail
  refine wp_region_held_drew (S := fun V => (V.cell? ⟨w.heap.size, 3, none⟩ = some (.int .i64 bx) ∧ V.cell? ⟨w.heap.size, 4, none⟩ = some (.int .i64 bY) ∧ V.cell? ⟨w.heap.size, 5, none⟩ = some (.int .i64 cx) ∧ V.cell? ⟨w.heap.size, 6, none⟩ = some (.int .i64 cy) ∧ V.cell? ⟨w1.heap.size, 0, none⟩ = some (.int .i64 dx) ∧ V.cell? ⟨w1.heap.size, 1, none⟩ = some (.int .i64 dy)) ∧ Hid (Kp (w1.alloc (Obj.cells #[.int .i64 dx, .int .i64 dy] 42)) V none)) (by kernel_rfl) ?_ (fun hHeld => ?_)
  · exact ⟨(CC.out _ (Kp.refl _ none).drew).1, Lib.hid (Kp.refl _ none).drew⟩
  refine tkH 0 rfl ?_ (by intro w hSw; obtain ⟨⟨g1, g2, g3, g4, g5, g6⟩, g7⟩ := hSw; go_simp <;> with_reducible rfl)
  try simp only [Act.put, sm]
  refine tkH 1 rfl ?_ (by intro w hSw; obtain ⟨⟨g1, g2, g3, g4, g5, g6⟩, g7⟩ := hSw; go_simp <;> with_reducible rfl)
  try simp only [Act.put, sm]
  refine tkH 2 rfl ?_ (by intro w hSw; obtain ⟨⟨g1, g2, g3, g4, g5, g6⟩, g7⟩ := hSw; go_simp <;> with_reducible rfl)
  try simp only [Act.put, sm]
  refine tkH 3 rfl ?_ (by intro w hSw; obtain ⟨⟨g1, g2, g3, g4, g5, g6⟩, g7⟩ := hSw; go_simp <;> with_reducible rfl)
  try simp only [Act.put, sm]
  refine tkH 4 rfl ?_ (by intro w hSw; obtain ⟨⟨g1, g2, g3, g4, g5, g6⟩, g7⟩ := hSw; go_simp <;> with_reducible rfl)
  try simp only [Act.put, sm]
  refine tkH 5 rfl ?_ (by intro w hSw; obtain ⟨⟨g1, g2, g3, g4, g5, g6⟩, g7⟩ := hSw; go_simp <;> with_reducible rfl)
  try simp only [Act.put, sm]
  refine tkH 6 rfl ?_ (by intro w hSw; obtain ⟨⟨g1, g2, g3, g4, g5, g6⟩, g7⟩ := hSw; go_simp <;> with_reducible rfl)
  try simp only [Act.put, sm]
  refine tkH 7 rfl ?_ (by intro w hSw; obtain ⟨⟨g1, g2, g3, g4, g5, g6⟩, g7⟩ := hSw; go_simp <;> with_reducible rfl)
  try simp only [Act.put, sm]
  refine tkH 8 rfl ?_ (by intro w hSw; obtain ⟨⟨g1, g2, g3, g4, g5, g6⟩, g7⟩ := hSw; go_simp <;> with_reducible rfl)
  try simp only [Act.put, sm]
  refine tkH 9 rfl ?_ (by intro w hSw; obtain ⟨⟨g1, g2, g3, g4, g5, g6⟩, g7⟩ := hSw; go_simp <;> with_reducible rfl)
  try simp only [Act.put, sm]
  refine tkH 10 rfl ?_ (by intro w hSw; obtain ⟨⟨g1, g2, g3, g4, g5, g6⟩, g7⟩ := hSw; go_simp <;> with_reducible rfl)
  try simp only [Act.put, sm]
  refine tkH 11 rfl ?_ (by intro w hSw; obtain ⟨⟨g1, g2, g3, g4, g5, g6⟩, g7⟩ := hSw; go_simp <;> with_reducible rfl)
  try simp only [Act.put, sm]
  refine tkH 13 rfl ?_ (by intro w hSw; obtain ⟨⟨g1, g2, g3, g4, g5, g6⟩, g7⟩ := hSw; go_simp <;> with_reducible rfl)
  try simp only [Act.put, sm]
  refine tkH 14 rfl ?_ (by intro w hSw; obtain ⟨⟨g1, g2, g3, g4, g5, g6⟩, g7⟩ := hSw; go_simp <;> with_reducible rfl)
  try simp only [Act.put, sm]
  refine tkH 15 rfl ?_ (by intro w hSw; obtain ⟨⟨g1, g2, g3, g4, g5, g6⟩, g7⟩ := hSw; go_simp <;> with_reducible rfl)
  try simp only [Act.put, sm]
  refine wpAnyH_ready (rs := [12]) (by kernel_rfl) (by simp) ?_
  refine AllReadyH.cons (o := _) rfl (fun K hK => ?_) AllReadyH.nil
  have gK := hHeld.2
  clear hHeld
  go_simp
  refine (HS2.out _).mono ?_
  rintro e w3 ⟨rfl, kk⟩
  try go_wp2_with fail
  refine hK.out _ _ ⟨(CC.out _ (gK.out.trans kk)).1, Lib.hid (gK.out.trans kk)⟩ (fun hHeld => ?_)
  clear hK K gK kk
  try simp only [Act.put, sm]
  refine wpAnyH_ready (rs := [16]) (by kernel_rfl) (by simp) ?_
  refine AllReadyH.cons (o := _) rfl (fun K hK => ?_) AllReadyH.nil
  have gK := hHeld.2
  clear hHeld
  go_simp
  refine (HA.out _).mono ?_
  rintro e w4 ⟨rfl, kk⟩
  try go_wp2_with fail
  refine hK.out _ _ ⟨(CC.out _ (gK.out.trans kk)).1, Lib.hid (gK.out.trans kk)⟩ (fun hHeld => ?_)
  clear hK K gK kk
  try simp only [Act.put, sm]
  refine tkH 17 rfl ?_ (by intro w hSw; obtain ⟨⟨g1, g2, g3, g4, g5, g6⟩, g7⟩ := hSw; go_simp <;> with_reducible rfl)
  try simp only [Act.put, sm]
  refine tkH 18 rfl ?_ (by intro w hSw; obtain ⟨⟨g1, g2, g3, g4, g5, g6⟩, g7⟩ := hSw; go_simp <;> with_reducible rfl)
  try simp only [Act.put, sm]
  refine wpAnyH_ready (rs := [19]) (by kernel_rfl) (by simp) ?_
  refine AllReadyH.cons (o := _) rfl (fun K hK => ?_) AllReadyH.nil
  have gK := hHeld.2
  clear hHeld
  go_simp
  try go_wp2_with fail
  refine hK.out _ _ ⟨(CC.out _ gK.out).1, gK⟩ (fun hHeld => ?_)
  have KZ := Lib.hid (CC.out _ gK.out).2
  clear hK K hHeld gK
  refine wpAnyH_done (by kernel_rfl) ?_ _
  go_wp2_with fail
  go_ret
  exact ⟨rfl, KZ.out.out⟩

set_option maxHeartbeats 8000000 in
set_option maxRecDepth 100000 in
theorem quarter_no2b (ek ax ay bx bY cx cy turn dx dy qx qy rx ry : Int) (w : World) (hs : ∀ V, Calls Tryz.prog 59 #[.agg #[.int .i64 ax, .int .i64 ay], .agg #[.int .i64 cx, .int .i64 cy]] V fun E w' => E = .returned (.agg #[.int .i64 dx, .int .i64 dy]) ∧ Kp V w' none)
    (hs2 : ∀ V, Calls Tryz.prog 59 #[.agg #[.int .i64 bx, .int .i64 bY], .agg #[.int .i64 cx, .int .i64 cy]] V fun E w' => E = .returned (.agg #[.int .i64 qx, .int .i64 qy]) ∧ Kp V w' none)
    (ha : ∀ V, Calls Tryz.prog 60 #[.agg #[.int .i64 0, .int .i64 0, .int .i64 turn, .bool false], .agg #[.int .i64 dx, .int .i64 dy]] V fun E w' => E = .returned (.agg #[.int .i64 rx, .int .i64 ry]) ∧ Kp V w' none)
    (hg1 : (dx == 0) = false) (hg2 : (dy == 0) = true) (hc1 : (qx == rx) = true) (hc2 : (qy == ry) = false) :
    Calls Tryz.prog 223 #[.agg #[.int .i64 ek, .int .i64 ax, .int .i64 ay, .int .i64 bx, .int .i64 bY, .int .i64 cx, .int .i64 cy], .int .i64 turn] w fun E w' => E = .returned (.bool false) ∧ Kp w w' none := by
  have HS := Lib.hid hs
  have HS2 := Lib.hid hs2
  have HA := Lib.hid ha
  clear hs hs2 ha
  have HB0 := Lib.hid (heap_alloc_new w (Obj.cells #[.int .i64 ek, .int .i64 ax, .int .i64 ay, .int .i64 bx, .int .i64 bY, .int .i64 cx, .int .i64 cy] 123))
  have HK0 : Hid (Kp w (w.alloc (Obj.cells #[.int .i64 ek, .int .i64 ax, .int .i64 ay, .int .i64 bx, .int .i64 bY, .int .i64 cx, .int .i64 cy] 123)) none) := Lib.hid ((Kp.refl w none).alloc _)
  go_enter Tryz.func223, Tryz.ntmps223
  go_wp2_with fail
  refine (HS.out _).mono ?_
  rintro e w1 ⟨rfl, k1⟩
  have HB1 : Hid (w1.heap[w.heap.size]? = some (Obj.cells #[.int .i64 ek, .int .i64 ax, .int .i64 ay, .int .i64 bx, .int .i64 bY, .int .i64 cx, .int .i64 cy] 123)) := Lib.hid ((k1.block _ (by simp) (by simp)).trans HB0.out)
  have HK1 := Lib.hid (HK0.out.trans k1)
  have HLT : Hid (w.heap.size < w1.heap.size) := Lib.hid (lt_of_block HB1.out)
  clear k1
  have HD := Lib.hid (heap_alloc_new w1 (Obj.cells #[.int .i64 dx, .int .i64 dy] 42))
  have CC : Hid (∀ V, Kp (w1.alloc (Obj.cells #[.int .i64 dx, .int .i64 dy] 42)) V none → (V.cell? ⟨w.heap.size, 3, none⟩ = some (.int .i64 bx) ∧ V.cell? ⟨w.heap.size, 4, none⟩ = some (.int .i64 bY) ∧ V.cell? ⟨w.heap.size, 5, none⟩ = some (.int .i64 cx) ∧ V.cell? ⟨w.heap.size, 6, none⟩ = some (.int .i64 cy) ∧ V.cell? ⟨w1.heap.size, 0, none⟩ = some (.int .i64 dx) ∧ V.cell? ⟨w1.heap.size, 1, none⟩ = some (.int .i64 dy)) ∧ Hid (Kp w V none)) := Lib.hid fun V kV => by
    have k2 := ((Kp.refl w1 none).alloc (Obj.cells #[.int .i64 dx, .int .i64 dy] 42)).trans kV
    exact ⟨⟨ckr HB1.out k2 (by simp) 3 rfl, ckr HB1.out k2 (by simp) 4 rfl, ckr HB1.out k2 (by simp) 5 rfl, ckr HB1.out k2 (by simp) 6 rfl, ckr HD.out kV (by simp) 0 rfl, ckr HD.out kV (by simp) 1 rfl⟩, Lib.hid (HK1.out.trans k2)⟩
  go_wp2_with fail
  refine wp_region_held_drew (S := fun V => (V.cell? ⟨w.heap.size, 3, none⟩ = some (.int .i64 bx) ∧ V.cell? ⟨w.heap.size, 4, none⟩ = some (.int .i64 bY) ∧ V.cell? ⟨w.heap.size, 5, none⟩ = some (.int .i64 cx) ∧ V.cell? ⟨w.heap.size, 6, none⟩ = some (.int .i64 cy) ∧ V.cell? ⟨w1.heap.size, 0, none⟩ = some (.int .i64 dx) ∧ V.cell? ⟨w1.heap.size, 1, none⟩ = some (.int .i64 dy)) ∧ Hid (Kp (w1.alloc (Obj.cells #[.int .i64 dx, .int .i64 dy] 42)) V none)) (by kernel_rfl) ?_ (fun hHeld => ?_)
  · exact ⟨(CC.out _ (Kp.refl _ none).drew).1, Lib.hid (Kp.refl _ none).drew⟩
  refine tkH 0 rfl ?_ (by intro w hSw; obtain ⟨⟨g1, g2, g3, g4, g5, g6⟩, g7⟩ := hSw; go_simp <;> with_reducible rfl)
  try simp only [Act.put, sm]
  refine tkH 1 rfl ?_ (by intro w hSw; obtain ⟨⟨g1, g2, g3, g4, g5, g6⟩, g7⟩ := hSw; go_simp <;> with_reducible rfl)
  try simp only [Act.put, sm]
  refine tkH 2 rfl ?_ (by intro w hSw; obtain ⟨⟨g1, g2, g3, g4, g5, g6⟩, g7⟩ := hSw; go_simp <;> with_reducible rfl)
  try simp only [Act.put, sm]
  refine tkH 3 rfl ?_ (by intro w hSw; obtain ⟨⟨g1, g2, g3, g4, g5, g6⟩, g7⟩ := hSw; go_simp <;> with_reducible rfl)
  try simp only [Act.put, sm]
  refine tkH 4 rfl ?_ (by intro w hSw; obtain ⟨⟨g1, g2, g3, g4, g5, g6⟩, g7⟩ := hSw; go_simp <;> with_reducible rfl)
  try simp only [Act.put, sm]
  refine tkH 5 rfl ?_ (by intro w hSw; obtain ⟨⟨g1, g2, g3, g4, g5, g6⟩, g7⟩ := hSw; go_simp <;> with_reducible rfl)
  try simp only [Act.put, sm]
  refine tkH 6 rfl ?_ (by intro w hSw; obtain ⟨⟨g1, g2, g3, g4, g5, g6⟩, g7⟩ := hSw; go_simp <;> with_reducible rfl)
  try simp only [Act.put, sm]
  refine tkH 7 rfl ?_ (by intro w hSw; obtain ⟨⟨g1, g2, g3, g4, g5, g6⟩, g7⟩ := hSw; go_simp <;> with_reducible rfl)
  try simp only [Act.put, sm]
  refine tkH 8 rfl ?_ (by intro w hSw; obtain ⟨⟨g1, g2, g3, g4, g5, g6⟩, g7⟩ := hSw; go_simp <;> with_reducible rfl)
  try simp only [Act.put, sm]
  refine tkH 9 rfl ?_ (by intro w hSw; obtain ⟨⟨g1, g2, g3, g4, g5, g6⟩, g7⟩ := hSw; go_simp <;> with_reducible rfl)
  try simp only [Act.put, sm]
  refine tkH 10 rfl ?_ (by intro w hSw; obtain ⟨⟨g1, g2, g3, g4, g5, g6⟩, g7⟩ := hSw; go_simp <;> with_reducible rfl)
  try simp only [Act.put, sm]
  refine tkH 11 rfl ?_ (by intro w hSw; obtain ⟨⟨g1, g2, g3, g4, g5, g6⟩, g7⟩ := hSw; go_simp <;> with_reducible rfl)
  try simp only [Act.put, sm]
  refine tkH 13 rfl ?_ (by intro w hSw; obtain ⟨⟨g1, g2, g3, g4, g5, g6⟩, g7⟩ := hSw; go_simp <;> with_reducible rfl)
  try simp only [Act.put, sm]
  refine tkH 14 rfl ?_ (by intro w hSw; obtain ⟨⟨g1, g2, g3, g4, g5, g6⟩, g7⟩ := hSw; go_simp <;> with_reducible rfl)
  try simp only [Act.put, sm]
  refine tkH 15 rfl ?_ (by intro w hSw; obtain ⟨⟨g1, g2, g3, g4, g5, g6⟩, g7⟩ := hSw; go_simp <;> with_reducible rfl)
  try simp only [Act.put, sm]
  refine wpAnyH_ready (rs := [12]) (by kernel_rfl) (by simp) ?_
  refine AllReadyH.cons (o := _) rfl (fun K hK => ?_) AllReadyH.nil
  have gK := hHeld.2
  clear hHeld
  go_simp
  refine (HS2.out _).mono ?_
  rintro e w3 ⟨rfl, kk⟩
  try go_wp2_with fail
  refine hK.out _ _ ⟨(CC.out _ (gK.out.trans kk)).1, Lib.hid (gK.out.trans kk)⟩ (fun hHeld => ?_)
  clear hK K gK kk
  try simp only [Act.put, sm]
  refine wpAnyH_ready (rs := [16]) (by kernel_rfl) (by simp) ?_
  refine AllReadyH.cons (o := _) rfl (fun K hK => ?_) AllReadyH.nil
  have gK := hHeld.2
  clear hHeld
  go_simp
  refine (HA.out _).mono ?_
  rintro e w4 ⟨rfl, kk⟩
  try go_wp2_with fail
  refine hK.out _ _ ⟨(CC.out _ (gK.out.trans kk)).1, Lib.hid (gK.out.trans kk)⟩ (fun hHeld => ?_)
  clear hK K gK kk
  try simp only [Act.put, sm]
  refine tkH 17 rfl ?_ (by intro w hSw; obtain ⟨⟨g1, g2, g3, g4, g5, g6⟩, g7⟩ := hSw; go_simp <;> with_reducible rfl)
  try simp only [Act.put, sm]
  refine tkH 18 rfl ?_ (by intro w hSw; obtain ⟨⟨g1, g2, g3, g4, g5, g6⟩, g7⟩ := hSw; go_simp <;> with_reducible rfl)
  try simp only [Act.put, sm]
  refine wpAnyH_ready (rs := [19]) (by kernel_rfl) (by simp) ?_
  refine AllReadyH.cons (o := _) rfl (fun K hK => ?_) AllReadyH.nil
  have gK := hHeld.2
  clear hHeld
  go_simp
  try go_wp2_with fail
  refine hK.out _ _ ⟨(CC.out _ gK.out).1, gK⟩ (fun hHeld => ?_)
  have KZ := Lib.hid (CC.out _ gK.out).2
  clear hK K hHeld gK
  refine wpAnyH_done (by kernel_rfl) ?_ _
  go_wp2_with fail
  go_ret
  exact ⟨rfl, KZ.out.out⟩

set_option maxHeartbeats 8000000 in
set_option maxRecDepth 100000 in
theorem quarter_noa (ek ax ay bx bY cx cy turn dx dy qx qy rx ry : Int) (w : World) (hs : ∀ V, Calls Tryz.prog 59 #[.agg #[.int .i64 ax, .int .i64 ay], .agg #[.int .i64 cx, .int .i64 cy]] V fun E w' => E = .returned (.agg #[.int .i64 dx, .int .i64 dy]) ∧ Kp V w' none)
    (hs2 : ∀ V, Calls Tryz.prog 59 #[.agg #[.int .i64 bx, .int .i64 bY], .agg #[.int .i64 cx, .int .i64 cy]] V fun E w' => E = .returned (.agg #[.int .i64 qx, .int .i64 qy]) ∧ Kp V w' none)
    (ha : ∀ V, Calls Tryz.prog 60 #[.agg #[.int .i64 0, .int .i64 0, .int .i64 turn, .bool false], .agg #[.int .i64 dx, .int .i64 dy]] V fun E w' => E = .returned (.agg #[.int .i64 rx, .int .i64 ry]) ∧ Kp V w' none)
    (hg1 : (dx == 0) = true) (hg2 : (dy == 0) = true)   :
    Calls Tryz.prog 223 #[.agg #[.int .i64 ek, .int .i64 ax, .int .i64 ay, .int .i64 bx, .int .i64 bY, .int .i64 cx, .int .i64 cy], .int .i64 turn] w fun E w' => E = .returned (.bool false) ∧ Kp w w' none := by
  have HS := Lib.hid hs
  have HS2 := Lib.hid hs2
  have HA := Lib.hid ha
  clear hs hs2 ha
  have HB0 := Lib.hid (heap_alloc_new w (Obj.cells #[.int .i64 ek, .int .i64 ax, .int .i64 ay, .int .i64 bx, .int .i64 bY, .int .i64 cx, .int .i64 cy] 123))
  have HK0 : Hid (Kp w (w.alloc (Obj.cells #[.int .i64 ek, .int .i64 ax, .int .i64 ay, .int .i64 bx, .int .i64 bY, .int .i64 cx, .int .i64 cy] 123)) none) := Lib.hid ((Kp.refl w none).alloc _)
  go_enter Tryz.func223, Tryz.ntmps223
  go_wp2_with fail
  refine (HS.out _).mono ?_
  rintro e w1 ⟨rfl, k1⟩
  have HB1 : Hid (w1.heap[w.heap.size]? = some (Obj.cells #[.int .i64 ek, .int .i64 ax, .int .i64 ay, .int .i64 bx, .int .i64 bY, .int .i64 cx, .int .i64 cy] 123)) := Lib.hid ((k1.block _ (by simp) (by simp)).trans HB0.out)
  have HK1 := Lib.hid (HK0.out.trans k1)
  have HLT : Hid (w.heap.size < w1.heap.size) := Lib.hid (lt_of_block HB1.out)
  clear k1
  have HD := Lib.hid (heap_alloc_new w1 (Obj.cells #[.int .i64 dx, .int .i64 dy] 42))
  have CC : Hid (∀ V, Kp (w1.alloc (Obj.cells #[.int .i64 dx, .int .i64 dy] 42)) V none → (V.cell? ⟨w.heap.size, 3, none⟩ = some (.int .i64 bx) ∧ V.cell? ⟨w.heap.size, 4, none⟩ = some (.int .i64 bY) ∧ V.cell? ⟨w.heap.size, 5, none⟩ = some (.int .i64 cx) ∧ V.cell? ⟨w.heap.size, 6, none⟩ = some (.int .i64 cy) ∧ V.cell? ⟨w1.heap.size, 0, none⟩ = some (.int .i64 dx) ∧ V.cell? ⟨w1.heap.size, 1, none⟩ = some (.int .i64 dy)) ∧ Hid (Kp w V none)) := Lib.hid fun V kV => by
    have k2 := ((Kp.refl w1 none).alloc (Obj.cells #[.int .i64 dx, .int .i64 dy] 42)).trans kV
    exact ⟨⟨ckr HB1.out k2 (by simp) 3 rfl, ckr HB1.out k2 (by simp) 4 rfl, ckr HB1.out k2 (by simp) 5 rfl, ckr HB1.out k2 (by simp) 6 rfl, ckr HD.out kV (by simp) 0 rfl, ckr HD.out kV (by simp) 1 rfl⟩, Lib.hid (HK1.out.trans k2)⟩
  go_wp2_with fail
  refine wp_region_held_drew (S := fun V => (V.cell? ⟨w.heap.size, 3, none⟩ = some (.int .i64 bx) ∧ V.cell? ⟨w.heap.size, 4, none⟩ = some (.int .i64 bY) ∧ V.cell? ⟨w.heap.size, 5, none⟩ = some (.int .i64 cx) ∧ V.cell? ⟨w.heap.size, 6, none⟩ = some (.int .i64 cy) ∧ V.cell? ⟨w1.heap.size, 0, none⟩ = some (.int .i64 dx) ∧ V.cell? ⟨w1.heap.size, 1, none⟩ = some (.int .i64 dy)) ∧ Hid (Kp (w1.alloc (Obj.cells #[.int .i64 dx, .int .i64 dy] 42)) V none)) (by kernel_rfl) ?_ (fun hHeld => ?_)
  · exact ⟨(CC.out _ (Kp.refl _ none).drew).1, Lib.hid (Kp.refl _ none).drew⟩
  refine tkH 0 rfl ?_ (by intro w hSw; obtain ⟨⟨g1, g2, g3, g4, g5, g6⟩, g7⟩ := hSw; go_simp <;> with_reducible rfl)
  try simp only [Act.put, sm]
  refine tkH 1 rfl ?_ (by intro w hSw; obtain ⟨⟨g1, g2, g3, g4, g5, g6⟩, g7⟩ := hSw; go_simp <;> with_reducible rfl)
  try simp only [Act.put, sm]
  refine tkH 2 rfl ?_ (by intro w hSw; obtain ⟨⟨g1, g2, g3, g4, g5, g6⟩, g7⟩ := hSw; go_simp <;> with_reducible rfl)
  try simp only [Act.put, sm]
  refine tkH 3 rfl ?_ (by intro w hSw; obtain ⟨⟨g1, g2, g3, g4, g5, g6⟩, g7⟩ := hSw; go_simp <;> with_reducible rfl)
  try simp only [Act.put, sm]
  refine tkH 4 rfl ?_ (by intro w hSw; obtain ⟨⟨g1, g2, g3, g4, g5, g6⟩, g7⟩ := hSw; go_simp <;> with_reducible rfl)
  try simp only [Act.put, sm]
  refine tkH 5 rfl ?_ (by intro w hSw; obtain ⟨⟨g1, g2, g3, g4, g5, g6⟩, g7⟩ := hSw; go_simp <;> with_reducible rfl)
  try simp only [Act.put, sm]
  refine tkH 6 rfl ?_ (by intro w hSw; obtain ⟨⟨g1, g2, g3, g4, g5, g6⟩, g7⟩ := hSw; go_simp <;> with_reducible rfl)
  try simp only [Act.put, sm]
  refine tkH 7 rfl ?_ (by intro w hSw; obtain ⟨⟨g1, g2, g3, g4, g5, g6⟩, g7⟩ := hSw; go_simp <;> with_reducible rfl)
  try simp only [Act.put, sm]
  refine tkU 8 rfl ?_
  try simp only [Act.put, sm]
  refine tkU 9 rfl ?_
  try simp only [Act.put, sm]
  refine tkU 10 rfl ?_
  try simp only [Act.put, sm]
  refine tkU 11 rfl ?_
  try simp only [Act.put, sm]
  refine tkU 12 rfl ?_
  try simp only [Act.put, sm]
  refine tkU 13 rfl ?_
  try simp only [Act.put, sm]
  refine tkU 14 rfl ?_
  try simp only [Act.put, sm]
  refine tkU 15 rfl ?_
  try simp only [Act.put, sm]
  refine tkU 16 rfl ?_
  try simp only [Act.put, sm]
  refine tkU 17 rfl ?_
  try simp only [Act.put, sm]
  refine tkH 18 rfl ?_ (by intro w hSw; obtain ⟨⟨g1, g2, g3, g4, g5, g6⟩, g7⟩ := hSw; go_simp <;> with_reducible rfl)
  try simp only [Act.put, sm]
  refine wpAnyH_ready (rs := [19]) (by kernel_rfl) (by simp) ?_
  refine AllReadyH.cons (o := _) rfl (fun K hK => ?_) AllReadyH.nil
  have gK := hHeld.2
  clear hHeld
  go_simp
  try go_wp2_with fail
  refine hK.out _ _ ⟨(CC.out _ gK.out).1, gK⟩ (fun hHeld => ?_)
  have KZ := Lib.hid (CC.out _ gK.out).2
  clear hK K hHeld gK
  refine wpAnyH_done (by kernel_rfl) ?_ _
  go_wp2_with fail
  go_ret
  exact ⟨rfl, KZ.out.out⟩

set_option maxHeartbeats 8000000 in
set_option maxRecDepth 100000 in
theorem quarter_nob (ek ax ay bx bY cx cy turn dx dy qx qy rx ry : Int) (w : World) (hs : ∀ V, Calls Tryz.prog 59 #[.agg #[.int .i64 ax, .int .i64 ay], .agg #[.int .i64 cx, .int .i64 cy]] V fun E w' => E = .returned (.agg #[.int .i64 dx, .int .i64 dy]) ∧ Kp V w' none)
    (hs2 : ∀ V, Calls Tryz.prog 59 #[.agg #[.int .i64 bx, .int .i64 bY], .agg #[.int .i64 cx, .int .i64 cy]] V fun E w' => E = .returned (.agg #[.int .i64 qx, .int .i64 qy]) ∧ Kp V w' none)
    (ha : ∀ V, Calls Tryz.prog 60 #[.agg #[.int .i64 0, .int .i64 0, .int .i64 turn, .bool false], .agg #[.int .i64 dx, .int .i64 dy]] V fun E w' => E = .returned (.agg #[.int .i64 rx, .int .i64 ry]) ∧ Kp V w' none)
    (hg1 : (dx == 0) = false) (hg2 : (dy == 0) = false)   :
    Calls Tryz.prog 223 #[.agg #[.int .i64 ek, .int .i64 ax, .int .i64 ay, .int .i64 bx, .int .i64 bY, .int .i64 cx, .int .i64 cy], .int .i64 turn] w fun E w' => E = .returned (.bool false) ∧ Kp w w' none := by
  have HS := Lib.hid hs
  have HS2 := Lib.hid hs2
  have HA := Lib.hid ha
  clear hs hs2 ha
  have HB0 := Lib.hid (heap_alloc_new w (Obj.cells #[.int .i64 ek, .int .i64 ax, .int .i64 ay, .int .i64 bx, .int .i64 bY, .int .i64 cx, .int .i64 cy] 123))
  have HK0 : Hid (Kp w (w.alloc (Obj.cells #[.int .i64 ek, .int .i64 ax, .int .i64 ay, .int .i64 bx, .int .i64 bY, .int .i64 cx, .int .i64 cy] 123)) none) := Lib.hid ((Kp.refl w none).alloc _)
  go_enter Tryz.func223, Tryz.ntmps223
  go_wp2_with fail
  refine (HS.out _).mono ?_
  rintro e w1 ⟨rfl, k1⟩
  have HB1 : Hid (w1.heap[w.heap.size]? = some (Obj.cells #[.int .i64 ek, .int .i64 ax, .int .i64 ay, .int .i64 bx, .int .i64 bY, .int .i64 cx, .int .i64 cy] 123)) := Lib.hid ((k1.block _ (by simp) (by simp)).trans HB0.out)
  have HK1 := Lib.hid (HK0.out.trans k1)
  have HLT : Hid (w.heap.size < w1.heap.size) := Lib.hid (lt_of_block HB1.out)
  clear k1
  have HD := Lib.hid (heap_alloc_new w1 (Obj.cells #[.int .i64 dx, .int .i64 dy] 42))
  have CC : Hid (∀ V, Kp (w1.alloc (Obj.cells #[.int .i64 dx, .int .i64 dy] 42)) V none → (V.cell? ⟨w.heap.size, 3, none⟩ = some (.int .i64 bx) ∧ V.cell? ⟨w.heap.size, 4, none⟩ = some (.int .i64 bY) ∧ V.cell? ⟨w.heap.size, 5, none⟩ = some (.int .i64 cx) ∧ V.cell? ⟨w.heap.size, 6, none⟩ = some (.int .i64 cy) ∧ V.cell? ⟨w1.heap.size, 0, none⟩ = some (.int .i64 dx) ∧ V.cell? ⟨w1.heap.size, 1, none⟩ = some (.int .i64 dy)) ∧ Hid (Kp w V none)) := Lib.hid fun V kV => by
    have k2 := ((Kp.refl w1 none).alloc (Obj.cells #[.int .i64 dx, .int .i64 dy] 42)).trans kV
    exact ⟨⟨ckr HB1.out k2 (by simp) 3 rfl, ckr HB1.out k2 (by simp) 4 rfl, ckr HB1.out k2 (by simp) 5 rfl, ckr HB1.out k2 (by simp) 6 rfl, ckr HD.out kV (by simp) 0 rfl, ckr HD.out kV (by simp) 1 rfl⟩, Lib.hid (HK1.out.trans k2)⟩
  go_wp2_with fail
  refine wp_region_held_drew (S := fun V => (V.cell? ⟨w.heap.size, 3, none⟩ = some (.int .i64 bx) ∧ V.cell? ⟨w.heap.size, 4, none⟩ = some (.int .i64 bY) ∧ V.cell? ⟨w.heap.size, 5, none⟩ = some (.int .i64 cx) ∧ V.cell? ⟨w.heap.size, 6, none⟩ = some (.int .i64 cy) ∧ V.cell? ⟨w1.heap.size, 0, none⟩ = some (.int .i64 dx) ∧ V.cell? ⟨w1.heap.size, 1, none⟩ = some (.int .i64 dy)) ∧ Hid (Kp (w1.alloc (Obj.cells #[.int .i64 dx, .int .i64 dy] 42)) V none)) (by kernel_rfl) ?_ (fun hHeld => ?_)
  · exact ⟨(CC.out _ (Kp.refl _ none).drew).1, Lib.hid (Kp.refl _ none).drew⟩
  refine tkH 0 rfl ?_ (by intro w hSw; obtain ⟨⟨g1, g2, g3, g4, g5, g6⟩, g7⟩ := hSw; go_simp <;> with_reducible rfl)
  try simp only [Act.put, sm]
  refine tkH 1 rfl ?_ (by intro w hSw; obtain ⟨⟨g1, g2, g3, g4, g5, g6⟩, g7⟩ := hSw; go_simp <;> with_reducible rfl)
  try simp only [Act.put, sm]
  refine tkH 2 rfl ?_ (by intro w hSw; obtain ⟨⟨g1, g2, g3, g4, g5, g6⟩, g7⟩ := hSw; go_simp <;> with_reducible rfl)
  try simp only [Act.put, sm]
  refine tkH 3 rfl ?_ (by intro w hSw; obtain ⟨⟨g1, g2, g3, g4, g5, g6⟩, g7⟩ := hSw; go_simp <;> with_reducible rfl)
  try simp only [Act.put, sm]
  refine tkH 4 rfl ?_ (by intro w hSw; obtain ⟨⟨g1, g2, g3, g4, g5, g6⟩, g7⟩ := hSw; go_simp <;> with_reducible rfl)
  try simp only [Act.put, sm]
  refine tkH 5 rfl ?_ (by intro w hSw; obtain ⟨⟨g1, g2, g3, g4, g5, g6⟩, g7⟩ := hSw; go_simp <;> with_reducible rfl)
  try simp only [Act.put, sm]
  refine tkH 6 rfl ?_ (by intro w hSw; obtain ⟨⟨g1, g2, g3, g4, g5, g6⟩, g7⟩ := hSw; go_simp <;> with_reducible rfl)
  try simp only [Act.put, sm]
  refine tkH 7 rfl ?_ (by intro w hSw; obtain ⟨⟨g1, g2, g3, g4, g5, g6⟩, g7⟩ := hSw; go_simp <;> with_reducible rfl)
  try simp only [Act.put, sm]
  refine tkU 8 rfl ?_
  try simp only [Act.put, sm]
  refine tkU 9 rfl ?_
  try simp only [Act.put, sm]
  refine tkU 10 rfl ?_
  try simp only [Act.put, sm]
  refine tkU 11 rfl ?_
  try simp only [Act.put, sm]
  refine tkU 12 rfl ?_
  try simp only [Act.put, sm]
  refine tkU 13 rfl ?_
  try simp only [Act.put, sm]
  refine tkU 14 rfl ?_
  try simp only [Act.put, sm]
  refine tkU 15 rfl ?_
  try simp only [Act.put, sm]
  refine tkU 16 rfl ?_
  try simp only [Act.put, sm]
  refine tkU 17 rfl ?_
  try simp only [Act.put, sm]
  refine tkH 18 rfl ?_ (by intro w hSw; obtain ⟨⟨g1, g2, g3, g4, g5, g6⟩, g7⟩ := hSw; go_simp <;> with_reducible rfl)
  try simp only [Act.put, sm]
  refine wpAnyH_ready (rs := [19]) (by kernel_rfl) (by simp) ?_
  refine AllReadyH.cons (o := _) rfl (fun K hK => ?_) AllReadyH.nil
  have gK := hHeld.2
  clear hHeld
  go_simp
  try go_wp2_with fail
  refine hK.out _ _ ⟨(CC.out _ gK.out).1, gK⟩ (fun hHeld => ?_)
  have KZ := Lib.hid (CC.out _ gK.out).2
  clear hK K hHeld gK
  refine wpAnyH_done (by kernel_rfl) ?_ _
  go_wp2_with fail
  go_ret
  exact ⟨rfl, KZ.out.out⟩

end Go.Proofs.YtljjbdbgedmadaaGreatDoor
