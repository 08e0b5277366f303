/- The reference's motions (Apply), and its arcs (Arc). Condition: coordinates of at most 2^26. -/
import Derived.Test.YtljjbdbgedmadaaGreatDoorNe
import Derived.Test.YtljjbdbgedmadaaGreatDoorPlA
namespace Go.Proofs.YtljjbdbgedmadaaGreatDoor
open Go.RowKit

theorem turn_abs (t : Int) (p : Pl.Pt) (h1 : Mid p.x) (h2 : Mid p.y) : Mid (Pl.turn t p).x ∧ Mid (Pl.turn t p).y := by
  unfold Mid Pl.turn at *
  split
  · exact ⟨by dsimp only; omega, by dsimp only; omega⟩
  · split
    · exact ⟨by dsimp only; omega, by dsimp only; omega⟩
    · split
      · exact ⟨by dsimp only; omega, by dsimp only; omega⟩
      · exact ⟨h1, h2⟩
theorem neg_mid {x : Int} (m : Bool) (h : Mid x) : Mid (if m then -x else x) := by unfold Mid at *; split <;> omega
set_option maxHeartbeats 4000000 in
set_option maxRecDepth 100000 in
theorem rapply_any (ax ay px py t : Int) (m : Bool) (w : World) (h1 : Mid ax) (h2 : Mid ay) (h3 : Mid px) (h4 : Mid py) :
    Calls Tryz.prog 136 #[.agg #[.int .i64 ax, .int .i64 ay, .int .i64 t, .bool m], .agg #[.int .i64 px, .int .i64 py]] w fun E w' => E = .returned (.agg #[.int .i64 (Pl.apply ⟨⟨ax, ay⟩, t, m⟩ ⟨px, py⟩).x, .int .i64 (Pl.apply ⟨⟨ax, ay⟩, t, m⟩ ⟨px, py⟩).y]) ∧ Kp w w' none := by
  have ht := turn_abs t ⟨if m then -px else px, py⟩ (neg_mid m h3) h4
  have HM : Mid px ∧ Mid (if m then -px else px) ∧ Mid py ∧ Mid (Pl.turn t ⟨if m then -px else px, py⟩).x ∧ Mid (Pl.turn t ⟨if m then -px else px, py⟩).y ∧ Mid ax ∧ Mid ay := ⟨h3, neg_mid m h3, h4, ht.1, ht.2, h1, h2⟩
  have H1 := Lib.hid (fun V => mirrored_any px py m V HM.1)
  have H2 := Lib.hid (fun V => turned_any (if m then -px else px) py t V HM.2.1 HM.2.2.1)
  have H3 := Lib.hid (fun V => radd_any _ _ _ _ V HM.2.2.2.1 HM.2.2.2.2.1 HM.2.2.2.2.2.1 HM.2.2.2.2.2.2)
  clear h1 h2 h3 h4 ht HM
  unfold Pl.apply Pl.add
  dsimp only
  generalize (Pl.turn t ⟨if m then -px else px, py⟩).x = tx at *
  generalize (Pl.turn t ⟨if m then -px else px, py⟩).y = ty at *
  generalize (if m then -px else px) = mx at *
  go_enter Tryz.func136, Tryz.ntmps136
  go_wp2_with fail
  have HB0 : Hid ((((w.alloc (Obj.cells #[.int .i64 ax, .int .i64 ay, .int .i64 t, .bool m] 44)).alloc (Obj.cells #[.int .i64 px, .int .i64 py] 42)).alloc (Obj.cells #[.int .i64 0, .int .i64 0] 42)).heap[w.heap.size]? = some (.cells #[.int .i64 ax, .int .i64 ay, .int .i64 t, .bool m] 44 (0, 0))) := Lib.hid (by rw [Below.heap_alloc _ _ _ (by simp; omega), Below.heap_alloc _ _ _ (by simp)]; exact heap_alloc_new _ _)
  have HB1 : Hid ((((w.alloc (Obj.cells #[.int .i64 ax, .int .i64 ay, .int .i64 t, .bool m] 44)).alloc (Obj.cells #[.int .i64 px, .int .i64 py] 42)).alloc (Obj.cells #[.int .i64 0, .int .i64 0] 42)).heap[w.heap.size + 1]? = some (.cells #[.int .i64 px, .int .i64 py] 42 (0, 0))) := Lib.hid (by rw [Below.heap_alloc _ _ _ (by simp)]; have h := heap_alloc_new (w.alloc (Obj.cells #[.int .i64 ax, .int .i64 ay, .int .i64 t, .bool m] 44)) (Obj.cells #[.int .i64 px, .int .i64 py] 42); simpa using h)
  have HRES : Hid ((((w.alloc (Obj.cells #[.int .i64 ax, .int .i64 ay, .int .i64 t, .bool m] 44)).alloc (Obj.cells #[.int .i64 px, .int .i64 py] 42)).alloc (Obj.cells #[.int .i64 0, .int .i64 0] 42)).heap[w.heap.size + 1 + 1]? = some (.cells #[.int .i64 0, .int .i64 0] 42 (0, 0))) := Lib.hid (by have h := heap_alloc_new ((w.alloc (Obj.cells #[.int .i64 ax, .int .i64 ay, .int .i64 t, .bool m] 44)).alloc (Obj.cells #[.int .i64 px, .int .i64 py] 42)) (Obj.cells #[.int .i64 0, .int .i64 0] 42); simpa using h)
  have KB : Hid (Kp w (((w.alloc (Obj.cells #[.int .i64 ax, .int .i64 ay, .int .i64 t, .bool m] 44)).alloc (Obj.cells #[.int .i64 px, .int .i64 py] 42)).alloc (Obj.cells #[.int .i64 0, .int .i64 0] 42)) none) := Lib.hid ((((Kp.refl w none).alloc _).alloc _).alloc _)
  generalize hBB : ((w.alloc (Obj.cells #[.int .i64 ax, .int .i64 ay, .int .i64 t, .bool m] 44)).alloc (Obj.cells #[.int .i64 px, .int .i64 py] 42)).alloc (Obj.cells #[.int .i64 0, .int .i64 0] 42) = BB at *
  clear hBB
  refine wp_region_held_drew (S := fun V => V.cell? ⟨w.heap.size, 0, none⟩ = some (.int .i64 ax) ∧ V.cell? ⟨w.heap.size, 1, none⟩ = some (.int .i64 ay) ∧ V.cell? ⟨w.heap.size, 2, none⟩ = some (.int .i64 t) ∧ V.cell? ⟨w.heap.size, 3, none⟩ = some (.bool m) ∧ V.cell? ⟨(w.heap.size + 1), 0, none⟩ = some (.int .i64 px) ∧ V.cell? ⟨(w.heap.size + 1), 1, none⟩ = some (.int .i64 py) ∧ Hid (∃ y0 y1, V.heap[w.heap.size + 1 + 1]? = some (.cells #[y0, y1] 42 (0, 0))) ∧ Hid (Kp BB V (some (w.heap.size + 1 + 1)))) (by kernel_rfl) ?_ (fun hHeld => ?_)
  · exact ⟨ckr HB0.out ((Kp.refl BB (some (w.heap.size + 1 + 1))).drew) (by simp <;> omega) 0 rfl, ckr HB0.out ((Kp.refl BB (some (w.heap.size + 1 + 1))).drew) (by simp <;> omega) 1 rfl, ckr HB0.out ((Kp.refl BB (some (w.heap.size + 1 + 1))).drew) (by simp <;> omega) 2 rfl, ckr HB0.out ((Kp.refl BB (some (w.heap.size + 1 + 1))).drew) (by simp <;> omega) 3 rfl, ckr HB1.out ((Kp.refl BB (some (w.heap.size + 1 + 1))).drew) (by simp <;> omega) 0 rfl, ckr HB1.out ((Kp.refl BB (some (w.heap.size + 1 + 1))).drew) (by simp <;> omega) 1 rfl, Lib.hid ⟨_, _, HRES.out⟩, Lib.hid ((Kp.refl BB (some (w.heap.size + 1 + 1))).drew)⟩
  refine tkH 0 rfl ?_
  try simp only [Act.put, sm]
  refine tkH 1 rfl ?_
  try simp only [Act.put, sm]
  refine tkH 2 rfl ?_
  try simp only [Act.put, sm]
  refine tkH 4 rfl ?_
  try simp only [Act.put, sm]
  refine tkH 5 rfl ?_
  try simp only [Act.put, sm]
  refine tkH 7 rfl ?_
  try simp only [Act.put, sm]
  refine tkH 8 rfl ?_
  try simp only [Act.put, sm]
  refine wpAnyH_ready (rs := [3]) (by kernel_rfl) (by simp) ?_
  refine AllReadyH.cons (o := _) rfl (fun K hK => ?_) AllReadyH.nil
  have gK := hHeld.2.2.2.2.2.2.2
  have gT := hHeld.2.2.2.2.2.2.1
  clear hHeld
  go_simp
  refine (H1.out _).mono ?_
  rintro e w23 ⟨rfl, kk⟩
  try go_wp2_with fail
  refine hK.out _ _ ?_ (fun hHeld => ?_)
  · exact ⟨ckr HB0.out (gK.out.trans (kk.weak _)) (by simp <;> omega) 0 rfl, ckr HB0.out (gK.out.trans (kk.weak _)) (by simp <;> omega) 1 rfl, ckr HB0.out (gK.out.trans (kk.weak _)) (by simp <;> omega) 2 rfl, ckr HB0.out (gK.out.trans (kk.weak _)) (by simp <;> omega) 3 rfl, ckr HB1.out (gK.out.trans (kk.weak _)) (by simp <;> omega) 0 rfl, ckr HB1.out (gK.out.trans (kk.weak _)) (by simp <;> omega) 1 rfl, Lib.hid (by obtain ⟨y0, y1, h⟩ := gT.out; exact ⟨y0, y1, (kk.block _ (lt_of_block h) (by simp)).trans h⟩), Lib.hid (gK.out.trans (kk.weak _))⟩
  clear hK K gK
  try simp only [Act.put, sm]
  refine wpAnyH_ready (rs := [6]) (by kernel_rfl) (by simp) ?_
  refine AllReadyH.cons (o := _) rfl (fun K hK => ?_) AllReadyH.nil
  have gK := hHeld.2.2.2.2.2.2.2
  have gT := hHeld.2.2.2.2.2.2.1
  clear hHeld
  go_simp
  refine (H2.out _).mono ?_
  rintro e w26 ⟨rfl, kk⟩
  try go_wp2_with fail
  refine hK.out _ _ ?_ (fun hHeld => ?_)
  · exact ⟨ckr HB0.out (gK.out.trans (kk.weak _)) (by simp <;> omega) 0 rfl, ckr HB0.out (gK.out.trans (kk.weak _)) (by simp <;> omega) 1 rfl, ckr HB0.out (gK.out.trans (kk.weak _)) (by simp <;> omega) 2 rfl, ckr HB0.out (gK.out.trans (kk.weak _)) (by simp <;> omega) 3 rfl, ckr HB1.out (gK.out.trans (kk.weak _)) (by simp <;> omega) 0 rfl, ckr HB1.out (gK.out.trans (kk.weak _)) (by simp <;> omega) 1 rfl, Lib.hid (by obtain ⟨y0, y1, h⟩ := gT.out; exact ⟨y0, y1, (kk.block _ (lt_of_block h) (by simp)).trans h⟩), Lib.hid (gK.out.trans (kk.weak _))⟩
  clear hK K gK
  try simp only [Act.put, sm]
  refine wpAnyH_ready (rs := [9]) (by kernel_rfl) (by simp) ?_
  refine AllReadyH.cons (o := _) rfl (fun K hK => ?_) AllReadyH.nil
  have gK := hHeld.2.2.2.2.2.2.2
  have gT := hHeld.2.2.2.2.2.2.1
  clear hHeld
  go_simp
  refine (H3.out _).mono ?_
  rintro e w29 ⟨rfl, kk⟩
  try go_wp2_with fail
  refine hK.out _ _ ?_ (fun hHeld => ?_)
  · exact ⟨ckr HB0.out (gK.out.trans (kk.weak _)) (by simp <;> omega) 0 rfl, ckr HB0.out (gK.out.trans (kk.weak _)) (by simp <;> omega) 1 rfl, ckr HB0.out (gK.out.trans (kk.weak _)) (by simp <;> omega) 2 rfl, ckr HB0.out (gK.out.trans (kk.weak _)) (by simp <;> omega) 3 rfl, ckr HB1.out (gK.out.trans (kk.weak _)) (by simp <;> omega) 0 rfl, ckr HB1.out (gK.out.trans (kk.weak _)) (by simp <;> omega) 1 rfl, Lib.hid (by obtain ⟨y0, y1, h⟩ := gT.out; exact ⟨y0, y1, (kk.block _ (lt_of_block h) (by simp)).trans h⟩), Lib.hid (gK.out.trans (kk.weak _))⟩
  clear hK K gK
  try simp only [Act.put, sm]
  refine wpAnyH_ready (rs := [10]) (by kernel_rfl) (by simp) ?_
  refine AllReadyH.cons (o := _) rfl (fun K hK => ?_) AllReadyH.nil
  have gK := hHeld.2.2.2.2.2.2.2
  obtain ⟨y0, y1, gh⟩ := hHeld.2.2.2.2.2.2.1.out
  have GH := Lib.hid gh
  have f0 := Lib.frozen_of_heap gh 0
  have f1 := Lib.frozen_of_heap gh 1
  have c0 := Lib.cell_of_heap gh 0
  have c1 := Lib.cell_of_heap gh 1
  simp at c0 c1
  clear hHeld gh
  go_simp
  try go_wp2_with fail
  have h1 := heap_set (o := 0) (v := .int .i64 (tx + ax)) GH.out
  have h2 := heap_set (o := 1) (v := .int .i64 (ty + ay)) h1
  have kk := (((Kp.refl w29 (some (w.heap.size + 1 + 1))).set (o := 0) (.int .i64 (tx + ax))).set (o := 1) (.int .i64 (ty + ay)))
  refine hK.out _ _ ?_ (fun hHeld => ?_)
  · exact ⟨ckr HB0.out (gK.out.trans kk) (by simp <;> omega) 0 rfl, ckr HB0.out (gK.out.trans kk) (by simp <;> omega) 1 rfl, ckr HB0.out (gK.out.trans kk) (by simp <;> omega) 2 rfl, ckr HB0.out (gK.out.trans kk) (by simp <;> omega) 3 rfl, ckr HB1.out (gK.out.trans kk) (by simp <;> omega) 0 rfl, ckr HB1.out (gK.out.trans kk) (by simp <;> omega) 1 rfl, Lib.hid ⟨_, _, h2⟩, Lib.hid (gK.out.trans kk)⟩
  have q0 := Lib.cell_of_heap h2 0
  have q1 := Lib.cell_of_heap h2 1
  simp at q0 q1
  have KF := Lib.hid (KB.out.of_own (gK.out.trans kk) (by omega))
  clear hK K hHeld h1 h2 kk f0 f1 c0 c1 gK
  generalize ((w29.setCell ⟨w.heap.size + 1 + 1, 0, none⟩ (.int .i64 (tx + ax))).setCell ⟨w.heap.size + 1 + 1, 1, none⟩ (.int .i64 (ty + ay))) = wf at *
  refine wpAnyH_done (by kernel_rfl) ?_ _
  go_wp2_with fail
  exact bodyPost_ret (v := .agg #[.int .i64 (tx + ax), .int .i64 (ty + ay)]) (by simp [results, Tryz.results136, go_sem, q0, q1]) rfl ⟨rfl, KF.out⟩

set_option maxHeartbeats 4000000 in
set_option maxRecDepth 100000 in
theorem rarc_any (cx cy r t k : Int) (w : World) (h1 : Mid cx) (h2 : Mid cy) (h3 : 0 ≤ r ∧ r ≤ 1000000) (h4 : -1000 ≤ t ∧ t ≤ 1000) :
    Calls Tryz.prog 112 #[.agg #[.int .i64 cx, .int .i64 cy], .int .i64 r, .int .i64 t, .int .i64 k] w fun E w' => E = .returned (.agg #[.int .i64 k, .int .i64 (Pl.arc ⟨cx, cy⟩ r t k).a.x, .int .i64 (Pl.arc ⟨cx, cy⟩ r t k).a.y, .int .i64 (Pl.arc ⟨cx, cy⟩ r t k).b.x, .int .i64 (Pl.arc ⟨cx, cy⟩ r t k).b.y, .int .i64 cx, .int .i64 cy]) ∧ Kp w w' none := by
  have HA := Lib.hid (fun t V => rapply_any 0 0 r 0 t false V (by unfold Mid; omega) (by unfold Mid; omega) (by unfold Mid; omega) (by unfold Mid; omega))
  have hw1 : wrap64 (t + 1) = t + 1 := wrap_mid (by omega) (by omega)
  have hw3 : wrap64 (t + 3) = t + 3 := wrap_mid (by omega) (by omega)
  have e0 : ∀ t, Pl.apply ⟨⟨0, 0⟩, t, false⟩ ⟨r, 0⟩ = Pl.turn t ⟨r, 0⟩ := fun t => by unfold Pl.apply Pl.add; simp
  simp only [e0] at HA
  have hm : ∀ t, Mid (Pl.turn t ⟨r, 0⟩).x ∧ Mid (Pl.turn t ⟨r, 0⟩).y := fun t => turn_abs t _ (by unfold Mid; dsimp only; omega) (by unfold Mid; dsimp only; omega)
  have HD := Lib.hid (fun t V => radd_any cx cy _ _ V h1 h2 (hm t).1 (hm t).2)
  unfold Pl.arc Pl.add
  dsimp only
  clear e0 hm h1 h2 h3 h4
  by_cases hk : k = 3
  · have hk' : (k == 3) = true := by simpa using hk
    rw [if_pos hk]
    clear hk
    have HA1 := Lib.hid (HA.out t)
    have HA2 := Lib.hid (HA.out (t + 3))
    have HD1 := Lib.hid (HD.out t)
    have HD2 := Lib.hid (HD.out (t + 3))
    clear HA HD
    generalize (Pl.turn t ⟨r, 0⟩).x = ax at *
    generalize (Pl.turn t ⟨r, 0⟩).y = ay at *
    generalize (Pl.turn (t + 3) ⟨r, 0⟩).x = bx at *
    generalize (Pl.turn (t + 3) ⟨r, 0⟩).y = bY at *
    go_enter Tryz.func112, Tryz.ntmps112
    go_wp2_with fail
    have HW0 := Lib.hid (heap_alloc_new w (Obj.cells #[.int .i64 cx, .int .i64 cy] 42))
    have HW1 : Hid (((w.alloc (Obj.cells #[.int .i64 cx, .int .i64 cy] 42)).alloc (Obj.cells #[.int .i64 0, .int .i64 0, .int .i64 0, .int .i64 0, .int .i64 0, .int .i64 0, .int .i64 0] 123)).heap[w.heap.size + 1]? = some (.cells #[.int .i64 0, .int .i64 0, .int .i64 0, .int .i64 0, .int .i64 0, .int .i64 0, .int .i64 0] 123 (0, 0))) := Lib.hid (by have h := heap_alloc_new (w.alloc (Obj.cells #[.int .i64 cx, .int .i64 cy] 42)) (Obj.cells #[.int .i64 0, .int .i64 0, .int .i64 0, .int .i64 0, .int .i64 0, .int .i64 0, .int .i64 0] 123); simpa using h)
    refine (HA1.out _).mono ?_
    rintro e w1 ⟨rfl, k1⟩
    have K1 := Lib.hid k1
    have hs1 : w.heap.size + 2 ≤ w1.heap.size := by have := k1.size; simpa using this
    clear k1
    go_wp2_with fail
    refine (HA2.out _).mono ?_
    rintro e w2 ⟨rfl, k2⟩
    have K2 := Lib.hid k2
    have hs2 : w1.heap.size + 1 ≤ w2.heap.size := by have := k2.size; simpa using this
    clear k2
    go_wp2_with fail
    have KA := Lib.hid (((K1.out.alloc _).trans K2.out).alloc (Obj.cells #[.int .i64 bx, .int .i64 bY] 42))
    have HB0 := Lib.hid (blk (blk HW0.out ((Kp.refl _ none).alloc _)) KA.out)
    have HRES := Lib.hid (blk HW1.out KA.out)
    have HB1 := Lib.hid (blk (heap_alloc_new w1 (Obj.cells #[.int .i64 ax, .int .i64 ay] 42)) (K2.out.alloc (Obj.cells #[.int .i64 bx, .int .i64 bY] 42)))
    have HB2 := Lib.hid (heap_alloc_new w2 (Obj.cells #[.int .i64 bx, .int .i64 bY] 42))
    have KB : Hid (Kp w _ none) := Lib.hid ((((Kp.refl w none).alloc _).alloc _).trans KA.out)
    clear KA HW0 HW1 K1 K2
    generalize (w2.alloc (Obj.cells #[.int .i64 bx, .int .i64 bY] 42)) = BB at *
    refine wp_region_held_drew (S := fun V => V.cell? ⟨w.heap.size, 0, none⟩ = some (.int .i64 cx) ∧ V.cell? ⟨w.heap.size, 1, none⟩ = some (.int .i64 cy) ∧ V.cell? ⟨w1.heap.size, 0, none⟩ = some (.int .i64 ax) ∧ V.cell? ⟨w1.heap.size, 1, none⟩ = some (.int .i64 ay) ∧ V.cell? ⟨w2.heap.size, 0, none⟩ = some (.int .i64 bx) ∧ V.cell? ⟨w2.heap.size, 1, none⟩ = some (.int .i64 bY) ∧ Hid (∃ y0 y1 y2 y3 y4 y5 y6, V.heap[w.heap.size + 1]? = some (.cells #[y0, y1, y2, y3, y4, y5, y6] 123 (0, 0))) ∧ Hid (Kp BB V (some (w.heap.size + 1)))) (by kernel_rfl) ?_ (fun hHeld => ?_)
    · exact ⟨ckr HB0.out ((Kp.refl BB (some (w.heap.size + 1))).drew) (by simp <;> omega) 0 rfl, ckr HB0.out ((Kp.refl BB (some (w.heap.size + 1))).drew) (by simp <;> omega) 1 rfl, ckr HB1.out ((Kp.refl BB (some (w.heap.size + 1))).drew) (by simp <;> omega) 0 rfl, ckr HB1.out ((Kp.refl BB (some (w.heap.size + 1))).drew) (by simp <;> omega) 1 rfl, ckr HB2.out ((Kp.refl BB (some (w.heap.size + 1))).drew) (by simp <;> omega) 0 rfl, ckr HB2.out ((Kp.refl BB (some (w.heap.size + 1))).drew) (by simp <;> omega) 1 rfl, Lib.hid ⟨_, _, _, _, _, _, _, HRES.out⟩, Lib.hid ((Kp.refl BB (some (w.heap.size + 1))).drew)⟩
    refine tkH 0 rfl ?_
    try simp only [Act.put, sm]
    refine tkH 1 rfl ?_
    try simp only [Act.put, sm]
    refine tkH 2 rfl ?_
    try simp only [Act.put, sm]
    refine tkH 4 rfl ?_
    try simp only [Act.put, sm]
    refine tkH 5 rfl ?_
    try simp only [Act.put, sm]
    refine tkH 7 rfl ?_
    try simp only [Act.put, sm]
    refine wpAnyH_ready (rs := [3]) (by kernel_rfl) (by simp) ?_
    refine AllReadyH.cons (o := _) rfl (fun K hK => ?_) AllReadyH.nil
    have gK := hHeld.2.2.2.2.2.2.2
    have gT := hHeld.2.2.2.2.2.2.1
    clear hHeld
    go_simp
    refine (HD1.out _).mono ?_
    rintro e w23 ⟨rfl, kk⟩
    try go_wp2_with fail
    refine hK.out _ _ ?_ (fun hHeld => ?_)
    · exact ⟨ckr HB0.out (gK.out.trans (kk.weak _)) (by simp <;> omega) 0 rfl, ckr HB0.out (gK.out.trans (kk.weak _)) (by simp <;> omega) 1 rfl, ckr HB1.out (gK.out.trans (kk.weak _)) (by simp <;> omega) 0 rfl, ckr HB1.out (gK.out.trans (kk.weak _)) (by simp <;> omega) 1 rfl, ckr HB2.out (gK.out.trans (kk.weak _)) (by simp <;> omega) 0 rfl, ckr HB2.out (gK.out.trans (kk.weak _)) (by simp <;> omega) 1 rfl, Lib.hid (by obtain ⟨y0, y1, y2, y3, y4, y5, y6, h⟩ := gT.out; exact ⟨y0, y1, y2, y3, y4, y5, y6, (kk.block _ (lt_of_block h) (by simp)).trans h⟩), Lib.hid (gK.out.trans (kk.weak _))⟩
    clear hK K gK
    try simp only [Act.put, sm]
    refine wpAnyH_ready (rs := [6]) (by kernel_rfl) (by simp) ?_
    refine AllReadyH.cons (o := _) rfl (fun K hK => ?_) AllReadyH.nil
    have gK := hHeld.2.2.2.2.2.2.2
    have gT := hHeld.2.2.2.2.2.2.1
    clear hHeld
    go_simp
    refine (HD2.out _).mono ?_
    rintro e w26 ⟨rfl, kk⟩
    try go_wp2_with fail
    refine hK.out _ _ ?_ (fun hHeld => ?_)
    · exact ⟨ckr HB0.out (gK.out.trans (kk.weak _)) (by simp <;> omega) 0 rfl, ckr HB0.out (gK.out.trans (kk.weak _)) (by simp <;> omega) 1 rfl, ckr HB1.out (gK.out.trans (kk.weak _)) (by simp <;> omega) 0 rfl, ckr HB1.out (gK.out.trans (kk.weak _)) (by simp <;> omega) 1 rfl, ckr HB2.out (gK.out.trans (kk.weak _)) (by simp <;> omega) 0 rfl, ckr HB2.out (gK.out.trans (kk.weak _)) (by simp <;> omega) 1 rfl, Lib.hid (by obtain ⟨y0, y1, y2, y3, y4, y5, y6, h⟩ := gT.out; exact ⟨y0, y1, y2, y3, y4, y5, y6, (kk.block _ (lt_of_block h) (by simp)).trans h⟩), Lib.hid (gK.out.trans (kk.weak _))⟩
    clear hK K gK
    try simp only [Act.put, sm]
    refine tkH 8 rfl ?_
    try simp only [Act.put, sm]
    refine wpAnyH_ready (rs := [9]) (by kernel_rfl) (by simp) ?_
    refine AllReadyH.cons (o := _) rfl (fun K hK => ?_) AllReadyH.nil
    have gK := hHeld.2.2.2.2.2.2.2
    obtain ⟨y0, y1, y2, y3, y4, y5, y6, gh⟩ := hHeld.2.2.2.2.2.2.1.out
    have GH := Lib.hid gh
    have f0 := Lib.frozen_of_heap gh 0
    have f1 := Lib.frozen_of_heap gh 1
    have f2 := Lib.frozen_of_heap gh 2
    have f3 := Lib.frozen_of_heap gh 3
    have f4 := Lib.frozen_of_heap gh 4
    have f5 := Lib.frozen_of_heap gh 5
    have f6 := Lib.frozen_of_heap gh 6
    have c0 := Lib.cell_of_heap gh 0
    have c1 := Lib.cell_of_heap gh 1
    have c2 := Lib.cell_of_heap gh 2
    have c3 := Lib.cell_of_heap gh 3
    have c4 := Lib.cell_of_heap gh 4
    have c5 := Lib.cell_of_heap gh 5
    have c6 := Lib.cell_of_heap gh 6
    simp at c0 c1 c2 c3 c4 c5 c6
    clear hHeld gh
    go_simp
    try go_wp2_with fail
    have h1 := heap_set (o := 0) (v := .int .i64 k) GH.out
    have h2 := heap_set (o := 1) (v := .int .i64 (cx + ax)) h1
    have h3 := heap_set (o := 2) (v := .int .i64 (cy + ay)) h2
    have h4 := heap_set (o := 3) (v := .int .i64 (cx + bx)) h3
    have h5 := heap_set (o := 4) (v := .int .i64 (cy + bY)) h4
    have h6 := heap_set (o := 5) (v := .int .i64 cx) h5
    have h7 := heap_set (o := 6) (v := .int .i64 cy) h6
    have kk := ((((((((Kp.refl w26 (some (w.heap.size + 1))).set (o := 0) (.int .i64 k)).set (o := 1) (.int .i64 (cx + ax))).set (o := 2) (.int .i64 (cy + ay))).set (o := 3) (.int .i64 (cx + bx))).set (o := 4) (.int .i64 (cy + bY))).set (o := 5) (.int .i64 cx)).set (o := 6) (.int .i64 cy))
    refine hK.out _ _ ?_ (fun hHeld => ?_)
    · exact ⟨ckr HB0.out (gK.out.trans kk) (by simp <;> omega) 0 rfl, ckr HB0.out (gK.out.trans kk) (by simp <;> omega) 1 rfl, ckr HB1.out (gK.out.trans kk) (by simp <;> omega) 0 rfl, ckr HB1.out (gK.out.trans kk) (by simp <;> omega) 1 rfl, ckr HB2.out (gK.out.trans kk) (by simp <;> omega) 0 rfl, ckr HB2.out (gK.out.trans kk) (by simp <;> omega) 1 rfl, Lib.hid ⟨_, _, _, _, _, _, _, h7⟩, Lib.hid (gK.out.trans kk)⟩
    have q0 := Lib.cell_of_heap h7 0
    have q1 := Lib.cell_of_heap h7 1
    have q2 := Lib.cell_of_heap h7 2
    have q3 := Lib.cell_of_heap h7 3
    have q4 := Lib.cell_of_heap h7 4
    have q5 := Lib.cell_of_heap h7 5
    have q6 := Lib.cell_of_heap h7 6
    simp at q0 q1 q2 q3 q4 q5 q6
    have KF := Lib.hid (KB.out.of_own (gK.out.trans kk) (by omega))
    clear hK K hHeld h1 h2 h3 h4 h5 h6 h7 kk f0 f1 f2 f3 f4 f5 f6 c0 c1 c2 c3 c4 c5 c6 gK
    generalize (((((((w26.setCell ⟨w.heap.size + 1, 0, none⟩ (.int .i64 k)).setCell ⟨w.heap.size + 1, 1, none⟩ (.int .i64 (cx + ax))).setCell ⟨w.heap.size + 1, 2, none⟩ (.int .i64 (cy + ay))).setCell ⟨w.heap.size + 1, 3, none⟩ (.int .i64 (cx + bx))).setCell ⟨w.heap.size + 1, 4, none⟩ (.int .i64 (cy + bY))).setCell ⟨w.heap.size + 1, 5, none⟩ (.int .i64 cx)).setCell ⟨w.heap.size + 1, 6, none⟩ (.int .i64 cy)) = wf at *
    refine wpAnyH_done (by kernel_rfl) ?_ _
    go_wp2_with fail
    exact bodyPost_ret (v := .agg #[.int .i64 k, .int .i64 (cx + ax), .int .i64 (cy + ay), .int .i64 (cx + bx), .int .i64 (cy + bY), .int .i64 cx, .int .i64 cy]) (by simp [results, Tryz.results112, go_sem, q0, q1, q2, q3, q4, q5, q6]) rfl ⟨rfl, KF.out⟩
  · have hk' : (k == 3) = false := by simpa using hk
    rw [if_neg hk]
    clear hk
    have HA1 := Lib.hid (HA.out t)
    have HA2 := Lib.hid (HA.out (t + 1))
    have HD1 := Lib.hid (HD.out t)
    have HD2 := Lib.hid (HD.out (t + 1))
    clear HA HD
    generalize (Pl.turn t ⟨r, 0⟩).x = ax at *
    generalize (Pl.turn t ⟨r, 0⟩).y = ay at *
    generalize (Pl.turn (t + 1) ⟨r, 0⟩).x = bx at *
    generalize (Pl.turn (t + 1) ⟨r, 0⟩).y = bY at *
    go_enter Tryz.func112, Tryz.ntmps112
    go_wp2_with fail
    have HW0 := Lib.hid (heap_alloc_new w (Obj.cells #[.int .i64 cx, .int .i64 cy] 42))
    have HW1 : Hid (((w.alloc (Obj.cells #[.int .i64 cx, .int .i64 cy] 42)).alloc (Obj.cells #[.int .i64 0, .int .i64 0, .int .i64 0, .int .i64 0, .int .i64 0, .int .i64 0, .int .i64 0] 123)).heap[w.heap.size + 1]? = some (.cells #[.int .i64 0, .int .i64 0, .int .i64 0, .int .i64 0, .int .i64 0, .int .i64 0, .int .i64 0] 123 (0, 0))) := Lib.hid (by have h := heap_alloc_new (w.alloc (Obj.cells #[.int .i64 cx, .int .i64 cy] 42)) (Obj.cells #[.int .i64 0, .int .i64 0, .int .i64 0, .int .i64 0, .int .i64 0, .int .i64 0, .int .i64 0] 123); simpa using h)
    refine (HA1.out _).mono ?_
    rintro e w1 ⟨rfl, k1⟩
    have K1 := Lib.hid k1
    have hs1 : w.heap.size + 2 ≤ w1.heap.size := by have := k1.size; simpa using this
    clear k1
    go_wp2_with fail
    refine (HA2.out _).mono ?_
    rintro e w2 ⟨rfl, k2⟩
    have K2 := Lib.hid k2
    have hs2 : w1.heap.size + 1 ≤ w2.heap.size := by have := k2.size; simpa using this
    clear k2
    go_wp2_with fail
    have KA := Lib.hid (((K1.out.alloc _).trans K2.out).alloc (Obj.cells #[.int .i64 bx, .int .i64 bY] 42))
    have HB0 := Lib.hid (blk (blk HW0.out ((Kp.refl _ none).alloc _)) KA.out)
    have HRES := Lib.hid (blk HW1.out KA.out)
    have HB1 := Lib.hid (blk (heap_alloc_new w1 (Obj.cells #[.int .i64 ax, .int .i64 ay] 42)) (K2.out.alloc (Obj.cells #[.int .i64 bx, .int .i64 bY] 42)))
    have HB2 := Lib.hid (heap_alloc_new w2 (Obj.cells #[.int .i64 bx, .int .i64 bY] 42))
    have KB : Hid (Kp w _ none) := Lib.hid ((((Kp.refl w none).alloc _).alloc _).trans KA.out)
    clear KA HW0 HW1 K1 K2
    generalize (w2.alloc (Obj.cells #[.int .i64 bx, .int .i64 bY] 42)) = BB at *
    refine wp_region_held_drew (S := fun V => V.cell? ⟨w.heap.size, 0, none⟩ = some (.int .i64 cx) ∧ V.cell? ⟨w.heap.size, 1, none⟩ = some (.int .i64 cy) ∧ V.cell? ⟨w1.heap.size, 0, none⟩ = some (.int .i64 ax) ∧ V.cell? ⟨w1.heap.size, 1, none⟩ = some (.int .i64 ay) ∧ V.cell? ⟨w2.heap.size, 0, none⟩ = some (.int .i64 bx) ∧ V.cell? ⟨w2.heap.size, 1, none⟩ = some (.int .i64 bY) ∧ Hid (∃ y0 y1 y2 y3 y4 y5 y6, V.heap[w.heap.size + 1]? = some (.cells #[y0, y1, y2, y3, y4, y5, y6] 123 (0, 0))) ∧ Hid (Kp BB V (some (w.heap.size + 1)))) (by kernel_rfl) ?_ (fun hHeld => ?_)
    · exact ⟨ckr HB0.out ((Kp.refl BB (some (w.heap.size + 1))).drew) (by simp <;> omega) 0 rfl, ckr HB0.out ((Kp.refl BB (some (w.heap.size + 1))).drew) (by simp <;> omega) 1 rfl, ckr HB1.out ((Kp.refl BB (some (w.heap.size + 1))).drew) (by simp <;> omega) 0 rfl, ckr HB1.out ((Kp.refl BB (some (w.heap.size + 1))).drew) (by simp <;> omega) 1 rfl, ckr HB2.out ((Kp.refl BB (some (w.heap.size + 1))).drew) (by simp <;> omega) 0 rfl, ckr HB2.out ((Kp.refl BB (some (w.heap.size + 1))).drew) (by simp <;> omega) 1 rfl, Lib.hid ⟨_, _, _, _, _, _, _, HRES.out⟩, Lib.hid ((Kp.refl BB (some (w.heap.size + 1))).drew)⟩
    refine tkH 0 rfl ?_
    try simp only [Act.put, sm]
    refine tkH 1 rfl ?_
    try simp only [Act.put, sm]
    refine tkH 2 rfl ?_
    try simp only [Act.put, sm]
    refine tkH 4 rfl ?_
    try simp only [Act.put, sm]
    refine tkH 5 rfl ?_
    try simp only [Act.put, sm]
    refine tkH 7 rfl ?_
    try simp only [Act.put, sm]
    refine wpAnyH_ready (rs := [3]) (by kernel_rfl) (by simp) ?_
    refine AllReadyH.cons (o := _) rfl (fun K hK => ?_) AllReadyH.nil
    have gK := hHeld.2.2.2.2.2.2.2
    have gT := hHeld.2.2.2.2.2.2.1
    clear hHeld
    go_simp
    refine (HD1.out _).mono ?_
    rintro e w23 ⟨rfl, kk⟩
    try go_wp2_with fail
    refine hK.out _ _ ?_ (fun hHeld => ?_)
    · exact ⟨ckr HB0.out (gK.out.trans (kk.weak _)) (by simp <;> omega) 0 rfl, ckr HB0.out (gK.out.trans (kk.weak _)) (by simp <;> omega) 1 rfl, ckr HB1.out (gK.out.trans (kk.weak _)) (by simp <;> omega) 0 rfl, ckr HB1.out (gK.out.trans (kk.weak _)) (by simp <;> omega) 1 rfl, ckr HB2.out (gK.out.trans (kk.weak _)) (by simp <;> omega) 0 rfl, ckr HB2.out (gK.out.trans (kk.weak _)) (by simp <;> omega) 1 rfl, Lib.hid (by obtain ⟨y0, y1, y2, y3, y4, y5, y6, h⟩ := gT.out; exact ⟨y0, y1, y2, y3, y4, y5, y6, (kk.block _ (lt_of_block h) (by simp)).trans h⟩), Lib.hid (gK.out.trans (kk.weak _))⟩
    clear hK K gK
    try simp only [Act.put, sm]
    refine wpAnyH_ready (rs := [6]) (by kernel_rfl) (by simp) ?_
    refine AllReadyH.cons (o := _) rfl (fun K hK => ?_) AllReadyH.nil
    have gK := hHeld.2.2.2.2.2.2.2
    have gT := hHeld.2.2.2.2.2.2.1
    clear hHeld
    go_simp
    refine (HD2.out _).mono ?_
    rintro e w26 ⟨rfl, kk⟩
    try go_wp2_with fail
    refine hK.out _ _ ?_ (fun hHeld => ?_)
    · exact ⟨ckr HB0.out (gK.out.trans (kk.weak _)) (by simp <;> omega) 0 rfl, ckr HB0.out (gK.out.trans (kk.weak _)) (by simp <;> omega) 1 rfl, ckr HB1.out (gK.out.trans (kk.weak _)) (by simp <;> omega) 0 rfl, ckr HB1.out (gK.out.trans (kk.weak _)) (by simp <;> omega) 1 rfl, ckr HB2.out (gK.out.trans (kk.weak _)) (by simp <;> omega) 0 rfl, ckr HB2.out (gK.out.trans (kk.weak _)) (by simp <;> omega) 1 rfl, Lib.hid (by obtain ⟨y0, y1, y2, y3, y4, y5, y6, h⟩ := gT.out; exact ⟨y0, y1, y2, y3, y4, y5, y6, (kk.block _ (lt_of_block h) (by simp)).trans h⟩), Lib.hid (gK.out.trans (kk.weak _))⟩
    clear hK K gK
    try simp only [Act.put, sm]
    refine tkH 8 rfl ?_
    try simp only [Act.put, sm]
    refine wpAnyH_ready (rs := [9]) (by kernel_rfl) (by simp) ?_
    refine AllReadyH.cons (o := _) rfl (fun K hK => ?_) AllReadyH.nil
    have gK := hHeld.2.2.2.2.2.2.2
    obtain ⟨y0, y1, y2, y3, y4, y5, y6, gh⟩ := hHeld.2.2.2.2.2.2.1.out
    have GH := Lib.hid gh
    have f0 := Lib.frozen_of_heap gh 0
    have f1 := Lib.frozen_of_heap gh 1
    have f2 := Lib.frozen_of_heap gh 2
    have f3 := Lib.frozen_of_heap gh 3
    have f4 := Lib.frozen_of_heap gh 4
    have f5 := Lib.frozen_of_heap gh 5
    have f6 := Lib.frozen_of_heap gh 6
    have c0 := Lib.cell_of_heap gh 0
    have c1 := Lib.cell_of_heap gh 1
    have c2 := Lib.cell_of_heap gh 2
    have c3 := Lib.cell_of_heap gh 3
    have c4 := Lib.cell_of_heap gh 4
    have c5 := Lib.cell_of_heap gh 5
    have c6 := Lib.cell_of_heap gh 6
    simp at c0 c1 c2 c3 c4 c5 c6
    clear hHeld gh
    go_simp
    try go_wp2_with fail
    have h1 := heap_set (o := 0) (v := .int .i64 k) GH.out
    have h2 := heap_set (o := 1) (v := .int .i64 (cx + ax)) h1
    have h3 := heap_set (o := 2) (v := .int .i64 (cy + ay)) h2
    have h4 := heap_set (o := 3) (v := .int .i64 (cx + bx)) h3
    have h5 := heap_set (o := 4) (v := .int .i64 (cy + bY)) h4
    have h6 := heap_set (o := 5) (v := .int .i64 cx) h5
    have h7 := heap_set (o := 6) (v := .int .i64 cy) h6
    have kk := ((((((((Kp.refl w26 (some (w.heap.size + 1))).set (o := 0) (.int .i64 k)).set (o := 1) (.int .i64 (cx + ax))).set (o := 2) (.int .i64 (cy + ay))).set (o := 3) (.int .i64 (cx + bx))).set (o := 4) (.int .i64 (cy + bY))).set (o := 5) (.int .i64 cx)).set (o := 6) (.int .i64 cy))
    refine hK.out _ _ ?_ (fun hHeld => ?_)
    · exact ⟨ckr HB0.out (gK.out.trans kk) (by simp <;> omega) 0 rfl, ckr HB0.out (gK.out.trans kk) (by simp <;> omega) 1 rfl, ckr HB1.out (gK.out.trans kk) (by simp <;> omega) 0 rfl, ckr HB1.out (gK.out.trans kk) (by simp <;> omega) 1 rfl, ckr HB2.out (gK.out.trans kk) (by simp <;> omega) 0 rfl, ckr HB2.out (gK.out.trans kk) (by simp <;> omega) 1 rfl, Lib.hid ⟨_, _, _, _, _, _, _, h7⟩, Lib.hid (gK.out.trans kk)⟩
    have q0 := Lib.cell_of_heap h7 0
    have q1 := Lib.cell_of_heap h7 1
    have q2 := Lib.cell_of_heap h7 2
    have q3 := Lib.cell_of_heap h7 3
    have q4 := Lib.cell_of_heap h7 4
    have q5 := Lib.cell_of_heap h7 5
    have q6 := Lib.cell_of_heap h7 6
    simp at q0 q1 q2 q3 q4 q5 q6
    have KF := Lib.hid (KB.out.of_own (gK.out.trans kk) (by omega))
    clear hK K hHeld h1 h2 h3 h4 h5 h6 h7 kk f0 f1 f2 f3 f4 f5 f6 c0 c1 c2 c3 c4 c5 c6 gK
    generalize (((((((w26.setCell ⟨w.heap.size + 1, 0, none⟩ (.int .i64 k)).setCell ⟨w.heap.size + 1, 1, none⟩ (.int .i64 (cx + ax))).setCell ⟨w.heap.size + 1, 2, none⟩ (.int .i64 (cy + ay))).setCell ⟨w.heap.size + 1, 3, none⟩ (.int .i64 (cx + bx))).setCell ⟨w.heap.size + 1, 4, none⟩ (.int .i64 (cy + bY))).setCell ⟨w.heap.size + 1, 5, none⟩ (.int .i64 cx)).setCell ⟨w.heap.size + 1, 6, none⟩ (.int .i64 cy)) = wf at *
    refine wpAnyH_done (by kernel_rfl) ?_ _
    go_wp2_with fail
    exact bodyPost_ret (v := .agg #[.int .i64 k, .int .i64 (cx + ax), .int .i64 (cy + ay), .int .i64 (cx + bx), .int .i64 (cy + bY), .int .i64 cx, .int .i64 cy]) (by simp [results, Tryz.results112, go_sem, q0, q1, q2, q3, q4, q5, q6]) rfl ⟨rfl, KF.out⟩

end Go.Proofs.YtljjbdbgedmadaaGreatDoor
