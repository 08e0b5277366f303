/- The reference's motions (Apply), and its arcs (Arc). Condition: coordinates of at most 2^26. -/
import Derived.Test.YtljjbdbgedmadaaGreatDoorNe
import Derived.Test.YtljjbdbgedmadaaGreatDoorPlA
namespace Go.Proofs.YtljjbdbgedmadaaGreatDoor
open Go.RowKit

theorem turn_abs (t : Int) (p : Pl.Pt) (h1 : Mid p.x) (h2 : Mid p.y) : Mid (Pl.turn t p).x ∧ Mid (Pl.turn t p).y := by
  unfold Mid Pl.turn at *
  split
  · exact ⟨by dsimp only; omega, by dsimp only; omega⟩
  · split
    · exact ⟨by dsimp only; omega, by dsimp only; omega⟩
    · split
      · exact ⟨by dsimp only; omega, by dsimp only; omega⟩
      · exact ⟨h1, h2⟩
theorem neg_mid {x : Int} (m : Bool) (h : Mid x) : Mid (if m then -x else x) := by unfold Mid at *; split <;> omega
set_option maxHeartbeats 4000000 in
set_option maxRecDepth 100000 in
theorem rapply_any (ax ay px py t : Int) (m : Bool) (w : World) (h1 : Mid ax) (h2 : Mid ay) (h3 : Mid px) (h4 : Mid py) :
    Calls Tryz.prog 136 #[.agg #[.int .i64 ax, .int .i64 ay, .int .i64 t, .bool m], .agg #[.int .i64 px, .int .i64 py]] w fun E w' => E = .returned (.agg #[.int .i64 (Pl.apply ⟨⟨ax, ay⟩, t, m⟩ ⟨px, py⟩).x, .int .i64 (Pl.apply ⟨⟨ax, ay⟩, t, m⟩ ⟨px, py⟩).y]) ∧ Kp w w' none := by
  have ht := turn_abs t ⟨if m then -px else px, py⟩ (neg_mid m h3) h4
  have HM : Mid px ∧ Mid (if m then -px else px) ∧ Mid py ∧ Mid (Pl.turn t ⟨if m then -px else px, py⟩).x ∧ Mid (Pl.turn t ⟨if m then -px else px, py⟩).y ∧ Mid ax ∧ Mid ay := ⟨h3, neg_mid m h3, h4, ht.1, ht.2, h1, h2⟩
  have H1 := Lib.hid (fun V => mirrored_any px py m V HM.1)
  have H2 := Lib.hid (fun V => turned_any (if m then -px else px) py t V HM.2.1 HM.2.2.1)
  have H3 := Lib.hid (fun V => radd_any _ _ _ _ V HM.2.2.2.1 HM.2.2.2.2.1 HM.2.2.2.2.2.1 HM.2.2.2.2.2.2)
  clear h1 h2 h3 h4 ht HM
  unfold Pl.apply Pl.add
  dsimp only
  generalize (Pl.turn t ⟨if m then -px else px, py⟩).x = tx at *
  generalize (Pl.turn t ⟨if m then -px else px, py⟩).y = ty at *
  generalize (if m then -px else px) = mx at *
  go_enter Tryz.func136, Tryz.ntmps136
  go_wp2_with fail
  have HB0 : Hid ((((w.alloc (Obj.cells #[.int .i64 ax, .int .i64 ay, .int .i64 t, .bool m] 44)).alloc (Obj.cells #[.int .i64 px, .int .i64 py] 42)).alloc (Obj.cells #[.int .i64 0, .int .i64 0] 42)).heap[w.heap.size]? = some (.cells #[.int .i64 ax, .int .i64 ay, .int .i64 t, .bool m] 44 (0, 0))) := Lib.hid (by rw [Below.heap_alloc _ _ _ (by simp; omega), Below.heap_alloc _ _ _ (by simp)]; exact heap_alloc_new _ _)
  have HB1 : Hid ((((w.alloc (Obj.cells #[.int .i64 ax, .int .i64 ay, .int .i64 t, .bool m] 44)).alloc (Obj.cells #[.int .i64 px, .int .i64 py] 42)).alloc (Obj.cells #[.int .i64 0, .int .i64 0] 42)).heap[w.heap.size + 1]? = some (.cells #[.int .i64 px, .int .i64 py] 42 (0, 0))) := Lib.hid (by rw [Below.heap_alloc _ _ _ (by simp)]; have h := heap_alloc_new (w.alloc (Obj.cells #[.int .i64 ax, .int .i64 ay, .int .i64 t, .bool m] 44)) (Obj.cells #[.int .i64 px, .int .i64 py] 42); simpa using h)
  have HRES : Hid ((((w.alloc (Obj.cells #[.int .i64 ax, .int .i64 ay, .int .i64 t, .bool m] 44)).alloc (Obj.cells #[.int .i64 px, .int .i64 py] 42)).alloc (Obj.cells #[.int .i64 0, .int .i64 0] 42)).heap[w.heap.size + 1 + 1]? = some (.cells #[.int .i64 0, .int .i64 0] 42 (0, 0))) := Lib.hid (by have h := heap_alloc_new ((w.alloc (Obj.cells #[.int .i64 ax, .int .i64 ay, .int .i64 t, .bool m] 44)).alloc (Obj.cells #[.int .i64 px, .int .i64 py] 42)) (Obj.cells #[.int .i64 0, .int .i64 0] 42); simpa using h)
  have KB : Hid (Kp w (((w.alloc (Obj.cells #[.int .i64 ax, .int .i64 ay, .int .i64 t, .bool m] 44)).alloc (Obj.cells #[.int .i64 px, .int .i64 py] 42)).alloc (Obj.cells #[.int .i64 0, .int .i64 0] 42)) none) := Lib.hid ((((Kp.refl w none).alloc _).alloc _).alloc _)
  generalize hBB : ((w.alloc (Obj.cells #[.int .i64 ax, .int .i64 ay, .int .i64 t, .bool m] 44)).alloc (Obj.cells #[.int .i64 px, .int .i64 py] 42)).alloc (Obj.cells #[.int .i64 0, .int .i64 0] 42) = BB at *
  clear hBB
  refine wp_region_held_drew (S := fun V => V.cell? ⟨w.heap.size, 0, none⟩ = some (.int .i64 ax) ∧ V.cell? ⟨w.heap.size, 1, none⟩ = some (.int .i64 ay) ∧ V.cell? ⟨w.heap.size, 2, none⟩ = some (.int .i64 t) ∧ V.cell? ⟨w.heap.size, 3, none⟩ = some (.bool m) ∧ V.cell? ⟨(w.heap.size + 1), 0, none⟩ = some (.int .i64 px) ∧ V.cell? ⟨(w.heap.size + 1), 1, none⟩ = some (.int .i64 py) ∧ Hid (∃ y0 y1, V.heap[w.heap.size + 1 + 1]? = some (.cells #[y0, y1] 42 (0, 0))) ∧ Hid (Kp BB V (some (w.heap.size + 1 + 1)))) (by kernel_rfl) ?_ (fun hHeld => ?_)
  · exact ⟨ckr HB0.out ((Kp.refl BB (some (w.heap.size + 1 + 1))).drew) (by simp <;> omega) 0 rfl, ckr HB0.out ((Kp.refl BB (some (w.heap.size + 1 + 1))).drew) (by simp <;> omega) 1 rfl, ckr HB0.out ((Kp.refl BB (some (w.heap.size + 1 + 1))).drew) (by simp <;> omega) 2 rfl, ckr HB0.out ((Kp.refl BB (some (w.heap.size + 1 + 1))).drew) (by simp <;> omega) 3 rfl, ckr HB1.out ((Kp.refl BB (some (w.heap.size + 1 + 1))).drew) (by simp <;> omega) 0 rfl, ckr HB1.out ((Kp.refl BB (some (w.heap.size + 1 + 1))).drew) (by simp <;> omega) 1 rfl, Lib.hid ⟨_, _, HRES.out⟩, Lib.hid ((Kp.refl BB (some (w.heap.size + 1 + 1))).drew)⟩
  refine tkH 0 rfl ?_
  try simp only [Act.put, sm]
  refine tkH 1 rfl ?_
  try simp only [Act.put, sm]
  refine tkH 2 rfl ?_
  try simp only [Act.put, sm]
  refine tkH 4 rfl ?_
  try simp only [Act.put, sm]
  refine tkH 5 rfl ?_
  try simp only [Act.put, sm]
  refine tkH 7 rfl ?_
  try simp only [Act.put, sm]
  refine tkH 8 rfl ?_
  try simp only [Act.put, sm]
  refine wpAnyH_ready (rs := [3]) (by kernel_rfl) (by simp) ?_
  refine AllReadyH.cons (o := _) rfl (fun K hK => ?_) AllReadyH.nil
  have gK := hHeld.2.2.2.2.2.2.2
  have gT := hHeld.2.2.2.2.2.2.1
  clear hHeld
  go_simp
  refine (H1.out _).mono ?_
  rintro e w23 ⟨rfl, kk⟩
  try go_wp2_with fail
  refine hK.out _ _ ?_ (fun hHeld => ?_)
  · exact ⟨ckr HB0.out (gK.out.trans (kk.weak _)) (by simp <;> omega) 0 rfl, ckr HB0.out (gK.out.trans (kk.weak _)) (by simp <;> omega) 1 rfl, ckr HB0.out (gK.out.trans (kk.weak _)) (by simp <;> omega) 2 rfl, ckr HB0.out (gK.out.trans (kk.weak _)) (by simp <;> omega) 3 rfl, ckr HB1.out (gK.out.trans (kk.weak _)) (by simp <;> omega) 0 rfl, ckr HB1.out (gK.out.trans (kk.weak _)) (by simp <;> omega) 1 rfl, Lib.hid (by obtain ⟨y0, y1, h⟩ := gT.out; exact ⟨y0, y1, (kk.block _ (lt_of_block h) (by simp)).trans h⟩), Lib.hid (gK.out.trans (kk.weak _))⟩
  clear hK K gK
  try simp only [Act.put, sm]
  refine wpAnyH_ready (rs := [6]) (by kernel_rfl) (by simp) ?_
  refine AllReadyH.cons (o := _) rfl (fun K hK => ?_) AllReadyH.nil
  have gK := hHeld.2.2.2.2.2.2.2
  have gT := hHeld.2.2.2.2.2.2.1
  clear hHeld
  go_simp
  refine (H2.out _).mono ?_
  rintro e w26 ⟨rfl, kk⟩
  try go_wp2_with fail
  refine hK.out _ _ ?_ (fun hHeld => ?_)
  · exact ⟨ckr HB0.out (gK.out.trans (kk.weak _)) (by simp <;> omega) 0 rfl, ckr HB0.out (gK.out.trans (kk.weak _)) (by simp <;> omega) 1 rfl, ckr HB0.out (gK.out.trans (kk.weak _)) (by simp <;> omega) 2 rfl, ckr HB0.out (gK.out.trans (kk.weak _)) (by simp <;> omega) 3 rfl, ckr HB1.out (gK.out.trans (kk.weak _)) (by simp <;> omega) 0 rfl, ckr HB1.out (gK.out.trans (kk.weak _)) (by simp <;> omega) 1 rfl, Lib.hid (by obtain ⟨y0, y1, h⟩ := gT.out; exact ⟨y0, y1, (kk.block _ (lt_of_block h) (by simp)).trans h⟩), Lib.hid (gK.out.trans (kk.weak _))⟩
  clear hK K gK
  try simp only [Act.put, sm]
  refine wpAnyH_ready (rs := [9]) (by kernel_rfl) (by simp) ?_
  refine AllReadyH.cons (o := _) rfl (fun K hK => ?_) AllReadyH.nil
  have gK := hHeld.2.2.2.2.2.2.2
  have gT := hHeld.2.2.2.2.2.2.1
  clear hHeld
  go_simp
  refine (H3.out _).mono ?_
  rintro e w29 ⟨rfl, kk⟩
  try go_wp2_with fail
  refine hK.out _ _ ?_ (fun hHeld => ?_)
  · exact ⟨ckr HB0.out (gK.out.trans (kk.weak _)) (by simp <;> omega) 0 rfl, ckr HB0.out (gK.out.trans (kk.weak _)) (by simp <;> omega) 1 rfl, ckr HB0.out (gK.out.trans (kk.weak _)) (by simp <;> omega) 2 rfl, ckr HB0.out (gK.out.trans (kk.weak _)) (by simp <;> omega) 3 rfl, ckr HB1.out (gK.out.trans (kk.weak _)) (by simp <;> omega) 0 rfl, ckr HB1.out (gK.out.trans (kk.weak _)) (by simp <;> omega) 1 rfl, Lib.hid (by obtain ⟨y0, y1, h⟩ := gT.out; exact ⟨y0, y1, (kk.block _ (lt_of_block h) (by simp)).trans h⟩), Lib.hid (gK.out.trans (kk.weak _))⟩
  clear hK K gK
  try simp only [Act.put, sm]
  refine wpAnyH_ready (rs := [10]) (by kernel_rfl) (by simp) ?_
  refine AllReadyH.cons (o := _) rfl (fun K hK => ?_) AllReadyH.nil
  have gK := hHeld.2.2.2.2.2.2.2
  obtain ⟨y0, y1, gh⟩ := hHeld.2.2.2.2.2.2.1.out
  have GH := Lib.hid gh
  have f0 := Lib.frozen_of_heap gh 0
  have f1 := Lib.frozen_of_heap gh 1
  have c0 := Lib.cell_of_heap gh 0
  have c1 := Lib.cell_of_heap gh 1
  simp at c0 c1
  clear hHeld gh
  go_simp
  try go_wp2_with fail
  have h1 := heap_set (o := 0) (v := .int .i64 (tx + ax)) GH.out
  have h2 := heap_set (o := 1) (v := .int .i64 (ty + ay)) h1
  have kk := (((Kp.refl w29 (some (w.heap.size + 1 + 1))).set (o := 0) (.int .i64 (tx + ax))).set (o := 1) (.int .i64 (ty + ay)))
  refine hK.out _ _ ?_ (fun hHeld => ?_)
  · exact ⟨ckr HB0.out (gK.out.trans kk) (by simp <;> omega) 0 rfl, ckr HB0.out (gK.out.trans kk) (by simp <;> omega) 1 rfl, ckr HB0.out (gK.out.trans kk) (by simp <;> omega) 2 rfl, ckr HB0.out (gK.out.trans kk) (by simp <;> omega) 3 rfl, ckr HB1.out (gK.out.trans kk) (by simp <;> omega) 0 rfl, ckr HB1.out (gK.out.trans kk) (by simp <;> omega) 1 rfl, Lib.hid ⟨_, _, h2⟩, Lib.hid (gK.out.trans kk)⟩
  have q0 := Lib.cell_of_heap h2 0
  have q1 := Lib.cell_of_heap h2 1
  simp at q0 q1
  have KF := Lib.hid (KB.out.of_own (gK.out.trans kk) (by omega))
  clear hK K hHeld h1 h2 kk f0 f1 c0 c1 gK
  generalize ((w29.setCell ⟨w.heap.size + 1 + 1, 0, none⟩ (.int .i64 (tx + ax))).setCell ⟨w.heap.size + 1 + 1, 1, none⟩ (.int .i64 (ty + ay))) = wf at *
  refine wpAnyH_done (by kernel_rfl) ?_ _
  go_wp2_with fail
  exact bodyPost_ret (v := .agg #[.int .i64 (tx + ax), .int .i64 (ty + ay)]) (by simp [results, Tryz.results136, go_sem, q0, q1]) rfl ⟨rfl, KF.out⟩

end Go.Proofs.YtljjbdbgedmadaaGreatDoor
