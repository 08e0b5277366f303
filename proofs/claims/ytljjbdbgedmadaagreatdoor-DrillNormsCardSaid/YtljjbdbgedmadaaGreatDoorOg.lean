/- Whether an edge is valid, on the program's side (of). No condition.
   Whether an edge of a kind that is known is valid, on the program's side (of). No condition. -/
import Derived.Test.YtljjbdbgedmadaaGreatDoorOf

namespace Go.Proofs.YtljjbdbgedmadaaGreatDoor
open Go.RowKit

/-- All is kept but one block of four cells. -/
def Own4 (X V : World) (N : Nat) : Prop := Kp X V (some N) ∧ ∃ a0 a1 a2 a3, V.heap[N]? = some (.cells #[a0, a1, a2, a3] 201 (0, 0))
theorem Own4.kp {X V V' : World} {N : Nat} (h : Own4 X V N) (k : Kp V V' none) : Own4 X V' N := by
  obtain ⟨h1, a0, a1, a2, a3, h2⟩ := h
  exact ⟨h1.trans (k.weak _), a0, a1, a2, a3, (k.block N (lt_of_block h2) (by simp)).trans h2⟩
theorem Own4.set {X V : World} {N : Nat} (h : Own4 X V N) (b0 b1 b2 b3 : Value) : Own4 X ((((V.setCell ⟨N, 0, none⟩ b0).setCell ⟨N, 1, none⟩ b1).setCell ⟨N, 2, none⟩ b2).setCell ⟨N, 3, none⟩ b3) N ∧ ((((V.setCell ⟨N, 0, none⟩ b0).setCell ⟨N, 1, none⟩ b1).setCell ⟨N, 2, none⟩ b2).setCell ⟨N, 3, none⟩ b3).heap[N]? = some (.cells #[b0, b1, b2, b3] 201 (0, 0)) := by
  obtain ⟨h1, a0, a1, a2, a3, h2⟩ := h
  have e0 := heap_set (o := 0) (v := b0) h2
  have e1 := heap_set (o := 1) (v := b1) e0
  have e2 := heap_set (o := 2) (v := b2) e1
  have e3 := heap_set (o := 3) (v := b3) e2
  exact ⟨⟨(((h1.set b0).set b1).set b2).set b3, b0, b1, b2, b3, e3⟩, e3⟩
theorem Kp.row2 {W w w' : World} {r : Nat} {row : Option Nat} (h0 : Kp W w row) (h : Kp w w' (some r)) (hr : W.heap.size ≤ r) : Kp W w' row := Kp.of_own h0 h hr

set_option maxHeartbeats 8000000 in
set_option maxRecDepth 100000 in
theorem of_0_0 (ek ax ay bx bY cx cy : Int) (w : World) (hek : ¬ (1 ≤ ek ∧ ek ≤ 3)) :
    Calls Tryz.prog 104 #[.agg #[.int .i64 ek, .int .i64 ax, .int .i64 ay, .int .i64 bx, .int .i64 bY, .int .i64 cx, .int .i64 cy]] w fun E w' => E = .returned (.tuple #[.agg #[.nilFunc, .nilFunc, .nilFunc, .int .i64 ek], .bool false]) ∧ Kp w w' none := by
  have hfam : ∀ V, Calls Tryz.prog 161 #[.int .i64 ek] V fun E w' => E = .returned (.tuple #[.agg #[.nilFunc, .nilFunc, .nilFunc, .int .i64 ek], .bool false]) ∧ w' = V.alloc (.cells #[.nilFunc, .nilFunc, .nilFunc, .int .i64 ek] 201) := fun V => by
    have h := families_any ek V
    rw [decide_eq_false hek, show famV ek = #[.nilFunc, .nilFunc, .nilFunc, .int .i64 ek] by unfold famV; rw [if_neg (by omega), if_neg (by omega), if_neg (by omega)]] at h
    exact h
  clear hek
  have HB0 : Hid (((((w.alloc (Obj.cells #[.int .i64 ek, .int .i64 ax, .int .i64 ay, .int .i64 bx, .int .i64 bY, .int .i64 cx, .int .i64 cy] 123)).alloc (Obj.cells #[.nilFunc, .nilFunc, .nilFunc, .int .i64 0] 201)).alloc (Obj.cells #[.nilFunc, .nilFunc, .nilFunc, .int .i64 ek] 201)).alloc (Obj.cells #[.nilFunc, .nilFunc, .nilFunc, .int .i64 ek] 201)).heap[w.heap.size]? = some (Obj.cells #[.int .i64 ek, .int .i64 ax, .int .i64 ay, .int .i64 bx, .int .i64 bY, .int .i64 cx, .int .i64 cy] 123)) := Lib.hid (by
    have k1 : Kp (w.alloc (Obj.cells #[.int .i64 ek, .int .i64 ax, .int .i64 ay, .int .i64 bx, .int .i64 bY, .int .i64 cx, .int .i64 cy] 123)) ((((w.alloc (Obj.cells #[.int .i64 ek, .int .i64 ax, .int .i64 ay, .int .i64 bx, .int .i64 bY, .int .i64 cx, .int .i64 cy] 123)).alloc (Obj.cells #[.nilFunc, .nilFunc, .nilFunc, .int .i64 0] 201)).alloc (Obj.cells #[.nilFunc, .nilFunc, .nilFunc, .int .i64 ek] 201)).alloc (Obj.cells #[.nilFunc, .nilFunc, .nilFunc, .int .i64 ek] 201)) none := (((Kp.refl _ none).alloc _).alloc _).alloc _
    exact (k1.block _ (by simp) (by simp)).trans (heap_alloc_new w _))
  have HB1 : Hid (((((w.alloc (Obj.cells #[.int .i64 ek, .int .i64 ax, .int .i64 ay, .int .i64 bx, .int .i64 bY, .int .i64 cx, .int .i64 cy] 123)).alloc (Obj.cells #[.nilFunc, .nilFunc, .nilFunc, .int .i64 0] 201)).alloc (Obj.cells #[.nilFunc, .nilFunc, .nilFunc, .int .i64 ek] 201)).alloc (Obj.cells #[.nilFunc, .nilFunc, .nilFunc, .int .i64 ek] 201)).heap[w.heap.size + 1]? = some (Obj.cells #[.nilFunc, .nilFunc, .nilFunc, .int .i64 0] 201)) := Lib.hid (by
    have k1 : Kp ((w.alloc (Obj.cells #[.int .i64 ek, .int .i64 ax, .int .i64 ay, .int .i64 bx, .int .i64 bY, .int .i64 cx, .int .i64 cy] 123)).alloc (Obj.cells #[.nilFunc, .nilFunc, .nilFunc, .int .i64 0] 201)) ((((w.alloc (Obj.cells #[.int .i64 ek, .int .i64 ax, .int .i64 ay, .int .i64 bx, .int .i64 bY, .int .i64 cx, .int .i64 cy] 123)).alloc (Obj.cells #[.nilFunc, .nilFunc, .nilFunc, .int .i64 0] 201)).alloc (Obj.cells #[.nilFunc, .nilFunc, .nilFunc, .int .i64 ek] 201)).alloc (Obj.cells #[.nilFunc, .nilFunc, .nilFunc, .int .i64 ek] 201)) none := ((Kp.refl _ none).alloc _).alloc _
    exact (k1.block (w.heap.size + 1) (by simp) (by simp)).trans (by have := heap_alloc_new (w.alloc (Obj.cells #[.int .i64 ek, .int .i64 ax, .int .i64 ay, .int .i64 bx, .int .i64 bY, .int .i64 cx, .int .i64 cy] 123)) (Obj.cells #[.nilFunc, .nilFunc, .nilFunc, .int .i64 0] 201); simpa using this))
  have HB3 : Hid (((((w.alloc (Obj.cells #[.int .i64 ek, .int .i64 ax, .int .i64 ay, .int .i64 bx, .int .i64 bY, .int .i64 cx, .int .i64 cy] 123)).alloc (Obj.cells #[.nilFunc, .nilFunc, .nilFunc, .int .i64 0] 201)).alloc (Obj.cells #[.nilFunc, .nilFunc, .nilFunc, .int .i64 ek] 201)).alloc (Obj.cells #[.nilFunc, .nilFunc, .nilFunc, .int .i64 ek] 201)).heap[w.heap.size + 1 + 1 + 1]? = some (Obj.cells #[.nilFunc, .nilFunc, .nilFunc, .int .i64 ek] 201)) := Lib.hid (by
    have := heap_alloc_new (((w.alloc (Obj.cells #[.int .i64 ek, .int .i64 ax, .int .i64 ay, .int .i64 bx, .int .i64 bY, .int .i64 cx, .int .i64 cy] 123)).alloc (Obj.cells #[.nilFunc, .nilFunc, .nilFunc, .int .i64 0] 201)).alloc (Obj.cells #[.nilFunc, .nilFunc, .nilFunc, .int .i64 ek] 201)) (Obj.cells #[.nilFunc, .nilFunc, .nilFunc, .int .i64 ek] 201)
    simpa using this)
  have HKX : Hid (Kp w ((((w.alloc (Obj.cells #[.int .i64 ek, .int .i64 ax, .int .i64 ay, .int .i64 bx, .int .i64 bY, .int .i64 cx, .int .i64 cy] 123)).alloc (Obj.cells #[.nilFunc, .nilFunc, .nilFunc, .int .i64 0] 201)).alloc (Obj.cells #[.nilFunc, .nilFunc, .nilFunc, .int .i64 ek] 201)).alloc (Obj.cells #[.nilFunc, .nilFunc, .nilFunc, .int .i64 ek] 201)) none) := Lib.hid ((((Kp.refl w none).alloc _).alloc _).alloc _ |>.alloc _)
  go_enter Tryz.func104, Tryz.ntmps104
  go_wp2_with fail
  refine (hfam _).mono ?_
  rintro e w1 ⟨rfl, rfl⟩
  clear hfam
  go_wp2_with fail
  generalize (((w.alloc (Obj.cells #[.int .i64 ek, .int .i64 ax, .int .i64 ay, .int .i64 bx, .int .i64 bY, .int .i64 cx, .int .i64 cy] 123)).alloc (Obj.cells #[.nilFunc, .nilFunc, .nilFunc, .int .i64 0] 201)).alloc (Obj.cells #[.nilFunc, .nilFunc, .nilFunc, .int .i64 ek] 201)).alloc (Obj.cells #[.nilFunc, .nilFunc, .nilFunc, .int .i64 ek] 201) = X at *
  have CC : Hid (∀ V, Own4 X V (w.heap.size + 1) → (V.cell? ⟨w.heap.size, 0, none⟩ = some (.int .i64 ek) ∧ V.cell? ⟨w.heap.size, 1, none⟩ = some (.int .i64 ax) ∧ V.cell? ⟨w.heap.size, 2, none⟩ = some (.int .i64 ay) ∧ V.cell? ⟨w.heap.size, 3, none⟩ = some (.int .i64 bx) ∧ V.cell? ⟨w.heap.size, 4, none⟩ = some (.int .i64 bY) ∧ V.cell? ⟨w.heap.size, 5, none⟩ = some (.int .i64 cx) ∧ V.cell? ⟨w.heap.size, 6, none⟩ = some (.int .i64 cy)) ∧ (V.cell? ⟨w.heap.size + 1 + 1 + 1, 0, none⟩ = some (.nilFunc) ∧ V.cell? ⟨w.heap.size + 1 + 1 + 1, 1, none⟩ = some (.nilFunc) ∧ V.cell? ⟨w.heap.size + 1 + 1 + 1, 2, none⟩ = some (.nilFunc) ∧ V.cell? ⟨w.heap.size + 1 + 1 + 1, 3, none⟩ = some (.int .i64 ek))) := Lib.hid fun V ⟨kV, _⟩ =>
    ⟨⟨ckr HB0.out kV (by simp) 0 rfl, ckr HB0.out kV (by simp) 1 rfl, ckr HB0.out kV (by simp) 2 rfl, ckr HB0.out kV (by simp) 3 rfl, ckr HB0.out kV (by simp) 4 rfl, ckr HB0.out kV (by simp) 5 rfl, ckr HB0.out kV (by simp) 6 rfl⟩, ⟨ckr HB3.out kV (by simp) 0 rfl, ckr HB3.out kV (by simp) 1 rfl, ckr HB3.out kV (by simp) 2 rfl, ckr HB3.out kV (by simp) 3 rfl⟩⟩
  refine wp_region_held_drew (S := fun V => (V.cell? ⟨w.heap.size, 0, none⟩ = some (.int .i64 ek) ∧ V.cell? ⟨w.heap.size, 1, none⟩ = some (.int .i64 ax) ∧ V.cell? ⟨w.heap.size, 2, none⟩ = some (.int .i64 ay) ∧ V.cell? ⟨w.heap.size, 3, none⟩ = some (.int .i64 bx) ∧ V.cell? ⟨w.heap.size, 4, none⟩ = some (.int .i64 bY) ∧ V.cell? ⟨w.heap.size, 5, none⟩ = some (.int .i64 cx) ∧ V.cell? ⟨w.heap.size, 6, none⟩ = some (.int .i64 cy)) ∧ (V.cell? ⟨w.heap.size + 1 + 1 + 1, 0, none⟩ = some (.nilFunc) ∧ V.cell? ⟨w.heap.size + 1 + 1 + 1, 1, none⟩ = some (.nilFunc) ∧ V.cell? ⟨w.heap.size + 1 + 1 + 1, 2, none⟩ = some (.nilFunc) ∧ V.cell? ⟨w.heap.size + 1 + 1 + 1, 3, none⟩ = some (.int .i64 ek)) ∧ Hid (Own4 X V (w.heap.size + 1))) (by kernel_rfl) ?_ (fun hHeld => ?_)
  · have kk : Own4 X X.drew (w.heap.size + 1) := ⟨(Kp.refl X (some (w.heap.size + 1))).drew, _, _, _, _, HB1.out⟩; exact ⟨(CC.out _ kk).1, (CC.out _ kk).2, Lib.hid kk⟩
  refine tkH 0 rfl ?_ (by intro w hSw; obtain ⟨⟨g0, g1, g2, g3, g4, g5, g6⟩, ⟨g7, g8, g9, g10⟩, g11⟩ := hSw; go_simp <;> with_reducible rfl)
  try simp only [Act.put, sm]
  refine tkH 1 rfl ?_ (by intro w hSw; obtain ⟨⟨g0, g1, g2, g3, g4, g5, g6⟩, ⟨g7, g8, g9, g10⟩, g11⟩ := hSw; go_simp <;> with_reducible rfl)
  try simp only [Act.put, sm]
  refine tkH 2 rfl ?_ (by intro w hSw; obtain ⟨⟨g0, g1, g2, g3, g4, g5, g6⟩, ⟨g7, g8, g9, g10⟩, g11⟩ := hSw; go_simp <;> with_reducible rfl)
  try simp only [Act.put, sm]
  refine tkU 3 rfl ?_
  try simp only [Act.put, sm]
  refine tkU 4 rfl ?_
  try simp only [Act.put, sm]
  refine tkU 5 rfl ?_
  try simp only [Act.put, sm]
  refine tkH 6 rfl ?_ (by intro w hSw; obtain ⟨⟨g0, g1, g2, g3, g4, g5, g6⟩, ⟨g7, g8, g9, g10⟩, g11⟩ := hSw; go_simp <;> with_reducible rfl)
  try simp only [Act.put, sm]
  refine tkH 7 rfl ?_ (by intro w hSw; obtain ⟨⟨g0, g1, g2, g3, g4, g5, g6⟩, ⟨g7, g8, g9, g10⟩, g11⟩ := hSw; go_simp <;> with_reducible rfl)
  try simp only [Act.put, sm]
  refine tkU 8 rfl ?_
  try simp only [Act.put, sm]
  refine tkU 9 rfl ?_
  try simp only [Act.put, sm]
  refine tkU 10 rfl ?_
  try simp only [Act.put, sm]
  refine tkH 11 rfl ?_ (by intro w hSw; obtain ⟨⟨g0, g1, g2, g3, g4, g5, g6⟩, ⟨g7, g8, g9, g10⟩, g11⟩ := hSw; go_simp <;> with_reducible rfl)
  try simp only [Act.put, sm]
  refine tkH 12 rfl ?_ (by intro w hSw; obtain ⟨⟨g0, g1, g2, g3, g4, g5, g6⟩, ⟨g7, g8, g9, g10⟩, g11⟩ := hSw; go_simp <;> with_reducible rfl)
  try simp only [Act.put, sm]
  refine tkU 13 rfl ?_
  try simp only [Act.put, sm]
  refine tkU 14 rfl ?_
  try simp only [Act.put, sm]
  refine tkU 15 rfl ?_
  try simp only [Act.put, sm]
  refine tkH 16 rfl ?_ (by intro w hSw; obtain ⟨⟨g0, g1, g2, g3, g4, g5, g6⟩, ⟨g7, g8, g9, g10⟩, g11⟩ := hSw; go_simp <;> with_reducible rfl)
  try simp only [Act.put, sm]
  refine tkH 17 rfl ?_ (by intro w hSw; obtain ⟨⟨g0, g1, g2, g3, g4, g5, g6⟩, ⟨g7, g8, g9, g10⟩, g11⟩ := hSw; go_simp <;> with_reducible rfl)
  try simp only [Act.put, sm]
  refine tkU 18 rfl ?_
  try simp only [Act.put, sm]
  refine tkU 19 rfl ?_
  try simp only [Act.put, sm]
  refine tkU 20 rfl ?_
  try simp only [Act.put, sm]
  refine tkU 21 rfl ?_
  try simp only [Act.put, sm]
  refine tkH 22 rfl ?_ (by intro w hSw; obtain ⟨⟨g0, g1, g2, g3, g4, g5, g6⟩, ⟨g7, g8, g9, g10⟩, g11⟩ := hSw; go_simp <;> with_reducible rfl)
  try simp only [Act.put, sm]
  refine wpAnyH_ready (rs := [23]) (by kernel_rfl) (by simp) ?_
  refine AllReadyH.cons (o := _) rfl (fun K hK => ?_) AllReadyH.nil
  have gK := hHeld.2.2
  clear hHeld
  have hA := HB1.out
  have c0 := Lib.cell_of_heap hA 0
  have c1 := Lib.cell_of_heap hA 1
  have c2 := Lib.cell_of_heap hA 2
  have c3 := Lib.cell_of_heap hA 3
  have f0 := Lib.frozen_of_heap hA 0
  have f1 := Lib.frozen_of_heap hA 1
  have f2 := Lib.frozen_of_heap hA 2
  have f3 := Lib.frozen_of_heap hA 3
  have hst := (show Own4 X X (w.heap.size + 1) from ⟨Kp.refl _ _, _, _, _, _, HB1.out⟩).set (.nilFunc) (.nilFunc) (.nilFunc) (.int .i64 ek)
  have HST := Lib.hid (show Own4 X (((((X.setCell ⟨w.heap.size + 1, 0, none⟩ (.nilFunc)).setCell ⟨w.heap.size + 1, 1, none⟩ (.nilFunc)).setCell ⟨w.heap.size + 1, 2, none⟩ (.nilFunc)).setCell ⟨w.heap.size + 1, 3, none⟩ (.int .i64 ek)).drew) (w.heap.size + 1) ∧ (((((X.setCell ⟨w.heap.size + 1, 0, none⟩ (.nilFunc)).setCell ⟨w.heap.size + 1, 1, none⟩ (.nilFunc)).setCell ⟨w.heap.size + 1, 2, none⟩ (.nilFunc)).setCell ⟨w.heap.size + 1, 3, none⟩ (.int .i64 ek)).drew).heap[w.heap.size + 1]? = _ from ⟨hst.1.kp (Kp.refl _ none).drew, hst.2⟩)
  clear hst
  clear hA
  go_simp
  try go_wp2_with fail
  refine hK.out _ _ ⟨(CC.out _ HST.out.1).1, (CC.out _ HST.out.1).2, Lib.hid HST.out.1⟩ (fun hHeld => ?_)
  clear hK K gK
  try simp only [Act.put, sm]
  refine wpAnyH_ready (rs := [24]) (by kernel_rfl) (by simp) ?_
  refine AllReadyH.cons (o := _) rfl (fun K hK => ?_) AllReadyH.nil
  clear hHeld
  go_simp
  try go_wp2_with fail
  refine hK.out _ _ ⟨(CC.out _ HST.out.1).1, (CC.out _ HST.out.1).2, Lib.hid HST.out.1⟩ (fun hHeld => ?_)
  clear hK K hHeld
  refine wpAnyH_done (by kernel_rfl) ?_ _
  have hF := HST.out
  generalize ((((X.setCell ⟨w.heap.size + 1, 0, none⟩ (.nilFunc)).setCell ⟨w.heap.size + 1, 1, none⟩ (.nilFunc)).setCell ⟨w.heap.size + 1, 2, none⟩ (.nilFunc)).setCell ⟨w.heap.size + 1, 3, none⟩ (.int .i64 ek)).drew = wf at hF ⊢
  clear HST c0 c1 c2 c3 f0 f1 f2 f3
  obtain ⟨hF1, hF2⟩ := hF
  have q0 := Lib.cell_of_heap hF2 0
  have q1 := Lib.cell_of_heap hF2 1
  have q2 := Lib.cell_of_heap hF2 2
  have q3 := Lib.cell_of_heap hF2 3
  simp at q0 q1 q2 q3
  go_wp2_with fail
  try simp only [Exit.inBlock, Exit.then]
  refine bodyPost_ret (v := .tuple #[.agg #[.nilFunc, .nilFunc, .nilFunc, .int .i64 ek], .bool false]) (by simp [results, Tryz.results104, go_sem, q0, q1, q2, q3]) rfl ⟨rfl, HKX.out.row2 hF1.1 (by omega)⟩

end Go.Proofs.YtljjbdbgedmadaaGreatDoor

namespace Go.Proofs.YtljjbdbgedmadaaGreatDoor
open Go.RowKit

set_option maxHeartbeats 8000000 in
set_option maxRecDepth 100000 in
theorem of_g_1 (ek fk ax ay bx bY cx cy : Int) (fa fb fc : Nat) (w : World) (hfam : ∀ V, Calls Tryz.prog 161 #[.int .i64 ek] V fun E w' => E = .returned (.tuple #[.agg #[.func (.func fa) #[] #[], .func (.func fb) #[] #[], .func (.func fc) #[] #[], .int .i64 fk], .bool true]) ∧ w' = V.alloc (.cells #[.func (.func fa) #[] #[], .func (.func fb) #[] #[], .func (.func fc) #[] #[], .int .i64 fk] 201)) (hp0 : ∀ V, Calls Tryz.prog 162 #[.agg #[.int .i64 ax, .int .i64 ay]] V fun E w' => E = .returned (.bool false) ∧ Kp V w' none) :
    Calls Tryz.prog 104 #[.agg #[.int .i64 ek, .int .i64 ax, .int .i64 ay, .int .i64 bx, .int .i64 bY, .int .i64 cx, .int .i64 cy]] w fun E w' => E = .returned (.tuple #[.agg #[.func (.func fa) #[] #[], .func (.func fb) #[] #[], .func (.func fc) #[] #[], .int .i64 fk], .bool false]) ∧ Kp w w' none := by
  have HP0 := Lib.hid hp0
  clear hp0
  have HB0 : Hid (((((w.alloc (Obj.cells #[.int .i64 ek, .int .i64 ax, .int .i64 ay, .int .i64 bx, .int .i64 bY, .int .i64 cx, .int .i64 cy] 123)).alloc (Obj.cells #[.nilFunc, .nilFunc, .nilFunc, .int .i64 0] 201)).alloc (Obj.cells #[.func (.func fa) #[] #[], .func (.func fb) #[] #[], .func (.func fc) #[] #[], .int .i64 fk] 201)).alloc (Obj.cells #[.func (.func fa) #[] #[], .func (.func fb) #[] #[], .func (.func fc) #[] #[], .int .i64 fk] 201)).heap[w.heap.size]? = some (Obj.cells #[.int .i64 ek, .int .i64 ax, .int .i64 ay, .int .i64 bx, .int .i64 bY, .int .i64 cx, .int .i64 cy] 123)) := Lib.hid (by
    have k1 : Kp (w.alloc (Obj.cells #[.int .i64 ek, .int .i64 ax, .int .i64 ay, .int .i64 bx, .int .i64 bY, .int .i64 cx, .int .i64 cy] 123)) ((((w.alloc (Obj.cells #[.int .i64 ek, .int .i64 ax, .int .i64 ay, .int .i64 bx, .int .i64 bY, .int .i64 cx, .int .i64 cy] 123)).alloc (Obj.cells #[.nilFunc, .nilFunc, .nilFunc, .int .i64 0] 201)).alloc (Obj.cells #[.func (.func fa) #[] #[], .func (.func fb) #[] #[], .func (.func fc) #[] #[], .int .i64 fk] 201)).alloc (Obj.cells #[.func (.func fa) #[] #[], .func (.func fb) #[] #[], .func (.func fc) #[] #[], .int .i64 fk] 201)) none := (((Kp.refl _ none).alloc _).alloc _).alloc _
    exact (k1.block _ (by simp) (by simp)).trans (heap_alloc_new w _))
  have HB1 : Hid (((((w.alloc (Obj.cells #[.int .i64 ek, .int .i64 ax, .int .i64 ay, .int .i64 bx, .int .i64 bY, .int .i64 cx, .int .i64 cy] 123)).alloc (Obj.cells #[.nilFunc, .nilFunc, .nilFunc, .int .i64 0] 201)).alloc (Obj.cells #[.func (.func fa) #[] #[], .func (.func fb) #[] #[], .func (.func fc) #[] #[], .int .i64 fk] 201)).alloc (Obj.cells #[.func (.func fa) #[] #[], .func (.func fb) #[] #[], .func (.func fc) #[] #[], .int .i64 fk] 201)).heap[w.heap.size + 1]? = some (Obj.cells #[.nilFunc, .nilFunc, .nilFunc, .int .i64 0] 201)) := Lib.hid (by
    have k1 : Kp ((w.alloc (Obj.cells #[.int .i64 ek, .int .i64 ax, .int .i64 ay, .int .i64 bx, .int .i64 bY, .int .i64 cx, .int .i64 cy] 123)).alloc (Obj.cells #[.nilFunc, .nilFunc, .nilFunc, .int .i64 0] 201)) ((((w.alloc (Obj.cells #[.int .i64 ek, .int .i64 ax, .int .i64 ay, .int .i64 bx, .int .i64 bY, .int .i64 cx, .int .i64 cy] 123)).alloc (Obj.cells #[.nilFunc, .nilFunc, .nilFunc, .int .i64 0] 201)).alloc (Obj.cells #[.func (.func fa) #[] #[], .func (.func fb) #[] #[], .func (.func fc) #[] #[], .int .i64 fk] 201)).alloc (Obj.cells #[.func (.func fa) #[] #[], .func (.func fb) #[] #[], .func (.func fc) #[] #[], .int .i64 fk] 201)) none := ((Kp.refl _ none).alloc _).alloc _
    exact (k1.block (w.heap.size + 1) (by simp) (by simp)).trans (by have := heap_alloc_new (w.alloc (Obj.cells #[.int .i64 ek, .int .i64 ax, .int .i64 ay, .int .i64 bx, .int .i64 bY, .int .i64 cx, .int .i64 cy] 123)) (Obj.cells #[.nilFunc, .nilFunc, .nilFunc, .int .i64 0] 201); simpa using this))
  have HB3 : Hid (((((w.alloc (Obj.cells #[.int .i64 ek, .int .i64 ax, .int .i64 ay, .int .i64 bx, .int .i64 bY, .int .i64 cx, .int .i64 cy] 123)).alloc (Obj.cells #[.nilFunc, .nilFunc, .nilFunc, .int .i64 0] 201)).alloc (Obj.cells #[.func (.func fa) #[] #[], .func (.func fb) #[] #[], .func (.func fc) #[] #[], .int .i64 fk] 201)).alloc (Obj.cells #[.func (.func fa) #[] #[], .func (.func fb) #[] #[], .func (.func fc) #[] #[], .int .i64 fk] 201)).heap[w.heap.size + 1 + 1 + 1]? = some (Obj.cells #[.func (.func fa) #[] #[], .func (.func fb) #[] #[], .func (.func fc) #[] #[], .int .i64 fk] 201)) := Lib.hid (by
    have := heap_alloc_new (((w.alloc (Obj.cells #[.int .i64 ek, .int .i64 ax, .int .i64 ay, .int .i64 bx, .int .i64 bY, .int .i64 cx, .int .i64 cy] 123)).alloc (Obj.cells #[.nilFunc, .nilFunc, .nilFunc, .int .i64 0] 201)).alloc (Obj.cells #[.func (.func fa) #[] #[], .func (.func fb) #[] #[], .func (.func fc) #[] #[], .int .i64 fk] 201)) (Obj.cells #[.func (.func fa) #[] #[], .func (.func fb) #[] #[], .func (.func fc) #[] #[], .int .i64 fk] 201)
    simpa using this)
  have HKX : Hid (Kp w ((((w.alloc (Obj.cells #[.int .i64 ek, .int .i64 ax, .int .i64 ay, .int .i64 bx, .int .i64 bY, .int .i64 cx, .int .i64 cy] 123)).alloc (Obj.cells #[.nilFunc, .nilFunc, .nilFunc, .int .i64 0] 201)).alloc (Obj.cells #[.func (.func fa) #[] #[], .func (.func fb) #[] #[], .func (.func fc) #[] #[], .int .i64 fk] 201)).alloc (Obj.cells #[.func (.func fa) #[] #[], .func (.func fb) #[] #[], .func (.func fc) #[] #[], .int .i64 fk] 201)) none) := Lib.hid ((((Kp.refl w none).alloc _).alloc _).alloc _ |>.alloc _)
  go_enter Tryz.func104, Tryz.ntmps104
  go_wp2_with fail
  refine (hfam _).mono ?_
  rintro e w1 ⟨rfl, rfl⟩
  clear hfam
  go_wp2_with fail
  generalize (((w.alloc (Obj.cells #[.int .i64 ek, .int .i64 ax, .int .i64 ay, .int .i64 bx, .int .i64 bY, .int .i64 cx, .int .i64 cy] 123)).alloc (Obj.cells #[.nilFunc, .nilFunc, .nilFunc, .int .i64 0] 201)).alloc (Obj.cells #[.func (.func fa) #[] #[], .func (.func fb) #[] #[], .func (.func fc) #[] #[], .int .i64 fk] 201)).alloc (Obj.cells #[.func (.func fa) #[] #[], .func (.func fb) #[] #[], .func (.func fc) #[] #[], .int .i64 fk] 201) = X at *
  have CC : Hid (∀ V, Own4 X V (w.heap.size + 1) → (V.cell? ⟨w.heap.size, 0, none⟩ = some (.int .i64 ek) ∧ V.cell? ⟨w.heap.size, 1, none⟩ = some (.int .i64 ax) ∧ V.cell? ⟨w.heap.size, 2, none⟩ = some (.int .i64 ay) ∧ V.cell? ⟨w.heap.size, 3, none⟩ = some (.int .i64 bx) ∧ V.cell? ⟨w.heap.size, 4, none⟩ = some (.int .i64 bY) ∧ V.cell? ⟨w.heap.size, 5, none⟩ = some (.int .i64 cx) ∧ V.cell? ⟨w.heap.size, 6, none⟩ = some (.int .i64 cy)) ∧ (V.cell? ⟨w.heap.size + 1 + 1 + 1, 0, none⟩ = some (.func (.func fa) #[] #[]) ∧ V.cell? ⟨w.heap.size + 1 + 1 + 1, 1, none⟩ = some (.func (.func fb) #[] #[]) ∧ V.cell? ⟨w.heap.size + 1 + 1 + 1, 2, none⟩ = some (.func (.func fc) #[] #[]) ∧ V.cell? ⟨w.heap.size + 1 + 1 + 1, 3, none⟩ = some (.int .i64 fk))) := Lib.hid fun V ⟨kV, _⟩ =>
    ⟨⟨ckr HB0.out kV (by simp) 0 rfl, ckr HB0.out kV (by simp) 1 rfl, ckr HB0.out kV (by simp) 2 rfl, ckr HB0.out kV (by simp) 3 rfl, ckr HB0.out kV (by simp) 4 rfl, ckr HB0.out kV (by simp) 5 rfl, ckr HB0.out kV (by simp) 6 rfl⟩, ⟨ckr HB3.out kV (by simp) 0 rfl, ckr HB3.out kV (by simp) 1 rfl, ckr HB3.out kV (by simp) 2 rfl, ckr HB3.out kV (by simp) 3 rfl⟩⟩
  refine wp_region_held_drew (S := fun V => (V.cell? ⟨w.heap.size, 0, none⟩ = some (.int .i64 ek) ∧ V.cell? ⟨w.heap.size, 1, none⟩ = some (.int .i64 ax) ∧ V.cell? ⟨w.heap.size, 2, none⟩ = some (.int .i64 ay) ∧ V.cell? ⟨w.heap.size, 3, none⟩ = some (.int .i64 bx) ∧ V.cell? ⟨w.heap.size, 4, none⟩ = some (.int .i64 bY) ∧ V.cell? ⟨w.heap.size, 5, none⟩ = some (.int .i64 cx) ∧ V.cell? ⟨w.heap.size, 6, none⟩ = some (.int .i64 cy)) ∧ (V.cell? ⟨w.heap.size + 1 + 1 + 1, 0, none⟩ = some (.func (.func fa) #[] #[]) ∧ V.cell? ⟨w.heap.size + 1 + 1 + 1, 1, none⟩ = some (.func (.func fb) #[] #[]) ∧ V.cell? ⟨w.heap.size + 1 + 1 + 1, 2, none⟩ = some (.func (.func fc) #[] #[]) ∧ V.cell? ⟨w.heap.size + 1 + 1 + 1, 3, none⟩ = some (.int .i64 fk)) ∧ Hid (Own4 X V (w.heap.size + 1))) (by kernel_rfl) ?_ (fun hHeld => ?_)
  · have kk : Own4 X X.drew (w.heap.size + 1) := ⟨(Kp.refl X (some (w.heap.size + 1))).drew, _, _, _, _, HB1.out⟩; exact ⟨(CC.out _ kk).1, (CC.out _ kk).2, Lib.hid kk⟩
  refine tkH 0 rfl ?_ (by intro w hSw; obtain ⟨⟨g0, g1, g2, g3, g4, g5, g6⟩, ⟨g7, g8, g9, g10⟩, g11⟩ := hSw; go_simp <;> with_reducible rfl)
  try simp only [Act.put, sm]
  refine tkH 1 rfl ?_ (by intro w hSw; obtain ⟨⟨g0, g1, g2, g3, g4, g5, g6⟩, ⟨g7, g8, g9, g10⟩, g11⟩ := hSw; go_simp <;> with_reducible rfl)
  try simp only [Act.put, sm]
  refine tkH 2 rfl ?_ (by intro w hSw; obtain ⟨⟨g0, g1, g2, g3, g4, g5, g6⟩, ⟨g7, g8, g9, g10⟩, g11⟩ := hSw; go_simp <;> with_reducible rfl)
  try simp only [Act.put, sm]
  refine tkH 3 rfl ?_ (by intro w hSw; obtain ⟨⟨g0, g1, g2, g3, g4, g5, g6⟩, ⟨g7, g8, g9, g10⟩, g11⟩ := hSw; go_simp <;> with_reducible rfl)
  try simp only [Act.put, sm]
  refine tkH 4 rfl ?_ (by intro w hSw; obtain ⟨⟨g0, g1, g2, g3, g4, g5, g6⟩, ⟨g7, g8, g9, g10⟩, g11⟩ := hSw; go_simp <;> with_reducible rfl)
  try simp only [Act.put, sm]
  refine wpAnyH_ready (rs := [5]) (by kernel_rfl) (by simp) ?_
  refine AllReadyH.cons (o := _) rfl (fun K hK => ?_) AllReadyH.nil
  have gK := hHeld.2.2
  clear hHeld
  go_simp
  refine (HP0.out _).mono ?_
  rintro e w10 ⟨rfl, kk⟩
  have kk2 := gK.out.kp kk
  try go_wp2_with fail
  refine hK.out _ _ ⟨(CC.out _ kk2).1, (CC.out _ kk2).2, Lib.hid kk2⟩ (fun hHeld => ?_)
  clear hK K gK kk kk2
  try simp only [Act.put, sm]
  refine tkH 6 rfl ?_ (by intro w hSw; obtain ⟨⟨g0, g1, g2, g3, g4, g5, g6⟩, ⟨g7, g8, g9, g10⟩, g11⟩ := hSw; go_simp <;> with_reducible rfl)
  try simp only [Act.put, sm]
  refine tkH 7 rfl ?_ (by intro w hSw; obtain ⟨⟨g0, g1, g2, g3, g4, g5, g6⟩, ⟨g7, g8, g9, g10⟩, g11⟩ := hSw; go_simp <;> with_reducible rfl)
  try simp only [Act.put, sm]
  refine tkU 8 rfl ?_
  try simp only [Act.put, sm]
  refine tkU 9 rfl ?_
  try simp only [Act.put, sm]
  refine tkU 10 rfl ?_
  try simp only [Act.put, sm]
  refine tkH 11 rfl ?_ (by intro w hSw; obtain ⟨⟨g0, g1, g2, g3, g4, g5, g6⟩, ⟨g7, g8, g9, g10⟩, g11⟩ := hSw; go_simp <;> with_reducible rfl)
  try simp only [Act.put, sm]
  refine tkH 12 rfl ?_ (by intro w hSw; obtain ⟨⟨g0, g1, g2, g3, g4, g5, g6⟩, ⟨g7, g8, g9, g10⟩, g11⟩ := hSw; go_simp <;> with_reducible rfl)
  try simp only [Act.put, sm]
  refine tkU 13 rfl ?_
  try simp only [Act.put, sm]
  refine tkU 14 rfl ?_
  try simp only [Act.put, sm]
  refine tkU 15 rfl ?_
  try simp only [Act.put, sm]
  refine tkH 16 rfl ?_ (by intro w hSw; obtain ⟨⟨g0, g1, g2, g3, g4, g5, g6⟩, ⟨g7, g8, g9, g10⟩, g11⟩ := hSw; go_simp <;> with_reducible rfl)
  try simp only [Act.put, sm]
  refine tkH 17 rfl ?_ (by intro w hSw; obtain ⟨⟨g0, g1, g2, g3, g4, g5, g6⟩, ⟨g7, g8, g9, g10⟩, g11⟩ := hSw; go_simp <;> with_reducible rfl)
  try simp only [Act.put, sm]
  refine tkU 18 rfl ?_
  try simp only [Act.put, sm]
  refine tkU 19 rfl ?_
  try simp only [Act.put, sm]
  refine tkU 20 rfl ?_
  try simp only [Act.put, sm]
  refine tkU 21 rfl ?_
  try simp only [Act.put, sm]
  refine tkH 22 rfl ?_ (by intro w hSw; obtain ⟨⟨g0, g1, g2, g3, g4, g5, g6⟩, ⟨g7, g8, g9, g10⟩, g11⟩ := hSw; go_simp <;> with_reducible rfl)
  try simp only [Act.put, sm]
  refine wpAnyH_ready (rs := [23]) (by kernel_rfl) (by simp) ?_
  refine AllReadyH.cons (o := _) rfl (fun K hK => ?_) AllReadyH.nil
  have gK := hHeld.2.2
  clear hHeld
  obtain ⟨_, a0, a1, a2, a3, hA⟩ := gK.out
  have c0 := Lib.cell_of_heap hA 0
  have c1 := Lib.cell_of_heap hA 1
  have c2 := Lib.cell_of_heap hA 2
  have c3 := Lib.cell_of_heap hA 3
  have f0 := Lib.frozen_of_heap hA 0
  have f1 := Lib.frozen_of_heap hA 1
  have f2 := Lib.frozen_of_heap hA 2
  have f3 := Lib.frozen_of_heap hA 3
  have HST := Lib.hid (gK.out.set (.func (.func fa) #[] #[]) (.func (.func fb) #[] #[]) (.func (.func fc) #[] #[]) (.int .i64 fk))
  clear hA
  go_simp
  try go_wp2_with fail
  refine hK.out _ _ ⟨(CC.out _ HST.out.1).1, (CC.out _ HST.out.1).2, Lib.hid HST.out.1⟩ (fun hHeld => ?_)
  clear hK K gK
  try simp only [Act.put, sm]
  refine wpAnyH_ready (rs := [24]) (by kernel_rfl) (by simp) ?_
  refine AllReadyH.cons (o := _) rfl (fun K hK => ?_) AllReadyH.nil
  clear hHeld
  go_simp
  try go_wp2_with fail
  refine hK.out _ _ ⟨(CC.out _ HST.out.1).1, (CC.out _ HST.out.1).2, Lib.hid HST.out.1⟩ (fun hHeld => ?_)
  clear hK K hHeld
  refine wpAnyH_done (by kernel_rfl) ?_ _
  have hF := HST.out
  generalize ((((w10.setCell ⟨w.heap.size + 1, 0, none⟩ (.func (.func fa) #[] #[])).setCell ⟨w.heap.size + 1, 1, none⟩ (.func (.func fb) #[] #[])).setCell ⟨w.heap.size + 1, 2, none⟩ (.func (.func fc) #[] #[])).setCell ⟨w.heap.size + 1, 3, none⟩ (.int .i64 fk)) = wf at hF ⊢
  clear HST c0 c1 c2 c3 f0 f1 f2 f3
  obtain ⟨hF1, hF2⟩ := hF
  have q0 := Lib.cell_of_heap hF2 0
  have q1 := Lib.cell_of_heap hF2 1
  have q2 := Lib.cell_of_heap hF2 2
  have q3 := Lib.cell_of_heap hF2 3
  simp at q0 q1 q2 q3
  go_wp2_with fail
  try simp only [Exit.inBlock, Exit.then]
  refine bodyPost_ret (v := .tuple #[.agg #[.func (.func fa) #[] #[], .func (.func fb) #[] #[], .func (.func fc) #[] #[], .int .i64 fk], .bool false]) (by simp [results, Tryz.results104, go_sem, q0, q1, q2, q3]) rfl ⟨rfl, HKX.out.row2 hF1.1 (by omega)⟩

set_option maxHeartbeats 8000000 in
set_option maxRecDepth 100000 in
theorem of_g_2 (ek fk ax ay bx bY cx cy : Int) (fa fb fc : Nat) (w : World) (hfam : ∀ V, Calls Tryz.prog 161 #[.int .i64 ek] V fun E w' => E = .returned (.tuple #[.agg #[.func (.func fa) #[] #[], .func (.func fb) #[] #[], .func (.func fc) #[] #[], .int .i64 fk], .bool true]) ∧ w' = V.alloc (.cells #[.func (.func fa) #[] #[], .func (.func fb) #[] #[], .func (.func fc) #[] #[], .int .i64 fk] 201)) (hp0 : ∀ V, Calls Tryz.prog 162 #[.agg #[.int .i64 ax, .int .i64 ay]] V fun E w' => E = .returned (.bool true) ∧ Kp V w' none) (hp1 : ∀ V, Calls Tryz.prog 162 #[.agg #[.int .i64 bx, .int .i64 bY]] V fun E w' => E = .returned (.bool false) ∧ Kp V w' none) :
    Calls Tryz.prog 104 #[.agg #[.int .i64 ek, .int .i64 ax, .int .i64 ay, .int .i64 bx, .int .i64 bY, .int .i64 cx, .int .i64 cy]] w fun E w' => E = .returned (.tuple #[.agg #[.func (.func fa) #[] #[], .func (.func fb) #[] #[], .func (.func fc) #[] #[], .int .i64 fk], .bool false]) ∧ Kp w w' none := by
  have HP0 := Lib.hid hp0
  clear hp0
  have HP1 := Lib.hid hp1
  clear hp1
  have HB0 : Hid (((((w.alloc (Obj.cells #[.int .i64 ek, .int .i64 ax, .int .i64 ay, .int .i64 bx, .int .i64 bY, .int .i64 cx, .int .i64 cy] 123)).alloc (Obj.cells #[.nilFunc, .nilFunc, .nilFunc, .int .i64 0] 201)).alloc (Obj.cells #[.func (.func fa) #[] #[], .func (.func fb) #[] #[], .func (.func fc) #[] #[], .int .i64 fk] 201)).alloc (Obj.cells #[.func (.func fa) #[] #[], .func (.func fb) #[] #[], .func (.func fc) #[] #[], .int .i64 fk] 201)).heap[w.heap.size]? = some (Obj.cells #[.int .i64 ek, .int .i64 ax, .int .i64 ay, .int .i64 bx, .int .i64 bY, .int .i64 cx, .int .i64 cy] 123)) := Lib.hid (by
    have k1 : Kp (w.alloc (Obj.cells #[.int .i64 ek, .int .i64 ax, .int .i64 ay, .int .i64 bx, .int .i64 bY, .int .i64 cx, .int .i64 cy] 123)) ((((w.alloc (Obj.cells #[.int .i64 ek, .int .i64 ax, .int .i64 ay, .int .i64 bx, .int .i64 bY, .int .i64 cx, .int .i64 cy] 123)).alloc (Obj.cells #[.nilFunc, .nilFunc, .nilFunc, .int .i64 0] 201)).alloc (Obj.cells #[.func (.func fa) #[] #[], .func (.func fb) #[] #[], .func (.func fc) #[] #[], .int .i64 fk] 201)).alloc (Obj.cells #[.func (.func fa) #[] #[], .func (.func fb) #[] #[], .func (.func fc) #[] #[], .int .i64 fk] 201)) none := (((Kp.refl _ none).alloc _).alloc _).alloc _
    exact (k1.block _ (by simp) (by simp)).trans (heap_alloc_new w _))
  have HB1 : Hid (((((w.alloc (Obj.cells #[.int .i64 ek, .int .i64 ax, .int .i64 ay, .int .i64 bx, .int .i64 bY, .int .i64 cx, .int .i64 cy] 123)).alloc (Obj.cells #[.nilFunc, .nilFunc, .nilFunc, .int .i64 0] 201)).alloc (Obj.cells #[.func (.func fa) #[] #[], .func (.func fb) #[] #[], .func (.func fc) #[] #[], .int .i64 fk] 201)).alloc (Obj.cells #[.func (.func fa) #[] #[], .func (.func fb) #[] #[], .func (.func fc) #[] #[], .int .i64 fk] 201)).heap[w.heap.size + 1]? = some (Obj.cells #[.nilFunc, .nilFunc, .nilFunc, .int .i64 0] 201)) := Lib.hid (by
    have k1 : Kp ((w.alloc (Obj.cells #[.int .i64 ek, .int .i64 ax, .int .i64 ay, .int .i64 bx, .int .i64 bY, .int .i64 cx, .int .i64 cy] 123)).alloc (Obj.cells #[.nilFunc, .nilFunc, .nilFunc, .int .i64 0] 201)) ((((w.alloc (Obj.cells #[.int .i64 ek, .int .i64 ax, .int .i64 ay, .int .i64 bx, .int .i64 bY, .int .i64 cx, .int .i64 cy] 123)).alloc (Obj.cells #[.nilFunc, .nilFunc, .nilFunc, .int .i64 0] 201)).alloc (Obj.cells #[.func (.func fa) #[] #[], .func (.func fb) #[] #[], .func (.func fc) #[] #[], .int .i64 fk] 201)).alloc (Obj.cells #[.func (.func fa) #[] #[], .func (.func fb) #[] #[], .func (.func fc) #[] #[], .int .i64 fk] 201)) none := ((Kp.refl _ none).alloc _).alloc _
    exact (k1.block (w.heap.size + 1) (by simp) (by simp)).trans (by have := heap_alloc_new (w.alloc (Obj.cells #[.int .i64 ek, .int .i64 ax, .int .i64 ay, .int .i64 bx, .int .i64 bY, .int .i64 cx, .int .i64 cy] 123)) (Obj.cells #[.nilFunc, .nilFunc, .nilFunc, .int .i64 0] 201); simpa using this))
  have HB3 : Hid (((((w.alloc (Obj.cells #[.int .i64 ek, .int .i64 ax, .int .i64 ay, .int .i64 bx, .int .i64 bY, .int .i64 cx, .int .i64 cy] 123)).alloc (Obj.cells #[.nilFunc, .nilFunc, .nilFunc, .int .i64 0] 201)).alloc (Obj.cells #[.func (.func fa) #[] #[], .func (.func fb) #[] #[], .func (.func fc) #[] #[], .int .i64 fk] 201)).alloc (Obj.cells #[.func (.func fa) #[] #[], .func (.func fb) #[] #[], .func (.func fc) #[] #[], .int .i64 fk] 201)).heap[w.heap.size + 1 + 1 + 1]? = some (Obj.cells #[.func (.func fa) #[] #[], .func (.func fb) #[] #[], .func (.func fc) #[] #[], .int .i64 fk] 201)) := Lib.hid (by
    have := heap_alloc_new (((w.alloc (Obj.cells #[.int .i64 ek, .int .i64 ax, .int .i64 ay, .int .i64 bx, .int .i64 bY, .int .i64 cx, .int .i64 cy] 123)).alloc (Obj.cells #[.nilFunc, .nilFunc, .nilFunc, .int .i64 0] 201)).alloc (Obj.cells #[.func (.func fa) #[] #[], .func (.func fb) #[] #[], .func (.func fc) #[] #[], .int .i64 fk] 201)) (Obj.cells #[.func (.func fa) #[] #[], .func (.func fb) #[] #[], .func (.func fc) #[] #[], .int .i64 fk] 201)
    simpa using this)
  have HKX : Hid (Kp w ((((w.alloc (Obj.cells #[.int .i64 ek, .int .i64 ax, .int .i64 ay, .int .i64 bx, .int .i64 bY, .int .i64 cx, .int .i64 cy] 123)).alloc (Obj.cells #[.nilFunc, .nilFunc, .nilFunc, .int .i64 0] 201)).alloc (Obj.cells #[.func (.func fa) #[] #[], .func (.func fb) #[] #[], .func (.func fc) #[] #[], .int .i64 fk] 201)).alloc (Obj.cells #[.func (.func fa) #[] #[], .func (.func fb) #[] #[], .func (.func fc) #[] #[], .int .i64 fk] 201)) none) := Lib.hid ((((Kp.refl w none).alloc _).alloc _).alloc _ |>.alloc _)
  go_enter Tryz.func104, Tryz.ntmps104
  go_wp2_with fail
  refine (hfam _).mono ?_
  rintro e w1 ⟨rfl, rfl⟩
  clear hfam
  go_wp2_with fail
  generalize (((w.alloc (Obj.cells #[.int .i64 ek, .int .i64 ax, .int .i64 ay, .int .i64 bx, .int .i64 bY, .int .i64 cx, .int .i64 cy] 123)).alloc (Obj.cells #[.nilFunc, .nilFunc, .nilFunc, .int .i64 0] 201)).alloc (Obj.cells #[.func (.func fa) #[] #[], .func (.func fb) #[] #[], .func (.func fc) #[] #[], .int .i64 fk] 201)).alloc (Obj.cells #[.func (.func fa) #[] #[], .func (.func fb) #[] #[], .func (.func fc) #[] #[], .int .i64 fk] 201) = X at *
  have CC : Hid (∀ V, Own4 X V (w.heap.size + 1) → (V.cell? ⟨w.heap.size, 0, none⟩ = some (.int .i64 ek) ∧ V.cell? ⟨w.heap.size, 1, none⟩ = some (.int .i64 ax) ∧ V.cell? ⟨w.heap.size, 2, none⟩ = some (.int .i64 ay) ∧ V.cell? ⟨w.heap.size, 3, none⟩ = some (.int .i64 bx) ∧ V.cell? ⟨w.heap.size, 4, none⟩ = some (.int .i64 bY) ∧ V.cell? ⟨w.heap.size, 5, none⟩ = some (.int .i64 cx) ∧ V.cell? ⟨w.heap.size, 6, none⟩ = some (.int .i64 cy)) ∧ (V.cell? ⟨w.heap.size + 1 + 1 + 1, 0, none⟩ = some (.func (.func fa) #[] #[]) ∧ V.cell? ⟨w.heap.size + 1 + 1 + 1, 1, none⟩ = some (.func (.func fb) #[] #[]) ∧ V.cell? ⟨w.heap.size + 1 + 1 + 1, 2, none⟩ = some (.func (.func fc) #[] #[]) ∧ V.cell? ⟨w.heap.size + 1 + 1 + 1, 3, none⟩ = some (.int .i64 fk))) := Lib.hid fun V ⟨kV, _⟩ =>
    ⟨⟨ckr HB0.out kV (by simp) 0 rfl, ckr HB0.out kV (by simp) 1 rfl, ckr HB0.out kV (by simp) 2 rfl, ckr HB0.out kV (by simp) 3 rfl, ckr HB0.out kV (by simp) 4 rfl, ckr HB0.out kV (by simp) 5 rfl, ckr HB0.out kV (by simp) 6 rfl⟩, ⟨ckr HB3.out kV (by simp) 0 rfl, ckr HB3.out kV (by simp) 1 rfl, ckr HB3.out kV (by simp) 2 rfl, ckr HB3.out kV (by simp) 3 rfl⟩⟩
  refine wp_region_held_drew (S := fun V => (V.cell? ⟨w.heap.size, 0, none⟩ = some (.int .i64 ek) ∧ V.cell? ⟨w.heap.size, 1, none⟩ = some (.int .i64 ax) ∧ V.cell? ⟨w.heap.size, 2, none⟩ = some (.int .i64 ay) ∧ V.cell? ⟨w.heap.size, 3, none⟩ = some (.int .i64 bx) ∧ V.cell? ⟨w.heap.size, 4, none⟩ = some (.int .i64 bY) ∧ V.cell? ⟨w.heap.size, 5, none⟩ = some (.int .i64 cx) ∧ V.cell? ⟨w.heap.size, 6, none⟩ = some (.int .i64 cy)) ∧ (V.cell? ⟨w.heap.size + 1 + 1 + 1, 0, none⟩ = some (.func (.func fa) #[] #[]) ∧ V.cell? ⟨w.heap.size + 1 + 1 + 1, 1, none⟩ = some (.func (.func fb) #[] #[]) ∧ V.cell? ⟨w.heap.size + 1 + 1 + 1, 2, none⟩ = some (.func (.func fc) #[] #[]) ∧ V.cell? ⟨w.heap.size + 1 + 1 + 1, 3, none⟩ = some (.int .i64 fk)) ∧ Hid (Own4 X V (w.heap.size + 1))) (by kernel_rfl) ?_ (fun hHeld => ?_)
  · have kk : Own4 X X.drew (w.heap.size + 1) := ⟨(Kp.refl X (some (w.heap.size + 1))).drew, _, _, _, _, HB1.out⟩; exact ⟨(CC.out _ kk).1, (CC.out _ kk).2, Lib.hid kk⟩
  refine tkH 0 rfl ?_ (by intro w hSw; obtain ⟨⟨g0, g1, g2, g3, g4, g5, g6⟩, ⟨g7, g8, g9, g10⟩, g11⟩ := hSw; go_simp <;> with_reducible rfl)
  try simp only [Act.put, sm]
  refine tkH 1 rfl ?_ (by intro w hSw; obtain ⟨⟨g0, g1, g2, g3, g4, g5, g6⟩, ⟨g7, g8, g9, g10⟩, g11⟩ := hSw; go_simp <;> with_reducible rfl)
  try simp only [Act.put, sm]
  refine tkH 2 rfl ?_ (by intro w hSw; obtain ⟨⟨g0, g1, g2, g3, g4, g5, g6⟩, ⟨g7, g8, g9, g10⟩, g11⟩ := hSw; go_simp <;> with_reducible rfl)
  try simp only [Act.put, sm]
  refine tkH 3 rfl ?_ (by intro w hSw; obtain ⟨⟨g0, g1, g2, g3, g4, g5, g6⟩, ⟨g7, g8, g9, g10⟩, g11⟩ := hSw; go_simp <;> with_reducible rfl)
  try simp only [Act.put, sm]
  refine tkH 4 rfl ?_ (by intro w hSw; obtain ⟨⟨g0, g1, g2, g3, g4, g5, g6⟩, ⟨g7, g8, g9, g10⟩, g11⟩ := hSw; go_simp <;> with_reducible rfl)
  try simp only [Act.put, sm]
  refine wpAnyH_ready (rs := [5]) (by kernel_rfl) (by simp) ?_
  refine AllReadyH.cons (o := _) rfl (fun K hK => ?_) AllReadyH.nil
  have gK := hHeld.2.2
  clear hHeld
  go_simp
  refine (HP0.out _).mono ?_
  rintro e w10 ⟨rfl, kk⟩
  have kk2 := gK.out.kp kk
  try go_wp2_with fail
  refine hK.out _ _ ⟨(CC.out _ kk2).1, (CC.out _ kk2).2, Lib.hid kk2⟩ (fun hHeld => ?_)
  clear hK K gK kk kk2
  try simp only [Act.put, sm]
  refine tkH 6 rfl ?_ (by intro w hSw; obtain ⟨⟨g0, g1, g2, g3, g4, g5, g6⟩, ⟨g7, g8, g9, g10⟩, g11⟩ := hSw; go_simp <;> with_reducible rfl)
  try simp only [Act.put, sm]
  refine tkH 7 rfl ?_ (by intro w hSw; obtain ⟨⟨g0, g1, g2, g3, g4, g5, g6⟩, ⟨g7, g8, g9, g10⟩, g11⟩ := hSw; go_simp <;> with_reducible rfl)
  try simp only [Act.put, sm]
  refine tkH 8 rfl ?_ (by intro w hSw; obtain ⟨⟨g0, g1, g2, g3, g4, g5, g6⟩, ⟨g7, g8, g9, g10⟩, g11⟩ := hSw; go_simp <;> with_reducible rfl)
  try simp only [Act.put, sm]
  refine tkH 9 rfl ?_ (by intro w hSw; obtain ⟨⟨g0, g1, g2, g3, g4, g5, g6⟩, ⟨g7, g8, g9, g10⟩, g11⟩ := hSw; go_simp <;> with_reducible rfl)
  try simp only [Act.put, sm]
  refine wpAnyH_ready (rs := [10]) (by kernel_rfl) (by simp) ?_
  refine AllReadyH.cons (o := _) rfl (fun K hK => ?_) AllReadyH.nil
  have gK := hHeld.2.2
  clear hHeld
  go_simp
  refine (HP1.out _).mono ?_
  rintro e w11 ⟨rfl, kk⟩
  have kk2 := gK.out.kp kk
  try go_wp2_with fail
  refine hK.out _ _ ⟨(CC.out _ kk2).1, (CC.out _ kk2).2, Lib.hid kk2⟩ (fun hHeld => ?_)
  clear hK K gK kk kk2
  try simp only [Act.put, sm]
  refine tkH 11 rfl ?_ (by intro w hSw; obtain ⟨⟨g0, g1, g2, g3, g4, g5, g6⟩, ⟨g7, g8, g9, g10⟩, g11⟩ := hSw; go_simp <;> with_reducible rfl)
  try simp only [Act.put, sm]
  refine tkH 12 rfl ?_ (by intro w hSw; obtain ⟨⟨g0, g1, g2, g3, g4, g5, g6⟩, ⟨g7, g8, g9, g10⟩, g11⟩ := hSw; go_simp <;> with_reducible rfl)
  try simp only [Act.put, sm]
  refine tkU 13 rfl ?_
  try simp only [Act.put, sm]
  refine tkU 14 rfl ?_
  try simp only [Act.put, sm]
  refine tkU 15 rfl ?_
  try simp only [Act.put, sm]
  refine tkH 16 rfl ?_ (by intro w hSw; obtain ⟨⟨g0, g1, g2, g3, g4, g5, g6⟩, ⟨g7, g8, g9, g10⟩, g11⟩ := hSw; go_simp <;> with_reducible rfl)
  try simp only [Act.put, sm]
  refine tkH 17 rfl ?_ (by intro w hSw; obtain ⟨⟨g0, g1, g2, g3, g4, g5, g6⟩, ⟨g7, g8, g9, g10⟩, g11⟩ := hSw; go_simp <;> with_reducible rfl)
  try simp only [Act.put, sm]
  refine tkU 18 rfl ?_
  try simp only [Act.put, sm]
  refine tkU 19 rfl ?_
  try simp only [Act.put, sm]
  refine tkU 20 rfl ?_
  try simp only [Act.put, sm]
  refine tkU 21 rfl ?_
  try simp only [Act.put, sm]
  refine tkH 22 rfl ?_ (by intro w hSw; obtain ⟨⟨g0, g1, g2, g3, g4, g5, g6⟩, ⟨g7, g8, g9, g10⟩, g11⟩ := hSw; go_simp <;> with_reducible rfl)
  try simp only [Act.put, sm]
  refine wpAnyH_ready (rs := [23]) (by kernel_rfl) (by simp) ?_
  refine AllReadyH.cons (o := _) rfl (fun K hK => ?_) AllReadyH.nil
  have gK := hHeld.2.2
  clear hHeld
  obtain ⟨_, a0, a1, a2, a3, hA⟩ := gK.out
  have c0 := Lib.cell_of_heap hA 0
  have c1 := Lib.cell_of_heap hA 1
  have c2 := Lib.cell_of_heap hA 2
  have c3 := Lib.cell_of_heap hA 3
  have f0 := Lib.frozen_of_heap hA 0
  have f1 := Lib.frozen_of_heap hA 1
  have f2 := Lib.frozen_of_heap hA 2
  have f3 := Lib.frozen_of_heap hA 3
  have HST := Lib.hid (gK.out.set (.func (.func fa) #[] #[]) (.func (.func fb) #[] #[]) (.func (.func fc) #[] #[]) (.int .i64 fk))
  clear hA
  go_simp
  try go_wp2_with fail
  refine hK.out _ _ ⟨(CC.out _ HST.out.1).1, (CC.out _ HST.out.1).2, Lib.hid HST.out.1⟩ (fun hHeld => ?_)
  clear hK K gK
  try simp only [Act.put, sm]
  refine wpAnyH_ready (rs := [24]) (by kernel_rfl) (by simp) ?_
  refine AllReadyH.cons (o := _) rfl (fun K hK => ?_) AllReadyH.nil
  clear hHeld
  go_simp
  try go_wp2_with fail
  refine hK.out _ _ ⟨(CC.out _ HST.out.1).1, (CC.out _ HST.out.1).2, Lib.hid HST.out.1⟩ (fun hHeld => ?_)
  clear hK K hHeld
  refine wpAnyH_done (by kernel_rfl) ?_ _
  have hF := HST.out
  generalize ((((w11.setCell ⟨w.heap.size + 1, 0, none⟩ (.func (.func fa) #[] #[])).setCell ⟨w.heap.size + 1, 1, none⟩ (.func (.func fb) #[] #[])).setCell ⟨w.heap.size + 1, 2, none⟩ (.func (.func fc) #[] #[])).setCell ⟨w.heap.size + 1, 3, none⟩ (.int .i64 fk)) = wf at hF ⊢
  clear HST c0 c1 c2 c3 f0 f1 f2 f3
  obtain ⟨hF1, hF2⟩ := hF
  have q0 := Lib.cell_of_heap hF2 0
  have q1 := Lib.cell_of_heap hF2 1
  have q2 := Lib.cell_of_heap hF2 2
  have q3 := Lib.cell_of_heap hF2 3
  simp at q0 q1 q2 q3
  go_wp2_with fail
  try simp only [Exit.inBlock, Exit.then]
  refine bodyPost_ret (v := .tuple #[.agg #[.func (.func fa) #[] #[], .func (.func fb) #[] #[], .func (.func fc) #[] #[], .int .i64 fk], .bool false]) (by simp [results, Tryz.results104, go_sem, q0, q1, q2, q3]) rfl ⟨rfl, HKX.out.row2 hF1.1 (by omega)⟩

set_option maxHeartbeats 8000000 in
set_option maxRecDepth 100000 in
theorem of_g_3 (ek fk ax ay bx bY cx cy : Int) (fa fb fc : Nat) (w : World) (hfam : ∀ V, Calls Tryz.prog 161 #[.int .i64 ek] V fun E w' => E = .returned (.tuple #[.agg #[.func (.func fa) #[] #[], .func (.func fb) #[] #[], .func (.func fc) #[] #[], .int .i64 fk], .bool true]) ∧ w' = V.alloc (.cells #[.func (.func fa) #[] #[], .func (.func fb) #[] #[], .func (.func fc) #[] #[], .int .i64 fk] 201)) (hp0 : ∀ V, Calls Tryz.prog 162 #[.agg #[.int .i64 ax, .int .i64 ay]] V fun E w' => E = .returned (.bool true) ∧ Kp V w' none) (hp1 : ∀ V, Calls Tryz.prog 162 #[.agg #[.int .i64 bx, .int .i64 bY]] V fun E w' => E = .returned (.bool true) ∧ Kp V w' none) (hp2 : ∀ V, Calls Tryz.prog 162 #[.agg #[.int .i64 cx, .int .i64 cy]] V fun E w' => E = .returned (.bool false) ∧ Kp V w' none) :
    Calls Tryz.prog 104 #[.agg #[.int .i64 ek, .int .i64 ax, .int .i64 ay, .int .i64 bx, .int .i64 bY, .int .i64 cx, .int .i64 cy]] w fun E w' => E = .returned (.tuple #[.agg #[.func (.func fa) #[] #[], .func (.func fb) #[] #[], .func (.func fc) #[] #[], .int .i64 fk], .bool false]) ∧ Kp w w' none := by
  have HP0 := Lib.hid hp0
  clear hp0
  have HP1 := Lib.hid hp1
  clear hp1
  have HP2 := Lib.hid hp2
  clear hp2
  have HB0 : Hid (((((w.alloc (Obj.cells #[.int .i64 ek, .int .i64 ax, .int .i64 ay, .int .i64 bx, .int .i64 bY, .int .i64 cx, .int .i64 cy] 123)).alloc (Obj.cells #[.nilFunc, .nilFunc, .nilFunc, .int .i64 0] 201)).alloc (Obj.cells #[.func (.func fa) #[] #[], .func (.func fb) #[] #[], .func (.func fc) #[] #[], .int .i64 fk] 201)).alloc (Obj.cells #[.func (.func fa) #[] #[], .func (.func fb) #[] #[], .func (.func fc) #[] #[], .int .i64 fk] 201)).heap[w.heap.size]? = some (Obj.cells #[.int .i64 ek, .int .i64 ax, .int .i64 ay, .int .i64 bx, .int .i64 bY, .int .i64 cx, .int .i64 cy] 123)) := Lib.hid (by
    have k1 : Kp (w.alloc (Obj.cells #[.int .i64 ek, .int .i64 ax, .int .i64 ay, .int .i64 bx, .int .i64 bY, .int .i64 cx, .int .i64 cy] 123)) ((((w.alloc (Obj.cells #[.int .i64 ek, .int .i64 ax, .int .i64 ay, .int .i64 bx, .int .i64 bY, .int .i64 cx, .int .i64 cy] 123)).alloc (Obj.cells #[.nilFunc, .nilFunc, .nilFunc, .int .i64 0] 201)).alloc (Obj.cells #[.func (.func fa) #[] #[], .func (.func fb) #[] #[], .func (.func fc) #[] #[], .int .i64 fk] 201)).alloc (Obj.cells #[.func (.func fa) #[] #[], .func (.func fb) #[] #[], .func (.func fc) #[] #[], .int .i64 fk] 201)) none := (((Kp.refl _ none).alloc _).alloc _).alloc _
    exact (k1.block _ (by simp) (by simp)).trans (heap_alloc_new w _))
  have HB1 : Hid (((((w.alloc (Obj.cells #[.int .i64 ek, .int .i64 ax, .int .i64 ay, .int .i64 bx, .int .i64 bY, .int .i64 cx, .int .i64 cy] 123)).alloc (Obj.cells #[.nilFunc, .nilFunc, .nilFunc, .int .i64 0] 201)).alloc (Obj.cells #[.func (.func fa) #[] #[], .func (.func fb) #[] #[], .func (.func fc) #[] #[], .int .i64 fk] 201)).alloc (Obj.cells #[.func (.func fa) #[] #[], .func (.func fb) #[] #[], .func (.func fc) #[] #[], .int .i64 fk] 201)).heap[w.heap.size + 1]? = some (Obj.cells #[.nilFunc, .nilFunc, .nilFunc, .int .i64 0] 201)) := Lib.hid (by
    have k1 : Kp ((w.alloc (Obj.cells #[.int .i64 ek, .int .i64 ax, .int .i64 ay, .int .i64 bx, .int .i64 bY, .int .i64 cx, .int .i64 cy] 123)).alloc (Obj.cells #[.nilFunc, .nilFunc, .nilFunc, .int .i64 0] 201)) ((((w.alloc (Obj.cells #[.int .i64 ek, .int .i64 ax, .int .i64 ay, .int .i64 bx, .int .i64 bY, .int .i64 cx, .int .i64 cy] 123)).alloc (Obj.cells #[.nilFunc, .nilFunc, .nilFunc, .int .i64 0] 201)).alloc (Obj.cells #[.func (.func fa) #[] #[], .func (.func fb) #[] #[], .func (.func fc) #[] #[], .int .i64 fk] 201)).alloc (Obj.cells #[.func (.func fa) #[] #[], .func (.func fb) #[] #[], .func (.func fc) #[] #[], .int .i64 fk] 201)) none := ((Kp.refl _ none).alloc _).alloc _
    exact (k1.block (w.heap.size + 1) (by simp) (by simp)).trans (by have := heap_alloc_new (w.alloc (Obj.cells #[.int .i64 ek, .int .i64 ax, .int .i64 ay, .int .i64 bx, .int .i64 bY, .int .i64 cx, .int .i64 cy] 123)) (Obj.cells #[.nilFunc, .nilFunc, .nilFunc, .int .i64 0] 201); simpa using this))
  have HB3 : Hid (((((w.alloc (Obj.cells #[.int .i64 ek, .int .i64 ax, .int .i64 ay, .int .i64 bx, .int .i64 bY, .int .i64 cx, .int .i64 cy] 123)).alloc (Obj.cells #[.nilFunc, .nilFunc, .nilFunc, .int .i64 0] 201)).alloc (Obj.cells #[.func (.func fa) #[] #[], .func (.func fb) #[] #[], .func (.func fc) #[] #[], .int .i64 fk] 201)).alloc (Obj.cells #[.func (.func fa) #[] #[], .func (.func fb) #[] #[], .func (.func fc) #[] #[], .int .i64 fk] 201)).heap[w.heap.size + 1 + 1 + 1]? = some (Obj.cells #[.func (.func fa) #[] #[], .func (.func fb) #[] #[], .func (.func fc) #[] #[], .int .i64 fk] 201)) := Lib.hid (by
    have := heap_alloc_new (((w.alloc (Obj.cells #[.int .i64 ek, .int .i64 ax, .int .i64 ay, .int .i64 bx, .int .i64 bY, .int .i64 cx, .int .i64 cy] 123)).alloc (Obj.cells #[.nilFunc, .nilFunc, .nilFunc, .int .i64 0] 201)).alloc (Obj.cells #[.func (.func fa) #[] #[], .func (.func fb) #[] #[], .func (.func fc) #[] #[], .int .i64 fk] 201)) (Obj.cells #[.func (.func fa) #[] #[], .func (.func fb) #[] #[], .func (.func fc) #[] #[], .int .i64 fk] 201)
    simpa using this)
  have HKX : Hid (Kp w ((((w.alloc (Obj.cells #[.int .i64 ek, .int .i64 ax, .int .i64 ay, .int .i64 bx, .int .i64 bY, .int .i64 cx, .int .i64 cy] 123)).alloc (Obj.cells #[.nilFunc, .nilFunc, .nilFunc, .int .i64 0] 201)).alloc (Obj.cells #[.func (.func fa) #[] #[], .func (.func fb) #[] #[], .func (.func fc) #[] #[], .int .i64 fk] 201)).alloc (Obj.cells #[.func (.func fa) #[] #[], .func (.func fb) #[] #[], .func (.func fc) #[] #[], .int .i64 fk] 201)) none) := Lib.hid ((((Kp.refl w none).alloc _).alloc _).alloc _ |>.alloc _)
  go_enter Tryz.func104, Tryz.ntmps104
  go_wp2_with fail
  refine (hfam _).mono ?_
  rintro e w1 ⟨rfl, rfl⟩
  clear hfam
  go_wp2_with fail
  generalize (((w.alloc (Obj.cells #[.int .i64 ek, .int .i64 ax, .int .i64 ay, .int .i64 bx, .int .i64 bY, .int .i64 cx, .int .i64 cy] 123)).alloc (Obj.cells #[.nilFunc, .nilFunc, .nilFunc, .int .i64 0] 201)).alloc (Obj.cells #[.func (.func fa) #[] #[], .func (.func fb) #[] #[], .func (.func fc) #[] #[], .int .i64 fk] 201)).alloc (Obj.cells #[.func (.func fa) #[] #[], .func (.func fb) #[] #[], .func (.func fc) #[] #[], .int .i64 fk] 201) = X at *
  have CC : Hid (∀ V, Own4 X V (w.heap.size + 1) → (V.cell? ⟨w.heap.size, 0, none⟩ = some (.int .i64 ek) ∧ V.cell? ⟨w.heap.size, 1, none⟩ = some (.int .i64 ax) ∧ V.cell? ⟨w.heap.size, 2, none⟩ = some (.int .i64 ay) ∧ V.cell? ⟨w.heap.size, 3, none⟩ = some (.int .i64 bx) ∧ V.cell? ⟨w.heap.size, 4, none⟩ = some (.int .i64 bY) ∧ V.cell? ⟨w.heap.size, 5, none⟩ = some (.int .i64 cx) ∧ V.cell? ⟨w.heap.size, 6, none⟩ = some (.int .i64 cy)) ∧ (V.cell? ⟨w.heap.size + 1 + 1 + 1, 0, none⟩ = some (.func (.func fa) #[] #[]) ∧ V.cell? ⟨w.heap.size + 1 + 1 + 1, 1, none⟩ = some (.func (.func fb) #[] #[]) ∧ V.cell? ⟨w.heap.size + 1 + 1 + 1, 2, none⟩ = some (.func (.func fc) #[] #[]) ∧ V.cell? ⟨w.heap.size + 1 + 1 + 1, 3, none⟩ = some (.int .i64 fk))) := Lib.hid fun V ⟨kV, _⟩ =>
    ⟨⟨ckr HB0.out kV (by simp) 0 rfl, ckr HB0.out kV (by simp) 1 rfl, ckr HB0.out kV (by simp) 2 rfl, ckr HB0.out kV (by simp) 3 rfl, ckr HB0.out kV (by simp) 4 rfl, ckr HB0.out kV (by simp) 5 rfl, ckr HB0.out kV (by simp) 6 rfl⟩, ⟨ckr HB3.out kV (by simp) 0 rfl, ckr HB3.out kV (by simp) 1 rfl, ckr HB3.out kV (by simp) 2 rfl, ckr HB3.out kV (by simp) 3 rfl⟩⟩
  refine wp_region_held_drew (S := fun V => (V.cell? ⟨w.heap.size, 0, none⟩ = some (.int .i64 ek) ∧ V.cell? ⟨w.heap.size, 1, none⟩ = some (.int .i64 ax) ∧ V.cell? ⟨w.heap.size, 2, none⟩ = some (.int .i64 ay) ∧ V.cell? ⟨w.heap.size, 3, none⟩ = some (.int .i64 bx) ∧ V.cell? ⟨w.heap.size, 4, none⟩ = some (.int .i64 bY) ∧ V.cell? ⟨w.heap.size, 5, none⟩ = some (.int .i64 cx) ∧ V.cell? ⟨w.heap.size, 6, none⟩ = some (.int .i64 cy)) ∧ (V.cell? ⟨w.heap.size + 1 + 1 + 1, 0, none⟩ = some (.func (.func fa) #[] #[]) ∧ V.cell? ⟨w.heap.size + 1 + 1 + 1, 1, none⟩ = some (.func (.func fb) #[] #[]) ∧ V.cell? ⟨w.heap.size + 1 + 1 + 1, 2, none⟩ = some (.func (.func fc) #[] #[]) ∧ V.cell? ⟨w.heap.size + 1 + 1 + 1, 3, none⟩ = some (.int .i64 fk)) ∧ Hid (Own4 X V (w.heap.size + 1))) (by kernel_rfl) ?_ (fun hHeld => ?_)
  · have kk : Own4 X X.drew (w.heap.size + 1) := ⟨(Kp.refl X (some (w.heap.size + 1))).drew, _, _, _, _, HB1.out⟩; exact ⟨(CC.out _ kk).1, (CC.out _ kk).2, Lib.hid kk⟩
  refine tkH 0 rfl ?_ (by intro w hSw; obtain ⟨⟨g0, g1, g2, g3, g4, g5, g6⟩, ⟨g7, g8, g9, g10⟩, g11⟩ := hSw; go_simp <;> with_reducible rfl)
  try simp only [Act.put, sm]
  refine tkH 1 rfl ?_ (by intro w hSw; obtain ⟨⟨g0, g1, g2, g3, g4, g5, g6⟩, ⟨g7, g8, g9, g10⟩, g11⟩ := hSw; go_simp <;> with_reducible rfl)
  try simp only [Act.put, sm]
  refine tkH 2 rfl ?_ (by intro w hSw; obtain ⟨⟨g0, g1, g2, g3, g4, g5, g6⟩, ⟨g7, g8, g9, g10⟩, g11⟩ := hSw; go_simp <;> with_reducible rfl)
  try simp only [Act.put, sm]
  refine tkH 3 rfl ?_ (by intro w hSw; obtain ⟨⟨g0, g1, g2, g3, g4, g5, g6⟩, ⟨g7, g8, g9, g10⟩, g11⟩ := hSw; go_simp <;> with_reducible rfl)
  try simp only [Act.put, sm]
  refine tkH 4 rfl ?_ (by intro w hSw; obtain ⟨⟨g0, g1, g2, g3, g4, g5, g6⟩, ⟨g7, g8, g9, g10⟩, g11⟩ := hSw; go_simp <;> with_reducible rfl)
  try simp only [Act.put, sm]
  refine wpAnyH_ready (rs := [5]) (by kernel_rfl) (by simp) ?_
  refine AllReadyH.cons (o := _) rfl (fun K hK => ?_) AllReadyH.nil
  have gK := hHeld.2.2
  clear hHeld
  go_simp
  refine (HP0.out _).mono ?_
  rintro e w10 ⟨rfl, kk⟩
  have kk2 := gK.out.kp kk
  try go_wp2_with fail
  refine hK.out _ _ ⟨(CC.out _ kk2).1, (CC.out _ kk2).2, Lib.hid kk2⟩ (fun hHeld => ?_)
  clear hK K gK kk kk2
  try simp only [Act.put, sm]
  refine tkH 6 rfl ?_ (by intro w hSw; obtain ⟨⟨g0, g1, g2, g3, g4, g5, g6⟩, ⟨g7, g8, g9, g10⟩, g11⟩ := hSw; go_simp <;> with_reducible rfl)
  try simp only [Act.put, sm]
  refine tkH 7 rfl ?_ (by intro w hSw; obtain ⟨⟨g0, g1, g2, g3, g4, g5, g6⟩, ⟨g7, g8, g9, g10⟩, g11⟩ := hSw; go_simp <;> with_reducible rfl)
  try simp only [Act.put, sm]
  refine tkH 8 rfl ?_ (by intro w hSw; obtain ⟨⟨g0, g1, g2, g3, g4, g5, g6⟩, ⟨g7, g8, g9, g10⟩, g11⟩ := hSw; go_simp <;> with_reducible rfl)
  try simp only [Act.put, sm]
  refine tkH 9 rfl ?_ (by intro w hSw; obtain ⟨⟨g0, g1, g2, g3, g4, g5, g6⟩, ⟨g7, g8, g9, g10⟩, g11⟩ := hSw; go_simp <;> with_reducible rfl)
  try simp only [Act.put, sm]
  refine wpAnyH_ready (rs := [10]) (by kernel_rfl) (by simp) ?_
  refine AllReadyH.cons (o := _) rfl (fun K hK => ?_) AllReadyH.nil
  have gK := hHeld.2.2
  clear hHeld
  go_simp
  refine (HP1.out _).mono ?_
  rintro e w11 ⟨rfl, kk⟩
  have kk2 := gK.out.kp kk
  try go_wp2_with fail
  refine hK.out _ _ ⟨(CC.out _ kk2).1, (CC.out _ kk2).2, Lib.hid kk2⟩ (fun hHeld => ?_)
  clear hK K gK kk kk2
  try simp only [Act.put, sm]
  refine tkH 11 rfl ?_ (by intro w hSw; obtain ⟨⟨g0, g1, g2, g3, g4, g5, g6⟩, ⟨g7, g8, g9, g10⟩, g11⟩ := hSw; go_simp <;> with_reducible rfl)
  try simp only [Act.put, sm]
  refine tkH 12 rfl ?_ (by intro w hSw; obtain ⟨⟨g0, g1, g2, g3, g4, g5, g6⟩, ⟨g7, g8, g9, g10⟩, g11⟩ := hSw; go_simp <;> with_reducible rfl)
  try simp only [Act.put, sm]
  refine tkH 13 rfl ?_ (by intro w hSw; obtain ⟨⟨g0, g1, g2, g3, g4, g5, g6⟩, ⟨g7, g8, g9, g10⟩, g11⟩ := hSw; go_simp <;> with_reducible rfl)
  try simp only [Act.put, sm]
  refine tkH 14 rfl ?_ (by intro w hSw; obtain ⟨⟨g0, g1, g2, g3, g4, g5, g6⟩, ⟨g7, g8, g9, g10⟩, g11⟩ := hSw; go_simp <;> with_reducible rfl)
  try simp only [Act.put, sm]
  refine wpAnyH_ready (rs := [15]) (by kernel_rfl) (by simp) ?_
  refine AllReadyH.cons (o := _) rfl (fun K hK => ?_) AllReadyH.nil
  have gK := hHeld.2.2
  clear hHeld
  go_simp
  refine (HP2.out _).mono ?_
  rintro e w12 ⟨rfl, kk⟩
  have kk2 := gK.out.kp kk
  try go_wp2_with fail
  refine hK.out _ _ ⟨(CC.out _ kk2).1, (CC.out _ kk2).2, Lib.hid kk2⟩ (fun hHeld => ?_)
  clear hK K gK kk kk2
  try simp only [Act.put, sm]
  refine tkH 16 rfl ?_ (by intro w hSw; obtain ⟨⟨g0, g1, g2, g3, g4, g5, g6⟩, ⟨g7, g8, g9, g10⟩, g11⟩ := hSw; go_simp <;> with_reducible rfl)
  try simp only [Act.put, sm]
  refine tkH 17 rfl ?_ (by intro w hSw; obtain ⟨⟨g0, g1, g2, g3, g4, g5, g6⟩, ⟨g7, g8, g9, g10⟩, g11⟩ := hSw; go_simp <;> with_reducible rfl)
  try simp only [Act.put, sm]
  refine tkU 18 rfl ?_
  try simp only [Act.put, sm]
  refine tkU 19 rfl ?_
  try simp only [Act.put, sm]
  refine tkU 20 rfl ?_
  try simp only [Act.put, sm]
  refine tkU 21 rfl ?_
  try simp only [Act.put, sm]
  refine tkH 22 rfl ?_ (by intro w hSw; obtain ⟨⟨g0, g1, g2, g3, g4, g5, g6⟩, ⟨g7, g8, g9, g10⟩, g11⟩ := hSw; go_simp <;> with_reducible rfl)
  try simp only [Act.put, sm]
  refine wpAnyH_ready (rs := [23]) (by kernel_rfl) (by simp) ?_
  refine AllReadyH.cons (o := _) rfl (fun K hK => ?_) AllReadyH.nil
  have gK := hHeld.2.2
  clear hHeld
  obtain ⟨_, a0, a1, a2, a3, hA⟩ := gK.out
  have c0 := Lib.cell_of_heap hA 0
  have c1 := Lib.cell_of_heap hA 1
  have c2 := Lib.cell_of_heap hA 2
  have c3 := Lib.cell_of_heap hA 3
  have f0 := Lib.frozen_of_heap hA 0
  have f1 := Lib.frozen_of_heap hA 1
  have f2 := Lib.frozen_of_heap hA 2
  have f3 := Lib.frozen_of_heap hA 3
  have HST := Lib.hid (gK.out.set (.func (.func fa) #[] #[]) (.func (.func fb) #[] #[]) (.func (.func fc) #[] #[]) (.int .i64 fk))
  clear hA
  go_simp
  try go_wp2_with fail
  refine hK.out _ _ ⟨(CC.out _ HST.out.1).1, (CC.out _ HST.out.1).2, Lib.hid HST.out.1⟩ (fun hHeld => ?_)
  clear hK K gK
  try simp only [Act.put, sm]
  refine wpAnyH_ready (rs := [24]) (by kernel_rfl) (by simp) ?_
  refine AllReadyH.cons (o := _) rfl (fun K hK => ?_) AllReadyH.nil
  clear hHeld
  go_simp
  try go_wp2_with fail
  refine hK.out _ _ ⟨(CC.out _ HST.out.1).1, (CC.out _ HST.out.1).2, Lib.hid HST.out.1⟩ (fun hHeld => ?_)
  clear hK K hHeld
  refine wpAnyH_done (by kernel_rfl) ?_ _
  have hF := HST.out
  generalize ((((w12.setCell ⟨w.heap.size + 1, 0, none⟩ (.func (.func fa) #[] #[])).setCell ⟨w.heap.size + 1, 1, none⟩ (.func (.func fb) #[] #[])).setCell ⟨w.heap.size + 1, 2, none⟩ (.func (.func fc) #[] #[])).setCell ⟨w.heap.size + 1, 3, none⟩ (.int .i64 fk)) = wf at hF ⊢
  clear HST c0 c1 c2 c3 f0 f1 f2 f3
  obtain ⟨hF1, hF2⟩ := hF
  have q0 := Lib.cell_of_heap hF2 0
  have q1 := Lib.cell_of_heap hF2 1
  have q2 := Lib.cell_of_heap hF2 2
  have q3 := Lib.cell_of_heap hF2 3
  simp at q0 q1 q2 q3
  go_wp2_with fail
  try simp only [Exit.inBlock, Exit.then]
  refine bodyPost_ret (v := .tuple #[.agg #[.func (.func fa) #[] #[], .func (.func fb) #[] #[], .func (.func fc) #[] #[], .int .i64 fk], .bool false]) (by simp [results, Tryz.results104, go_sem, q0, q1, q2, q3]) rfl ⟨rfl, HKX.out.row2 hF1.1 (by omega)⟩

set_option maxHeartbeats 8000000 in
set_option maxRecDepth 100000 in
theorem of_g_4 (ek fk ax ay bx bY cx cy : Int) (fa fb fc : Nat) (w : World) (hfam : ∀ V, Calls Tryz.prog 161 #[.int .i64 ek] V fun E w' => E = .returned (.tuple #[.agg #[.func (.func fa) #[] #[], .func (.func fb) #[] #[], .func (.func fc) #[] #[], .int .i64 fk], .bool true]) ∧ w' = V.alloc (.cells #[.func (.func fa) #[] #[], .func (.func fb) #[] #[], .func (.func fc) #[] #[], .int .i64 fk] 201)) (hp0 : ∀ V, Calls Tryz.prog 162 #[.agg #[.int .i64 ax, .int .i64 ay]] V fun E w' => E = .returned (.bool true) ∧ Kp V w' none) (hp1 : ∀ V, Calls Tryz.prog 162 #[.agg #[.int .i64 bx, .int .i64 bY]] V fun E w' => E = .returned (.bool true) ∧ Kp V w' none) (hp2 : ∀ V, Calls Tryz.prog 162 #[.agg #[.int .i64 cx, .int .i64 cy]] V fun E w' => E = .returned (.bool true) ∧ Kp V w' none) (hcf : ∀ args V, (callFunc fa args).run Tryz.prog V = .ok (.enter fa args) V) (r : Bool) (hr : ∀ V, Calls Tryz.prog fa #[.agg #[.int .i64 ek, .int .i64 ax, .int .i64 ay, .int .i64 bx, .int .i64 bY, .int .i64 cx, .int .i64 cy]] V fun E w' => E = .returned (.bool r) ∧ Kp V w' none) :
    Calls Tryz.prog 104 #[.agg #[.int .i64 ek, .int .i64 ax, .int .i64 ay, .int .i64 bx, .int .i64 bY, .int .i64 cx, .int .i64 cy]] w fun E w' => E = .returned (.tuple #[.agg #[.func (.func fa) #[] #[], .func (.func fb) #[] #[], .func (.func fc) #[] #[], .int .i64 fk], .bool r]) ∧ Kp w w' none := by
  have HP0 := Lib.hid hp0
  clear hp0
  have HP1 := Lib.hid hp1
  clear hp1
  have HP2 := Lib.hid hp2
  clear hp2
  have HCF := Lib.hid hcf
  clear hcf
  have HR := Lib.hid hr
  clear hr
  have HB0 : Hid (((((w.alloc (Obj.cells #[.int .i64 ek, .int .i64 ax, .int .i64 ay, .int .i64 bx, .int .i64 bY, .int .i64 cx, .int .i64 cy] 123)).alloc (Obj.cells #[.nilFunc, .nilFunc, .nilFunc, .int .i64 0] 201)).alloc (Obj.cells #[.func (.func fa) #[] #[], .func (.func fb) #[] #[], .func (.func fc) #[] #[], .int .i64 fk] 201)).alloc (Obj.cells #[.func (.func fa) #[] #[], .func (.func fb) #[] #[], .func (.func fc) #[] #[], .int .i64 fk] 201)).heap[w.heap.size]? = some (Obj.cells #[.int .i64 ek, .int .i64 ax, .int .i64 ay, .int .i64 bx, .int .i64 bY, .int .i64 cx, .int .i64 cy] 123)) := Lib.hid (by
    have k1 : Kp (w.alloc (Obj.cells #[.int .i64 ek, .int .i64 ax, .int .i64 ay, .int .i64 bx, .int .i64 bY, .int .i64 cx, .int .i64 cy] 123)) ((((w.alloc (Obj.cells #[.int .i64 ek, .int .i64 ax, .int .i64 ay, .int .i64 bx, .int .i64 bY, .int .i64 cx, .int .i64 cy] 123)).alloc (Obj.cells #[.nilFunc, .nilFunc, .nilFunc, .int .i64 0] 201)).alloc (Obj.cells #[.func (.func fa) #[] #[], .func (.func fb) #[] #[], .func (.func fc) #[] #[], .int .i64 fk] 201)).alloc (Obj.cells #[.func (.func fa) #[] #[], .func (.func fb) #[] #[], .func (.func fc) #[] #[], .int .i64 fk] 201)) none := (((Kp.refl _ none).alloc _).alloc _).alloc _
    exact (k1.block _ (by simp) (by simp)).trans (heap_alloc_new w _))
  have HB1 : Hid (((((w.alloc (Obj.cells #[.int .i64 ek, .int .i64 ax, .int .i64 ay, .int .i64 bx, .int .i64 bY, .int .i64 cx, .int .i64 cy] 123)).alloc (Obj.cells #[.nilFunc, .nilFunc, .nilFunc, .int .i64 0] 201)).alloc (Obj.cells #[.func (.func fa) #[] #[], .func (.func fb) #[] #[], .func (.func fc) #[] #[], .int .i64 fk] 201)).alloc (Obj.cells #[.func (.func fa) #[] #[], .func (.func fb) #[] #[], .func (.func fc) #[] #[], .int .i64 fk] 201)).heap[w.heap.size + 1]? = some (Obj.cells #[.nilFunc, .nilFunc, .nilFunc, .int .i64 0] 201)) := Lib.hid (by
    have k1 : Kp ((w.alloc (Obj.cells #[.int .i64 ek, .int .i64 ax, .int .i64 ay, .int .i64 bx, .int .i64 bY, .int .i64 cx, .int .i64 cy] 123)).alloc (Obj.cells #[.nilFunc, .nilFunc, .nilFunc, .int .i64 0] 201)) ((((w.alloc (Obj.cells #[.int .i64 ek, .int .i64 ax, .int .i64 ay, .int .i64 bx, .int .i64 bY, .int .i64 cx, .int .i64 cy] 123)).alloc (Obj.cells #[.nilFunc, .nilFunc, .nilFunc, .int .i64 0] 201)).alloc (Obj.cells #[.func (.func fa) #[] #[], .func (.func fb) #[] #[], .func (.func fc) #[] #[], .int .i64 fk] 201)).alloc (Obj.cells #[.func (.func fa) #[] #[], .func (.func fb) #[] #[], .func (.func fc) #[] #[], .int .i64 fk] 201)) none := ((Kp.refl _ none).alloc _).alloc _
    exact (k1.block (w.heap.size + 1) (by simp) (by simp)).trans (by have := heap_alloc_new (w.alloc (Obj.cells #[.int .i64 ek, .int .i64 ax, .int .i64 ay, .int .i64 bx, .int .i64 bY, .int .i64 cx, .int .i64 cy] 123)) (Obj.cells #[.nilFunc, .nilFunc, .nilFunc, .int .i64 0] 201); simpa using this))
  have HB3 : Hid (((((w.alloc (Obj.cells #[.int .i64 ek, .int .i64 ax, .int .i64 ay, .int .i64 bx, .int .i64 bY, .int .i64 cx, .int .i64 cy] 123)).alloc (Obj.cells #[.nilFunc, .nilFunc, .nilFunc, .int .i64 0] 201)).alloc (Obj.cells #[.func (.func fa) #[] #[], .func (.func fb) #[] #[], .func (.func fc) #[] #[], .int .i64 fk] 201)).alloc (Obj.cells #[.func (.func fa) #[] #[], .func (.func fb) #[] #[], .func (.func fc) #[] #[], .int .i64 fk] 201)).heap[w.heap.size + 1 + 1 + 1]? = some (Obj.cells #[.func (.func fa) #[] #[], .func (.func fb) #[] #[], .func (.func fc) #[] #[], .int .i64 fk] 201)) := Lib.hid (by
    have := heap_alloc_new (((w.alloc (Obj.cells #[.int .i64 ek, .int .i64 ax, .int .i64 ay, .int .i64 bx, .int .i64 bY, .int .i64 cx, .int .i64 cy] 123)).alloc (Obj.cells #[.nilFunc, .nilFunc, .nilFunc, .int .i64 0] 201)).alloc (Obj.cells #[.func (.func fa) #[] #[], .func (.func fb) #[] #[], .func (.func fc) #[] #[], .int .i64 fk] 201)) (Obj.cells #[.func (.func fa) #[] #[], .func (.func fb) #[] #[], .func (.func fc) #[] #[], .int .i64 fk] 201)
    simpa using this)
  have HKX : Hid (Kp w ((((w.alloc (Obj.cells #[.int .i64 ek, .int .i64 ax, .int .i64 ay, .int .i64 bx, .int .i64 bY, .int .i64 cx, .int .i64 cy] 123)).alloc (Obj.cells #[.nilFunc, .nilFunc, .nilFunc, .int .i64 0] 201)).alloc (Obj.cells #[.func (.func fa) #[] #[], .func (.func fb) #[] #[], .func (.func fc) #[] #[], .int .i64 fk] 201)).alloc (Obj.cells #[.func (.func fa) #[] #[], .func (.func fb) #[] #[], .func (.func fc) #[] #[], .int .i64 fk] 201)) none) := Lib.hid ((((Kp.refl w none).alloc _).alloc _).alloc _ |>.alloc _)
  go_enter Tryz.func104, Tryz.ntmps104
  go_wp2_with fail
  refine (hfam _).mono ?_
  rintro e w1 ⟨rfl, rfl⟩
  clear hfam
  go_wp2_with fail
  generalize (((w.alloc (Obj.cells #[.int .i64 ek, .int .i64 ax, .int .i64 ay, .int .i64 bx, .int .i64 bY, .int .i64 cx, .int .i64 cy] 123)).alloc (Obj.cells #[.nilFunc, .nilFunc, .nilFunc, .int .i64 0] 201)).alloc (Obj.cells #[.func (.func fa) #[] #[], .func (.func fb) #[] #[], .func (.func fc) #[] #[], .int .i64 fk] 201)).alloc (Obj.cells #[.func (.func fa) #[] #[], .func (.func fb) #[] #[], .func (.func fc) #[] #[], .int .i64 fk] 201) = X at *
  have CC : Hid (∀ V, Own4 X V (w.heap.size + 1) → (V.cell? ⟨w.heap.size, 0, none⟩ = some (.int .i64 ek) ∧ V.cell? ⟨w.heap.size, 1, none⟩ = some (.int .i64 ax) ∧ V.cell? ⟨w.heap.size, 2, none⟩ = some (.int .i64 ay) ∧ V.cell? ⟨w.heap.size, 3, none⟩ = some (.int .i64 bx) ∧ V.cell? ⟨w.heap.size, 4, none⟩ = some (.int .i64 bY) ∧ V.cell? ⟨w.heap.size, 5, none⟩ = some (.int .i64 cx) ∧ V.cell? ⟨w.heap.size, 6, none⟩ = some (.int .i64 cy)) ∧ (V.cell? ⟨w.heap.size + 1 + 1 + 1, 0, none⟩ = some (.func (.func fa) #[] #[]) ∧ V.cell? ⟨w.heap.size + 1 + 1 + 1, 1, none⟩ = some (.func (.func fb) #[] #[]) ∧ V.cell? ⟨w.heap.size + 1 + 1 + 1, 2, none⟩ = some (.func (.func fc) #[] #[]) ∧ V.cell? ⟨w.heap.size + 1 + 1 + 1, 3, none⟩ = some (.int .i64 fk))) := Lib.hid fun V ⟨kV, _⟩ =>
    ⟨⟨ckr HB0.out kV (by simp) 0 rfl, ckr HB0.out kV (by simp) 1 rfl, ckr HB0.out kV (by simp) 2 rfl, ckr HB0.out kV (by simp) 3 rfl, ckr HB0.out kV (by simp) 4 rfl, ckr HB0.out kV (by simp) 5 rfl, ckr HB0.out kV (by simp) 6 rfl⟩, ⟨ckr HB3.out kV (by simp) 0 rfl, ckr HB3.out kV (by simp) 1 rfl, ckr HB3.out kV (by simp) 2 rfl, ckr HB3.out kV (by simp) 3 rfl⟩⟩
  refine wp_region_held_drew (S := fun V => (V.cell? ⟨w.heap.size, 0, none⟩ = some (.int .i64 ek) ∧ V.cell? ⟨w.heap.size, 1, none⟩ = some (.int .i64 ax) ∧ V.cell? ⟨w.heap.size, 2, none⟩ = some (.int .i64 ay) ∧ V.cell? ⟨w.heap.size, 3, none⟩ = some (.int .i64 bx) ∧ V.cell? ⟨w.heap.size, 4, none⟩ = some (.int .i64 bY) ∧ V.cell? ⟨w.heap.size, 5, none⟩ = some (.int .i64 cx) ∧ V.cell? ⟨w.heap.size, 6, none⟩ = some (.int .i64 cy)) ∧ (V.cell? ⟨w.heap.size + 1 + 1 + 1, 0, none⟩ = some (.func (.func fa) #[] #[]) ∧ V.cell? ⟨w.heap.size + 1 + 1 + 1, 1, none⟩ = some (.func (.func fb) #[] #[]) ∧ V.cell? ⟨w.heap.size + 1 + 1 + 1, 2, none⟩ = some (.func (.func fc) #[] #[]) ∧ V.cell? ⟨w.heap.size + 1 + 1 + 1, 3, none⟩ = some (.int .i64 fk)) ∧ Hid (Own4 X V (w.heap.size + 1))) (by kernel_rfl) ?_ (fun hHeld => ?_)
  · have kk : Own4 X X.drew (w.heap.size + 1) := ⟨(Kp.refl X (some (w.heap.size + 1))).drew, _, _, _, _, HB1.out⟩; exact ⟨(CC.out _ kk).1, (CC.out _ kk).2, Lib.hid kk⟩
  refine tkH 0 rfl ?_ (by intro w hSw; obtain ⟨⟨g0, g1, g2, g3, g4, g5, g6⟩, ⟨g7, g8, g9, g10⟩, g11⟩ := hSw; go_simp <;> with_reducible rfl)
  try simp only [Act.put, sm]
  refine tkH 1 rfl ?_ (by intro w hSw; obtain ⟨⟨g0, g1, g2, g3, g4, g5, g6⟩, ⟨g7, g8, g9, g10⟩, g11⟩ := hSw; go_simp <;> with_reducible rfl)
  try simp only [Act.put, sm]
  refine tkH 2 rfl ?_ (by intro w hSw; obtain ⟨⟨g0, g1, g2, g3, g4, g5, g6⟩, ⟨g7, g8, g9, g10⟩, g11⟩ := hSw; go_simp <;> with_reducible rfl)
  try simp only [Act.put, sm]
  refine tkH 3 rfl ?_ (by intro w hSw; obtain ⟨⟨g0, g1, g2, g3, g4, g5, g6⟩, ⟨g7, g8, g9, g10⟩, g11⟩ := hSw; go_simp <;> with_reducible rfl)
  try simp only [Act.put, sm]
  refine tkH 4 rfl ?_ (by intro w hSw; obtain ⟨⟨g0, g1, g2, g3, g4, g5, g6⟩, ⟨g7, g8, g9, g10⟩, g11⟩ := hSw; go_simp <;> with_reducible rfl)
  try simp only [Act.put, sm]
  refine wpAnyH_ready (rs := [5]) (by kernel_rfl) (by simp) ?_
  refine AllReadyH.cons (o := _) rfl (fun K hK => ?_) AllReadyH.nil
  have gK := hHeld.2.2
  clear hHeld
  go_simp
  refine (HP0.out _).mono ?_
  rintro e w10 ⟨rfl, kk⟩
  have kk2 := gK.out.kp kk
  try go_wp2_with fail
  refine hK.out _ _ ⟨(CC.out _ kk2).1, (CC.out _ kk2).2, Lib.hid kk2⟩ (fun hHeld => ?_)
  clear hK K gK kk kk2
  try simp only [Act.put, sm]
  refine tkH 6 rfl ?_ (by intro w hSw; obtain ⟨⟨g0, g1, g2, g3, g4, g5, g6⟩, ⟨g7, g8, g9, g10⟩, g11⟩ := hSw; go_simp <;> with_reducible rfl)
  try simp only [Act.put, sm]
  refine tkH 7 rfl ?_ (by intro w hSw; obtain ⟨⟨g0, g1, g2, g3, g4, g5, g6⟩, ⟨g7, g8, g9, g10⟩, g11⟩ := hSw; go_simp <;> with_reducible rfl)
  try simp only [Act.put, sm]
  refine tkH 8 rfl ?_ (by intro w hSw; obtain ⟨⟨g0, g1, g2, g3, g4, g5, g6⟩, ⟨g7, g8, g9, g10⟩, g11⟩ := hSw; go_simp <;> with_reducible rfl)
  try simp only [Act.put, sm]
  refine tkH 9 rfl ?_ (by intro w hSw; obtain ⟨⟨g0, g1, g2, g3, g4, g5, g6⟩, ⟨g7, g8, g9, g10⟩, g11⟩ := hSw; go_simp <;> with_reducible rfl)
  try simp only [Act.put, sm]
  refine wpAnyH_ready (rs := [10]) (by kernel_rfl) (by simp) ?_
  refine AllReadyH.cons (o := _) rfl (fun K hK => ?_) AllReadyH.nil
  have gK := hHeld.2.2
  clear hHeld
  go_simp
  refine (HP1.out _).mono ?_
  rintro e w11 ⟨rfl, kk⟩
  have kk2 := gK.out.kp kk
  try go_wp2_with fail
  refine hK.out _ _ ⟨(CC.out _ kk2).1, (CC.out _ kk2).2, Lib.hid kk2⟩ (fun hHeld => ?_)
  clear hK K gK kk kk2
  try simp only [Act.put, sm]
  refine tkH 11 rfl ?_ (by intro w hSw; obtain ⟨⟨g0, g1, g2, g3, g4, g5, g6⟩, ⟨g7, g8, g9, g10⟩, g11⟩ := hSw; go_simp <;> with_reducible rfl)
  try simp only [Act.put, sm]
  refine tkH 12 rfl ?_ (by intro w hSw; obtain ⟨⟨g0, g1, g2, g3, g4, g5, g6⟩, ⟨g7, g8, g9, g10⟩, g11⟩ := hSw; go_simp <;> with_reducible rfl)
  try simp only [Act.put, sm]
  refine tkH 13 rfl ?_ (by intro w hSw; obtain ⟨⟨g0, g1, g2, g3, g4, g5, g6⟩, ⟨g7, g8, g9, g10⟩, g11⟩ := hSw; go_simp <;> with_reducible rfl)
  try simp only [Act.put, sm]
  refine tkH 14 rfl ?_ (by intro w hSw; obtain ⟨⟨g0, g1, g2, g3, g4, g5, g6⟩, ⟨g7, g8, g9, g10⟩, g11⟩ := hSw; go_simp <;> with_reducible rfl)
  try simp only [Act.put, sm]
  refine wpAnyH_ready (rs := [15]) (by kernel_rfl) (by simp) ?_
  refine AllReadyH.cons (o := _) rfl (fun K hK => ?_) AllReadyH.nil
  have gK := hHeld.2.2
  clear hHeld
  go_simp
  refine (HP2.out _).mono ?_
  rintro e w12 ⟨rfl, kk⟩
  have kk2 := gK.out.kp kk
  try go_wp2_with fail
  refine hK.out _ _ ⟨(CC.out _ kk2).1, (CC.out _ kk2).2, Lib.hid kk2⟩ (fun hHeld => ?_)
  clear hK K gK kk kk2
  try simp only [Act.put, sm]
  refine tkH 16 rfl ?_ (by intro w hSw; obtain ⟨⟨g0, g1, g2, g3, g4, g5, g6⟩, ⟨g7, g8, g9, g10⟩, g11⟩ := hSw; go_simp <;> with_reducible rfl)
  try simp only [Act.put, sm]
  refine tkH 17 rfl ?_ (by intro w hSw; obtain ⟨⟨g0, g1, g2, g3, g4, g5, g6⟩, ⟨g7, g8, g9, g10⟩, g11⟩ := hSw; go_simp <;> with_reducible rfl)
  try simp only [Act.put, sm]
  refine tkH 18 rfl ?_ (by intro w hSw; obtain ⟨⟨g0, g1, g2, g3, g4, g5, g6⟩, ⟨g7, g8, g9, g10⟩, g11⟩ := hSw; go_simp <;> with_reducible rfl)
  try simp only [Act.put, sm]
  refine tkH 19 rfl ?_ (by intro w hSw; obtain ⟨⟨g0, g1, g2, g3, g4, g5, g6⟩, ⟨g7, g8, g9, g10⟩, g11⟩ := hSw; go_simp <;> with_reducible rfl)
  try simp only [Act.put, sm]
  refine tkH 20 rfl ?_ (by intro w hSw; obtain ⟨⟨g0, g1, g2, g3, g4, g5, g6⟩, ⟨g7, g8, g9, g10⟩, g11⟩ := hSw; go_simp <;> with_reducible rfl)
  try simp only [Act.put, sm]
  refine wpAnyH_ready (rs := [21]) (by kernel_rfl) (by simp) ?_
  refine AllReadyH.cons (o := _) rfl (fun K hK => ?_) AllReadyH.nil
  have gK := hHeld.2.2
  clear hHeld
  go_simp
  rw [HCF.out, Oper.upon_enter]
  refine (HR.out _).mono ?_
  rintro e w20 ⟨rfl, kk⟩
  have kk2 := gK.out.kp kk
  try go_wp2_with fail
  refine hK.out _ _ ⟨(CC.out _ kk2).1, (CC.out _ kk2).2, Lib.hid kk2⟩ (fun hHeld => ?_)
  clear hK K gK kk kk2
  try simp only [Act.put, sm]
  refine tkH 22 rfl ?_ (by intro w hSw; obtain ⟨⟨g0, g1, g2, g3, g4, g5, g6⟩, ⟨g7, g8, g9, g10⟩, g11⟩ := hSw; go_simp <;> with_reducible rfl)
  try simp only [Act.put, sm]
  refine wpAnyH_ready (rs := [23]) (by kernel_rfl) (by simp) ?_
  refine AllReadyH.cons (o := _) rfl (fun K hK => ?_) AllReadyH.nil
  have gK := hHeld.2.2
  clear hHeld
  obtain ⟨_, a0, a1, a2, a3, hA⟩ := gK.out
  have c0 := Lib.cell_of_heap hA 0
  have c1 := Lib.cell_of_heap hA 1
  have c2 := Lib.cell_of_heap hA 2
  have c3 := Lib.cell_of_heap hA 3
  have f0 := Lib.frozen_of_heap hA 0
  have f1 := Lib.frozen_of_heap hA 1
  have f2 := Lib.frozen_of_heap hA 2
  have f3 := Lib.frozen_of_heap hA 3
  have HST := Lib.hid (gK.out.set (.func (.func fa) #[] #[]) (.func (.func fb) #[] #[]) (.func (.func fc) #[] #[]) (.int .i64 fk))
  clear hA
  go_simp
  try go_wp2_with fail
  refine hK.out _ _ ⟨(CC.out _ HST.out.1).1, (CC.out _ HST.out.1).2, Lib.hid HST.out.1⟩ (fun hHeld => ?_)
  clear hK K gK
  try simp only [Act.put, sm]
  refine wpAnyH_ready (rs := [24]) (by kernel_rfl) (by simp) ?_
  refine AllReadyH.cons (o := _) rfl (fun K hK => ?_) AllReadyH.nil
  clear hHeld
  go_simp
  try go_wp2_with fail
  refine hK.out _ _ ⟨(CC.out _ HST.out.1).1, (CC.out _ HST.out.1).2, Lib.hid HST.out.1⟩ (fun hHeld => ?_)
  clear hK K hHeld
  refine wpAnyH_done (by kernel_rfl) ?_ _
  have hF := HST.out
  generalize ((((w20.setCell ⟨w.heap.size + 1, 0, none⟩ (.func (.func fa) #[] #[])).setCell ⟨w.heap.size + 1, 1, none⟩ (.func (.func fb) #[] #[])).setCell ⟨w.heap.size + 1, 2, none⟩ (.func (.func fc) #[] #[])).setCell ⟨w.heap.size + 1, 3, none⟩ (.int .i64 fk)) = wf at hF ⊢
  clear HST c0 c1 c2 c3 f0 f1 f2 f3
  obtain ⟨hF1, hF2⟩ := hF
  have q0 := Lib.cell_of_heap hF2 0
  have q1 := Lib.cell_of_heap hF2 1
  have q2 := Lib.cell_of_heap hF2 2
  have q3 := Lib.cell_of_heap hF2 3
  simp at q0 q1 q2 q3
  go_wp2_with fail
  try simp only [Exit.inBlock, Exit.then]
  refine bodyPost_ret (v := .tuple #[.agg #[.func (.func fa) #[] #[], .func (.func fb) #[] #[], .func (.func fc) #[] #[], .int .i64 fk], .bool r]) (by simp [results, Tryz.results104, go_sem, q0, q1, q2, q3]) rfl ⟨rfl, HKX.out.row2 hF1.1 (by omega)⟩

end Go.Proofs.YtljjbdbgedmadaaGreatDoor
