/- Points that numbers choose (Near). Condition: a width of at most 1000.
   The reference's motions (Apply), and its arcs (Arc). Condition: coordinates of at most 2^26. -/
import Derived.Test.YtljjbdbgedmadaaGreatDoorPt
import Derived.Test.YtljjbdbgedmadaaGreatDoorHs
import Derived.Test.YtljjbdbgedmadaaGreatDoorPlA
namespace Go.Proofs.YtljjbdbgedmadaaGreatDoor
open Go.RowKit
def Small (b x : Int) : Prop := -b ≤ x ∧ x ≤ b
theorem DrawAt.kp {D : Nat} {ao : Option Addr} {n cap : Nat} {w w' : World} (h : DrawAt D ao n cap w) (k : Kp w w' none) : DrawAt D ao n cap w' := by
 obtain ⟨a, hb, ha⟩ := h
 exact ⟨a, (k.block D (lt_of_block hb) (by simp)).trans hb, ha⟩
theorem DrawAt.lt {D : Nat} {ao : Option Addr} {n cap : Nat} {w : World} (h : DrawAt D ao n cap w) : D < w.heap.size := by
 obtain ⟨a, hb, ha⟩ := h; exact lt_of_block hb
set_option maxHeartbeats 4000000
set_option maxRecDepth 100000
theorem turn_abs (t : Int) (p : Pl.Pt) (h1 : Mid p.x) (h2 : Mid p.y) : Mid (Pl.turn t p).x ∧ Mid (Pl.turn t p).y := by
 unfold Mid Pl.turn at *
 split
 ·exact ⟨by dsimp only; omega, by dsimp only; omega⟩
 ·split
  ·exact ⟨by dsimp only; omega, by dsimp only; omega⟩
  ·split
   ·exact ⟨by dsimp only; omega, by dsimp only; omega⟩
   ·exact ⟨h1, h2⟩
theorem neg_mid {x : Int} (m : Bool) (h : Mid x) : Mid (if m then -x else x) := by unfold Mid at *; split <;> omega
theorem rapply_any (ax ay px py t : Int) (m : Bool) (w : World) (h1 : Mid ax) (h2 : Mid ay) (h3 : Mid px) (h4 : Mid py) :
  Calls Tryz.prog 136 #[.agg #[I6 ax, I6 ay, I6 t, .bool m], .agg #[I6 px, I6 py]] w fun E w' => E = .returned (.agg #[I6 (Pl.apply ⟨⟨ax, ay⟩, t, m⟩ ⟨px, py⟩).x, I6 (Pl.apply ⟨⟨ax, ay⟩, t, m⟩ ⟨px, py⟩).y]) ∧ Kp w w' none := by
 have ht := turn_abs t ⟨if m then -px else px, py⟩ (neg_mid m h3) h4
 have HM : Mid px ∧ Mid (if m then -px else px) ∧ Mid py ∧ Mid (Pl.turn t ⟨if m then -px else px, py⟩).x ∧ Mid (Pl.turn t ⟨if m then -px else px, py⟩).y ∧ Mid ax ∧ Mid ay := ⟨h3, neg_mid m h3, h4, ht.1, ht.2, h1, h2⟩
 have H1 := oh (fun V => mirrored_any px py m V HM.1)
 have H2 := oh (fun V => turned_any (if m then -px else px) py t V HM.2.1 HM.2.2.1)
 have H3 := oh (fun V => radd_any _ _ _ _ V HM.2.2.2.1 HM.2.2.2.2.1 HM.2.2.2.2.2.1 HM.2.2.2.2.2.2)
 clear h1 h2 h3 h4 ht HM; unfold Pl.apply Pl.add; dsimp only
 generalize (Pl.turn t ⟨if m then -px else px, py⟩).x = tx at *
 generalize (Pl.turn t ⟨if m then -px else px, py⟩).y = ty at *
 generalize (if m then -px else px) = mx at *
 go_enter Tryz.func136, Tryz.ntmps136
 go_wp2_with fail
 have HB0 : Hid ((((w.alloc (.cells #[I6 ax, I6 ay, I6 t, .bool m] 44)).alloc (.cells #[I6 px, I6 py] 42)).alloc (.cells #[I6 0, I6 0] 42)).heap[w.heap.size]? = some (.cells #[I6 ax, I6 ay, I6 t, .bool m] 44 (0, 0))) := oh (by rw [Below.heap_alloc _ _ _ (by simp; omega), Below.heap_alloc _ _ _ (by simp)]; exact heap_alloc_new _ _)
 have HB1 : Hid ((((w.alloc (.cells #[I6 ax, I6 ay, I6 t, .bool m] 44)).alloc (.cells #[I6 px, I6 py] 42)).alloc (.cells #[I6 0, I6 0] 42)).heap[w.heap.size + 1]? = some (.cells #[I6 px, I6 py] 42 (0, 0))) := oh (by rw [Below.heap_alloc _ _ _ (by simp)]; have h := heap_alloc_new (w.alloc (.cells #[I6 ax, I6 ay, I6 t, .bool m] 44)) (.cells #[I6 px, I6 py] 42); simpa using h)
 have HRES : Hid ((((w.alloc (.cells #[I6 ax, I6 ay, I6 t, .bool m] 44)).alloc (.cells #[I6 px, I6 py] 42)).alloc (.cells #[I6 0, I6 0] 42)).heap[w.heap.size + 1 + 1]? = some (.cells #[I6 0, I6 0] 42 (0, 0))) := oh (by have h := heap_alloc_new ((w.alloc (.cells #[I6 ax, I6 ay, I6 t, .bool m] 44)).alloc (.cells #[I6 px, I6 py] 42)) (.cells #[I6 0, I6 0] 42); simpa using h)
 have KB : Hid (Kp w (((w.alloc (.cells #[I6 ax, I6 ay, I6 t, .bool m] 44)).alloc (.cells #[I6 px, I6 py] 42)).alloc (.cells #[I6 0, I6 0] 42)) none) := oh ((((Kp.refl w none).alloc _).alloc _).alloc _)
 generalize hBB : ((w.alloc (.cells #[I6 ax, I6 ay, I6 t, .bool m] 44)).alloc (.cells #[I6 px, I6 py] 42)).alloc (.cells #[I6 0, I6 0] 42) = BB at *
 clear hBB; refine wp_region_held_drew (S := fun V => V.cell? ⟨w.heap.size, 0, none⟩ = some (I6 ax) ∧ V.cell? ⟨w.heap.size, 1, none⟩ = some (I6 ay) ∧ V.cell? ⟨w.heap.size, 2, none⟩ = some (I6 t) ∧ V.cell? ⟨w.heap.size, 3, none⟩ = some (.bool m) ∧ V.cell? ⟨(w.heap.size + 1), 0, none⟩ = some (I6 px) ∧ V.cell? ⟨(w.heap.size + 1), 1, none⟩ = some (I6 py) ∧ Hid (∃ y0 y1, V.heap[w.heap.size + 1 + 1]? = some (.cells #[y0, y1] 42 (0, 0))) ∧ Hid (Kp BB V (some (w.heap.size + 1 + 1)))) (by kernel_rfl) ?_ (fun eh => ?_)
 ·exact ⟨ckr HB0.out ((Kp.refl BB (some (w.heap.size + 1 + 1))).drew) (by simp <;> omega) 0 rfl, ckr HB0.out ((Kp.refl BB (some (w.heap.size + 1 + 1))).drew) (by simp <;> omega) 1 rfl, ckr HB0.out ((Kp.refl BB (some (w.heap.size + 1 + 1))).drew) (by simp <;> omega) 2 rfl, ckr HB0.out ((Kp.refl BB (some (w.heap.size + 1 + 1))).drew) (by simp <;> omega) 3 rfl, ckr HB1.out ((Kp.refl BB (some (w.heap.size + 1 + 1))).drew) (by simp <;> omega) 0 rfl, ckr HB1.out ((Kp.refl BB (some (w.heap.size + 1 + 1))).drew) (by simp <;> omega) 1 rfl, oh ⟨_, _, HRES.out⟩, oh ((Kp.refl BB (some (w.heap.size + 1 + 1))).drew)⟩
 refine tjH 0 rfl ?_; refine tjH 1 rfl ?_; refine tjH 2 rfl ?_; refine tjH 4 rfl ?_; refine tjH 5 rfl ?_; refine tjH 7 rfl ?_; refine tjH 8 rfl ?_; refine rdH 3 rfl (fun K hK => ?_); have gK := eh.2.2.2.2.2.2.2; have gT := eh.2.2.2.2.2.2.1; clear eh; go_simp
 refine (H1.out _).mono ?_
 rintro e w23 ⟨rfl, kk⟩; try go_wp2_with fail
 refine hK.out _ _ ?_ (fun eh => ?_)
 ·exact ⟨ckr HB0.out (gK.out.trans (kk.weak _)) (by simp <;> omega) 0 rfl, ckr HB0.out (gK.out.trans (kk.weak _)) (by simp <;> omega) 1 rfl, ckr HB0.out (gK.out.trans (kk.weak _)) (by simp <;> omega) 2 rfl, ckr HB0.out (gK.out.trans (kk.weak _)) (by simp <;> omega) 3 rfl, ckr HB1.out (gK.out.trans (kk.weak _)) (by simp <;> omega) 0 rfl, ckr HB1.out (gK.out.trans (kk.weak _)) (by simp <;> omega) 1 rfl, oh (by obtain ⟨y0, y1, h⟩ := gT.out; exact ⟨y0, y1, (kk.block _ (lt_of_block h) (by simp)).trans h⟩), oh (gK.out.trans (kk.weak _))⟩
 clear hK K gK; try simp only [Act.put, sm]
 refine rdH 6 rfl (fun K hK => ?_); have gK := eh.2.2.2.2.2.2.2; have gT := eh.2.2.2.2.2.2.1; clear eh; go_simp
 refine (H2.out _).mono ?_
 rintro e w26 ⟨rfl, kk⟩; try go_wp2_with fail
 refine hK.out _ _ ?_ (fun eh => ?_)
 ·exact ⟨ckr HB0.out (gK.out.trans (kk.weak _)) (by simp <;> omega) 0 rfl, ckr HB0.out (gK.out.trans (kk.weak _)) (by simp <;> omega) 1 rfl, ckr HB0.out (gK.out.trans (kk.weak _)) (by simp <;> omega) 2 rfl, ckr HB0.out (gK.out.trans (kk.weak _)) (by simp <;> omega) 3 rfl, ckr HB1.out (gK.out.trans (kk.weak _)) (by simp <;> omega) 0 rfl, ckr HB1.out (gK.out.trans (kk.weak _)) (by simp <;> omega) 1 rfl, oh (by obtain ⟨y0, y1, h⟩ := gT.out; exact ⟨y0, y1, (kk.block _ (lt_of_block h) (by simp)).trans h⟩), oh (gK.out.trans (kk.weak _))⟩
 clear hK K gK; try simp only [Act.put, sm]
 refine rdH 9 rfl (fun K hK => ?_); have gK := eh.2.2.2.2.2.2.2; have gT := eh.2.2.2.2.2.2.1; clear eh; go_simp
 refine (H3.out _).mono ?_
 rintro e w29 ⟨rfl, kk⟩; try go_wp2_with fail
 refine hK.out _ _ ?_ (fun eh => ?_)
 ·exact ⟨ckr HB0.out (gK.out.trans (kk.weak _)) (by simp <;> omega) 0 rfl, ckr HB0.out (gK.out.trans (kk.weak _)) (by simp <;> omega) 1 rfl, ckr HB0.out (gK.out.trans (kk.weak _)) (by simp <;> omega) 2 rfl, ckr HB0.out (gK.out.trans (kk.weak _)) (by simp <;> omega) 3 rfl, ckr HB1.out (gK.out.trans (kk.weak _)) (by simp <;> omega) 0 rfl, ckr HB1.out (gK.out.trans (kk.weak _)) (by simp <;> omega) 1 rfl, oh (by obtain ⟨y0, y1, h⟩ := gT.out; exact ⟨y0, y1, (kk.block _ (lt_of_block h) (by simp)).trans h⟩), oh (gK.out.trans (kk.weak _))⟩
 clear hK K gK; try simp only [Act.put, sm]
 refine rdH 10 rfl (fun K hK => ?_); have gK := eh.2.2.2.2.2.2.2; obtain ⟨y0, y1, gh⟩ := eh.2.2.2.2.2.2.1.out; have GH := oh gh
 have f0 := fz gh 0
 have f1 := fz gh 1
 have c0 := Lib.cell_of_heap gh 0
 have c1 := Lib.cell_of_heap gh 1
 simp at c0 c1
 clear eh gh; go_simp; try go_wp2_with fail
 have h1 := heap_set (o := 0) (v := I6 (tx + ax)) GH.out
 have h2 := heap_set (o := 1) (v := I6 (ty + ay)) h1
 have kk := (((Kp.refl w29 (some (w.heap.size + 1 + 1))).set (o := 0) (I6 (tx + ax))).set (o := 1) (I6 (ty + ay)))
 refine hK.out _ _ ?_ (fun eh => ?_)
 ·exact ⟨ckr HB0.out (gK.out.trans kk) (by simp <;> omega) 0 rfl, ckr HB0.out (gK.out.trans kk) (by simp <;> omega) 1 rfl, ckr HB0.out (gK.out.trans kk) (by simp <;> omega) 2 rfl, ckr HB0.out (gK.out.trans kk) (by simp <;> omega) 3 rfl, ckr HB1.out (gK.out.trans kk) (by simp <;> omega) 0 rfl, ckr HB1.out (gK.out.trans kk) (by simp <;> omega) 1 rfl, oh ⟨_, _, h2⟩, oh (gK.out.trans kk)⟩
 have q0 := Lib.cell_of_heap h2 0
 have q1 := Lib.cell_of_heap h2 1
 simp at q0 q1
 have KF := oh (KB.out.of_own (gK.out.trans kk) (by omega))
 clear hK K eh h1 h2 kk f0 f1 c0 c1 gK
 generalize ((w29.setCell ⟨w.heap.size + 1 + 1, 0, none⟩ (I6 (tx + ax))).setCell ⟨w.heap.size + 1 + 1, 1, none⟩ (I6 (ty + ay))) = wf at *
 refine wpAnyH_done (by kernel_rfl) ?_ _
 go_wp2_with fail
 exact bodyPost_ret (v := .agg #[I6 (tx + ax), I6 (ty + ay)]) (by simp [results, Tryz.results136, go_sem, q0, q1]) rfl ⟨rfl, KF.out⟩
end Go.Proofs.YtljjbdbgedmadaaGreatDoor
