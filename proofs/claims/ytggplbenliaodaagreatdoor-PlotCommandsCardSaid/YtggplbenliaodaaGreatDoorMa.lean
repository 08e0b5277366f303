/- Shapes that numbers choose (Made). No condition. -/
import Derived.Test.YtggplbenliaodaaGreatDoorPa
namespace Go.Proofs.YtggplbenliaodaaGreatDoor
open Go.RowKit

/-- A shape that is right, and small. -/
def FineSh (w : World) (E : Ending) (w' : World) : Prop := ∃ (s : Pl.Sh) (ea : Option Addr) (ec : Nat), Pl.Fine s ∧ E = .returned (.agg #[.int .i64 s.k, .slice ea s.es.length ec, .int .i64 s.r]) ∧ LiesAt 7 edC w' ea ec s.es ∧ (∀ p, ea = some p → w.heap.size ≤ p.block) ∧ Kp w w' none
theorem ShapeIs.fine {w w' : World} {s : Pl.Sh} {E : Ending} (hf : Pl.Fine s) (h : ShapeIs w s E w') : FineSh w E w' := by
  obtain ⟨ao, cap, h1, h2, h3, h4⟩ := h
  exact ⟨s, ao, cap, hf, h1, h2, h3, h4⟩
theorem pts_one (w : World) (x y : Int) : IsList 2 ptC (w.alloc (Obj.cells #[.int .i64 x, .int .i64 y] 37)) (.slice (some ⟨w.heap.size, 0, none⟩) 1 1) [⟨x, y⟩] := by
  refine .inr ⟨w.heap.size, 0, 1, rfl, by simp, by simp, fun k hk j hj => ?_⟩
  simp at hk; subst hk
  have hj' : j = 0 ∨ j = 1 := by
    have : j < 2 := by simpa [ptC] using hj
    omega
  rcases hj' with rfl | rfl <;> exact hcell (heap_alloc_new w _) _ rfl
theorem pt_one : ∀ x : Pl.Pt, ∀ u ∈ ptC x, u.oneCell' = true := by intro x q hq; simp [ptC] at hq; rcases hq with rfl | rfl <;> rfl
def LpRel (ao : Option Addr) (n cap : Nat) (w : World) (NB A : Nat) (x y : Int) (m : Nat) (v i : Value) (wr : World) : Prop := ∃ (k : Nat) (ps : List Pl.Pt), k ≤ m ∧ i = .int .i64 k ∧ ps.length = k ∧ (∀ p ∈ ps, Pl.Lim 1000 p) ∧ Kp w wr none ∧ wr.heap[w.heap.size]? = some (Obj.cells #[.int .i64 0, .slice none 0 0, .int .i64 0] 25 (0, 0)) ∧ wr.heap[A]? = some (.cells #[.int .i64 x, .int .i64 y] 37 (0, 0)) ∧ DrawAt (w.heap.size + 1) ao n cap wr ∧ NB ≤ wr.heap.size ∧ wr.ownsRow NB 37 2 v k (ps.flatMap ptC)
set_option maxHeartbeats 16000000 in
set_option maxRecDepth 100000 in
theorem made_any (l : List Int) (n : Nat) (hn : l.length = n) (ao : Option Addr) (cap : Nat) (w : World) (hl : LiesAt 1 intVal w ao cap l) (hn2 : LenOk n) :
    Calls Tryz.prog 21 #[.slice ao n cap] w (FineSh w) := by
  have HNX := Lib.hid (fun m V (hm : 0 < m ∧ m ≤ 1000000) (kv : Kp w V none) (dv : DrawAt (w.heap.size + 1) ao n cap V) => next_any l n hn (w.heap.size + 1) ao cap m w V hl (by omega) kv dv hm.1 hm.2 hn2)
  have HNE := Lib.hid (fun b V (hb : 0 ≤ b ∧ b ≤ 1000) (kv : Kp w V none) (dv : DrawAt (w.heap.size + 1) ao n cap V) => near_any l n hn (w.heap.size + 1) ao cap b w V hl (by omega) kv dv hb.1 hb.2 hn2)
  have HPA := Lib.hid (fun x y V (hb : Pl.Lim 100 ⟨x, y⟩) (kv : Kp w V none) (dv : DrawAt (w.heap.size + 1) ao n cap V) => path_any l n hn (w.heap.size + 1) ao cap x y w V hl (by omega) kv dv hb hn2)
  clear hl hn hn2
  go_enter Tryz.func21, Tryz.ntmps21
  go_wp2_with fail
  have HR_0 : Hid (((w.alloc (Obj.cells #[.int .i64 0, .slice none 0 0, .int .i64 0] 25)).alloc (Obj.cells #[.slice ao n cap, .int .i64 0] 91)).heap[w.heap.size]? = some (Obj.cells #[.int .i64 0, .slice none 0 0, .int .i64 0] 25 (0, 0))) := Lib.hid (blk (heap_alloc_new w _) ((Kp.refl _ none).alloc _))
  have HDr_0 : Hid (DrawAt (w.heap.size + 1) ao n cap ((w.alloc (Obj.cells #[.int .i64 0, .slice none 0 0, .int .i64 0] 25)).alloc (Obj.cells #[.slice ao n cap, .int .i64 0] 91))) := Lib.hid ⟨0, by have h := heap_alloc_new (w.alloc (Obj.cells #[.int .i64 0, .slice none 0 0, .int .i64 0] 25)) (Obj.cells #[.slice ao n cap, .int .i64 0] 91); simpa using h, Nat.zero_le _⟩
  have HKA_0 : Hid (Kp w ((w.alloc (Obj.cells #[.int .i64 0, .slice none 0 0, .int .i64 0] 25)).alloc (Obj.cells #[.slice ao n cap, .int .i64 0] 91)) none) := Lib.hid (((Kp.refl w none).alloc _).alloc _)
  generalize (w.alloc (Obj.cells #[.int .i64 0, .slice none 0 0, .int .i64 0] 25)).alloc (Obj.cells #[.slice ao n cap, .int .i64 0] 91) = w1 at *
  refine (HNX.out 7 _ (by omega) HKA_0.out HDr_0.out).mono ?_
  rintro E w2 ⟨kind, rfl, hv, hd, kk⟩
  have HKA_1 : Hid (Kp w w2 none) := Lib.hid (HKA_0.out.of_own (kk) (by omega))
  have HR_1 := Lib.hid (((kk).block _ (lt_of_block HR_0.out) (by intro q; have := Option.some.inj q; omega)).trans HR_0.out)
  have HDr_1 := Lib.hid hd
  have HV_kind := Lib.hid hv
  clear hv hd kk HDr_0 HKA_0 HR_0
  go_wp2_with fail
  refine (HNE.out 100 _ (by omega) HKA_1.out HDr_1.out).mono ?_
  rintro E w3 ⟨x, y, rfl, hx, hy, hd, kk⟩
  have HKA_2 : Hid (Kp w w3 none) := Lib.hid (HKA_1.out.of_own (kk) (by omega))
  have HR_2 := Lib.hid (((kk).block _ (lt_of_block HR_1.out) (by intro q; have := Option.some.inj q; omega)).trans HR_1.out)
  have HDr_2 := Lib.hid hd
  have HS_x := Lib.hid hx
  have HS_y := Lib.hid hy
  clear hx hy hd kk HDr_1 HKA_1 HR_1
  go_wp2_with fail
  have HKA_3 : Hid (Kp w (w3.alloc (Obj.cells #[.int .i64 x, .int .i64 y] 37)) none) := Lib.hid (HKA_2.out.trans ((Kp.refl w3 none).alloc (Obj.cells #[.int .i64 x, .int .i64 y] 37)))
  have HR_3 := Lib.hid (blk HR_2.out ((Kp.refl w3 none).alloc (Obj.cells #[.int .i64 x, .int .i64 y] 37)))
  have HDr_3 := Lib.hid (HDr_2.out.kp ((Kp.refl w3 none).alloc (Obj.cells #[.int .i64 x, .int .i64 y] 37)))
  have HA_3 : Hid ((w3.alloc (Obj.cells #[.int .i64 x, .int .i64 y] 37)).heap[w3.heap.size]? = some (Obj.cells #[.int .i64 x, .int .i64 y] 37 (0, 0))) := Lib.hid (heap_alloc_new w3 (Obj.cells #[.int .i64 x, .int .i64 y] 37))
  have HP_HA : Hid (w.heap.size + 2 ≤ w3.heap.size) := Lib.hid (by have := lt_of_block HR_2.out; have := HDr_2.out.lt; omega)
  clear HKA_2 HR_2 HDr_2
  refine (HNX.out 60 _ (by omega) HKA_3.out HDr_3.out).mono ?_
  rintro E w4 ⟨w0, rfl, hv, hd, kk⟩
  have HKA_4 : Hid (Kp w w4 none) := Lib.hid (HKA_3.out.of_own (kk) (by omega))
  have HR_4 := Lib.hid (((kk).block _ (lt_of_block HR_3.out) (by intro q; have := Option.some.inj q; omega)).trans HR_3.out)
  have HA_4 := Lib.hid (((kk).block _ (lt_of_block HA_3.out) (by have := HP_HA.out; intro q; have := Option.some.inj q; omega)).trans HA_3.out)
  have HDr_4 := Lib.hid hd
  have HV_w0 := Lib.hid hv
  clear hv hd kk HDr_3 HKA_3 HR_3 HA_3
  have e0 : wrap64 (12 + w0) = 12 + w0 := wrap_mid (by have := HV_w0.out; omega) (by have := HV_w0.out; omega)
  go_wp2_with fail
  refine (HNX.out 60 _ (by omega) HKA_4.out HDr_4.out).mono ?_
  rintro E w5 ⟨h0, rfl, hv, hd, kk⟩
  have HKA_5 : Hid (Kp w w5 none) := Lib.hid (HKA_4.out.of_own (kk) (by omega))
  have HR_5 := Lib.hid (((kk).block _ (lt_of_block HR_4.out) (by intro q; have := Option.some.inj q; omega)).trans HR_4.out)
  have HA_5 := Lib.hid (((kk).block _ (lt_of_block HA_4.out) (by have := HP_HA.out; intro q; have := Option.some.inj q; omega)).trans HA_4.out)
  have HDr_5 := Lib.hid hd
  have HV_h0 := Lib.hid hv
  clear hv hd kk HDr_4 HKA_4 HR_4 HA_4
  have e1 : wrap64 (12 + h0) = 12 + h0 := wrap_mid (by have := HV_h0.out; omega) (by have := HV_h0.out; omega)
  have e2 : wrap64 (x + (12 + w0)) = x + (12 + w0) := wrap_mid (by have h := HS_x.out; have := HV_w0.out; unfold Small at h; omega) (by have h := HS_x.out; have := HV_w0.out; unfold Small at h; omega)
  have e3 : wrap64 (y + (12 + h0)) = y + (12 + h0) := wrap_mid (by have h := HS_y.out; have := HV_h0.out; unfold Small at h; omega) (by have h := HS_y.out; have := HV_h0.out; unfold Small at h; omega)
  have z0 := hcell HA_5.out 0 rfl
  have z1 := hcell HA_5.out 1 rfl
  go_upto_region 8 with fail
  clear e0 e1 e2 e3 z0 z1
  have HKA_6 : Hid (Kp w (w5.alloc (Obj.cells #[.int .i64 x, .int .i64 y, .int .i64 (x + (12 + w0)), .int .i64 (y + (12 + h0))] 88)) none) := Lib.hid (HKA_5.out.trans ((Kp.refl w5 none).alloc (Obj.cells #[.int .i64 x, .int .i64 y, .int .i64 (x + (12 + w0)), .int .i64 (y + (12 + h0))] 88)))
  have HR_6 := Lib.hid (blk HR_5.out ((Kp.refl w5 none).alloc (Obj.cells #[.int .i64 x, .int .i64 y, .int .i64 (x + (12 + w0)), .int .i64 (y + (12 + h0))] 88)))
  have HA_6 := Lib.hid (blk HA_5.out ((Kp.refl w5 none).alloc (Obj.cells #[.int .i64 x, .int .i64 y, .int .i64 (x + (12 + w0)), .int .i64 (y + (12 + h0))] 88)))
  have HDr_6 := Lib.hid (HDr_5.out.kp ((Kp.refl w5 none).alloc (Obj.cells #[.int .i64 x, .int .i64 y, .int .i64 (x + (12 + w0)), .int .i64 (y + (12 + h0))] 88)))
  have HB_6 : Hid ((w5.alloc (Obj.cells #[.int .i64 x, .int .i64 y, .int .i64 (x + (12 + w0)), .int .i64 (y + (12 + h0))] 88)).heap[w5.heap.size]? = some (Obj.cells #[.int .i64 x, .int .i64 y, .int .i64 (x + (12 + w0)), .int .i64 (y + (12 + h0))] 88 (0, 0))) := Lib.hid (heap_alloc_new w5 (Obj.cells #[.int .i64 x, .int .i64 y, .int .i64 (x + (12 + w0)), .int .i64 (y + (12 + h0))] 88))
  have HP_HB : Hid (w.heap.size + 2 ≤ w5.heap.size) := Lib.hid (by have := lt_of_block HR_5.out; have := HDr_5.out.lt; omega)
  clear HKA_5 HR_5 HA_5 HDr_5
  generalize w5.alloc (Obj.cells #[.int .i64 x, .int .i64 y, .int .i64 (x + (12 + w0)), .int .i64 (y + (12 + h0))] 88) = w8 at *
  have HR_0 := HR_6
  have HA_0 := HA_6
  have HB_0 := HB_6
  have HKA_0 := HKA_6
  have HDr_0 := HDr_6
  clear HR_6 HA_6 HB_6 HKA_6 HDr_6
  have HSX := HS_x
  have HSY := HS_y
  have HMX : Hid (Mid x) := Lib.hid (by have h := HSX.out; unfold Small at h; unfold Mid; omega)
  have HMY : Hid (Mid y) := Lib.hid (by have h := HSY.out; unfold Small at h; unfold Mid; omega)
  have HBB : Hid (-100 ≤ x ∧ x ≤ 100 ∧ -100 ≤ y ∧ y ≤ 100 ∧ 0 ≤ w0 ∧ w0 < 60 ∧ 0 ≤ h0 ∧ h0 < 60) := Lib.hid (by have h1 := HSX.out; have h2 := HSY.out; have := HV_w0.out; have := HV_h0.out; unfold Small at h1 h2; omega)
  have HDISC : Hid (∀ r, 0 ≤ r ∧ r < 40 → ∀ V, Calls Tryz.prog 20 #[.agg #[.int .i64 x, .int .i64 y], .int .i64 r] V (FineSh V)) := Lib.hid (fun r hr V => (disc_any x y r V).mono (fun E V2 h => h.fine (Pl.fine_disc (by have := HBB.out; unfold Pl.Lim; dsimp only; omega) hr.1 (by omega))))
  have HRECT : Hid (∀ V, Calls Tryz.prog 42 #[.agg #[.int .i64 x, .int .i64 y, .int .i64 (x + (12 + w0)), .int .i64 (y + (12 + h0))]] V (FineSh V)) := Lib.hid (fun V => (rrect_any _ _ _ _ V).mono (fun E V2 h => h.fine (Pl.fine_loop (by simp) (by simp) (fun p hp => by
    have := HBB.out
    simp at hp
    rcases hp with rfl | rfl | rfl | rfl <;> (unfold Pl.Lim; dsimp only; omega)))))
  have HPATH : Hid (∀ V, Kp w V none → DrawAt (w.heap.size + 1) ao n cap V → Calls Tryz.prog 45 #[.pointer (some ⟨w.heap.size + 1, 0, none⟩), .agg #[.int .i64 x, .int .i64 y]] V (DrewSh (w.heap.size + 1) ao n cap V)) := Lib.hid (fun V kv dv => HPA.out x y V (by have := HBB.out; unfold Pl.Lim; dsimp only; omega) kv dv)
  have HROUND : Hid (∀ r, 0 ≤ r ∧ r < 5 → ∀ V, Calls Tryz.prog 49 #[.agg #[.int .i64 x, .int .i64 y, .int .i64 (x + (12 + w0)), .int .i64 (y + (12 + h0))], .int .i64 (1 + r)] V (FineSh V)) := Lib.hid (fun r hr V => (round_any _ _ _ _ (1 + r) V (by have := HBB.out; omega) (by have := HBB.out; omega) (by have := HBB.out; omega) (by have := HBB.out; omega) (by omega)).mono (fun E V2 h => h.fine (Pl.fine_round (by have := HBB.out; dsimp only; omega) (by have := HBB.out; dsimp only; omega) (by have := HBB.out; dsimp only; omega) (by have := HBB.out; dsimp only; omega) (by omega) (by omega))))
  have HCIRC : Hid (∀ rad, 0 < rad ∧ rad ≤ 100 → ∀ kd, 0 ≤ kd ∧ kd < 2 → ∀ V, Calls Tryz.prog 48 #[.agg #[.int .i64 x, .int .i64 y], .int .i64 rad, .int .i64 (2 + kd)] V (FineSh V)) := Lib.hid (fun rad hr kd hk V => by
    have hc : Pl.Lim 600 ⟨x, y⟩ := by have := HBB.out; unfold Pl.Lim; dsimp only; omega
    have : kd = 0 ∨ kd = 1 := by omega
    rcases this with rfl | rfl
    · exact (circ_left x y rad V HMX.out HMY.out (by omega)).mono (fun E V2 h => h.fine (Pl.fine_circ hc hr.1 (by omega) (.inl rfl)))
    · exact (circ_right x y rad V HMX.out HMY.out (by omega)).mono (fun E V2 h => h.fine (Pl.fine_circ hc hr.1 (by omega) (.inr rfl))))
  have hkk : kind = 0 ∨ kind = 1 ∨ kind = 2 ∨ kind = 3 ∨ kind = 4 ∨ kind = 5 ∨ kind = 6 := by have := HV_kind.out; omega
  obtain ⟨i0, hi, hz0, hz1, hz2⟩ := info_parts infoPt
  clear HV_kind HV_w0 HV_h0 HPA HS_x HS_y
  rcases hkk with rfl | rfl | rfl | rfl | rfl | rfl | rfl
  · go_wp2_with fail
    have HKA_1 : Hid (Kp w w8.drew none) := Lib.hid (HKA_0.out.trans ((Kp.refl w8 none).drew))
    have HR_1 := Lib.hid (blk HR_0.out ((Kp.refl w8 none).drew))
    have HA_1 := Lib.hid (blk HA_0.out ((Kp.refl w8 none).drew))
    have HB_1 := Lib.hid (blk HB_0.out ((Kp.refl w8 none).drew))
    have HDr_1 := Lib.hid (HDr_0.out.kp ((Kp.refl w8 none).drew))
    clear HKA_0 HR_0 HA_0 HB_0 HDr_0
    refine wp_region_last (fun V => V.cell? ⟨w3.heap.size, 0, none⟩ = some (.int .i64 x) ∧ V.cell? ⟨w3.heap.size, 1, none⟩ = some (.int .i64 y) ∧ True) 4 (by kernel_rfl) ?_ (fun hHeld => ?_)
    · exact ⟨hcell HA_1.out 0 rfl, hcell HA_1.out 1 rfl, trivial⟩
    refine tkL 0 rfl ?_
    try simp only [Act.put, sm]
    refine tkL 1 rfl ?_
    try simp only [Act.put, sm]
    refine wpAnyL_ready (rs := [2]) (by kernel_rfl) (by simp) ?_
    refine AllReadyL.cons (o := _) rfl (fun K hK => ?_) AllReadyL.nil
    clear hHeld
    go_simp
    refine (HNX.out 40 _ (by omega) HKA_1.out HDr_1.out).mono ?_
    rintro E wx1 ⟨r0, rfl, hv, hd, kk⟩
    have HKA_2 : Hid (Kp w wx1 none) := Lib.hid (HKA_1.out.of_own (kk) (by omega))
    have HR_2 := Lib.hid (((kk).block _ (lt_of_block HR_1.out) (by intro q; have := Option.some.inj q; omega)).trans HR_1.out)
    have HA_2 := Lib.hid (((kk).block _ (lt_of_block HA_1.out) (by have := HP_HA.out; intro q; have := Option.some.inj q; omega)).trans HA_1.out)
    have HB_2 := Lib.hid (((kk).block _ (lt_of_block HB_1.out) (by have := HP_HB.out; intro q; have := Option.some.inj q; omega)).trans HB_1.out)
    have HDr_2 := Lib.hid hd
    have HV_r0 := Lib.hid hv
    clear hv hd kk HDr_1 HKA_1 HR_1 HA_1 HB_1
    try go_wp2_with fail
    refine hK.out _ _ ?_ (fun hHeld => ?_)
    · exact ⟨hcell HA_2.out 0 rfl, hcell HA_2.out 1 rfl, trivial⟩
    clear hK K
    try simp only [Act.put, sm]
    refine wpAnyL_ready (rs := [3]) (by kernel_rfl) (by simp) ?_
    refine AllReadyL.cons (o := _) rfl (fun K hK => ?_) AllReadyL.nil
    clear hHeld
    go_simp
    refine (HDISC.out r0 HV_r0.out _).mono ?_
    rintro E wx2 ⟨s, ea, ec, hfine, rfl, hlies, hfresh, kk⟩
    have HKA_3 : Hid (Kp w wx2 none) := Lib.hid (HKA_2.out.trans (kk))
    have HR_3 := Lib.hid (blk HR_2.out (kk))
    have HA_3 := Lib.hid (blk HA_2.out (kk))
    have HB_3 := Lib.hid (blk HB_2.out (kk))
    have HDr_3 := Lib.hid (HDr_2.out.kp (kk))
    have HFINE := Lib.hid hfine
    have HLIES := Lib.hid hlies
    have FRX : Hid (∀ p, ea = some p → w.heap.size ≤ p.block ∧ p.block ≠ w.heap.size) := Lib.hid (fun p hp => by have h1 := hfresh p hp; have h2 := lt_of_block HR_2.out; have h3 := HKA_2.out.size; first | omega | (simp at h1 h2 h3; omega) | (simp at h1 h2; omega))
    clear hfine hlies hfresh kk HKA_2 HR_2 HA_2 HB_2 HDr_2
    try go_wp2_with fail
    refine hK.out _ _ ?_ (fun hHeld => ?_)
    · exact ⟨hcell HA_3.out 0 rfl, hcell HA_3.out 1 rfl, trivial⟩
    clear hK K
    try simp only [Act.put, sm]
    refine wpAnyL_ready (rs := [4]) (by kernel_rfl) (by simp) ?_
    refine AllReadyL.last (o := _) rfl (fun K hK => ?_)
    have f0 := Lib.frozen_of_heap HR_3.out 0
    have f1 := Lib.frozen_of_heap HR_3.out 1
    have f2 := Lib.frozen_of_heap HR_3.out 2
    have c0 := hcell HR_3.out 0 rfl
    have c1 := hcell HR_3.out 1 rfl
    have c2 := hcell HR_3.out 2 rfl
    clear hHeld
    go_simp
    try go_wp2_with fail
    refine hK.out _ _ ?_
    clear hK K
    try simp only [Act.put, sm]
    refine wpAnyL_done (by kernel_rfl) ?_ _
    go_wp2_with fail
    clear f0 f1 f2 c0 c1 c2
    have HR := HR_3
    have hs0 := heap_set (o := 0) (v := .int .i64 s.k) HR.out
    have hs1 := heap_set (o := 1) (v := .slice ea s.es.length ec) hs0
    have hs2 := heap_set (o := 2) (v := .int .i64 s.r) hs1
    have q0 := Lib.cell_of_heap hs2 0
    have q1 := Lib.cell_of_heap hs2 1
    have q2 := Lib.cell_of_heap hs2 2
    simp at q0 q1 q2
    have HO : Hid (LiesAt 7 edC (((wx2.setCell ⟨w.heap.size, 0, none⟩ (.int .i64 s.k)).setCell ⟨w.heap.size, 1, none⟩ (.slice ea s.es.length ec)).setCell ⟨w.heap.size, 2, none⟩ (.int .i64 s.r)) ea ec _) := Lib.hid (HLIES.out.keepRow ((((Kp.refl wx2 (some (w.heap.size))).set (.int .i64 s.k)).set (.slice ea s.es.length ec)).set (.int .i64 s.r)) (fun p hp => (FRX.out p hp).2))
    have KF : Hid (Kp w (((wx2.setCell ⟨w.heap.size, 0, none⟩ (.int .i64 s.k)).setCell ⟨w.heap.size, 1, none⟩ (.slice ea s.es.length ec)).setCell ⟨w.heap.size, 2, none⟩ (.int .i64 s.r)) none) := Lib.hid (HKA_3.out.of_own ((((Kp.refl wx2 (some (w.heap.size))).set (.int .i64 s.k)).set (.slice ea s.es.length ec)).set (.int .i64 s.r)) (by omega))
    clear hs0 hs1 hs2
    generalize (((wx2.setCell ⟨w.heap.size, 0, none⟩ (.int .i64 s.k)).setCell ⟨w.heap.size, 1, none⟩ (.slice ea s.es.length ec)).setCell ⟨w.heap.size, 2, none⟩ (.int .i64 s.r)) = wf at *
    exact bodyPost_ret (v := .agg #[.int .i64 s.k, .slice ea s.es.length ec, .int .i64 s.r]) (by simp [results, Tryz.results21, go_sem, q0, q1, q2]) rfl ⟨s, ea, ec, HFINE.out, rfl, HO.out, fun p hp => (FRX.out p hp).1, KF.out⟩
  · have z0 := hcell HB_0.out 0 rfl
    have z1 := hcell HB_0.out 1 rfl
    have z2 := hcell HB_0.out 2 rfl
    have z3 := hcell HB_0.out 3 rfl
    go_wp2_with fail
    refine (HRECT.out _).mono ?_
    rintro E w9 ⟨s, ea, ec, hfine, rfl, hlies, hfresh, kk⟩
    have HKA_1 : Hid (Kp w w9 none) := Lib.hid (HKA_0.out.trans (kk))
    have HR_1 := Lib.hid (blk HR_0.out (kk))
    have HA_1 := Lib.hid (blk HA_0.out (kk))
    have HB_1 := Lib.hid (blk HB_0.out (kk))
    have HDr_1 := Lib.hid (HDr_0.out.kp (kk))
    have HFINE := Lib.hid hfine
    have HLIES := Lib.hid hlies
    have FRX : Hid (∀ p, ea = some p → w.heap.size ≤ p.block ∧ p.block ≠ w.heap.size) := Lib.hid (fun p hp => by have h1 := hfresh p hp; have h2 := lt_of_block HR_0.out; have h3 := HKA_0.out.size; first | omega | (simp at h1 h2 h3; omega) | (simp at h1 h2; omega))
    clear hfine hlies hfresh kk HKA_0 HR_0 HA_0 HB_0 HDr_0
    clear z0 z1 z2 z3
    have f0 := Lib.frozen_of_heap HR_1.out 0
    have f1 := Lib.frozen_of_heap HR_1.out 1
    have f2 := Lib.frozen_of_heap HR_1.out 2
    have c0 := hcell HR_1.out 0 rfl
    have c1 := hcell HR_1.out 1 rfl
    have c2 := hcell HR_1.out 2 rfl
    go_wp2_with fail
    clear f0 f1 f2 c0 c1 c2
    have HR := HR_1
    have hs0 := heap_set (o := 0) (v := .int .i64 s.k) HR.out
    have hs1 := heap_set (o := 1) (v := .slice ea s.es.length ec) hs0
    have hs2 := heap_set (o := 2) (v := .int .i64 s.r) hs1
    have q0 := Lib.cell_of_heap hs2 0
    have q1 := Lib.cell_of_heap hs2 1
    have q2 := Lib.cell_of_heap hs2 2
    simp at q0 q1 q2
    have HO : Hid (LiesAt 7 edC (((w9.setCell ⟨w.heap.size, 0, none⟩ (.int .i64 s.k)).setCell ⟨w.heap.size, 1, none⟩ (.slice ea s.es.length ec)).setCell ⟨w.heap.size, 2, none⟩ (.int .i64 s.r)) ea ec _) := Lib.hid (HLIES.out.keepRow ((((Kp.refl w9 (some (w.heap.size))).set (.int .i64 s.k)).set (.slice ea s.es.length ec)).set (.int .i64 s.r)) (fun p hp => (FRX.out p hp).2))
    have KF : Hid (Kp w (((w9.setCell ⟨w.heap.size, 0, none⟩ (.int .i64 s.k)).setCell ⟨w.heap.size, 1, none⟩ (.slice ea s.es.length ec)).setCell ⟨w.heap.size, 2, none⟩ (.int .i64 s.r)) none) := Lib.hid (HKA_1.out.of_own ((((Kp.refl w9 (some (w.heap.size))).set (.int .i64 s.k)).set (.slice ea s.es.length ec)).set (.int .i64 s.r)) (by omega))
    clear hs0 hs1 hs2
    generalize (((w9.setCell ⟨w.heap.size, 0, none⟩ (.int .i64 s.k)).setCell ⟨w.heap.size, 1, none⟩ (.slice ea s.es.length ec)).setCell ⟨w.heap.size, 2, none⟩ (.int .i64 s.r)) = wf at *
    exact bodyPost_ret (v := .agg #[.int .i64 s.k, .slice ea s.es.length ec, .int .i64 s.r]) (by simp [results, Tryz.results21, go_sem, q0, q1, q2]) rfl ⟨s, ea, ec, HFINE.out, rfl, HO.out, fun p hp => (FRX.out p hp).1, KF.out⟩
  · have z0 := hcell HA_0.out 0 rfl
    have z1 := hcell HA_0.out 1 rfl
    go_wp2_with fail
    refine (HPATH.out _ HKA_0.out HDr_0.out).mono ?_
    rintro E w9 ⟨s, ea, ec, hfine, rfl, hlies, hfresh, hd, kk⟩
    have HKA_1 : Hid (Kp w w9 none) := Lib.hid (HKA_0.out.of_own (kk) (by omega))
    have HR_1 := Lib.hid (((kk).block _ (lt_of_block HR_0.out) (by intro q; have := Option.some.inj q; omega)).trans HR_0.out)
    have HA_1 := Lib.hid (((kk).block _ (lt_of_block HA_0.out) (by have := HP_HA.out; intro q; have := Option.some.inj q; omega)).trans HA_0.out)
    have HB_1 := Lib.hid (((kk).block _ (lt_of_block HB_0.out) (by have := HP_HB.out; intro q; have := Option.some.inj q; omega)).trans HB_0.out)
    have HDr_1 := Lib.hid hd
    have HFINE := Lib.hid hfine
    have HLIES := Lib.hid hlies
    have FRX : Hid (∀ p, ea = some p → w.heap.size ≤ p.block ∧ p.block ≠ w.heap.size) := Lib.hid (fun p hp => by have h1 := hfresh p hp; have h2 := lt_of_block HR_0.out; have h3 := HKA_0.out.size; omega)
    clear hfine hlies hfresh kk hd HKA_0 HR_0 HA_0 HB_0
    clear z0 z1
    have f0 := Lib.frozen_of_heap HR_1.out 0
    have f1 := Lib.frozen_of_heap HR_1.out 1
    have f2 := Lib.frozen_of_heap HR_1.out 2
    have c0 := hcell HR_1.out 0 rfl
    have c1 := hcell HR_1.out 1 rfl
    have c2 := hcell HR_1.out 2 rfl
    go_wp2_with fail
    clear f0 f1 f2 c0 c1 c2
    have HR := HR_1
    have hs0 := heap_set (o := 0) (v := .int .i64 s.k) HR.out
    have hs1 := heap_set (o := 1) (v := .slice ea s.es.length ec) hs0
    have hs2 := heap_set (o := 2) (v := .int .i64 s.r) hs1
    have q0 := Lib.cell_of_heap hs2 0
    have q1 := Lib.cell_of_heap hs2 1
    have q2 := Lib.cell_of_heap hs2 2
    simp at q0 q1 q2
    have HO : Hid (LiesAt 7 edC (((w9.setCell ⟨w.heap.size, 0, none⟩ (.int .i64 s.k)).setCell ⟨w.heap.size, 1, none⟩ (.slice ea s.es.length ec)).setCell ⟨w.heap.size, 2, none⟩ (.int .i64 s.r)) ea ec _) := Lib.hid (HLIES.out.keepRow ((((Kp.refl w9 (some (w.heap.size))).set (.int .i64 s.k)).set (.slice ea s.es.length ec)).set (.int .i64 s.r)) (fun p hp => (FRX.out p hp).2))
    have KF : Hid (Kp w (((w9.setCell ⟨w.heap.size, 0, none⟩ (.int .i64 s.k)).setCell ⟨w.heap.size, 1, none⟩ (.slice ea s.es.length ec)).setCell ⟨w.heap.size, 2, none⟩ (.int .i64 s.r)) none) := Lib.hid (HKA_1.out.of_own ((((Kp.refl w9 (some (w.heap.size))).set (.int .i64 s.k)).set (.slice ea s.es.length ec)).set (.int .i64 s.r)) (by omega))
    clear hs0 hs1 hs2
    generalize (((w9.setCell ⟨w.heap.size, 0, none⟩ (.int .i64 s.k)).setCell ⟨w.heap.size, 1, none⟩ (.slice ea s.es.length ec)).setCell ⟨w.heap.size, 2, none⟩ (.int .i64 s.r)) = wf at *
    exact bodyPost_ret (v := .agg #[.int .i64 s.k, .slice ea s.es.length ec, .int .i64 s.r]) (by simp [results, Tryz.results21, go_sem, q0, q1, q2]) rfl ⟨s, ea, ec, HFINE.out, rfl, HO.out, fun p hp => (FRX.out p hp).1, KF.out⟩
  · have z0 := hcell HA_0.out 0 rfl
    have z1 := hcell HA_0.out 1 rfl
    go_wp2_with fail
    refine (HPATH.out _ HKA_0.out HDr_0.out).mono ?_
    rintro E w9 ⟨s, ea, ec, hfine, rfl, hlies, hfresh, hd, kk⟩
    have HKA_1 : Hid (Kp w w9 none) := Lib.hid (HKA_0.out.of_own (kk) (by omega))
    have HR_1 := Lib.hid (((kk).block _ (lt_of_block HR_0.out) (by intro q; have := Option.some.inj q; omega)).trans HR_0.out)
    have HA_1 := Lib.hid (((kk).block _ (lt_of_block HA_0.out) (by have := HP_HA.out; intro q; have := Option.some.inj q; omega)).trans HA_0.out)
    have HB_1 := Lib.hid (((kk).block _ (lt_of_block HB_0.out) (by have := HP_HB.out; intro q; have := Option.some.inj q; omega)).trans HB_0.out)
    have HDr_1 := Lib.hid hd
    have HFINE := Lib.hid hfine
    have HLIES := Lib.hid hlies
    have FRX : Hid (∀ p, ea = some p → w.heap.size ≤ p.block ∧ p.block ≠ w.heap.size) := Lib.hid (fun p hp => by have h1 := hfresh p hp; have h2 := lt_of_block HR_0.out; have h3 := HKA_0.out.size; omega)
    clear hfine hlies hfresh kk hd HKA_0 HR_0 HA_0 HB_0
    clear z0 z1
    have f0 := Lib.frozen_of_heap HR_1.out 0
    have f1 := Lib.frozen_of_heap HR_1.out 1
    have f2 := Lib.frozen_of_heap HR_1.out 2
    have c0 := hcell HR_1.out 0 rfl
    have c1 := hcell HR_1.out 1 rfl
    have c2 := hcell HR_1.out 2 rfl
    go_wp2_with fail
    clear f0 f1 f2 c0 c1 c2
    have HR := HR_1
    have hs0 := heap_set (o := 0) (v := .int .i64 s.k) HR.out
    have hs1 := heap_set (o := 1) (v := .slice ea s.es.length ec) hs0
    have hs2 := heap_set (o := 2) (v := .int .i64 s.r) hs1
    have q0 := Lib.cell_of_heap hs2 0
    have q1 := Lib.cell_of_heap hs2 1
    have q2 := Lib.cell_of_heap hs2 2
    simp at q0 q1 q2
    have HO : Hid (LiesAt 7 edC (((w9.setCell ⟨w.heap.size, 0, none⟩ (.int .i64 s.k)).setCell ⟨w.heap.size, 1, none⟩ (.slice ea s.es.length ec)).setCell ⟨w.heap.size, 2, none⟩ (.int .i64 s.r)) ea ec _) := Lib.hid (HLIES.out.keepRow ((((Kp.refl w9 (some (w.heap.size))).set (.int .i64 s.k)).set (.slice ea s.es.length ec)).set (.int .i64 s.r)) (fun p hp => (FRX.out p hp).2))
    have KF : Hid (Kp w (((w9.setCell ⟨w.heap.size, 0, none⟩ (.int .i64 s.k)).setCell ⟨w.heap.size, 1, none⟩ (.slice ea s.es.length ec)).setCell ⟨w.heap.size, 2, none⟩ (.int .i64 s.r)) none) := Lib.hid (HKA_1.out.of_own ((((Kp.refl w9 (some (w.heap.size))).set (.int .i64 s.k)).set (.slice ea s.es.length ec)).set (.int .i64 s.r)) (by omega))
    clear hs0 hs1 hs2
    generalize (((w9.setCell ⟨w.heap.size, 0, none⟩ (.int .i64 s.k)).setCell ⟨w.heap.size, 1, none⟩ (.slice ea s.es.length ec)).setCell ⟨w.heap.size, 2, none⟩ (.int .i64 s.r)) = wf at *
    exact bodyPost_ret (v := .agg #[.int .i64 s.k, .slice ea s.es.length ec, .int .i64 s.r]) (by simp [results, Tryz.results21, go_sem, q0, q1, q2]) rfl ⟨s, ea, ec, HFINE.out, rfl, HO.out, fun p hp => (FRX.out p hp).1, KF.out⟩
  · go_wp2_with fail
    refine (HNX.out 4 _ (by omega) HKA_0.out HDr_0.out).mono ?_
    rintro E w9 ⟨v0, rfl, hv, hd, kk⟩
    have HKA_1 : Hid (Kp w w9 none) := Lib.hid (HKA_0.out.of_own (kk) (by omega))
    have HR_1 := Lib.hid (((kk).block _ (lt_of_block HR_0.out) (by intro q; have := Option.some.inj q; omega)).trans HR_0.out)
    have HA_1 := Lib.hid (((kk).block _ (lt_of_block HA_0.out) (by have := HP_HA.out; intro q; have := Option.some.inj q; omega)).trans HA_0.out)
    have HB_1 := Lib.hid (((kk).block _ (lt_of_block HB_0.out) (by have := HP_HB.out; intro q; have := Option.some.inj q; omega)).trans HB_0.out)
    have HDr_1 := Lib.hid hd
    have HV_v0 := Lib.hid hv
    clear hv hd kk HDr_0 HKA_0 HR_0 HA_0 HB_0
    obtain ⟨m, hmm⟩ : ∃ m : Nat, (m : Int) = 2 + v0 := ⟨(2 + v0).toNat, by have := HV_v0.out; omega⟩
    have HMM : Hid (2 + v0 = (m : Int)) := Lib.hid hmm.symm
    have HM1 : Hid (2 ≤ m ∧ m ≤ 5) := Lib.hid (by have := HV_v0.out; omega)
    have hw0 : wrap64 (2 + v0) = 2 + v0 := wrap_mid (by have := HV_v0.out; omega) (by have := HV_v0.out; omega)
    clear hmm
    go_wp2_with fail
    clear hw0
    rw [HMM.out, show wrap64 (m : Int) = (m : Int) from wrap_mid (by omega) (by have := HM1.out; omega)]
    clear HMM
    have HNB : Hid (w.heap.size + 2 ≤ w9.heap.size ∧ w3.heap.size < w9.heap.size) := Lib.hid (by have h1 := HA_1.out; have h2 := lt_of_block h1; have := HP_HA.out; omega)
    go_loopw [9, 11] (fun v i wr => LpRel ao n cap w w9.heap.size w3.heap.size x y m v i wr) (fun _ i _ => m - (intOf i).toNat)
    case atStart => exact ⟨0, [], Nat.zero_le _, rfl, rfl, (fun p (h : p ∈ ([] : List Pl.Pt)) => absurd h (by simp)), HKA_1.out, HR_1.out, HA_1.out, HDr_1.out, Nat.le_refl _, by rfl, .inl ⟨rfl, rfl⟩⟩
    case round =>
      obtain ⟨k, ps, hk, rfl, hlen, hlim, hK, hR, hA, hD, hsz, hO⟩ := hrel
      obtain ⟨ea0, ec0, rfl⟩ := own_slice hO
      have HKA_0 := Lib.hid hK
      have HR_0 := Lib.hid hR
      have HA_0 := Lib.hid hA
      have HDr_0 := Lib.hid hD
      have HOw_0 := Lib.hid hO
      have HLEN := Lib.hid hlen
      have HLIM := Lib.hid hlim
      have HSz_0 := Lib.hid hsz
      clear hK hR hA hD hO hlen hlim hsz HKA_1 HR_1 HA_1 HDr_1 HB_1
      have hk0 : (0 : Int) ≤ (k : Int) := Int.natCast_nonneg _
      have hm3 : (m : Int) ≤ 5 := by have := HM1.out; omega
      by_cases hlt : k < m
      · have hk1 : (k : Int) < (m : Int) := by omega
        go_wp2_with fail
        have HKA_1 : Hid (Kp w wr.drew none) := Lib.hid (HKA_0.out.trans ((Kp.refl wr none).drew))
        have HR_1 := Lib.hid (blk HR_0.out ((Kp.refl wr none).drew))
        have HA_1 := Lib.hid (blk HA_0.out ((Kp.refl wr none).drew))
        have HDr_1 := Lib.hid (HDr_0.out.kp ((Kp.refl wr none).drew))
        have HOw_1 := Lib.hid (HOw_0.out.kept ((Kp.refl wr none).drew) (by cases (Value.slice ea0 k ec0).ownBlock <;> simp))
        have HSz_1 : Hid (w9.heap.size ≤ (wr.drew).heap.size) := Lib.hid (Nat.le_trans HSz_0.out ((Kp.refl wr none).drew).size)
        clear HKA_0 HR_0 HA_0 HDr_0 HOw_0
        refine wp_region_last (fun V => V.cell? ⟨w3.heap.size, 0, none⟩ = some (.int .i64 x) ∧ V.cell? ⟨w3.heap.size, 1, none⟩ = some (.int .i64 y) ∧ True) 7 (by kernel_rfl) ?_ (fun hHeld => ?_)
        · exact ⟨hcell HA_1.out 0 rfl, hcell HA_1.out 1 rfl, trivial⟩
        refine tkL 0 rfl ?_
        try simp only [Act.put, sm]
        refine tkL 1 rfl ?_
        try simp only [Act.put, sm]
        refine tkL 2 rfl ?_
        try simp only [Act.put, sm]
        refine wpAnyL_ready (rs := [3]) (by kernel_rfl) (by simp) ?_
        refine AllReadyL.cons (o := _) rfl (fun K hK => ?_) AllReadyL.nil
        clear hHeld
        go_simp
        refine (HNE.out 30 _ (by omega) HKA_1.out HDr_1.out).mono ?_
        rintro E wx61 ⟨dx, dy, rfl, hx, hy, hd, kk⟩
        have HKA_2 : Hid (Kp w wx61 none) := Lib.hid (HKA_1.out.of_own (kk) (by omega))
        have HR_2 := Lib.hid (((kk).block _ (lt_of_block HR_1.out) (by intro q; have := Option.some.inj q; omega)).trans HR_1.out)
        have HA_2 := Lib.hid (((kk).block _ (lt_of_block HA_1.out) (by have := HP_HA.out; intro q; have := Option.some.inj q; omega)).trans HA_1.out)
        have HOw_2 := Lib.hid (HOw_1.out.kept (kk) (own_ne HOw_1.out (by have := HNB.out; omega)))
        have HSz_2 : Hid (w9.heap.size ≤ (wx61).heap.size) := Lib.hid (Nat.le_trans HSz_1.out (kk).size)
        have HDr_2 := Lib.hid hd
        have HS_dx := Lib.hid hx
        have HS_dy := Lib.hid hy
        clear hx hy hd kk HDr_1 HKA_1 HR_1 HA_1 HOw_1
        try go_wp2_with fail
        refine hK.out _ _ ?_ (fun hHeld => ?_)
        · exact ⟨hcell HA_2.out 0 rfl, hcell HA_2.out 1 rfl, trivial⟩
        clear hK K
        try simp only [Act.put, sm]
        refine wpAnyL_ready (rs := [4]) (by kernel_rfl) (by simp) ?_
        refine AllReadyL.cons (o := _) rfl (fun K hK => ?_) AllReadyL.nil
        clear hHeld
        go_simp
        refine (radd_any x y dx dy _ HMX.out HMY.out (by have h := HS_dx.out; unfold Small at h; unfold Mid; omega) (by have h := HS_dy.out; unfold Small at h; unfold Mid; omega)).mono ?_
        rintro E wx62 ⟨rfl, kk⟩
        have HKA_3 : Hid (Kp w wx62 none) := Lib.hid (HKA_2.out.trans (kk))
        have HR_3 := Lib.hid (blk HR_2.out (kk))
        have HA_3 := Lib.hid (blk HA_2.out (kk))
        have HDr_3 := Lib.hid (HDr_2.out.kp (kk))
        have HOw_3 := Lib.hid (HOw_2.out.kept (kk) (by cases (Value.slice ea0 k ec0).ownBlock <;> simp))
        have HSz_3 : Hid (w9.heap.size ≤ (wx62).heap.size) := Lib.hid (Nat.le_trans HSz_2.out (kk).size)
        clear kk HKA_2 HR_2 HA_2 HDr_2 HOw_2
        try go_wp2_with fail
        refine hK.out _ _ ?_ (fun hHeld => ?_)
        · exact ⟨hcell HA_3.out 0 rfl, hcell HA_3.out 1 rfl, trivial⟩
        clear hK K
        try simp only [Act.put, sm]
        refine wpAnyL_ready (rs := [5]) (by kernel_rfl) (by simp) ?_
        refine AllReadyL.cons (o := _) rfl (fun K hK => ?_) AllReadyL.nil
        clear hHeld
        go_simp
        have HKA_4 : Hid (Kp w (wx62.alloc (Obj.cells #[.int .i64 (x + dx), .int .i64 (y + dy)] 37)) none) := Lib.hid (HKA_3.out.trans ((Kp.refl wx62 none).alloc (Obj.cells #[.int .i64 (x + dx), .int .i64 (y + dy)] 37)))
        have HR_4 := Lib.hid (blk HR_3.out ((Kp.refl wx62 none).alloc (Obj.cells #[.int .i64 (x + dx), .int .i64 (y + dy)] 37)))
        have HA_4 := Lib.hid (blk HA_3.out ((Kp.refl wx62 none).alloc (Obj.cells #[.int .i64 (x + dx), .int .i64 (y + dy)] 37)))
        have HDr_4 := Lib.hid (HDr_3.out.kp ((Kp.refl wx62 none).alloc (Obj.cells #[.int .i64 (x + dx), .int .i64 (y + dy)] 37)))
        have HOw_4 := Lib.hid (HOw_3.out.kept ((Kp.refl wx62 none).alloc (Obj.cells #[.int .i64 (x + dx), .int .i64 (y + dy)] 37)) (by cases (Value.slice ea0 k ec0).ownBlock <;> simp))
        have HSz_4 : Hid (w9.heap.size ≤ ((wx62.alloc (Obj.cells #[.int .i64 (x + dx), .int .i64 (y + dy)] 37))).heap.size) := Lib.hid (Nat.le_trans HSz_3.out ((Kp.refl wx62 none).alloc (Obj.cells #[.int .i64 (x + dx), .int .i64 (y + dy)] 37)).size)
        have HQ_4 : Hid ((wx62.alloc (Obj.cells #[.int .i64 (x + dx), .int .i64 (y + dy)] 37)).heap[wx62.heap.size]? = some (Obj.cells #[.int .i64 (x + dx), .int .i64 (y + dy)] 37 (0, 0))) := Lib.hid (heap_alloc_new wx62 (Obj.cells #[.int .i64 (x + dx), .int .i64 (y + dy)] 37))
        have HP_HQ : Hid (w.heap.size + 2 ≤ wx62.heap.size) := Lib.hid (by have := lt_of_block HR_3.out; have := HDr_3.out.lt; omega)
        clear HKA_3 HR_3 HA_3 HDr_3 HOw_3
        have HPT : Hid (IsList 2 ptC _ _ [⟨x + dx, y + dy⟩]) := Lib.hid (pts_one wx62 (x + dx) (y + dy))
        try go_wp2_with fail
        refine hK.out _ _ ?_ (fun hHeld => ?_)
        · exact ⟨hcell HA_4.out 0 rfl, hcell HA_4.out 1 rfl, trivial⟩
        clear hK K
        try simp only [Act.put, sm]
        refine wpAnyL_ready (rs := [6]) (by kernel_rfl) (by simp) ?_
        refine AllReadyL.cons (o := _) rfl (fun K hK => ?_) AllReadyL.nil
        clear hHeld
        refine step_app (f := ptC) rfl (.tmp 65) (.tmp 70) w9.heap.size 94 37 rfl i0 _ 2 16 (by kernel_rfl) hi hz0 hz1 hz2 rfl (by omega) (fun _ => rfl) pt_one _ _ _ rfl HOw_4.out _ [⟨x + dx, y + dy⟩] rfl HPT.out (by have := HM1.out; unfold maxLen; simp; omega) (by have := HM1.out; simp; omega) HSz_4.out ?_
        intro v3 wv ho hg hbb
        obtain ⟨ea3, ec3, rfl⟩ := own_slice ho
        have HO3 := Lib.hid ho
        have HKA_5 : Hid (Kp w wv none) := Lib.hid (Kp.row HKA_4.out hg (fun q hq => by have := (HOw_4.out.lt q hq).1; have := HNB.out; omega))
        have HR_5 := Lib.hid (res_kept HR_4.out hg (fun q hq => by have := (HOw_4.out.lt q hq).1; have := HNB.out; omega))
        have HA_5 := Lib.hid (res_kept HA_4.out hg (fun q hq => by have := (HOw_4.out.lt q hq).1; have := HNB.out; omega))
        have HDr_5 : Hid (DrawAt (w.heap.size + 1) ao n cap wv) := Lib.hid (by obtain ⟨a, h1, h2⟩ := HDr_4.out; exact ⟨a, res_kept h1 hg (fun q hq => by have := (HOw_4.out.lt q hq).1; have := HNB.out; omega), h2⟩)
        have HSV : Hid (w9.heap.size ≤ wv.heap.size) := Lib.hid (Nat.le_trans HSz_4.out hg.size)
        clear ho hg hbb
        try go_wp2_with fail
        refine hK.out _ _ ?_ (fun hHeld => ?_)
        · exact ⟨hcell HA_5.out 0 rfl, hcell HA_5.out 1 rfl, trivial⟩
        clear hK K
        try simp only [Act.put, sm]
        refine wpAnyL_ready (rs := [7]) (by kernel_rfl) (by simp) ?_
        refine AllReadyL.last (o := _) rfl (fun K hK => ?_)
        clear hHeld
        go_simp
        try go_wp2_with fail
        refine hK.out _ _ ?_
        clear hK K
        try simp only [Act.put, sm]
        refine wpAnyL_done (by kernel_rfl) ?_ _
        have HREL : Hid (LpRel ao n cap w w9.heap.size w3.heap.size x y m (.slice ea3 (k + 1) ec3) (.int .i64 (k + 1)) wv) := Lib.hid ⟨k + 1, ps ++ [⟨x + dx, y + dy⟩], hlt, by go_num, by rw [List.length_append, HLEN.out]; rfl, (fun p hp => by
          rcases List.mem_append.1 hp with hp | hp
          · exact HLIM.out p hp
          · rw [List.mem_singleton.1 hp]; have h1 := HS_dx.out; have h2 := HS_dy.out; have h3 := HSX.out; have h4 := HSY.out; unfold Small at h1 h2 h3 h4; unfold Pl.Lim; dsimp only; omega), HKA_5.out, HR_5.out, HA_5.out, HDr_5.out, HSV.out, by have h := HO3.out; rw [List.flatMap_append]; exact h⟩
        clear HO3
        go_wp2_with fail
        try rw [wrap_mid (n := (k : Int) + 1) (by omega) (by omega)]
        first | exact ⟨HREL.out, by simp [intOf]; omega⟩ | (go_roundw; all_goals first | exact HREL.out | (simp [intOf]; omega))
      · have hk1 : ¬ (k : Int) < (m : Int) := by omega
        have hkm : k = m := by omega
        subst hkm
        clear hk1
        have HLO : Hid (∀ V, Kp wr V none → Calls Tryz.prog 47 #[.slice ea0 k ec0] V (FineSh V)) := Lib.hid (fun V kv => (loop_any ps k HLEN.out ea0 ec0 V ((own_lies (m := 2) (f := ptC) (fun _ => rfl) (by have h := HOw_0.out; rw [← HLEN.out] at h; rw [HLEN.out] at h ⊢; exact h)).2.keep kv) (by have := HM1.out; omega) (by have := HM1.out; omega)).mono (fun E V2 h => h.fine (by have h1 := HLEN.out; have h2 := Pl.fine_loop (ps := ps) (by have := HM1.out; omega) (by have := HM1.out; omega) HLIM.out; rw [h1] at h2; exact h2)))
        go_wp2_with fail
        refine (HLO.out _ (Kp.refl _ _)).mono ?_
        rintro E wy ⟨s, ea, ec, hfine, rfl, hlies, hfresh, kk⟩
        have HKA_1 : Hid (Kp w wy none) := Lib.hid (HKA_0.out.trans (kk))
        have HR_1 := Lib.hid (blk HR_0.out (kk))
        have HA_1 := Lib.hid (blk HA_0.out (kk))
        have HDr_1 := Lib.hid (HDr_0.out.kp (kk))
        have HFINE := Lib.hid hfine
        have HLIES := Lib.hid hlies
        have FRX : Hid (∀ p, ea = some p → w.heap.size ≤ p.block ∧ p.block ≠ w.heap.size) := Lib.hid (fun p hp => by have h1 := hfresh p hp; have h2 := lt_of_block HR_0.out; have h3 := HKA_0.out.size; first | omega | (simp at h1 h2 h3; omega) | (simp at h1 h2; omega))
        clear hfine hlies hfresh kk HKA_0 HR_0 HA_0 HDr_0
        have f0 := Lib.frozen_of_heap HR_1.out 0
        have f1 := Lib.frozen_of_heap HR_1.out 1
        have f2 := Lib.frozen_of_heap HR_1.out 2
        have c0 := hcell HR_1.out 0 rfl
        have c1 := hcell HR_1.out 1 rfl
        have c2 := hcell HR_1.out 2 rfl
        go_wp2_with fail
        clear f0 f1 f2 c0 c1 c2
        have HR := HR_1
        have hs0 := heap_set (o := 0) (v := .int .i64 s.k) HR.out
        have hs1 := heap_set (o := 1) (v := .slice ea s.es.length ec) hs0
        have hs2 := heap_set (o := 2) (v := .int .i64 s.r) hs1
        have q0 := Lib.cell_of_heap hs2 0
        have q1 := Lib.cell_of_heap hs2 1
        have q2 := Lib.cell_of_heap hs2 2
        simp at q0 q1 q2
        have HO : Hid (LiesAt 7 edC (((wy.setCell ⟨w.heap.size, 0, none⟩ (.int .i64 s.k)).setCell ⟨w.heap.size, 1, none⟩ (.slice ea s.es.length ec)).setCell ⟨w.heap.size, 2, none⟩ (.int .i64 s.r)) ea ec _) := Lib.hid (HLIES.out.keepRow ((((Kp.refl wy (some (w.heap.size))).set (.int .i64 s.k)).set (.slice ea s.es.length ec)).set (.int .i64 s.r)) (fun p hp => (FRX.out p hp).2))
        have KF : Hid (Kp w (((wy.setCell ⟨w.heap.size, 0, none⟩ (.int .i64 s.k)).setCell ⟨w.heap.size, 1, none⟩ (.slice ea s.es.length ec)).setCell ⟨w.heap.size, 2, none⟩ (.int .i64 s.r)) none) := Lib.hid (HKA_1.out.of_own ((((Kp.refl wy (some (w.heap.size))).set (.int .i64 s.k)).set (.slice ea s.es.length ec)).set (.int .i64 s.r)) (by omega))
        clear hs0 hs1 hs2
        generalize (((wy.setCell ⟨w.heap.size, 0, none⟩ (.int .i64 s.k)).setCell ⟨w.heap.size, 1, none⟩ (.slice ea s.es.length ec)).setCell ⟨w.heap.size, 2, none⟩ (.int .i64 s.r)) = wf at *
        exact bodyPost_ret (v := .agg #[.int .i64 s.k, .slice ea s.es.length ec, .int .i64 s.r]) (by simp [results, Tryz.results21, go_sem, q0, q1, q2]) rfl ⟨s, ea, ec, HFINE.out, rfl, HO.out, fun p hp => (FRX.out p hp).1, KF.out⟩
  · go_wp2_with fail
    have HKA_1 : Hid (Kp w w8.drew none) := Lib.hid (HKA_0.out.trans ((Kp.refl w8 none).drew))
    have HR_1 := Lib.hid (blk HR_0.out ((Kp.refl w8 none).drew))
    have HA_1 := Lib.hid (blk HA_0.out ((Kp.refl w8 none).drew))
    have HB_1 := Lib.hid (blk HB_0.out ((Kp.refl w8 none).drew))
    have HDr_1 := Lib.hid (HDr_0.out.kp ((Kp.refl w8 none).drew))
    clear HKA_0 HR_0 HA_0 HB_0 HDr_0
    refine wp_region_last (fun V => V.cell? ⟨w3.heap.size, 0, none⟩ = some (.int .i64 x) ∧ V.cell? ⟨w3.heap.size, 1, none⟩ = some (.int .i64 y) ∧ True) 13 (by kernel_rfl) ?_ (fun hHeld => ?_)
    · exact ⟨hcell HA_1.out 0 rfl, hcell HA_1.out 1 rfl, trivial⟩
    refine tkL 0 rfl ?_
    try simp only [Act.put, sm]
    refine tkL 1 rfl ?_
    try simp only [Act.put, sm]
    refine tkL 5 rfl ?_
    try simp only [Act.put, sm]
    refine tkL 9 rfl ?_
    try simp only [Act.put, sm]
    refine wpAnyL_ready (rs := [2]) (by kernel_rfl) (by simp) ?_
    refine AllReadyL.cons (o := _) rfl (fun K hK => ?_) AllReadyL.nil
    clear hHeld
    go_simp
    refine (HNX.out 40 _ (by omega) HKA_1.out HDr_1.out).mono ?_
    rintro E wx1 ⟨v1, rfl, hv, hd, kk⟩
    have HKA_2 : Hid (Kp w wx1 none) := Lib.hid (HKA_1.out.of_own (kk) (by omega))
    have HR_2 := Lib.hid (((kk).block _ (lt_of_block HR_1.out) (by intro q; have := Option.some.inj q; omega)).trans HR_1.out)
    have HA_2 := Lib.hid (((kk).block _ (lt_of_block HA_1.out) (by have := HP_HA.out; intro q; have := Option.some.inj q; omega)).trans HA_1.out)
    have HB_2 := Lib.hid (((kk).block _ (lt_of_block HB_1.out) (by have := HP_HB.out; intro q; have := Option.some.inj q; omega)).trans HB_1.out)
    have HDr_2 := Lib.hid hd
    have HV_v1 := Lib.hid hv
    clear hv hd kk HDr_1 HKA_1 HR_1 HA_1 HB_1
    have hw1 : IntKind.i64.wrap (1 + v1) = 1 + v1 := by have := HV_v1.out; rw [IntKind.wrap_i64]; omega
    try go_wp2_with fail
    refine hK.out _ _ ?_ (fun hHeld => ?_)
    · exact ⟨hcell HA_2.out 0 rfl, hcell HA_2.out 1 rfl, trivial⟩
    clear hK K
    try simp only [Act.put, sm]
    refine tkL 3 rfl ?_
    try simp only [Act.put, sm]
    refine wpAnyL_ready (rs := [4, 6]) (by kernel_rfl) (by simp) ?_
    refine AllReadyL.cons (o := _) rfl (fun K hK => ?_) (AllReadyL.cons (o := _) rfl (fun K hK => ?_) AllReadyL.nil)
    · clear hHeld
      go_simp
      have HKA_3 : Hid (Kp w (wx1.alloc (Obj.cells #[.int .i64 5, .int .i64 10, .int .i64 25, .int .i64 65, .int .i64 (1 + v1)] 3)) none) := Lib.hid (HKA_2.out.trans ((Kp.refl wx1 none).alloc (Obj.cells #[.int .i64 5, .int .i64 10, .int .i64 25, .int .i64 65, .int .i64 (1 + v1)] 3)))
      have HR_3 := Lib.hid (blk HR_2.out ((Kp.refl wx1 none).alloc (Obj.cells #[.int .i64 5, .int .i64 10, .int .i64 25, .int .i64 65, .int .i64 (1 + v1)] 3)))
      have HA_3 := Lib.hid (blk HA_2.out ((Kp.refl wx1 none).alloc (Obj.cells #[.int .i64 5, .int .i64 10, .int .i64 25, .int .i64 65, .int .i64 (1 + v1)] 3)))
      have HB_3 := Lib.hid (blk HB_2.out ((Kp.refl wx1 none).alloc (Obj.cells #[.int .i64 5, .int .i64 10, .int .i64 25, .int .i64 65, .int .i64 (1 + v1)] 3)))
      have HDr_3 := Lib.hid (HDr_2.out.kp ((Kp.refl wx1 none).alloc (Obj.cells #[.int .i64 5, .int .i64 10, .int .i64 25, .int .i64 65, .int .i64 (1 + v1)] 3)))
      have HQ_3 : Hid ((wx1.alloc (Obj.cells #[.int .i64 5, .int .i64 10, .int .i64 25, .int .i64 65, .int .i64 (1 + v1)] 3)).heap[wx1.heap.size]? = some (Obj.cells #[.int .i64 5, .int .i64 10, .int .i64 25, .int .i64 65, .int .i64 (1 + v1)] 3 (0, 0))) := Lib.hid (heap_alloc_new wx1 (Obj.cells #[.int .i64 5, .int .i64 10, .int .i64 25, .int .i64 65, .int .i64 (1 + v1)] 3))
      have HP_HQ : Hid (w.heap.size + 2 ≤ wx1.heap.size) := Lib.hid (by have := lt_of_block HR_2.out; have := HDr_2.out.lt; omega)
      clear HKA_2 HR_2 HA_2 HB_2 HDr_2
      try go_wp2_with fail
      refine hK.out _ _ ?_ (fun hHeld => ?_)
      · exact ⟨hcell HA_3.out 0 rfl, hcell HA_3.out 1 rfl, trivial⟩
      clear hK K
      try simp only [Act.put, sm]
      refine wpAnyL_ready (rs := [6]) (by kernel_rfl) (by simp) ?_
      refine AllReadyL.cons (o := _) rfl (fun K hK => ?_) AllReadyL.nil
      clear hHeld
      go_simp
      refine (HNX.out 5 _ (by omega) HKA_3.out HDr_3.out).mono ?_
      rintro E wx2 ⟨v2, rfl, hv, hd, kk⟩
      have HKA_4 : Hid (Kp w wx2 none) := Lib.hid (HKA_3.out.of_own (kk) (by omega))
      have HR_4 := Lib.hid (((kk).block _ (lt_of_block HR_3.out) (by intro q; have := Option.some.inj q; omega)).trans HR_3.out)
      have HA_4 := Lib.hid (((kk).block _ (lt_of_block HA_3.out) (by have := HP_HA.out; intro q; have := Option.some.inj q; omega)).trans HA_3.out)
      have HB_4 := Lib.hid (((kk).block _ (lt_of_block HB_3.out) (by have := HP_HB.out; intro q; have := Option.some.inj q; omega)).trans HB_3.out)
      have HQ_4 := Lib.hid (((kk).block _ (lt_of_block HQ_3.out) (by have := HP_HQ.out; intro q; have := Option.some.inj q; omega)).trans HQ_3.out)
      have HDr_4 := Lib.hid hd
      have HV_v2 := Lib.hid hv
      clear hv hd kk HDr_3 HKA_3 HR_3 HA_3 HB_3 HQ_3
      obtain ⟨j, hj⟩ : ∃ j : Nat, v2 = (j : Int) := ⟨v2.toNat, by have := HV_v2.out; omega⟩
      subst hj
      have hj0 : (0 : Int) ≤ (j : Int) := Int.natCast_nonneg _
      have hj4 : (j : Int) < 5 := by have := HV_v2.out; omega
      try go_wp2_with fail
      refine hK.out _ _ ?_ (fun hHeld => ?_)
      · exact ⟨hcell HA_4.out 0 rfl, hcell HA_4.out 1 rfl, trivial⟩
      clear hK K
      try simp only [Act.put, sm]
      refine tkL 7 rfl ?_
      try simp only [Act.put, sm]
      refine wpAnyL_ready (rs := [8, 10]) (by kernel_rfl) (by simp) ?_
      refine AllReadyL.cons (o := _) rfl (fun K hK => ?_) (AllReadyL.cons (o := _) rfl (fun K hK => ?_) AllReadyL.nil)
      · clear hHeld
        obtain ⟨rad, hrad, hrr⟩ : ∃ rad : Int, wx2.cell? ⟨wx1.heap.size, j, none⟩ = some (.int .i64 rad) ∧ (0 < rad ∧ rad ≤ 100) := by
          have hj5 : j = 0 ∨ j = 1 ∨ j = 2 ∨ j = 3 ∨ j = 4 := by omega
          rcases hj5 with rfl | rfl | rfl | rfl | rfl; exact ⟨5, hcell HQ_4.out 0 rfl, by omega, by omega⟩; exact ⟨10, hcell HQ_4.out 1 rfl, by omega, by omega⟩; exact ⟨25, hcell HQ_4.out 2 rfl, by omega, by omega⟩; exact ⟨65, hcell HQ_4.out 3 rfl, by omega, by omega⟩; exact ⟨1 + v1, hcell HQ_4.out 4 rfl, by have := HV_v1.out; omega, by have := HV_v1.out; omega⟩
        have HRAD := Lib.hid hrr
        clear hrr
        go_simp
        clear hrad
        try go_wp2_with fail
        refine hK.out _ _ ?_ (fun hHeld => ?_)
        · exact ⟨hcell HA_4.out 0 rfl, hcell HA_4.out 1 rfl, trivial⟩
        clear hK K
        try simp only [Act.put, sm]
        refine wpAnyL_ready (rs := [10]) (by kernel_rfl) (by simp) ?_
        refine AllReadyL.cons (o := _) rfl (fun K hK => ?_) AllReadyL.nil
        clear hHeld
        go_simp
        refine (HNX.out 2 _ (by omega) HKA_4.out HDr_4.out).mono ?_
        rintro E wx3 ⟨kd, rfl, hv, hd, kk⟩
        have HKA_5 : Hid (Kp w wx3 none) := Lib.hid (HKA_4.out.of_own (kk) (by omega))
        have HR_5 := Lib.hid (((kk).block _ (lt_of_block HR_4.out) (by intro q; have := Option.some.inj q; omega)).trans HR_4.out)
        have HA_5 := Lib.hid (((kk).block _ (lt_of_block HA_4.out) (by have := HP_HA.out; intro q; have := Option.some.inj q; omega)).trans HA_4.out)
        have HB_5 := Lib.hid (((kk).block _ (lt_of_block HB_4.out) (by have := HP_HB.out; intro q; have := Option.some.inj q; omega)).trans HB_4.out)
        have HQ_5 := Lib.hid (((kk).block _ (lt_of_block HQ_4.out) (by have := HP_HQ.out; intro q; have := Option.some.inj q; omega)).trans HQ_4.out)
        have HDr_5 := Lib.hid hd
        have HV_kd := Lib.hid hv
        clear hv hd kk HDr_4 HKA_4 HR_4 HA_4 HB_4 HQ_4
        have hwk : IntKind.i64.wrap (2 + kd) = 2 + kd := by have := HV_kd.out; rw [IntKind.wrap_i64]; omega
        try go_wp2_with fail
        refine hK.out _ _ ?_ (fun hHeld => ?_)
        · exact ⟨hcell HA_5.out 0 rfl, hcell HA_5.out 1 rfl, trivial⟩
        clear hK K
        try simp only [Act.put, sm]
        refine tkL 11 rfl ?_
        try simp only [Act.put, sm]
        refine wpAnyL_ready (rs := [12]) (by kernel_rfl) (by simp) ?_
        refine AllReadyL.cons (o := _) rfl (fun K hK => ?_) AllReadyL.nil
        clear hHeld
        go_simp
        refine (HCIRC.out rad HRAD.out kd HV_kd.out _).mono ?_
        rintro E wx4 ⟨s, ea, ec, hfine, rfl, hlies, hfresh, kk⟩
        have HKA_6 : Hid (Kp w wx4 none) := Lib.hid (HKA_5.out.trans (kk))
        have HR_6 := Lib.hid (blk HR_5.out (kk))
        have HA_6 := Lib.hid (blk HA_5.out (kk))
        have HB_6 := Lib.hid (blk HB_5.out (kk))
        have HQ_6 := Lib.hid (blk HQ_5.out (kk))
        have HDr_6 := Lib.hid (HDr_5.out.kp (kk))
        have HFINE := Lib.hid hfine
        have HLIES := Lib.hid hlies
        have FRX : Hid (∀ p, ea = some p → w.heap.size ≤ p.block ∧ p.block ≠ w.heap.size) := Lib.hid (fun p hp => by have h1 := hfresh p hp; have h2 := lt_of_block HR_5.out; have h3 := HKA_5.out.size; first | omega | (simp at h1 h2 h3; omega) | (simp at h1 h2; omega))
        clear hfine hlies hfresh kk HKA_5 HR_5 HA_5 HB_5 HQ_5 HDr_5
        try go_wp2_with fail
        refine hK.out _ _ ?_ (fun hHeld => ?_)
        · exact ⟨hcell HA_6.out 0 rfl, hcell HA_6.out 1 rfl, trivial⟩
        clear hK K
        try simp only [Act.put, sm]
        refine wpAnyL_ready (rs := [13]) (by kernel_rfl) (by simp) ?_
        refine AllReadyL.last (o := _) rfl (fun K hK => ?_)
        have f0 := Lib.frozen_of_heap HR_6.out 0
        have f1 := Lib.frozen_of_heap HR_6.out 1
        have f2 := Lib.frozen_of_heap HR_6.out 2
        have c0 := hcell HR_6.out 0 rfl
        have c1 := hcell HR_6.out 1 rfl
        have c2 := hcell HR_6.out 2 rfl
        clear hHeld
        go_simp
        try go_wp2_with fail
        refine hK.out _ _ ?_
        clear hK K
        try simp only [Act.put, sm]
        refine wpAnyL_done (by kernel_rfl) ?_ _
        go_wp2_with fail
        clear f0 f1 f2 c0 c1 c2
        have HR := HR_6
        have hs0 := heap_set (o := 0) (v := .int .i64 s.k) HR.out
        have hs1 := heap_set (o := 1) (v := .slice ea s.es.length ec) hs0
        have hs2 := heap_set (o := 2) (v := .int .i64 s.r) hs1
        have q0 := Lib.cell_of_heap hs2 0
        have q1 := Lib.cell_of_heap hs2 1
        have q2 := Lib.cell_of_heap hs2 2
        simp at q0 q1 q2
        have HO : Hid (LiesAt 7 edC (((wx4.setCell ⟨w.heap.size, 0, none⟩ (.int .i64 s.k)).setCell ⟨w.heap.size, 1, none⟩ (.slice ea s.es.length ec)).setCell ⟨w.heap.size, 2, none⟩ (.int .i64 s.r)) ea ec _) := Lib.hid (HLIES.out.keepRow ((((Kp.refl wx4 (some (w.heap.size))).set (.int .i64 s.k)).set (.slice ea s.es.length ec)).set (.int .i64 s.r)) (fun p hp => (FRX.out p hp).2))
        have KF : Hid (Kp w (((wx4.setCell ⟨w.heap.size, 0, none⟩ (.int .i64 s.k)).setCell ⟨w.heap.size, 1, none⟩ (.slice ea s.es.length ec)).setCell ⟨w.heap.size, 2, none⟩ (.int .i64 s.r)) none) := Lib.hid (HKA_6.out.of_own ((((Kp.refl wx4 (some (w.heap.size))).set (.int .i64 s.k)).set (.slice ea s.es.length ec)).set (.int .i64 s.r)) (by omega))
        clear hs0 hs1 hs2
        generalize (((wx4.setCell ⟨w.heap.size, 0, none⟩ (.int .i64 s.k)).setCell ⟨w.heap.size, 1, none⟩ (.slice ea s.es.length ec)).setCell ⟨w.heap.size, 2, none⟩ (.int .i64 s.r)) = wf at *
        exact bodyPost_ret (v := .agg #[.int .i64 s.k, .slice ea s.es.length ec, .int .i64 s.r]) (by simp [results, Tryz.results21, go_sem, q0, q1, q2]) rfl ⟨s, ea, ec, HFINE.out, rfl, HO.out, fun p hp => (FRX.out p hp).1, KF.out⟩
      · clear hHeld
        go_simp
        refine (HNX.out 2 _ (by omega) HKA_4.out HDr_4.out).mono ?_
        rintro E wx5 ⟨kd, rfl, hv, hd, kk⟩
        have HKA_5 : Hid (Kp w wx5 none) := Lib.hid (HKA_4.out.of_own (kk) (by omega))
        have HR_5 := Lib.hid (((kk).block _ (lt_of_block HR_4.out) (by intro q; have := Option.some.inj q; omega)).trans HR_4.out)
        have HA_5 := Lib.hid (((kk).block _ (lt_of_block HA_4.out) (by have := HP_HA.out; intro q; have := Option.some.inj q; omega)).trans HA_4.out)
        have HB_5 := Lib.hid (((kk).block _ (lt_of_block HB_4.out) (by have := HP_HB.out; intro q; have := Option.some.inj q; omega)).trans HB_4.out)
        have HQ_5 := Lib.hid (((kk).block _ (lt_of_block HQ_4.out) (by have := HP_HQ.out; intro q; have := Option.some.inj q; omega)).trans HQ_4.out)
        have HDr_5 := Lib.hid hd
        have HV_kd := Lib.hid hv
        clear hv hd kk HDr_4 HKA_4 HR_4 HA_4 HB_4 HQ_4
        have hwk : IntKind.i64.wrap (2 + kd) = 2 + kd := by have := HV_kd.out; rw [IntKind.wrap_i64]; omega
        try go_wp2_with fail
        refine hK.out _ _ ?_ (fun hHeld => ?_)
        · exact ⟨hcell HA_5.out 0 rfl, hcell HA_5.out 1 rfl, trivial⟩
        clear hK K
        try simp only [Act.put, sm]
        refine tkL 11 rfl ?_
        try simp only [Act.put, sm]
        refine wpAnyL_ready (rs := [8]) (by kernel_rfl) (by simp) ?_
        refine AllReadyL.cons (o := _) rfl (fun K hK => ?_) AllReadyL.nil
        clear hHeld
        obtain ⟨rad, hrad, hrr⟩ : ∃ rad : Int, wx5.cell? ⟨wx1.heap.size, j, none⟩ = some (.int .i64 rad) ∧ (0 < rad ∧ rad ≤ 100) := by
          have hj5 : j = 0 ∨ j = 1 ∨ j = 2 ∨ j = 3 ∨ j = 4 := by omega
          rcases hj5 with rfl | rfl | rfl | rfl | rfl; exact ⟨5, hcell HQ_5.out 0 rfl, by omega, by omega⟩; exact ⟨10, hcell HQ_5.out 1 rfl, by omega, by omega⟩; exact ⟨25, hcell HQ_5.out 2 rfl, by omega, by omega⟩; exact ⟨65, hcell HQ_5.out 3 rfl, by omega, by omega⟩; exact ⟨1 + v1, hcell HQ_5.out 4 rfl, by have := HV_v1.out; omega, by have := HV_v1.out; omega⟩
        have HRAD := Lib.hid hrr
        clear hrr
        go_simp
        clear hrad
        try go_wp2_with fail
        refine hK.out _ _ ?_ (fun hHeld => ?_)
        · exact ⟨hcell HA_5.out 0 rfl, hcell HA_5.out 1 rfl, trivial⟩
        clear hK K
        try simp only [Act.put, sm]
        refine wpAnyL_ready (rs := [12]) (by kernel_rfl) (by simp) ?_
        refine AllReadyL.cons (o := _) rfl (fun K hK => ?_) AllReadyL.nil
        clear hHeld
        go_simp
        refine (HCIRC.out rad HRAD.out kd HV_kd.out _).mono ?_
        rintro E wx6 ⟨s, ea, ec, hfine, rfl, hlies, hfresh, kk⟩
        have HKA_6 : Hid (Kp w wx6 none) := Lib.hid (HKA_5.out.trans (kk))
        have HR_6 := Lib.hid (blk HR_5.out (kk))
        have HA_6 := Lib.hid (blk HA_5.out (kk))
        have HB_6 := Lib.hid (blk HB_5.out (kk))
        have HQ_6 := Lib.hid (blk HQ_5.out (kk))
        have HDr_6 := Lib.hid (HDr_5.out.kp (kk))
        have HFINE := Lib.hid hfine
        have HLIES := Lib.hid hlies
        have FRX : Hid (∀ p, ea = some p → w.heap.size ≤ p.block ∧ p.block ≠ w.heap.size) := Lib.hid (fun p hp => by have h1 := hfresh p hp; have h2 := lt_of_block HR_5.out; have h3 := HKA_5.out.size; first | omega | (simp at h1 h2 h3; omega) | (simp at h1 h2; omega))
        clear hfine hlies hfresh kk HKA_5 HR_5 HA_5 HB_5 HQ_5 HDr_5
        try go_wp2_with fail
        refine hK.out _ _ ?_ (fun hHeld => ?_)
        · exact ⟨hcell HA_6.out 0 rfl, hcell HA_6.out 1 rfl, trivial⟩
        clear hK K
        try simp only [Act.put, sm]
        refine wpAnyL_ready (rs := [13]) (by kernel_rfl) (by simp) ?_
        refine AllReadyL.last (o := _) rfl (fun K hK => ?_)
        have f0 := Lib.frozen_of_heap HR_6.out 0
        have f1 := Lib.frozen_of_heap HR_6.out 1
        have f2 := Lib.frozen_of_heap HR_6.out 2
        have c0 := hcell HR_6.out 0 rfl
        have c1 := hcell HR_6.out 1 rfl
        have c2 := hcell HR_6.out 2 rfl
        clear hHeld
        go_simp
        try go_wp2_with fail
        refine hK.out _ _ ?_
        clear hK K
        try simp only [Act.put, sm]
        refine wpAnyL_done (by kernel_rfl) ?_ _
        go_wp2_with fail
        clear f0 f1 f2 c0 c1 c2
        have HR := HR_6
        have hs0 := heap_set (o := 0) (v := .int .i64 s.k) HR.out
        have hs1 := heap_set (o := 1) (v := .slice ea s.es.length ec) hs0
        have hs2 := heap_set (o := 2) (v := .int .i64 s.r) hs1
        have q0 := Lib.cell_of_heap hs2 0
        have q1 := Lib.cell_of_heap hs2 1
        have q2 := Lib.cell_of_heap hs2 2
        simp at q0 q1 q2
        have HO : Hid (LiesAt 7 edC (((wx6.setCell ⟨w.heap.size, 0, none⟩ (.int .i64 s.k)).setCell ⟨w.heap.size, 1, none⟩ (.slice ea s.es.length ec)).setCell ⟨w.heap.size, 2, none⟩ (.int .i64 s.r)) ea ec _) := Lib.hid (HLIES.out.keepRow ((((Kp.refl wx6 (some (w.heap.size))).set (.int .i64 s.k)).set (.slice ea s.es.length ec)).set (.int .i64 s.r)) (fun p hp => (FRX.out p hp).2))
        have KF : Hid (Kp w (((wx6.setCell ⟨w.heap.size, 0, none⟩ (.int .i64 s.k)).setCell ⟨w.heap.size, 1, none⟩ (.slice ea s.es.length ec)).setCell ⟨w.heap.size, 2, none⟩ (.int .i64 s.r)) none) := Lib.hid (HKA_6.out.of_own ((((Kp.refl wx6 (some (w.heap.size))).set (.int .i64 s.k)).set (.slice ea s.es.length ec)).set (.int .i64 s.r)) (by omega))
        clear hs0 hs1 hs2
        generalize (((wx6.setCell ⟨w.heap.size, 0, none⟩ (.int .i64 s.k)).setCell ⟨w.heap.size, 1, none⟩ (.slice ea s.es.length ec)).setCell ⟨w.heap.size, 2, none⟩ (.int .i64 s.r)) = wf at *
        exact bodyPost_ret (v := .agg #[.int .i64 s.k, .slice ea s.es.length ec, .int .i64 s.r]) (by simp [results, Tryz.results21, go_sem, q0, q1, q2]) rfl ⟨s, ea, ec, HFINE.out, rfl, HO.out, fun p hp => (FRX.out p hp).1, KF.out⟩
    · clear hHeld
      go_simp
      refine (HNX.out 5 _ (by omega) HKA_2.out HDr_2.out).mono ?_
      rintro E wx7 ⟨v2, rfl, hv, hd, kk⟩
      have HKA_3 : Hid (Kp w wx7 none) := Lib.hid (HKA_2.out.of_own (kk) (by omega))
      have HR_3 := Lib.hid (((kk).block _ (lt_of_block HR_2.out) (by intro q; have := Option.some.inj q; omega)).trans HR_2.out)
      have HA_3 := Lib.hid (((kk).block _ (lt_of_block HA_2.out) (by have := HP_HA.out; intro q; have := Option.some.inj q; omega)).trans HA_2.out)
      have HB_3 := Lib.hid (((kk).block _ (lt_of_block HB_2.out) (by have := HP_HB.out; intro q; have := Option.some.inj q; omega)).trans HB_2.out)
      have HDr_3 := Lib.hid hd
      have HV_v2 := Lib.hid hv
      clear hv hd kk HDr_2 HKA_2 HR_2 HA_2 HB_2
      obtain ⟨j, hj⟩ : ∃ j : Nat, v2 = (j : Int) := ⟨v2.toNat, by have := HV_v2.out; omega⟩
      subst hj
      have hj0 : (0 : Int) ≤ (j : Int) := Int.natCast_nonneg _
      have hj4 : (j : Int) < 5 := by have := HV_v2.out; omega
      try go_wp2_with fail
      refine hK.out _ _ ?_ (fun hHeld => ?_)
      · exact ⟨hcell HA_3.out 0 rfl, hcell HA_3.out 1 rfl, trivial⟩
      clear hK K
      try simp only [Act.put, sm]
      refine wpAnyL_ready (rs := [4, 10]) (by kernel_rfl) (by simp) ?_
      refine AllReadyL.cons (o := _) rfl (fun K hK => ?_) (AllReadyL.cons (o := _) rfl (fun K hK => ?_) AllReadyL.nil)
      · clear hHeld
        go_simp
        have HKA_4 : Hid (Kp w (wx7.alloc (Obj.cells #[.int .i64 5, .int .i64 10, .int .i64 25, .int .i64 65, .int .i64 (1 + v1)] 3)) none) := Lib.hid (HKA_3.out.trans ((Kp.refl wx7 none).alloc (Obj.cells #[.int .i64 5, .int .i64 10, .int .i64 25, .int .i64 65, .int .i64 (1 + v1)] 3)))
        have HR_4 := Lib.hid (blk HR_3.out ((Kp.refl wx7 none).alloc (Obj.cells #[.int .i64 5, .int .i64 10, .int .i64 25, .int .i64 65, .int .i64 (1 + v1)] 3)))
        have HA_4 := Lib.hid (blk HA_3.out ((Kp.refl wx7 none).alloc (Obj.cells #[.int .i64 5, .int .i64 10, .int .i64 25, .int .i64 65, .int .i64 (1 + v1)] 3)))
        have HB_4 := Lib.hid (blk HB_3.out ((Kp.refl wx7 none).alloc (Obj.cells #[.int .i64 5, .int .i64 10, .int .i64 25, .int .i64 65, .int .i64 (1 + v1)] 3)))
        have HDr_4 := Lib.hid (HDr_3.out.kp ((Kp.refl wx7 none).alloc (Obj.cells #[.int .i64 5, .int .i64 10, .int .i64 25, .int .i64 65, .int .i64 (1 + v1)] 3)))
        have HQ_4 : Hid ((wx7.alloc (Obj.cells #[.int .i64 5, .int .i64 10, .int .i64 25, .int .i64 65, .int .i64 (1 + v1)] 3)).heap[wx7.heap.size]? = some (Obj.cells #[.int .i64 5, .int .i64 10, .int .i64 25, .int .i64 65, .int .i64 (1 + v1)] 3 (0, 0))) := Lib.hid (heap_alloc_new wx7 (Obj.cells #[.int .i64 5, .int .i64 10, .int .i64 25, .int .i64 65, .int .i64 (1 + v1)] 3))
        have HP_HQ : Hid (w.heap.size + 2 ≤ wx7.heap.size) := Lib.hid (by have := lt_of_block HR_3.out; have := HDr_3.out.lt; omega)
        clear HKA_3 HR_3 HA_3 HB_3 HDr_3
        try go_wp2_with fail
        refine hK.out _ _ ?_ (fun hHeld => ?_)
        · exact ⟨hcell HA_4.out 0 rfl, hcell HA_4.out 1 rfl, trivial⟩
        clear hK K
        try simp only [Act.put, sm]
        refine tkL 7 rfl ?_
        try simp only [Act.put, sm]
        refine wpAnyL_ready (rs := [8, 10]) (by kernel_rfl) (by simp) ?_
        refine AllReadyL.cons (o := _) rfl (fun K hK => ?_) (AllReadyL.cons (o := _) rfl (fun K hK => ?_) AllReadyL.nil)
        · clear hHeld
          obtain ⟨rad, hrad, hrr⟩ : ∃ rad : Int, (wx7.alloc (Obj.cells #[.int .i64 5, .int .i64 10, .int .i64 25, .int .i64 65, .int .i64 (1 + v1)] 3)).cell? ⟨wx7.heap.size, j, none⟩ = some (.int .i64 rad) ∧ (0 < rad ∧ rad ≤ 100) := by
            have hj5 : j = 0 ∨ j = 1 ∨ j = 2 ∨ j = 3 ∨ j = 4 := by omega
            rcases hj5 with rfl | rfl | rfl | rfl | rfl; exact ⟨5, hcell HQ_4.out 0 rfl, by omega, by omega⟩; exact ⟨10, hcell HQ_4.out 1 rfl, by omega, by omega⟩; exact ⟨25, hcell HQ_4.out 2 rfl, by omega, by omega⟩; exact ⟨65, hcell HQ_4.out 3 rfl, by omega, by omega⟩; exact ⟨1 + v1, hcell HQ_4.out 4 rfl, by have := HV_v1.out; omega, by have := HV_v1.out; omega⟩
          have HRAD := Lib.hid hrr
          clear hrr
          go_simp
          clear hrad
          try go_wp2_with fail
          refine hK.out _ _ ?_ (fun hHeld => ?_)
          · exact ⟨hcell HA_4.out 0 rfl, hcell HA_4.out 1 rfl, trivial⟩
          clear hK K
          try simp only [Act.put, sm]
          refine wpAnyL_ready (rs := [10]) (by kernel_rfl) (by simp) ?_
          refine AllReadyL.cons (o := _) rfl (fun K hK => ?_) AllReadyL.nil
          clear hHeld
          go_simp
          refine (HNX.out 2 _ (by omega) HKA_4.out HDr_4.out).mono ?_
          rintro E wx8 ⟨kd, rfl, hv, hd, kk⟩
          have HKA_5 : Hid (Kp w wx8 none) := Lib.hid (HKA_4.out.of_own (kk) (by omega))
          have HR_5 := Lib.hid (((kk).block _ (lt_of_block HR_4.out) (by intro q; have := Option.some.inj q; omega)).trans HR_4.out)
          have HA_5 := Lib.hid (((kk).block _ (lt_of_block HA_4.out) (by have := HP_HA.out; intro q; have := Option.some.inj q; omega)).trans HA_4.out)
          have HB_5 := Lib.hid (((kk).block _ (lt_of_block HB_4.out) (by have := HP_HB.out; intro q; have := Option.some.inj q; omega)).trans HB_4.out)
          have HQ_5 := Lib.hid (((kk).block _ (lt_of_block HQ_4.out) (by have := HP_HQ.out; intro q; have := Option.some.inj q; omega)).trans HQ_4.out)
          have HDr_5 := Lib.hid hd
          have HV_kd := Lib.hid hv
          clear hv hd kk HDr_4 HKA_4 HR_4 HA_4 HB_4 HQ_4
          have hwk : IntKind.i64.wrap (2 + kd) = 2 + kd := by have := HV_kd.out; rw [IntKind.wrap_i64]; omega
          try go_wp2_with fail
          refine hK.out _ _ ?_ (fun hHeld => ?_)
          · exact ⟨hcell HA_5.out 0 rfl, hcell HA_5.out 1 rfl, trivial⟩
          clear hK K
          try simp only [Act.put, sm]
          refine tkL 11 rfl ?_
          try simp only [Act.put, sm]
          refine wpAnyL_ready (rs := [12]) (by kernel_rfl) (by simp) ?_
          refine AllReadyL.cons (o := _) rfl (fun K hK => ?_) AllReadyL.nil
          clear hHeld
          go_simp
          refine (HCIRC.out rad HRAD.out kd HV_kd.out _).mono ?_
          rintro E wx9 ⟨s, ea, ec, hfine, rfl, hlies, hfresh, kk⟩
          have HKA_6 : Hid (Kp w wx9 none) := Lib.hid (HKA_5.out.trans (kk))
          have HR_6 := Lib.hid (blk HR_5.out (kk))
          have HA_6 := Lib.hid (blk HA_5.out (kk))
          have HB_6 := Lib.hid (blk HB_5.out (kk))
          have HQ_6 := Lib.hid (blk HQ_5.out (kk))
          have HDr_6 := Lib.hid (HDr_5.out.kp (kk))
          have HFINE := Lib.hid hfine
          have HLIES := Lib.hid hlies
          have FRX : Hid (∀ p, ea = some p → w.heap.size ≤ p.block ∧ p.block ≠ w.heap.size) := Lib.hid (fun p hp => by have h1 := hfresh p hp; have h2 := lt_of_block HR_5.out; have h3 := HKA_5.out.size; first | omega | (simp at h1 h2 h3; omega) | (simp at h1 h2; omega))
          clear hfine hlies hfresh kk HKA_5 HR_5 HA_5 HB_5 HQ_5 HDr_5
          try go_wp2_with fail
          refine hK.out _ _ ?_ (fun hHeld => ?_)
          · exact ⟨hcell HA_6.out 0 rfl, hcell HA_6.out 1 rfl, trivial⟩
          clear hK K
          try simp only [Act.put, sm]
          refine wpAnyL_ready (rs := [13]) (by kernel_rfl) (by simp) ?_
          refine AllReadyL.last (o := _) rfl (fun K hK => ?_)
          have f0 := Lib.frozen_of_heap HR_6.out 0
          have f1 := Lib.frozen_of_heap HR_6.out 1
          have f2 := Lib.frozen_of_heap HR_6.out 2
          have c0 := hcell HR_6.out 0 rfl
          have c1 := hcell HR_6.out 1 rfl
          have c2 := hcell HR_6.out 2 rfl
          clear hHeld
          go_simp
          try go_wp2_with fail
          refine hK.out _ _ ?_
          clear hK K
          try simp only [Act.put, sm]
          refine wpAnyL_done (by kernel_rfl) ?_ _
          go_wp2_with fail
          clear f0 f1 f2 c0 c1 c2
          have HR := HR_6
          have hs0 := heap_set (o := 0) (v := .int .i64 s.k) HR.out
          have hs1 := heap_set (o := 1) (v := .slice ea s.es.length ec) hs0
          have hs2 := heap_set (o := 2) (v := .int .i64 s.r) hs1
          have q0 := Lib.cell_of_heap hs2 0
          have q1 := Lib.cell_of_heap hs2 1
          have q2 := Lib.cell_of_heap hs2 2
          simp at q0 q1 q2
          have HO : Hid (LiesAt 7 edC (((wx9.setCell ⟨w.heap.size, 0, none⟩ (.int .i64 s.k)).setCell ⟨w.heap.size, 1, none⟩ (.slice ea s.es.length ec)).setCell ⟨w.heap.size, 2, none⟩ (.int .i64 s.r)) ea ec _) := Lib.hid (HLIES.out.keepRow ((((Kp.refl wx9 (some (w.heap.size))).set (.int .i64 s.k)).set (.slice ea s.es.length ec)).set (.int .i64 s.r)) (fun p hp => (FRX.out p hp).2))
          have KF : Hid (Kp w (((wx9.setCell ⟨w.heap.size, 0, none⟩ (.int .i64 s.k)).setCell ⟨w.heap.size, 1, none⟩ (.slice ea s.es.length ec)).setCell ⟨w.heap.size, 2, none⟩ (.int .i64 s.r)) none) := Lib.hid (HKA_6.out.of_own ((((Kp.refl wx9 (some (w.heap.size))).set (.int .i64 s.k)).set (.slice ea s.es.length ec)).set (.int .i64 s.r)) (by omega))
          clear hs0 hs1 hs2
          generalize (((wx9.setCell ⟨w.heap.size, 0, none⟩ (.int .i64 s.k)).setCell ⟨w.heap.size, 1, none⟩ (.slice ea s.es.length ec)).setCell ⟨w.heap.size, 2, none⟩ (.int .i64 s.r)) = wf at *
          exact bodyPost_ret (v := .agg #[.int .i64 s.k, .slice ea s.es.length ec, .int .i64 s.r]) (by simp [results, Tryz.results21, go_sem, q0, q1, q2]) rfl ⟨s, ea, ec, HFINE.out, rfl, HO.out, fun p hp => (FRX.out p hp).1, KF.out⟩
        · clear hHeld
          go_simp
          refine (HNX.out 2 _ (by omega) HKA_4.out HDr_4.out).mono ?_
          rintro E wx10 ⟨kd, rfl, hv, hd, kk⟩
          have HKA_5 : Hid (Kp w wx10 none) := Lib.hid (HKA_4.out.of_own (kk) (by omega))
          have HR_5 := Lib.hid (((kk).block _ (lt_of_block HR_4.out) (by intro q; have := Option.some.inj q; omega)).trans HR_4.out)
          have HA_5 := Lib.hid (((kk).block _ (lt_of_block HA_4.out) (by have := HP_HA.out; intro q; have := Option.some.inj q; omega)).trans HA_4.out)
          have HB_5 := Lib.hid (((kk).block _ (lt_of_block HB_4.out) (by have := HP_HB.out; intro q; have := Option.some.inj q; omega)).trans HB_4.out)
          have HQ_5 := Lib.hid (((kk).block _ (lt_of_block HQ_4.out) (by have := HP_HQ.out; intro q; have := Option.some.inj q; omega)).trans HQ_4.out)
          have HDr_5 := Lib.hid hd
          have HV_kd := Lib.hid hv
          clear hv hd kk HDr_4 HKA_4 HR_4 HA_4 HB_4 HQ_4
          have hwk : IntKind.i64.wrap (2 + kd) = 2 + kd := by have := HV_kd.out; rw [IntKind.wrap_i64]; omega
          try go_wp2_with fail
          refine hK.out _ _ ?_ (fun hHeld => ?_)
          · exact ⟨hcell HA_5.out 0 rfl, hcell HA_5.out 1 rfl, trivial⟩
          clear hK K
          try simp only [Act.put, sm]
          refine tkL 11 rfl ?_
          try simp only [Act.put, sm]
          refine wpAnyL_ready (rs := [8]) (by kernel_rfl) (by simp) ?_
          refine AllReadyL.cons (o := _) rfl (fun K hK => ?_) AllReadyL.nil
          clear hHeld
          obtain ⟨rad, hrad, hrr⟩ : ∃ rad : Int, wx10.cell? ⟨wx7.heap.size, j, none⟩ = some (.int .i64 rad) ∧ (0 < rad ∧ rad ≤ 100) := by
            have hj5 : j = 0 ∨ j = 1 ∨ j = 2 ∨ j = 3 ∨ j = 4 := by omega
            rcases hj5 with rfl | rfl | rfl | rfl | rfl; exact ⟨5, hcell HQ_5.out 0 rfl, by omega, by omega⟩; exact ⟨10, hcell HQ_5.out 1 rfl, by omega, by omega⟩; exact ⟨25, hcell HQ_5.out 2 rfl, by omega, by omega⟩; exact ⟨65, hcell HQ_5.out 3 rfl, by omega, by omega⟩; exact ⟨1 + v1, hcell HQ_5.out 4 rfl, by have := HV_v1.out; omega, by have := HV_v1.out; omega⟩
          have HRAD := Lib.hid hrr
          clear hrr
          go_simp
          clear hrad
          try go_wp2_with fail
          refine hK.out _ _ ?_ (fun hHeld => ?_)
          · exact ⟨hcell HA_5.out 0 rfl, hcell HA_5.out 1 rfl, trivial⟩
          clear hK K
          try simp only [Act.put, sm]
          refine wpAnyL_ready (rs := [12]) (by kernel_rfl) (by simp) ?_
          refine AllReadyL.cons (o := _) rfl (fun K hK => ?_) AllReadyL.nil
          clear hHeld
          go_simp
          refine (HCIRC.out rad HRAD.out kd HV_kd.out _).mono ?_
          rintro E wx11 ⟨s, ea, ec, hfine, rfl, hlies, hfresh, kk⟩
          have HKA_6 : Hid (Kp w wx11 none) := Lib.hid (HKA_5.out.trans (kk))
          have HR_6 := Lib.hid (blk HR_5.out (kk))
          have HA_6 := Lib.hid (blk HA_5.out (kk))
          have HB_6 := Lib.hid (blk HB_5.out (kk))
          have HQ_6 := Lib.hid (blk HQ_5.out (kk))
          have HDr_6 := Lib.hid (HDr_5.out.kp (kk))
          have HFINE := Lib.hid hfine
          have HLIES := Lib.hid hlies
          have FRX : Hid (∀ p, ea = some p → w.heap.size ≤ p.block ∧ p.block ≠ w.heap.size) := Lib.hid (fun p hp => by have h1 := hfresh p hp; have h2 := lt_of_block HR_5.out; have h3 := HKA_5.out.size; first | omega | (simp at h1 h2 h3; omega) | (simp at h1 h2; omega))
          clear hfine hlies hfresh kk HKA_5 HR_5 HA_5 HB_5 HQ_5 HDr_5
          try go_wp2_with fail
          refine hK.out _ _ ?_ (fun hHeld => ?_)
          · exact ⟨hcell HA_6.out 0 rfl, hcell HA_6.out 1 rfl, trivial⟩
          clear hK K
          try simp only [Act.put, sm]
          refine wpAnyL_ready (rs := [13]) (by kernel_rfl) (by simp) ?_
          refine AllReadyL.last (o := _) rfl (fun K hK => ?_)
          have f0 := Lib.frozen_of_heap HR_6.out 0
          have f1 := Lib.frozen_of_heap HR_6.out 1
          have f2 := Lib.frozen_of_heap HR_6.out 2
          have c0 := hcell HR_6.out 0 rfl
          have c1 := hcell HR_6.out 1 rfl
          have c2 := hcell HR_6.out 2 rfl
          clear hHeld
          go_simp
          try go_wp2_with fail
          refine hK.out _ _ ?_
          clear hK K
          try simp only [Act.put, sm]
          refine wpAnyL_done (by kernel_rfl) ?_ _
          go_wp2_with fail
          clear f0 f1 f2 c0 c1 c2
          have HR := HR_6
          have hs0 := heap_set (o := 0) (v := .int .i64 s.k) HR.out
          have hs1 := heap_set (o := 1) (v := .slice ea s.es.length ec) hs0
          have hs2 := heap_set (o := 2) (v := .int .i64 s.r) hs1
          have q0 := Lib.cell_of_heap hs2 0
          have q1 := Lib.cell_of_heap hs2 1
          have q2 := Lib.cell_of_heap hs2 2
          simp at q0 q1 q2
          have HO : Hid (LiesAt 7 edC (((wx11.setCell ⟨w.heap.size, 0, none⟩ (.int .i64 s.k)).setCell ⟨w.heap.size, 1, none⟩ (.slice ea s.es.length ec)).setCell ⟨w.heap.size, 2, none⟩ (.int .i64 s.r)) ea ec _) := Lib.hid (HLIES.out.keepRow ((((Kp.refl wx11 (some (w.heap.size))).set (.int .i64 s.k)).set (.slice ea s.es.length ec)).set (.int .i64 s.r)) (fun p hp => (FRX.out p hp).2))
          have KF : Hid (Kp w (((wx11.setCell ⟨w.heap.size, 0, none⟩ (.int .i64 s.k)).setCell ⟨w.heap.size, 1, none⟩ (.slice ea s.es.length ec)).setCell ⟨w.heap.size, 2, none⟩ (.int .i64 s.r)) none) := Lib.hid (HKA_6.out.of_own ((((Kp.refl wx11 (some (w.heap.size))).set (.int .i64 s.k)).set (.slice ea s.es.length ec)).set (.int .i64 s.r)) (by omega))
          clear hs0 hs1 hs2
          generalize (((wx11.setCell ⟨w.heap.size, 0, none⟩ (.int .i64 s.k)).setCell ⟨w.heap.size, 1, none⟩ (.slice ea s.es.length ec)).setCell ⟨w.heap.size, 2, none⟩ (.int .i64 s.r)) = wf at *
          exact bodyPost_ret (v := .agg #[.int .i64 s.k, .slice ea s.es.length ec, .int .i64 s.r]) (by simp [results, Tryz.results21, go_sem, q0, q1, q2]) rfl ⟨s, ea, ec, HFINE.out, rfl, HO.out, fun p hp => (FRX.out p hp).1, KF.out⟩
      · clear hHeld
        go_simp
        refine (HNX.out 2 _ (by omega) HKA_3.out HDr_3.out).mono ?_
        rintro E wx12 ⟨kd, rfl, hv, hd, kk⟩
        have HKA_4 : Hid (Kp w wx12 none) := Lib.hid (HKA_3.out.of_own (kk) (by omega))
        have HR_4 := Lib.hid (((kk).block _ (lt_of_block HR_3.out) (by intro q; have := Option.some.inj q; omega)).trans HR_3.out)
        have HA_4 := Lib.hid (((kk).block _ (lt_of_block HA_3.out) (by have := HP_HA.out; intro q; have := Option.some.inj q; omega)).trans HA_3.out)
        have HB_4 := Lib.hid (((kk).block _ (lt_of_block HB_3.out) (by have := HP_HB.out; intro q; have := Option.some.inj q; omega)).trans HB_3.out)
        have HDr_4 := Lib.hid hd
        have HV_kd := Lib.hid hv
        clear hv hd kk HDr_3 HKA_3 HR_3 HA_3 HB_3
        have hwk : IntKind.i64.wrap (2 + kd) = 2 + kd := by have := HV_kd.out; rw [IntKind.wrap_i64]; omega
        try go_wp2_with fail
        refine hK.out _ _ ?_ (fun hHeld => ?_)
        · exact ⟨hcell HA_4.out 0 rfl, hcell HA_4.out 1 rfl, trivial⟩
        clear hK K
        try simp only [Act.put, sm]
        refine tkL 11 rfl ?_
        try simp only [Act.put, sm]
        refine wpAnyL_ready (rs := [4]) (by kernel_rfl) (by simp) ?_
        refine AllReadyL.cons (o := _) rfl (fun K hK => ?_) AllReadyL.nil
        clear hHeld
        go_simp
        have HKA_5 : Hid (Kp w (wx12.alloc (Obj.cells #[.int .i64 5, .int .i64 10, .int .i64 25, .int .i64 65, .int .i64 (1 + v1)] 3)) none) := Lib.hid (HKA_4.out.trans ((Kp.refl wx12 none).alloc (Obj.cells #[.int .i64 5, .int .i64 10, .int .i64 25, .int .i64 65, .int .i64 (1 + v1)] 3)))
        have HR_5 := Lib.hid (blk HR_4.out ((Kp.refl wx12 none).alloc (Obj.cells #[.int .i64 5, .int .i64 10, .int .i64 25, .int .i64 65, .int .i64 (1 + v1)] 3)))
        have HA_5 := Lib.hid (blk HA_4.out ((Kp.refl wx12 none).alloc (Obj.cells #[.int .i64 5, .int .i64 10, .int .i64 25, .int .i64 65, .int .i64 (1 + v1)] 3)))
        have HB_5 := Lib.hid (blk HB_4.out ((Kp.refl wx12 none).alloc (Obj.cells #[.int .i64 5, .int .i64 10, .int .i64 25, .int .i64 65, .int .i64 (1 + v1)] 3)))
        have HDr_5 := Lib.hid (HDr_4.out.kp ((Kp.refl wx12 none).alloc (Obj.cells #[.int .i64 5, .int .i64 10, .int .i64 25, .int .i64 65, .int .i64 (1 + v1)] 3)))
        have HQ_5 : Hid ((wx12.alloc (Obj.cells #[.int .i64 5, .int .i64 10, .int .i64 25, .int .i64 65, .int .i64 (1 + v1)] 3)).heap[wx12.heap.size]? = some (Obj.cells #[.int .i64 5, .int .i64 10, .int .i64 25, .int .i64 65, .int .i64 (1 + v1)] 3 (0, 0))) := Lib.hid (heap_alloc_new wx12 (Obj.cells #[.int .i64 5, .int .i64 10, .int .i64 25, .int .i64 65, .int .i64 (1 + v1)] 3))
        have HP_HQ : Hid (w.heap.size + 2 ≤ wx12.heap.size) := Lib.hid (by have := lt_of_block HR_4.out; have := HDr_4.out.lt; omega)
        clear HKA_4 HR_4 HA_4 HB_4 HDr_4
        try go_wp2_with fail
        refine hK.out _ _ ?_ (fun hHeld => ?_)
        · exact ⟨hcell HA_5.out 0 rfl, hcell HA_5.out 1 rfl, trivial⟩
        clear hK K
        try simp only [Act.put, sm]
        refine tkL 7 rfl ?_
        try simp only [Act.put, sm]
        refine wpAnyL_ready (rs := [8]) (by kernel_rfl) (by simp) ?_
        refine AllReadyL.cons (o := _) rfl (fun K hK => ?_) AllReadyL.nil
        clear hHeld
        obtain ⟨rad, hrad, hrr⟩ : ∃ rad : Int, (wx12.alloc (Obj.cells #[.int .i64 5, .int .i64 10, .int .i64 25, .int .i64 65, .int .i64 (1 + v1)] 3)).cell? ⟨wx12.heap.size, j, none⟩ = some (.int .i64 rad) ∧ (0 < rad ∧ rad ≤ 100) := by
          have hj5 : j = 0 ∨ j = 1 ∨ j = 2 ∨ j = 3 ∨ j = 4 := by omega
          rcases hj5 with rfl | rfl | rfl | rfl | rfl; exact ⟨5, hcell HQ_5.out 0 rfl, by omega, by omega⟩; exact ⟨10, hcell HQ_5.out 1 rfl, by omega, by omega⟩; exact ⟨25, hcell HQ_5.out 2 rfl, by omega, by omega⟩; exact ⟨65, hcell HQ_5.out 3 rfl, by omega, by omega⟩; exact ⟨1 + v1, hcell HQ_5.out 4 rfl, by have := HV_v1.out; omega, by have := HV_v1.out; omega⟩
        have HRAD := Lib.hid hrr
        clear hrr
        go_simp
        clear hrad
        try go_wp2_with fail
        refine hK.out _ _ ?_ (fun hHeld => ?_)
        · exact ⟨hcell HA_5.out 0 rfl, hcell HA_5.out 1 rfl, trivial⟩
        clear hK K
        try simp only [Act.put, sm]
        refine wpAnyL_ready (rs := [12]) (by kernel_rfl) (by simp) ?_
        refine AllReadyL.cons (o := _) rfl (fun K hK => ?_) AllReadyL.nil
        clear hHeld
        go_simp
        refine (HCIRC.out rad HRAD.out kd HV_kd.out _).mono ?_
        rintro E wx13 ⟨s, ea, ec, hfine, rfl, hlies, hfresh, kk⟩
        have HKA_6 : Hid (Kp w wx13 none) := Lib.hid (HKA_5.out.trans (kk))
        have HR_6 := Lib.hid (blk HR_5.out (kk))
        have HA_6 := Lib.hid (blk HA_5.out (kk))
        have HB_6 := Lib.hid (blk HB_5.out (kk))
        have HQ_6 := Lib.hid (blk HQ_5.out (kk))
        have HDr_6 := Lib.hid (HDr_5.out.kp (kk))
        have HFINE := Lib.hid hfine
        have HLIES := Lib.hid hlies
        have FRX : Hid (∀ p, ea = some p → w.heap.size ≤ p.block ∧ p.block ≠ w.heap.size) := Lib.hid (fun p hp => by have h1 := hfresh p hp; have h2 := lt_of_block HR_5.out; have h3 := HKA_5.out.size; first | omega | (simp at h1 h2 h3; omega) | (simp at h1 h2; omega))
        clear hfine hlies hfresh kk HKA_5 HR_5 HA_5 HB_5 HQ_5 HDr_5
        try go_wp2_with fail
        refine hK.out _ _ ?_ (fun hHeld => ?_)
        · exact ⟨hcell HA_6.out 0 rfl, hcell HA_6.out 1 rfl, trivial⟩
        clear hK K
        try simp only [Act.put, sm]
        refine wpAnyL_ready (rs := [13]) (by kernel_rfl) (by simp) ?_
        refine AllReadyL.last (o := _) rfl (fun K hK => ?_)
        have f0 := Lib.frozen_of_heap HR_6.out 0
        have f1 := Lib.frozen_of_heap HR_6.out 1
        have f2 := Lib.frozen_of_heap HR_6.out 2
        have c0 := hcell HR_6.out 0 rfl
        have c1 := hcell HR_6.out 1 rfl
        have c2 := hcell HR_6.out 2 rfl
        clear hHeld
        go_simp
        try go_wp2_with fail
        refine hK.out _ _ ?_
        clear hK K
        try simp only [Act.put, sm]
        refine wpAnyL_done (by kernel_rfl) ?_ _
        go_wp2_with fail
        clear f0 f1 f2 c0 c1 c2
        have HR := HR_6
        have hs0 := heap_set (o := 0) (v := .int .i64 s.k) HR.out
        have hs1 := heap_set (o := 1) (v := .slice ea s.es.length ec) hs0
        have hs2 := heap_set (o := 2) (v := .int .i64 s.r) hs1
        have q0 := Lib.cell_of_heap hs2 0
        have q1 := Lib.cell_of_heap hs2 1
        have q2 := Lib.cell_of_heap hs2 2
        simp at q0 q1 q2
        have HO : Hid (LiesAt 7 edC (((wx13.setCell ⟨w.heap.size, 0, none⟩ (.int .i64 s.k)).setCell ⟨w.heap.size, 1, none⟩ (.slice ea s.es.length ec)).setCell ⟨w.heap.size, 2, none⟩ (.int .i64 s.r)) ea ec _) := Lib.hid (HLIES.out.keepRow ((((Kp.refl wx13 (some (w.heap.size))).set (.int .i64 s.k)).set (.slice ea s.es.length ec)).set (.int .i64 s.r)) (fun p hp => (FRX.out p hp).2))
        have KF : Hid (Kp w (((wx13.setCell ⟨w.heap.size, 0, none⟩ (.int .i64 s.k)).setCell ⟨w.heap.size, 1, none⟩ (.slice ea s.es.length ec)).setCell ⟨w.heap.size, 2, none⟩ (.int .i64 s.r)) none) := Lib.hid (HKA_6.out.of_own ((((Kp.refl wx13 (some (w.heap.size))).set (.int .i64 s.k)).set (.slice ea s.es.length ec)).set (.int .i64 s.r)) (by omega))
        clear hs0 hs1 hs2
        generalize (((wx13.setCell ⟨w.heap.size, 0, none⟩ (.int .i64 s.k)).setCell ⟨w.heap.size, 1, none⟩ (.slice ea s.es.length ec)).setCell ⟨w.heap.size, 2, none⟩ (.int .i64 s.r)) = wf at *
        exact bodyPost_ret (v := .agg #[.int .i64 s.k, .slice ea s.es.length ec, .int .i64 s.r]) (by simp [results, Tryz.results21, go_sem, q0, q1, q2]) rfl ⟨s, ea, ec, HFINE.out, rfl, HO.out, fun p hp => (FRX.out p hp).1, KF.out⟩
  · go_wp2_with fail
    have HKA_1 : Hid (Kp w w8.drew none) := Lib.hid (HKA_0.out.trans ((Kp.refl w8 none).drew))
    have HR_1 := Lib.hid (blk HR_0.out ((Kp.refl w8 none).drew))
    have HA_1 := Lib.hid (blk HA_0.out ((Kp.refl w8 none).drew))
    have HB_1 := Lib.hid (blk HB_0.out ((Kp.refl w8 none).drew))
    have HDr_1 := Lib.hid (HDr_0.out.kp ((Kp.refl w8 none).drew))
    clear HKA_0 HR_0 HA_0 HB_0 HDr_0
    refine wp_region_last (fun V => V.cell? ⟨w5.heap.size, 0, none⟩ = some (.int .i64 x) ∧ V.cell? ⟨w5.heap.size, 1, none⟩ = some (.int .i64 y) ∧ V.cell? ⟨w5.heap.size, 2, none⟩ = some (.int .i64 (x + (12 + w0))) ∧ V.cell? ⟨w5.heap.size, 3, none⟩ = some (.int .i64 (y + (12 + h0))) ∧ True) 5 (by kernel_rfl) ?_ (fun hHeld => ?_)
    · exact ⟨hcell HB_1.out 0 rfl, hcell HB_1.out 1 rfl, hcell HB_1.out 2 rfl, hcell HB_1.out 3 rfl, trivial⟩
    refine tkL 0 rfl ?_
    try simp only [Act.put, sm]
    refine tkL 1 rfl ?_
    try simp only [Act.put, sm]
    refine wpAnyL_ready (rs := [2]) (by kernel_rfl) (by simp) ?_
    refine AllReadyL.cons (o := _) rfl (fun K hK => ?_) AllReadyL.nil
    clear hHeld
    go_simp
    refine (HNX.out 5 _ (by omega) HKA_1.out HDr_1.out).mono ?_
    rintro E wx1 ⟨r6, rfl, hv, hd, kk⟩
    have HKA_2 : Hid (Kp w wx1 none) := Lib.hid (HKA_1.out.of_own (kk) (by omega))
    have HR_2 := Lib.hid (((kk).block _ (lt_of_block HR_1.out) (by intro q; have := Option.some.inj q; omega)).trans HR_1.out)
    have HA_2 := Lib.hid (((kk).block _ (lt_of_block HA_1.out) (by have := HP_HA.out; intro q; have := Option.some.inj q; omega)).trans HA_1.out)
    have HB_2 := Lib.hid (((kk).block _ (lt_of_block HB_1.out) (by have := HP_HB.out; intro q; have := Option.some.inj q; omega)).trans HB_1.out)
    have HDr_2 := Lib.hid hd
    have HV_r6 := Lib.hid hv
    clear hv hd kk HDr_1 HKA_1 HR_1 HA_1 HB_1
    have hw1 : IntKind.i64.wrap (1 + r6) = 1 + r6 := by have := HV_r6.out; rw [IntKind.wrap_i64]; omega
    try go_wp2_with fail
    refine hK.out _ _ ?_ (fun hHeld => ?_)
    · exact ⟨hcell HB_2.out 0 rfl, hcell HB_2.out 1 rfl, hcell HB_2.out 2 rfl, hcell HB_2.out 3 rfl, trivial⟩
    clear hK K
    try simp only [Act.put, sm]
    refine tkL 3 rfl ?_
    try simp only [Act.put, sm]
    refine wpAnyL_ready (rs := [4]) (by kernel_rfl) (by simp) ?_
    refine AllReadyL.cons (o := _) rfl (fun K hK => ?_) AllReadyL.nil
    clear hHeld
    go_simp
    refine (HROUND.out r6 HV_r6.out _).mono ?_
    rintro E wx2 ⟨s, ea, ec, hfine, rfl, hlies, hfresh, kk⟩
    have HKA_3 : Hid (Kp w wx2 none) := Lib.hid (HKA_2.out.trans (kk))
    have HR_3 := Lib.hid (blk HR_2.out (kk))
    have HA_3 := Lib.hid (blk HA_2.out (kk))
    have HB_3 := Lib.hid (blk HB_2.out (kk))
    have HDr_3 := Lib.hid (HDr_2.out.kp (kk))
    have HFINE := Lib.hid hfine
    have HLIES := Lib.hid hlies
    have FRX : Hid (∀ p, ea = some p → w.heap.size ≤ p.block ∧ p.block ≠ w.heap.size) := Lib.hid (fun p hp => by have h1 := hfresh p hp; have h2 := lt_of_block HR_2.out; have h3 := HKA_2.out.size; first | omega | (simp at h1 h2 h3; omega) | (simp at h1 h2; omega))
    clear hfine hlies hfresh kk HKA_2 HR_2 HA_2 HB_2 HDr_2
    try go_wp2_with fail
    refine hK.out _ _ ?_ (fun hHeld => ?_)
    · exact ⟨hcell HB_3.out 0 rfl, hcell HB_3.out 1 rfl, hcell HB_3.out 2 rfl, hcell HB_3.out 3 rfl, trivial⟩
    clear hK K
    try simp only [Act.put, sm]
    refine wpAnyL_ready (rs := [5]) (by kernel_rfl) (by simp) ?_
    refine AllReadyL.last (o := _) rfl (fun K hK => ?_)
    have f0 := Lib.frozen_of_heap HR_3.out 0
    have f1 := Lib.frozen_of_heap HR_3.out 1
    have f2 := Lib.frozen_of_heap HR_3.out 2
    have c0 := hcell HR_3.out 0 rfl
    have c1 := hcell HR_3.out 1 rfl
    have c2 := hcell HR_3.out 2 rfl
    clear hHeld
    go_simp
    try go_wp2_with fail
    refine hK.out _ _ ?_
    clear hK K
    try simp only [Act.put, sm]
    refine wpAnyL_done (by kernel_rfl) ?_ _
    go_wp2_with fail
    clear f0 f1 f2 c0 c1 c2
    have HR := HR_3
    have hs0 := heap_set (o := 0) (v := .int .i64 s.k) HR.out
    have hs1 := heap_set (o := 1) (v := .slice ea s.es.length ec) hs0
    have hs2 := heap_set (o := 2) (v := .int .i64 s.r) hs1
    have q0 := Lib.cell_of_heap hs2 0
    have q1 := Lib.cell_of_heap hs2 1
    have q2 := Lib.cell_of_heap hs2 2
    simp at q0 q1 q2
    have HO : Hid (LiesAt 7 edC (((wx2.setCell ⟨w.heap.size, 0, none⟩ (.int .i64 s.k)).setCell ⟨w.heap.size, 1, none⟩ (.slice ea s.es.length ec)).setCell ⟨w.heap.size, 2, none⟩ (.int .i64 s.r)) ea ec _) := Lib.hid (HLIES.out.keepRow ((((Kp.refl wx2 (some (w.heap.size))).set (.int .i64 s.k)).set (.slice ea s.es.length ec)).set (.int .i64 s.r)) (fun p hp => (FRX.out p hp).2))
    have KF : Hid (Kp w (((wx2.setCell ⟨w.heap.size, 0, none⟩ (.int .i64 s.k)).setCell ⟨w.heap.size, 1, none⟩ (.slice ea s.es.length ec)).setCell ⟨w.heap.size, 2, none⟩ (.int .i64 s.r)) none) := Lib.hid (HKA_3.out.of_own ((((Kp.refl wx2 (some (w.heap.size))).set (.int .i64 s.k)).set (.slice ea s.es.length ec)).set (.int .i64 s.r)) (by omega))
    clear hs0 hs1 hs2
    generalize (((wx2.setCell ⟨w.heap.size, 0, none⟩ (.int .i64 s.k)).setCell ⟨w.heap.size, 1, none⟩ (.slice ea s.es.length ec)).setCell ⟨w.heap.size, 2, none⟩ (.int .i64 s.r)) = wf at *
    exact bodyPost_ret (v := .agg #[.int .i64 s.k, .slice ea s.es.length ec, .int .i64 s.r]) (by simp [results, Tryz.results21, go_sem, q0, q1, q2]) rfl ⟨s, ea, ec, HFINE.out, rfl, HO.out, fun p hp => (FRX.out p hp).1, KF.out⟩
end Go.Proofs.YtggplbenliaodaaGreatDoor
