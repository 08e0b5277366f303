/- RectsMoves' walk: moved sets are combined in the same way. Condition: the numbers are bytes. -/
import Derived.Test.YtpakiabnhdoijaaL4
import Derived.Test.YtpakiabnhdoijaaMv
import Derived.Test.YtpakiabnhdoijaaRcM
namespace Go.Proofs.Ytpakiabnhdoijaa
open Go.RowKit

theorem made_right (qs : List Quad) (h : ∀ q ∈ qs, q.ok) : Rc.Right (made qs) := by
  refine ⟨Nat.le_trans (made_len qs) (by decide), fun r hr => ?_⟩
  unfold made at hr
  obtain ⟨q, hq, rfl⟩ := List.mem_map.1 hr
  have := h q (List.mem_of_mem_take hq)
  unfold Quad.ok at this
  unfold Quad.rect Rc.Rect.ok Rc.far
  dsimp only
  omega
theorem comb_small {k : Bool → Bool → Bool} (hk : Rc.Comb k) {a b : List Rc.Rect} (ha : Rc.Small a) (hb : Rc.Small b) (hra : Rc.Right a) (hrb : Rc.Right b) (hl : a.length + b.length ≤ 24) : (∀ r ∈ Rc.comb k a b, small r) ∧ (Rc.comb k a b).length ≤ 2304 := by
  refine ⟨fun r hr => ?_, Nat.le_trans (Rc.comb_len hk a b hl) (by decide)⟩
  have h1 := Rc.comb_in hk a b (X0 := 0) (Y0 := 0) (X1 := 13) (Y1 := 13) (fun u hu => by
    rw [Rc.set_of_right hra, Rc.set_of_right hrb] at hu
    rcases List.mem_append.1 hu with h | h
    · exact ha u h
    · exact hb u h) r hr
  have h2 := Rc.comb_pos hk a b r hr
  unfold small
  omega
theorem list_small {a : List Rc.Rect} (ha : Rc.Small a) (hra : Rc.Right a) : ∀ r ∈ a, small r := fun r hr => by
  have h1 := ha r hr
  have h2 := hra.2 r hr
  unfold Rc.Rect.ok at h2
  unfold small
  omega
/-- What is the same of moved sets. -/
theorem moves_facts {a b : List Rc.Rect} (ha : Rc.Small a) (hb : Rc.Small b) (hra : Rc.Right a) (hrb : Rc.Right b) (_hla : a.length ≤ 12) (ax ay az : Int) :
    (∀ k, Rc.Comb k → Rc.comb k (a.map (movR (movX ax) (movX ay) (movT az))) (b.map (movR (movX ax) (movX ay) (movT az))) = (Rc.comb k a b).map (movR (movX ax) (movX ay) (movT az))) ∧
    Rc.areaOf (Rc.norm (a.map (movR (movX ax) (movX ay) (movT az)))) = movT az * movT az * Rc.areaOf (Rc.norm a) ∧
    (Rc.pieces (a.map (movR (movX ax) (movX ay) (movT az)))).length = (Rc.pieces a).length ∧
    (Rc.norm (a.map (movR (movX ax) (movX ay) (movT az)))).length = (Rc.norm a).length ∧ 0 ≤ Rc.areaOf (Rc.norm a) ∧ Rc.areaOf (Rc.norm a) ≤ 225 := by
  have hx := movX_range ax
  have hy := movX_range ay
  have ht := movT_range az
  have ht' : 0 < movT az ∧ movT az ≤ 20 := by unfold movT; omega
  have ra' := Rc.right_small ha (fun r hr => ⟨(hra.2 r hr).1, (hra.2 r hr).2.1⟩) hra.1 hx hy ht'
  have rb' := Rc.right_small hb (fun r hr => ⟨(hrb.2 r hr).1, (hrb.2 r hr).2.1⟩) hrb.1 hx hy ht'
  have e : movR (movX ax) (movX ay) (movT az) = Rc.mv (movX ax) (movX ay) (movT az) := rfl
  have ex : ∀ b : Int, b.tmod 100000000 = movX b := fun _ => rfl
  simp only [ex] at ra' rb'
  rw [e]
  refine ⟨fun k hk => Rc.comb_mv hk ht'.1 hra hrb ra' rb', ?_, Rc.pieces_mv ht'.1 hra ra', ?_, ?_, ?_⟩
  · rw [Rc.norm_mv ht'.1 hra ra', Rc.area_mv]
  · rw [Rc.norm_mv ht'.1 hra ra', List.length_map]
  · exact Rc.area_nonneg (Rc.norm_pos a)
  · have h := Rc.count_norm a (by rw [Rc.set_of_right hra]; exact ha)
    have := Rc.count_le (Rc.cov (Rc.set a))
    omega

set_option maxHeartbeats 8000000 in
set_option maxRecDepth 100000 in
theorem moves_any (v0 v1 : Value) (qs ps : List Quad) (ax ay az : Int) (w : World) (h0 : IsQuads w v0 qs) (h1 : IsQuads w v1 ps) (o0 : ∀ q ∈ qs, q.ok) (o1 : ∀ q ∈ ps, q.ok) :
    Calls Try.prog 8 #[v0, v1, .agg #[.int .i64 ax, .int .i64 ay, .int .i64 az]] w fun E w' => E = .returned (.bool true) ∧ Kp w w' none := by
  have C0 : Hid (∀ V, Kp w V none → Calls Try.prog 11 #[v0, .int .i64 12] V fun E w' => OwnRects V E w' (made qs)) := Lib.hid fun V k => made_any v0 qs V (h0.keep k) o0
  have C1 : Hid (∀ V, Kp w V none → Calls Try.prog 11 #[v1, .int .i64 12] V fun E w' => OwnRects V E w' (made ps)) := Lib.hid fun V k => made_any v1 ps V (h1.keep k) o1
  have hla := made_len qs
  have hlb := made_len ps
  have MF := moves_facts (made_small qs o0) (made_small ps o1) (made_right qs o0) (made_right ps o1) hla ax ay az
  have SA := Lib.hid (list_small (made_small qs o0) (made_right qs o0))
  have SB := Lib.hid (list_small (made_small ps o1) (made_right ps o1))
  have SJ := Lib.hid (comb_small Rc.join_comb (made_small qs o0) (made_small ps o1) (made_right qs o0) (made_right ps o1) (by omega))
  have SL := Lib.hid (comb_small Rc.less_comb (made_small qs o0) (made_small ps o1) (made_right qs o0) (made_right ps o1) (by omega))
  have SM := Lib.hid (comb_small Rc.meet_comb (made_small qs o0) (made_small ps o1) (made_right qs o0) (made_right ps o1) (by omega))
  clear h0 h1 o0 o1
  obtain ⟨a, ha⟩ : ∃ a, made qs = a := ⟨_, rfl⟩
  obtain ⟨b, hb⟩ : ∃ a, made ps = a := ⟨_, rfl⟩
  rw [ha] at C0 hla SA
  rw [hb] at C1 hlb SB
  rw [ha, hb] at MF SJ SL SM
  clear ha hb
  have C31 : Hid (∀ V v l, IsRects V v l → (∀ r ∈ l, small r) → l.length ≤ 65536 → Calls Try.prog 31 #[v, .agg #[.int .i64 ax, .int .i64 ay, .int .i64 az]] V fun E w' => OwnRects V E w' (l.map (movR (movX ax) (movX ay) (movT az)))) := Lib.hid fun V v l h1 h2 h3 => moved_any v l ax ay az V h1 h2 h3
  obtain ⟨M, hM⟩ : ∃ M, movR (movX ax) (movX ay) (movT az) = M := ⟨_, rfl⟩
  rw [hM] at C31 MF
  obtain ⟨mf1, mf2, mf3, mf4, mf5, mf6⟩ := MF
  have FJ := Lib.hid (mf1 _ Rc.join_comb)
  have FL := Lib.hid (mf1 _ Rc.less_comb)
  have FM := Lib.hid (mf1 _ Rc.meet_comb)
  have hnl : (Rc.norm a).length ≤ 65536 := Nat.le_trans (Rc.comb_len Rc.join_comb a [] (n := 12) (by simpa using hla)) (by decide)
  have hnl2 : (Rc.norm (a.map M)).length ≤ 65536 := by rw [mf4]; exact hnl
  have hcl : (a.map M).length = a.length := List.length_map _
  have hdl : (b.map M).length = b.length := List.length_map _
  clear mf1 mf4 hM
  obtain ⟨tr1, tr2⟩ := movT_range az
  unfold movT at mf2
  obtain ⟨ur, hur⟩ : ∃ u, (IntKind.u64.wrap az).tmod 20 = u := ⟨_, rfl⟩
  rw [hur] at tr1 tr2 mf2
  obtain ⟨t, ht⟩ : ∃ t, 1 + ur = t := ⟨_, rfl⟩
  rw [ht] at mf2
  have q1 : wrap64 ur = ur := by unfold wrap64; omega
  have q2 : wrap64 (1 + ur) = t := by rw [← ht]; unfold wrap64; omega
  have htt : 1 ≤ t * t ∧ t * t ≤ 400 := by
    have g1 : 1 * 1 ≤ t * t := Int.mul_le_mul (by omega) (by omega) (by omega) (by omega)
    have g2 : t * t ≤ 20 * 20 := Int.mul_le_mul (by omega) (by omega) (by omega) (by omega)
    omega
  obtain ⟨tt, htt'⟩ : ∃ u, t * t = u := ⟨_, rfl⟩
  rw [htt'] at htt mf2
  obtain ⟨ar, har⟩ : ∃ u, Rc.areaOf (Rc.norm a) = u := ⟨_, rfl⟩
  rw [har] at mf2 mf5 mf6
  obtain ⟨ac, hac⟩ : ∃ u, tt * ar = u := ⟨_, rfl⟩
  rw [hac] at mf2
  have hacr : 0 ≤ ac ∧ ac ≤ 90000 := by
    have g1 : 0 ≤ tt * ar := Int.mul_nonneg (by omega) mf5
    have g2 : tt * ar ≤ 400 * 225 := Int.mul_le_mul htt.2 mf6 mf5 (by omega)
    omega
  have q3 : wrap64 tt = tt := by unfold wrap64; omega
  have q4 : wrap64 ac = ac := by unfold wrap64; omega
  have qm1 : wrap64 (t * t) = tt := by rw [htt']; exact q3
  have qm2 : wrap64 (tt * ar) = ac := by rw [hac]; exact q4
  have CA : Hid (∀ V v, IsRects V v a → Calls Try.prog 17 #[v] V fun E w' => E = .returned (.int .i64 ar) ∧ Kp V w' none) := Lib.hid fun V v h => by
    have := areaP_any v a V h (by omega)
    rw [har] at this; exact this
  have CC' : Hid (∀ V v, IsRects V v (a.map M) → Calls Try.prog 17 #[v] V fun E w' => E = .returned (.int .i64 ac) ∧ Kp V w' none) := Lib.hid fun V v h => by
    have := areaP_any v (a.map M) V h (by omega)
    rw [mf2] at this; exact this
  obtain ⟨np, hnp⟩ : ∃ n, (Rc.pieces a).length = n := ⟨_, rfl⟩
  rw [hnp] at mf3
  have PA : Hid (∀ V v, IsRects V v a → Calls Try.prog 22 #[v] V fun E w' => (∃ ao cap, E = .returned (.slice ao np cap)) ∧ Kp V w' none) := Lib.hid fun V v h => by
    refine (piecesP_any v a V h (by omega) hnl).mono ?_
    rintro E w' ⟨u, rfl, hu, k⟩
    obtain ⟨ao, cap, rfl, _⟩ := hu.form
    rw [hnp]
    exact ⟨⟨ao, cap, rfl⟩, k⟩
  have PC : Hid (∀ V v, IsRects V v (a.map M) → Calls Try.prog 22 #[v] V fun E w' => (∃ ao cap, E = .returned (.slice ao np cap)) ∧ Kp V w' none) := Lib.hid fun V v h => by
    refine (piecesP_any v (a.map M) V h (by omega) hnl2).mono ?_
    rintro E w' ⟨u, rfl, hu, k⟩
    obtain ⟨ao, cap, rfl, _⟩ := hu.form
    rw [mf3]
    exact ⟨⟨ao, cap, rfl⟩, k⟩
  clear ht htt htt' har hac hacr mf2 mf3 mf5 mf6 hnp hnl hnl2 tr1 tr2
  obtain ⟨B5, hB5⟩ : ∃ B, w.heap.size = B := ⟨_, rfl⟩
  obtain ⟨w0, hw0⟩ : ∃ w0, w.alloc (Obj.cells #[.int .i64 ax, .int .i64 ay, .int .i64 az] 47) = w0 := ⟨_, rfl⟩
  have K0 : Kp w w0 none := by rw [← hw0]; exact Kp.alloc (Kp.refl _ _) _
  have c0 := heap_alloc_new w (Obj.cells #[.int .i64 ax, .int .i64 ay, .int .i64 az] 47)
  rw [hw0, hB5] at c0
  have CC : Hid (∀ V, Kp w0 V none → V.cell? ⟨B5, 0, none⟩ = some (.int .i64 ax) ∧ V.cell? ⟨B5, 1, none⟩ = some (.int .i64 ay) ∧ V.cell? ⟨B5, 2, none⟩ = some (.int .i64 az)) := Lib.hid fun V k => by
    have h := (k.block B5 (lt_of_block c0) (by simp)).trans c0
    exact ⟨by rw [cell_of_row _ _ _ _ _ _ h]; rfl, by rw [cell_of_row _ _ _ _ _ _ h]; rfl, by rw [cell_of_row _ _ _ _ _ _ h]; rfl⟩
  have HK0 := Lib.hid K0
  clear c0 K0
  go_enter Try.func8, Try.ntmps8
  go_wp2_with fail
  refine (sanity_any _).mono ?_
  rintro E w1 ⟨rfl, k⟩
  have KQ : Hid (Kp w0 w1 none) := Lib.hid k
  clear k
  go_wp2_with fail
  refine (C0.out _ (HK0.out.trans KQ.out)).mono ?_
  rintro E w2 ⟨u0, rfl, ho, k⟩
  have HA := Lib.hid (isList_own (m := 4) (f := recVal) (fun _ => rfl) ho)
  have KQ := Lib.hid (KQ.out.trans k)
  clear ho k
  go_wp2_with fail
  refine (C1.out _ (HK0.out.trans KQ.out)).mono ?_
  rintro E w3 ⟨u1, rfl, ho, k⟩
  have HB := Lib.hid (isList_own (m := 4) (f := recVal) (fun _ => rfl) ho)
  have KQ := Lib.hid (KQ.out.trans k)
  have HA := Lib.hid (HA.out.keep k)
  clear ho k
  obtain ⟨c0, c1, c2⟩ := CC.out _ KQ.out
  go_wp2_with fail
  clear c0 c1 c2
  refine (C31.out _ _ _ HA.out SA.out (by omega)).mono ?_
  rintro E w4 ⟨u2, rfl, ho, k⟩
  have HC := Lib.hid (isList_own (m := 4) (f := recVal) (fun _ => rfl) ho)
  have KQ := Lib.hid (KQ.out.trans k)
  have HA := Lib.hid (HA.out.keep k)
  have HB := Lib.hid (HB.out.keep k)
  clear ho k
  obtain ⟨c0, c1, c2⟩ := CC.out _ KQ.out
  go_wp2_with fail
  clear c0 c1 c2
  refine (C31.out _ _ _ HB.out SB.out (by omega)).mono ?_
  rintro E w5 ⟨u3, rfl, ho, k⟩
  have HA : Hid (∀ V, Kp w5 V none → IsRects V u0 a) := Lib.hid fun V kk => HA.out.keep (k.trans kk)
  have HB : Hid (∀ V, Kp w5 V none → IsRects V u1 b) := Lib.hid fun V kk => HB.out.keep (k.trans kk)
  have HC : Hid (∀ V, Kp w5 V none → IsRects V u2 (a.map M)) := Lib.hid fun V kk => HC.out.keep (k.trans kk)
  have HD : Hid (∀ V, Kp w5 V none → IsRects V u3 (b.map M)) := Lib.hid fun V kk => (isList_own (m := 4) (f := recVal) (fun _ => rfl) ho).keep kk
  have K5 := Lib.hid (KQ.out.trans k)
  have CC : Hid (∀ V, Kp w5 V none → V.cell? ⟨B5, 0, none⟩ = some (.int .i64 ax) ∧ V.cell? ⟨B5, 1, none⟩ = some (.int .i64 ay) ∧ V.cell? ⟨B5, 2, none⟩ = some (.int .i64 az)) := Lib.hid fun V kk => CC.out V (K5.out.trans kk)
  have C31 : Hid (∀ V v l, Kp w5 V none → IsRects V v l → (∀ r ∈ l, small r) → l.length ≤ 65536 → Calls Try.prog 31 #[v, .agg #[.int .i64 ax, .int .i64 ay, .int .i64 az]] V fun E w' => OwnRects V E w' (l.map M)) := Lib.hid fun V v l _ h1 h2 h3 => C31.out V v l h1 h2 h3
  clear ho k KQ
  go_wp2_with fail
  have KQ : Hid (Kp w5 w5.drew none) := Lib.hid (Kp.refl w5 none).drew
  refine wp_region_held_drew (S := fun V => V.cell? ⟨B5, 0, none⟩ = some (.int .i64 ax) ∧ V.cell? ⟨B5, 1, none⟩ = some (.int .i64 ay) ∧ V.cell? ⟨B5, 2, none⟩ = some (.int .i64 az)) (by kernel_rfl) ?_ (fun hHeld => ?_)
  · exact CC.out _ KQ.out
  refine wpAnyH_take (i := 0) (oi := _) (v := ?_) rfl (by kernel_rfl) (by kernel_rfl) (by kernel_rfl) (fun _ _ _ h => h) (Or.inl ⟨by rfl, ?_⟩) (by assumption) ?_
  rotate_left
  · (intro w hSw; (try dsimp only at hSw); go_simp <;> with_reducible rfl)
  try simp only [Act.put, List.getElem_toArray, List.getElem_cons_zero, List.setIfInBounds_toArray, List.set_cons_zero, List.set_cons_succ]
  refine wpAnyH_take (i := 1) (oi := _) (v := ?_) rfl (by kernel_rfl) (by kernel_rfl) (by kernel_rfl) (fun _ _ _ h => h) (Or.inl ⟨by rfl, ?_⟩) (by assumption) ?_
  rotate_left
  · (intro w hSw; (try dsimp only at hSw); go_simp <;> with_reducible rfl)
  try simp only [Act.put, List.getElem_toArray, List.getElem_cons_zero, List.getElem_cons_succ, List.setIfInBounds_toArray, List.set_cons_zero, List.set_cons_succ]
  refine wpAnyH_take (i := 3) (oi := _) (v := ?_) rfl (by kernel_rfl) (by kernel_rfl) (by kernel_rfl) (fun _ _ _ h => h) (Or.inl ⟨by rfl, ?_⟩) (by assumption) ?_
  rotate_left
  · (intro w hSw; (try dsimp only at hSw); go_simp <;> with_reducible rfl)
  try simp only [Act.put, List.getElem_toArray, List.getElem_cons_zero, List.getElem_cons_succ, List.setIfInBounds_toArray, List.set_cons_zero, List.set_cons_succ]
  refine wpAnyH_take (i := 4) (oi := _) (v := ?_) rfl (by kernel_rfl) (by kernel_rfl) (by kernel_rfl) (fun _ _ _ h => h) (Or.inl ⟨by rfl, ?_⟩) (by assumption) ?_
  rotate_left
  · (intro w hSw; (try dsimp only at hSw); go_simp <;> with_reducible rfl)
  try simp only [Act.put, List.getElem_toArray, List.getElem_cons_zero, List.getElem_cons_succ, List.setIfInBounds_toArray, List.set_cons_zero, List.set_cons_succ]
  refine wpAnyH_take (i := 6) (oi := _) (v := ?_) rfl (by kernel_rfl) (by kernel_rfl) (by kernel_rfl) (fun _ _ _ h => h) (Or.inl ⟨by rfl, ?_⟩) (by assumption) ?_
  rotate_left
  · (intro w hSw; (try dsimp only at hSw); go_simp <;> with_reducible rfl)
  try simp only [Act.put, List.getElem_toArray, List.getElem_cons_zero, List.getElem_cons_succ, List.setIfInBounds_toArray, List.set_cons_zero, List.set_cons_succ]
  refine wpAnyH_ready (rs := [2]) (by kernel_rfl) (by simp) ?_
  refine AllReadyH.cons (o := _) rfl (fun K hK => ?_) AllReadyH.nil
  clear hHeld
  go_simp
  refine (joinP_any _ _ _ _ _ (HC.out _ KQ.out) (HD.out _ KQ.out) (by rw [hcl]; omega) (by rw [hdl]; omega)).mono ?_
  rintro E y1 ⟨ua, rfl, ho, k⟩
  have KQ := Lib.hid (KQ.out.trans k)
  have Hua := Lib.hid (isList_own (m := 4) (f := recVal) (fun _ => rfl) ho)
  rw [FJ.out] at Hua
  clear ho k
  try go_wp2_with fail
  refine hK.out _ _ (CC.out _ KQ.out) (fun hHeld => ?_)
  clear hK K
  try simp only [Act.put, List.getElem_toArray, List.getElem_cons_zero, List.getElem_cons_succ, List.setIfInBounds_toArray, List.set_cons_zero, List.set_cons_succ]
  refine wpAnyH_ready (rs := [5]) (by kernel_rfl) (by simp) ?_
  refine AllReadyH.cons (o := _) rfl (fun K hK => ?_) AllReadyH.nil
  clear hHeld
  go_simp
  refine (joinP_any _ _ _ _ _ (HA.out _ KQ.out) (HB.out _ KQ.out) (by omega) (by omega)).mono ?_
  rintro E y2 ⟨ub, rfl, ho, k⟩
  have KQ := Lib.hid (KQ.out.trans k)
  have Hua := Lib.hid (Hua.out.keep k)
  have Hub := Lib.hid (isList_own (m := 4) (f := recVal) (fun _ => rfl) ho)
  clear ho k
  try go_wp2_with fail
  refine hK.out _ _ (CC.out _ KQ.out) (fun hHeld => ?_)
  clear hK K
  try simp only [Act.put, List.getElem_toArray, List.getElem_cons_zero, List.getElem_cons_succ, List.setIfInBounds_toArray, List.set_cons_zero, List.set_cons_succ]
  refine wpAnyH_ready (rs := [7]) (by kernel_rfl) (by simp) ?_
  refine AllReadyH.cons (o := _) rfl (fun K hK => ?_) AllReadyH.nil
  clear hHeld
  go_simp
  refine (C31.out _ _ _ KQ.out Hub.out (SJ.out.1) (by have := SJ.out.2; omega)).mono ?_
  rintro E y3 ⟨uc, rfl, ho, k⟩
  have KQ := Lib.hid (KQ.out.trans k)
  have Hua := Lib.hid (Hua.out.keep k)
  have Huc := Lib.hid (isList_own (m := 4) (f := recVal) (fun _ => rfl) ho)
  clear ho k Hub
  try go_wp2_with fail
  refine hK.out _ _ (CC.out _ KQ.out) (fun hHeld => ?_)
  clear hK K
  try simp only [Act.put, List.getElem_toArray, List.getElem_cons_zero, List.getElem_cons_succ, List.setIfInBounds_toArray, List.set_cons_zero, List.set_cons_succ]
  refine wpAnyH_ready (rs := [8]) (by kernel_rfl) (by simp) ?_
  refine AllReadyH.cons (o := _) rfl (fun K hK => ?_) AllReadyH.nil
  clear hHeld
  go_simp
  refine (sameR_any _ _ _ _ Hua.out Huc.out (by rw [List.length_map]; have := SJ.out.2; omega)).mono ?_
  rintro E y4 ⟨rfl, m, hm⟩
  have k : Kp y3 y4 none := by rw [← hm]; exact (Kp.refl _ _).drewN m
  have KQ := Lib.hid (KQ.out.trans k)
  clear hm k Hua Huc
  try go_wp2_with fail
  refine hK.out _ _ (CC.out _ KQ.out) (fun hHeld => ?_)
  clear hK K
  try simp only [Act.put, List.getElem_toArray, List.getElem_cons_zero, List.getElem_cons_succ, List.setIfInBounds_toArray, List.set_cons_zero, List.set_cons_succ]
  refine wpAnyH_take (i := 9) (oi := _) (v := ?_) rfl (by kernel_rfl) (by kernel_rfl) (by kernel_rfl) (fun _ _ _ h => h) (Or.inl ⟨by rfl, ?_⟩) (by assumption) ?_
  rotate_left
  · (intro w hSw; (try dsimp only at hSw); go_simp <;> with_reducible rfl)
  try simp only [Act.put, List.getElem_toArray, List.getElem_cons_zero, List.getElem_cons_succ, List.setIfInBounds_toArray, List.set_cons_zero, List.set_cons_succ]
  refine wpAnyH_take (i := 10) (oi := _) (v := ?_) rfl (by kernel_rfl) (by kernel_rfl) (by kernel_rfl) (fun _ _ _ h => h) (Or.inl ⟨by rfl, ?_⟩) (by assumption) ?_
  rotate_left
  · (intro w hSw; (try dsimp only at hSw); go_simp <;> with_reducible rfl)
  try simp only [Act.put, List.getElem_toArray, List.getElem_cons_zero, List.getElem_cons_succ, List.setIfInBounds_toArray, List.set_cons_zero, List.set_cons_succ]
  refine wpAnyH_take (i := 11) (oi := _) (v := ?_) rfl (by kernel_rfl) (by kernel_rfl) (by kernel_rfl) (fun _ _ _ h => h) (Or.inl ⟨by rfl, ?_⟩) (by assumption) ?_
  rotate_left
  · (intro w hSw; (try dsimp only at hSw); go_simp <;> with_reducible rfl)
  try simp only [Act.put, List.getElem_toArray, List.getElem_cons_zero, List.getElem_cons_succ, List.setIfInBounds_toArray, List.set_cons_zero, List.set_cons_succ]
  refine wpAnyH_take (i := 13) (oi := _) (v := ?_) rfl (by kernel_rfl) (by kernel_rfl) (by kernel_rfl) (fun _ _ _ h => h) (Or.inl ⟨by rfl, ?_⟩) (by assumption) ?_
  rotate_left
  · (intro w hSw; (try dsimp only at hSw); go_simp <;> with_reducible rfl)
  try simp only [Act.put, List.getElem_toArray, List.getElem_cons_zero, List.getElem_cons_succ, List.setIfInBounds_toArray, List.set_cons_zero, List.set_cons_succ]
  refine wpAnyH_take (i := 14) (oi := _) (v := ?_) rfl (by kernel_rfl) (by kernel_rfl) (by kernel_rfl) (fun _ _ _ h => h) (Or.inl ⟨by rfl, ?_⟩) (by assumption) ?_
  rotate_left
  · (intro w hSw; (try dsimp only at hSw); go_simp <;> with_reducible rfl)
  try simp only [Act.put, List.getElem_toArray, List.getElem_cons_zero, List.getElem_cons_succ, List.setIfInBounds_toArray, List.set_cons_zero, List.set_cons_succ]
  refine wpAnyH_take (i := 16) (oi := _) (v := ?_) rfl (by kernel_rfl) (by kernel_rfl) (by kernel_rfl) (fun _ _ _ h => h) (Or.inl ⟨by rfl, ?_⟩) (by assumption) ?_
  rotate_left
  · (intro w hSw; (try dsimp only at hSw); go_simp <;> with_reducible rfl)
  try simp only [Act.put, List.getElem_toArray, List.getElem_cons_zero, List.getElem_cons_succ, List.setIfInBounds_toArray, List.set_cons_zero, List.set_cons_succ]
  refine wpAnyH_ready (rs := [12]) (by kernel_rfl) (by simp) ?_
  refine AllReadyH.cons (o := _) rfl (fun K hK => ?_) AllReadyH.nil
  clear hHeld
  go_simp
  refine (lessP_any _ _ _ _ _ (HC.out _ KQ.out) (HD.out _ KQ.out) (by rw [hcl]; omega) (by rw [hdl]; omega)).mono ?_
  rintro E y5 ⟨ua, rfl, ho, k⟩
  have KQ := Lib.hid (KQ.out.trans k)
  have Hua := Lib.hid (isList_own (m := 4) (f := recVal) (fun _ => rfl) ho)
  rw [FL.out] at Hua
  clear ho k
  try go_wp2_with fail
  refine hK.out _ _ (CC.out _ KQ.out) (fun hHeld => ?_)
  clear hK K
  try simp only [Act.put, List.getElem_toArray, List.getElem_cons_zero, List.getElem_cons_succ, List.setIfInBounds_toArray, List.set_cons_zero, List.set_cons_succ]
  refine wpAnyH_ready (rs := [15]) (by kernel_rfl) (by simp) ?_
  refine AllReadyH.cons (o := _) rfl (fun K hK => ?_) AllReadyH.nil
  clear hHeld
  go_simp
  refine (lessP_any _ _ _ _ _ (HA.out _ KQ.out) (HB.out _ KQ.out) (by omega) (by omega)).mono ?_
  rintro E y6 ⟨ub, rfl, ho, k⟩
  have KQ := Lib.hid (KQ.out.trans k)
  have Hua := Lib.hid (Hua.out.keep k)
  have Hub := Lib.hid (isList_own (m := 4) (f := recVal) (fun _ => rfl) ho)
  clear ho k
  try go_wp2_with fail
  refine hK.out _ _ (CC.out _ KQ.out) (fun hHeld => ?_)
  clear hK K
  try simp only [Act.put, List.getElem_toArray, List.getElem_cons_zero, List.getElem_cons_succ, List.setIfInBounds_toArray, List.set_cons_zero, List.set_cons_succ]
  refine wpAnyH_ready (rs := [17]) (by kernel_rfl) (by simp) ?_
  refine AllReadyH.cons (o := _) rfl (fun K hK => ?_) AllReadyH.nil
  clear hHeld
  go_simp
  refine (C31.out _ _ _ KQ.out Hub.out (SL.out.1) (by have := SL.out.2; omega)).mono ?_
  rintro E y7 ⟨uc, rfl, ho, k⟩
  have KQ := Lib.hid (KQ.out.trans k)
  have Hua := Lib.hid (Hua.out.keep k)
  have Huc := Lib.hid (isList_own (m := 4) (f := recVal) (fun _ => rfl) ho)
  clear ho k Hub
  try go_wp2_with fail
  refine hK.out _ _ (CC.out _ KQ.out) (fun hHeld => ?_)
  clear hK K
  try simp only [Act.put, List.getElem_toArray, List.getElem_cons_zero, List.getElem_cons_succ, List.setIfInBounds_toArray, List.set_cons_zero, List.set_cons_succ]
  refine wpAnyH_ready (rs := [18]) (by kernel_rfl) (by simp) ?_
  refine AllReadyH.cons (o := _) rfl (fun K hK => ?_) AllReadyH.nil
  clear hHeld
  go_simp
  refine (sameR_any _ _ _ _ Hua.out Huc.out (by rw [List.length_map]; have := SL.out.2; omega)).mono ?_
  rintro E y8 ⟨rfl, m, hm⟩
  have k : Kp y7 y8 none := by rw [← hm]; exact (Kp.refl _ _).drewN m
  have KQ := Lib.hid (KQ.out.trans k)
  clear hm k Hua Huc
  try go_wp2_with fail
  refine hK.out _ _ (CC.out _ KQ.out) (fun hHeld => ?_)
  clear hK K
  try simp only [Act.put, List.getElem_toArray, List.getElem_cons_zero, List.getElem_cons_succ, List.setIfInBounds_toArray, List.set_cons_zero, List.set_cons_succ]
  refine wpAnyH_take (i := 19) (oi := _) (v := ?_) rfl (by kernel_rfl) (by kernel_rfl) (by kernel_rfl) (fun _ _ _ h => h) (Or.inl ⟨by rfl, ?_⟩) (by assumption) ?_
  rotate_left
  · (intro w hSw; (try dsimp only at hSw); go_simp <;> with_reducible rfl)
  try simp only [Act.put, List.getElem_toArray, List.getElem_cons_zero, List.getElem_cons_succ, List.setIfInBounds_toArray, List.set_cons_zero, List.set_cons_succ]
  refine wpAnyH_take (i := 20) (oi := _) (v := ?_) rfl (by kernel_rfl) (by kernel_rfl) (by kernel_rfl) (fun _ _ _ h => h) (Or.inl ⟨by rfl, ?_⟩) (by assumption) ?_
  rotate_left
  · (intro w hSw; (try dsimp only at hSw); go_simp <;> with_reducible rfl)
  try simp only [Act.put, List.getElem_toArray, List.getElem_cons_zero, List.getElem_cons_succ, List.setIfInBounds_toArray, List.set_cons_zero, List.set_cons_succ]
  refine wpAnyH_take (i := 21) (oi := _) (v := ?_) rfl (by kernel_rfl) (by kernel_rfl) (by kernel_rfl) (fun _ _ _ h => h) (Or.inl ⟨by rfl, ?_⟩) (by assumption) ?_
  rotate_left
  · (intro w hSw; (try dsimp only at hSw); go_simp <;> with_reducible rfl)
  try simp only [Act.put, List.getElem_toArray, List.getElem_cons_zero, List.getElem_cons_succ, List.setIfInBounds_toArray, List.set_cons_zero, List.set_cons_succ]
  refine wpAnyH_take (i := 22) (oi := _) (v := ?_) rfl (by kernel_rfl) (by kernel_rfl) (by kernel_rfl) (fun _ _ _ h => h) (Or.inl ⟨by rfl, ?_⟩) (by assumption) ?_
  rotate_left
  · (intro w hSw; (try dsimp only at hSw); go_simp <;> with_reducible rfl)
  try simp only [Act.put, List.getElem_toArray, List.getElem_cons_zero, List.getElem_cons_succ, List.setIfInBounds_toArray, List.set_cons_zero, List.set_cons_succ]
  refine wpAnyH_take (i := 24) (oi := _) (v := ?_) rfl (by kernel_rfl) (by kernel_rfl) (by kernel_rfl) (fun _ _ _ h => h) (Or.inl ⟨by rfl, ?_⟩) (by assumption) ?_
  rotate_left
  · (intro w hSw; (try dsimp only at hSw); go_simp <;> with_reducible rfl)
  try simp only [Act.put, List.getElem_toArray, List.getElem_cons_zero, List.getElem_cons_succ, List.setIfInBounds_toArray, List.set_cons_zero, List.set_cons_succ]
  refine wpAnyH_take (i := 25) (oi := _) (v := ?_) rfl (by kernel_rfl) (by kernel_rfl) (by kernel_rfl) (fun _ _ _ h => h) (Or.inl ⟨by rfl, ?_⟩) (by assumption) ?_
  rotate_left
  · (intro w hSw; (try dsimp only at hSw); go_simp <;> with_reducible rfl)
  try simp only [Act.put, List.getElem_toArray, List.getElem_cons_zero, List.getElem_cons_succ, List.setIfInBounds_toArray, List.set_cons_zero, List.set_cons_succ]
  refine wpAnyH_take (i := 27) (oi := _) (v := ?_) rfl (by kernel_rfl) (by kernel_rfl) (by kernel_rfl) (fun _ _ _ h => h) (Or.inl ⟨by rfl, ?_⟩) (by assumption) ?_
  rotate_left
  · (intro w hSw; (try dsimp only at hSw); go_simp <;> with_reducible rfl)
  try simp only [Act.put, List.getElem_toArray, List.getElem_cons_zero, List.getElem_cons_succ, List.setIfInBounds_toArray, List.set_cons_zero, List.set_cons_succ]
  refine wpAnyH_ready (rs := [23]) (by kernel_rfl) (by simp) ?_
  refine AllReadyH.cons (o := _) rfl (fun K hK => ?_) AllReadyH.nil
  clear hHeld
  go_simp
  refine (meetP_any _ _ _ _ _ (HC.out _ KQ.out) (HD.out _ KQ.out) (by rw [hcl]; omega) (by rw [hdl]; omega)).mono ?_
  rintro E y9 ⟨ua, rfl, ho, k⟩
  have KQ := Lib.hid (KQ.out.trans k)
  have Hua := Lib.hid (isList_own (m := 4) (f := recVal) (fun _ => rfl) ho)
  rw [FM.out] at Hua
  clear ho k
  try go_wp2_with fail
  refine hK.out _ _ (CC.out _ KQ.out) (fun hHeld => ?_)
  clear hK K
  try simp only [Act.put, List.getElem_toArray, List.getElem_cons_zero, List.getElem_cons_succ, List.setIfInBounds_toArray, List.set_cons_zero, List.set_cons_succ]
  refine wpAnyH_ready (rs := [26]) (by kernel_rfl) (by simp) ?_
  refine AllReadyH.cons (o := _) rfl (fun K hK => ?_) AllReadyH.nil
  clear hHeld
  go_simp
  refine (meetP_any _ _ _ _ _ (HA.out _ KQ.out) (HB.out _ KQ.out) (by omega) (by omega)).mono ?_
  rintro E y10 ⟨ub, rfl, ho, k⟩
  have KQ := Lib.hid (KQ.out.trans k)
  have Hua := Lib.hid (Hua.out.keep k)
  have Hub := Lib.hid (isList_own (m := 4) (f := recVal) (fun _ => rfl) ho)
  clear ho k
  try go_wp2_with fail
  refine hK.out _ _ (CC.out _ KQ.out) (fun hHeld => ?_)
  clear hK K
  try simp only [Act.put, List.getElem_toArray, List.getElem_cons_zero, List.getElem_cons_succ, List.setIfInBounds_toArray, List.set_cons_zero, List.set_cons_succ]
  refine wpAnyH_ready (rs := [28]) (by kernel_rfl) (by simp) ?_
  refine AllReadyH.cons (o := _) rfl (fun K hK => ?_) AllReadyH.nil
  clear hHeld
  go_simp
  refine (C31.out _ _ _ KQ.out Hub.out (SM.out.1) (by have := SM.out.2; omega)).mono ?_
  rintro E y11 ⟨uc, rfl, ho, k⟩
  have KQ := Lib.hid (KQ.out.trans k)
  have Hua := Lib.hid (Hua.out.keep k)
  have Huc := Lib.hid (isList_own (m := 4) (f := recVal) (fun _ => rfl) ho)
  clear ho k Hub
  try go_wp2_with fail
  refine hK.out _ _ (CC.out _ KQ.out) (fun hHeld => ?_)
  clear hK K
  try simp only [Act.put, List.getElem_toArray, List.getElem_cons_zero, List.getElem_cons_succ, List.setIfInBounds_toArray, List.set_cons_zero, List.set_cons_succ]
  refine wpAnyH_ready (rs := [29]) (by kernel_rfl) (by simp) ?_
  refine AllReadyH.cons (o := _) rfl (fun K hK => ?_) AllReadyH.nil
  clear hHeld
  go_simp
  refine (sameR_any _ _ _ _ Hua.out Huc.out (by rw [List.length_map]; have := SM.out.2; omega)).mono ?_
  rintro E y12 ⟨rfl, m, hm⟩
  have k : Kp y11 y12 none := by rw [← hm]; exact (Kp.refl _ _).drewN m
  have KQ := Lib.hid (KQ.out.trans k)
  clear hm k Hua Huc
  try go_wp2_with fail
  refine hK.out _ _ (CC.out _ KQ.out) (fun hHeld => ?_)
  clear hK K
  try simp only [Act.put, List.getElem_toArray, List.getElem_cons_zero, List.getElem_cons_succ, List.setIfInBounds_toArray, List.set_cons_zero, List.set_cons_succ]
  refine wpAnyH_take (i := 30) (oi := _) (v := ?_) rfl (by kernel_rfl) (by kernel_rfl) (by kernel_rfl) (fun _ _ _ h => h) (Or.inl ⟨by rfl, ?_⟩) (by assumption) ?_
  rotate_left
  · (intro w hSw; (try dsimp only at hSw); go_simp <;> with_reducible rfl)
  try simp only [Act.put, List.getElem_toArray, List.getElem_cons_zero, List.getElem_cons_succ, List.setIfInBounds_toArray, List.set_cons_zero, List.set_cons_succ]
  refine wpAnyH_ready (rs := [31]) (by kernel_rfl) (by simp) ?_
  refine AllReadyH.cons (o := _) rfl (fun K hK => ?_) AllReadyH.nil
  clear hHeld
  go_simp
  try go_wp2_with fail
  refine hK.out _ _ (CC.out _ KQ.out) (fun hHeld => ?_)
  clear hK K hHeld
  refine wpAnyH_done (by kernel_rfl) ?_ _
  obtain ⟨c0, c1, c2⟩ := CC.out _ KQ.out
  go_wp2_with fail
  simp only [q1, q2]
  refine (CC'.out _ _ (HC.out _ KQ.out)).mono ?_
  rintro E z1 ⟨rfl, k⟩
  have KQ := Lib.hid (KQ.out.trans k)
  clear k
  go_wp2_with fail
  refine (CA.out _ _ (HA.out _ KQ.out)).mono ?_
  rintro E z2 ⟨rfl, k⟩
  have KQ := Lib.hid (KQ.out.trans k)
  clear k
  go_wp2_with fail
  refine (PC.out _ _ (HC.out _ KQ.out)).mono ?_
  rintro E z3 ⟨⟨ao1, cap1, rfl⟩, k⟩
  have KQ := Lib.hid (KQ.out.trans k)
  clear k
  go_wp2_with fail
  refine (PA.out _ _ (HA.out _ KQ.out)).mono ?_
  rintro E z4 ⟨⟨ao2, cap2, rfl⟩, k⟩
  have KQ := Lib.hid (KQ.out.trans k)
  clear k
  go_wp2_with fail
  go_ret
  exact ⟨rfl, HK0.out.trans (K5.out.trans KQ.out)⟩

end Go.Proofs.Ytpakiabnhdoijaa
