/- Motions turned back (the reference's Inverse). Condition: coordinates of at most 2^61. -/
import Derived.Test.YtggplbenliaodaaGreatDoorAp
import Derived.Test.YtggplbenliaodaaGreatDoorBs
import Derived.Deep.CutBlock
import Derived.Deep.CutRange
namespace Go.Proofs.YtggplbenliaodaaGreatDoor
open Go.RowKit

theorem apply_mid (m : Pl.Mo) (p : Pl.Pt) (h1 : Mid p.x) (h2 : Mid p.y) (h0 : m.at_ = ⟨0, 0⟩) : Mid (Pl.apply m p).x ∧ Mid (Pl.apply m p).y := by
  have h := turn_abs m.turn ⟨if m.mirror then -p.x else p.x, p.y⟩ (neg_mid m.mirror h1) h2
  unfold Pl.apply Pl.add
  rw [h0]
  simpa using h
theorem store4 {w : World} {p : Nat} {a0 a1 a2 a3 : Value} (h : w.heap[p]? = some (.cells #[a0, a1, a2, a3] 48 (0, 0))) (b0 b1 b2 b3 : Value) :
    ((((w.setCell ⟨p, 0, none⟩ b0).setCell ⟨p, 1, none⟩ b1).setCell ⟨p, 2, none⟩ b2).setCell ⟨p, 3, none⟩ b3).heap[p]? = some (.cells #[b0, b1, b2, b3] 48 (0, 0)) ∧ Kp w ((((w.setCell ⟨p, 0, none⟩ b0).setCell ⟨p, 1, none⟩ b1).setCell ⟨p, 2, none⟩ b2).setCell ⟨p, 3, none⟩ b3) (some p) := by
  have h1 := heap_set (o := 3) (v := b3) (heap_set (o := 2) (v := b2) (heap_set (o := 1) (v := b1) (heap_set (o := 0) (v := b0) h)))
  exact ⟨by simpa using h1, ((((Kp.refl w (some p)).set _).set _).set _).set _⟩
set_option maxHeartbeats 8000000 in
set_option maxRecDepth 100000 in
theorem inverse_false (x y t : Int) (w : World) (h1 : Mid x) (h2 : Mid y) :
    Calls Tryz.prog 17 #[.agg #[.int .i64 x, .int .i64 y, .int .i64 t, .bool false]] w fun E w' => E = .returned (.agg #[.int .i64 (-(Pl.apply ⟨⟨0, 0⟩, ((4 - t % 4) % 4), false⟩ ⟨x, y⟩).x), .int .i64 (-(Pl.apply ⟨⟨0, 0⟩, ((4 - t % 4) % 4), false⟩ ⟨x, y⟩).y), .int .i64 ((4 - t % 4) % 4), .bool false]) ∧ Kp w w' none := by
  have HT1 := Lib.hid (fun V => rturns_any t V)
  have hw4 : IntKind.i64.wrap (4 - t % 4) = 4 - t % 4 := by rw [IntKind.wrap_i64]; omega
  have HAP := Lib.hid (fun V => rapply_any 0 0 x y ((4 - t % 4) % 4) false V (by unfold Mid; omega) (by unfold Mid; omega) h1 h2)
  have hq := apply_mid ⟨⟨0, 0⟩, ((4 - t % 4) % 4), false⟩ ⟨x, y⟩ h1 h2 rfl
  obtain ⟨u, hu⟩ : ∃ u, (4 - t % 4) % 4 = u := ⟨_, rfl⟩
  have HT2 : Hid (∀ V, Calls Tryz.prog 40 #[.int .i64 (4 - t % 4)] V fun E w' => E = .returned (.int .i64 u) ∧ w' = V) := Lib.hid (fun V => by rw [← hu]; exact rturns_any (4 - t % 4) V)
  rw [hu] at HAP hq ⊢
  generalize (Pl.apply ⟨⟨0, 0⟩, u, false⟩ ⟨x, y⟩).x = ax at *
  generalize (Pl.apply ⟨⟨0, 0⟩, u, false⟩ ⟨x, y⟩).y = ay at *
  have HNX : Hid (wrap64 (-ax) = -ax) := Lib.hid (by have := hq.1; unfold Mid at this; exact wrap_mid (by omega) (by omega))
  have HNY : Hid (wrap64 (-ay) = -ay) := Lib.hid (by have := hq.2; unfold Mid at this; exact wrap_mid (by omega) (by omega))
  clear hq hu h1 h2
  go_enter Tryz.func17, Tryz.ntmps17
  go_wp2_with fail
  have HB : Hid (((w.alloc (Obj.cells #[.int .i64 x, .int .i64 y, .int .i64 t, .bool false] 48)).alloc (Obj.cells #[.int .i64 0, .int .i64 0, .int .i64 0, .bool false] 48)).heap[w.heap.size]? = some (Obj.cells #[.int .i64 x, .int .i64 y, .int .i64 t, .bool false] 48 (0, 0))) := Lib.hid (blk (heap_alloc_new w _) ((Kp.refl _ none).alloc _))
  have HR : Hid (((w.alloc (Obj.cells #[.int .i64 x, .int .i64 y, .int .i64 t, .bool false] 48)).alloc (Obj.cells #[.int .i64 0, .int .i64 0, .int .i64 0, .bool false] 48)).heap[w.heap.size + 1]? = some (Obj.cells #[.int .i64 0, .int .i64 0, .int .i64 0, .bool false] 48 (0, 0))) := Lib.hid (by have h := heap_alloc_new (w.alloc (Obj.cells #[.int .i64 x, .int .i64 y, .int .i64 t, .bool false] 48)) (Obj.cells #[.int .i64 0, .int .i64 0, .int .i64 0, .bool false] 48); simpa using h)
  have KB : Hid (Kp w ((w.alloc (Obj.cells #[.int .i64 x, .int .i64 y, .int .i64 t, .bool false] 48)).alloc (Obj.cells #[.int .i64 0, .int .i64 0, .int .i64 0, .bool false] 48)) none) := Lib.hid (((Kp.refl w none).alloc _).alloc _)
  generalize (w.alloc (Obj.cells #[.int .i64 x, .int .i64 y, .int .i64 t, .bool false] 48)).alloc (Obj.cells #[.int .i64 0, .int .i64 0, .int .i64 0, .bool false] 48) = wB at *
  go_cut [3] from 5 to 31 (fun s3 wx => ∃ p : Nat, s3 = .pointer (some ⟨p, 0, none⟩) ∧ wx.heap[p]? = some (.cells #[.int .i64 0, .int .i64 0, .int .i64 u, .bool false] 48 (0, 0)) ∧ w.heap.size + 2 ≤ p ∧ Kp w wx none ∧ wx.heap[w.heap.size]? = some (Obj.cells #[.int .i64 x, .int .i64 y, .int .i64 t, .bool false] 48 (0, 0)) ∧ wx.heap[w.heap.size + 1]? = some (Obj.cells #[.int .i64 0, .int .i64 0, .int .i64 0, .bool false] 48 (0, 0)))
  case first =>
    have K_0 : Hid (Kp w wB.drew none) := Lib.hid (KB.out.trans (Kp.refl wB none).drew)
    have HB_0 := Lib.hid (blk HB.out (Kp.refl wB none).drew)
    have HR_0 := Lib.hid (blk HR.out (Kp.refl wB none).drew)
    refine wp_region_last (fun V => V.cell? ⟨w.heap.size, 2, none⟩ = some (.int .i64 t) ∧ V.cell? ⟨w.heap.size, 3, none⟩ = some (.bool false) ∧ True) 9 (by kernel_rfl) ?_ (fun hHeld => ?_)
    · exact ⟨hcell HB_0.out 2 rfl, hcell HB_0.out 3 rfl, trivial⟩
    refine tkL 0 rfl ?_
    try simp only [Act.put, sm]
    refine tkL 1 rfl ?_
    try simp only [Act.put, sm]
    refine tkL 5 rfl ?_
    try simp only [Act.put, sm]
    refine tkL 6 rfl ?_
    try simp only [Act.put, sm]
    refine wpAnyL_ready (rs := [2, 8]) (by kernel_rfl) (by simp) ?_
    refine AllReadyL.cons (o := _) rfl (fun K hK => ?_) (AllReadyL.cons (o := _) rfl (fun K hK => ?_) AllReadyL.nil)
    · clear hHeld
      go_simp
      refine (HT1.out _).mono ?_
      rintro E wx1 ⟨rfl, hww⟩
      have kk : Kp wB.drew wx1 none := by rw [hww]; exact Kp.refl _ _
      have K_1 : Hid (Kp w wx1 none) := Lib.hid (K_0.out.trans (kk))
      have HB_1 := Lib.hid (blk HB_0.out (kk))
      have HR_1 := Lib.hid (blk HR_0.out (kk))
      clear kk hww
      try go_wp2_with fail
      refine hK.out _ _ ?_ (fun hHeld => ?_)
      · exact ⟨hcell HB_1.out 2 rfl, hcell HB_1.out 3 rfl, trivial⟩
      clear hK K
      try simp only [Act.put, sm]
      refine tkL 3 rfl ?_
      try simp only [Act.put, sm]
      refine wpAnyL_ready (rs := [4, 8]) (by kernel_rfl) (by simp) ?_
      refine AllReadyL.cons (o := _) rfl (fun K hK => ?_) (AllReadyL.cons (o := _) rfl (fun K hK => ?_) AllReadyL.nil)
      · clear hHeld
        go_simp
        refine (HT2.out _).mono ?_
        rintro E wx2 ⟨rfl, hww⟩
        have kk : Kp wx1 wx2 none := by rw [hww]; exact Kp.refl _ _
        have K_2 : Hid (Kp w wx2 none) := Lib.hid (K_1.out.trans (kk))
        have HB_2 := Lib.hid (blk HB_1.out (kk))
        have HR_2 := Lib.hid (blk HR_1.out (kk))
        clear kk hww
        try go_wp2_with fail
        refine hK.out _ _ ?_ (fun hHeld => ?_)
        · exact ⟨hcell HB_2.out 2 rfl, hcell HB_2.out 3 rfl, trivial⟩
        clear hK K
        try simp only [Act.put, sm]
        refine tkL 7 rfl ?_
        try simp only [Act.put, sm]
        refine wpAnyL_ready (rs := [8]) (by kernel_rfl) (by simp) ?_
        refine AllReadyL.cons (o := _) rfl (fun K hK => ?_) AllReadyL.nil
        clear hHeld
        go_simp
        have K_3 : Hid (Kp w (wx2.alloc (Obj.cells #[.int .i64 0, .int .i64 0, .int .i64 0, .bool false] 48)) none) := Lib.hid (K_2.out.trans ((Kp.refl wx2 none).alloc (Obj.cells #[.int .i64 0, .int .i64 0, .int .i64 0, .bool false] 48)))
        have HB_3 := Lib.hid (blk HB_2.out ((Kp.refl wx2 none).alloc (Obj.cells #[.int .i64 0, .int .i64 0, .int .i64 0, .bool false] 48)))
        have HR_3 := Lib.hid (blk HR_2.out ((Kp.refl wx2 none).alloc (Obj.cells #[.int .i64 0, .int .i64 0, .int .i64 0, .bool false] 48)))
        have HE_3 : Hid ((wx2.alloc (Obj.cells #[.int .i64 0, .int .i64 0, .int .i64 0, .bool false] 48)).heap[wx2.heap.size]? = some (Obj.cells #[.int .i64 0, .int .i64 0, .int .i64 0, .bool false] 48 (0, 0))) := Lib.hid (heap_alloc_new wx2 (Obj.cells #[.int .i64 0, .int .i64 0, .int .i64 0, .bool false] 48))
        have HPE : Hid (w.heap.size + 2 ≤ wx2.heap.size) := Lib.hid (by have := lt_of_block HR_2.out; first | omega | (simp at this; omega))
        try go_wp2_with fail
        refine hK.out _ _ ?_ (fun hHeld => ?_)
        · exact ⟨hcell HB_3.out 2 rfl, hcell HB_3.out 3 rfl, trivial⟩
        clear hK K
        try simp only [Act.put, sm]
        refine wpAnyL_ready (rs := [9]) (by kernel_rfl) (by simp) ?_
        refine AllReadyL.last (o := _) rfl (fun K hK => ?_)
        have f0 := Lib.frozen_of_heap HE_3.out 0
        have f1 := Lib.frozen_of_heap HE_3.out 1
        have f2 := Lib.frozen_of_heap HE_3.out 2
        have f3 := Lib.frozen_of_heap HE_3.out 3
        have c0 := hcell HE_3.out 0 rfl
        have c1 := hcell HE_3.out 1 rfl
        have c2 := hcell HE_3.out 2 rfl
        have c3 := hcell HE_3.out 3 rfl
        clear hHeld
        go_simp
        try go_wp2_with fail
        refine hK.out _ _ ?_
        clear hK K
        try simp only [Act.put, sm]
        refine wpAnyL_done (by kernel_rfl) ?_ _
        clear f0 f1 f2 f3 c0 c1 c2 c3
        have K_4 : Hid (Kp w (wx2.alloc (Obj.cells #[.int .i64 0, .int .i64 0, .int .i64 u, .bool false] 48)) none) := Lib.hid (K_2.out.trans ((Kp.refl wx2 none).alloc (Obj.cells #[.int .i64 0, .int .i64 0, .int .i64 u, .bool false] 48)))
        have HB_4 := Lib.hid (blk HB_2.out ((Kp.refl wx2 none).alloc (Obj.cells #[.int .i64 0, .int .i64 0, .int .i64 u, .bool false] 48)))
        have HR_4 := Lib.hid (blk HR_2.out ((Kp.refl wx2 none).alloc (Obj.cells #[.int .i64 0, .int .i64 0, .int .i64 u, .bool false] 48)))
        have HEF := Lib.hid (heap_alloc_new wx2 (Obj.cells #[.int .i64 0, .int .i64 0, .int .i64 u, .bool false] 48))
        go_wp2_with fail
        go_meet
        exact ⟨_, rfl, HEF.out, HPE.out, K_4.out, HB_4.out, HR_4.out⟩
      · clear hHeld
        go_simp
        have K_2 : Hid (Kp w (wx1.alloc (Obj.cells #[.int .i64 0, .int .i64 0, .int .i64 0, .bool false] 48)) none) := Lib.hid (K_1.out.trans ((Kp.refl wx1 none).alloc (Obj.cells #[.int .i64 0, .int .i64 0, .int .i64 0, .bool false] 48)))
        have HB_2 := Lib.hid (blk HB_1.out ((Kp.refl wx1 none).alloc (Obj.cells #[.int .i64 0, .int .i64 0, .int .i64 0, .bool false] 48)))
        have HR_2 := Lib.hid (blk HR_1.out ((Kp.refl wx1 none).alloc (Obj.cells #[.int .i64 0, .int .i64 0, .int .i64 0, .bool false] 48)))
        have HE_2 : Hid ((wx1.alloc (Obj.cells #[.int .i64 0, .int .i64 0, .int .i64 0, .bool false] 48)).heap[wx1.heap.size]? = some (Obj.cells #[.int .i64 0, .int .i64 0, .int .i64 0, .bool false] 48 (0, 0))) := Lib.hid (heap_alloc_new wx1 (Obj.cells #[.int .i64 0, .int .i64 0, .int .i64 0, .bool false] 48))
        have HPE : Hid (w.heap.size + 2 ≤ wx1.heap.size) := Lib.hid (by have := lt_of_block HR_1.out; first | omega | (simp at this; omega))
        try go_wp2_with fail
        refine hK.out _ _ ?_ (fun hHeld => ?_)
        · exact ⟨hcell HB_2.out 2 rfl, hcell HB_2.out 3 rfl, trivial⟩
        clear hK K
        try simp only [Act.put, sm]
        refine wpAnyL_ready (rs := [4]) (by kernel_rfl) (by simp) ?_
        refine AllReadyL.cons (o := _) rfl (fun K hK => ?_) AllReadyL.nil
        clear hHeld
        go_simp
        refine (HT2.out _).mono ?_
        rintro E wx3 ⟨rfl, hww⟩
        have kk : Kp (wx1.alloc (Obj.cells #[.int .i64 0, .int .i64 0, .int .i64 0, .bool false] 48)) wx3 none := by rw [hww]; exact Kp.refl _ _
        have K_3 : Hid (Kp w wx3 none) := Lib.hid (K_2.out.trans (kk))
        have HB_3 := Lib.hid (blk HB_2.out (kk))
        have HR_3 := Lib.hid (blk HR_2.out (kk))
        have HE_3 := Lib.hid (blk HE_2.out (kk))
        clear kk hww
        try go_wp2_with fail
        refine hK.out _ _ ?_ (fun hHeld => ?_)
        · exact ⟨hcell HB_3.out 2 rfl, hcell HB_3.out 3 rfl, trivial⟩
        clear hK K
        try simp only [Act.put, sm]
        refine tkL 7 rfl ?_
        try simp only [Act.put, sm]
        refine wpAnyL_ready (rs := [9]) (by kernel_rfl) (by simp) ?_
        refine AllReadyL.last (o := _) rfl (fun K hK => ?_)
        have f0 := Lib.frozen_of_heap HE_3.out 0
        have f1 := Lib.frozen_of_heap HE_3.out 1
        have f2 := Lib.frozen_of_heap HE_3.out 2
        have f3 := Lib.frozen_of_heap HE_3.out 3
        have c0 := hcell HE_3.out 0 rfl
        have c1 := hcell HE_3.out 1 rfl
        have c2 := hcell HE_3.out 2 rfl
        have c3 := hcell HE_3.out 3 rfl
        clear hHeld
        go_simp
        try go_wp2_with fail
        refine hK.out _ _ ?_
        clear hK K
        try simp only [Act.put, sm]
        refine wpAnyL_done (by kernel_rfl) ?_ _
        clear f0 f1 f2 f3 c0 c1 c2 c3
        have hst := store4 HE_3.out (.int .i64 0) (.int .i64 0) (.int .i64 u) (.bool false)
        have kk := hst.2
        have KF : Hid (Kp w _ none) := Lib.hid (K_3.out.of_own kk (by have := HPE.out; omega))
        have HBF := Lib.hid ((kk.block _ (lt_of_block HB_3.out) (by have := HPE.out; intro q; have := Option.some.inj q; omega)).trans HB_3.out)
        have HRF := Lib.hid ((kk.block _ (lt_of_block HR_3.out) (by have := HPE.out; intro q; have := Option.some.inj q; omega)).trans HR_3.out)
        have HEF := Lib.hid hst.1
        clear hst kk
        go_wp2_with fail
        go_meet
        exact ⟨_, rfl, HEF.out, HPE.out, KF.out, HBF.out, HRF.out⟩
    · clear hHeld
      go_simp
      have K_1 : Hid (Kp w (wB.drew.alloc (Obj.cells #[.int .i64 0, .int .i64 0, .int .i64 0, .bool false] 48)) none) := Lib.hid (K_0.out.trans ((Kp.refl wB.drew none).alloc (Obj.cells #[.int .i64 0, .int .i64 0, .int .i64 0, .bool false] 48)))
      have HB_1 := Lib.hid (blk HB_0.out ((Kp.refl wB.drew none).alloc (Obj.cells #[.int .i64 0, .int .i64 0, .int .i64 0, .bool false] 48)))
      have HR_1 := Lib.hid (blk HR_0.out ((Kp.refl wB.drew none).alloc (Obj.cells #[.int .i64 0, .int .i64 0, .int .i64 0, .bool false] 48)))
      have HE_1 : Hid ((wB.drew.alloc (Obj.cells #[.int .i64 0, .int .i64 0, .int .i64 0, .bool false] 48)).heap[wB.heap.size]? = some (Obj.cells #[.int .i64 0, .int .i64 0, .int .i64 0, .bool false] 48 (0, 0))) := Lib.hid (heap_alloc_new wB.drew (Obj.cells #[.int .i64 0, .int .i64 0, .int .i64 0, .bool false] 48))
      have HPE : Hid (w.heap.size + 2 ≤ wB.heap.size) := Lib.hid (by have := lt_of_block HR_0.out; first | omega | (simp at this; omega))
      try go_wp2_with fail
      refine hK.out _ _ ?_ (fun hHeld => ?_)
      · exact ⟨hcell HB_1.out 2 rfl, hcell HB_1.out 3 rfl, trivial⟩
      clear hK K
      try simp only [Act.put, sm]
      refine wpAnyL_ready (rs := [2]) (by kernel_rfl) (by simp) ?_
      refine AllReadyL.cons (o := _) rfl (fun K hK => ?_) AllReadyL.nil
      clear hHeld
      go_simp
      refine (HT1.out _).mono ?_
      rintro E wx4 ⟨rfl, hww⟩
      have kk : Kp (wB.drew.alloc (Obj.cells #[.int .i64 0, .int .i64 0, .int .i64 0, .bool false] 48)) wx4 none := by rw [hww]; exact Kp.refl _ _
      have K_2 : Hid (Kp w wx4 none) := Lib.hid (K_1.out.trans (kk))
      have HB_2 := Lib.hid (blk HB_1.out (kk))
      have HR_2 := Lib.hid (blk HR_1.out (kk))
      have HE_2 := Lib.hid (blk HE_1.out (kk))
      clear kk hww
      try go_wp2_with fail
      refine hK.out _ _ ?_ (fun hHeld => ?_)
      · exact ⟨hcell HB_2.out 2 rfl, hcell HB_2.out 3 rfl, trivial⟩
      clear hK K
      try simp only [Act.put, sm]
      refine tkL 3 rfl ?_
      try simp only [Act.put, sm]
      refine wpAnyL_ready (rs := [4]) (by kernel_rfl) (by simp) ?_
      refine AllReadyL.cons (o := _) rfl (fun K hK => ?_) AllReadyL.nil
      clear hHeld
      go_simp
      refine (HT2.out _).mono ?_
      rintro E wx5 ⟨rfl, hww⟩
      have kk : Kp wx4 wx5 none := by rw [hww]; exact Kp.refl _ _
      have K_3 : Hid (Kp w wx5 none) := Lib.hid (K_2.out.trans (kk))
      have HB_3 := Lib.hid (blk HB_2.out (kk))
      have HR_3 := Lib.hid (blk HR_2.out (kk))
      have HE_3 := Lib.hid (blk HE_2.out (kk))
      clear kk hww
      try go_wp2_with fail
      refine hK.out _ _ ?_ (fun hHeld => ?_)
      · exact ⟨hcell HB_3.out 2 rfl, hcell HB_3.out 3 rfl, trivial⟩
      clear hK K
      try simp only [Act.put, sm]
      refine tkL 7 rfl ?_
      try simp only [Act.put, sm]
      refine wpAnyL_ready (rs := [9]) (by kernel_rfl) (by simp) ?_
      refine AllReadyL.last (o := _) rfl (fun K hK => ?_)
      have f0 := Lib.frozen_of_heap HE_3.out 0
      have f1 := Lib.frozen_of_heap HE_3.out 1
      have f2 := Lib.frozen_of_heap HE_3.out 2
      have f3 := Lib.frozen_of_heap HE_3.out 3
      have c0 := hcell HE_3.out 0 rfl
      have c1 := hcell HE_3.out 1 rfl
      have c2 := hcell HE_3.out 2 rfl
      have c3 := hcell HE_3.out 3 rfl
      clear hHeld
      go_simp
      try go_wp2_with fail
      refine hK.out _ _ ?_
      clear hK K
      try simp only [Act.put, sm]
      refine wpAnyL_done (by kernel_rfl) ?_ _
      clear f0 f1 f2 f3 c0 c1 c2 c3
      have hst := store4 HE_3.out (.int .i64 0) (.int .i64 0) (.int .i64 u) (.bool false)
      have kk := hst.2
      have KF : Hid (Kp w _ none) := Lib.hid (K_3.out.of_own kk (by have := HPE.out; omega))
      have HBF := Lib.hid ((kk.block _ (lt_of_block HB_3.out) (by have := HPE.out; intro q; have := Option.some.inj q; omega)).trans HB_3.out)
      have HRF := Lib.hid ((kk.block _ (lt_of_block HR_3.out) (by have := HPE.out; intro q; have := Option.some.inj q; omega)).trans HR_3.out)
      have HEF := Lib.hid hst.1
      clear hst kk
      go_wp2_with fail
      go_meet
      exact ⟨_, rfl, HEF.out, HPE.out, KF.out, HBF.out, HRF.out⟩
  case rest =>
    obtain ⟨p, rfl, hE, hp, hK, hB, hR⟩ := hcut
    have HE := Lib.hid hE
    have HP := Lib.hid hp
    have HK := Lib.hid hK
    have HB2 := Lib.hid hB
    have HR2 := Lib.hid hR
    clear hE hp hK hB hR HB HR KB
    have b2 := hcell HB2.out 2 rfl
    have b3 := hcell HB2.out 3 rfl
    go_upto_region 4 with fail
    clear b2 b3
    have HE3 := HE
    have HB3 := HB2
    have HR3 := HR2
    have HK3 := HK
    clear HE HB2 HR2 HK
    obtain ⟨w3, hw3⟩ : ∃ x, x = wc := ⟨_, rfl⟩
    subst hw3
    have e0 := hcell HE3.out 0 rfl
    have e1 := hcell HE3.out 1 rfl
    have e2 := hcell HE3.out 2 rfl
    have e3 := hcell HE3.out 3 rfl
    have b0 := hcell HB3.out 0 rfl
    have b1 := hcell HB3.out 1 rfl
    go_wp2_with fail
    refine (HAP.out _).mono ?_
    rintro E w4 ⟨rfl, k4⟩
    have HE4 := Lib.hid (blk HE3.out k4)
    have HR4 := Lib.hid (blk HR3.out k4)
    have HK4 := Lib.hid (HK3.out.trans k4)
    clear k4 e0 e1 e2 e3 b0 b1 HE3 HB3 HR3 HK3
    have kf : Kp w4 (w4.alloc (Obj.cells #[.int .i64 ax, .int .i64 ay] 37)) none := (Kp.refl w4 none).alloc _
    have HE5 := Lib.hid (blk HE4.out kf)
    have HR5 := Lib.hid (blk HR4.out kf)
    have HK5 := Lib.hid (HK4.out.trans kf)
    have HA5 := Lib.hid (heap_alloc_new w4 (Obj.cells #[.int .i64 ax, .int .i64 ay] 37))
    clear kf HE4 HR4 HK4
    have a0 := hcell HA5.out 0 rfl
    have a1 := hcell HA5.out 1 rfl
    have f0 := Lib.frozen_of_heap HE5.out 0
    have f1 := Lib.frozen_of_heap HE5.out 1
    have e0 := hcell HE5.out 0 rfl
    have e1 := hcell HE5.out 1 rfl
    have hn1 := HNX.out
    have hn2 := HNY.out
    go_upto_region 6 with fail
    clear a0 a1 f0 f1 e0 e1 hn1 hn2
    have hs := heap_set (o := 1) (v := .int .i64 (-ay)) (heap_set (o := 0) (v := .int .i64 (-ax)) HE5.out)
    simp at hs
    have kz := ((Kp.refl (w4.alloc (Obj.cells #[.int .i64 ax, .int .i64 ay] 37)) (some p)).set (o := 0) (.int .i64 (-ax))).set (o := 1) (.int .i64 (-ay))
    have HE6 := Lib.hid hs
    have HR6 := Lib.hid ((kz.block _ (lt_of_block HR5.out) (by have := HP.out; intro q; have := Option.some.inj q; omega)).trans HR5.out)
    have HK6 := Lib.hid (HK5.out.of_own kz (by have := HP.out; omega))
    clear hs kz HE5 HR5 HK5 HA5
    generalize ((w4.alloc (Obj.cells #[.int .i64 ax, .int .i64 ay] 37)).setCell ⟨p, 0, none⟩ (.int .i64 (-ax))).setCell ⟨p, 1, none⟩ (.int .i64 (-ay)) = w6 at *
    have e0 := hcell HE6.out 0 rfl
    have e1 := hcell HE6.out 1 rfl
    have e2 := hcell HE6.out 2 rfl
    have e3 := hcell HE6.out 3 rfl
    have x0 := hcell HR6.out 0 rfl
    have x1 := hcell HR6.out 1 rfl
    have x2 := hcell HR6.out 2 rfl
    have x3 := hcell HR6.out 3 rfl
    have f0 := Lib.frozen_of_heap HR6.out 0
    have f1 := Lib.frozen_of_heap HR6.out 1
    have f2 := Lib.frozen_of_heap HR6.out 2
    have f3 := Lib.frozen_of_heap HR6.out 3
    go_wp2_with fail
    have hst := store4 HR6.out (.int .i64 (-ax)) (.int .i64 (-ay)) (.int .i64 u) (.bool false)
    have KF := Lib.hid (HK6.out.of_own hst.2 (by omega))
    have q0 := hcell hst.1 0 rfl
    have q1 := hcell hst.1 1 rfl
    have q2 := hcell hst.1 2 rfl
    have q3 := hcell hst.1 3 rfl
    clear hst e0 x0 f0 e1 x1 f1 e2 x2 f2 e3 x3 f3 HE6 HR6 HK6
    generalize ((((w6.setCell ⟨w.heap.size + 1, 0, none⟩ (.int .i64 (-ax))).setCell ⟨w.heap.size + 1, 1, none⟩ (.int .i64 (-ay))).setCell ⟨w.heap.size + 1, 2, none⟩ (.int .i64 u)).setCell ⟨w.heap.size + 1, 3, none⟩ (.bool false)) = wf at *
    exact bodyPost_ret (v := .agg #[.int .i64 (-ax), .int .i64 (-ay), .int .i64 u, .bool false]) (by simp [results, Tryz.results17, go_sem, q0, q1, q2, q3]) rfl ⟨rfl, KF.out⟩
set_option maxHeartbeats 8000000 in
set_option maxRecDepth 100000 in
theorem inverse_true (x y t : Int) (w : World) (h1 : Mid x) (h2 : Mid y) :
    Calls Tryz.prog 17 #[.agg #[.int .i64 x, .int .i64 y, .int .i64 t, .bool true]] w fun E w' => E = .returned (.agg #[.int .i64 (-(Pl.apply ⟨⟨0, 0⟩, (t % 4), true⟩ ⟨x, y⟩).x), .int .i64 (-(Pl.apply ⟨⟨0, 0⟩, (t % 4), true⟩ ⟨x, y⟩).y), .int .i64 (t % 4), .bool true]) ∧ Kp w w' none := by
  have HT1 := Lib.hid (fun V => rturns_any t V)
  have hw4 : IntKind.i64.wrap (4 - t % 4) = 4 - t % 4 := by rw [IntKind.wrap_i64]; omega
  have HAP := Lib.hid (fun V => rapply_any 0 0 x y (t % 4) true V (by unfold Mid; omega) (by unfold Mid; omega) h1 h2)
  have hq := apply_mid ⟨⟨0, 0⟩, (t % 4), true⟩ ⟨x, y⟩ h1 h2 rfl
  obtain ⟨u, hu⟩ : ∃ u, (4 - t % 4) % 4 = u := ⟨_, rfl⟩
  have HT2 : Hid (∀ V, Calls Tryz.prog 40 #[.int .i64 (4 - t % 4)] V fun E w' => E = .returned (.int .i64 u) ∧ w' = V) := Lib.hid (fun V => by rw [← hu]; exact rturns_any (4 - t % 4) V)
  skip
  generalize (Pl.apply ⟨⟨0, 0⟩, (t % 4), true⟩ ⟨x, y⟩).x = ax at *
  generalize (Pl.apply ⟨⟨0, 0⟩, (t % 4), true⟩ ⟨x, y⟩).y = ay at *
  have HNX : Hid (wrap64 (-ax) = -ax) := Lib.hid (by have := hq.1; unfold Mid at this; exact wrap_mid (by omega) (by omega))
  have HNY : Hid (wrap64 (-ay) = -ay) := Lib.hid (by have := hq.2; unfold Mid at this; exact wrap_mid (by omega) (by omega))
  clear hq hu h1 h2
  go_enter Tryz.func17, Tryz.ntmps17
  go_wp2_with fail
  have HB : Hid (((w.alloc (Obj.cells #[.int .i64 x, .int .i64 y, .int .i64 t, .bool true] 48)).alloc (Obj.cells #[.int .i64 0, .int .i64 0, .int .i64 0, .bool false] 48)).heap[w.heap.size]? = some (Obj.cells #[.int .i64 x, .int .i64 y, .int .i64 t, .bool true] 48 (0, 0))) := Lib.hid (blk (heap_alloc_new w _) ((Kp.refl _ none).alloc _))
  have HR : Hid (((w.alloc (Obj.cells #[.int .i64 x, .int .i64 y, .int .i64 t, .bool true] 48)).alloc (Obj.cells #[.int .i64 0, .int .i64 0, .int .i64 0, .bool false] 48)).heap[w.heap.size + 1]? = some (Obj.cells #[.int .i64 0, .int .i64 0, .int .i64 0, .bool false] 48 (0, 0))) := Lib.hid (by have h := heap_alloc_new (w.alloc (Obj.cells #[.int .i64 x, .int .i64 y, .int .i64 t, .bool true] 48)) (Obj.cells #[.int .i64 0, .int .i64 0, .int .i64 0, .bool false] 48); simpa using h)
  have KB : Hid (Kp w ((w.alloc (Obj.cells #[.int .i64 x, .int .i64 y, .int .i64 t, .bool true] 48)).alloc (Obj.cells #[.int .i64 0, .int .i64 0, .int .i64 0, .bool false] 48)) none) := Lib.hid (((Kp.refl w none).alloc _).alloc _)
  generalize (w.alloc (Obj.cells #[.int .i64 x, .int .i64 y, .int .i64 t, .bool true] 48)).alloc (Obj.cells #[.int .i64 0, .int .i64 0, .int .i64 0, .bool false] 48) = wB at *
  go_cut [3] from 5 to 31 (fun s3 wx => ∃ p : Nat, s3 = .pointer (some ⟨p, 0, none⟩) ∧ wx.heap[p]? = some (.cells #[.int .i64 0, .int .i64 0, .int .i64 u, .bool true] 48 (0, 0)) ∧ w.heap.size + 2 ≤ p ∧ Kp w wx none ∧ wx.heap[w.heap.size]? = some (Obj.cells #[.int .i64 x, .int .i64 y, .int .i64 t, .bool true] 48 (0, 0)) ∧ wx.heap[w.heap.size + 1]? = some (Obj.cells #[.int .i64 0, .int .i64 0, .int .i64 0, .bool false] 48 (0, 0)))
  case first =>
    have K_0 : Hid (Kp w wB.drew none) := Lib.hid (KB.out.trans (Kp.refl wB none).drew)
    have HB_0 := Lib.hid (blk HB.out (Kp.refl wB none).drew)
    have HR_0 := Lib.hid (blk HR.out (Kp.refl wB none).drew)
    refine wp_region_last (fun V => V.cell? ⟨w.heap.size, 2, none⟩ = some (.int .i64 t) ∧ V.cell? ⟨w.heap.size, 3, none⟩ = some (.bool true) ∧ True) 9 (by kernel_rfl) ?_ (fun hHeld => ?_)
    · exact ⟨hcell HB_0.out 2 rfl, hcell HB_0.out 3 rfl, trivial⟩
    refine tkL 0 rfl ?_
    try simp only [Act.put, sm]
    refine tkL 1 rfl ?_
    try simp only [Act.put, sm]
    refine tkL 5 rfl ?_
    try simp only [Act.put, sm]
    refine tkL 6 rfl ?_
    try simp only [Act.put, sm]
    refine wpAnyL_ready (rs := [2, 8]) (by kernel_rfl) (by simp) ?_
    refine AllReadyL.cons (o := _) rfl (fun K hK => ?_) (AllReadyL.cons (o := _) rfl (fun K hK => ?_) AllReadyL.nil)
    · clear hHeld
      go_simp
      refine (HT1.out _).mono ?_
      rintro E wx1 ⟨rfl, hww⟩
      have kk : Kp wB.drew wx1 none := by rw [hww]; exact Kp.refl _ _
      have K_1 : Hid (Kp w wx1 none) := Lib.hid (K_0.out.trans (kk))
      have HB_1 := Lib.hid (blk HB_0.out (kk))
      have HR_1 := Lib.hid (blk HR_0.out (kk))
      clear kk hww
      try go_wp2_with fail
      refine hK.out _ _ ?_ (fun hHeld => ?_)
      · exact ⟨hcell HB_1.out 2 rfl, hcell HB_1.out 3 rfl, trivial⟩
      clear hK K
      try simp only [Act.put, sm]
      refine tkL 3 rfl ?_
      try simp only [Act.put, sm]
      refine wpAnyL_ready (rs := [4, 8]) (by kernel_rfl) (by simp) ?_
      refine AllReadyL.cons (o := _) rfl (fun K hK => ?_) (AllReadyL.cons (o := _) rfl (fun K hK => ?_) AllReadyL.nil)
      · clear hHeld
        go_simp
        refine (HT2.out _).mono ?_
        rintro E wx2 ⟨rfl, hww⟩
        have kk : Kp wx1 wx2 none := by rw [hww]; exact Kp.refl _ _
        have K_2 : Hid (Kp w wx2 none) := Lib.hid (K_1.out.trans (kk))
        have HB_2 := Lib.hid (blk HB_1.out (kk))
        have HR_2 := Lib.hid (blk HR_1.out (kk))
        clear kk hww
        try go_wp2_with fail
        refine hK.out _ _ ?_ (fun hHeld => ?_)
        · exact ⟨hcell HB_2.out 2 rfl, hcell HB_2.out 3 rfl, trivial⟩
        clear hK K
        try simp only [Act.put, sm]
        refine tkL 7 rfl ?_
        try simp only [Act.put, sm]
        refine wpAnyL_ready (rs := [8]) (by kernel_rfl) (by simp) ?_
        refine AllReadyL.cons (o := _) rfl (fun K hK => ?_) AllReadyL.nil
        clear hHeld
        go_simp
        have K_3 : Hid (Kp w (wx2.alloc (Obj.cells #[.int .i64 0, .int .i64 0, .int .i64 0, .bool false] 48)) none) := Lib.hid (K_2.out.trans ((Kp.refl wx2 none).alloc (Obj.cells #[.int .i64 0, .int .i64 0, .int .i64 0, .bool false] 48)))
        have HB_3 := Lib.hid (blk HB_2.out ((Kp.refl wx2 none).alloc (Obj.cells #[.int .i64 0, .int .i64 0, .int .i64 0, .bool false] 48)))
        have HR_3 := Lib.hid (blk HR_2.out ((Kp.refl wx2 none).alloc (Obj.cells #[.int .i64 0, .int .i64 0, .int .i64 0, .bool false] 48)))
        have HE_3 : Hid ((wx2.alloc (Obj.cells #[.int .i64 0, .int .i64 0, .int .i64 0, .bool false] 48)).heap[wx2.heap.size]? = some (Obj.cells #[.int .i64 0, .int .i64 0, .int .i64 0, .bool false] 48 (0, 0))) := Lib.hid (heap_alloc_new wx2 (Obj.cells #[.int .i64 0, .int .i64 0, .int .i64 0, .bool false] 48))
        have HPE : Hid (w.heap.size + 2 ≤ wx2.heap.size) := Lib.hid (by have := lt_of_block HR_2.out; first | omega | (simp at this; omega))
        try go_wp2_with fail
        refine hK.out _ _ ?_ (fun hHeld => ?_)
        · exact ⟨hcell HB_3.out 2 rfl, hcell HB_3.out 3 rfl, trivial⟩
        clear hK K
        try simp only [Act.put, sm]
        refine wpAnyL_ready (rs := [9]) (by kernel_rfl) (by simp) ?_
        refine AllReadyL.last (o := _) rfl (fun K hK => ?_)
        have f0 := Lib.frozen_of_heap HE_3.out 0
        have f1 := Lib.frozen_of_heap HE_3.out 1
        have f2 := Lib.frozen_of_heap HE_3.out 2
        have f3 := Lib.frozen_of_heap HE_3.out 3
        have c0 := hcell HE_3.out 0 rfl
        have c1 := hcell HE_3.out 1 rfl
        have c2 := hcell HE_3.out 2 rfl
        have c3 := hcell HE_3.out 3 rfl
        clear hHeld
        go_simp
        try go_wp2_with fail
        refine hK.out _ _ ?_
        clear hK K
        try simp only [Act.put, sm]
        refine wpAnyL_done (by kernel_rfl) ?_ _
        clear f0 f1 f2 f3 c0 c1 c2 c3
        have K_4 : Hid (Kp w (wx2.alloc (Obj.cells #[.int .i64 0, .int .i64 0, .int .i64 u, .bool true] 48)) none) := Lib.hid (K_2.out.trans ((Kp.refl wx2 none).alloc (Obj.cells #[.int .i64 0, .int .i64 0, .int .i64 u, .bool true] 48)))
        have HB_4 := Lib.hid (blk HB_2.out ((Kp.refl wx2 none).alloc (Obj.cells #[.int .i64 0, .int .i64 0, .int .i64 u, .bool true] 48)))
        have HR_4 := Lib.hid (blk HR_2.out ((Kp.refl wx2 none).alloc (Obj.cells #[.int .i64 0, .int .i64 0, .int .i64 u, .bool true] 48)))
        have HEF := Lib.hid (heap_alloc_new wx2 (Obj.cells #[.int .i64 0, .int .i64 0, .int .i64 u, .bool true] 48))
        go_wp2_with fail
        go_meet
        exact ⟨_, rfl, HEF.out, HPE.out, K_4.out, HB_4.out, HR_4.out⟩
      · clear hHeld
        go_simp
        have K_2 : Hid (Kp w (wx1.alloc (Obj.cells #[.int .i64 0, .int .i64 0, .int .i64 0, .bool false] 48)) none) := Lib.hid (K_1.out.trans ((Kp.refl wx1 none).alloc (Obj.cells #[.int .i64 0, .int .i64 0, .int .i64 0, .bool false] 48)))
        have HB_2 := Lib.hid (blk HB_1.out ((Kp.refl wx1 none).alloc (Obj.cells #[.int .i64 0, .int .i64 0, .int .i64 0, .bool false] 48)))
        have HR_2 := Lib.hid (blk HR_1.out ((Kp.refl wx1 none).alloc (Obj.cells #[.int .i64 0, .int .i64 0, .int .i64 0, .bool false] 48)))
        have HE_2 : Hid ((wx1.alloc (Obj.cells #[.int .i64 0, .int .i64 0, .int .i64 0, .bool false] 48)).heap[wx1.heap.size]? = some (Obj.cells #[.int .i64 0, .int .i64 0, .int .i64 0, .bool false] 48 (0, 0))) := Lib.hid (heap_alloc_new wx1 (Obj.cells #[.int .i64 0, .int .i64 0, .int .i64 0, .bool false] 48))
        have HPE : Hid (w.heap.size + 2 ≤ wx1.heap.size) := Lib.hid (by have := lt_of_block HR_1.out; first | omega | (simp at this; omega))
        try go_wp2_with fail
        refine hK.out _ _ ?_ (fun hHeld => ?_)
        · exact ⟨hcell HB_2.out 2 rfl, hcell HB_2.out 3 rfl, trivial⟩
        clear hK K
        try simp only [Act.put, sm]
        refine wpAnyL_ready (rs := [4]) (by kernel_rfl) (by simp) ?_
        refine AllReadyL.cons (o := _) rfl (fun K hK => ?_) AllReadyL.nil
        clear hHeld
        go_simp
        refine (HT2.out _).mono ?_
        rintro E wx3 ⟨rfl, hww⟩
        have kk : Kp (wx1.alloc (Obj.cells #[.int .i64 0, .int .i64 0, .int .i64 0, .bool false] 48)) wx3 none := by rw [hww]; exact Kp.refl _ _
        have K_3 : Hid (Kp w wx3 none) := Lib.hid (K_2.out.trans (kk))
        have HB_3 := Lib.hid (blk HB_2.out (kk))
        have HR_3 := Lib.hid (blk HR_2.out (kk))
        have HE_3 := Lib.hid (blk HE_2.out (kk))
        clear kk hww
        try go_wp2_with fail
        refine hK.out _ _ ?_ (fun hHeld => ?_)
        · exact ⟨hcell HB_3.out 2 rfl, hcell HB_3.out 3 rfl, trivial⟩
        clear hK K
        try simp only [Act.put, sm]
        refine tkL 7 rfl ?_
        try simp only [Act.put, sm]
        refine wpAnyL_ready (rs := [9]) (by kernel_rfl) (by simp) ?_
        refine AllReadyL.last (o := _) rfl (fun K hK => ?_)
        have f0 := Lib.frozen_of_heap HE_3.out 0
        have f1 := Lib.frozen_of_heap HE_3.out 1
        have f2 := Lib.frozen_of_heap HE_3.out 2
        have f3 := Lib.frozen_of_heap HE_3.out 3
        have c0 := hcell HE_3.out 0 rfl
        have c1 := hcell HE_3.out 1 rfl
        have c2 := hcell HE_3.out 2 rfl
        have c3 := hcell HE_3.out 3 rfl
        clear hHeld
        go_simp
        try go_wp2_with fail
        refine hK.out _ _ ?_
        clear hK K
        try simp only [Act.put, sm]
        refine wpAnyL_done (by kernel_rfl) ?_ _
        clear f0 f1 f2 f3 c0 c1 c2 c3
        have hst := store4 HE_3.out (.int .i64 0) (.int .i64 0) (.int .i64 u) (.bool true)
        have kk := hst.2
        have KF : Hid (Kp w _ none) := Lib.hid (K_3.out.of_own kk (by have := HPE.out; omega))
        have HBF := Lib.hid ((kk.block _ (lt_of_block HB_3.out) (by have := HPE.out; intro q; have := Option.some.inj q; omega)).trans HB_3.out)
        have HRF := Lib.hid ((kk.block _ (lt_of_block HR_3.out) (by have := HPE.out; intro q; have := Option.some.inj q; omega)).trans HR_3.out)
        have HEF := Lib.hid hst.1
        clear hst kk
        go_wp2_with fail
        go_meet
        exact ⟨_, rfl, HEF.out, HPE.out, KF.out, HBF.out, HRF.out⟩
    · clear hHeld
      go_simp
      have K_1 : Hid (Kp w (wB.drew.alloc (Obj.cells #[.int .i64 0, .int .i64 0, .int .i64 0, .bool false] 48)) none) := Lib.hid (K_0.out.trans ((Kp.refl wB.drew none).alloc (Obj.cells #[.int .i64 0, .int .i64 0, .int .i64 0, .bool false] 48)))
      have HB_1 := Lib.hid (blk HB_0.out ((Kp.refl wB.drew none).alloc (Obj.cells #[.int .i64 0, .int .i64 0, .int .i64 0, .bool false] 48)))
      have HR_1 := Lib.hid (blk HR_0.out ((Kp.refl wB.drew none).alloc (Obj.cells #[.int .i64 0, .int .i64 0, .int .i64 0, .bool false] 48)))
      have HE_1 : Hid ((wB.drew.alloc (Obj.cells #[.int .i64 0, .int .i64 0, .int .i64 0, .bool false] 48)).heap[wB.heap.size]? = some (Obj.cells #[.int .i64 0, .int .i64 0, .int .i64 0, .bool false] 48 (0, 0))) := Lib.hid (heap_alloc_new wB.drew (Obj.cells #[.int .i64 0, .int .i64 0, .int .i64 0, .bool false] 48))
      have HPE : Hid (w.heap.size + 2 ≤ wB.heap.size) := Lib.hid (by have := lt_of_block HR_0.out; first | omega | (simp at this; omega))
      try go_wp2_with fail
      refine hK.out _ _ ?_ (fun hHeld => ?_)
      · exact ⟨hcell HB_1.out 2 rfl, hcell HB_1.out 3 rfl, trivial⟩
      clear hK K
      try simp only [Act.put, sm]
      refine wpAnyL_ready (rs := [2]) (by kernel_rfl) (by simp) ?_
      refine AllReadyL.cons (o := _) rfl (fun K hK => ?_) AllReadyL.nil
      clear hHeld
      go_simp
      refine (HT1.out _).mono ?_
      rintro E wx4 ⟨rfl, hww⟩
      have kk : Kp (wB.drew.alloc (Obj.cells #[.int .i64 0, .int .i64 0, .int .i64 0, .bool false] 48)) wx4 none := by rw [hww]; exact Kp.refl _ _
      have K_2 : Hid (Kp w wx4 none) := Lib.hid (K_1.out.trans (kk))
      have HB_2 := Lib.hid (blk HB_1.out (kk))
      have HR_2 := Lib.hid (blk HR_1.out (kk))
      have HE_2 := Lib.hid (blk HE_1.out (kk))
      clear kk hww
      try go_wp2_with fail
      refine hK.out _ _ ?_ (fun hHeld => ?_)
      · exact ⟨hcell HB_2.out 2 rfl, hcell HB_2.out 3 rfl, trivial⟩
      clear hK K
      try simp only [Act.put, sm]
      refine tkL 3 rfl ?_
      try simp only [Act.put, sm]
      refine wpAnyL_ready (rs := [4]) (by kernel_rfl) (by simp) ?_
      refine AllReadyL.cons (o := _) rfl (fun K hK => ?_) AllReadyL.nil
      clear hHeld
      go_simp
      refine (HT2.out _).mono ?_
      rintro E wx5 ⟨rfl, hww⟩
      have kk : Kp wx4 wx5 none := by rw [hww]; exact Kp.refl _ _
      have K_3 : Hid (Kp w wx5 none) := Lib.hid (K_2.out.trans (kk))
      have HB_3 := Lib.hid (blk HB_2.out (kk))
      have HR_3 := Lib.hid (blk HR_2.out (kk))
      have HE_3 := Lib.hid (blk HE_2.out (kk))
      clear kk hww
      try go_wp2_with fail
      refine hK.out _ _ ?_ (fun hHeld => ?_)
      · exact ⟨hcell HB_3.out 2 rfl, hcell HB_3.out 3 rfl, trivial⟩
      clear hK K
      try simp only [Act.put, sm]
      refine tkL 7 rfl ?_
      try simp only [Act.put, sm]
      refine wpAnyL_ready (rs := [9]) (by kernel_rfl) (by simp) ?_
      refine AllReadyL.last (o := _) rfl (fun K hK => ?_)
      have f0 := Lib.frozen_of_heap HE_3.out 0
      have f1 := Lib.frozen_of_heap HE_3.out 1
      have f2 := Lib.frozen_of_heap HE_3.out 2
      have f3 := Lib.frozen_of_heap HE_3.out 3
      have c0 := hcell HE_3.out 0 rfl
      have c1 := hcell HE_3.out 1 rfl
      have c2 := hcell HE_3.out 2 rfl
      have c3 := hcell HE_3.out 3 rfl
      clear hHeld
      go_simp
      try go_wp2_with fail
      refine hK.out _ _ ?_
      clear hK K
      try simp only [Act.put, sm]
      refine wpAnyL_done (by kernel_rfl) ?_ _
      clear f0 f1 f2 f3 c0 c1 c2 c3
      have hst := store4 HE_3.out (.int .i64 0) (.int .i64 0) (.int .i64 u) (.bool true)
      have kk := hst.2
      have KF : Hid (Kp w _ none) := Lib.hid (K_3.out.of_own kk (by have := HPE.out; omega))
      have HBF := Lib.hid ((kk.block _ (lt_of_block HB_3.out) (by have := HPE.out; intro q; have := Option.some.inj q; omega)).trans HB_3.out)
      have HRF := Lib.hid ((kk.block _ (lt_of_block HR_3.out) (by have := HPE.out; intro q; have := Option.some.inj q; omega)).trans HR_3.out)
      have HEF := Lib.hid hst.1
      clear hst kk
      go_wp2_with fail
      go_meet
      exact ⟨_, rfl, HEF.out, HPE.out, KF.out, HBF.out, HRF.out⟩
  case rest =>
    obtain ⟨p, rfl, hE, hp, hK, hB, hR⟩ := hcut
    have HE := Lib.hid hE
    have HP := Lib.hid hp
    have HK := Lib.hid hK
    have HB2 := Lib.hid hB
    have HR2 := Lib.hid hR
    clear hE hp hK hB hR HB HR KB
    have b2 := hcell HB2.out 2 rfl
    have b3 := hcell HB2.out 3 rfl
    have e2 := hcell HE.out 2 rfl
    have f2 := Lib.frozen_of_heap HE.out 2
    go_wp2_with fail
    refine (HT1.out _).mono ?_
    rintro E w1 ⟨rfl, hww⟩
    subst hww
    go_upto_region 4 with fail
    clear b2 b3 e2 f2
    have hs := heap_set (o := 2) (v := .int .i64 (t % 4)) HE.out
    simp at hs
    have kz : Kp w1 (w1.setCell ⟨p, 2, none⟩ (.int .i64 (t % 4))) (some p) := (Kp.refl w1 (some p)).set _
    have HE3 := Lib.hid hs
    have HB3 := Lib.hid ((kz.block _ (lt_of_block HB2.out) (by have := HP.out; intro q; have := Option.some.inj q; omega)).trans HB2.out)
    have HR3 := Lib.hid ((kz.block _ (lt_of_block HR2.out) (by have := HP.out; intro q; have := Option.some.inj q; omega)).trans HR2.out)
    have HK3 := Lib.hid (HK.out.of_own kz (by have := HP.out; omega))
    clear hs kz HE HB2 HR2 HK
    generalize w1.setCell ⟨p, 2, none⟩ (.int .i64 (t % 4)) = w3 at *
    have e0 := hcell HE3.out 0 rfl
    have e1 := hcell HE3.out 1 rfl
    have e2 := hcell HE3.out 2 rfl
    have e3 := hcell HE3.out 3 rfl
    have b0 := hcell HB3.out 0 rfl
    have b1 := hcell HB3.out 1 rfl
    go_wp2_with fail
    refine (HAP.out _).mono ?_
    rintro E w4 ⟨rfl, k4⟩
    have HE4 := Lib.hid (blk HE3.out k4)
    have HR4 := Lib.hid (blk HR3.out k4)
    have HK4 := Lib.hid (HK3.out.trans k4)
    clear k4 e0 e1 e2 e3 b0 b1 HE3 HB3 HR3 HK3
    have kf : Kp w4 (w4.alloc (Obj.cells #[.int .i64 ax, .int .i64 ay] 37)) none := (Kp.refl w4 none).alloc _
    have HE5 := Lib.hid (blk HE4.out kf)
    have HR5 := Lib.hid (blk HR4.out kf)
    have HK5 := Lib.hid (HK4.out.trans kf)
    have HA5 := Lib.hid (heap_alloc_new w4 (Obj.cells #[.int .i64 ax, .int .i64 ay] 37))
    clear kf HE4 HR4 HK4
    have a0 := hcell HA5.out 0 rfl
    have a1 := hcell HA5.out 1 rfl
    have f0 := Lib.frozen_of_heap HE5.out 0
    have f1 := Lib.frozen_of_heap HE5.out 1
    have e0 := hcell HE5.out 0 rfl
    have e1 := hcell HE5.out 1 rfl
    have hn1 := HNX.out
    have hn2 := HNY.out
    go_upto_region 6 with fail
    clear a0 a1 f0 f1 e0 e1 hn1 hn2
    have hs := heap_set (o := 1) (v := .int .i64 (-ay)) (heap_set (o := 0) (v := .int .i64 (-ax)) HE5.out)
    simp at hs
    have kz := ((Kp.refl (w4.alloc (Obj.cells #[.int .i64 ax, .int .i64 ay] 37)) (some p)).set (o := 0) (.int .i64 (-ax))).set (o := 1) (.int .i64 (-ay))
    have HE6 := Lib.hid hs
    have HR6 := Lib.hid ((kz.block _ (lt_of_block HR5.out) (by have := HP.out; intro q; have := Option.some.inj q; omega)).trans HR5.out)
    have HK6 := Lib.hid (HK5.out.of_own kz (by have := HP.out; omega))
    clear hs kz HE5 HR5 HK5 HA5
    generalize ((w4.alloc (Obj.cells #[.int .i64 ax, .int .i64 ay] 37)).setCell ⟨p, 0, none⟩ (.int .i64 (-ax))).setCell ⟨p, 1, none⟩ (.int .i64 (-ay)) = w6 at *
    have e0 := hcell HE6.out 0 rfl
    have e1 := hcell HE6.out 1 rfl
    have e2 := hcell HE6.out 2 rfl
    have e3 := hcell HE6.out 3 rfl
    have x0 := hcell HR6.out 0 rfl
    have x1 := hcell HR6.out 1 rfl
    have x2 := hcell HR6.out 2 rfl
    have x3 := hcell HR6.out 3 rfl
    have f0 := Lib.frozen_of_heap HR6.out 0
    have f1 := Lib.frozen_of_heap HR6.out 1
    have f2 := Lib.frozen_of_heap HR6.out 2
    have f3 := Lib.frozen_of_heap HR6.out 3
    go_wp2_with fail
    have hst := store4 HR6.out (.int .i64 (-ax)) (.int .i64 (-ay)) (.int .i64 (t % 4)) (.bool true)
    have KF := Lib.hid (HK6.out.of_own hst.2 (by omega))
    have q0 := hcell hst.1 0 rfl
    have q1 := hcell hst.1 1 rfl
    have q2 := hcell hst.1 2 rfl
    have q3 := hcell hst.1 3 rfl
    clear hst e0 x0 f0 e1 x1 f1 e2 x2 f2 e3 x3 f3 HE6 HR6 HK6
    generalize ((((w6.setCell ⟨w.heap.size + 1, 0, none⟩ (.int .i64 (-ax))).setCell ⟨w.heap.size + 1, 1, none⟩ (.int .i64 (-ay))).setCell ⟨w.heap.size + 1, 2, none⟩ (.int .i64 (t % 4))).setCell ⟨w.heap.size + 1, 3, none⟩ (.bool true)) = wf at *
    exact bodyPost_ret (v := .agg #[.int .i64 (-ax), .int .i64 (-ay), .int .i64 (t % 4), .bool true]) (by simp [results, Tryz.results17, go_sem, q0, q1, q2, q3]) rfl ⟨rfl, KF.out⟩

end Go.Proofs.YtggplbenliaodaaGreatDoor
