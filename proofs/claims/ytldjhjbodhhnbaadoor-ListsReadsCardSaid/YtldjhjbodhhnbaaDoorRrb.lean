/- A file of test points, as the reference reads it. Condition: the text has at most 262144 bytes. -/
import Derived.Test.YtldjhjbodhhnbaaDoorRra
import Derived.Test.YtldjhjbodhhnbaaDoorRp
namespace Go.Proofs.YtldjhjbodhhnbaaDoor
open Go.RowKit
set_option maxHeartbeats 8000000 in
set_option maxRecDepth 100000 in
theorem rreadProbes_any (s : List UInt8) (w : World) (hs : s.length ≤ 262144) : Calls Tryd.prog 20 #[.string ⟨s.toArray⟩] w (ReadEnds w 54 (Li.readFile Li.probe Li.probeK s)) := by
  have HLNE : Hid ((Li.linesL s).length ≠ 0) := Lib.hid (fun e => Li.lines_ne s (List.length_eq_zero_iff.1 e))
  have hs2 : (s.length : Int) ≤ 262144 := by omega
  have HRD : Hid (Li.refL Li.probeF (Li.linesL s) [] 0 = Li.readFile Li.probe Li.probeK s) := Lib.hid (Li.probe_read s)
  have HLM := Lib.hid (lines_mem s.length s (Nat.le_refl _))
  have hlc : (Li.linesL s).length ≤ s.length + 1 := Li.lines_count _ s
  go_enter Tryd.func20, Tryd.ntmps20
  go_wp2_with fail
  refine (lines_any s _ (by omega)).mono ?_
  rintro e w2 ⟨v6, rfl, h6, k2⟩
  obtain ⟨ls, hls⟩ : ∃ ls, Li.linesL s = ls := ⟨_, rfl⟩
  rw [hls] at h6 HRD HLM hlc HLNE
  clear hls
  obtain ⟨g, cap, hv6, hcap, hcell⟩ : ∃ g cap, v6 = .slice (some ⟨g, 0, none⟩) ls.length cap ∧ ls.length ≤ cap ∧ g < w2.heap.size ∧ ∀ j, (h : j < ls.length) → w2.cell? ⟨g, j, none⟩ = some (.string ⟨ls[j].toArray⟩) := by
    rcases h6.2 with ⟨rfl, h0⟩ | ⟨g, cap, cur, rfl, _, hg, hc, _⟩
    · exact absurd h0 (HLNE.out)
    · refine ⟨g, cap, rfl, hc, lt_of_block hg, fun j hj => ?_⟩
      have := h6.cells rfl j (vStr ls[j]) (by simp [hj])
      rwa [show ((⟨g, 0, none⟩ : Addr).add j) = ⟨g, j, none⟩ by by_cases h : j = 0 <;> simp [Addr.add, h]] at this
  subst hv6
  obtain ⟨hgl, hcell⟩ := hcell
  have HC := Lib.hid hcell
  have K2 := Lib.hid k2
  have hz2 := k2.size
  clear h6 k2 hcell
  have hn1 : (ls.length : Int) ≤ 262145 := by omega
  go_wp2_with fail
  go_loopw [5, 7] (fun v5 v7 wr => RrRel w2 54 Li.probeF ls v5 v7 wr) (fun _ v7 _ => ls.length - (intOf v7).toNat)
  case atStart => exact ⟨0, [], Nat.zero_le _, rfl, rfl, World.ownsRow_nil _ _ _ _, Kp.refl _ _, rfl⟩
  case round =>
    obtain ⟨k, out, hk, rfl, hok, hown, hK, hR⟩ := hrel
    have HO := Lib.hid hown
    have HK := Lib.hid hK
    have HR := Lib.hid hR
    have hbz := HK.out.size
    clear hown hK hR
    have hk0 : (0 : Int) ≤ (k : Int) := by omega
    have hk1 : (k : Int) ≤ 262145 := by omega
    have ho1 : out.length ≤ 262145 := by omega
    have HOK := Lib.hid hok
    clear hok
    obtain ⟨v5, rfl⟩ : ∃ v5, u5 = v5 := ⟨_, rfl⟩
    obtain ⟨ao, cap5, rfl⟩ : ∃ ao cap, u5 = .slice ao out.length cap := by
      rcases HO.out.2 with ⟨h, hz⟩ | ⟨g, cap, cur, h, _⟩
      · exact ⟨none, 0, by rw [hz]; exact h⟩
      · exact ⟨_, cap, h⟩
    by_cases hlt : k < ls.length
    · have hk2 : (k : Int) < (ls.length : Int) := by omega
      obtain ⟨l, hl⟩ : ∃ l, ls[k] = l := ⟨_, rfl⟩
      have HD : Hid (ls.drop k = l :: ls.drop (k + 1)) := Lib.hid (by rw [List.drop_eq_getElem_cons hlt, hl])
      have hll : l.length ≤ 262144 := by have := HLM.out l (by rw [← hl]; exact List.getElem_mem hlt); omega
      have c0 : wr.cell? ⟨g, k, none⟩ = some (.string ⟨l.toArray⟩) := by rw [HK.out.below.cell (p := ⟨g, k, none⟩) hgl, HC.out k hlt, hl]
      clear hl
      obtain ⟨it, hit⟩ : ∃ it, Lib.itoa out.length = it := ⟨_, rfl⟩
      have hil : it.length ≤ 20 := by rw [← hit]; exact Wr.itoa_length _ (by unfold Wr.I64; omega)
      obtain ⟨e1, he1⟩ : ∃ e1, Li.endOf out.length = e1 := ⟨_, rfl⟩
      obtain ⟨e2, he2⟩ : ∃ e2, e1 ++ [10] = e2 := ⟨_, rfl⟩
      have hcat := end_cat out.length
      have hcat2 := end_cat2 out.length
      rw [he1, hit] at hcat
      rw [he1, he2] at hcat2
      have hel : e1.length ≤ 24 := by rw [← he1]; unfold Li.endOf; rw [List.length_append, hit]; simp; omega
      have hsum : ((9223372036854775807 : Nat) < 4 + it.length) = False := by simp; omega
      have hsum3 : ((9223372036854775807 : Nat) < it.length + 4) = False := by simp; omega
      have hsum2 : ((9223372036854775807 : Nat) < e1.length + 1) = False := by simp; omega
      obtain ⟨bb, hbb⟩ : ∃ bb, decide (l = e2) = bb := ⟨_, rfl⟩
      have hbq : (l == e2) = bb := by rw [← hbb]; exact beq_dc _ _
      have HBB := Lib.hid hbb
      have HE2 : Hid (Li.endOf out.length ++ [10] = e2) := Lib.hid (by rw [he1, he2])
      have HIT := Lib.hid hit
      clear hbb hit he1 he2
      have hoI : Wr.I64 (out.length : Int) := by unfold Wr.I64; omega
      have HOI := Lib.hid hoI
      clear hoI
      go_wp2_with fail
      refine wp_region_held_drew (S := fun w2 => w2.cell? ⟨g, k, none⟩ = some (.string ⟨l.toArray⟩)) (by kernel_rfl) ?_ (fun hHeld => ?_)
      · exact c0
      refine wpAnyH_take (i := 0) (oi := _) (v := ?_) rfl (by kernel_rfl) (by kernel_rfl) (by kernel_rfl) (fun _ _ _ h => h) (Or.inl ⟨by rfl, ?_⟩) (by assumption) ?_
      rotate_left
      · (intro w hSw; (try dsimp only at hSw); go_simp <;> with_reducible rfl)
      try simp only [Act.put, List.getElem_toArray, List.getElem_cons_zero, List.setIfInBounds_toArray, List.set_cons_zero, List.set_cons_succ]
      refine wpAnyH_take (i := 1) (oi := _) (v := ?_) rfl (by kernel_rfl) (by kernel_rfl) (by kernel_rfl) (fun _ _ _ h => h) (Or.inl ⟨by rfl, ?_⟩) (by assumption) ?_
      rotate_left
      · (intro w hSw; (try dsimp only at hSw); go_simp <;> with_reducible rfl)
      try simp only [Act.put, List.getElem_toArray, List.getElem_cons_zero, List.getElem_cons_succ, List.setIfInBounds_toArray, List.set_cons_zero, List.set_cons_succ]
      refine wpAnyH_take (i := 2) (oi := _) (v := ?_) rfl (by kernel_rfl) (by kernel_rfl) (by kernel_rfl) (fun _ _ _ h => h) (Or.inl ⟨by rfl, ?_⟩) (by assumption) ?_
      rotate_left
      · (intro w hSw; (try dsimp only at hSw); go_simp <;> with_reducible rfl)
      try simp only [Act.put, List.getElem_toArray, List.getElem_cons_zero, List.getElem_cons_succ, List.setIfInBounds_toArray, List.set_cons_zero, List.set_cons_succ]
      refine wpAnyH_take (i := 3) (oi := _) (v := ?_) rfl (by kernel_rfl) (by kernel_rfl) (by kernel_rfl) (fun _ _ _ h => h) (Or.inl ⟨by rfl, ?_⟩) (by assumption) ?_
      rotate_left
      · (intro w hSw; (try dsimp only at hSw); go_simp <;> with_reducible rfl)
      try simp only [Act.put, List.getElem_toArray, List.getElem_cons_zero, List.getElem_cons_succ, List.setIfInBounds_toArray, List.set_cons_zero, List.set_cons_succ]
      refine wpAnyH_take (i := 4) (oi := _) (v := ?_) rfl (by kernel_rfl) (by kernel_rfl) (by kernel_rfl) (fun _ _ _ h => h) (Or.inl ⟨by rfl, ?_⟩) (by assumption) ?_
      rotate_left
      · (intro w hSw; (try dsimp only at hSw); go_simp <;> with_reducible rfl)
      try simp only [Act.put, List.getElem_toArray, List.getElem_cons_zero, List.getElem_cons_succ, List.setIfInBounds_toArray, List.set_cons_zero, List.set_cons_succ]
      refine wpAnyH_take (i := 5) (oi := _) (v := ?_) rfl (by kernel_rfl) (by kernel_rfl) (by kernel_rfl) (fun _ _ _ h => h) (Or.inl ⟨by rfl, ?_⟩) (by assumption) ?_
      rotate_left
      · (intro w hSw; (try dsimp only at hSw); go_simp <;> with_reducible rfl)
      try simp only [Act.put, List.getElem_toArray, List.getElem_cons_zero, List.getElem_cons_succ, List.setIfInBounds_toArray, List.set_cons_zero, List.set_cons_succ]
      refine wpAnyH_ready (rs := [6]) (by kernel_rfl) (by simp) ?_
      refine AllReadyH.cons (o := _) rfl (fun K hK => ?_) AllReadyH.nil
      clear hHeld
      go_simp
      refine (dec_any out.length HOI.out _).mono ?_
      rintro e w4 ⟨rfl, k4⟩
      rw [HIT.out]
      have HK4 := Lib.hid (HK.out.drew.trans k4)
      have HO4 : Hid (w4.ownsRow w2.heap.size 54 6 (.slice ao out.length cap5) out.length (cellsOf out)) := Lib.hid (HO.out.kept ((Kp.refl wr none).drew.trans k4) (by cases ao <;> simp [Value.ownBlock]))
      have c4 : w4.cell? ⟨g, k, none⟩ = some (.string ⟨l.toArray⟩) := by rw [k4.below.cell (p := ⟨g, k, none⟩) (show g < wr.drew.heap.size from Nat.lt_of_lt_of_le hgl hbz)]; exact c0
      clear k4
      try go_wp2_with fail
      refine hK.out _ _ (by exact c4) (fun hHeld => ?_)
      clear hK K
      try simp only [Act.put, List.getElem_toArray, List.getElem_cons_zero, List.getElem_cons_succ, List.setIfInBounds_toArray, List.set_cons_zero, List.set_cons_succ]
      refine wpAnyH_take (i := 7) (oi := _) (v := ?_) rfl (by kernel_rfl) (by kernel_rfl) (by kernel_rfl) (fun _ _ _ h => h) (Or.inl ⟨by rfl, ?_⟩) (by assumption) ?_
      rotate_left
      · (intro w hSw; (try dsimp only at hSw); go_simp <;> with_reducible rfl)
      try simp only [Act.put, List.getElem_toArray, List.getElem_cons_zero, List.getElem_cons_succ, List.setIfInBounds_toArray, List.set_cons_zero, List.set_cons_succ]
      refine wpAnyH_take (i := 8) (oi := _) (v := ?_) rfl (by kernel_rfl) (by kernel_rfl) (by kernel_rfl) (fun _ _ _ h => h) (Or.inl ⟨by rfl, ?_⟩) (by assumption) ?_
      rotate_left
      · (intro w hSw; (try dsimp only at hSw); go_simp <;> with_reducible rfl)
      try simp only [Act.put, List.getElem_toArray, List.getElem_cons_zero, List.getElem_cons_succ, List.setIfInBounds_toArray, List.set_cons_zero, List.set_cons_succ]
      refine wpAnyH_ready (rs := [9]) (by kernel_rfl) (by simp) ?_
      refine AllReadyH.cons (o := _) rfl (fun K hK => ?_) AllReadyH.nil
      clear hHeld
      go_simp
      try go_wp2_with fail
      refine hK.out _ _ (by exact c4) (fun hHeld => ?_)
      clear hK K hHeld
      refine wpAnyH_done (by kernel_rfl) ?_ _
      clear hcat hcat2 hsum hsum2 hsum3 c0
      cases bb
      · have hne : Hid (¬ l = Li.endOf out.length ++ [10]) := Lib.hid (by rw [HE2.out]; exact of_decide_eq_false HBB.out)
        clear hbq
        have hz4 := HK4.out.size
        have HX5 : Hid (LnIs (w4.alloc (.cells #[.string ⟨l.toArray⟩, .bool false] 66)) w4.heap.size l false) := Lib.hid (heap_alloc_new w4 _)
        go_wp2_with fail
        refine (rprobe_any w4.heap.size l _ HX5.out (by omega)).mono ?_
        rintro e w7 ⟨c, a, b, x, y, t, S7, b7, rfl, hL7, hl7, hF, k7⟩
        have HL7 := Lib.hid hL7
        have HF := Lib.hid hF
        have HK7 := Lib.hid (Kp.of_own (HK4.out.alloc (.cells #[.string ⟨l.toArray⟩, .bool false] 66)) k7 hz4)
        have HO7 : Hid (w7.ownsRow w2.heap.size 54 6 (.slice ao out.length cap5) out.length (cellsOf out)) := Lib.hid ((HO4.out.alloc _).kept k7 (own_ne HO4.out))
        have HX4 := Lib.hid (own_ne HO4.out)
        have hx7 : w4.heap.size < w7.heap.size := lt_of_block hL7
        clear hL7 hF k7
        have hcm : out.length + 1 ≤ maxLen := by unfold maxLen; omega
        have hcb : (out.length + 1) * 64 ≤ 140737488355328 := by omega
        obtain ⟨i0, hi, hz0, hz1, hzz⟩ := info_parts info54
        have hz7 := HK7.out.size
        go_wp2_with (at_builtin; go_must (refine wpList_append_lies _ (by rfl) _ _ _ (by rfl) w2.heap.size 54 i0 _ 6 64 Tryd.underlying23 hi hz0 hz1 hzz rfl (by omega) (.slice ao out.length cap5) out.length (cellsOf out) (by rfl) (HO7.out.alloc _) ⟨w7.heap.size, 0, none⟩ 1 1 [.int .i64 c, .string ⟨a.toArray⟩, .string ⟨b.toArray⟩, .int .i64 x, .int .i64 y, .int .i64 t] (by rfl) (by rfl) (World.news_of_block (cs := #[.int .i64 c, .string ⟨a.toArray⟩, .string ⟨b.toArray⟩, .int .i64 x, .int .i64 y, .int .i64 t]) (t := 54) (fr := (0, 0)) (heap_alloc_new w7 _)) (by simp [Value.oneCell']) (by omega) hcm hcb (by simp; omega) (w7.heap.size + 1) (by simp) ?_))
        intro gg capg w8 hown8 hgrow8 _ _
        have HO8 := Lib.hid hown8
        have HK8 := Lib.hid (Kp.row (HK7.out.alloc _) hgrow8 (fun j hj => (HO7.out.lt j hj).1))
        have HL8 : Hid (LnIs w8 w4.heap.size S7 b7) := Lib.hid ((HL7.out.keep ((Kp.refl w7 none).alloc _) (by simp)).keep hgrow8 (by rcases HX4.out with h | h <;> first | exact h | (rw [h]; simp)))
        have d0 := HL8.out.c0
        have d1 := HL8.out.c1
        clear hown8 hgrow8
        have hS7 : (S7.length : Int) < 1048576 := by omega
        cases b7
        · cases S7 with
          | nil =>
            have HYES : Hid (Li.probeF l = some [Li.Fld.i c, Li.Fld.s a, Li.Fld.s b, Li.Fld.i x, Li.Fld.i y, Li.Fld.i t]) := Lib.hid (fin_some HF.out)
            have HREL : Hid (RrRel w2 54 Li.probeF ls (.slice (some ⟨gg, 0, none⟩) (out.length + 1) capg) (.int .i64 (k + 1)) w8) := Lib.hid ⟨k + 1, out ++ [[Li.Fld.i c, Li.Fld.s a, Li.Fld.s b, Li.Fld.i x, Li.Fld.i y, Li.Fld.i t]], hlt, by go_num, by rw [List.length_append, HOK.out]; rfl, by rw [cellsOf_snoc, List.length_append]; exact HO8.out, HK8.out, by rw [HR.out, HD.out, refL_some hne.out HYES.out]⟩
            have HMU : Hid (ls.length - (intOf (.int .i64 ((k : Int) + 1))).toNat < ls.length - (intOf (.int .i64 (k : Int))).toNat) := Lib.hid (by simp [intOf]; omega)
            go_wp2_with fail
            first | exact ⟨HREL.out, HMU.out⟩ | (go_roundw; all_goals first | exact HREL.out | exact HMU.out | ((repeat apply Exists.intro); exact ⟨HREL.out, rfl⟩))
          | cons sc st =>
            have HNO : Hid (Li.probeF l = none) := Lib.hid (fin_none HF.out (.inr (by simp)))
            go_wp2_with fail
            go_ret3
            rw [← HRD.out, HR.out, HD.out, refL_none hne.out HNO.out]
            exact ⟨rfl, K2.out.trans HK8.out⟩
        · have HNO : Hid (Li.probeF l = none) := Lib.hid (fin_none HF.out (.inl rfl))
          go_wp2_with fail
          go_ret3
          rw [← HRD.out, HR.out, HD.out, refL_none hne.out HNO.out]
          exact ⟨rfl, K2.out.trans HK8.out⟩
      · have heq : Hid (l = Li.endOf out.length ++ [10]) := Lib.hid (by rw [HE2.out]; exact of_decide_eq_true HBB.out)
        clear hbq
        by_cases hk22 : k + 2 = ls.length
        · have hkl : ((k : Int) + 2 == (ls.length : Int)) = true := by simp; omega
          have hkl3 : (k : Int) + 2 = (ls.length : Int) := by omega
          obtain ⟨m, hm⟩ : ∃ m, ls[k + 1]? = some m := ⟨ls[k + 1]'(by omega), List.getElem?_eq_getElem (by omega)⟩
          have HDT := Lib.hid (drop_two hk22.symm hm)
          have c5 : w4.cell? ⟨g, k + 1, none⟩ = some (.string ⟨m.toArray⟩) := by
            have hlt1 : k + 1 < ls.length := by omega
            rw [HK4.out.below.cell (p := ⟨g, k + 1, none⟩) hgl, HC.out (k + 1) hlt1]
            rw [List.getElem?_eq_getElem hlt1] at hm; injection hm with hm; rw [hm]
          clear hm
          have hk3 : (k : Int) + 1 < (ls.length : Int) := by omega
          cases m with
          | nil =>
            go_wp2_with fail
            go_ret3
            rw [← HRD.out, HR.out, HD.out, refL_end heq.out, HDT.out, if_pos rfl]
            exact ⟨⟨_, rfl, own_base HO4.out (by omega)⟩, K2.out.trans HK4.out⟩
          | cons sc st =>
            go_wp2_with fail
            go_ret3
            rw [← HRD.out, HR.out, HD.out, refL_end heq.out, HDT.out, if_neg (by simp), hk22]
            exact ⟨rfl, K2.out.trans HK4.out⟩
        · have hkl : ((k : Int) + 2 == (ls.length : Int)) = false := beq_eq_false_iff_ne.2 (by omega)
          have hkl3 : ¬ (k : Int) + 2 = (ls.length : Int) := by omega
          go_wp2_with fail
          go_ret3
          rw [← HRD.out, HR.out, HD.out, refL_end heq.out, if_neg (fun e => by have := congrArg List.length e; simp at this; omega)]
          exact ⟨rfl, K2.out.trans HK4.out⟩
    · obtain rfl : k = ls.length := by omega
      go_wp2_with fail
      go_ret3
      rw [← HRD.out, HR.out, List.drop_length]
      exact ⟨rfl, K2.out.trans HK.out⟩

end Go.Proofs.YtldjhjbodhhnbaaDoor
