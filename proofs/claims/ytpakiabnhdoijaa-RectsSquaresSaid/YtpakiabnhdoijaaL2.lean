/- RectsSquares' walk: combinations have the squares that they should have; areas are their numbers. Condition: the numbers are bytes. -/
import Derived.Test.YtpakiabnhdoijaaLq
namespace Go.Proofs.Ytpakiabnhdoijaa
open Go.RowKit

set_option maxHeartbeats 8000000 in
set_option maxRecDepth 100000 in
theorem squares_any (v0 v1 : Value) (qs ps : List Quad) (w : World) (h0 : IsQuads w v0 qs) (h1 : IsQuads w v1 ps) (o0 : ∀ q ∈ qs, q.ok) (o1 : ∀ q ∈ ps, q.ok) :
    Calls Try.prog 5 #[v0, v1] w fun E w' => E = .returned (.bool true) ∧ Kp w w' none := by
  have C0 : Hid (∀ V, Kp w V none → Calls Try.prog 11 #[v0, .int .i64 12] V fun E w' => OwnRects V E w' (made qs)) := Lib.hid fun V k => made_any v0 qs V (h0.keep k) o0
  have C1 : Hid (∀ V, Kp w V none → Calls Try.prog 11 #[v1, .int .i64 12] V fun E w' => OwnRects V E w' (made ps)) := Lib.hid fun V k => made_any v1 ps V (h1.keep k) o1
  have hla := made_len qs
  have hlb := made_len ps
  have sa := quad_small qs o0
  have sb := quad_small ps o1
  have ra := quad_right qs o0
  have rb := quad_right ps o1
  clear h0 h1 o0 o1
  obtain ⟨a, ha⟩ : ∃ a, made qs = a := ⟨_, rfl⟩
  obtain ⟨b, hb⟩ : ∃ a, made ps = a := ⟨_, rfl⟩
  rw [ha] at C0 hla sa ra
  rw [hb] at C1 hlb sb rb
  clear ha hb
  have hl24 : a.length + b.length ≤ 24 := by omega
  have HCO := Lib.hid (And.intro (Rc.count_norm a (by rw [Rc.set_of_right ra]; exact sa)) (And.intro (Rc.count_norm b (by rw [Rc.set_of_right rb]; exact sb)) (And.intro (count_comb Rc.join_comb sa sb ra rb hl24) (And.intro (count_comb Rc.less_comb sa sb ra rb hl24) (count_comb Rc.meet_comb sa sb ra rb hl24)))))
  have HSQ : Hid (∀ x y, sqs a b 2 x y = (sqs a b 0 x y || sqs a b 1 x y) ∧ sqs a b 3 x y = (sqs a b 0 x y && !sqs a b 1 x y) ∧ sqs a b 4 x y = (sqs a b 0 x y && sqs a b 1 x y)) := Lib.hid fun x y => ⟨sqs_comb Rc.join_comb hl24 x y, sqs_comb Rc.less_comb hl24 x y, sqs_comb Rc.meet_comb hl24 x y⟩
  have LJ : (Rc.comb Rc.kJoin a b).length ≤ 8192 := Nat.le_trans (Rc.comb_len Rc.join_comb a b hl24) (by decide)
  have LL : (Rc.comb Rc.kLess a b).length ≤ 8192 := Nat.le_trans (Rc.comb_len Rc.less_comb a b hl24) (by decide)
  have LM : (Rc.comb Rc.kMeet a b).length ≤ 8192 := Nat.le_trans (Rc.comb_len Rc.meet_comb a b hl24) (by decide)
  clear sa sb ra rb
  go_enter Try.func5, Try.ntmps5
  go_wp2_with fail
  refine (sanity_any _).mono ?_
  rintro E w1 ⟨rfl, k⟩
  have KQ : Hid (Kp w w1 none) := Lib.hid k
  clear k
  go_wp2_with fail
  refine (C0.out _ KQ.out).mono ?_
  rintro E w2 ⟨z0, rfl, ho, k⟩
  have HA := Lib.hid (isList_own (m := 4) (f := recVal) (fun _ => rfl) ho)
  have KQ := Lib.hid (KQ.out.trans k)
  clear ho k
  go_wp2_with fail
  refine (C1.out _ KQ.out).mono ?_
  rintro E w3 ⟨z1, rfl, ho, k⟩
  have HB := Lib.hid (isList_own (m := 4) (f := recVal) (fun _ => rfl) ho)
  have KQ := Lib.hid (KQ.out.trans k)
  have HA := Lib.hid (HA.out.keep k)
  clear ho k
  go_wp2_with fail
  refine (joinP_any _ _ a b _ HA.out HB.out (by omega) (by omega)).mono ?_
  rintro E w4 ⟨z2, rfl, ho, k⟩
  have HJ := Lib.hid (isList_own (m := 4) (f := recVal) (fun _ => rfl) ho)
  have KQ := Lib.hid (KQ.out.trans k)
  have HA := Lib.hid (HA.out.keep k)
  have HB := Lib.hid (HB.out.keep k)
  clear ho k
  go_wp2_with fail
  refine (lessP_any _ _ a b _ HA.out HB.out (by omega) (by omega)).mono ?_
  rintro E w5 ⟨z3, rfl, ho, k⟩
  have HL := Lib.hid (isList_own (m := 4) (f := recVal) (fun _ => rfl) ho)
  have KQ := Lib.hid (KQ.out.trans k)
  have HA := Lib.hid (HA.out.keep k)
  have HB := Lib.hid (HB.out.keep k)
  have HJ := Lib.hid (HJ.out.keep k)
  clear ho k
  go_wp2_with fail
  refine (meetP_any _ _ a b _ HA.out HB.out (by omega) (by omega)).mono ?_
  rintro E w6 ⟨z4, rfl, ho, k⟩
  have HM := Lib.hid (isList_own (m := 4) (f := recVal) (fun _ => rfl) ho)
  have KQ := Lib.hid (KQ.out.trans k)
  have HA := Lib.hid (HA.out.keep k)
  have HB := Lib.hid (HB.out.keep k)
  have HJ := Lib.hid (HJ.out.keep k)
  have HL := Lib.hid (HL.out.keep k)
  clear ho k C0 C1
  obtain ⟨Bn, hBn⟩ : ∃ B, w6.heap.size = B := ⟨_, rfl⟩
  go_wp2_with fail
  obtain ⟨w7, hw7⟩ : ∃ x, w6.alloc (Obj.cells #[.int .i64 0, .int .i64 0, .int .i64 0, .int .i64 0, .int .i64 0] 39) = x := ⟨_, rfl⟩
  have K7 : Kp w6 w7 none := by rw [← hw7]; exact Kp.alloc (Kp.refl _ _) _
  obtain ⟨F, hF⟩ : ∃ F, sqs a b = F := ⟨_, rfl⟩
  rw [hF] at HSQ
  have HC7 : Hid (Cnt w7 Bn (rowOf F 0 0)) := Lib.hid (by
    have h := heap_alloc_new w6 (Obj.cells #[.int .i64 0, .int .i64 0, .int .i64 0, .int .i64 0, .int .i64 0] 39)
    rw [hw7, hBn] at h
    have e : rowOf F 0 0 = [0, 0, 0, 0, 0] := by unfold rowOf cnt; rfl
    unfold Cnt
    rw [e]; exact h)
  have hfar : ∀ {V : World} {v : Value} {l : List Rc.Rect}, Kp w7 V (some Bn) → IsRects w6 v l → IsRects V v l := by
    intro V v l kV h
    rcases h with h | ⟨g, off, cap, hv, hc, hb, hr⟩
    · exact .inl h
    · have hb7 : g < w7.heap.size := Nat.lt_of_lt_of_le hb K7.size
      refine .inr ⟨g, off, cap, hv, hc, Nat.lt_of_lt_of_le hb7 kV.size, fun q hq j hj => ?_⟩
      rw [World.grownBy.cell_far kV ⟨g, off + q * 4 + j, none⟩ hb7 (by intro e; injection e with e; simp at e; omega), K7.below.cell (p := ⟨g, off + q * 4 + j, none⟩) hb]
      exact hr q hq j hj
  have HLS : Hid (∀ V, Kp w7 V (some Bn) → IsRects V z0 a ∧ IsRects V z1 b ∧ IsRects V z2 (Rc.comb Rc.kJoin a b) ∧ IsRects V z3 (Rc.comb Rc.kLess a b) ∧ IsRects V z4 (Rc.comb Rc.kMeet a b)) := Lib.hid fun V k => ⟨hfar k HA.out, hfar k HB.out, hfar k HJ.out, hfar k HL.out, hfar k HM.out⟩
  have KW : Hid (∀ V, Kp w7 V (some Bn) → Kp w V none) := Lib.hid fun V k => Kp.of_own (KQ.out.trans K7) k (by rw [← hBn]; exact KQ.out.size)
  have hB7 : Bn < w7.heap.size := lt_of_block HC7.out
  rw [hw7]
  clear hfar HA HB HJ HL HM KQ K7 hw7 hBn
  go_loopw [12] (fun vx wr => ∃ (i : Nat) (x : Int), i ≤ 15 ∧ vx = .int .i64 x ∧ x = (i : Int) - 1 ∧ Cnt wr Bn (rowOf F (15 * i) 0) ∧ Kp w7 wr (some Bn)) (fun vx _ => 15 - (intOf vx + 1).toNat)
  case atStart => exact ⟨0, -1, by omega, rfl, by omega, HC7.out, Kp.refl _ _⟩
  case round =>
    clear HC7
    obtain ⟨wa, hwa⟩ : ∃ x, x = wr := ⟨_, rfl⟩
    subst hwa
    obtain ⟨i, x, hi, rfl, hx, hcn, hK⟩ := hrel
    have HXE := Lib.hid hx
    have HCA := Lib.hid hcn
    have HKA := Lib.hid hK
    clear hcn hK
    by_cases hit : i < 15
    · have hx1 : x < 14 := by omega
      have hx2 : -1 ≤ x := by omega
      clear hx
      go_wp2_with fail
      go_loopw [13] (fun vy wr => ∃ (j : Nat) (y : Int), j ≤ 15 ∧ vy = .int .i64 y ∧ y = (j : Int) - 1 ∧ Cnt wr Bn (rowOf F (15 * i + j) 0) ∧ Kp w7 wr (some Bn)) (fun vy _ => 15 - (intOf vy + 1).toNat)
      case atStart => exact ⟨0, -1, by omega, rfl, by omega, HCA.out, HKA.out⟩
      case round =>
        obtain ⟨wq, hwq⟩ : ∃ x, x = wr := ⟨_, rfl⟩
        subst hwq
        obtain ⟨j, y, hj, rfl, hy, hcn, hK⟩ := hrel
        have HYE := Lib.hid hy
        have HCQ := Lib.hid hcn
        have HKQ := Lib.hid hK
        clear hcn hK
        by_cases hjt : j < 15
        · have hy1 : y < 14 := by omega
          have hy2 : -1 ≤ y := by omega
          clear hy
          obtain ⟨t0, ht0⟩ : ∃ t, F 0 x y = t := ⟨_, rfl⟩
          obtain ⟨t1, ht1⟩ : ∃ t, F 1 x y = t := ⟨_, rfl⟩
          obtain ⟨ht2, ht3, ht4⟩ := HSQ.out x y
          rw [ht0, ht1] at ht2 ht3 ht4
          have HLQ : Hid (∀ V, Kp wq V none → Kp w7 V (some Bn)) := Lib.hid fun V k => HKQ.out.trans (k.weak _)
          have e0 : Rc.cov (Rc.set a) x y = t0 := by rw [← ht0, ← hF]; rfl
          have e1 : Rc.cov (Rc.set b) x y = t1 := by rw [← ht1, ← hF]; rfl
          have e2 : Rc.cov (Rc.set (Rc.comb Rc.kJoin a b)) x y = (t0 || t1) := by rw [← ht2, ← hF]; rfl
          have e3 : Rc.cov (Rc.set (Rc.comb Rc.kLess a b)) x y = (t0 && !t1) := by rw [← ht3, ← hF]; rfl
          have e4 : Rc.cov (Rc.set (Rc.comb Rc.kMeet a b)) x y = (t0 && t1) := by rw [← ht4, ← hF]; rfl
          have H0 : Hid (∀ V, Kp wq V none → Calls Try.prog 19 #[z0, .int .i64 x, .int .i64 y] V fun E w' => E = .returned (.bool t0) ∧ Kp V w' none) := Lib.hid fun V k => by
            have := hasP_any z0 a x y V (HLS.out V (HLQ.out V k)).1 (by omega); rw [e0] at this; exact this
          have H1 : Hid (∀ V, Kp wq V none → Calls Try.prog 19 #[z1, .int .i64 x, .int .i64 y] V fun E w' => E = .returned (.bool t1) ∧ Kp V w' none) := Lib.hid fun V k => by
            have := hasP_any z1 b x y V (HLS.out V (HLQ.out V k)).2.1 (by omega); rw [e1] at this; exact this
          have H2 : Hid (∀ V, Kp wq V none → Calls Try.prog 19 #[z2, .int .i64 x, .int .i64 y] V fun E w' => E = .returned (.bool (t0 || t1)) ∧ Kp V w' none) := Lib.hid fun V k => by
            have := hasP_any z2 _ x y V (HLS.out V (HLQ.out V k)).2.2.1 (by omega); rw [e2] at this; exact this
          have H3 : Hid (∀ V, Kp wq V none → Calls Try.prog 19 #[z3, .int .i64 x, .int .i64 y] V fun E w' => E = .returned (.bool (t0 && !t1)) ∧ Kp V w' none) := Lib.hid fun V k => by
            have := hasP_any z3 _ x y V (HLS.out V (HLQ.out V k)).2.2.2.1 (by omega); rw [e3] at this; exact this
          have H4 : Hid (∀ V, Kp wq V none → Calls Try.prog 19 #[z4, .int .i64 x, .int .i64 y] V fun E w' => E = .returned (.bool (t0 && t1)) ∧ Kp V w' none) := Lib.hid fun V k => by
            have := hasP_any z4 _ x y V (HLS.out V (HLQ.out V k)).2.2.2.2 (by omega); rw [e4] at this; exact this
          have HT := Lib.hid (And.intro ht0 (And.intro ht1 (And.intro ht2 (And.intro ht3 ht4))))
          clear ht0 ht1 ht2 ht3 ht4 e0 e1 e2 e3 e4
          have KQ : Hid (Kp wq wq none) := Lib.hid (Kp.refl _ _)
          go_wp2_with fail
          refine (H0.out _ KQ.out).mono ?_
          rintro E wh0 ⟨rfl, k⟩
          have KQ := Lib.hid (KQ.out.trans k)
          clear k
          go_wp2_with fail
          refine (H1.out _ KQ.out).mono ?_
          rintro E wh1 ⟨rfl, k⟩
          have KQ := Lib.hid (KQ.out.trans k)
          clear k
          go_wp2_with fail
          refine (H2.out _ KQ.out).mono ?_
          rintro E wh2 ⟨rfl, k⟩
          have KQ := Lib.hid (KQ.out.trans k)
          clear k
          go_wp2_with fail
          refine (H3.out _ KQ.out).mono ?_
          rintro E wh3 ⟨rfl, k⟩
          have KQ := Lib.hid (KQ.out.trans k)
          clear k
          go_wp2_with fail
          refine (H4.out _ KQ.out).mono ?_
          rintro E wh4 ⟨rfl, k⟩
          have KQ := Lib.hid (KQ.out.trans k)
          clear k
          cases t0 <;> cases t1
          · have H16 := bools_at wh4 false false false false false (fun k => F k x y) HT.out
            have K16 : Kp wh4 (wh4.alloc (Obj.cells #[.bool false, .bool false, .bool false, .bool false, .bool false] 40)) none := Kp.alloc (Kp.refl _ _) _
            obtain ⟨B16, hB16⟩ : ∃ B, wh4.heap.size = B := ⟨_, rfl⟩
            go_wp2_with fail
            obtain ⟨w9, hw9⟩ : ∃ x, wh4.alloc (Obj.cells #[.bool false, .bool false, .bool false, .bool false, .bool false] 40) = x := ⟨_, rfl⟩
            rw [hw9, hB16] at H16
            rw [hw9] at K16
            have K9 : Kp wq w9 none := KQ.out.trans K16
            have HC9 := Lib.hid (HCQ.out.keep K9)
            have HK9 : Hid (Kp w7 w9 (some Bn)) := Lib.hid (HKQ.out.trans (K9.weak _))
            have hBB : Bn < B16 := Nat.lt_of_lt_of_le (Nat.lt_of_lt_of_le hB7 (HKQ.out.trans (KQ.out.weak _)).size) (by omega)
            have HB16 : Hid (∀ V, Kp w9 V (some Bn) → ∀ k, k < 5 → V.cell? ⟨B16, k, none⟩ = some (.bool (F k x y))) := Lib.hid fun V kV k hk => by
              rw [World.grownBy.cell_far kV ⟨B16, k, none⟩ (cell_lt (H16 k hk)) (by intro e; injection e with e; simp at e; omega)]
              exact H16 k hk
            rw [hw9]
            clear H16 K16 K9 hw9 HT H0 H1 H2 H3 H4 HLQ KQ hB16
            go_loopw [17] (fun vk wr => ∃ k : Nat, k ≤ 5 ∧ vk = .int .i64 k ∧ Cnt wr Bn (rowOf F (15 * i + j) k) ∧ Kp w9 wr (some Bn)) (fun vk _ => 5 - (intOf vk).toNat)
            case atStart => exact ⟨0, Nat.zero_le _, rfl, HC9.out, Kp.refl _ _⟩
            case round =>
              obtain ⟨wv, hwv⟩ : ∃ x, x = wr := ⟨_, rfl⟩
              subst hwv
              obtain ⟨k, hk, rfl, hcn, hK⟩ := hrel
              have HCN := Lib.hid hcn
              have HKV := Lib.hid hK
              clear hcn hK
              have hk0 : (0 : Int) ≤ (k : Int) := Int.natCast_nonneg _
              by_cases hlk : k < 5
              · have hk1 : (k : Int) < 5 := by omega
                obtain ⟨tb, htb⟩ : ∃ t, F k x y = t := ⟨_, rfl⟩
                have d0 := HB16.out wv HKV.out k hlk
                rw [htb] at d0
                cases tb with
                | false =>
                  have HREL : Hid (Cnt wv Bn (rowOf F (15 * i + j) (k + 1))) := Lib.hid (by rw [rowOf_no F hit hjt hlk (by rw [← HXE.out, ← HYE.out]; exact htb)]; exact HCN.out)
                  clear htb
                  go_wp2_with fail
                  go_roundw
                  case rel => exact ⟨k + 1, by omega, by simp, HREL.out, HKV.out⟩
                  case measure => simp [intOf]; omega
                | true =>
                  have hcl := cnt_le F (15 * i + j) k
                  have d1 := HCN.out.cell (k := k) (by rw [rowOf_len]; exact hlk)
                  rw [rowOf_get F _ k k hlk, if_neg (Nat.lt_irrefl k)] at d1
                  have d2 := HCN.out.frozen k
                  have ST := HCN.out.stored k (cnt F (15 * i + j) k + 1)
                  rw [rowOf_yes F hit hjt hlk (by rw [← HXE.out, ← HYE.out]; exact htb)] at ST
                  obtain ⟨cn, hcn⟩ : ∃ c, cnt F (15 * i + j) k = c := ⟨_, rfl⟩
                  rw [hcn] at d1 ST hcl
                  have HST : Hid (Cnt (wv.setCell ⟨Bn, k, none⟩ (.int .i64 ((cn : Int) + 1))) Bn (rowOf F (15 * i + j) (k + 1)) ∧ wv.grownBy (wv.setCell ⟨Bn, k, none⟩ (.int .i64 ((cn : Int) + 1))) (some Bn)) := Lib.hid (by simpa using ST)
                  have hcn0 : (0 : Int) ≤ (cn : Int) := Int.natCast_nonneg _
                  have hcn1 : (cn : Int) ≤ 225 := by omega
                  clear htb ST hcn hcl
                  go_wp2_with fail
                  go_roundw
                  case rel => exact ⟨k + 1, by omega, by simp, HST.out.1, HKV.out.trans HST.out.2⟩
                  case measure => simp [intOf]; omega
              · have hk1 : ¬ (k : Int) < 5 := by omega
                have hk5 : k = 5 := by omega
                subst hk5
                have HREL : Hid (Cnt wv Bn (rowOf F (15 * i + (j + 1)) 0)) := Lib.hid (by rw [← Nat.add_assoc, ← rowOf_next]; exact HCN.out)
                have HKR := Lib.hid (HK9.out.trans HKV.out)
                go_wp2_with fail
                go_roundw
                case rel => exact ⟨j + 1, y + 1, by omega, by first | rfl | simp, by have := HYE.out; omega, HREL.out, HKR.out⟩
                case measure => simp [intOf]; omega
          · have H16 := bools_at wh4 false true true false false (fun k => F k x y) HT.out
            have K16 : Kp wh4 (wh4.alloc (Obj.cells #[.bool false, .bool true, .bool true, .bool false, .bool false] 40)) none := Kp.alloc (Kp.refl _ _) _
            obtain ⟨B16, hB16⟩ : ∃ B, wh4.heap.size = B := ⟨_, rfl⟩
            go_wp2_with fail
            obtain ⟨w9, hw9⟩ : ∃ x, wh4.alloc (Obj.cells #[.bool false, .bool true, .bool true, .bool false, .bool false] 40) = x := ⟨_, rfl⟩
            rw [hw9, hB16] at H16
            rw [hw9] at K16
            have K9 : Kp wq w9 none := KQ.out.trans K16
            have HC9 := Lib.hid (HCQ.out.keep K9)
            have HK9 : Hid (Kp w7 w9 (some Bn)) := Lib.hid (HKQ.out.trans (K9.weak _))
            have hBB : Bn < B16 := Nat.lt_of_lt_of_le (Nat.lt_of_lt_of_le hB7 (HKQ.out.trans (KQ.out.weak _)).size) (by omega)
            have HB16 : Hid (∀ V, Kp w9 V (some Bn) → ∀ k, k < 5 → V.cell? ⟨B16, k, none⟩ = some (.bool (F k x y))) := Lib.hid fun V kV k hk => by
              rw [World.grownBy.cell_far kV ⟨B16, k, none⟩ (cell_lt (H16 k hk)) (by intro e; injection e with e; simp at e; omega)]
              exact H16 k hk
            rw [hw9]
            clear H16 K16 K9 hw9 HT H0 H1 H2 H3 H4 HLQ KQ hB16
            go_loopw [17] (fun vk wr => ∃ k : Nat, k ≤ 5 ∧ vk = .int .i64 k ∧ Cnt wr Bn (rowOf F (15 * i + j) k) ∧ Kp w9 wr (some Bn)) (fun vk _ => 5 - (intOf vk).toNat)
            case atStart => exact ⟨0, Nat.zero_le _, rfl, HC9.out, Kp.refl _ _⟩
            case round =>
              obtain ⟨wv, hwv⟩ : ∃ x, x = wr := ⟨_, rfl⟩
              subst hwv
              obtain ⟨k, hk, rfl, hcn, hK⟩ := hrel
              have HCN := Lib.hid hcn
              have HKV := Lib.hid hK
              clear hcn hK
              have hk0 : (0 : Int) ≤ (k : Int) := Int.natCast_nonneg _
              by_cases hlk : k < 5
              · have hk1 : (k : Int) < 5 := by omega
                obtain ⟨tb, htb⟩ : ∃ t, F k x y = t := ⟨_, rfl⟩
                have d0 := HB16.out wv HKV.out k hlk
                rw [htb] at d0
                cases tb with
                | false =>
                  have HREL : Hid (Cnt wv Bn (rowOf F (15 * i + j) (k + 1))) := Lib.hid (by rw [rowOf_no F hit hjt hlk (by rw [← HXE.out, ← HYE.out]; exact htb)]; exact HCN.out)
                  clear htb
                  go_wp2_with fail
                  go_roundw
                  case rel => exact ⟨k + 1, by omega, by simp, HREL.out, HKV.out⟩
                  case measure => simp [intOf]; omega
                | true =>
                  have hcl := cnt_le F (15 * i + j) k
                  have d1 := HCN.out.cell (k := k) (by rw [rowOf_len]; exact hlk)
                  rw [rowOf_get F _ k k hlk, if_neg (Nat.lt_irrefl k)] at d1
                  have d2 := HCN.out.frozen k
                  have ST := HCN.out.stored k (cnt F (15 * i + j) k + 1)
                  rw [rowOf_yes F hit hjt hlk (by rw [← HXE.out, ← HYE.out]; exact htb)] at ST
                  obtain ⟨cn, hcn⟩ : ∃ c, cnt F (15 * i + j) k = c := ⟨_, rfl⟩
                  rw [hcn] at d1 ST hcl
                  have HST : Hid (Cnt (wv.setCell ⟨Bn, k, none⟩ (.int .i64 ((cn : Int) + 1))) Bn (rowOf F (15 * i + j) (k + 1)) ∧ wv.grownBy (wv.setCell ⟨Bn, k, none⟩ (.int .i64 ((cn : Int) + 1))) (some Bn)) := Lib.hid (by simpa using ST)
                  have hcn0 : (0 : Int) ≤ (cn : Int) := Int.natCast_nonneg _
                  have hcn1 : (cn : Int) ≤ 225 := by omega
                  clear htb ST hcn hcl
                  go_wp2_with fail
                  go_roundw
                  case rel => exact ⟨k + 1, by omega, by simp, HST.out.1, HKV.out.trans HST.out.2⟩
                  case measure => simp [intOf]; omega
              · have hk1 : ¬ (k : Int) < 5 := by omega
                have hk5 : k = 5 := by omega
                subst hk5
                have HREL : Hid (Cnt wv Bn (rowOf F (15 * i + (j + 1)) 0)) := Lib.hid (by rw [← Nat.add_assoc, ← rowOf_next]; exact HCN.out)
                have HKR := Lib.hid (HK9.out.trans HKV.out)
                go_wp2_with fail
                go_roundw
                case rel => exact ⟨j + 1, y + 1, by omega, by first | rfl | simp, by have := HYE.out; omega, HREL.out, HKR.out⟩
                case measure => simp [intOf]; omega
          · have H16 := bools_at wh4 true false true true false (fun k => F k x y) HT.out
            have K16 : Kp wh4 (wh4.alloc (Obj.cells #[.bool true, .bool false, .bool true, .bool true, .bool false] 40)) none := Kp.alloc (Kp.refl _ _) _
            obtain ⟨B16, hB16⟩ : ∃ B, wh4.heap.size = B := ⟨_, rfl⟩
            go_wp2_with fail
            obtain ⟨w9, hw9⟩ : ∃ x, wh4.alloc (Obj.cells #[.bool true, .bool false, .bool true, .bool true, .bool false] 40) = x := ⟨_, rfl⟩
            rw [hw9, hB16] at H16
            rw [hw9] at K16
            have K9 : Kp wq w9 none := KQ.out.trans K16
            have HC9 := Lib.hid (HCQ.out.keep K9)
            have HK9 : Hid (Kp w7 w9 (some Bn)) := Lib.hid (HKQ.out.trans (K9.weak _))
            have hBB : Bn < B16 := Nat.lt_of_lt_of_le (Nat.lt_of_lt_of_le hB7 (HKQ.out.trans (KQ.out.weak _)).size) (by omega)
            have HB16 : Hid (∀ V, Kp w9 V (some Bn) → ∀ k, k < 5 → V.cell? ⟨B16, k, none⟩ = some (.bool (F k x y))) := Lib.hid fun V kV k hk => by
              rw [World.grownBy.cell_far kV ⟨B16, k, none⟩ (cell_lt (H16 k hk)) (by intro e; injection e with e; simp at e; omega)]
              exact H16 k hk
            rw [hw9]
            clear H16 K16 K9 hw9 HT H0 H1 H2 H3 H4 HLQ KQ hB16
            go_loopw [17] (fun vk wr => ∃ k : Nat, k ≤ 5 ∧ vk = .int .i64 k ∧ Cnt wr Bn (rowOf F (15 * i + j) k) ∧ Kp w9 wr (some Bn)) (fun vk _ => 5 - (intOf vk).toNat)
            case atStart => exact ⟨0, Nat.zero_le _, rfl, HC9.out, Kp.refl _ _⟩
            case round =>
              obtain ⟨wv, hwv⟩ : ∃ x, x = wr := ⟨_, rfl⟩
              subst hwv
              obtain ⟨k, hk, rfl, hcn, hK⟩ := hrel
              have HCN := Lib.hid hcn
              have HKV := Lib.hid hK
              clear hcn hK
              have hk0 : (0 : Int) ≤ (k : Int) := Int.natCast_nonneg _
              by_cases hlk : k < 5
              · have hk1 : (k : Int) < 5 := by omega
                obtain ⟨tb, htb⟩ : ∃ t, F k x y = t := ⟨_, rfl⟩
                have d0 := HB16.out wv HKV.out k hlk
                rw [htb] at d0
                cases tb with
                | false =>
                  have HREL : Hid (Cnt wv Bn (rowOf F (15 * i + j) (k + 1))) := Lib.hid (by rw [rowOf_no F hit hjt hlk (by rw [← HXE.out, ← HYE.out]; exact htb)]; exact HCN.out)
                  clear htb
                  go_wp2_with fail
                  go_roundw
                  case rel => exact ⟨k + 1, by omega, by simp, HREL.out, HKV.out⟩
                  case measure => simp [intOf]; omega
                | true =>
                  have hcl := cnt_le F (15 * i + j) k
                  have d1 := HCN.out.cell (k := k) (by rw [rowOf_len]; exact hlk)
                  rw [rowOf_get F _ k k hlk, if_neg (Nat.lt_irrefl k)] at d1
                  have d2 := HCN.out.frozen k
                  have ST := HCN.out.stored k (cnt F (15 * i + j) k + 1)
                  rw [rowOf_yes F hit hjt hlk (by rw [← HXE.out, ← HYE.out]; exact htb)] at ST
                  obtain ⟨cn, hcn⟩ : ∃ c, cnt F (15 * i + j) k = c := ⟨_, rfl⟩
                  rw [hcn] at d1 ST hcl
                  have HST : Hid (Cnt (wv.setCell ⟨Bn, k, none⟩ (.int .i64 ((cn : Int) + 1))) Bn (rowOf F (15 * i + j) (k + 1)) ∧ wv.grownBy (wv.setCell ⟨Bn, k, none⟩ (.int .i64 ((cn : Int) + 1))) (some Bn)) := Lib.hid (by simpa using ST)
                  have hcn0 : (0 : Int) ≤ (cn : Int) := Int.natCast_nonneg _
                  have hcn1 : (cn : Int) ≤ 225 := by omega
                  clear htb ST hcn hcl
                  go_wp2_with fail
                  go_roundw
                  case rel => exact ⟨k + 1, by omega, by simp, HST.out.1, HKV.out.trans HST.out.2⟩
                  case measure => simp [intOf]; omega
              · have hk1 : ¬ (k : Int) < 5 := by omega
                have hk5 : k = 5 := by omega
                subst hk5
                have HREL : Hid (Cnt wv Bn (rowOf F (15 * i + (j + 1)) 0)) := Lib.hid (by rw [← Nat.add_assoc, ← rowOf_next]; exact HCN.out)
                have HKR := Lib.hid (HK9.out.trans HKV.out)
                go_wp2_with fail
                go_roundw
                case rel => exact ⟨j + 1, y + 1, by omega, by first | rfl | simp, by have := HYE.out; omega, HREL.out, HKR.out⟩
                case measure => simp [intOf]; omega
          · have H16 := bools_at wh4 true true true false true (fun k => F k x y) HT.out
            have K16 : Kp wh4 (wh4.alloc (Obj.cells #[.bool true, .bool true, .bool true, .bool false, .bool true] 40)) none := Kp.alloc (Kp.refl _ _) _
            obtain ⟨B16, hB16⟩ : ∃ B, wh4.heap.size = B := ⟨_, rfl⟩
            go_wp2_with fail
            obtain ⟨w9, hw9⟩ : ∃ x, wh4.alloc (Obj.cells #[.bool true, .bool true, .bool true, .bool false, .bool true] 40) = x := ⟨_, rfl⟩
            rw [hw9, hB16] at H16
            rw [hw9] at K16
            have K9 : Kp wq w9 none := KQ.out.trans K16
            have HC9 := Lib.hid (HCQ.out.keep K9)
            have HK9 : Hid (Kp w7 w9 (some Bn)) := Lib.hid (HKQ.out.trans (K9.weak _))
            have hBB : Bn < B16 := Nat.lt_of_lt_of_le (Nat.lt_of_lt_of_le hB7 (HKQ.out.trans (KQ.out.weak _)).size) (by omega)
            have HB16 : Hid (∀ V, Kp w9 V (some Bn) → ∀ k, k < 5 → V.cell? ⟨B16, k, none⟩ = some (.bool (F k x y))) := Lib.hid fun V kV k hk => by
              rw [World.grownBy.cell_far kV ⟨B16, k, none⟩ (cell_lt (H16 k hk)) (by intro e; injection e with e; simp at e; omega)]
              exact H16 k hk
            rw [hw9]
            clear H16 K16 K9 hw9 HT H0 H1 H2 H3 H4 HLQ KQ hB16
            go_loopw [17] (fun vk wr => ∃ k : Nat, k ≤ 5 ∧ vk = .int .i64 k ∧ Cnt wr Bn (rowOf F (15 * i + j) k) ∧ Kp w9 wr (some Bn)) (fun vk _ => 5 - (intOf vk).toNat)
            case atStart => exact ⟨0, Nat.zero_le _, rfl, HC9.out, Kp.refl _ _⟩
            case round =>
              obtain ⟨wv, hwv⟩ : ∃ x, x = wr := ⟨_, rfl⟩
              subst hwv
              obtain ⟨k, hk, rfl, hcn, hK⟩ := hrel
              have HCN := Lib.hid hcn
              have HKV := Lib.hid hK
              clear hcn hK
              have hk0 : (0 : Int) ≤ (k : Int) := Int.natCast_nonneg _
              by_cases hlk : k < 5
              · have hk1 : (k : Int) < 5 := by omega
                obtain ⟨tb, htb⟩ : ∃ t, F k x y = t := ⟨_, rfl⟩
                have d0 := HB16.out wv HKV.out k hlk
                rw [htb] at d0
                cases tb with
                | false =>
                  have HREL : Hid (Cnt wv Bn (rowOf F (15 * i + j) (k + 1))) := Lib.hid (by rw [rowOf_no F hit hjt hlk (by rw [← HXE.out, ← HYE.out]; exact htb)]; exact HCN.out)
                  clear htb
                  go_wp2_with fail
                  go_roundw
                  case rel => exact ⟨k + 1, by omega, by simp, HREL.out, HKV.out⟩
                  case measure => simp [intOf]; omega
                | true =>
                  have hcl := cnt_le F (15 * i + j) k
                  have d1 := HCN.out.cell (k := k) (by rw [rowOf_len]; exact hlk)
                  rw [rowOf_get F _ k k hlk, if_neg (Nat.lt_irrefl k)] at d1
                  have d2 := HCN.out.frozen k
                  have ST := HCN.out.stored k (cnt F (15 * i + j) k + 1)
                  rw [rowOf_yes F hit hjt hlk (by rw [← HXE.out, ← HYE.out]; exact htb)] at ST
                  obtain ⟨cn, hcn⟩ : ∃ c, cnt F (15 * i + j) k = c := ⟨_, rfl⟩
                  rw [hcn] at d1 ST hcl
                  have HST : Hid (Cnt (wv.setCell ⟨Bn, k, none⟩ (.int .i64 ((cn : Int) + 1))) Bn (rowOf F (15 * i + j) (k + 1)) ∧ wv.grownBy (wv.setCell ⟨Bn, k, none⟩ (.int .i64 ((cn : Int) + 1))) (some Bn)) := Lib.hid (by simpa using ST)
                  have hcn0 : (0 : Int) ≤ (cn : Int) := Int.natCast_nonneg _
                  have hcn1 : (cn : Int) ≤ 225 := by omega
                  clear htb ST hcn hcl
                  go_wp2_with fail
                  go_roundw
                  case rel => exact ⟨k + 1, by omega, by simp, HST.out.1, HKV.out.trans HST.out.2⟩
                  case measure => simp [intOf]; omega
              · have hk1 : ¬ (k : Int) < 5 := by omega
                have hk5 : k = 5 := by omega
                subst hk5
                have HREL : Hid (Cnt wv Bn (rowOf F (15 * i + (j + 1)) 0)) := Lib.hid (by rw [← Nat.add_assoc, ← rowOf_next]; exact HCN.out)
                have HKR := Lib.hid (HK9.out.trans HKV.out)
                go_wp2_with fail
                go_roundw
                case rel => exact ⟨j + 1, y + 1, by omega, by first | rfl | simp, by have := HYE.out; omega, HREL.out, HKR.out⟩
                case measure => simp [intOf]; omega
        · have hy1 : ¬ y < 14 := by omega
          clear hy
          have e : 15 * i + j = 15 * (i + 1) := by omega
          have HREL : Hid (Cnt wq Bn (rowOf F (15 * (i + 1)) 0)) := Lib.hid (by rw [← e]; exact HCQ.out)
          clear e
          go_wp2_with fail
          go_roundw
          case rel => exact ⟨i + 1, x + 1, by omega, by first | rfl | simp, by have := HXE.out; omega, HREL.out, HKQ.out⟩
          case measure => simp [intOf]; omega
    · have hx1 : ¬ x < 14 := by omega
      clear hx
      have hi15 : i = 15 := by omega
      subst hi15
      have g0 := HCA.out.cell (k := 0) (by rw [rowOf_len]; decide)
      have g1 := HCA.out.cell (k := 1) (by rw [rowOf_len]; decide)
      have g2 := HCA.out.cell (k := 2) (by rw [rowOf_len]; decide)
      have g3 := HCA.out.cell (k := 3) (by rw [rowOf_len]; decide)
      have g4 := HCA.out.cell (k := 4) (by rw [rowOf_len]; decide)
      rw [rowOf_get F _ 0 0 (by decide), if_neg (by decide), cnt_all, ← hF] at g0
      rw [rowOf_get F _ 0 1 (by decide), if_neg (by decide), cnt_all, ← hF] at g1
      rw [rowOf_get F _ 0 2 (by decide), if_neg (by decide), cnt_all, ← hF] at g2
      rw [rowOf_get F _ 0 3 (by decide), if_neg (by decide), cnt_all, ← hF] at g3
      rw [rowOf_get F _ 0 4 (by decide), if_neg (by decide), cnt_all, ← hF] at g4
      obtain ⟨a0, a1, a2, a3, a4⟩ := HCO.out
      obtain ⟨l0, l1, l2, l3, l4⟩ := HLS.out wa HKA.out
      obtain ⟨c0, hc0⟩ : ∃ c, Rc.areaOf (Rc.norm a) = c := ⟨_, rfl⟩
      obtain ⟨c1, hc1⟩ : ∃ c, Rc.areaOf (Rc.norm b) = c := ⟨_, rfl⟩
      obtain ⟨c2, hc2⟩ : ∃ c, Rc.areaOf (Rc.norm (Rc.comb Rc.kJoin a b)) = c := ⟨_, rfl⟩
      obtain ⟨c3, hc3⟩ : ∃ c, Rc.areaOf (Rc.norm (Rc.comb Rc.kLess a b)) = c := ⟨_, rfl⟩
      obtain ⟨c4, hc4⟩ : ∃ c, Rc.areaOf (Rc.norm (Rc.comb Rc.kMeet a b)) = c := ⟨_, rfl⟩
      have b0 : wa.cell? ⟨Bn, 0, none⟩ = some (.int .i64 c0) := by rw [g0, ← hc0, ← a0]; rfl
      have b1 : wa.cell? ⟨Bn, 1, none⟩ = some (.int .i64 c1) := by rw [g1, ← hc1, ← a1]; rfl
      have b2 : wa.cell? ⟨Bn, 2, none⟩ = some (.int .i64 c2) := by rw [g2, ← hc2, ← a2]; rfl
      have b3 : wa.cell? ⟨Bn, 3, none⟩ = some (.int .i64 c3) := by rw [g3, ← hc3, ← a3]; rfl
      have b4 : wa.cell? ⟨Bn, 4, none⟩ = some (.int .i64 c4) := by rw [g4, ← hc4, ← a4]; rfl
      have hBa := lt_of_block HCA.out
      have CC : Hid (∀ V, Kp wa V none → V.cell? ⟨Bn, 0, none⟩ = some (.int .i64 c0) ∧ V.cell? ⟨Bn, 1, none⟩ = some (.int .i64 c1) ∧ V.cell? ⟨Bn, 2, none⟩ = some (.int .i64 c2) ∧ V.cell? ⟨Bn, 3, none⟩ = some (.int .i64 c3) ∧ V.cell? ⟨Bn, 4, none⟩ = some (.int .i64 c4)) := Lib.hid fun V k => ⟨(k.below.cell (p := ⟨Bn, 0, none⟩) hBa).trans b0, (k.below.cell (p := ⟨Bn, 1, none⟩) hBa).trans b1, (k.below.cell (p := ⟨Bn, 2, none⟩) hBa).trans b2, (k.below.cell (p := ⟨Bn, 3, none⟩) hBa).trans b3, (k.below.cell (p := ⟨Bn, 4, none⟩) hBa).trans b4⟩
      have CA0 : Hid (∀ V, Kp wa V none → Calls Try.prog 17 #[z0] V fun E w' => E = .returned (.int .i64 c0) ∧ Kp V w' none) := Lib.hid fun V k => by
        have := areaP_any z0 _ V (l0.keep k) (by omega); rw [hc0] at this; exact this
      have CA1 : Hid (∀ V, Kp wa V none → Calls Try.prog 17 #[z1] V fun E w' => E = .returned (.int .i64 c1) ∧ Kp V w' none) := Lib.hid fun V k => by
        have := areaP_any z1 _ V (l1.keep k) (by omega); rw [hc1] at this; exact this
      have CA2 : Hid (∀ V, Kp wa V none → Calls Try.prog 17 #[z2] V fun E w' => E = .returned (.int .i64 c2) ∧ Kp V w' none) := Lib.hid fun V k => by
        have := areaP_any z2 _ V (l2.keep k) (by omega); rw [hc2] at this; exact this
      have CA3 : Hid (∀ V, Kp wa V none → Calls Try.prog 17 #[z3] V fun E w' => E = .returned (.int .i64 c3) ∧ Kp V w' none) := Lib.hid fun V k => by
        have := areaP_any z3 _ V (l3.keep k) (by omega); rw [hc3] at this; exact this
      have CA4 : Hid (∀ V, Kp wa V none → Calls Try.prog 17 #[z4] V fun E w' => E = .returned (.int .i64 c4) ∧ Kp V w' none) := Lib.hid fun V k => by
        have := areaP_any z4 _ V (l4.keep k) (by omega); rw [hc4] at this; exact this
      clear g0 g1 g2 g3 g4 a0 a1 a2 a3 a4 b0 b1 b2 b3 b4 l0 l1 l2 l3 l4 hc0 hc1 hc2 hc3 hc4
      have KZ := Lib.hid (KW.out wa HKA.out)
      go_wp2_with fail
      have KQ : Hid (Kp wa wa.drew none) := Lib.hid (Kp.refl wa none).drew
      refine wp_region_held_drew (S := fun V => V.cell? ⟨Bn, 0, none⟩ = some (.int .i64 c0) ∧ V.cell? ⟨Bn, 1, none⟩ = some (.int .i64 c1) ∧ V.cell? ⟨Bn, 2, none⟩ = some (.int .i64 c2) ∧ V.cell? ⟨Bn, 3, none⟩ = some (.int .i64 c3) ∧ V.cell? ⟨Bn, 4, none⟩ = some (.int .i64 c4)) (by kernel_rfl) ?_ (fun hHeld => ?_)
      · exact CC.out _ KQ.out
      refine wpAnyH_take (i := 0) (oi := _) (v := ?_) rfl (by kernel_rfl) (by kernel_rfl) (by kernel_rfl) (fun _ _ _ h => h) (Or.inl ⟨by rfl, ?_⟩) (by assumption) ?_
      rotate_left
      · (intro w hSw; (try dsimp only at hSw); go_simp <;> with_reducible rfl)
      try simp only [Act.put, List.getElem_toArray, List.getElem_cons_zero, List.setIfInBounds_toArray, List.set_cons_zero, List.set_cons_succ]
      refine wpAnyH_take (i := 1) (oi := _) (v := ?_) rfl (by kernel_rfl) (by kernel_rfl) (by kernel_rfl) (fun _ _ _ h => h) (Or.inl ⟨by rfl, ?_⟩) (by assumption) ?_
      rotate_left
      · (intro w hSw; (try dsimp only at hSw); go_simp <;> with_reducible rfl)
      try simp only [Act.put, List.getElem_toArray, List.getElem_cons_zero, List.getElem_cons_succ, List.setIfInBounds_toArray, List.set_cons_zero, List.set_cons_succ]
      refine wpAnyH_take (i := 2) (oi := _) (v := ?_) rfl (by kernel_rfl) (by kernel_rfl) (by kernel_rfl) (fun _ _ _ h => h) (Or.inl ⟨by rfl, ?_⟩) (by assumption) ?_
      rotate_left
      · (intro w hSw; (try dsimp only at hSw); go_simp <;> with_reducible rfl)
      try simp only [Act.put, List.getElem_toArray, List.getElem_cons_zero, List.getElem_cons_succ, List.setIfInBounds_toArray, List.set_cons_zero, List.set_cons_succ]
      refine wpAnyH_take (i := 3) (oi := _) (v := ?_) rfl (by kernel_rfl) (by kernel_rfl) (by kernel_rfl) (fun _ _ _ h => h) (Or.inl ⟨by rfl, ?_⟩) (by assumption) ?_
      rotate_left
      · (intro w hSw; (try dsimp only at hSw); go_simp <;> with_reducible rfl)
      try simp only [Act.put, List.getElem_toArray, List.getElem_cons_zero, List.getElem_cons_succ, List.setIfInBounds_toArray, List.set_cons_zero, List.set_cons_succ]
      refine wpAnyH_take (i := 5) (oi := _) (v := ?_) rfl (by kernel_rfl) (by kernel_rfl) (by kernel_rfl) (fun _ _ _ h => h) (Or.inl ⟨by rfl, ?_⟩) (by assumption) ?_
      rotate_left
      · (intro w hSw; (try dsimp only at hSw); go_simp <;> with_reducible rfl)
      try simp only [Act.put, List.getElem_toArray, List.getElem_cons_zero, List.getElem_cons_succ, List.setIfInBounds_toArray, List.set_cons_zero, List.set_cons_succ]
      refine wpAnyH_take (i := 7) (oi := _) (v := ?_) rfl (by kernel_rfl) (by kernel_rfl) (by kernel_rfl) (fun _ _ _ h => h) (Or.inl ⟨by rfl, ?_⟩) (by assumption) ?_
      rotate_left
      · (intro w hSw; (try dsimp only at hSw); go_simp <;> with_reducible rfl)
      try simp only [Act.put, List.getElem_toArray, List.getElem_cons_zero, List.getElem_cons_succ, List.setIfInBounds_toArray, List.set_cons_zero, List.set_cons_succ]
      refine wpAnyH_take (i := 9) (oi := _) (v := ?_) rfl (by kernel_rfl) (by kernel_rfl) (by kernel_rfl) (fun _ _ _ h => h) (Or.inl ⟨by rfl, ?_⟩) (by assumption) ?_
      rotate_left
      · (intro w hSw; (try dsimp only at hSw); go_simp <;> with_reducible rfl)
      try simp only [Act.put, List.getElem_toArray, List.getElem_cons_zero, List.getElem_cons_succ, List.setIfInBounds_toArray, List.set_cons_zero, List.set_cons_succ]
      refine wpAnyH_take (i := 11) (oi := _) (v := ?_) rfl (by kernel_rfl) (by kernel_rfl) (by kernel_rfl) (fun _ _ _ h => h) (Or.inl ⟨by rfl, ?_⟩) (by assumption) ?_
      rotate_left
      · (intro w hSw; (try dsimp only at hSw); go_simp <;> with_reducible rfl)
      try simp only [Act.put, List.getElem_toArray, List.getElem_cons_zero, List.getElem_cons_succ, List.setIfInBounds_toArray, List.set_cons_zero, List.set_cons_succ]
      refine wpAnyH_ready (rs := [4]) (by kernel_rfl) (by simp) ?_
      refine AllReadyH.cons (o := _) rfl (fun K hK => ?_) AllReadyH.nil
      clear hHeld
      go_simp
      refine (CA0.out _ KQ.out).mono ?_
      rintro E wb0 ⟨rfl, k⟩
      have KQ := Lib.hid (KQ.out.trans k)
      clear k
      try go_wp2_with fail
      refine hK.out _ _ (CC.out _ KQ.out) (fun hHeld => ?_)
      clear hK K
      try simp only [Act.put, List.getElem_toArray, List.getElem_cons_zero, List.getElem_cons_succ, List.setIfInBounds_toArray, List.set_cons_zero, List.set_cons_succ]
      refine wpAnyH_ready (rs := [6]) (by kernel_rfl) (by simp) ?_
      refine AllReadyH.cons (o := _) rfl (fun K hK => ?_) AllReadyH.nil
      clear hHeld
      go_simp
      refine (CA1.out _ KQ.out).mono ?_
      rintro E wb1 ⟨rfl, k⟩
      have KQ := Lib.hid (KQ.out.trans k)
      clear k
      try go_wp2_with fail
      refine hK.out _ _ (CC.out _ KQ.out) (fun hHeld => ?_)
      clear hK K
      try simp only [Act.put, List.getElem_toArray, List.getElem_cons_zero, List.getElem_cons_succ, List.setIfInBounds_toArray, List.set_cons_zero, List.set_cons_succ]
      refine wpAnyH_ready (rs := [8]) (by kernel_rfl) (by simp) ?_
      refine AllReadyH.cons (o := _) rfl (fun K hK => ?_) AllReadyH.nil
      clear hHeld
      go_simp
      refine (CA2.out _ KQ.out).mono ?_
      rintro E wb2 ⟨rfl, k⟩
      have KQ := Lib.hid (KQ.out.trans k)
      clear k
      try go_wp2_with fail
      refine hK.out _ _ (CC.out _ KQ.out) (fun hHeld => ?_)
      clear hK K
      try simp only [Act.put, List.getElem_toArray, List.getElem_cons_zero, List.getElem_cons_succ, List.setIfInBounds_toArray, List.set_cons_zero, List.set_cons_succ]
      refine wpAnyH_ready (rs := [10]) (by kernel_rfl) (by simp) ?_
      refine AllReadyH.cons (o := _) rfl (fun K hK => ?_) AllReadyH.nil
      clear hHeld
      go_simp
      refine (CA3.out _ KQ.out).mono ?_
      rintro E wb3 ⟨rfl, k⟩
      have KQ := Lib.hid (KQ.out.trans k)
      clear k
      try go_wp2_with fail
      refine hK.out _ _ (CC.out _ KQ.out) (fun hHeld => ?_)
      clear hK K
      try simp only [Act.put, List.getElem_toArray, List.getElem_cons_zero, List.getElem_cons_succ, List.setIfInBounds_toArray, List.set_cons_zero, List.set_cons_succ]
      refine wpAnyH_ready (rs := [12]) (by kernel_rfl) (by simp) ?_
      refine AllReadyH.cons (o := _) rfl (fun K hK => ?_) AllReadyH.nil
      clear hHeld
      go_simp
      refine (CA4.out _ KQ.out).mono ?_
      rintro E wb4 ⟨rfl, k⟩
      have KQ := Lib.hid (KQ.out.trans k)
      clear k
      try go_wp2_with fail
      refine hK.out _ _ (CC.out _ KQ.out) (fun hHeld => ?_)
      clear hK K
      try simp only [Act.put, List.getElem_toArray, List.getElem_cons_zero, List.getElem_cons_succ, List.setIfInBounds_toArray, List.set_cons_zero, List.set_cons_succ]
      refine wpAnyH_take (i := 13) (oi := _) (v := ?_) rfl (by kernel_rfl) (by kernel_rfl) (by kernel_rfl) (fun _ _ _ h => h) (Or.inl ⟨by rfl, ?_⟩) (by assumption) ?_
      rotate_left
      · (intro w hSw; (try dsimp only at hSw); go_simp <;> with_reducible rfl)
      try simp only [Act.put, List.getElem_toArray, List.getElem_cons_zero, List.getElem_cons_succ, List.setIfInBounds_toArray, List.set_cons_zero, List.set_cons_succ]
      refine wpAnyH_ready (rs := [14]) (by kernel_rfl) (by simp) ?_
      refine AllReadyH.cons (o := _) rfl (fun K hK => ?_) AllReadyH.nil
      clear hHeld
      go_simp
      simp only [eq_five, beq_self_eq_true, Bool.and_self, Result.andThen_ok]
      try go_wp2_with fail
      refine hK.out _ _ (CC.out _ KQ.out) (fun hHeld => ?_)
      clear hK K
      try simp only [Act.put, List.getElem_toArray, List.getElem_cons_zero, List.getElem_cons_succ, List.setIfInBounds_toArray, List.set_cons_zero, List.set_cons_succ]
      refine wpAnyH_take (i := 15) (oi := _) (v := ?_) rfl (by kernel_rfl) (by kernel_rfl) (by kernel_rfl) (fun _ _ _ h => h) (Or.inl ⟨by rfl, ?_⟩) (by assumption) ?_
      rotate_left
      · (intro w hSw; (try dsimp only at hSw); go_simp <;> with_reducible rfl)
      try simp only [Act.put, List.getElem_toArray, List.getElem_cons_zero, List.getElem_cons_succ, List.setIfInBounds_toArray, List.set_cons_zero, List.set_cons_succ]
      refine wpAnyH_ready (rs := [16]) (by kernel_rfl) (by simp) ?_
      refine AllReadyH.cons (o := _) rfl (fun K hK => ?_) AllReadyH.nil
      clear hHeld
      go_simp
      try go_wp2_with fail
      refine hK.out _ _ (CC.out _ KQ.out) (fun hHeld => ?_)
      clear hK K hHeld
      refine wpAnyH_done (by kernel_rfl) ?_ _
      go_wp2_with fail
      go_ret
      exact ⟨rfl, KZ.out.trans KQ.out⟩

end Go.Proofs.Ytpakiabnhdoijaa