/- The reference's Pieces (23). Condition: at most 2^16 rectangles, in the normal list too. -/
import Derived.Test.YtpakiabnhdoijaaPi
namespace Go.Proofs.Ytpakiabnhdoijaa
open Go.RowKit

def R1 (base : Nat) (w2 : World) (g0 g : Nat) (N : List Rc.Rect) (vo vi : Value) (wr : World) : Prop :=
  ∃ (i : Nat) (P : List Nat), i ≤ N.length ∧ vi = .int .i64 i ∧ OwnPlaces wr g0 g P ∧ Rc.Marked N P i ∧ OwnPieces wr base vo (Rc.piecesTo N i) ∧ Kp w2 wr (some g)
def R2 (w4 : World) (g0 g i : Nat) (N : List Rc.Rect) (vt vw : Value) (wq : World) : Prop :=
  ∃ (P ks ts : List Nat), Rc.BF N i P ks ts ∧ (∀ k ∈ ks, Rc.Seen N P k N.length) ∧ OwnsQ wq w4.heap.size vt ts ∧ wq.ownsRow w4.heap.size 44 4 vw ks.length ((Rc.pick N ks).flatMap recVal) ∧ vt.ownBlock ≠ vw.ownBlock ∧ OwnPlaces wq g0 g P ∧ Kp w4 wq (some g)
def R3 (w4 : World) (g0 g i k : Nat) (ks : List Nat) (N : List Rc.Rect) (vw vt vj : Value) (wz : World) : Prop :=
  ∃ (j : Nat) (P ts : List Nat), j ≤ N.length ∧ vj = .int .i64 j ∧ Rc.BF N i P (ks ++ [k]) ts ∧ (∀ k' ∈ ks, Rc.Seen N P k' N.length) ∧ Rc.Seen N P k j ∧ OwnsQ wz w4.heap.size vt ts ∧ wz.ownsRow w4.heap.size 44 4 vw (ks ++ [k]).length ((Rc.pick N (ks ++ [k])).flatMap recVal) ∧ vt.ownBlock ≠ vw.ownBlock ∧ OwnPlaces wz g0 g P ∧ Kp w4 wz (some g)

theorem touch_at (a b c d e f g h : Int) (t : Bool) (ht : touch ⟨a, b, c, d⟩ ⟨e, f, g, h⟩ = t) (w : World) : Calls Try.prog 42 #[.agg #[.int .i64 a, .int .i64 b, .int .i64 c, .int .i64 d], .agg #[.int .i64 e, .int .i64 f, .int .i64 g, .int .i64 h]] w fun E w' => E = .returned (.bool t) ∧ Kp w w' none := by
  subst ht
  exact touch_any _ _ w

set_option maxHeartbeats 8000000 in
set_option maxRecDepth 100000 in
theorem piecesR_any (v : Value) (a : List Rc.Rect) (w : World) (ha : IsRects w v a) (hl : a.length ≤ 65536) (hn : (Rc.norm a).length ≤ 65536) :
    Calls Try.prog 23 #[v] w fun E w' => ∃ u, E = .returned u ∧ IsPieces w' u (Rc.pieces a) ∧ Kp w w' none := by
  have C := normR_any v a w ha hl
  unfold Rc.pieces
  obtain ⟨N, hN⟩ : ∃ N, Rc.norm a = N := ⟨_, rfl⟩
  rw [hN] at C hn ⊢
  clear hN ha
  obtain ⟨fin, hfin⟩ : ∃ f, Rc.piecesTo N N.length = f := ⟨_, rfl⟩
  rw [hfin]
  have HFIN := Lib.hid hfin
  clear hfin
  obtain ⟨i0, hi, hz0, hz1, hz2⟩ := info_parts infoInt
  obtain ⟨i1, hi1, hy0, hy1, hy2⟩ := info_parts infoRect
  obtain ⟨i2, hi2, hx0, hx1, hx2⟩ := info_parts infoList
  have hn0 : (0 : Int) ≤ (N.length : Int) := Int.natCast_nonneg _
  go_enter Try.func23, Try.ntmps23
  go_wp2_with fail
  refine C.mono ?_
  rintro E w1 ⟨u, rfl, ho, k1⟩
  obtain ⟨ao, cap, rfl, fN⟩ := (isList_own (m := 4) (f := recVal) (fun _ => rfl) ho).form
  have K1 := Lib.hid k1
  have FN := Lib.hid fN
  clear ho k1 fN
  have hmb : i0.bytes * N.length ≤ 281474976710656 := by rw [hz2]; omega
  have hml : N.length ≤ maxLen := by unfold maxLen; omega
  go_wp2_with (at_make; go_must (refine wpList_make_full _ (by rfl) _ _ _ (by rfl) w1.heap.size 3 i0 _ 1 Try.underlying57 hi hz0 hz1 .i64 .i64 N.length N.length N.length (by rfl) (by rfl) rfl rfl hmb hml (Nat.le_refl _) ?_))
  intro w2 ho2 hg2
  obtain ⟨g, hgd⟩ : ∃ g, w1.heap.size = g := ⟨_, rfl⟩
  rw [hgd] at ho2 ⊢
  have OP := Lib.hid (OwnPlaces.made ho2)
  have hglt : g < w2.heap.size := (ho2.lt g rfl).2
  have K2 : Hid (Kp w1 w2 none) := Lib.hid hg2
  have NL : Hid (∀ V, Kp w2 V (some g) → LiesAt 4 recVal V ao cap N) := Lib.hid fun V kV i hi => by
    obtain ⟨b, off, e, hb, hc, hr⟩ := FN.out i hi
    have hb2 : b < w2.heap.size := Nat.lt_of_lt_of_le hb K2.out.size
    refine ⟨b, off, e, Nat.lt_of_lt_of_le hb2 kV.size, hc, fun j hj => ?_⟩
    rw [World.grownBy.cell_far kV ⟨b, off + i * 4 + j, none⟩ hb2 (by intro e; injection e with e; simp at e; omega), K2.out.below.cell (p := ⟨b, off + i * 4 + j, none⟩) hb]
    exact hr j hj
  have KW : Hid (∀ V, Kp w2 V (some g) → Kp w V none) := Lib.hid fun V kV => Kp.of_own (K1.out.trans K2.out) kV (by rw [← hgd]; exact K1.out.size)
  clear ho2 hg2 FN K1 K2 hgd
  go_wp2_with fail
  go_loopw [5, 6] (fun vo vi wr => R1 w2.heap.size w2 g g N vo vi wr) (fun _ vi _ => N.length - (intOf vi).toNat)
  case atStart => exact ⟨0, _, Nat.zero_le _, rfl, OP.out, Rc.Marked.start N, OwnPieces.empty _ _, Kp.refl _ _⟩
  case round =>
    clear OP
    obtain ⟨wa, hwa⟩ : ∃ x, x = wr := ⟨_, rfl⟩
    subst hwa
    obtain ⟨i, P, hi', rfl, hop, hma, hpc, hK⟩ := hrel
    have HOP := Lib.hid hop
    have HMA := Lib.hid hma
    have HPC := Lib.hid hpc
    have HK := Lib.hid hK
    have hPl := hma.1
    clear hop hma hpc hK
    have hk0 : (0 : Int) ≤ (i : Int) := Int.natCast_nonneg _
    by_cases hlt : i < N.length
    · have hk1 : (i : Int) < (N.length : Int) := by omega
      have hip : i < P.length := by omega
      obtain ⟨m, hm⟩ : ∃ m, P[i] = m := ⟨_, rfl⟩
      have c0 : wa.cell? ⟨g, i, none⟩ = some (.int .i64 (m : Int)) := by rw [← hm]; exact HOP.out.cell hip
      have hm0 : (0 : Int) ≤ (m : Int) := Int.natCast_nonneg _
      by_cases hmz : m = 0
      · subst hmz
        have HR : Hid (Rc.IsRoot N i) := Lib.hid ((HMA.out.notRoot hip).2 hm)
        obtain ⟨us, hpc⟩ := HPC.out
        obtain ⟨bo, oc, rfl⟩ := own_shape hpc.own
        have hus : us.length ≤ 65536 := by have := Rc.piecesTo_len N i; have := hpc.len; omega
        have HPA := Lib.hid hpc
        clear hpc HPC
        have f0 := HOP.out.frozen i
        have hus0 : (0 : Int) ≤ (us.length : Int) := Int.natCast_nonneg _
        have HST : Hid (OwnPlaces (wa.setCell ⟨g, i, none⟩ (.int .i64 (us.length + 1))) g g (P.set i (us.length + 1)) ∧ wa.grownBy (wa.setCell ⟨g, i, none⟩ (.int .i64 (us.length + 1))) (some g)) := Lib.hid (HOP.out.stored i (us.length + 1))
        have HBF := Lib.hid (Rc.BF.begin HMA.out hip (c := us.length + 1) (by omega))
        have hgr := HOP.out.lt g rfl
        have hbz : w2.heap.size ≤ wa.heap.size := HK.out.size
        go_wp2_with fail
        obtain ⟨w5, hw5⟩ : ∃ w5, (wa.setCell ⟨g, i, none⟩ (.int .i64 (us.length + 1))).alloc (Obj.cells #[.int .i64 i] 3) = w5 := ⟨_, rfl⟩
        have K5 : Hid (Kp wa w5 (some g)) := Lib.hid (by rw [← hw5]; exact Kp.alloc HST.out.2 _)
        have HQ5 : Hid (OwnsQ w5 wa.heap.size (.slice (some ⟨wa.heap.size, 0, none⟩) 1 1) [i]) := Lib.hid (by
          have := OwnsQ.one (w := wa.setCell ⟨g, i, none⟩ (.int .i64 (us.length + 1))) (base := wa.heap.size) (by simp) i
          rw [← hw5]; simpa [placeVal] using this)
        have HP5 : Hid (OwnPlaces w5 g g (P.set i (us.length + 1))) := Lib.hid (by rw [← hw5]; exact HST.out.1.keep (Kp.alloc (Kp.refl _ _) _))
        rw [hw5]
        go_loopw [7, 8] (fun vt vw wq => R2 wa g g i N vt vw wq) (fun _ vw _ => N.length - lenOf vw)
        case atStart => exact ⟨_, [], [i], HBF.out, fun _ h => (by cases h), HQ5.out, World.ownsRow_nil _ _ _ _, by simp [Value.ownBlock], HP5.out, K5.out⟩
        case round =>
          clear HBF HQ5 HP5 K5 hw5 HST c0 f0
          obtain ⟨wq, hwq⟩ : ∃ x, x = wr := ⟨_, rfl⟩
          subst hwq
          obtain ⟨P2, ks, ts, hbf, hseen, hq, hown, hne, hop2, hk2⟩ := hrel
          have hfew := hbf.few
          have HBF := Lib.hid hbf
          have HSE := Lib.hid hseen
          have HQ := Lib.hid hq
          have HOW := Lib.hid hown
          have HNE := Lib.hid hne
          have HOP2 := Lib.hid hop2
          have HK2 := Lib.hid hk2
          clear hbf hseen hq hown hne hop2 hk2
          obtain ⟨gq, offq, capq, rfl, hgq1, hgq2, hcq, hqc⟩ := HQ.out.form
          cases ts with
          | nil =>
            clear hqc
            have HEN := Lib.hid (HBF.out.ended HR.out HSE.out)
            have HPQ := Lib.hid (HPA.out.keepRow HK2.out hglt)
            have C2 := normR_any u8 (Rc.pick N ks) wq (isList_own (m := 4) (f := recVal) (fun _ => rfl) (by rw [Rc.pick_len]; exact HOW.out)) (by rw [Rc.pick_len]; simp at hfew; omega)
            rw [Rc.norm_pick (by simpa using HBF.out.nd) HEN.out.1] at C2
            have hyes := Lib.hid (Rc.piecesTo_yes HR.out)
            obtain ⟨q, hqq⟩ : ∃ q, Rc.norm (Rc.compOf N i) = q := ⟨_, rfl⟩
            rw [hqq] at C2 hyes
            clear hqq
            go_wp2_with fail
            refine C2.mono ?_
            rintro E w6 ⟨u, rfl, ho6, k6⟩
            have hbq : w2.heap.size ≤ wq.heap.size := Nat.le_trans hbz HK2.out.size
            obtain ⟨ao6, cap6, rfl, hb6, f6⟩ := piece_new HPQ.out hbq ho6
            have HB6 := Lib.hid hb6
            have HF6 := Lib.hid f6
            have K6 : Hid (Kp w2 w6 (some g)) := Lib.hid ((HK.out.trans HK2.out).trans (k6.weak _))
            have HP6 := Lib.hid (HPQ.out.keep k6)
            have HO6 := Lib.hid (HOP2.out.keep k6)
            have hb6z : w2.heap.size ≤ w6.heap.size := K6.out.size
            clear ho6 hb6 f6 k6
            go_wp2_with (at_builtin; go_must (refine wpList_app (f := slVal) (by rfl) _ _ w2.heap.size 34 22 (by rfl) i2 _ 1 24 Try.underlying34 hi2 hx0 hx1 hx2 rfl (by omega) (fun _ => rfl) sl_one (.slice bo us.length oc) us.length (us.flatMap slVal) (by rfl) (HP6.out.own.alloc _) (.slice (some ⟨w6.heap.size, 0, none⟩) 1 1) [⟨ao6, q.length, cap6⟩] (by rfl) (sls_at w6 _ _ _ _ rfl) (by unfold maxLen; simp <;> omega) (by simp <;> omega) (by simp <;> omega) ?_))
            intro v7 w7 ho7 hg7 hb7
            have hA : Kp w6 (w6.alloc (Obj.cells #[.slice ao6 q.length cap6] 22)) none := Kp.alloc (Kp.refl _ _) _
            have HREL : Hid (R1 w2.heap.size w2 g g N v7 (.int .i64 ((i : Int) + 1)) w7) := Lib.hid ⟨i + 1, P2, by omega, by simp, by
              refine World.ownsRow.kept (HO6.out.keep hA) hg7 (.inr ?_)
              intro e
              have := (HP6.out.own.lt g e.symm).1
              omega, HEN.out.2, by rw [hyes.out]; exact (HP6.out.keep hA).app rfl HB6.out (HF6.out.keep (hA.weak _)) ho7 hg7 (by simpa using hb7), Kp.row (K6.out.trans (hA.weak _)) hg7 (fun j hj => (HP6.out.own.lt j hj).1)⟩
            clear ho7 hg7 hb7 hA
            go_wp2_with fail
            go_roundw
            case rel => exact HREL.out
            case measure => simp [intOf]; omega
          | cons k ts =>
            have hkN : k < N.length := (HBF.out.mem k (by simp)).lt.2
            have HQT := Lib.hid HQ.out
            have c1 : wq.cell? ⟨gq, offq, none⟩ = some (.int .i64 (k : Int)) := hqc 0 (by simp)
            clear hqc
            obtain ⟨b, off, hao, hNc, hbN, r0, r1, r2, r3⟩ := (NL.out wq (HK.out.trans HK2.out)).rect hkN
            subst hao
            obtain ⟨r, hr⟩ : ∃ r, N[k] = r := ⟨_, rfl⟩
            rw [hr] at r0 r1 r2 r3
            obtain ⟨x0, y0, x1, y1⟩ := r
            simp only [] at r0 r1 r2 r3
            have HRK := Lib.hid hr
            clear hr
            simp only [List.length_cons] at hcq hfew HQT ⊢
            have hts0 : (0 : Int) ≤ (ts.length : Int) := Int.natCast_nonneg _
            have hk0' : (0 : Int) ≤ (k : Int) := Int.natCast_nonneg _
            have hk1' : (k : Int) < (N.length : Int) := by omega
            have how63 : ks.length + 1 ≤ maxLen := by unfold maxLen; omega
            have hwz : wa.heap.size ≤ wq.heap.size := HK2.out.size
            by_cases hcap : capq = 1
            · subst hcap
              have htz : ts = [] := List.length_eq_zero_iff.1 (by omega)
              subst htz
              simp only [List.length_nil] at hts0 hcq hfew HQT ⊢
              have HQN := Lib.hid HQT.out.tail0
              clear HQT HQ
              go_wp2_with (at_builtin; go_must (refine wpList_app (f := recVal) (by rfl) _ _ wa.heap.size 22 44 (by rfl) i1 _ 4 32 Try.underlying22 hi1 hy0 hy1 hy2 rfl (by omega) (fun _ => rfl) rec_one u8 ks.length ((Rc.pick N ks).flatMap recVal) (by rfl) (HOW.out.alloc _) (.slice (some ⟨wq.heap.size, 0, none⟩) 1 1) [⟨x0, y0, x1, y1⟩] (by rfl) (rects_one wq x0 y0 x1 y1) (by simpa using how63) (by simp <;> omega) (by simp <;> omega) ?_))
              intro v8 w8 ho8 hg8 hb8
              have HK8 : Hid (Kp wa w8 (some g)) := Lib.hid (Kp.row (HK2.out.alloc _) hg8 (fun j hj => (HOW.out.lt j hj).1))
              have HO8 : Hid (w8.ownsRow wa.heap.size 44 4 v8 (ks ++ [k]).length ((Rc.pick N (ks ++ [k])).flatMap recVal)) := Lib.hid (by
                rw [Rc.pick_snoc N ks k hkN, HRK.out, List.flatMap_append, List.length_append]
                simpa using ho8)
              have hA : Kp wq (wq.alloc (Obj.cells #[.int .i64 x0, .int .i64 y0, .int .i64 x1, .int .i64 y1] 44)) none := Kp.alloc (Kp.refl _ _) _
              have hug : u8.ownBlock ≠ some g := by
                intro e
                have := (HOW.out.lt g e).1
                omega
              have HQ8 : Hid (OwnsQ w8 wa.heap.size (.slice (some ⟨gq, offq, none⟩) 0 0) []) := Lib.hid ((HQN.out.keep hA (by simp [Value.ownBlock])).keep hg8 HNE.out)
              have HP8 : Hid (OwnPlaces w8 g g P2) := Lib.hid (World.ownsRow.kept (HOP2.out.keep hA) hg8 (.inr (Ne.symm hug)))
              have HN8 : Hid (v8.ownBlock ≠ some gq) := Lib.hid (by
                intro e
                rcases hb8 with h | h
                · exact HNE.out (e.symm.trans h)
                · rw [e] at h; injection h with h; omega)
              have HBF8 := Lib.hid HBF.out.take
              have hlv : lenOf v8 = ks.length + 1 := by obtain ⟨_, _, e⟩ := own_shape HO8.out; rw [e]; simp [lenOf]
              have hlu : lenOf u8 = ks.length := by obtain ⟨_, _, e⟩ := own_shape HOW.out; rw [e]; simp [lenOf]
              have HM : Hid (N.length - lenOf v8 < N.length - lenOf u8) := Lib.hid (by omega)
              clear ho8 hg8 hb8 hA hlv hlu hug HQN HOP2 HNE HBF HK2 HOW c1 r0 r1 r2 r3
              go_wp2_with fail
              go_loopw [7, 10] (fun vt vj wz => R3 wa g g i k ks N v8 vt vj wz) (fun _ vj _ => N.length - (intOf vj).toNat)
              case atStart => exact ⟨0, P2, [], Nat.zero_le _, rfl, HBF8.out, HSE.out, Rc.Seen.zero _ _ _, HQ8.out, HO8.out, by intro e; exact HN8.out e.symm, HP8.out, HK8.out⟩
              case round =>
                clear HBF8 HSE HQ8 HO8 HN8 HP8 HK8
                obtain ⟨wz, hwz'⟩ : ∃ x, x = wr := ⟨_, rfl⟩
                subst hwz'
                obtain ⟨j, P3, ts3, hj, rfl, hbf, hse, hsn, hq, hown, hne, hop, hk3⟩ := hrel
                have HBF := Lib.hid hbf
                have HSE := Lib.hid hse
                have HSN := Lib.hid hsn
                have HQ := Lib.hid hq
                have HOW := Lib.hid hown
                have HNE := Lib.hid hne
                have HOP := Lib.hid hop
                have HK3 := Lib.hid hk3
                have hfew3 := hbf.few
                have hP3 := hbf.len
                clear hbf hse hsn hq hown hne hop hk3
                have hj0 : (0 : Int) ≤ (j : Int) := Int.natCast_nonneg _
                by_cases hjl : j < N.length
                · have hj1 : (j : Int) < (N.length : Int) := by omega
                  have hjp : j < P3.length := by omega
                  obtain ⟨m3, hm3⟩ : ∃ m, P3[j] = m := ⟨_, rfl⟩
                  have c3 : wz.cell? ⟨g, j, none⟩ = some (.int .i64 (m3 : Int)) := by rw [← hm3]; exact HOP.out.cell hjp
                  have hm30 : (0 : Int) ≤ (m3 : Int) := Int.natCast_nonneg _
                  by_cases hmz3 : m3 = 0
                  · subst hmz3
                    obtain ⟨b', off', hao', _, hbz', q0, q1, q2, q3⟩ := (NL.out wz (HK.out.trans HK3.out)).rect hkN
                    injection hao' with hao'
                    injection hao' with e1 e2
                    subst e1
                    subst e2
                    obtain ⟨b', off', hao', _, _, t0, t1, t2, t3⟩ := (NL.out wz (HK.out.trans HK3.out)).rect hjl
                    injection hao' with hao'
                    injection hao' with e1 e2
                    subst e1
                    subst e2
                    rw [HRK.out] at q0 q1 q2 q3
                    obtain ⟨rj, hrj⟩ : ∃ r, N[j] = r := ⟨_, rfl⟩
                    rw [hrj] at t0 t1 t2 t3
                    obtain ⟨p0, p1, p2, p3⟩ := rj
                    simp only [] at q0 q1 q2 q3 t0 t1 t2 t3
                    obtain ⟨tb, htb⟩ : ∃ t, touch ⟨x0, y0, x1, y1⟩ ⟨p0, p1, p2, p3⟩ = t := ⟨_, rfl⟩
                    have HADJ : Hid (tb = true ↔ Rc.Adj N k j) := Lib.hid (by rw [Rc.adj_iff hkN hjl, HRK.out, hrj, ← htb]; exact Iff.rfl)
                    have C42 := touch_at x0 y0 x1 y1 p0 p1 p2 p3 tb htb
                    have hgz := (HOP.out.lt g rfl).2
                    have CC : Hid (∀ V, Kp wz V none → V.cell? ⟨g, j, none⟩ = some (.int .i64 0) ∧ V.cell? ⟨b, off + k * 4, none⟩ = some (.int .i64 x0) ∧ V.cell? ⟨b, off + k * 4 + 1, none⟩ = some (.int .i64 y0) ∧ V.cell? ⟨b, off + k * 4 + 2, none⟩ = some (.int .i64 x1) ∧ V.cell? ⟨b, off + k * 4 + 3, none⟩ = some (.int .i64 y1) ∧ V.cell? ⟨b, off + j * 4, none⟩ = some (.int .i64 p0) ∧ V.cell? ⟨b, off + j * 4 + 1, none⟩ = some (.int .i64 p1) ∧ V.cell? ⟨b, off + j * 4 + 2, none⟩ = some (.int .i64 p2) ∧ V.cell? ⟨b, off + j * 4 + 3, none⟩ = some (.int .i64 p3)) := Lib.hid fun V kV =>
                      ⟨(kV.below.cell (p := ⟨g, j, none⟩) hgz).trans c3, (kV.below.cell (p := ⟨b, off + k * 4, none⟩) hbz').trans q0, (kV.below.cell (p := ⟨b, off + k * 4 + 1, none⟩) hbz').trans q1, (kV.below.cell (p := ⟨b, off + k * 4 + 2, none⟩) hbz').trans q2, (kV.below.cell (p := ⟨b, off + k * 4 + 3, none⟩) hbz').trans q3, (kV.below.cell (p := ⟨b, off + j * 4, none⟩) hbz').trans t0, (kV.below.cell (p := ⟨b, off + j * 4 + 1, none⟩) hbz').trans t1, (kV.below.cell (p := ⟨b, off + j * 4 + 2, none⟩) hbz').trans t2, (kV.below.cell (p := ⟨b, off + j * 4 + 3, none⟩) hbz').trans t3⟩
                    have c3' : wz.cell? ⟨g, j, none⟩ = some (.int .i64 0) := c3
                    have HM3 := Lib.hid hm3
                    clear htb hrj c3 hm3
                    go_wp2_with fail
                    go_region_held3 (fun V => V.cell? ⟨g, j, none⟩ = some (.int .i64 0) ∧ V.cell? ⟨b, off + k * 4, none⟩ = some (.int .i64 x0) ∧ V.cell? ⟨b, off + k * 4 + 1, none⟩ = some (.int .i64 y0) ∧ V.cell? ⟨b, off + k * 4 + 2, none⟩ = some (.int .i64 x1) ∧ V.cell? ⟨b, off + k * 4 + 3, none⟩ = some (.int .i64 y1) ∧ V.cell? ⟨b, off + j * 4, none⟩ = some (.int .i64 p0) ∧ V.cell? ⟨b, off + j * 4 + 1, none⟩ = some (.int .i64 p1) ∧ V.cell? ⟨b, off + j * 4 + 2, none⟩ = some (.int .i64 p2) ∧ V.cell? ⟨b, off + j * 4 + 3, none⟩ = some (.int .i64 p3))
                      (first | go_keep | exact CC.out _ ((Kp.refl wz none).drew.trans k9))
                      (first | (go_at_call 42; refine (C42 _).mono ?_; rintro e w9 ⟨rfl, k9⟩))
                    have K9 : Hid (Kp wz w9 none) := Lib.hid ((Kp.refl wz none).drew.trans k9)
                    have HOP9 := Lib.hid (HOP.out.keep K9.out)
                    have HQ9 := Lib.hid (HQ.out.keep K9.out (by obtain ⟨q, e, _⟩ := HQ.out.lt; rw [e]; simp))
                    have HOW9 := Lib.hid (HOW.out.kept K9.out (by cases v8.ownBlock <;> simp))
                    have HK9 : Hid (Kp wa w9 (some g)) := Lib.hid (HK3.out.trans (K9.out.weak _))
                    clear k9 C42 CC q0 q1 q2 q3 t0 t1 t2 t3 c3' HOP HQ HOW HK3
                    cases tb with
                    | false =>
                      have HREL : Hid (R3 wa g g i k ks N v8 u7 (.int .i64 ((j : Int) + 1)) w9) := Lib.hid ⟨j + 1, P3, ts3, by omega, by simp, HBF.out, HSE.out, HSN.out.none (fun _ => .inr (fun h => by have := HADJ.out.2 h; cases this)), HQ9.out, HOW9.out, HNE.out, HOP9.out, HK9.out⟩
                      go_wp2_with fail
                      go_roundw
                      case rel => exact HREL.out
                      case measure => simp [intOf]; omega
                    | true =>
                      have hip3 : i < P3.length := by omega
                      obtain ⟨c, hc⟩ : ∃ c, P3[i] = c := ⟨_, rfl⟩
                      have hcz : c ≠ 0 := by rw [← hc]; exact (HBF.out.vis i hip3).2 (.inr HBF.out.start)
                      have d0 : w9.cell? ⟨g, i, none⟩ = some (.int .i64 (c : Int)) := by rw [← hc]; exact HOP9.out.cell hip3
                      have d1 : w9.cell? ⟨g, j, none⟩ = some (.int .i64 0) := by
                        have := HOP9.out.cell hjp
                        rw [HM3.out] at this; exact this
                      have d2 := HOP9.out.frozen j
                      have ST : Hid (OwnPlaces (w9.setCell ⟨g, j, none⟩ (.int .i64 (c : Int))) g g (P3.set j c) ∧ w9.grownBy (w9.setCell ⟨g, j, none⟩ (.int .i64 (c : Int))) (some g)) := Lib.hid (HOP9.out.stored j c)
                      obtain ⟨g7, off7, cap7, rfl, hg7b, hg7l, hc7, _⟩ := HQ9.out.form
                      have hg7g : g7 ≠ g := by omega
                      have HV8 : Hid (v8.ownBlock ≠ some g ∧ v8.ownBlock ≠ some g7) := Lib.hid ⟨fun e => by have := (HOW9.out.lt g e).1; omega, fun e => HNE.out e.symm⟩
                      have hA9 : Hid (Kp (w9.setCell ⟨g, j, none⟩ (.int .i64 (c : Int))) ((w9.setCell ⟨g, j, none⟩ (.int .i64 (c : Int))).alloc (Obj.cells #[.int .i64 j] 3)) none) := Lib.hid (Kp.alloc (Kp.refl _ _) _)
                      have HQS : Hid (OwnsQ ((w9.setCell ⟨g, j, none⟩ (.int .i64 (c : Int))).alloc (Obj.cells #[.int .i64 j] 3)) wa.heap.size (.slice (some ⟨g7, off7, none⟩) ts3.length cap7) ts3) := Lib.hid ((HQ9.out.keep ST.out.2 (by simp [Value.ownBlock]; omega)).keep hA9.out (by simp [Value.ownBlock]))
                      have hw9z : wa.heap.size ≤ w9.heap.size := HK9.out.size
                      have hl3 : ts3.length ≤ 1000000000 := by omega
                      clear hc
                      go_wp2_with (at_builtin; go_must (refine wpList_qapp (by rfl) _ _ (by rfl) wa.heap.size (.slice (some ⟨g7, off7, none⟩) ts3.length cap7) ts3 (by rfl) HQS.out ⟨w9.heap.size, 0, none⟩ 1 j (by rfl) (cell_new_set _ _ _ _ _) (by simp <;> omega) hl3 ?_))
                      intro v10 w10 hq10 hg10 hb10
                      have HREL : Hid (R3 wa g g i k ks N v8 v10 (.int .i64 ((j : Int) + 1)) w10) := Lib.hid ⟨j + 1, P3.set j c, ts3 ++ [j], by omega, by simp, HBF.out.find (k := k) (by simp) hjp HM3.out (HADJ.out.1 (by first | rfl | trivial)) hcz, fun k' hk' => (HSE.out k' hk').set hcz, HSN.out.found hcz, hq10,
                        (((HOW9.out.kept ST.out.2 (.inr HV8.out.1)).kept hA9.out (by cases v8.ownBlock <;> simp)).kept hg10 (.inr HV8.out.2)), by
                          intro e
                          rcases hb10 with h | h
                          · rw [h] at e; exact HV8.out.2 e.symm
                          · rw [h] at e
                            have := (HOW9.out.lt _ e.symm).2
                            have e2 : ((w9.setCell ⟨g, j, none⟩ (.int .i64 (c : Int))).alloc (Obj.cells #[.int .i64 j] 3)).heap.size = w9.heap.size + 1 := by simp
                            omega, World.ownsRow.kept (ST.out.1.keep hA9.out) hg10 (.inr (by simp [Value.ownBlock]; omega)),
                        Kp.row ((HK9.out.trans ST.out.2).trans (hA9.out.weak _)) hg10 (fun q hq => by simp [Value.ownBlock] at hq; omega)⟩
                      clear hq10 hg10 hb10 d0 d1 d2
                      go_wp2_with fail
                      go_roundw
                      case rel => exact HREL.out
                      case measure => simp [intOf]; omega
                  · have hne3 : ((m3 : Int) == 0) = false := by simp; omega
                    have HREL : Hid (∀ n, R3 wa g g i k ks N v8 u7 (.int .i64 ((j : Int) + 1)) (wz.drewN n)) := Lib.hid fun n => ⟨j + 1, P3, ts3, by omega, by simp, HBF.out, HSE.out, HSN.out.none (fun h => .inl (by rw [hm3]; exact hmz3)), HQ.out.keep ((Kp.refl wz none).drewN n) (by obtain ⟨q, e, _⟩ := HQ.out.lt; rw [e]; simp), HOW.out.kept ((Kp.refl wz none).drewN n) (by cases v8.ownBlock <;> simp), HNE.out, HOP.out.keep ((Kp.refl wz none).drewN n), HK3.out.drewN n⟩
                    clear hm3 hmz3
                    go_wp2_with fail
                    go_quiet (fail)
                    go_wp2_with fail
                    go_roundw
                    case rel => exact HREL.out _
                    case measure => simp [intOf]; omega
                · have hj1 : ¬ (j : Int) < (N.length : Int) := by omega
                  have HREL : Hid (R2 wa g g i N u7 v8 wz) := Lib.hid ⟨P3, ks ++ [k], ts3, HBF.out, fun k' hk' => by
                    rcases List.mem_append.1 hk' with h | h
                    · exact HSE.out k' h
                    · have e : k' = k := by simpa using h
                      rw [e, show N.length = j by omega]; exact HSN.out, HQ.out, HOW.out, HNE.out, HOP.out, HK3.out⟩
                  go_wp2_with fail
                  go_roundw
                  case rel => exact HREL.out
                  case measure => exact HM.out
            · have HQN := Lib.hid HQT.out.tail
              clear HQT HQ
              go_wp2_with (at_builtin; go_must (refine wpList_app (f := recVal) (by rfl) _ _ wa.heap.size 22 44 (by rfl) i1 _ 4 32 Try.underlying22 hi1 hy0 hy1 hy2 rfl (by omega) (fun _ => rfl) rec_one u8 ks.length ((Rc.pick N ks).flatMap recVal) (by rfl) (HOW.out.alloc _) (.slice (some ⟨wq.heap.size, 0, none⟩) 1 1) [⟨x0, y0, x1, y1⟩] (by rfl) (rects_one wq x0 y0 x1 y1) (by simpa using how63) (by simp <;> omega) (by simp <;> omega) ?_))
              intro v8 w8 ho8 hg8 hb8
              have HK8 : Hid (Kp wa w8 (some g)) := Lib.hid (Kp.row (HK2.out.alloc _) hg8 (fun j hj => (HOW.out.lt j hj).1))
              have HO8 : Hid (w8.ownsRow wa.heap.size 44 4 v8 (ks ++ [k]).length ((Rc.pick N (ks ++ [k])).flatMap recVal)) := Lib.hid (by
                rw [Rc.pick_snoc N ks k hkN, HRK.out, List.flatMap_append, List.length_append]
                simpa using ho8)
              have hA : Kp wq (wq.alloc (Obj.cells #[.int .i64 x0, .int .i64 y0, .int .i64 x1, .int .i64 y1] 44)) none := Kp.alloc (Kp.refl _ _) _
              have hug : u8.ownBlock ≠ some g := by
                intro e
                have := (HOW.out.lt g e).1
                omega
              have HQ8 : Hid (OwnsQ w8 wa.heap.size (.slice (some ⟨gq, (offq + 1), none⟩) ts.length (capq - 1)) ts) := Lib.hid ((HQN.out.keep hA (by simp [Value.ownBlock])).keep hg8 HNE.out)
              have HP8 : Hid (OwnPlaces w8 g g P2) := Lib.hid (World.ownsRow.kept (HOP2.out.keep hA) hg8 (.inr (Ne.symm hug)))
              have HN8 : Hid (v8.ownBlock ≠ some gq) := Lib.hid (by
                intro e
                rcases hb8 with h | h
                · exact HNE.out (e.symm.trans h)
                · rw [e] at h; injection h with h; omega)
              have HBF8 := Lib.hid HBF.out.take
              have hlv : lenOf v8 = ks.length + 1 := by obtain ⟨_, _, e⟩ := own_shape HO8.out; rw [e]; simp [lenOf]
              have hlu : lenOf u8 = ks.length := by obtain ⟨_, _, e⟩ := own_shape HOW.out; rw [e]; simp [lenOf]
              have HM : Hid (N.length - lenOf v8 < N.length - lenOf u8) := Lib.hid (by omega)
              clear ho8 hg8 hb8 hA hlv hlu hug HQN HOP2 HNE HBF HK2 HOW c1 r0 r1 r2 r3
              go_wp2_with fail
              go_loopw [7, 10] (fun vt vj wz => R3 wa g g i k ks N v8 vt vj wz) (fun _ vj _ => N.length - (intOf vj).toNat)
              case atStart => exact ⟨0, P2, ts, Nat.zero_le _, rfl, HBF8.out, HSE.out, Rc.Seen.zero _ _ _, HQ8.out, HO8.out, by intro e; exact HN8.out e.symm, HP8.out, HK8.out⟩
              case round =>
                clear HBF8 HSE HQ8 HO8 HN8 HP8 HK8
                obtain ⟨wz, hwz'⟩ : ∃ x, x = wr := ⟨_, rfl⟩
                subst hwz'
                obtain ⟨j, P3, ts3, hj, rfl, hbf, hse, hsn, hq, hown, hne, hop, hk3⟩ := hrel
                have HBF := Lib.hid hbf
                have HSE := Lib.hid hse
                have HSN := Lib.hid hsn
                have HQ := Lib.hid hq
                have HOW := Lib.hid hown
                have HNE := Lib.hid hne
                have HOP := Lib.hid hop
                have HK3 := Lib.hid hk3
                have hfew3 := hbf.few
                have hP3 := hbf.len
                clear hbf hse hsn hq hown hne hop hk3
                have hj0 : (0 : Int) ≤ (j : Int) := Int.natCast_nonneg _
                by_cases hjl : j < N.length
                · have hj1 : (j : Int) < (N.length : Int) := by omega
                  have hjp : j < P3.length := by omega
                  obtain ⟨m3, hm3⟩ : ∃ m, P3[j] = m := ⟨_, rfl⟩
                  have c3 : wz.cell? ⟨g, j, none⟩ = some (.int .i64 (m3 : Int)) := by rw [← hm3]; exact HOP.out.cell hjp
                  have hm30 : (0 : Int) ≤ (m3 : Int) := Int.natCast_nonneg _
                  by_cases hmz3 : m3 = 0
                  · subst hmz3
                    obtain ⟨b', off', hao', _, hbz', q0, q1, q2, q3⟩ := (NL.out wz (HK.out.trans HK3.out)).rect hkN
                    injection hao' with hao'
                    injection hao' with e1 e2
                    subst e1
                    subst e2
                    obtain ⟨b', off', hao', _, _, t0, t1, t2, t3⟩ := (NL.out wz (HK.out.trans HK3.out)).rect hjl
                    injection hao' with hao'
                    injection hao' with e1 e2
                    subst e1
                    subst e2
                    rw [HRK.out] at q0 q1 q2 q3
                    obtain ⟨rj, hrj⟩ : ∃ r, N[j] = r := ⟨_, rfl⟩
                    rw [hrj] at t0 t1 t2 t3
                    obtain ⟨p0, p1, p2, p3⟩ := rj
                    simp only [] at q0 q1 q2 q3 t0 t1 t2 t3
                    obtain ⟨tb, htb⟩ : ∃ t, touch ⟨x0, y0, x1, y1⟩ ⟨p0, p1, p2, p3⟩ = t := ⟨_, rfl⟩
                    have HADJ : Hid (tb = true ↔ Rc.Adj N k j) := Lib.hid (by rw [Rc.adj_iff hkN hjl, HRK.out, hrj, ← htb]; exact Iff.rfl)
                    have C42 := touch_at x0 y0 x1 y1 p0 p1 p2 p3 tb htb
                    have hgz := (HOP.out.lt g rfl).2
                    have CC : Hid (∀ V, Kp wz V none → V.cell? ⟨g, j, none⟩ = some (.int .i64 0) ∧ V.cell? ⟨b, off + k * 4, none⟩ = some (.int .i64 x0) ∧ V.cell? ⟨b, off + k * 4 + 1, none⟩ = some (.int .i64 y0) ∧ V.cell? ⟨b, off + k * 4 + 2, none⟩ = some (.int .i64 x1) ∧ V.cell? ⟨b, off + k * 4 + 3, none⟩ = some (.int .i64 y1) ∧ V.cell? ⟨b, off + j * 4, none⟩ = some (.int .i64 p0) ∧ V.cell? ⟨b, off + j * 4 + 1, none⟩ = some (.int .i64 p1) ∧ V.cell? ⟨b, off + j * 4 + 2, none⟩ = some (.int .i64 p2) ∧ V.cell? ⟨b, off + j * 4 + 3, none⟩ = some (.int .i64 p3)) := Lib.hid fun V kV =>
                      ⟨(kV.below.cell (p := ⟨g, j, none⟩) hgz).trans c3, (kV.below.cell (p := ⟨b, off + k * 4, none⟩) hbz').trans q0, (kV.below.cell (p := ⟨b, off + k * 4 + 1, none⟩) hbz').trans q1, (kV.below.cell (p := ⟨b, off + k * 4 + 2, none⟩) hbz').trans q2, (kV.below.cell (p := ⟨b, off + k * 4 + 3, none⟩) hbz').trans q3, (kV.below.cell (p := ⟨b, off + j * 4, none⟩) hbz').trans t0, (kV.below.cell (p := ⟨b, off + j * 4 + 1, none⟩) hbz').trans t1, (kV.below.cell (p := ⟨b, off + j * 4 + 2, none⟩) hbz').trans t2, (kV.below.cell (p := ⟨b, off + j * 4 + 3, none⟩) hbz').trans t3⟩
                    have c3' : wz.cell? ⟨g, j, none⟩ = some (.int .i64 0) := c3
                    have HM3 := Lib.hid hm3
                    clear htb hrj c3 hm3
                    go_wp2_with fail
                    go_region_held3 (fun V => V.cell? ⟨g, j, none⟩ = some (.int .i64 0) ∧ V.cell? ⟨b, off + k * 4, none⟩ = some (.int .i64 x0) ∧ V.cell? ⟨b, off + k * 4 + 1, none⟩ = some (.int .i64 y0) ∧ V.cell? ⟨b, off + k * 4 + 2, none⟩ = some (.int .i64 x1) ∧ V.cell? ⟨b, off + k * 4 + 3, none⟩ = some (.int .i64 y1) ∧ V.cell? ⟨b, off + j * 4, none⟩ = some (.int .i64 p0) ∧ V.cell? ⟨b, off + j * 4 + 1, none⟩ = some (.int .i64 p1) ∧ V.cell? ⟨b, off + j * 4 + 2, none⟩ = some (.int .i64 p2) ∧ V.cell? ⟨b, off + j * 4 + 3, none⟩ = some (.int .i64 p3))
                      (first | go_keep | exact CC.out _ ((Kp.refl wz none).drew.trans k9))
                      (first | (go_at_call 42; refine (C42 _).mono ?_; rintro e w9 ⟨rfl, k9⟩))
                    have K9 : Hid (Kp wz w9 none) := Lib.hid ((Kp.refl wz none).drew.trans k9)
                    have HOP9 := Lib.hid (HOP.out.keep K9.out)
                    have HQ9 := Lib.hid (HQ.out.keep K9.out (by obtain ⟨q, e, _⟩ := HQ.out.lt; rw [e]; simp))
                    have HOW9 := Lib.hid (HOW.out.kept K9.out (by cases v8.ownBlock <;> simp))
                    have HK9 : Hid (Kp wa w9 (some g)) := Lib.hid (HK3.out.trans (K9.out.weak _))
                    clear k9 C42 CC q0 q1 q2 q3 t0 t1 t2 t3 c3' HOP HQ HOW HK3
                    cases tb with
                    | false =>
                      have HREL : Hid (R3 wa g g i k ks N v8 u7 (.int .i64 ((j : Int) + 1)) w9) := Lib.hid ⟨j + 1, P3, ts3, by omega, by simp, HBF.out, HSE.out, HSN.out.none (fun _ => .inr (fun h => by have := HADJ.out.2 h; cases this)), HQ9.out, HOW9.out, HNE.out, HOP9.out, HK9.out⟩
                      go_wp2_with fail
                      go_roundw
                      case rel => exact HREL.out
                      case measure => simp [intOf]; omega
                    | true =>
                      have hip3 : i < P3.length := by omega
                      obtain ⟨c, hc⟩ : ∃ c, P3[i] = c := ⟨_, rfl⟩
                      have hcz : c ≠ 0 := by rw [← hc]; exact (HBF.out.vis i hip3).2 (.inr HBF.out.start)
                      have d0 : w9.cell? ⟨g, i, none⟩ = some (.int .i64 (c : Int)) := by rw [← hc]; exact HOP9.out.cell hip3
                      have d1 : w9.cell? ⟨g, j, none⟩ = some (.int .i64 0) := by
                        have := HOP9.out.cell hjp
                        rw [HM3.out] at this; exact this
                      have d2 := HOP9.out.frozen j
                      have ST : Hid (OwnPlaces (w9.setCell ⟨g, j, none⟩ (.int .i64 (c : Int))) g g (P3.set j c) ∧ w9.grownBy (w9.setCell ⟨g, j, none⟩ (.int .i64 (c : Int))) (some g)) := Lib.hid (HOP9.out.stored j c)
                      obtain ⟨g7, off7, cap7, rfl, hg7b, hg7l, hc7, _⟩ := HQ9.out.form
                      have hg7g : g7 ≠ g := by omega
                      have HV8 : Hid (v8.ownBlock ≠ some g ∧ v8.ownBlock ≠ some g7) := Lib.hid ⟨fun e => by have := (HOW9.out.lt g e).1; omega, fun e => HNE.out e.symm⟩
                      have hA9 : Hid (Kp (w9.setCell ⟨g, j, none⟩ (.int .i64 (c : Int))) ((w9.setCell ⟨g, j, none⟩ (.int .i64 (c : Int))).alloc (Obj.cells #[.int .i64 j] 3)) none) := Lib.hid (Kp.alloc (Kp.refl _ _) _)
                      have HQS : Hid (OwnsQ ((w9.setCell ⟨g, j, none⟩ (.int .i64 (c : Int))).alloc (Obj.cells #[.int .i64 j] 3)) wa.heap.size (.slice (some ⟨g7, off7, none⟩) ts3.length cap7) ts3) := Lib.hid ((HQ9.out.keep ST.out.2 (by simp [Value.ownBlock]; omega)).keep hA9.out (by simp [Value.ownBlock]))
                      have hw9z : wa.heap.size ≤ w9.heap.size := HK9.out.size
                      have hl3 : ts3.length ≤ 1000000000 := by omega
                      clear hc
                      go_wp2_with (at_builtin; go_must (refine wpList_qapp (by rfl) _ _ (by rfl) wa.heap.size (.slice (some ⟨g7, off7, none⟩) ts3.length cap7) ts3 (by rfl) HQS.out ⟨w9.heap.size, 0, none⟩ 1 j (by rfl) (cell_new_set _ _ _ _ _) (by simp <;> omega) hl3 ?_))
                      intro v10 w10 hq10 hg10 hb10
                      have HREL : Hid (R3 wa g g i k ks N v8 v10 (.int .i64 ((j : Int) + 1)) w10) := Lib.hid ⟨j + 1, P3.set j c, ts3 ++ [j], by omega, by simp, HBF.out.find (k := k) (by simp) hjp HM3.out (HADJ.out.1 (by first | rfl | trivial)) hcz, fun k' hk' => (HSE.out k' hk').set hcz, HSN.out.found hcz, hq10,
                        (((HOW9.out.kept ST.out.2 (.inr HV8.out.1)).kept hA9.out (by cases v8.ownBlock <;> simp)).kept hg10 (.inr HV8.out.2)), by
                          intro e
                          rcases hb10 with h | h
                          · rw [h] at e; exact HV8.out.2 e.symm
                          · rw [h] at e
                            have := (HOW9.out.lt _ e.symm).2
                            have e2 : ((w9.setCell ⟨g, j, none⟩ (.int .i64 (c : Int))).alloc (Obj.cells #[.int .i64 j] 3)).heap.size = w9.heap.size + 1 := by simp
                            omega, World.ownsRow.kept (ST.out.1.keep hA9.out) hg10 (.inr (by simp [Value.ownBlock]; omega)),
                        Kp.row ((HK9.out.trans ST.out.2).trans (hA9.out.weak _)) hg10 (fun q hq => by simp [Value.ownBlock] at hq; omega)⟩
                      clear hq10 hg10 hb10 d0 d1 d2
                      go_wp2_with fail
                      go_roundw
                      case rel => exact HREL.out
                      case measure => simp [intOf]; omega
                  · have hne3 : ((m3 : Int) == 0) = false := by simp; omega
                    have HREL : Hid (∀ n, R3 wa g g i k ks N v8 u7 (.int .i64 ((j : Int) + 1)) (wz.drewN n)) := Lib.hid fun n => ⟨j + 1, P3, ts3, by omega, by simp, HBF.out, HSE.out, HSN.out.none (fun h => .inl (by rw [hm3]; exact hmz3)), HQ.out.keep ((Kp.refl wz none).drewN n) (by obtain ⟨q, e, _⟩ := HQ.out.lt; rw [e]; simp), HOW.out.kept ((Kp.refl wz none).drewN n) (by cases v8.ownBlock <;> simp), HNE.out, HOP.out.keep ((Kp.refl wz none).drewN n), HK3.out.drewN n⟩
                    clear hm3 hmz3
                    go_wp2_with fail
                    go_quiet (fail)
                    go_wp2_with fail
                    go_roundw
                    case rel => exact HREL.out _
                    case measure => simp [intOf]; omega
                · have hj1 : ¬ (j : Int) < (N.length : Int) := by omega
                  have HREL : Hid (R2 wa g g i N u7 v8 wz) := Lib.hid ⟨P3, ks ++ [k], ts3, HBF.out, fun k' hk' => by
                    rcases List.mem_append.1 hk' with h | h
                    · exact HSE.out k' h
                    · have e : k' = k := by simpa using h
                      rw [e, show N.length = j by omega]; exact HSN.out, HQ.out, HOW.out, HNE.out, HOP.out, HK3.out⟩
                  go_wp2_with fail
                  go_roundw
                  case rel => exact HREL.out
                  case measure => exact HM.out
      · have hne : ((m : Int) == 0) = false := by simp; omega
        have HREL : Hid (R1 w2.heap.size w2 g g N u5 (.int .i64 ((i : Int) + 1)) wa) := Lib.hid ⟨i + 1, P, by omega, by simp, HOP.out, HMA.out.skip hip (by rw [hm]; exact hmz), by rw [Rc.piecesTo_no (fun h => hmz (hm.symm.trans ((HMA.out.notRoot hip).1 h)))]; exact HPC.out, HK.out⟩
        clear hmz hm
        go_wp2_with fail
        go_roundw
        case rel => exact HREL.out
        case measure => simp [intOf]; omega
    · have hk1 : ¬ (i : Int) < (N.length : Int) := by omega
      have HE : Hid (∃ u, Ending.returned u5 = .returned u ∧ IsPieces wa u fin ∧ Kp w wa none) := Lib.hid ⟨u5, rfl, by rw [← HFIN.out, show N.length = i by omega]; exact HPC.out.is, KW.out _ HK.out⟩
      go_wp2_with fail
      go_ret
      exact HE.out

end Go.Proofs.Ytpakiabnhdoijaa

