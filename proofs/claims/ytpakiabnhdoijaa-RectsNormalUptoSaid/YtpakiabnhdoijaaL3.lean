/- RectsNormal's walk: a normal list is its own normal list, stands in order, and depends on the set alone. Condition: the numbers are bytes; the order has at most 2000000 places. -/
import Derived.Test.YtpakiabnhdoijaaLq
namespace Go.Proofs.Ytpakiabnhdoijaa
open Go.RowKit

def byteVal (k : Int) : List Value := [.int .u8 k]
abbrev IsBytes := @IsList Int 1 byteVal
/-- The list turned, and what the order names. -/
def turned (l : List Rc.Rect) (os : List Int) (k : Nat) : List Rc.Rect := l.reverse ++ (os.take k).map fun o => (l[o.toNat % l.length]?).getD ⟨0, 0, 0, 0⟩
theorem turned_len (l : List Rc.Rect) (os : List Int) (k : Nat) (h : k ≤ os.length) : (turned l os k).length = l.length + k := by
  unfold turned; rw [List.length_append, List.length_reverse, List.length_map, List.length_take, Nat.min_eq_left h]
theorem turned_step (l : List Rc.Rect) (os : List Int) (k : Nat) (h : k < os.length) (h0 : 0 < l.length) : turned l os (k + 1) = turned l os k ++ [l[os[k].toNat % l.length]'(Nat.mod_lt _ h0)] := by
  unfold turned
  rw [List.take_succ_eq_append_getElem h, List.map_append, ← List.append_assoc]
  simp [List.getElem?_eq_getElem (Nat.mod_lt _ h0)]
theorem turned_norm {l : List Rc.Rect} (hr : Rc.Right l) (hl : l.length ≤ 12) (os : List Int) (k n : Nat) (h0 : l.length = 0 → k = 0) (hn : n = min (turned l os k).length 100) : Rc.norm ((turned l os k).take n) = Rc.norm l := by
  have mem : ∀ r ∈ turned l os k, r ∈ l := fun r h => by
    unfold turned at h
    rcases List.mem_append.1 h with h | h
    · simpa using h
    · obtain ⟨o, ho, rfl⟩ := List.mem_map.1 h
      have hp : 0 < l.length := by
        rcases Nat.eq_zero_or_pos l.length with e | e
        · rw [h0 e] at ho; simp at ho
        · exact e
      rw [List.getElem?_eq_getElem (Nat.mod_lt _ hp)]
      exact List.getElem_mem _
  have rt : Rc.Right ((turned l os k).take n) := ⟨by rw [List.length_take]; omega, fun r h => hr.2 r (mem r (List.mem_of_mem_take h))⟩
  apply Rc.norm_ext
  intro x y
  rw [Rc.set_of_right rt, Rc.set_of_right hr, Bool.eq_iff_iff, Rc.cov_iff, Rc.cov_iff]
  constructor
  · rintro ⟨r, h, g⟩; exact ⟨r, mem r (List.mem_of_mem_take h), g⟩
  · rintro ⟨r, h, g⟩
    refine ⟨r, ?_, g⟩
    have hlen : l.reverse.length ≤ n := by
      rw [hn, List.length_reverse]
      unfold turned
      rw [List.length_append, List.length_reverse]; omega
    unfold turned
    rw [List.take_append, List.take_of_length_le hlen]
    exact List.mem_append_left _ (by simpa using h)

set_option maxHeartbeats 8000000 in
set_option maxRecDepth 100000 in
theorem normal_any (v0 v1 : Value) (qs : List Quad) (os : List Int) (w : World) (h0 : IsQuads w v0 qs) (h1 : IsBytes w v1 os) (o0 : ∀ q ∈ qs, q.ok) (o1 : ∀ k ∈ os, 0 ≤ k ∧ k ≤ 255) (hos : os.length ≤ 2000000) :
    Calls Try.prog 6 #[v0, v1] w fun E w' => E = .returned (.bool true) ∧ Kp w w' none := by
  have C0 : Hid (∀ V, Kp w V none → Calls Try.prog 11 #[v0, .int .i64 12] V fun E w' => OwnRects V E w' (made qs)) := Lib.hid fun V k => made_any v0 qs V (h0.keep k) o0
  obtain ⟨aoo, capo, rfl, fo⟩ := h1.form
  have FO := Lib.hid fo
  have HOK := Lib.hid o1
  have hla := made_len qs
  have ra := quad_right qs o0
  obtain ⟨l, hl⟩ : ∃ a, made qs = a := ⟨_, rfl⟩
  rw [hl] at C0 hla ra
  have HTU := Lib.hid (fun k n h0 hn => turned_norm ra hla os k n h0 hn)
  have hnl : (Rc.norm l).length ≤ 576 := Rc.comb_len Rc.join_comb l [] (n := 12) (by simpa using hla)
  have HNN := Lib.hid (Rc.norm_norm (Rc.comb_right Rc.join_comb (a := l) (b := []) (by simp; omega) : Rc.Right (Rc.norm l)))
  have HPO := Lib.hid (Rc.norm_pos l)
  have HOR := Lib.hid (Rc.norm_order l)
  clear h0 h1 o0 o1 fo hl ra
  obtain ⟨i1, hi1, hy0, hy1, hy2⟩ := info_parts infoRect
  have hn0 : (0 : Int) ≤ (l.length : Int) := Int.natCast_nonneg _
  have hos0 : (0 : Int) ≤ (os.length : Int) := Int.natCast_nonneg _
  go_enter Try.func6, Try.ntmps6
  go_wp2_with fail
  refine (sanity_any _).mono ?_
  rintro E w1 ⟨rfl, k⟩
  have KQ : Hid (Kp w w1 none) := Lib.hid k
  clear k
  go_wp2_with fail
  refine (C0.out _ KQ.out).mono ?_
  rintro E w2 ⟨z6, rfl, ho, k⟩
  obtain ⟨ao6, cap6, rfl, f6⟩ := (isList_own (m := 4) (f := recVal) (fun _ => rfl) ho).form
  have F6 := Lib.hid f6
  have HA := Lib.hid (isList_own (m := 4) (f := recVal) (fun _ => rfl) ho)
  have KQ := Lib.hid (KQ.out.trans k)
  clear ho k f6
  go_wp2_with fail
  refine (normP_any _ l _ HA.out (by omega)).mono ?_
  rintro E w3 ⟨z7, rfl, ho, k⟩
  obtain ⟨N, hN⟩ : ∃ N, Rc.norm l = N := ⟨_, rfl⟩
  rw [hN] at ho HNN HPO HOR hnl
  have HTU : Hid (∀ k n, (l.length = 0 → k = 0) → n = min (turned l os k).length 100 → Rc.norm ((turned l os k).take n) = N) := Lib.hid fun k n g0 g1 => by rw [← hN]; exact HTU.out k n g0 g1
  obtain ⟨ao7, cap7, rfl, f7⟩ := (isList_own (m := 4) (f := recVal) (fun _ => rfl) ho).form
  have F7 : Hid (∀ V, Kp w3 V none → LiesAt 4 recVal V ao7 cap7 N) := Lib.hid fun V kk => f7.keep kk
  have F6 : Hid (∀ V, Kp w3 V none → LiesAt 4 recVal V ao6 cap6 l) := Lib.hid fun V kk => F6.out.keep (k.trans kk)
  have KW := Lib.hid (KQ.out.trans k)
  have FO : Hid (∀ V, Kp w3 V none → LiesAt 1 byteVal V aoo capo os) := Lib.hid fun V kk => FO.out.keep (KW.out.trans kk)
  clear ho k f7 hN HA KQ C0
  have hsub : IntKind.i64.wrap ((l.length : Int) - 1) = (l.length : Int) - 1 := wrap_small _ (by omega) (by omega)
  go_wp2_with fail
  go_loopw [8, 9] (fun v vi wr => ∃ k : Nat, k ≤ l.length ∧ vi = .int .i64 ((l.length : Int) - 1 - k) ∧ wr.ownsRow w3.heap.size 44 4 v k ((l.reverse.take k).flatMap recVal) ∧ Kp w3 wr none) (fun _ vi _ => (intOf vi + 1).toNat)
  case atStart => exact ⟨0, Nat.zero_le _, by simp, World.ownsRow_nil _ _ _ _, Kp.refl _ _⟩
  case round =>
    obtain ⟨wa, hwa⟩ : ∃ x, x = wr := ⟨_, rfl⟩
    subst hwa
    obtain ⟨k, hk, rfl, hown, hK⟩ := hrel
    have HOW := Lib.hid hown
    have KQ := Lib.hid hK
    clear hown hK
    by_cases hlt : k < l.length
    · obtain ⟨i, hi⟩ : ∃ i, l.length - 1 - k = i := ⟨_, rfl⟩
      have hie : (l.length : Int) - 1 - (k : Int) = (i : Int) := by omega
      have hil : i < l.length := by omega
      rw [hie]
      have hi0 : (0 : Int) ≤ (i : Int) := Int.natCast_nonneg _
      have hi1' : (i : Int) < (l.length : Int) := by omega
      have hnx : (l.length : Int) - 1 - ((k + 1 : Nat) : Int) = (i : Int) - 1 := by omega
      obtain ⟨b, off, e, hc6, hb, r0, r1, r2, r3⟩ := (F6.out wa KQ.out).rect hil
      subst e
      have hrev : l.reverse.take (k + 1) = l.reverse.take k ++ [l[i]] := by
        rw [List.take_succ_eq_append_getElem (by simpa using hlt)]
        congr 1
        simp [← hi]
      obtain ⟨r, hr⟩ : ∃ r, l[i] = r := ⟨_, rfl⟩
      rw [hr] at r0 r1 r2 r3 hrev
      obtain ⟨p0, p1, p2, p3⟩ := r
      simp only [] at r0 r1 r2 r3
      have hkm : k + 1 ≤ maxLen := by unfold maxLen; omega
      have hbz : w3.heap.size ≤ wa.heap.size := KQ.out.size
      have HST : Hid (∀ (v : Value) (wn : World), wn.ownsRow w3.heap.size 44 4 v (k + 1) ((l.reverse.take k).flatMap recVal ++ recVal ⟨p0, p1, p2, p3⟩) → Kp w3 wn none → ∃ k' : Nat, k' ≤ l.length ∧ Value.int .i64 ((i : Int) - 1) = .int .i64 ((l.length : Int) - 1 - k') ∧ wn.ownsRow w3.heap.size 44 4 v k' ((l.reverse.take k').flatMap recVal) ∧ Kp w3 wn none) := Lib.hid fun v wn g1 g2 =>
        ⟨k + 1, by omega, by rw [hnx], by rw [hrev, List.flatMap_append]; simpa using g1, g2⟩
      have hm : Hid (((i : Int) - 1 + 1).toNat < ((i : Int) + 1).toNat) := Lib.hid (by omega)
      clear hr hrev hnx hi hie
      go_wp2_with (at_builtin; go_must (refine wpList_app (f := recVal) (by rfl) _ _ w3.heap.size 22 44 (by rfl) i1 _ 4 32 Try.underlying22 hi1 hy0 hy1 hy2 rfl (by omega) (fun _ => rfl) rec_one u8 k ((l.reverse.take k).flatMap recVal) (by rfl) (HOW.out.alloc _) (.slice (some ⟨wa.heap.size, 0, none⟩) 1 1) [⟨p0, p1, p2, p3⟩] (by rfl) (rects_one wa p0 p1 p2 p3) (by simpa using hkm) (by simp <;> omega) (by simp <;> omega) ?_))
      intro v8 w8 ho8 hg8 _
      have HREL := Lib.hid (HST.out v8 w8 (by simpa using ho8) (Kp.row (KQ.out.alloc _) hg8 (fun j hj => (HOW.out.lt j hj).1)))
      clear ho8 hg8
      go_wp2_with fail
      go_roundw
      case rel => exact HREL.out
      case measure => exact hm.out
    · have hke : k = l.length := by omega
      subst hke
      have hneg : (l.length : Int) - 1 - (l.length : Int) = -1 := by omega
      rw [hneg]
      have HOW : Hid (wa.ownsRow w3.heap.size 44 4 u8 (turned l os 0).length ((turned l os 0).flatMap recVal)) := Lib.hid (by
        have e : turned l os 0 = l.reverse.take l.length := by unfold turned; rw [List.take_zero, List.map_nil, List.append_nil, List.take_of_length_le (by rw [List.length_reverse]; exact Nat.le_refl _)]
        rw [turned_len l os 0 (Nat.zero_le _), e]; exact HOW.out)
      clear hneg hlt hk
      go_wp2_with fail
      go_loopw [8, 10] (fun v vi wr => ∃ k : Nat, k ≤ os.length ∧ (l.length = 0 → k = 0) ∧ vi = .int .i64 k ∧ wr.ownsRow w3.heap.size 44 4 v (turned l os k).length ((turned l os k).flatMap recVal) ∧ Kp w3 wr none) (fun _ vi _ => os.length - (intOf vi).toNat)
      case atStart => exact ⟨0, Nat.zero_le _, fun _ => rfl, rfl, HOW.out, KQ.out⟩
      case round =>
        clear HOW
        obtain ⟨wb, hwb⟩ : ∃ x, x = wr := ⟨_, rfl⟩
        subst hwb
        obtain ⟨k, hk, hkz, rfl, hown, hK⟩ := hrel
        have HOW := Lib.hid hown
        have KQ := Lib.hid hK
        have htl := turned_len l os k hk
        clear hown hK
        have hk0 : (0 : Int) ≤ (k : Int) := Int.natCast_nonneg _
        have hbz : w3.heap.size ≤ wb.heap.size := KQ.out.size
        by_cases hgo : k < os.length ∧ 0 < l.length
        · obtain ⟨hko, hlp⟩ := hgo
          have hko1 : (k : Int) < (os.length : Int) := by omega
          have hlp1 : (0 : Int) < (l.length : Int) := by omega
          have hlne : (l.length : Int) ≠ 0 := by omega
          obtain ⟨bo, oo, e, hbo, hco, ro⟩ := FO.out wb KQ.out k hko
          subst e
          have q0 := ro 0 (by simp [byteVal])
          simp [byteVal] at q0
          have hrange := HOK.out os[k] (List.getElem_mem hko)
          have hstp := turned_step l os k hko hlp
          obtain ⟨o, hoe⟩ : ∃ o, os[k] = o := ⟨_, rfl⟩
          simp only [hoe] at q0 hrange hstp
          obtain ⟨m, hm⟩ : ∃ m, o.toNat % l.length = m := ⟨_, rfl⟩
          have hml : m < l.length := by rw [← hm]; exact Nat.mod_lt _ hlp
          simp only [hm] at hstp
          have hrem : o.tmod (l.length : Int) = (m : Int) := by rw [tmod_pos _ _ hrange.1, ← hm, Int.natCast_emod, Int.toNat_of_nonneg hrange.1]
          have hw8 : IntKind.i64.wrap o = o := wrap_small _ (by omega) (by omega)
          have hm0 : (0 : Int) ≤ (m : Int) := Int.natCast_nonneg _
          have hm1 : (m : Int) < (l.length : Int) := by omega
          obtain ⟨b, off, e, hc6, hb, r0, r1, r2, r3⟩ := (F6.out wb KQ.out).rect hml
          subst e
          obtain ⟨r, hr⟩ : ∃ r, l[m] = r := ⟨_, rfl⟩
          rw [hr] at r0 r1 r2 r3 hstp
          obtain ⟨p0, p1, p2, p3⟩ := r
          simp only [] at r0 r1 r2 r3
          obtain ⟨tn, htn⟩ : ∃ t, (turned l os k).length = t := ⟨_, rfl⟩
          have HST : Hid (∀ (v : Value) (wn : World), wn.ownsRow w3.heap.size 44 4 v (tn + 1) ((turned l os k).flatMap recVal ++ recVal ⟨p0, p1, p2, p3⟩) → Kp w3 wn none → ∃ k' : Nat, k' ≤ os.length ∧ (l.length = 0 → k' = 0) ∧ Value.int .i64 ((k : Int) + 1) = .int .i64 k' ∧ wn.ownsRow w3.heap.size 44 4 v (turned l os k').length ((turned l os k').flatMap recVal) ∧ Kp w3 wn none) := Lib.hid fun v wn g1 g2 =>
            ⟨k + 1, by omega, by omega, by simp, by rw [hstp, List.flatMap_append, List.length_append, htn]; simpa using g1, g2⟩
          rw [htn] at HOW htl
          have htb : tn ≤ 2000100 := by omega
          clear htl
          have hkm : tn + 1 ≤ maxLen := by unfold maxLen; omega
          clear hr hstp hm hoe htn hkz
          go_wp2_with (at_builtin; go_must (refine wpList_app (f := recVal) (by rfl) _ _ w3.heap.size 22 44 (by rfl) i1 _ 4 32 Try.underlying22 hi1 hy0 hy1 hy2 rfl (by omega) (fun _ => rfl) rec_one u8 tn ((turned l os k).flatMap recVal) (by rfl) (HOW.out.alloc _) (.slice (some ⟨wb.heap.size, 0, none⟩) 1 1) [⟨p0, p1, p2, p3⟩] (by rfl) (rects_one wb p0 p1 p2 p3) (by simpa using hkm) (by simp <;> omega) (by simp <;> omega) ?_))
          intro v8 w8 ho8 hg8 _
          have HREL := Lib.hid (HST.out v8 w8 (by simpa using ho8) (Kp.row (KQ.out.alloc _) hg8 (fun j hj => (HOW.out.lt j hj).1)))
          clear ho8 hg8
          go_wp2_with fail
          go_roundw
          case rel => exact HREL.out
          case measure => simp [intOf]; omega
        · obtain ⟨T, hT⟩ : ∃ T, turned l os k = T := ⟨_, rfl⟩
          have HTN : Hid (∀ n, n = min T.length 100 → Rc.norm (T.take n) = N) := Lib.hid fun n hn => by rw [← hT] at hn ⊢; exact HTU.out k n hkz hn
          rw [hT] at HOW htl
          obtain ⟨aot, capt, rfl, ft⟩ := (isList_own (m := 4) (f := recVal) (fun _ => rfl) HOW.out).form
          obtain ⟨n, hn⟩ : ∃ n, min T.length 100 = n := ⟨_, rfl⟩
          have hmin : min (T.length : Int) 100 = (n : Int) := by omega
          have hncap : (n : Int) ≤ (capt : Int) := by
            have hc : 0 < T.length → T.length ≤ capt := fun h => by obtain ⟨_, _, _, _, hc, _⟩ := ft 0 h; exact hc
            omega
          have hn00 : (0 : Int) ≤ (n : Int) := Int.natCast_nonneg _
          have HTT : Hid (∀ V, Kp wb V none → IsRects V (.slice aot n capt) (T.take n)) := Lib.hid fun V kk => by
            have := (liesAt_take (ft.keep kk) n).list
            rw [List.length_take, show min n T.length = n by omega] at this
            exact this
          have hTn : (T.take n).length ≤ 100 := by rw [List.length_take]; omega
          have HTN := Lib.hid (HTN.out n hn.symm)
          have hT0 : (0 : Int) ≤ (T.length : Int) := Int.natCast_nonneg _
          clear ft hn hT
          have HE : Hid (¬ ((k : Int) < (os.length : Int)) ∨ ((k : Int) < (os.length : Int) ∧ (l.length : Int) = 0)) := Lib.hid (by omega)
          clear hgo hkz htl
          have HCK : Hid (∀ V, Kp wb V none → IsRects V (.slice ao7 N.length cap7) N) := Lib.hid fun V kk => (F7.out V (KQ.out.trans kk)).list
          have KB := Lib.hid KQ.out
          have KQ : Hid (Kp wb wb none) := Lib.hid (Kp.refl _ _)
          clear HOW
          rcases HE.out with hE | ⟨hE1, hE2⟩
          · clear HE
            go_wp2_with fail
            refine (normP_any _ N _ (HCK.out _ KQ.out) (by omega)).mono ?_
            rintro E x1 ⟨ux, rfl, ho, k⟩
            have HX := Lib.hid (isList_own (m := 4) (f := recVal) (fun _ => rfl) ho)
            rw [HNN.out] at HX
            have KQ := Lib.hid (KQ.out.trans k)
            clear ho k
            go_wp2_with fail
            refine (sameR_any _ _ _ _ HX.out (HCK.out _ KQ.out) (by omega)).mono ?_
            rintro E x2 ⟨rfl, m, hm⟩
            have KQ : Hid (Kp wb x2 none) := Lib.hid (by rw [← hm]; exact KQ.out.drewN m)
            clear hm HX
            go_wp2_with fail
            refine (normP_any _ (T.take n) _ (HTT.out _ KQ.out) (by omega)).mono ?_
            rintro E x3 ⟨uy, rfl, ho, k⟩
            have HX := Lib.hid (isList_own (m := 4) (f := recVal) (fun _ => rfl) ho)
            rw [HTN.out] at HX
            have KQ := Lib.hid (KQ.out.trans k)
            clear ho k
            go_wp2_with fail
            refine (sameR_any _ _ _ _ HX.out (HCK.out _ KQ.out) (by omega)).mono ?_
            rintro E x4 ⟨rfl, m, hm⟩
            have KQ : Hid (Kp wb x4 none) := Lib.hid (by rw [← hm]; exact KQ.out.drewN m)
            clear hm HX
            have hN0 : (0 : Int) ≤ (N.length : Int) := Int.natCast_nonneg _
            have KZ := Lib.hid (KB.out.trans KQ.out)
            go_wp2_with fail
            go_loopw [11] (fun vi wr => ∃ i : Nat, i ≤ N.length ∧ vi = .int .i64 i ∧ Kp w3 wr none) (fun vi _ => N.length - (intOf vi).toNat)
            case atStart => exact ⟨0, Nat.zero_le _, rfl, KZ.out⟩
            case round =>
              clear KZ KQ KB
              obtain ⟨wc, hwc⟩ : ∃ x, x = wr := ⟨_, rfl⟩
              subst hwc
              obtain ⟨i, hi, rfl, hK⟩ := hrel
              have KI := Lib.hid hK
              clear hK
              have hi0 : (0 : Int) ≤ (i : Int) := Int.natCast_nonneg _
              by_cases hit : i < N.length
              · have hi1' : (i : Int) < (N.length : Int) := by omega
                obtain ⟨b, off, e, hc7, hb, r0, r1, r2, r3⟩ := (F7.out wc KI.out).rect hit
                subst e
                have hpos := HPO.out N[i] (List.getElem_mem hit)
                have HBE : Hid (∀ k, (hk : k < i) → Rc.Before (N[k]'(Nat.lt_trans hk hit)) N[i]) := Lib.hid fun k hk => List.pairwise_iff_getElem.1 HOR.out k i (Nat.lt_trans hk hit) hit hk
                obtain ⟨r, hr⟩ : ∃ r, N[i] = r := ⟨_, rfl⟩
                simp only [hr] at r0 r1 r2 r3 hpos HBE
                obtain ⟨a0, a1, a2, a3⟩ := r
                simp only [] at r0 r1 r2 r3 hpos
                have hx : ¬ a2 ≤ a0 := by omega
                have hy : ¬ a3 ≤ a1 := by omega
                obtain ⟨B12, hB12⟩ : ∃ B, wc.heap.size = B := ⟨_, rfl⟩
                obtain ⟨wd, hwd⟩ : ∃ x, wc.alloc (Obj.cells #[.int .i64 a0, .int .i64 a1, .int .i64 a2, .int .i64 a3] 44) = x := ⟨_, rfl⟩
                have KD : Hid (Kp w3 wd none) := Lib.hid (by rw [← hwd]; exact KI.out.alloc _)
                have hnew := heap_alloc_new wc (Obj.cells #[.int .i64 a0, .int .i64 a1, .int .i64 a2, .int .i64 a3] 44)
                rw [hwd, hB12] at hnew
                have HB : Hid (∀ V, Kp wd V none → V.cell? ⟨B12, 0, none⟩ = some (.int .i64 a0) ∧ V.cell? ⟨B12, 1, none⟩ = some (.int .i64 a1) ∧ V.cell? ⟨B12, 2, none⟩ = some (.int .i64 a2) ∧ V.cell? ⟨B12, 3, none⟩ = some (.int .i64 a3)) := Lib.hid fun V kk => by
                  have h := (kk.block B12 (lt_of_block hnew) (by simp)).trans hnew
                  exact ⟨by rw [cell_of_row _ _ _ _ _ _ h]; rfl, by rw [cell_of_row _ _ _ _ _ _ h]; rfl, by rw [cell_of_row _ _ _ _ _ _ h]; rfl, by rw [cell_of_row _ _ _ _ _ _ h]; rfl⟩
                obtain ⟨s0, s1, s2, s3⟩ := HB.out wd (Kp.refl _ _)
                clear hnew hpos
                go_wp2_with fail
                clear s0 s1 s2 s3 r0 r1 r2 r3 hwd
                go_loopw [13] (fun vk wr => ∃ k : Nat, k ≤ i ∧ vk = .int .i64 k ∧ Kp wd wr none) (fun vk _ => i - (intOf vk).toNat)
                case atStart => exact ⟨0, Nat.zero_le _, rfl, Kp.refl _ _⟩
                case round =>
                  obtain ⟨we, hwe⟩ : ∃ x, x = wr := ⟨_, rfl⟩
                  subst hwe
                  obtain ⟨k, hk, rfl, hK⟩ := hrel
                  have KE := Lib.hid hK
                  clear hK
                  have hk0 : (0 : Int) ≤ (k : Int) := Int.natCast_nonneg _
                  by_cases hki : k < i
                  · have hk1 : (k : Int) < (i : Int) := by omega
                    have hkN : k < N.length := by omega
                    have hk1' : (k : Int) < (N.length : Int) := by omega
                    obtain ⟨b', off', e, _, hb', t0, t1, t2, t3⟩ := (F7.out we (KD.out.trans KE.out)).rect hkN
                    injection e with e
                    injection e with e1 e2
                    subst e1
                    subst e2
                    have hbe := HBE.out k hki
                    obtain ⟨r, hr2⟩ : ∃ r, N[k] = r := ⟨_, rfl⟩
                    simp only [hr2] at t0 t1 t2 t3 hbe
                    obtain ⟨b0, b1, b2, b3⟩ := r
                    simp only [] at t0 t1 t2 t3
                    unfold Rc.Before at hbe
                    simp only [] at hbe
                    obtain ⟨B14, hB14⟩ : ∃ B, we.heap.size = B := ⟨_, rfl⟩
                    obtain ⟨wf, hwf⟩ : ∃ x, we.alloc (Obj.cells #[.int .i64 b0, .int .i64 b1, .int .i64 b2, .int .i64 b3] 44) = x := ⟨_, rfl⟩
                    have KF : Hid (Kp wd wf none) := Lib.hid (by rw [← hwf]; exact KE.out.alloc _)
                    have h := heap_alloc_new we (Obj.cells #[.int .i64 b0, .int .i64 b1, .int .i64 b2, .int .i64 b3] 44)
                    rw [hwf, hB14] at h
                    have z0 : wf.cell? ⟨B14, 0, none⟩ = some (.int .i64 b0) := by rw [cell_of_row _ _ _ _ _ _ h]; rfl
                    have z1 : wf.cell? ⟨B14, 1, none⟩ = some (.int .i64 b1) := by rw [cell_of_row _ _ _ _ _ _ h]; rfl
                    have z2 : wf.cell? ⟨B14, 2, none⟩ = some (.int .i64 b2) := by rw [cell_of_row _ _ _ _ _ _ h]; rfl
                    have z3 : wf.cell? ⟨B14, 3, none⟩ = some (.int .i64 b3) := by rw [cell_of_row _ _ _ _ _ _ h]; rfl
                    obtain ⟨s0, s1, s2, s3⟩ := HB.out wf KF.out
                    clear h
                    have hgt : ¬ a1 < b1 := by omega
                    rcases hbe with ⟨q0, q1, q2⟩ | ⟨q0, q1⟩
                    · subst q0
                      subst q2
                      have g1 : ¬ a0 ≤ b2 := by omega
                      clear q1
                      go_wp2_with fail
                      go_roundw
                      case rel => exact ⟨k + 1, by omega, by simp, KF.out⟩
                      case measure => simp [intOf]; omega
                    · have g0 : (b1 == a1) = false := by rw [beq_eq_false_iff_ne]; omega
                      have g1 : ¬ a1 < b3 := by omega
                      clear q1
                      go_wp2_with fail
                      go_roundw
                      case rel => exact ⟨k + 1, by omega, by simp, KF.out⟩
                      case measure => simp [intOf]; omega
                  · have hk1 : ¬ (k : Int) < (i : Int) := by omega
                    go_wp2_with fail
                    go_roundw
                    case rel => exact ⟨i + 1, by omega, by simp, KD.out.trans KE.out⟩
                    case measure => simp [intOf]; omega
              · have hi1' : ¬ (i : Int) < (N.length : Int) := by omega
                go_wp2_with fail
                go_ret
                exact ⟨rfl, KW.out.trans KI.out⟩
          · clear HE
            go_wp2_with fail
            refine (normP_any _ N _ (HCK.out _ KQ.out) (by omega)).mono ?_
            rintro E x1 ⟨ux, rfl, ho, k⟩
            have HX := Lib.hid (isList_own (m := 4) (f := recVal) (fun _ => rfl) ho)
            rw [HNN.out] at HX
            have KQ := Lib.hid (KQ.out.trans k)
            clear ho k
            go_wp2_with fail
            refine (sameR_any _ _ _ _ HX.out (HCK.out _ KQ.out) (by omega)).mono ?_
            rintro E x2 ⟨rfl, m, hm⟩
            have KQ : Hid (Kp wb x2 none) := Lib.hid (by rw [← hm]; exact KQ.out.drewN m)
            clear hm HX
            go_wp2_with fail
            refine (normP_any _ (T.take n) _ (HTT.out _ KQ.out) (by omega)).mono ?_
            rintro E x3 ⟨uy, rfl, ho, k⟩
            have HX := Lib.hid (isList_own (m := 4) (f := recVal) (fun _ => rfl) ho)
            rw [HTN.out] at HX
            have KQ := Lib.hid (KQ.out.trans k)
            clear ho k
            go_wp2_with fail
            refine (sameR_any _ _ _ _ HX.out (HCK.out _ KQ.out) (by omega)).mono ?_
            rintro E x4 ⟨rfl, m, hm⟩
            have KQ : Hid (Kp wb x4 none) := Lib.hid (by rw [← hm]; exact KQ.out.drewN m)
            clear hm HX
            have hN0 : (0 : Int) ≤ (N.length : Int) := Int.natCast_nonneg _
            have KZ := Lib.hid (KB.out.trans KQ.out)
            go_wp2_with fail
            go_loopw [11] (fun vi wr => ∃ i : Nat, i ≤ N.length ∧ vi = .int .i64 i ∧ Kp w3 wr none) (fun vi _ => N.length - (intOf vi).toNat)
            case atStart => exact ⟨0, Nat.zero_le _, rfl, KZ.out⟩
            case round =>
              clear KZ KQ KB
              obtain ⟨wc, hwc⟩ : ∃ x, x = wr := ⟨_, rfl⟩
              subst hwc
              obtain ⟨i, hi, rfl, hK⟩ := hrel
              have KI := Lib.hid hK
              clear hK
              have hi0 : (0 : Int) ≤ (i : Int) := Int.natCast_nonneg _
              by_cases hit : i < N.length
              · have hi1' : (i : Int) < (N.length : Int) := by omega
                obtain ⟨b, off, e, hc7, hb, r0, r1, r2, r3⟩ := (F7.out wc KI.out).rect hit
                subst e
                have hpos := HPO.out N[i] (List.getElem_mem hit)
                have HBE : Hid (∀ k, (hk : k < i) → Rc.Before (N[k]'(Nat.lt_trans hk hit)) N[i]) := Lib.hid fun k hk => List.pairwise_iff_getElem.1 HOR.out k i (Nat.lt_trans hk hit) hit hk
                obtain ⟨r, hr⟩ : ∃ r, N[i] = r := ⟨_, rfl⟩
                simp only [hr] at r0 r1 r2 r3 hpos HBE
                obtain ⟨a0, a1, a2, a3⟩ := r
                simp only [] at r0 r1 r2 r3 hpos
                have hx : ¬ a2 ≤ a0 := by omega
                have hy : ¬ a3 ≤ a1 := by omega
                obtain ⟨B12, hB12⟩ : ∃ B, wc.heap.size = B := ⟨_, rfl⟩
                obtain ⟨wd, hwd⟩ : ∃ x, wc.alloc (Obj.cells #[.int .i64 a0, .int .i64 a1, .int .i64 a2, .int .i64 a3] 44) = x := ⟨_, rfl⟩
                have KD : Hid (Kp w3 wd none) := Lib.hid (by rw [← hwd]; exact KI.out.alloc _)
                have hnew := heap_alloc_new wc (Obj.cells #[.int .i64 a0, .int .i64 a1, .int .i64 a2, .int .i64 a3] 44)
                rw [hwd, hB12] at hnew
                have HB : Hid (∀ V, Kp wd V none → V.cell? ⟨B12, 0, none⟩ = some (.int .i64 a0) ∧ V.cell? ⟨B12, 1, none⟩ = some (.int .i64 a1) ∧ V.cell? ⟨B12, 2, none⟩ = some (.int .i64 a2) ∧ V.cell? ⟨B12, 3, none⟩ = some (.int .i64 a3)) := Lib.hid fun V kk => by
                  have h := (kk.block B12 (lt_of_block hnew) (by simp)).trans hnew
                  exact ⟨by rw [cell_of_row _ _ _ _ _ _ h]; rfl, by rw [cell_of_row _ _ _ _ _ _ h]; rfl, by rw [cell_of_row _ _ _ _ _ _ h]; rfl, by rw [cell_of_row _ _ _ _ _ _ h]; rfl⟩
                obtain ⟨s0, s1, s2, s3⟩ := HB.out wd (Kp.refl _ _)
                clear hnew hpos
                go_wp2_with fail
                clear s0 s1 s2 s3 r0 r1 r2 r3 hwd
                go_loopw [13] (fun vk wr => ∃ k : Nat, k ≤ i ∧ vk = .int .i64 k ∧ Kp wd wr none) (fun vk _ => i - (intOf vk).toNat)
                case atStart => exact ⟨0, Nat.zero_le _, rfl, Kp.refl _ _⟩
                case round =>
                  obtain ⟨we, hwe⟩ : ∃ x, x = wr := ⟨_, rfl⟩
                  subst hwe
                  obtain ⟨k, hk, rfl, hK⟩ := hrel
                  have KE := Lib.hid hK
                  clear hK
                  have hk0 : (0 : Int) ≤ (k : Int) := Int.natCast_nonneg _
                  by_cases hki : k < i
                  · have hk1 : (k : Int) < (i : Int) := by omega
                    have hkN : k < N.length := by omega
                    have hk1' : (k : Int) < (N.length : Int) := by omega
                    obtain ⟨b', off', e, _, hb', t0, t1, t2, t3⟩ := (F7.out we (KD.out.trans KE.out)).rect hkN
                    injection e with e
                    injection e with e1 e2
                    subst e1
                    subst e2
                    have hbe := HBE.out k hki
                    obtain ⟨r, hr2⟩ : ∃ r, N[k] = r := ⟨_, rfl⟩
                    simp only [hr2] at t0 t1 t2 t3 hbe
                    obtain ⟨b0, b1, b2, b3⟩ := r
                    simp only [] at t0 t1 t2 t3
                    unfold Rc.Before at hbe
                    simp only [] at hbe
                    obtain ⟨B14, hB14⟩ : ∃ B, we.heap.size = B := ⟨_, rfl⟩
                    obtain ⟨wf, hwf⟩ : ∃ x, we.alloc (Obj.cells #[.int .i64 b0, .int .i64 b1, .int .i64 b2, .int .i64 b3] 44) = x := ⟨_, rfl⟩
                    have KF : Hid (Kp wd wf none) := Lib.hid (by rw [← hwf]; exact KE.out.alloc _)
                    have h := heap_alloc_new we (Obj.cells #[.int .i64 b0, .int .i64 b1, .int .i64 b2, .int .i64 b3] 44)
                    rw [hwf, hB14] at h
                    have z0 : wf.cell? ⟨B14, 0, none⟩ = some (.int .i64 b0) := by rw [cell_of_row _ _ _ _ _ _ h]; rfl
                    have z1 : wf.cell? ⟨B14, 1, none⟩ = some (.int .i64 b1) := by rw [cell_of_row _ _ _ _ _ _ h]; rfl
                    have z2 : wf.cell? ⟨B14, 2, none⟩ = some (.int .i64 b2) := by rw [cell_of_row _ _ _ _ _ _ h]; rfl
                    have z3 : wf.cell? ⟨B14, 3, none⟩ = some (.int .i64 b3) := by rw [cell_of_row _ _ _ _ _ _ h]; rfl
                    obtain ⟨s0, s1, s2, s3⟩ := HB.out wf KF.out
                    clear h
                    have hgt : ¬ a1 < b1 := by omega
                    rcases hbe with ⟨q0, q1, q2⟩ | ⟨q0, q1⟩
                    · subst q0
                      subst q2
                      have g1 : ¬ a0 ≤ b2 := by omega
                      clear q1
                      go_wp2_with fail
                      go_roundw
                      case rel => exact ⟨k + 1, by omega, by simp, KF.out⟩
                      case measure => simp [intOf]; omega
                    · have g0 : (b1 == a1) = false := by rw [beq_eq_false_iff_ne]; omega
                      have g1 : ¬ a1 < b3 := by omega
                      clear q1
                      go_wp2_with fail
                      go_roundw
                      case rel => exact ⟨k + 1, by omega, by simp, KF.out⟩
                      case measure => simp [intOf]; omega
                  · have hk1 : ¬ (k : Int) < (i : Int) := by omega
                    go_wp2_with fail
                    go_roundw
                    case rel => exact ⟨i + 1, by omega, by simp, KD.out.trans KE.out⟩
                    case measure => simp [intOf]; omega
              · have hi1' : ¬ (i : Int) < (N.length : Int) := by omega
                go_wp2_with fail
                go_ret
                exact ⟨rfl, KW.out.trans KI.out⟩

end Go.Proofs.Ytpakiabnhdoijaa
