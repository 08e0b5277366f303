/- The law PlotLong: a file of more than 262144 bytes is refused, and one that has not is not. Condition: the library's table of powers. -/
import Derived.Test.YtggplbenliaodaaDoorSn
import Derived.Test.YtggplbenliaodaaDoorPlM
namespace Go.Proofs.YtggplbenliaodaaDoor
open Go.RowKit

def zDT : DT := ⟨⟨⟨0, [], 0⟩, false⟩, none, 0⟩
theorem made4 (a b c d : Value) (n : Nat) : (madeCells #[a, b, c, d] (n * 4)).toList = (List.replicate n ()).flatMap fun _ => [a, b, c, d] := by
  induction n with
  | zero => simp [madeCells]
  | succ n ih =>
    have e : ∀ m, (madeCells #[a, b, c, d] m).toList = (List.range m).map (fun i => (#[a, b, c, d] : Array Value)[i % 4]!) := fun m => by
      unfold madeCells; rw [Array.toList_map, Array.toList_range]; rfl
    rw [e] at ih
    rw [e, show (n + 1) * 4 = n * 4 + 1 + 1 + 1 + 1 by omega, List.range_succ, List.range_succ, List.range_succ, List.range_succ]
    simp only [List.map_append, List.map_cons, List.map_nil]
    rw [ih, List.replicate_succ', List.flatMap_append]
    have m0 : n * 4 % 4 = 0 := by omega
    have m1 : (n * 4 + 1) % 4 = 1 := by omega
    have m2 : (n * 4 + 1 + 1) % 4 = 2 := by omega
    have m3 : (n * 4 + 1 + 1 + 1) % 4 = 3 := by omega
    rw [m0, m1, m2, m3]
    simp
theorem made_dts (n : Nat) : (madeCells #[.int .i64 0, .slice none 0 0, .int .i64 0, .bool false] (n * 4)).toList = (List.replicate n zDT).flatMap dtC := by
  have h := made4 (.int .i64 0) (.slice none 0 0) (.int .i64 0) (.bool false) n
  refine Eq.trans h ?_
  induction n with
  | zero => rfl
  | succ n ih =>
    have e := made4 (.int .i64 0) (.slice none 0 0) (.int .i64 0) (.bool false) n
    rw [List.replicate_succ, List.replicate_succ, List.flatMap_cons, List.flatMap_cons, ih e]
    rfl
def LgRel (w : World) (g n : Nat) (i : Value) (wr : World) : Prop := ∃ (k : Nat) (us : List DT), k ≤ n ∧ i = .int .i64 k ∧ us.length = k ∧ (∀ z ∈ us, z.d = Pl.dsc) ∧ (∀ z ∈ us, LiesAt 7 edC wr z.ea z.ec z.d.s.es ∧ ∀ p, z.ea = some p → p.block ≠ g) ∧ Kp w wr none ∧ wr.ownsRow g 31 4 (.slice (some ⟨g, 0, none⟩) n n) n ((us ++ List.replicate (n - k) zDT).flatMap dtC)
set_option maxHeartbeats 16000000 in
set_option maxRecDepth 100000 in
theorem plong_any (m : Nat) (hm : m < 256) (w : World) (he : Env w) : Calls Tryd.prog 3 #[.int .u8 m] w fun E w' => E = .returned (.bool true) ∧ Kp w w' none := by
  have HE := Lib.hid he
  have hm0 : (0 : Int) ≤ (m : Int) := Int.natCast_nonneg _
  obtain ⟨j, hj⟩ : ∃ j : Nat, (m : Int) % 40 = (j : Int) := ⟨m % 40, by omega⟩
  have hj40 : j < 40 := by omega
  have hjt : (m : Int).tmod 40 = (j : Int) := by rw [Int.tmod_eq_emod_of_nonneg hm0]; exact hj
  obtain ⟨n, hn⟩ : ∃ n : Nat, 29100 + j = n := ⟨_, rfl⟩
  have hnI : (29100 : Int) + (j : Int) = (n : Int) := by omega
  have hn1 : (n : Int) ≤ 29139 := by omega
  have hn2 : (29100 : Int) ≤ (n : Int) := by omega
  have hjI : (j : Int) < 40 := by omega
  have hj0 : (0 : Int) ≤ (j : Int) := Int.natCast_nonneg _
  have HNB : Hid (29100 ≤ n ∧ n ≤ 29139) := Lib.hid (by omega)
  clear he
  obtain ⟨i0, hi, hz0, hz1, hz2⟩ := info_parts infoDr
  have hmb : i0.bytes * n ≤ 281474976710656 := by rw [hz2]; omega
  have hml : n ≤ maxLen := by unfold maxLen; omega
  go_enter Tryd.func3, Tryd.ntmps3
  go_wp2_with fail
  refine (sanity_any _ HE.out).mono ?_
  rintro E w1 ⟨rfl, k1⟩
  have K1 := Lib.hid k1
  clear k1
  go_wp2_with (at_make; go_must (refine wpList_make_full _ (by rfl) _ _ _ (by rfl) w1.heap.size 31 i0 _ 4 Tryd.underlying23 hi hz0 hz1 .i64 .i64 n n n (by rfl) (by rfl) rfl rfl hmb hml (Nat.le_refl _) ?_))
  intro w2 ho2 hg2
  obtain ⟨g, hgd⟩ : ∃ g, w1.heap.size = g := ⟨_, rfl⟩
  rw [made_dts, hgd] at ho2
  rw [hgd]
  have HO2 := Lib.hid ho2
  have K2 : Hid (Kp w1 w2 none) := Lib.hid hg2
  have HG := Lib.hid hgd
  clear ho2 hg2 hgd hj hjt
  go_wp2_with fail
  go_loopw [19] (fun i wr => LgRel w1 g n i wr) (fun i _ => n - (intOf i).toNat)
  case atStart => exact ⟨0, [], Nat.zero_le _, rfl, rfl, fun z hz => (by cases hz), fun z hz => (by cases hz), K2.out, by simpa using HO2.out⟩
  case round =>
    obtain ⟨k, us, hk, rfl, hul, hud, hed, hK, hO⟩ := hrel
    have HK := Lib.hid hK
    have HO := Lib.hid hO
    have HED := Lib.hid hed
    have HUL := Lib.hid hul
    have HUD := Lib.hid hud
    clear hK hO hed hul hud HO2
    have hk0 : (0 : Int) ≤ (k : Int) := Int.natCast_nonneg _
    by_cases hlt : k < n
    · have hk1 : (k : Int) < (n : Int) := by omega
      have hdr : List.replicate (n - k) zDT = zDT :: List.replicate (n - (k + 1)) zDT := by rw [show n - k = (n - (k + 1)) + 1 by omega, List.replicate_succ]
      have HLR : Hid ((∃ h : k < (us ++ List.replicate (n - k) zDT).length, (us ++ List.replicate (n - k) zDT)[k] = zDT) ∧ (∀ y, (us ++ List.replicate (n - k) zDT).set k y = us ++ y :: (us ++ List.replicate (n - k) zDT).drop (k + 1)) ∧ (us ++ List.replicate (n - k) zDT).drop (k + 1) = List.replicate (n - (k + 1)) zDT) := Lib.hid (by
        have hu := HUL.out
        have hd : (us ++ List.replicate (n - k) zDT).drop (k + 1) = List.replicate (n - (k + 1)) zDT := by
          rw [List.drop_append, hu, show k + 1 - k = 1 by omega, List.drop_eq_nil_of_le (by omega), List.nil_append, hdr]; rfl
        refine ⟨⟨by rw [List.length_append, hu, hdr, List.length_cons]; omega, ?_⟩, fun y => ?_, hd⟩
        · simp only [hdr]
          rw [List.getElem_append_right (by omega)]
          simp [hu]
        · rw [hd, List.set_append_right _ _ (by omega), hu, Nat.sub_self, hdr, List.set_cons_zero])
      have HEL : Hid (∀ V : World, V.ownsRow g 31 4 (.slice (some ⟨g, 0, none⟩) n n) n ((us ++ List.replicate (n - k) zDT).flatMap dtC) → V.cell? ⟨g, k * 4, none⟩ = some (.int .i64 0) ∧ V.cell? ⟨g, k * 4 + 1, none⟩ = some (.slice none 0 0) ∧ V.cell? ⟨g, k * 4 + 2, none⟩ = some (.int .i64 0)) := Lib.hid (fun V h => by
        obtain ⟨⟨hk9, hge⟩, _⟩ := HLR.out
        have key : ∀ j (hj : j < 4), V.cell? ⟨g, k * 4 + j, none⟩ = some ((dtC zDT)[j]'(by simpa [dtC] using hj)) := fun j hj => by
          have h9 := flat_get 4 dtC (fun _ => rfl) (us ++ List.replicate (n - k) zDT) k j hk9 (by simpa [dtC] using hj)
          have := h.cells rfl (k * 4 + j) _ h9
          rw [show ((⟨g, 0, none⟩ : Addr).add (k * 4 + j)) = ⟨g, k * 4 + j, none⟩ by unfold Addr.add; split <;> simp_all] at this
          rw [this]
          simp only [hge]
        exact ⟨key 0 (by omega), key 1 (by omega), key 2 (by omega)⟩)
      go_wp2_with fail
      refine (disc_any 0 0 1 _).mono ?_
      rintro E w2 ⟨ea, ec, rfl, hl, hf, kk⟩
      have HO3 := Lib.hid (HO.out.kept kk (by cases (Value.slice (some ⟨g, 0, none⟩) n n).ownBlock <;> simp))
      have K3 := Lib.hid (HK.out.trans kk)
      have HL3 := Lib.hid hl
      have HF3 : Hid (∀ p, ea = some p → p.block ≠ g) := Lib.hid (fun p hp => by have h1 := hf p hp; have h2 := (HO.out.lt g rfl).2; omega)
      have HE3 := Lib.hid (fun z hz => And.intro ((HED.out z hz).1.keep kk) (HED.out z hz).2)
      obtain ⟨q0, q1, q2⟩ := HEL.out _ HO3.out
      have f0 := HO3.out.frozenAt (k * 4)
      have f1 := HO3.out.frozenAt (k * 4 + 1)
      have f2 := HO3.out.frozenAt (k * 4 + 2)
      have o1 := HO3.out.stored (k * 4) (.int .i64 1)
      have o2 := o1.1.stored (k * 4 + 1) (.slice ea 1 ec)
      have o3 := o2.1.stored (k * 4 + 2) (.int .i64 1)
      have kz := ((o1.2.trans o2.2).trans o3.2)
      have HO4 := Lib.hid (row_set3 (x := zDT) (y := ⟨Pl.dsc, ea, ec⟩) o3.1 HLR.out.1 HLR.out.2.1 rfl)
      have K4 := Lib.hid (K3.out.of_own kz (by have := HG.out; omega))
      have HL4 := Lib.hid (HL3.out.keepRow kz HF3.out)
      have HE4 := Lib.hid (fun z hz => (HE3.out z hz).1.keepRow kz (HE3.out z hz).2)
      have HREL : Hid (LgRel w1 g n (.int .i64 (k + 1)) (((w2.setCell ⟨g, k * 4, none⟩ (.int .i64 1)).setCell ⟨g, k * 4 + 1, none⟩ (.slice ea 1 ec)).setCell ⟨g, k * 4 + 2, none⟩ (.int .i64 1))) := Lib.hid ⟨k + 1, us ++ [⟨Pl.dsc, ea, ec⟩], hlt, by go_num, by rw [List.length_append, HUL.out]; rfl, fun z hz => by
          rcases List.mem_append.1 hz with hz | hz
          · exact HUD.out z hz
          · rw [List.mem_singleton.1 hz], fun z hz => by
          rcases List.mem_append.1 hz with hz | hz
          · exact ⟨HE4.out z hz, (HE3.out z hz).2⟩
          · rw [List.mem_singleton.1 hz]; exact ⟨HL4.out, HF3.out⟩, K4.out, by have h := HO4.out; rw [HLR.out.2.2] at h; rw [List.append_assoc]; exact h⟩
      clear hl hf kk o1 o2 o3 kz HO4 K4 HL4 HE4 hdr
      go_wp2_with fail
      first | exact ⟨HREL.out, by simp [intOf]; omega⟩ | (go_roundw; all_goals first | exact HREL.out | (simp [intOf]; omega))
    · have hk1 : ¬ (k : Int) < (n : Int) := by omega
      have hkn : k = n := by omega
      subst hkn
      have hue : us.map (·.d) = List.replicate k Pl.dsc := List.eq_replicate_iff.2 ⟨by rw [List.length_map]; exact HUL.out, fun d hd => by obtain ⟨z, hz, rfl⟩ := List.mem_map.1 hd; exact HUD.out z hz⟩
      have HLI : Hid (LiesAt 4 dtC wr (some ⟨g, 0, none⟩) k us) := Lib.hid (own_lies (m := 4) (f := dtC) (fun _ => rfl) (by have h := HO.out; rw [Nat.sub_self, List.replicate_zero, List.append_nil] at h; rw [HUL.out]; exact h)).2
      have HWR := Lib.hid (write_any (us.map (·.d)) k (by rw [List.length_map]; exact HUL.out) (some ⟨g, 0, none⟩) k wr (HE.out.kp0 (K1.out.trans HK.out)) (drs_lies HLI.out (fun z hz => (HED.out z hz).1)) (by omega))
      rw [hue] at HWR
      have hw9 : (0 : Nat) < k := by have := HNB.out; omega
      have hwd := Pl.write_dscs k hw9
      have hfl := Pl.file_dscs k hw9
      by_cases hbig : 262144 < 64 + 9 * k
      · have HW2 : Hid (Calls Tryd.prog 6 #[.slice (some ⟨g, 0, none⟩) k k] wr fun E w' => E = .returned (.tuple #[.string ⟨#[]⟩, .int .i64 2]) ∧ Kp wr w' none) := Lib.hid (HWR.out.mono fun E V hw => by
          unfold WriteIs at hw
          rw [hwd, if_pos hbig] at hw
          exact hw)
        have hbI : (262144 : Int) < 64 + (k : Int) * 9 := by omega
        clear hue hwd hfl HWR hw9
        go_wp2_with fail
        refine HW2.out.mono ?_
        rintro E w3 ⟨rfl, k3⟩
        have K3 := Lib.hid k3
        clear k3
        go_wp2_with fail
        go_ret
        exact ⟨rfl, K1.out.trans (HK.out.trans K3.out)⟩
      · obtain ⟨T, hT⟩ : ∃ T, Pl.fileT (List.replicate k Pl.dsc) = T := ⟨_, rfl⟩
        have HW2 : Hid (Calls Tryd.prog 6 #[.slice (some ⟨g, 0, none⟩) k k] wr fun E w' => E = .returned (.tuple #[.string ⟨T.toArray⟩, .int .i64 0]) ∧ Kp wr w' none) := Lib.hid (HWR.out.mono fun E V hw => by
          unfold WriteIs at hw
          rw [hwd, if_neg hbig, hT] at hw
          exact hw)
        have hbI : ¬ (262144 : Int) < 64 + (k : Int) * 9 := by omega
        rw [hT] at hfl
        have hTl : (T.length : Int) = 64 + (k : Int) * 9 := by omega
        clear hue hwd hfl HWR hw9 hT
        go_wp2_with fail
        refine HW2.out.mono ?_
        rintro E w3 ⟨rfl, k3⟩
        have K3 := Lib.hid k3
        clear k3
        go_wp2_with fail
        go_ret
        exact ⟨rfl, K1.out.trans (HK.out.trans K3.out)⟩

end Go.Proofs.YtggplbenliaodaaDoor
