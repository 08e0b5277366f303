/- ListsLine's walk: a line that is replaced by a text that is none is named. No condition but what its arguments read as. -/
import Derived.Test.YtldjhjbodhhnbaaDoorLc
namespace Go.Proofs.YtldjhjbodhhnbaaDoor
open Go.RowKit

theorem byte_conv (c : UInt8) (w : World) : (convert 34 9 (.slice (some ⟨w.heap.size, 0, none⟩) 1 1)).run Tryd.prog (w.alloc (.cells #[.int .u8 c.toNat] 5)) = .ok (.string ⟨[c].toArray⟩) (w.alloc (.cells #[.int .u8 c.toNat] 5)) :=
  run_convert_bytes_back (P := Tryd.prog) (w.alloc (.cells #[.int .u8 c.toNat] 5)) 34 9 5 ⟨w.heap.size, 0, none⟩ 1 [c] Tryd.underlying34 Tryd.underlying5 Tryd.underlying9 (fun j hj => by
    have : j = 0 := by simpa using hj
    subst this
    show (w.alloc _).cell? ⟨w.heap.size, 0 + 0, none⟩ = _
    simp only [World.cell?, heap_alloc_new]
    simp)
theorem one_rows2 (w : World) (x : List Li.Fld) (T : TypeId) (N : Nat) (hN : w.heap.size = N) : IsRows (w.alloc (.cells (x.map fldVal).toArray T)) (.slice (some ⟨N, 0, none⟩) 1 1) [x] := hN ▸ one_rows w x T
abbrev lns (l : List (List Li.Fld)) : List UInt8 := l.flatMap fun x => Li.lineOf Li.place x ++ [10]
def sTo (ys : List (List Li.Fld)) (k : Nat) (b : UInt8) (j : Nat) : List UInt8 := if j ≤ k then lns (ys.take j) else lns (ys.take k) ++ (b :: lns ((ys.take j).drop k))
theorem sTo_at (ys : List (List Li.Fld)) (k : Nat) (b : UInt8) (hk : k < ys.length) : sTo ys k b (k + 1) = (sTo ys k b k ++ [b]) ++ (Li.lineOf Li.place ys[k] ++ [10]) := by
  unfold sTo
  rw [if_neg (by omega), if_pos (Nat.le_refl k), List.drop_take, show k + 1 - k = 1 by omega, show (ys.drop k).take 1 = [ys[k]] by rw [List.drop_eq_getElem_cons hk]; rfl]
  simp only [lns, List.flatMap_cons, List.flatMap_nil, List.append_nil, List.append_assoc, List.cons_append, List.nil_append]
theorem sTo_off (ys : List (List Li.Fld)) (k : Nat) (b : UInt8) (j : Nat) (hj : j < ys.length) (hne : j ≠ k) : sTo ys k b (j + 1) = sTo ys k b j ++ (Li.lineOf Li.place ys[j] ++ [10]) := by
  unfold sTo
  rcases Nat.lt_or_ge j k with h | h
  · rw [if_pos (by omega), if_pos (by omega), List.take_succ_eq_append_getElem hj]
    simp only [lns, List.flatMap_append, List.flatMap_cons, List.flatMap_nil, List.append_nil]
  · rw [if_neg (by omega), if_neg (by omega), List.take_succ_eq_append_getElem hj, List.drop_append_of_le_length (by rw [List.length_take]; omega)]
    simp only [lns, List.flatMap_append, List.flatMap_cons, List.flatMap_nil, List.append_nil, List.append_assoc, List.cons_append]
theorem lns_len {ys : List (List Li.Fld)} (hg : ∀ x ∈ ys, Li.Good Li.rowK x) (hs : ∀ x ∈ ys, ∀ t, Li.Fld.s t ∈ x → t.length ≤ 40) : (lns ys).length ≤ 744 * ys.length := lines_len rfl rfl hg hs
theorem sTo_len {ys : List (List Li.Fld)} (hg : ∀ x ∈ ys, Li.Good Li.rowK x) (hs : ∀ x ∈ ys, ∀ t, Li.Fld.s t ∈ x → t.length ≤ 40) (h8 : ys.length ≤ 8) (k : Nat) (b : UInt8) (j : Nat) : (sTo ys k b j).length ≤ 12000 := by
  have key : ∀ zs : List (List Li.Fld), (∀ x ∈ zs, x ∈ ys) → zs.length ≤ 8 → (lns zs).length ≤ 5952 := fun zs hz hl => by
    have := lns_len (fun x hx => hg x (hz x hx)) (fun x hx => hs x (hz x hx)); omega
  unfold sTo
  split
  · have := key (ys.take j) (fun x hx => List.mem_of_mem_take hx) (by rw [List.length_take]; omega); omega
  · have h1 := key (ys.take k) (fun x hx => List.mem_of_mem_take hx) (by rw [List.length_take]; omega)
    have h2 := key ((ys.take j).drop k) (fun x hx => List.mem_of_mem_take (List.mem_of_mem_drop hx)) (by rw [List.length_drop, List.length_take]; omega)
    rw [List.length_append, List.length_cons]; omega
theorem sTo_bad {ys : List (List Li.Fld)} (hg : ∀ x ∈ ys, Li.Good Li.rowK x) (k : Nat) (b : UInt8) (hk : k < ys.length) (hb : b ≠ 112) (hb2 : b ≠ 10) (t : List UInt8) : Li.readFile Li.place Li.rowK (sTo ys k b ys.length ++ t) = .bad (k + 1) := by
  have h := Li.read_odd (kind := Li.place) (ks := Li.rowK) (_m := []) Li.place_kind (l := ys.take k) (fun x hx => hg x (List.mem_of_mem_take hx)) (x := ys[k]) b hb hb2 (lns (ys.drop (k + 1)) ++ t)
  rw [List.length_take, Nat.min_eq_left (by omega)] at h
  rw [← h]
  congr 1
  unfold sTo
  rw [if_neg (by omega), List.take_length, List.drop_eq_getElem_cons hk]
  simp only [lns, List.flatMap_cons, List.append_assoc, List.cons_append, List.nil_append]
def LineRel (w2 : World) (ys : List (List Li.Fld)) (k : Nat) (b : UInt8) (v10 v39 : Value) (wr : World) : Prop :=
  ∃ j : Nat, j ≤ ys.length ∧ v39 = .int .i64 j ∧ v10 = .string ⟨(sTo ys k b j).toArray⟩ ∧ Kp w2 wr none
set_option maxHeartbeats 4000000 in
set_option maxRecDepth 100000 in
theorem line_done (v0 : Value) (xs0 : List (List Li.Fld)) (w : World) (he : Env w) (h0 : IsArg w v0 xs0) (hg0 : ∀ x ∈ xs0, ArgEl Li.rowK x) (c : Int) (hc : 0 ≤ c) (hc2 : c < 256) (bt : UInt8) (hb : bt ≠ 112 ∧ bt ≠ 10) (hne : xs0 ≠ []) :
    Calls Tryd.prog 4 #[v0, .int .u8 c, .int .u8 bt.toNat] w fun E w' => E = .returned (.bool true) ∧ Kp w w' none := by
  have HE := Lib.hid he
  have H0 := Lib.hid h0
  have G0 := Lib.hid hg0
  have hlen := h0.len
  have hbt := Lib.hid hb
  have hb1 : ((bt.toNat : Int) == 112) = false := beq_eq_false_iff_ne.2 (fun e => hb.1 (UInt8.toNat.inj (by show bt.toNat = 112; omega)))
  have hb2 : ((bt.toNat : Int) == 10) = false := beq_eq_false_iff_ne.2 (fun e => hb.2 (UInt8.toNat.inj (by show bt.toNat = 10; omega)))
  obtain ⟨ys, hys⟩ : ∃ ys, xs0.map cutX = ys := ⟨_, rfl⟩
  have hyl : ys.length ≤ 8 := by rw [← hys, List.length_map]; exact hlen
  have hy0 : 0 < ys.length := by rw [← hys, List.length_map]; exact List.length_pos_iff.2 hne
  have GY := Lib.hid (hys ▸ cut_all hg0)
  have SY := Lib.hid (hys ▸ cut_short hg0)
  have HYS := Lib.hid hys
  clear he h0 hg0 hb hne hys hlen
  obtain ⟨k, hk⟩ : ∃ k : Nat, c % (ys.length : Int) = (k : Int) := ⟨(c % (ys.length : Int)).toNat, by have := Int.emod_nonneg c (show (ys.length : Int) ≠ 0 by omega); omega⟩
  have hkl : k < ys.length := by have := Int.emod_lt_of_pos c (show (0 : Int) < (ys.length : Int) by omega); omega
  have hkt : c.tmod (ys.length : Int) = (k : Int) := by rw [Int.tmod_eq_emod_of_nonneg hc]; exact hk
  go_enter Tryd.func4, Tryd.ntmps4
  go_wp2_with fail
  refine (sanity_any _ HE.out).mono ?_
  rintro e w1 ⟨rfl, k⟩
  have K1 := Lib.hid k
  clear k
  go_wp2_with fail
  refine (rows_any v0 xs0 _ (H0.out.keep K1.out) G0.out).mono ?_
  rintro e w2 ⟨u2, rfl, hr, k2⟩
  have K2 := Lib.hid (K1.out.trans k2)
  rw [HYS.out] at hr
  obtain ⟨b, off, cap, rfl, hcap, hbl, hcell⟩ : ∃ b off cap, u2 = .slice (some ⟨b, off, none⟩) ys.length cap ∧ ys.length ≤ cap ∧ b < w2.heap.size ∧ ∀ k, (h : k < ys.length) → ∀ j, (h2 : j < ys[k].length) → w2.cell? ⟨b, off + k * 6 + j, none⟩ = some (fldVal ys[k][j]) := by
    rcases hr with ⟨_, _, _, h⟩ | h
    · rw [h] at hy0; simp at hy0
    · exact h
  have HC := Lib.hid hcell
  clear hr k2 hcell
  have hyi : (0 : Int) < (ys.length : Int) := by omega
  have hyn : ((ys.length : Int) == 0) = false := beq_eq_false_iff_ne.2 (by omega)
  have hy8 : (ys.length : Int) ≤ 8 := by omega
  go_wp2_with fail
  go_loopw [10, 39] (fun v10 v39 wr => LineRel w2 ys k bt v10 v39 wr) (fun _ v39 _ => ys.length - (intOf v39).toNat)
  case atStart => exact ⟨0, Nat.zero_le _, rfl, by unfold sTo; rw [if_pos (Nat.zero_le _)]; rfl, Kp.refl _ _⟩
  case round =>
    obtain ⟨j, hj, rfl, rfl, hK⟩ := hrel
    have HK := Lib.hid hK
    have hsl := sTo_len (fun x hx => (GY.out x hx).1) SY.out hyl k bt j
    obtain ⟨sj, hsj⟩ : ∃ sj, sTo ys k bt j = sj := ⟨_, rfl⟩
    rw [hsj] at hsl ⊢
    have HSJ := Lib.hid hsj
    have hbz := HK.out.size
    clear hK hsj
    have hj0 : (0 : Int) ≤ (j : Int) := by omega
    by_cases hlt : j < ys.length
    · have hj1 : (j : Int) < (ys.length : Int) := by omega
      obtain ⟨x, hx⟩ : ∃ x, ys[j] = x := ⟨_, rfl⟩
      have HA : Hid (∀ i, (h2 : i < x.length) → w2.cell? ⟨b, off + j * 6 + i, none⟩ = some (fldVal x[i])) := Lib.hid (by subst hx; exact HC.out j hlt)
      have hgx : Li.Good Li.rowK x ∧ Short x := by subst hx; exact GY.out _ (List.getElem_mem hlt)
      have hll : (Li.lineOf Li.place x ++ [10]).length ≤ 744 := by
        have h := lns_len (ys := [x]) (by simpa using hgx.1) (by subst hx; simpa using SY.out _ (List.getElem_mem hlt))
        simpa [lns] using h
      have HX := Lib.hid hx
      have HGX := Lib.hid hgx
      clear hx hgx
      obtain ⟨ra, rb, rx, ry, rt, ru, rfl, _, _, _⟩ := Li.good_row HGX.out.1
      have cc : ∀ i, wr.cell? ⟨b, off + j * 6 + i, none⟩ = w2.cell? ⟨b, off + j * 6 + i, none⟩ := fun i => HK.out.below.cell (p := ⟨b, off + j * 6 + i, none⟩) hbl
      have c0 : wr.cell? ⟨b, off + j * 6, none⟩ = some (.string ⟨ra.toArray⟩) := (cc 0).trans (HA.out 0 (by simp))
      have c1 : wr.cell? ⟨b, off + j * 6 + 1, none⟩ = some (.string ⟨rb.toArray⟩) := (cc 1).trans (HA.out 1 (by simp))
      have c2 : wr.cell? ⟨b, off + j * 6 + 2, none⟩ = some (.int .i64 rx) := (cc 2).trans (HA.out 2 (by simp))
      have c3 : wr.cell? ⟨b, off + j * 6 + 3, none⟩ = some (.int .i64 ry) := (cc 3).trans (HA.out 3 (by simp))
      have c4 : wr.cell? ⟨b, off + j * 6 + 4, none⟩ = some (.int .i64 rt) := (cc 4).trans (HA.out 4 (by simp))
      have c5 : wr.cell? ⟨b, off + j * 6 + 5, none⟩ = some (.bool ru) := (cc 5).trans (HA.out 5 (by simp))
      clear cc HA
      obtain ⟨lx, hlx⟩ : ∃ lx, Li.lineOf Li.place [Li.Fld.s ra, Li.Fld.s rb, Li.Fld.i rx, Li.Fld.i ry, Li.Fld.i rt, Li.Fld.b ru] ++ [10] = lx := ⟨_, rfl⟩
      rw [hlx] at hll
      obtain ⟨F, hF⟩ : ∃ F, Li.fileOf Li.place [[Li.Fld.s ra, Li.Fld.s rb, Li.Fld.i rx, Li.Fld.i ry, Li.Fld.i rt, Li.Fld.b ru]] = F := ⟨_, rfl⟩
      have hFe : F = lx ++ [101, 110, 100, 32, 49, 10] := by rw [← hF, file_one, ← hlx]; simp
      have hFl : (F.length : Int) = (lx.length : Int) + 6 := by rw [hFe]; simp
      have hFx : (⟨F.toArray⟩ : ByteArray).extract 0 lx.length = ⟨lx.toArray⟩ := by rw [ext_take, hFe]; simp
      have HLX := Lib.hid hlx
      have HF := Lib.hid hF
      have hl0 : (0 : Int) ≤ (lx.length : Int) := by omega
      clear hlx hF hFe
      go_wp2_with fail
      clear c0 c1 c2 c3 c4 c5
      refine (wrows_lit _ [[Li.Fld.s ra, Li.Fld.s rb, Li.Fld.i rx, Li.Fld.i ry, Li.Fld.i rt, Li.Fld.b ru]] F _ ((HE.out.kp0 (K2.out.trans (HK.out.alloc _))).kp0 ((Kp.refl _ _).alloc _)) (one_rows2 (wr.alloc (.cells #[.string ⟨ra.toArray⟩, .string ⟨rb.toArray⟩, .int .i64 rx, .int .i64 ry, .int .i64 rt, .bool ru] 33)) [Li.Fld.s ra, Li.Fld.s rb, Li.Fld.i rx, Li.Fld.i ry, Li.Fld.i rt, Li.Fld.b ru] 33 _ (by simp)) (by simp) (by simpa using HGX.out) HF.out).mono ?_
      rintro e w4 ⟨rfl, k4⟩
      have HK4 := Lib.hid (((HK.out.alloc _).alloc _).trans k4)
      clear k4
      have ce : ∀ a b : List UInt8, ((⟨a.toArray⟩ : ByteArray) ++ ⟨b.toArray⟩) = ⟨(a ++ b).toArray⟩ := cat_eq
      by_cases hjk : j = k
      · subst hjk
        have hcv := fun w => byte_conv bt w
        obtain ⟨y, hy⟩ : ∃ y, sj ++ [bt] = y := ⟨_, rfl⟩
        have hyl : y.length = sj.length + 1 := by rw [← hy]; simp
        have g0 : (9223372036854775807 < sj.length + 1) = False := eq_false (by omega)
        have g1 : (9223372036854775807 < y.length + lx.length) = False := eq_false (by omega)
        have HREL : Hid (LineRel w2 ys j bt (.string ⟨(y ++ lx).toArray⟩) (.int .i64 (j + 1)) (w4.alloc (.cells #[.int .u8 bt.toNat] 5))) := Lib.hid ⟨j + 1, hlt, by go_num, by rw [sTo_at ys j bt hlt, HX.out, HLX.out, HSJ.out, hy], HK4.out.alloc _⟩
        clear hyl
        go_wp2_with fail
        first | exact ⟨HREL.out, by simp [intOf]; omega⟩ | (go_roundw; all_goals first | exact HREL.out | (simp [intOf]; omega) | ((repeat apply Exists.intro); exact ⟨HREL.out, rfl⟩))
      · have hjk1 : ((j : Int) == (k : Int)) = false := beq_eq_false_iff_ne.2 (by omega)
        have hjk2 : (j == k) = false := beq_eq_false_iff_ne.2 hjk
        have g1 : (9223372036854775807 < sj.length + lx.length) = False := eq_false (by omega)
        have HREL : Hid (LineRel w2 ys k bt (.string ⟨(sj ++ lx).toArray⟩) (.int .i64 (j + 1)) w4) := Lib.hid ⟨j + 1, hlt, by go_num, by rw [sTo_off ys k bt j hlt hjk, HX.out, HLX.out, HSJ.out], HK4.out⟩
        go_wp2_with fail
        first | exact ⟨HREL.out, by simp [intOf]; omega⟩ | (go_roundw; all_goals first | exact HREL.out | (simp [intOf]; omega) | ((repeat apply Exists.intro); exact ⟨HREL.out, rfl⟩))
    · obtain rfl : j = ys.length := by omega
      have ce : ∀ a b : List UInt8, ((⟨a.toArray⟩ : ByteArray) ++ ⟨b.toArray⟩) = ⟨(a ++ b).toArray⟩ := cat_eq
      have ce8 : (⟨sj.toArray⟩ : ByteArray) ++ ⟨#[101, 110, 100, 32, 56, 10]⟩ = ⟨(sj ++ [101, 110, 100, 32, 56, 10]).toArray⟩ := cat_eq sj [101, 110, 100, 32, 56, 10]
      have g1 : (9223372036854775807 < sj.length + 6) = False := eq_false (by omega)
      have HBAD := Lib.hid (sTo_bad (fun x hx => (GY.out x hx).1) k bt hkl hbt.out.1 hbt.out.2 [101, 110, 100, 32, 56, 10])
      have hk0 : (0 : Int) ≤ (k : Int) := by omega
      have hk1 : (k : Int) < 8 := by omega
      go_wp2_with fail
      refine (readRows_any (sj ++ [101, 110, 100, 32, 56, 10]) (.bad (k + 1)) _ (HE.out.kp0 (K2.out.trans HK.out)) (by rw [List.length_append]; simp; omega) (by rw [← HSJ.out]; exact HBAD.out)).mono ?_
      rintro e w5 ⟨rfl, k5⟩
      have K5 := Lib.hid ((K2.out.trans HK.out).trans k5)
      clear k5
      go_wp2_with fail
      go_ret
      exact ⟨rfl, K5.out⟩
set_option maxHeartbeats 4000000 in
set_option maxRecDepth 100000 in
theorem line_none (v0 : Value) (xs0 : List (List Li.Fld)) (w : World) (he : Env w) (h0 : IsArg w v0 xs0) (hg0 : ∀ x ∈ xs0, ArgEl Li.rowK x) (c : Int) (bt : UInt8) (hne : xs0 = []) :
    Calls Tryd.prog 4 #[v0, .int .u8 c, .int .u8 bt.toNat] w fun E w' => E = .returned (.bool true) ∧ Kp w w' none := by
  have HE := Lib.hid he
  have H0 := Lib.hid h0
  have G0 := Lib.hid hg0
  have HN := Lib.hid hne
  clear he h0 hg0 hne
  go_enter Tryd.func4, Tryd.ntmps4
  go_wp2_with fail
  refine (sanity_any _ HE.out).mono ?_
  rintro e w1 ⟨rfl, k⟩
  have K1 := Lib.hid k
  clear k
  go_wp2_with fail
  refine (rows_any v0 xs0 _ (H0.out.keep K1.out) G0.out).mono ?_
  rintro e w2 ⟨u2, rfl, hr, k2⟩
  have K2 := Lib.hid (K1.out.trans k2)
  obtain ⟨ao, cap, rfl⟩ : ∃ ao cap, u2 = .slice ao 0 cap := by
    rw [HN.out] at hr
    rcases hr with ⟨ao, cap, h, _⟩ | ⟨b, off, cap, h, _⟩
    · exact ⟨_, _, h⟩
    · exact ⟨_, _, h⟩
  clear hr k2
  go_wp2_with fail
  go_ret
  exact ⟨rfl, K2.out⟩
set_option maxHeartbeats 4000000 in
set_option maxRecDepth 100000 in
theorem line_p (v0 : Value) (xs0 : List (List Li.Fld)) (w : World) (he : Env w) (h0 : IsArg w v0 xs0) (hg0 : ∀ x ∈ xs0, ArgEl Li.rowK x) (c : Int) (hne : xs0 ≠ []) :
    Calls Tryd.prog 4 #[v0, .int .u8 c, .int .u8 112] w fun E w' => E = .returned (.bool true) ∧ Kp w w' none := by
  have HE := Lib.hid he
  have H0 := Lib.hid h0
  have G0 := Lib.hid hg0
  have HN := Lib.hid hne
  clear he h0 hg0 hne
  go_enter Tryd.func4, Tryd.ntmps4
  go_wp2_with fail
  refine (sanity_any _ HE.out).mono ?_
  rintro e w1 ⟨rfl, k⟩
  have K1 := Lib.hid k
  clear k
  go_wp2_with fail
  refine (rows_any v0 xs0 _ (H0.out.keep K1.out) G0.out).mono ?_
  rintro e w2 ⟨u2, rfl, hr, k2⟩
  have K2 := Lib.hid (K1.out.trans k2)
  obtain ⟨ao, n, cap, rfl, hn⟩ : ∃ ao n cap, u2 = .slice ao n cap ∧ 0 < n := by
    rcases hr with ⟨_, _, _, h⟩ | ⟨b, off, cap, h, _⟩
    · exact absurd (List.map_eq_nil_iff.1 h) HN.out
    · exact ⟨_, _, _, h, by rw [List.length_map]; exact List.length_pos_iff.2 HN.out⟩
  have hyn : ((n : Int) == 0) = false := beq_eq_false_iff_ne.2 (by omega)
  have hyp : (0 : Int) < (n : Int) := by omega
  have hnz : (n == 0) = false := beq_eq_false_iff_ne.2 (by omega)
  clear hr k2
  go_wp2_with fail
  go_ret
  exact ⟨rfl, K2.out⟩
set_option maxHeartbeats 4000000 in
set_option maxRecDepth 100000 in
theorem line_lf (v0 : Value) (xs0 : List (List Li.Fld)) (w : World) (he : Env w) (h0 : IsArg w v0 xs0) (hg0 : ∀ x ∈ xs0, ArgEl Li.rowK x) (c : Int) (hne : xs0 ≠ []) :
    Calls Tryd.prog 4 #[v0, .int .u8 c, .int .u8 10] w fun E w' => E = .returned (.bool true) ∧ Kp w w' none := by
  have HE := Lib.hid he
  have H0 := Lib.hid h0
  have G0 := Lib.hid hg0
  have HN := Lib.hid hne
  clear he h0 hg0 hne
  go_enter Tryd.func4, Tryd.ntmps4
  go_wp2_with fail
  refine (sanity_any _ HE.out).mono ?_
  rintro e w1 ⟨rfl, k⟩
  have K1 := Lib.hid k
  clear k
  go_wp2_with fail
  refine (rows_any v0 xs0 _ (H0.out.keep K1.out) G0.out).mono ?_
  rintro e w2 ⟨u2, rfl, hr, k2⟩
  have K2 := Lib.hid (K1.out.trans k2)
  obtain ⟨ao, n, cap, rfl, hn⟩ : ∃ ao n cap, u2 = .slice ao n cap ∧ 0 < n := by
    rcases hr with ⟨_, _, _, h⟩ | ⟨b, off, cap, h, _⟩
    · exact absurd (List.map_eq_nil_iff.1 h) HN.out
    · exact ⟨_, _, _, h, by rw [List.length_map]; exact List.length_pos_iff.2 HN.out⟩
  have hyn : ((n : Int) == 0) = false := beq_eq_false_iff_ne.2 (by omega)
  have hyp : (0 : Int) < (n : Int) := by omega
  have hnz : (n == 0) = false := beq_eq_false_iff_ne.2 (by omega)
  clear hr k2
  go_wp2_with fail
  go_ret
  exact ⟨rfl, K2.out⟩

theorem line_law (v0 : Value) (xs0 : List (List Li.Fld)) (w : World) (he : Env w) (h0 : IsArg w v0 xs0) (hg0 : ∀ x ∈ xs0, ArgEl Li.rowK x) (c : Int) (hc : 0 ≤ c) (hc2 : c < 256) (d : Int) (hd : 0 ≤ d) (hd2 : d < 256) :
    Calls Tryd.prog 4 #[v0, .int .u8 c, .int .u8 d] w fun E w' => E = .returned (.bool true) ∧ Kp w w' none := by
  obtain ⟨bt, hbt⟩ : ∃ bt : UInt8, d = (bt.toNat : Int) := ⟨UInt8.ofNat d.toNat, by rw [UInt8.toNat_ofNat']; omega⟩
  subst hbt
  by_cases hne : xs0 = []
  · exact line_none v0 xs0 w he h0 hg0 c bt hne
  · by_cases h1 : bt = 112
    · subst h1; exact line_p v0 xs0 w he h0 hg0 c hne
    · by_cases h2 : bt = 10
      · subst h2; exact line_lf v0 xs0 w he h0 hg0 c hne
      · exact line_done v0 xs0 w he h0 hg0 c hc hc2 bt ⟨h1, h2⟩ hne

end Go.Proofs.YtldjhjbodhhnbaaDoor
