/- The law PlotCommands: what a file counts, and that apertures are defined ahead of their use, in order. Condition: the library's table of powers. -/
import Derived.Test.YtggplbenliaodaaGreatDoorFw
import Derived.Test.YtggplbenliaodaaGreatDoorPlI
import Derived.Test.YtggplbenliaodaaGreatDoorLl
namespace Go.Proofs.YtggplbenliaodaaGreatDoor
open Go.RowKit

def C1 (wB : World) (ds : List Pl.Dr) (n : Nat) (f m d r i : Value) (wr : World) : Prop := ∃ (k : Nat) (c : Pl.Ct), k ≤ n ∧ i = .int .i64 k ∧ f = .int .i64 c.fl ∧ m = .int .i64 c.mv ∧ d = .int .i64 c.dr ∧ r = .int .i64 c.rg ∧ (ds.take k).foldl Pl.cnt ⟨0, 0, 0, 0, []⟩ = c ∧ Kp wB wr none
def C3 (wB : World) (de x : List UInt8) (u v : Value) (wr : World) : Prop := ∃ t j : Nat, t = 3 * j ∧ t ≤ de.length + 3 ∧ u = .bool (Pl.usedTo de x j) ∧ v = .int .i64 t ∧ Kp wB wr none
def C4 (wB : World) (de : List UInt8) (v : Value) (wr : World) : Prop := ∃ t j : Nat, t = 3 * (j + 1) ∧ t ≤ de.length + 6 ∧ v = .int .i64 t ∧ Kp wB wr none
def C2 (wB : World) (ls : List (List UInt8)) (c0 : Pl.Ct) (f m d r s i : Value) (wr : World) : Prop := ∃ (k : Nat) (c : Pl.Ct), k ≤ ls.length ∧ i = .int .i64 k ∧ f = .int .i64 c.fl ∧ m = .int .i64 c.mv ∧ d = .int .i64 c.dr ∧ r = .int .i64 c.rg ∧ s = .string ⟨c.de.toArray⟩ ∧ (ls.take k).foldl Pl.stepC c0 = c ∧ Kp wB wr none
theorem LiesAt.ln {w : World} {ao : Option Addr} {cap : Nat} {ls : List (List UInt8)} (h : LiesAt 1 lnC w ao cap ls) {k : Nat} (hk : k < ls.length) : ∃ b off, ao = some ⟨b, off, none⟩ ∧ ls.length ≤ cap ∧ ∀ V, Kp w V none → V.cell? ⟨b, off + k, none⟩ = some (.string ⟨ls[k].toArray⟩) := by
  obtain ⟨b, off, e, hb, hc, hr⟩ := h k hk
  refine ⟨b, off, e, hc, fun V kv => ?_⟩
  have q := hr 0 (by simp [lnC])
  rw [Nat.mul_one, Nat.add_zero] at q
  exact (kv.below.cell (p := ⟨b, off + k, none⟩) hb).trans q
set_option maxHeartbeats 16000000 in
set_option maxRecDepth 100000 in
theorem pcommands_any (rows : List (List Int)) (nr : Nat) (hr : rows.length = nr) (ro : Option Addr) (rc : Nat) (w : World) (he : Env w) (hrows : LiesRows w ro rc rows) (hn2 : LenOk nr) :
    Calls Tryz.prog 4 #[.slice ro nr rc] w fun E w' => E = .returned (.bool true) ∧ Kp w w' none := by
  have HE := Lib.hid he
  have HRW := Lib.hid hrows
  clear he hrows
  go_enter Tryz.func4, Tryz.ntmps4
  go_wp2_with fail
  refine (sanity_any _ HE.out).mono ?_
  rintro E w1 ⟨rfl, k1⟩
  have K1 := Lib.hid k1
  clear k1
  go_wp2_with fail
  refine (rmade_any rows nr hr ro rc w1 (HRW.out.keep K1.out) hn2).mono ?_
  rintro E w2 ⟨ts, ao, cap, hfine, hlen, rfl, hli, hed, hcap, hfr, k2⟩
  have K2 := Lib.hid (K1.out.trans k2)
  have HFI := Lib.hid hfine
  have HLI2 := Lib.hid hli
  have HED2 := Lib.hid hed
  have HLEN := Lib.hid hlen
  have HCAP := Lib.hid hcap
  clear k2 K1 hfine hli hed hfr hcap hlen hr
  obtain ⟨n, hn⟩ : ∃ n, ts.length = n := ⟨_, rfl⟩
  rw [hn] at HLEN HCAP
  rw [hn]
  have HN := Lib.hid hn
  clear hn
  have hn8 : n ≤ 8 := HLEN.out
  have hn80 : (n : Int) ≤ 8 := by omega
  have hn0 : (0 : Int) ≤ (n : Int) := Int.natCast_nonneg _
  have HWS := Lib.hid (wr_self ts n HN.out (by omega) ao cap w2 (HE.out.kp0 K2.out) HLI2.out (fun z hz => ⟨HED2.out z hz, HFI.out z hz⟩))
  have HFD : Hid (∀ d ∈ ts.map (·.d), Pl.Fine d.s) := Lib.hid (fun d hd => by obtain ⟨z, hz, rfl⟩ := List.mem_map.1 hd; exact HFI.out z hz)
  have HRL : Hid ((Pl.radii (ts.map (·.d))).length ≤ 8) := Lib.hid (by have := Pl.radii_length (ts.map (·.d)); rw [List.length_map, HN.out] at this; omega)
  have HBD : Hid (∀ k, k ≤ n → (0 ≤ (((ts.map (·.d)).take k).foldl Pl.cnt ⟨0, 0, 0, 0, []⟩).fl ∧ (((ts.map (·.d)).take k).foldl Pl.cnt ⟨0, 0, 0, 0, []⟩).fl ≤ 8) ∧ (0 ≤ (((ts.map (·.d)).take k).foldl Pl.cnt ⟨0, 0, 0, 0, []⟩).mv ∧ (((ts.map (·.d)).take k).foldl Pl.cnt ⟨0, 0, 0, 0, []⟩).mv ≤ 8) ∧ (0 ≤ (((ts.map (·.d)).take k).foldl Pl.cnt ⟨0, 0, 0, 0, []⟩).dr ∧ (((ts.map (·.d)).take k).foldl Pl.cnt ⟨0, 0, 0, 0, []⟩).dr ≤ 64) ∧ (0 ≤ (((ts.map (·.d)).take k).foldl Pl.cnt ⟨0, 0, 0, 0, []⟩).rg ∧ (((ts.map (·.d)).take k).foldl Pl.cnt ⟨0, 0, 0, 0, []⟩).rg ≤ 8)) := Lib.hid (fun k hk => by
    have h := Pl.cnt_bound ((ts.map (·.d)).take k) ⟨0, 0, 0, 0, []⟩ (fun d hd => (HFD.out d (List.mem_of_mem_take hd)).2.1)
    have h2 : ((ts.map (·.d)).take k).length ≤ 8 := by rw [List.length_take, List.length_map, HN.out]; omega
    generalize ((ts.map (·.d)).take k).foldl Pl.cnt ⟨0, 0, 0, 0, []⟩ = Y at *
    generalize ((ts.map (·.d)).take k).length = M at *
    dsimp only at h
    refine ⟨by omega, by omega, by omega, by omega⟩)
  obtain ⟨T, hT⟩ : ∃ T, Pl.fileT (ts.map (·.d)) = T := ⟨_, rfl⟩
  rw [hT] at HWS
  have HTT := Lib.hid hT
  clear hT
  go_wp2_with fail
  refine HWS.out.mono ?_
  rintro E w4 ⟨rfl, k4⟩
  have K4 := Lib.hid (K2.out.trans k4)
  have HLI := Lib.hid (HLI2.out.keep k4)
  have HED := Lib.hid (fun z hz => (HED2.out z hz).keep k4)
  clear k4 K2 HLI2 HED2 HWS HLEN
  go_wp2_with fail
  go_loopw [7, 8, 9, 10, 32] (fun f m d r i wr => C1 w4 (ts.map (·.d)) n f m d r i wr) (fun _ _ _ _ i _ => n - (intOf i).toNat)
  case atStart => exact ⟨0, ⟨0, 0, 0, 0, []⟩, Nat.zero_le _, rfl, rfl, rfl, rfl, rfl, rfl, Kp.refl _ _⟩
  case round =>
    obtain ⟨k, c, hk, rfl, rfl, rfl, rfl, rfl, hc, hK⟩ := hrel
    obtain ⟨a1, a2, a3, a4, ade⟩ := c
    dsimp only
    have HC := Lib.hid hc
    have HK := Lib.hid hK
    clear hc hK
    have hk0 : (0 : Int) ≤ (k : Int) := Int.natCast_nonneg _
    have hbd : (0 ≤ a1 ∧ a1 ≤ 8) ∧ (0 ≤ a2 ∧ a2 ≤ 8) ∧ (0 ≤ a3 ∧ a3 ≤ 64) ∧ (0 ≤ a4 ∧ a4 ≤ 8) := by
      have h := HBD.out k hk
      rw [HC.out] at h
      exact h
    obtain ⟨⟨p1, q1⟩, ⟨p2, q2⟩, ⟨p3, q3⟩, ⟨p4, q4⟩⟩ := hbd
    by_cases hlt : k < n
    · have hk1 : (k : Int) < (n : Int) := by omega
      obtain ⟨b, off, rfl, hcx1, hcx⟩ := HLI.out.dt (k := k) (by rw [HN.out]; exact hlt)
      have hyf := HFI.out _ (List.getElem_mem (show k < ts.length by rw [HN.out]; exact hlt))
      have hye := HED.out _ (List.getElem_mem (show k < ts.length by rw [HN.out]; exact hlt))
      have hct : n ≤ cap := HCAP.out.1
      have htk : (ts.map (·.d)).take (k + 1) = (ts.map (·.d)).take k ++ [(ts[k]'(by rw [HN.out]; exact hlt)).d] := by
        rw [List.take_succ_eq_append_getElem (by rw [List.length_map, HN.out]; exact hlt)]
        simp
      obtain ⟨y, hy⟩ : ∃ z, ts[k]'(by rw [HN.out]; exact hlt) = z := ⟨_, rfl⟩
      rw [hy] at hcx hyf hye htk
      have HTK := Lib.hid htk
      obtain ⟨hs1, hs2, hs3, hs4⟩ := Pl.chk_shape hyf.1
      obtain ⟨eb, eo, hea, hec, _, hez⟩ := hye.ed (k := 0) hs2
      obtain ⟨L, hL⟩ : ∃ L, y.d.s.es.length = L := ⟨_, rfl⟩
      have hL0 : 0 < L := by omega
      have hL8 : L ≤ 8 := by have := hyf.2.1; omega
      have hL0I : (0 : Int) < (L : Int) := by omega
      have hL8I : (L : Int) ≤ 8 := by omega
      have hLec : L ≤ y.ec := by omega
      obtain ⟨z, hz⟩ : ∃ z, y.d.s.es[0] = z := ⟨_, rfl⟩
      rw [hz] at hez
      have HFL : Hid (Pl.isFl y.d = (decide (y.d.s.k = 1) && (decide (L = 1) && (decide (z.k = 1) && decide (z.a = z.b))))) := Lib.hid (by
        unfold Pl.isFl
        congr 1
        by_cases h1 : L = 1
        · have he : y.d.s.es = [z] := by
            obtain ⟨e, he⟩ := List.length_eq_one_iff.1 (hL.trans h1)
            have h2 : y.d.s.es[0] = e := by simp [he]
            rw [he, ← hz, h2]
          rw [flash_one he, decide_eq_true h1]
          by_cases h2 : z.k = 1 <;> by_cases h3 : z.a = z.b <;> simp [h2, h3]
        · rw [flash_more (by rw [hL]; exact h1), decide_eq_false h1]; rfl)
      have HL := Lib.hid hL
      obtain ⟨c0, c1, c2, c3⟩ := hcx _ HK.out
      rw [hL, hea] at c1
      obtain ⟨zk, ⟨ax, ay⟩, ⟨bx, bY⟩, ⟨cx, cy⟩⟩ := z
      have hez2 := fun w' K => hez w' K
      simp only [Nat.zero_mul, Nat.add_zero] at hez2
      have HEZ := Lib.hid hez2
      clear hcx hyf hye htk hy hs3 hs4 hez hz hL hez2 hea
      rcases hs1 with hk1 | hk2
      · rw [hk1] at c0
        by_cases h1 : L = 1
        · subst h1
          by_cases h2 : zk = 1
          · subst h2
            by_cases h3 : ax = bx
            · subst h3
              by_cases h4 : ay = bY
              · subst h4
                have HST : Hid (Pl.cnt ⟨a1, a2, a3, a4, ade⟩ y.d = ⟨a1 + 1, a2, a3, a4, ade⟩) := Lib.hid (by
                  have e : Pl.isFl y.d = true := by rw [HFL.out, decide_eq_true hk1, decide_eq_true rfl, decide_eq_true rfl, decide_eq_true rfl]; rfl
                  unfold Pl.cnt
                  rw [if_pos e]
                  all_goals rfl)
                have HREL : Hid (C1 w4 (ts.map (·.d)) n (.int .i64 (a1 + 1)) (.int .i64 (a2)) (.int .i64 (a3)) (.int .i64 (a4)) (.int .i64 (k + 1)) ((wr.alloc (Obj.cells #[.int .i64 1, .slice (some ⟨eb, eo, none⟩) 1 y.ec, .int .i64 y.d.s.r, .bool y.d.clear] 30)).alloc (Obj.cells #[.int .i64 1, .int .i64 ax, .int .i64 ay, .int .i64 ax, .int .i64 ay, .int .i64 cx, .int .i64 cy] 39))) := Lib.hid ⟨k + 1, _, hlt, by go_num, rfl, rfl, rfl, rfl, by rw [HTK.out, List.foldl_append, HC.out, List.foldl_cons, List.foldl_nil, HST.out], (HK.out.alloc _).alloc _⟩
                obtain ⟨z0, z1, z2, z3, z4, z5, z6⟩ := HEZ.out _ (HK.out.alloc (Obj.cells #[.int .i64 1, .slice (some ⟨eb, eo, none⟩) 1 y.ec, .int .i64 y.d.s.r, .bool y.d.clear] 30))
                clear HST HEZ
                go_wp2_with fail
                first | exact ⟨HREL.out, by simp [intOf]; omega⟩ | (go_roundw; all_goals first | exact HREL.out | (simp [intOf]; omega))
              · have hb4 : (ay == bY) = false := by simpa using h4
                have HST : Hid (Pl.cnt ⟨a1, a2, a3, a4, ade⟩ y.d = ⟨a1, a2 + 1, a3 + 1, a4, ade⟩) := Lib.hid (by
                  have e : Pl.isFl y.d = false := by rw [HFL.out, decide_eq_false (p := (⟨ax, ay⟩ : Pl.Pt) = ⟨ax, bY⟩) (by intro h; injection h with _ h; exact h4 h)]; simp
                  unfold Pl.cnt
                  rw [if_neg (by rw [e]; decide), if_neg (by rw [hk1]; decide), HL.out]
                  all_goals rfl)
                have HREL : Hid (C1 w4 (ts.map (·.d)) n (.int .i64 (a1)) (.int .i64 (a2 + 1)) (.int .i64 (a3 + 1)) (.int .i64 (a4)) (.int .i64 (k + 1)) ((wr.alloc (Obj.cells #[.int .i64 1, .slice (some ⟨eb, eo, none⟩) 1 y.ec, .int .i64 y.d.s.r, .bool y.d.clear] 30)).alloc (Obj.cells #[.int .i64 1, .int .i64 ax, .int .i64 ay, .int .i64 ax, .int .i64 bY, .int .i64 cx, .int .i64 cy] 39))) := Lib.hid ⟨k + 1, _, hlt, by go_num, rfl, rfl, rfl, rfl, by rw [HTK.out, List.foldl_append, HC.out, List.foldl_cons, List.foldl_nil, HST.out], (HK.out.alloc _).alloc _⟩
                obtain ⟨z0, z1, z2, z3, z4, z5, z6⟩ := HEZ.out _ (HK.out.alloc (Obj.cells #[.int .i64 1, .slice (some ⟨eb, eo, none⟩) 1 y.ec, .int .i64 y.d.s.r, .bool y.d.clear] 30))
                clear HST HEZ
                go_wp2_with fail
                first | exact ⟨HREL.out, by simp [intOf]; omega⟩ | (go_roundw; all_goals first | exact HREL.out | (simp [intOf]; omega))
            · have hb3 : (ax == bx) = false := by simpa using h3
              have HST : Hid (Pl.cnt ⟨a1, a2, a3, a4, ade⟩ y.d = ⟨a1, a2 + 1, a3 + 1, a4, ade⟩) := Lib.hid (by
                have e : Pl.isFl y.d = false := by rw [HFL.out, decide_eq_false (p := (⟨ax, ay⟩ : Pl.Pt) = ⟨bx, bY⟩) (by intro h; injection h with h _; exact h3 h)]; simp
                unfold Pl.cnt
                rw [if_neg (by rw [e]; decide), if_neg (by rw [hk1]; decide), HL.out]
                all_goals rfl)
              have HREL : Hid (C1 w4 (ts.map (·.d)) n (.int .i64 (a1)) (.int .i64 (a2 + 1)) (.int .i64 (a3 + 1)) (.int .i64 (a4)) (.int .i64 (k + 1)) ((wr.alloc (Obj.cells #[.int .i64 1, .slice (some ⟨eb, eo, none⟩) 1 y.ec, .int .i64 y.d.s.r, .bool y.d.clear] 30)).alloc (Obj.cells #[.int .i64 1, .int .i64 ax, .int .i64 ay, .int .i64 bx, .int .i64 bY, .int .i64 cx, .int .i64 cy] 39))) := Lib.hid ⟨k + 1, _, hlt, by go_num, rfl, rfl, rfl, rfl, by rw [HTK.out, List.foldl_append, HC.out, List.foldl_cons, List.foldl_nil, HST.out], (HK.out.alloc _).alloc _⟩
              obtain ⟨z0, z1, z2, z3, z4, z5, z6⟩ := HEZ.out _ (HK.out.alloc (Obj.cells #[.int .i64 1, .slice (some ⟨eb, eo, none⟩) 1 y.ec, .int .i64 y.d.s.r, .bool y.d.clear] 30))
              clear HST HEZ
              go_wp2_with fail
              first | exact ⟨HREL.out, by simp [intOf]; omega⟩ | (go_roundw; all_goals first | exact HREL.out | (simp [intOf]; omega))
          · have hb2 : (zk == 1) = false := by simpa using h2
            have HST : Hid (Pl.cnt ⟨a1, a2, a3, a4, ade⟩ y.d = ⟨a1, a2 + 1, a3 + 1, a4, ade⟩) := Lib.hid (by
              have e : Pl.isFl y.d = false := by rw [HFL.out, decide_eq_false h2]; simp
              unfold Pl.cnt
              rw [if_neg (by rw [e]; decide), if_neg (by rw [hk1]; decide), HL.out]
              all_goals rfl)
            have HREL : Hid (C1 w4 (ts.map (·.d)) n (.int .i64 (a1)) (.int .i64 (a2 + 1)) (.int .i64 (a3 + 1)) (.int .i64 (a4)) (.int .i64 (k + 1)) ((wr.alloc (Obj.cells #[.int .i64 1, .slice (some ⟨eb, eo, none⟩) 1 y.ec, .int .i64 y.d.s.r, .bool y.d.clear] 30)).alloc (Obj.cells #[.int .i64 zk, .int .i64 ax, .int .i64 ay, .int .i64 bx, .int .i64 bY, .int .i64 cx, .int .i64 cy] 39))) := Lib.hid ⟨k + 1, _, hlt, by go_num, rfl, rfl, rfl, rfl, by rw [HTK.out, List.foldl_append, HC.out, List.foldl_cons, List.foldl_nil, HST.out], (HK.out.alloc _).alloc _⟩
            obtain ⟨z0, z1, z2, z3, z4, z5, z6⟩ := HEZ.out _ (HK.out.alloc (Obj.cells #[.int .i64 1, .slice (some ⟨eb, eo, none⟩) 1 y.ec, .int .i64 y.d.s.r, .bool y.d.clear] 30))
            clear HST HEZ
            go_wp2_with fail
            first | exact ⟨HREL.out, by simp [intOf]; omega⟩ | (go_roundw; all_goals first | exact HREL.out | (simp [intOf]; omega))
        · have hb1 : ((L : Int) == 1) = false := by simp; omega
          have HST : Hid (Pl.cnt ⟨a1, a2, a3, a4, ade⟩ y.d = ⟨a1, a2 + 1, a3 + L, a4, ade⟩) := Lib.hid (by
            have e : Pl.isFl y.d = false := by rw [HFL.out, decide_eq_false h1]; simp
            unfold Pl.cnt
            rw [if_neg (by rw [e]; decide), if_neg (by rw [hk1]; decide), HL.out]
            all_goals rfl)
          have HREL : Hid (C1 w4 (ts.map (·.d)) n (.int .i64 (a1)) (.int .i64 (a2 + 1)) (.int .i64 (a3 + L)) (.int .i64 (a4)) (.int .i64 (k + 1)) ((wr.alloc (Obj.cells #[.int .i64 1, .slice (some ⟨eb, eo, none⟩) L y.ec, .int .i64 y.d.s.r, .bool y.d.clear] 30)).alloc (Obj.cells #[.int .i64 zk, .int .i64 ax, .int .i64 ay, .int .i64 bx, .int .i64 bY, .int .i64 cx, .int .i64 cy] 39))) := Lib.hid ⟨k + 1, _, hlt, by go_num, rfl, rfl, rfl, rfl, by rw [HTK.out, List.foldl_append, HC.out, List.foldl_cons, List.foldl_nil, HST.out], (HK.out.alloc _).alloc _⟩
          obtain ⟨z0, z1, z2, z3, z4, z5, z6⟩ := HEZ.out _ (HK.out.alloc (Obj.cells #[.int .i64 1, .slice (some ⟨eb, eo, none⟩) L y.ec, .int .i64 y.d.s.r, .bool y.d.clear] 30))
          clear HST HEZ
          go_wp2_with fail
          first | exact ⟨HREL.out, by simp [intOf]; omega⟩ | (go_roundw; all_goals first | exact HREL.out | (simp [intOf]; omega))
      · rw [hk2] at c0
        have HST : Hid (Pl.cnt ⟨a1, a2, a3, a4, ade⟩ y.d = ⟨a1, a2 + 1, a3 + L, a4 + 1, ade⟩) := Lib.hid (by
          have e : Pl.isFl y.d = false := by rw [HFL.out, decide_eq_false (by rw [hk2]; decide)]; simp
          unfold Pl.cnt
          rw [if_neg (by rw [e]; decide), if_pos hk2, HL.out]
          all_goals rfl)
        have HREL : Hid (C1 w4 (ts.map (·.d)) n (.int .i64 (a1)) (.int .i64 (a2 + 1)) (.int .i64 (a3 + L)) (.int .i64 (a4 + 1)) (.int .i64 (k + 1)) ((wr.alloc (Obj.cells #[.int .i64 2, .slice (some ⟨eb, eo, none⟩) L y.ec, .int .i64 y.d.s.r, .bool y.d.clear] 30)).alloc (Obj.cells #[.int .i64 zk, .int .i64 ax, .int .i64 ay, .int .i64 bx, .int .i64 bY, .int .i64 cx, .int .i64 cy] 39))) := Lib.hid ⟨k + 1, _, hlt, by go_num, rfl, rfl, rfl, rfl, by rw [HTK.out, List.foldl_append, HC.out, List.foldl_cons, List.foldl_nil, HST.out], (HK.out.alloc _).alloc _⟩
        obtain ⟨z0, z1, z2, z3, z4, z5, z6⟩ := HEZ.out _ (HK.out.alloc (Obj.cells #[.int .i64 2, .slice (some ⟨eb, eo, none⟩) L y.ec, .int .i64 y.d.s.r, .bool y.d.clear] 30))
        clear HST HEZ
        go_wp2_with fail
        first | exact ⟨HREL.out, by simp [intOf]; omega⟩ | (go_roundw; all_goals first | exact HREL.out | (simp [intOf]; omega))
    · have hk1 : ¬ (k : Int) < (n : Int) := by omega
      have hkn : k = n := by omega
      subst hkn
      clear hk1
      obtain ⟨b1, hb1⟩ : ∃ z, z = a1 := ⟨_, rfl⟩
      obtain ⟨b2, hb2⟩ : ∃ z, z = a2 := ⟨_, rfl⟩
      obtain ⟨b3, hb3⟩ : ∃ z, z = a3 := ⟨_, rfl⟩
      obtain ⟨b4, hb4⟩ : ∃ z, z = a4 := ⟨_, rfl⟩
      subst hb1; subst hb2; subst hb3; subst hb4
      have hTL : T.length ≤ 262144 := by rw [← HTT.out]; exact (write_fine HFD.out (by rw [List.length_map, HN.out]; omega)).2.1
      have hade : ade = [] := by
        have h := Pl.cnt_bound ((ts.map (·.d)).take k) ⟨0, 0, 0, 0, []⟩ (fun d hd => (HFD.out d (List.mem_of_mem_take hd)).2.1)
        rw [HC.out] at h
        exact h.2.2.2.2
      subst hade
      have htot : (ts.map (·.d)).foldl Pl.cnt ⟨0, 0, 0, 0, []⟩ = ⟨b1, b2, b3, b4, []⟩ := by
        have h := HC.out
        rw [List.take_of_length_le (by rw [List.length_map, HN.out]; omega)] at h
        exact h
      have hck : ∀ d ∈ ts.map (·.d), Pl.chk d.s = 0 := fun d hd => (HFD.out d hd).1
      obtain ⟨ls, hls⟩ : ∃ l, Pl.fileL (ts.map (·.d)) = l := ⟨_, rfl⟩
      have HSP : Hid (Pl.splitFrom [] T = ls) := Lib.hid (by rw [← HTT.out, Pl.split_file, hls])
      have HJL : Hid (T = Pl.joinL ls) := Lib.hid (by rw [← HTT.out, Pl.file_lines, hls])
      have HFO : Hid (ls.foldl Pl.stepC ⟨b1, b2, b3, b4, []⟩ = ⟨0, 0, 0, 0, Pl.defT (Pl.radii (ts.map (·.d))).length⟩) := Lib.hid (by rw [← htot, ← hls]; exact Pl.fold_file _ hck (by have := HRL.out; omega))
      have HUSE : Hid (∀ k (hk : k < ls.length), Pl.cls ls[k] = 5 → Pl.Used ((ls.take k).foldl Pl.stepC ⟨b1, b2, b3, b4, []⟩).de ls[k]) := Lib.hid (by subst hls; exact fun k hk h => Pl.used_file _ hck (by have := HRL.out; omega) _ rfl k hk h)
      have HLM : Hid (∀ x ∈ ls, x.length ≤ 262144) := Lib.hid (fun x hx => by have := Pl.join_mem hx; rw [← HJL.out] at this; omega)
      have HQM : Hid (ls.length ≤ 262144) := Lib.hid (by have := Pl.join_count ls; rw [← HJL.out] at this; omega)
      have HEND : Hid (Pl.endsB T [77, 48, 50, 42, 10] = true) := Lib.hid (by rw [← HTT.out]; unfold Pl.fileT; rw [Pl.endsB_app _ _ _ rfl]; decide)
      have HB2 : Hid (∀ k, k ≤ ls.length → (-300000 ≤ ((ls.take k).foldl Pl.stepC ⟨b1, b2, b3, b4, []⟩).fl ∧ ((ls.take k).foldl Pl.stepC ⟨b1, b2, b3, b4, []⟩).fl ≤ 8) ∧ (-300000 ≤ ((ls.take k).foldl Pl.stepC ⟨b1, b2, b3, b4, []⟩).mv ∧ ((ls.take k).foldl Pl.stepC ⟨b1, b2, b3, b4, []⟩).mv ≤ 8) ∧ (-300000 ≤ ((ls.take k).foldl Pl.stepC ⟨b1, b2, b3, b4, []⟩).dr ∧ ((ls.take k).foldl Pl.stepC ⟨b1, b2, b3, b4, []⟩).dr ≤ 64) ∧ (-300000 ≤ ((ls.take k).foldl Pl.stepC ⟨b1, b2, b3, b4, []⟩).rg ∧ ((ls.take k).foldl Pl.stepC ⟨b1, b2, b3, b4, []⟩).rg ≤ 8) ∧ ((ls.take k).foldl Pl.stepC ⟨b1, b2, b3, b4, []⟩).de.length ≤ 900000) := Lib.hid (fun k hk => by
        have h := Pl.step_bound (ls.take k) ⟨b1, b2, b3, b4, []⟩
        have h2 : (ls.take k).length ≤ 262144 := by rw [List.length_take]; have := HQM.out; omega
        generalize (ls.take k).foldl Pl.stepC ⟨b1, b2, b3, b4, []⟩ = Y at *
        generalize (ls.take k).length = M at *
        dsimp only at h
        rw [List.length_nil] at h
        refine ⟨by omega, by omega, by omega, by omega, by omega⟩)
      have HTL := Lib.hid hTL
      clear htot hck hls hTL
      go_wp2_with fail
      refine (lines_any T wr (by have := HTL.out; omega)).mono ?_
      rintro E w5 ⟨lo0, lc, rfl, hln, k5⟩
      rw [HSP.out] at hln
      rw [HSP.out]
      have HLN := Lib.hid hln
      have K5 := Lib.hid (K4.out.trans (HK.out.trans k5))
      obtain ⟨Q, hQ⟩ : ∃ q, ls.length = q := ⟨_, rfl⟩
      rw [hQ]
      have HQ := Lib.hid hQ
      rw [hQ] at HQM HB2
      clear hln k5 hQ HK HC p1 p2 p3 p4 q1 q2 q3 q4 K4
      go_wp2_with fail
      go_loopw [7, 8, 9, 10, 14, 84] (fun f m d r s i wr => C2 w5 ls ⟨b1, b2, b3, b4, []⟩ f m d r s i wr) (fun _ _ _ _ _ i _ => Q - (intOf i).toNat)
      case atStart => exact ⟨0, ⟨b1, b2, b3, b4, []⟩, Nat.zero_le _, rfl, rfl, rfl, rfl, rfl, rfl, rfl, Kp.refl _ _⟩
      case round =>
        obtain ⟨k, c, hk, rfl, rfl, rfl, rfl, rfl, rfl, hc, hK⟩ := hrel
        obtain ⟨a1, a2, a3, a4, de⟩ := c
        dsimp only
        have HC := Lib.hid hc
        have HK := Lib.hid hK
        rw [HQ.out] at hk
        have hbd : (-300000 ≤ a1 ∧ a1 ≤ 8) ∧ (-300000 ≤ a2 ∧ a2 ≤ 8) ∧ (-300000 ≤ a3 ∧ a3 ≤ 64) ∧ (-300000 ≤ a4 ∧ a4 ≤ 8) ∧ de.length ≤ 900000 := by
          have h := HB2.out k hk
          rw [hc] at h
          exact h
        obtain ⟨⟨p1, q1⟩, ⟨p2, q2⟩, ⟨p3, q3⟩, ⟨p4, q4⟩, pd⟩ := hbd
        clear hc hK
        have hk0 : (0 : Int) ≤ (k : Int) := Int.natCast_nonneg _
        by_cases hlt : k < Q
        · have hk1 : (k : Int) < (Q : Int) := by omega
          obtain ⟨lb, lo, rfl, hlc, hcx⟩ := HLN.out.ln (k := k) (by rw [HQ.out]; exact hlt)
          have cx := hcx _ HK.out
          have htx : ls.take (k + 1) = ls.take k ++ [ls[k]'(by rw [HQ.out]; exact hlt)] := List.take_succ_eq_append_getElem (by rw [HQ.out]; exact hlt)
          have HXL : Hid ((ls[k]'(by rw [HQ.out]; exact hlt)).length < 1048576) := Lib.hid (by have := HLM.out _ (List.getElem_mem (show k < ls.length by rw [HQ.out]; exact hlt)); omega)
          obtain ⟨x, hxx⟩ : ∃ z, ls[k]'(by rw [HQ.out]; exact hlt) = z := ⟨_, rfl⟩
          rw [hxx] at cx HXL htx
          have HTX := Lib.hid htx
          rw [HQ.out] at hlc
          have HXX := Lib.hid hxx
          have hxl : (x.length : Int) ≤ 1048576 := by have := HXL.out; omega
          have hxl0 : (0 : Int) ≤ (x.length : Int) := Int.natCast_nonneg _
          have hqm : (Q : Int) ≤ 300000 := by have := HQM.out; omega
          have pdI : (de.length : Int) ≤ 900000 := by omega
          have pd0 : (0 : Int) ≤ (de.length : Int) := Int.natCast_nonneg _
          clear hcx htx hxx
          go_wp2_with fail
          refine (ends_any x Pl.d03 _ rfl _ HXL.out (by decide)).mono ?_
          rintro E w6 ⟨rfl, kk⟩
          have K6' := Lib.hid (HK.out.trans kk)
          clear kk
          have K6 := K6'
          clear K6'

          cases e3 : Pl.endsB x Pl.d03
          · go_wp2_with fail

            refine (ends_any x Pl.d02 _ rfl _ HXL.out (by decide)).mono ?_
            rintro E w7 ⟨rfl, kk⟩
            have K6' := Lib.hid (K6.out.trans kk)
            clear kk K6
            have K6 := K6'
            clear K6'

            cases e2 : Pl.endsB x Pl.d02
            · go_wp2_with fail

              refine (ends_any x Pl.d01 _ rfl _ HXL.out (by decide)).mono ?_
              rintro E w8 ⟨rfl, kk⟩
              have K6' := Lib.hid (K6.out.trans kk)
              clear kk K6
              have K6 := K6'
              clear K6'

              cases e1 : Pl.endsB x Pl.d01
              · by_cases hg : x = Pl.g36
                · have hgb : (x == [71, 51, 54, 42]) = true := by rw [hg]; rfl
                  have HGE := Lib.hid hg
                  clear hg
                  have HST : Hid (Pl.stepC ⟨a1, a2, a3, a4, de⟩ x = ⟨a1, a2, a3, a4 - 1, de⟩) := Lib.hid (by
                    have h : Pl.cls x = 3 := by
                      unfold Pl.cls
                      rw [if_neg (by rw [e3]; decide), if_neg (by rw [e2]; decide), if_neg (by rw [e1]; decide), if_pos HGE.out]
                    simp only [Pl.stepC, h])
                  have HREL : Hid (C2 w5 ls ⟨b1, b2, b3, b4, []⟩ (.int .i64 (a1)) (.int .i64 (a2)) (.int .i64 (a3)) (.int .i64 (a4 - 1)) (.string ⟨(de).toArray⟩) (.int .i64 (k + 1)) w8) := Lib.hid ⟨k + 1, _, by rw [HQ.out]; exact hlt, by go_num, rfl, rfl, rfl, rfl, rfl, by rw [HTX.out, List.foldl_append, HC.out, List.foldl_cons, List.foldl_nil, HST.out], K6.out⟩
                  clear HST
                  go_wp2_with fail
                  first | exact ⟨HREL.out, by simp [intOf]; omega⟩ | (go_roundw; all_goals first | exact HREL.out | (simp [intOf]; omega))
                · have hgb : (x == [71, 51, 54, 42]) = false := by simpa [Pl.g36] using hg
                  by_cases h6 : 6 < x.length
                  · have h6I : (6 : Int) < (x.length : Int) := by omega
                    obtain ⟨x4, hx4⟩ : ∃ z, x.take 4 = z := ⟨_, rfl⟩
                    have hxe : (⟨x.toArray⟩ : ByteArray).extract 0 4 = ⟨x4.toArray⟩ := by rw [ext_take, hx4]
                    have HX4 := Lib.hid hx4
                    clear hx4
                    by_cases h4 : x4 = [37, 65, 68, 68]
                    · subst h4
                      obtain ⟨x46, hx46⟩ : ∃ z, (x.take 6).drop 4 = z := ⟨_, rfl⟩
                      have hxf : (⟨x.toArray⟩ : ByteArray).extract 4 6 = ⟨x46.toArray⟩ := by rw [ext_mid, hx46]
                      have HX46 : Hid ((x.drop 4).take 2 = x46) := Lib.hid (by rw [← hx46, List.drop_take])
                      have hl46 : x46.length = 2 := by rw [← hx46, List.length_drop, List.length_take]; omega
                      have hn1 : (9223372036854775807 < de.length + x46.length) = False := by simp; omega
                      obtain ⟨q1, hq1⟩ : ∃ q, de ++ x46 = q := ⟨_, rfl⟩
                      have hs1 : (⟨de.toArray⟩ : ByteArray) ++ ⟨x46.toArray⟩ = ⟨q1.toArray⟩ := by rw [cat_eq, hq1]
                      have hl1 : q1.length = de.length + 2 := by rw [← hq1, List.length_append, hl46]
                      have hn2 : (9223372036854775807 < q1.length + 1) = False := by simp; omega
                      obtain ⟨q2, hq2⟩ : ∃ q, q1 ++ [32] = q := ⟨_, rfl⟩
                      have hs2 : (⟨q1.toArray⟩ : ByteArray) ++ ⟨#[32]⟩ = ⟨q2.toArray⟩ := by rw [show (#[32] : Array UInt8) = [32].toArray from rfl, cat_eq, hq2]
                      have HQ2 : Hid (de ++ ((x.drop 4).take 2 ++ [32]) = q2) := Lib.hid (by rw [HX46.out, ← hq2, ← hq1, List.append_assoc])
                      clear hx46 hq1 hq2 hl46
                      have HST : Hid (Pl.stepC ⟨a1, a2, a3, a4, de⟩ x = ⟨a1, a2, a3, a4, q2⟩) := Lib.hid (by
                        have h : Pl.cls x = 4 := by
                          unfold Pl.cls
                          rw [if_neg (by rw [e3]; decide), if_neg (by rw [e2]; decide), if_neg (by rw [e1]; decide), if_neg hg, if_pos ⟨h6, HX4.out⟩]
                        simp only [Pl.stepC, h]; rw [HQ2.out])
                      have HREL : Hid (C2 w5 ls ⟨b1, b2, b3, b4, []⟩ (.int .i64 (a1)) (.int .i64 (a2)) (.int .i64 (a3)) (.int .i64 (a4)) (.string ⟨(q2).toArray⟩) (.int .i64 (k + 1)) w8) := Lib.hid ⟨k + 1, _, by rw [HQ.out]; exact hlt, by go_num, rfl, rfl, rfl, rfl, rfl, by rw [HTX.out, List.foldl_append, HC.out, List.foldl_cons, List.foldl_nil, HST.out], K6.out⟩
                      clear HST
                      go_wp2_with fail
                      first | exact ⟨HREL.out, by simp [intOf]; omega⟩ | (go_roundw; all_goals first | exact HREL.out | (simp [intOf]; omega))
                    · have hb4 : (x4 == [37, 65, 68, 68]) = false := by simpa using h4
                      have hbl : ((x.length : Int) == 4) = false := by simp; omega
                      have HST : Hid (Pl.stepC ⟨a1, a2, a3, a4, de⟩ x = ⟨a1, a2, a3, a4, de⟩) := Lib.hid (by
                        have h : Pl.cls x = 6 := by
                          unfold Pl.cls
                          rw [if_neg (by rw [e3]; decide), if_neg (by rw [e2]; decide), if_neg (by rw [e1]; decide), if_neg hg, if_neg (by rintro ⟨_, h⟩; exact h4 (HX4.out.symm.trans h)), if_neg (by rintro ⟨h, _⟩; omega)]
                        simp only [Pl.stepC, h])
                      have HREL : Hid (C2 w5 ls ⟨b1, b2, b3, b4, []⟩ (.int .i64 (a1)) (.int .i64 (a2)) (.int .i64 (a3)) (.int .i64 (a4)) (.string ⟨(de).toArray⟩) (.int .i64 (k + 1)) w8) := Lib.hid ⟨k + 1, _, by rw [HQ.out]; exact hlt, by go_num, rfl, rfl, rfl, rfl, rfl, by rw [HTX.out, List.foldl_append, HC.out, List.foldl_cons, List.foldl_nil, HST.out], K6.out⟩
                      clear HST
                      go_wp2_with fail
                      first | exact ⟨HREL.out, by simp [intOf]; omega⟩ | (go_roundw; all_goals first | exact HREL.out | (simp [intOf]; omega))
                  · have h6I : ¬ (6 : Int) < (x.length : Int) := by omega
                    by_cases hl4 : x.length = 4
                    · have hbl : ((x.length : Int) == 4) = true := by simp; omega
                      have hx0l : (0 : Int) < (x.length : Int) := by omega
                      obtain ⟨c0, hc0⟩ : ∃ c, x[0]'(by omega) = c := ⟨_, rfl⟩
                      have hx0 : ∀ h', (⟨x.toArray⟩ : ByteArray)[0]'h' = c0 := fun _ => hc0
                      have HC0 : Hid (x.headD 0 = c0) := Lib.hid (by
                        rw [← hc0]
                        cases x with
                        | nil => simp at hl4
                        | cons y l => rfl)
                      clear hc0
                      by_cases h68 : c0 = 68
                      · subst h68
                        have HCLS : Hid (Pl.cls x = 5) := Lib.hid (by
                          unfold Pl.cls
                          rw [if_neg (by rw [e3]; decide), if_neg (by rw [e2]; decide), if_neg (by rw [e1]; decide), if_neg hg, if_neg (by rintro ⟨h, _⟩; exact h6 h), if_pos ⟨hl4, HC0.out⟩])
                        have HST : Hid (Pl.stepC ⟨a1, a2, a3, a4, de⟩ x = ⟨a1, a2, a3, a4, de⟩) := Lib.hid (by simp only [Pl.stepC, HCLS.out])
                        have HU5 : Hid (Pl.Used de x) := Lib.hid (by
                          have h := HUSE.out k (by rw [HQ.out]; exact hlt) (by rw [HXX.out]; exact HCLS.out)
                          rw [HXX.out, HC.out] at h
                          exact h)
                        have HX13 : Hid ((⟨x.toArray⟩ : ByteArray).extract 1 3 = ⟨((x.take 3).drop 1).toArray⟩) := Lib.hid (ext_mid x 1 3)
                        obtain ⟨x13, hx13⟩ : ∃ z, (x.take 3).drop 1 = z := ⟨_, rfl⟩
                        rw [hx13] at HX13
                        have HX13E := Lib.hid hx13
                        clear hx13
                        go_wp2_with fail
                        go_loopw [17, 18] (fun u v wr => C3 w5 de x u v wr) (fun _ v _ => de.length + 4 - (intOf v).toNat)
                        case atStart => exact ⟨0, 0, rfl, by omega, rfl, rfl, K6.out⟩
                        case round =>
                          obtain ⟨t, j, ht, htl, rfl, rfl, hK2⟩ := hrel
                          have HK2 := Lib.hid hK2
                          clear hK2
                          have HT := Lib.hid ht
                          clear ht
                          have ht0 : (0 : Int) ≤ (t : Int) := Int.natCast_nonneg _
                          have htI : (t : Int) ≤ 1000000 := by omega
                          by_cases hin : t + 2 ≤ de.length
                          · have hinI : (t : Int) + 2 ≤ (de.length : Int) := by omega
                            obtain ⟨pc, hpc⟩ : ∃ z, (de.take (t + 2)).drop t = z := ⟨_, rfl⟩
                            have hxp : (⟨de.toArray⟩ : ByteArray).extract t (t + 2) = ⟨pc.toArray⟩ := by rw [ext_mid, hpc]
                            have HST3 : Hid (Pl.usedTo de x (j + 1) = (Pl.usedTo de x j || (pc == x13))) := Lib.hid (by rw [Pl.usedTo_step, ← HT.out, hpc, HX13E.out])
                            have hx3 := HX13.out
                            clear hpc
                            obtain ⟨u, hu⟩ : ∃ u, Pl.usedTo de x j = u := ⟨_, rfl⟩
                            rw [hu] at HST3
                            rw [hu]
                            clear hu
                            cases u
                            · go_wp2_with fail
                              go_quiet (fail)
                              have HREL3 : Hid (C3 w5 de x (.bool (pc == x13)) (.int .i64 (t + 3)) (wr.drewN nq)) := Lib.hid ⟨t + 3, j + 1, by have := HT.out; omega, by omega, by rw [HST3.out]; rfl, by go_num, HK2.out.drewN nq⟩
                              clear HST3
                              go_wp2_with fail
                              first | exact ⟨HREL3.out, by simp [intOf]; omega⟩ | (go_roundw; all_goals first | exact HREL3.out | (simp [intOf]; omega))
                            · go_wp2_with fail
                              go_quiet (fail)
                              have HREL3 : Hid (C3 w5 de x (.bool (true)) (.int .i64 (t + 3)) (wr.drewN nq)) := Lib.hid ⟨t + 3, j + 1, by have := HT.out; omega, by omega, by rw [HST3.out]; rfl, by go_num, HK2.out.drewN nq⟩
                              clear HST3
                              go_wp2_with fail
                              first | exact ⟨HREL3.out, by simp [intOf]; omega⟩ | (go_roundw; all_goals first | exact HREL3.out | (simp [intOf]; omega))
                          · have hinI : ¬ (t : Int) + 2 ≤ (de.length : Int) := by omega
                            have hu : Pl.usedTo de x j = true := Pl.used_any HU5.out (by have := HT.out; omega)
                            rw [hu]
                            clear hu
                            have HREL : Hid (C2 w5 ls ⟨b1, b2, b3, b4, []⟩ (.int .i64 a1) (.int .i64 a2) (.int .i64 a3) (.int .i64 a4) (.string ⟨de.toArray⟩) (.int .i64 (k + 1)) wr) := Lib.hid ⟨k + 1, _, by rw [HQ.out]; exact hlt, by go_num, rfl, rfl, rfl, rfl, rfl, by rw [HTX.out, List.foldl_append, HC.out, List.foldl_cons, List.foldl_nil, HST.out], HK2.out⟩
                            go_wp2_with fail
                            first | exact ⟨HREL.out, by simp [intOf]; omega⟩ | (go_roundw; all_goals first | exact HREL.out | (simp [intOf]; omega))
                      · have hcn : ((c0.toNat : Int) == 68) = false := beq_eq_false_iff_ne.2 (fun e => h68 (UInt8.toNat.inj (by show c0.toNat = 68; omega)))
                        have HST : Hid (Pl.stepC ⟨a1, a2, a3, a4, de⟩ x = ⟨a1, a2, a3, a4, de⟩) := Lib.hid (by
                          have h : Pl.cls x = 6 := by
                            unfold Pl.cls
                            rw [if_neg (by rw [e3]; decide), if_neg (by rw [e2]; decide), if_neg (by rw [e1]; decide), if_neg hg, if_neg (by rintro ⟨h, _⟩; exact h6 h), if_neg (by rintro ⟨_, h⟩; exact h68 (HC0.out.symm.trans h))]
                          simp only [Pl.stepC, h])
                        have HREL : Hid (C2 w5 ls ⟨b1, b2, b3, b4, []⟩ (.int .i64 (a1)) (.int .i64 (a2)) (.int .i64 (a3)) (.int .i64 (a4)) (.string ⟨(de).toArray⟩) (.int .i64 (k + 1)) w8) := Lib.hid ⟨k + 1, _, by rw [HQ.out]; exact hlt, by go_num, rfl, rfl, rfl, rfl, rfl, by rw [HTX.out, List.foldl_append, HC.out, List.foldl_cons, List.foldl_nil, HST.out], K6.out⟩
                        clear HST
                        go_wp2_with fail
                        first | exact ⟨HREL.out, by simp [intOf]; omega⟩ | (go_roundw; all_goals first | exact HREL.out | (simp [intOf]; omega))
                    · have hbl : ((x.length : Int) == 4) = false := by simp; omega
                      have HST : Hid (Pl.stepC ⟨a1, a2, a3, a4, de⟩ x = ⟨a1, a2, a3, a4, de⟩) := Lib.hid (by
                        have h : Pl.cls x = 6 := by
                          unfold Pl.cls
                          rw [if_neg (by rw [e3]; decide), if_neg (by rw [e2]; decide), if_neg (by rw [e1]; decide), if_neg hg, if_neg (by rintro ⟨h, _⟩; exact h6 h), if_neg (by rintro ⟨h, _⟩; exact hl4 h)]
                        simp only [Pl.stepC, h])
                      have HREL : Hid (C2 w5 ls ⟨b1, b2, b3, b4, []⟩ (.int .i64 (a1)) (.int .i64 (a2)) (.int .i64 (a3)) (.int .i64 (a4)) (.string ⟨(de).toArray⟩) (.int .i64 (k + 1)) w8) := Lib.hid ⟨k + 1, _, by rw [HQ.out]; exact hlt, by go_num, rfl, rfl, rfl, rfl, rfl, by rw [HTX.out, List.foldl_append, HC.out, List.foldl_cons, List.foldl_nil, HST.out], K6.out⟩
                      clear HST
                      go_wp2_with fail
                      first | exact ⟨HREL.out, by simp [intOf]; omega⟩ | (go_roundw; all_goals first | exact HREL.out | (simp [intOf]; omega))
              · skip
                have HST : Hid (Pl.stepC ⟨a1, a2, a3, a4, de⟩ x = ⟨a1, a2, a3 - 1, a4, de⟩) := Lib.hid (by
                  have h : Pl.cls x = 2 := by
                    unfold Pl.cls
                    rw [if_neg (by rw [e3]; decide), if_neg (by rw [e2]; decide), if_pos e1]
                  simp only [Pl.stepC, h])
                have HREL : Hid (C2 w5 ls ⟨b1, b2, b3, b4, []⟩ (.int .i64 (a1)) (.int .i64 (a2)) (.int .i64 (a3 - 1)) (.int .i64 (a4)) (.string ⟨(de).toArray⟩) (.int .i64 (k + 1)) w8) := Lib.hid ⟨k + 1, _, by rw [HQ.out]; exact hlt, by go_num, rfl, rfl, rfl, rfl, rfl, by rw [HTX.out, List.foldl_append, HC.out, List.foldl_cons, List.foldl_nil, HST.out], K6.out⟩
                clear HST
                go_wp2_with fail
                first | exact ⟨HREL.out, by simp [intOf]; omega⟩ | (go_roundw; all_goals first | exact HREL.out | (simp [intOf]; omega))
            · skip
              have HST : Hid (Pl.stepC ⟨a1, a2, a3, a4, de⟩ x = ⟨a1, a2 - 1, a3, a4, de⟩) := Lib.hid (by
                have h : Pl.cls x = 1 := by
                  unfold Pl.cls
                  rw [if_neg (by rw [e3]; decide), if_pos e2]
                simp only [Pl.stepC, h])
              have HREL : Hid (C2 w5 ls ⟨b1, b2, b3, b4, []⟩ (.int .i64 (a1)) (.int .i64 (a2 - 1)) (.int .i64 (a3)) (.int .i64 (a4)) (.string ⟨(de).toArray⟩) (.int .i64 (k + 1)) w7) := Lib.hid ⟨k + 1, _, by rw [HQ.out]; exact hlt, by go_num, rfl, rfl, rfl, rfl, rfl, by rw [HTX.out, List.foldl_append, HC.out, List.foldl_cons, List.foldl_nil, HST.out], K6.out⟩
              clear HST
              go_wp2_with fail
              first | exact ⟨HREL.out, by simp [intOf]; omega⟩ | (go_roundw; all_goals first | exact HREL.out | (simp [intOf]; omega))
          · skip
            have HST : Hid (Pl.stepC ⟨a1, a2, a3, a4, de⟩ x = ⟨a1 - 1, a2, a3, a4, de⟩) := Lib.hid (by
              have h : Pl.cls x = 0 := by
                unfold Pl.cls
                rw [if_pos e3]
              simp only [Pl.stepC, h])
            have HREL : Hid (C2 w5 ls ⟨b1, b2, b3, b4, []⟩ (.int .i64 (a1 - 1)) (.int .i64 (a2)) (.int .i64 (a3)) (.int .i64 (a4)) (.string ⟨(de).toArray⟩) (.int .i64 (k + 1)) w6) := Lib.hid ⟨k + 1, _, by rw [HQ.out]; exact hlt, by go_num, rfl, rfl, rfl, rfl, rfl, by rw [HTX.out, List.foldl_append, HC.out, List.foldl_cons, List.foldl_nil, HST.out], K6.out⟩
            clear HST
            go_wp2_with fail
            first | exact ⟨HREL.out, by simp [intOf]; omega⟩ | (go_roundw; all_goals first | exact HREL.out | (simp [intOf]; omega))
        · have hkq : ¬ (k : Int) < (Q : Int) := by omega
          have hkn : k = Q := by omega
          subst hkn
          have hfin : (⟨a1, a2, a3, a4, de⟩ : Pl.Ct) = ⟨0, 0, 0, 0, Pl.defT (Pl.radii (ts.map (·.d))).length⟩ := by
            rw [← HC.out, List.take_of_length_le (by rw [HQ.out]; omega), HFO.out]
          injection hfin with f1 f2 f3 f4 f5
          subst f1; subst f2; subst f3; subst f4
          obtain ⟨R, hR⟩ : ∃ R, (Pl.radii (ts.map (·.d))).length = R := ⟨_, rfl⟩
          rw [hR] at f5 HRL
          have HDE := Lib.hid f5
          have HDL : Hid (de.length = 3 * R) := Lib.hid (by rw [f5, Pl.defT_length])
          clear hR f5 p1 p2 p3 p4 q1 q2 q3 q4 HFO HUSE HB2 HC
          go_wp2_with fail
          go_loopw [19] (fun v wr => C4 w5 de v wr) (fun v _ => de.length + 7 - (intOf v).toNat)
          case atStart => exact ⟨3, 0, rfl, by omega, rfl, HK.out⟩
          case round =>
            obtain ⟨t, j, ht, htl, rfl, hK2⟩ := hrel
            have HK2 := Lib.hid hK2
            clear hK2
            have ht0 : (0 : Int) ≤ (t : Int) := Int.natCast_nonneg _
            have hdl := HDL.out
            have htI : (t : Int) ≤ 1000000 := by have := HRL.out; omega
            by_cases hin : t + 2 ≤ de.length
            · have hinI : (t : Int) + 2 ≤ (de.length : Int) := by omega
              obtain ⟨t3, ht3⟩ : ∃ z : Nat, z = 3 * j := ⟨_, rfl⟩
              obtain ⟨t1, ht1⟩ : ∃ z : Nat, z = 3 * j + 2 := ⟨_, rfl⟩
              have hs3 : (t : Int) - 3 = (t3 : Int) := by omega
              have hs1 : (t : Int) - 1 = (t1 : Int) := by omega
              have h31 : (t3 : Int) ≤ (t1 : Int) := by omega
              have h30 : (0 : Int) ≤ (t3 : Int) := Int.natCast_nonneg _
              have h10 : (t1 : Int) ≤ (de.length : Int) := by omega
              have hx1 : (⟨de.toArray⟩ : ByteArray).extract t3 t1 = ⟨(Pl.two j).toArray⟩ := by rw [ext_mid, ht3, ht1, HDE.out, Pl.defT_cut (by omega)]
              have hx2 : (⟨de.toArray⟩ : ByteArray).extract t (t + 2) = ⟨(Pl.two (j + 1)).toArray⟩ := by rw [ext_mid, ht, HDE.out, Pl.defT_cut (by omega)]
              have hj8 : j ≤ 7 := by have := HRL.out; omega
              have HREL4 : Hid (∀ q, C4 w5 de (.int .i64 (t + 3)) (wr.drewN q)) := Lib.hid (fun q => ⟨t + 3, j + 1, by omega, by omega, by go_num, HK2.out.drewN q⟩)
              have hbl : Op.bytesLess (Pl.two j) (Pl.two (j + 1)) = true := by
                have q : ∀ i : Fin 8, Op.bytesLess (Pl.two i.val) (Pl.two (i.val + 1)) = true := by decide +kernel
                exact q ⟨j, by omega⟩
              obtain ⟨z1, hz1⟩ : ∃ z, Pl.two j = z := ⟨_, rfl⟩
              obtain ⟨z2, hz2⟩ : ∃ z, Pl.two (j + 1) = z := ⟨_, rfl⟩
              rw [hz1] at hx1
              rw [hz2] at hx2
              rw [hz1, hz2] at hbl
              clear ht3 ht1 ht hdl hz1 hz2
              go_wp2_with fail
              go_quiet (fail)
              have HREL5 := Lib.hid (HREL4.out nq)
              clear HREL4
              go_wp2_with fail
              first | exact ⟨HREL5.out, by simp [intOf]; omega⟩ | (go_roundw; all_goals first | exact HREL5.out | (simp [intOf]; omega))
            · have hinI : ¬ (t : Int) + 2 ≤ (de.length : Int) := by omega
              have htl5 : T.length < 1048576 := by have := HTL.out; omega
              go_wp2_with fail
              refine (ends_any T [77, 48, 50, 42, 10] _ rfl _ htl5 (by decide)).mono ?_
              rintro E w9 ⟨rfl, k9⟩
              have K9 := Lib.hid (HK2.out.trans k9)
              clear k9
              rw [HEND.out]
              go_wp2_with fail
              go_ret
              exact ⟨rfl, K5.out.trans K9.out⟩

end Go.Proofs.YtggplbenliaodaaGreatDoor
