/- Holes that lists of numbers make (Made). Condition: lists of numbers that a machine holds. -/
import Derived.Test.YtljjbdbgedmadaaGreatDoorEz
import Derived.Test.YtljjbdbgedmadaaGreatDoorMx
import Derived.Test.YtljjbdbgedmadaaGreatDoorDrA
set_option maxHeartbeats 8000000
set_option maxRecDepth 100000
namespace Go.Proofs.YtljjbdbgedmadaaGreatDoor
open Go.RowKit
def LiesRows (w : World) (ao : Option Addr) (cap : Nat) (rows : List (List Int)) : Prop :=
 ∀ k, (h : k < rows.length) → ∃ b off ra rc, ao = some ⟨b, off, none⟩ ∧ rows.length ≤ cap ∧ b < w.heap.size ∧ w.cell? ⟨b, off + k, none⟩ = some (.slice ra rows[k].length rc) ∧ LiesAt 1 intVal w ra rc rows[k] ∧ rows[k].length ≤ rc ∧ LenOk rows[k].length
def FineH (h : Dl.Ho) : Prop := Dl.chkH h = 0 ∧ h.s.es.length ≤ 8 ∧ ∀ e ∈ h.s.es, Pl.LimE e
def DrewHs (w : World) (E : Ending) (w' : World) : Prop := ∃ (ts : List HT) (ao : Option Addr) (cap : Nat), (∀ t ∈ ts, FineH t.h) ∧ ts.length ≤ 6 ∧ E = .returned (.slice ao ts.length cap) ∧ HolesAt w' ao cap ts ∧ (∀ p, ao = some p → w.heap.size ≤ p.block) ∧ (ts.length ≤ cap ∧ (ao = none → cap = 0)) ∧ Kp w w' none
theorem fine_chk {es : List Pl.Ed} {r0 fr tu : Int} {pl : Bool} (h : Pl.Fine ⟨1, es, r0⟩) (hf : 1 ≤ fr ∧ fr ≤ tu ∧ tu ≤ 4) : FineH ⟨⟨1, es, max 1 r0⟩, fr, tu, pl⟩ := by
 obtain ⟨h1, h2, h3⟩ := h
 refine ⟨?_, h2, h3⟩
 have hc : Pl.chk ⟨1, es, max 1 r0⟩ = 0 := by
  unfold Pl.chk at h1 ⊢
  dsimp only at h1 ⊢
  split at h1
  ·cases h1
  ·rename_i q1
   rw [if_neg q1]
   split at h1
   ·cases h1
   ·rename_i q2
    rw [if_neg q2]
    split at h1
    ·rename_i q3; exact absurd h1 q3
    ·rename_i q3
     rw [if_neg q3]
     split at h1
     ·cases h1
     ·rename_i q4
      rw [if_neg q4]
      split at h1
      ·cases h1
      ·rename_i q5
       rw [if_neg (by omega)]
 unfold Dl.chkH
 rw [if_neg (by rw [hc]; simp)]
 dsimp only; rw [if_neg (by omega), if_neg (by unfold Dl.spanR; simp; omega)]
theorem lies_off_fresh {w w' : World} {v : Value} {ao : Option Addr} {cap : Nat} {es : List Pl.Ed} (h : LiesAt 7 edC w' ao cap es) (hv : ∀ q, v.ownBlock = some q → q < w.heap.size) (hf : ∀ p, ao = some p → w.heap.size ≤ p.block) : LiesOff 7 edC w' ao cap es v := fun k hk => by
 obtain ⟨b, off, e, hb, hc, hr⟩ := h k hk
 refine ⟨b, off, e, hb, hc, fun hq => ?_, hr⟩
 have h1 := hv b hq
 have h2 := hf _ e
 dsimp only at h2
 omega
theorem own_cap {w : World} {base size n m cap : Nat} {e : TypeId} {ao : Option Addr} {row : List Value} (h : w.ownsRow base e size (.slice ao n cap) m row) : m ≤ cap := by
 rcases h.2 with ⟨hv, rfl⟩ | ⟨g, cap', _, hv, _, _, hc, _⟩
 ·exact Nat.zero_le _
 ·injection hv with h1 h2 h3
  subst h3; exact hc
theorem own_nil {w : World} {base size n m cap : Nat} {e : TypeId} {row : List Value} (h : w.ownsRow base e size (.slice none n cap) m row) : cap = 0 := by
 rcases h.2 with ⟨hv, _⟩ | ⟨g, cap', _, hv, _⟩
 ·injection hv
 ·injection hv with h1; cases h1
def MyRel (n : Nat) (w : World) (v i : Value) (wr : World) : Prop := ∃ (k : Nat) (ts : List HT), k ≤ n ∧ k ≤ 6 ∧ i = I6 (k : Int) ∧ ts.length = k ∧ (∀ t ∈ ts, FineH t.h) ∧ Kp w wr none ∧ wr.ownsRow w.heap.size 52 6 v k (ts.flatMap htC) ∧ ∀ t ∈ ts, LiesOff 7 edC wr t.ea t.ec t.h.s.es v
theorem made12_end {w wr : World} {k uc : Nat} {ua : Option Addr} {ts : List HT} (hl : ts.length = k) (h6 : k ≤ 6) (hg : ∀ t ∈ ts, FineH t.h) (hk : Kp w wr none) (ho : wr.ownsRow w.heap.size 52 6 (.slice ua k uc) k (ts.flatMap htC)) (hf : ∀ t ∈ ts, LiesOff 7 edC wr t.ea t.ec t.h.s.es (.slice ua k uc)) : DrewHs w (.returned (.slice ua k uc)) wr := by
 subst hl; refine ⟨ts, ua, uc, hg, h6, rfl, ⟨(own_lies (f := htC) (fun _ => rfl) ho).2, fun t ht => (hf t ht).at⟩, fun p hp => ?_, ⟨own_cap ho, fun e => ?_⟩, hk⟩
 ·subst hp; exact (ho.lt p.block rfl).1
 ·subst e; exact own_nil ho
theorem made12_any (rows : List (List Int)) (n : Nat) (hn : rows.length = n) (ao : Option Addr) (cap : Nat) (w : World) (hl : LiesRows w ao cap rows) : Calls Tryz.prog 12 #[.slice ao n cap] w (DrewHs w) := by
 have FR := oh hl; have HN := oh hn; obtain ⟨i0, hi, hz0, hz1, hz2⟩ := info_parts infoHole
 clear hl hn; go_enter Tryz.func12, Tryz.ntmps12
 go_wp2_with fail
 go_loopw [3, 4] (fun v i wr => MyRel n w v i wr) (fun _ i _ => 6 - (intOf i).toNat)
 case atStart => exact ⟨0, [], Nat.zero_le _, Nat.zero_le _, rfl, rfl, (fun t (h : t ∈ ([] : List HT)) => absurd h (by simp)), Kp.refl _ _, ⟨by rfl, .inl ⟨rfl, rfl⟩⟩, (fun t (h : t ∈ ([] : List HT)) => absurd h (by simp))⟩
 case round =>
  obtain ⟨k, ts, hk, hk6, rfl, hlen, hgood, hK, hO, hoff⟩ := hrel
  obtain ⟨ua, uc, rfl⟩ := own_slice hO
  have HK := oh hK; have HOW := oh hO; have HLEN := oh hlen; have HGOOD := oh hgood; have HOFF := oh hoff; have HK6 : Hid (k ≤ 6) := oh hk6
  clear hK hO hlen hgood hoff; have hk0 := nn k; have hn0 := nn n
  by_cases hlt : k < n
  ·have hk1 : (k : Int) < (n : Int) := by omega
   by_cases hlt6 : k < 6
   ·have hk2 : (k : Int) < 6 := by omega
    obtain ⟨b, off, ra, rc, rfl, hcap, hbw, hck, hli, hlc, hl62⟩ := FR.out k (by have := HN.out; omega)
    have hcap2 : n ≤ cap := by have := HN.out; omega
    obtain ⟨xs, hxs⟩ : ∃ xs, rows[k]'(by have := HN.out; omega) = xs := ⟨_, rfl⟩
    rw [hxs] at hck hli hlc hl62; obtain ⟨xn, hxn⟩ : ∃ q, xs.length = q := ⟨_, rfl⟩
    rw [hxn] at hck hl62; have HCK : Hid (∀ V, Kp wr V none → V.cell? ⟨b, off + k, none⟩ = some (.slice ra xn rc)) := oh (fun V kv => ((HK.out.trans kv).below.cell (p := ⟨b, off + k, none⟩) hbw).trans hck)
    have HLW := oh (hli.keep HK.out)
    have HNX : Hid (∀ m V, (0 < m ∧ m ≤ 1000000) → Kp wr V none → DrawAt wr.heap.size ra xn rc V → Calls Tryz.prog 37 #[.pointer (some ⟨wr.heap.size, 0, none⟩), I6 m] V (Drew wr.heap.size ra xn rc V m)) := oh fun m V hm hV hd => next_any xs xn hxn wr.heap.size ra rc m wr V HLW.out (Nat.le_refl _) hV hd hm.1 hm.2 hl62
    have HMD : Hid (∀ V, Kp wr V none → Calls Tryz.prog 38 #[.slice ra xn rc] V (MadeIs V)) := oh fun V kv => made38_any xs xn hxn ra rc V (HLW.out.keep kv) hl62
    have hc0 := HCK.out wr (Kp.refl _ _)
    clear hcap hbw hck hli hlc hl62 hxs hxn HLW; go_upto_region 6 with fail
    have ka := (Kp.refl wr none).alloc (.cells #[.slice ra xn rc, I6 0] 90)
    have HD1 : Hid (DrawAt wr.heap.size ra xn rc (wr.alloc (.cells #[.slice ra xn rc, I6 0] 90))) := oh ⟨0, heap_alloc_new wr _, Nat.zero_le _⟩
    have K1 := oh ka; clear ka hc0
    generalize wr.alloc (.cells #[.slice ra xn rc, I6 0] 90) = w1 at *
    go_wp2_with fail
    refine (HNX.out 3 _ (by omega) K1.out HD1.out).mono ?_
    rintro E w2 ⟨v1, rfl, hv1, hd, kk⟩; have HV_v1 := oh hv1; have HD_v1 := oh hd; have K_v1 := oh (Kp.of_own K1.out kk (Nat.le_refl _))
    have hw1 : wrap64 (1 + v1) = 1 + v1 := wrap_mid (by omega) (by omega)
    clear hv1 hd kk HD1 K1; go_wp2_with fail
    refine (HNX.out 3 _ (by omega) K_v1.out HD_v1.out).mono ?_
    rintro E w3 ⟨v2, rfl, hv2, hd, kk⟩; have HV_v2 := oh hv2; have HD_v2 := oh hd; have K_v2 := oh (Kp.of_own K_v1.out kk (Nat.le_refl _))
    have hw2 : wrap64 (1 + v1 + v2) = 1 + v1 + v2 := wrap_mid (by have := HV_v1.out; omega) (by have := HV_v1.out; omega)
    clear hv2 hd kk HD_v1 K_v1; go_wp2_with fail
    refine (HNX.out 2 _ (by omega) K_v2.out HD_v2.out).mono ?_
    rintro E w4 ⟨v3, rfl, hv3, hd, kk⟩; have HV_v3 := oh hv3; have HD_v3 := oh hd; have K_v3 := oh (Kp.of_own K_v2.out kk (Nat.le_refl _))
    clear hv3 hd kk HD_v2 K_v2; go_upto_region 8 with fail
    clear hw1 hw2; obtain ⟨fr, hfr⟩ : ∃ z, 1 + v1 = z := ⟨_, rfl⟩
    obtain ⟨tu, htu⟩ : ∃ z, min 4 (1 + v1 + v2) = z := ⟨_, rfl⟩
    obtain ⟨pl, hpl⟩ : ∃ z, (v3 == 0) = z := ⟨_, rfl⟩
    have HFT : Hid (1 ≤ fr ∧ fr ≤ tu ∧ tu ≤ 4) := oh (by have h1 := HV_v1.out; have h2 := HV_v2.out; omega)
    rw [htu, hpl]; rw [hfr] at htu ⊢; clear hfr htu hpl HV_v1 HV_v2 HV_v3; have ka := (Kp.refl w4 none).alloc (.cells #[I6 0, .slice none 0 0, I6 0, I6 fr, I6 tu, .bool pl] 52)
    have HH := oh (heap_alloc_new w4 (.cells #[I6 0, .slice none 0 0, I6 0, I6 fr, I6 tu, .bool pl] 52))
    have K5 := oh (K_v3.out.trans ka); have HD5 := oh (HD_v3.out.kp ka)
    have HHW : Hid (wr.heap.size ≤ w4.heap.size) := oh K_v3.out.size
    have HDH : Hid (wr.heap.size < w4.heap.size) := oh HD_v3.out.lt
    obtain ⟨H, hH⟩ : ∃ z, w4.heap.size = z := ⟨_, rfl⟩
    generalize w4.alloc (.cells #[I6 0, .slice none 0 0, I6 0, I6 fr, I6 tu, .bool pl] 52) = w5 at *
    rw [hH] at HH HHW HDH ⊢; have HHL : Hid (H < w5.heap.size) := oh (lt_of_block HH.out)
    clear hH ka K_v3 HD_v3; have hc0 := HCK.out _ K5.out
    go_wp2_with fail
    refine (HMD.out _ K5.out).mono ?_
    rintro E w6 (⟨ea0, m0, ec0, rfl, k6⟩ | ⟨⟨sk, es, r0⟩, ea, ec, hfine, hsk, rfl, hles, hfre, k6⟩)
    ·have HH6 := oh (blk HH.out k6); have K6 := oh (K5.out.trans k6); have HD6 := oh (HD5.out.kp k6); clear k6 hc0 HH K5 HD5
     have f0 := fz HH6.out 0
     have f1 := fz HH6.out 1
     have f2 := fz HH6.out 2
     have z0 := hcell HH6.out 0 rfl
     have z1 := hcell HH6.out 1 rfl
     have z2 := hcell HH6.out 2 rfl
     go_upto_region 9 with fail
     have HS6 : Hid ((((w6.setCell ⟨H, 0, none⟩ (I6 2)).setCell ⟨H, 1, none⟩ (.slice ea0 m0 ec0)).setCell ⟨H, 2, none⟩ (I6 0)).heap[H]? = some (.cells #[I6 2, .slice ea0 m0 ec0, I6 0, I6 fr, I6 tu, .bool pl] 52 (0, 0))) := oh (heap_set (o := 2) (v := I6 0) (heap_set (o := 1) (v := .slice ea0 m0 ec0) (heap_set (o := 0) (v := I6 2) HH6.out)))
     have ks : Kp w6 (((w6.setCell ⟨H, 0, none⟩ (I6 2)).setCell ⟨H, 1, none⟩ (.slice ea0 m0 ec0)).setCell ⟨H, 2, none⟩ (I6 0)) (some H) := (((Kp.refl w6 (some H)).set _).set _).set _
     have K7 := oh (Kp.of_own K6.out ks HHW.out)
     have HD7 : Hid (DrawAt wr.heap.size ra xn rc (((w6.setCell ⟨H, 0, none⟩ (I6 2)).setCell ⟨H, 1, none⟩ (.slice ea0 m0 ec0)).setCell ⟨H, 2, none⟩ (I6 0))) := oh (by
      obtain ⟨a, h1, h2⟩ := HD6.out
      exact ⟨a, res_kept h1 ks (by intro q hq; injection hq with hq; have := HDH.out; omega), h2⟩)
     clear f0 f1 f2 z0 z1 z2 ks HH6 K6 HD6
     generalize ((w6.setCell ⟨H, 0, none⟩ (I6 2)).setCell ⟨H, 1, none⟩ (.slice ea0 m0 ec0)).setCell ⟨H, 2, none⟩ (I6 0) = w7 at *
     have z0 := hcell HS6.out 0 rfl
     go_wp2_with fail
     refine (HNX.out 50 _ (by omega) K7.out HD7.out).mono ?_
     rintro E w8 ⟨px, rfl, hpx, hd, kk⟩; have HV_px := oh hpx; have HD_px := oh hd; have K_px := oh (Kp.of_own K7.out kk (Nat.le_refl _))
     have HH8 := oh (res_kept HS6.out kk (by intro q hq; injection hq with hq; have := HDH.out; omega))
     clear hpx hd kk K7 HD7 HS6 z0; go_wp2_with fail
     refine (HNX.out 50 _ (by omega) K_px.out HD_px.out).mono ?_
     rintro E w9 ⟨py, rfl, hpy, hd, kk⟩; have HV_py := oh hpy; have HD_py := oh hd; have K_py := oh (Kp.of_own K_px.out kk (Nat.le_refl _))
     have HH9 := oh (res_kept HH8.out kk (by intro q hq; injection hq with hq; have := HDH.out; omega))
     have hw3 : wrap64 (py - 25) = py - 25 := wrap_mid (by omega) (by omega)
     clear hpy hd kk K_px HD_px HH8; go_wp2_with fail
     refine (HNX.out 4 _ (by omega) K_py.out HD_py.out).mono ?_
     rintro E w10 ⟨r1, rfl, hr1, hd, kk⟩; have HV_r1 := oh hr1; have HD_r1 := oh hd; have K_r1 := oh (Kp.of_own K_py.out kk (Nat.le_refl _))
     have HH10 := oh (res_kept HH9.out kk (by intro q hq; injection hq with hq; have := HDH.out; omega))
     have hw4 : wrap64 (1 + r1) = 1 + r1 := wrap_mid (by omega) (by omega)
     clear hr1 hd kk K_py HD_py HH9; go_wp2_with fail
     refine (rdisc_any px (py - 25) (1 + r1) _).mono ?_
     rintro E w11 ⟨ea, ec, rfl, hles, hfre, k11⟩; have HFI : Hid (Pl.Fine (Pl.disc ⟨px, py - 25⟩ (1 + r1))) := oh (Pl.fine_disc (by have h1 := HV_px.out; have h2 := HV_py.out; unfold Pl.Lim; dsimp only; omega) (by have := HV_r1.out; omega) (by have := HV_r1.out; omega))
     have HL0 := oh hles; have HFR : Hid (∀ p, ea = some p → H < p.block) := oh (fun p hp => by have h1 := hfre p hp; have h2 := lt_of_block HH10.out; omega)
     have HH11 := oh (blk HH10.out k11); have K11 := oh (K_r1.out.trans k11)
     obtain ⟨es, hes⟩ : ∃ z, (Pl.disc ⟨px, py - 25⟩ (1 + r1)).es = z := ⟨_, rfl⟩
     obtain ⟨r0, hr0⟩ : ∃ z, 1 + r1 = z := ⟨_, rfl⟩
     have HFH : Hid (FineH ⟨⟨1, es, max 1 r0⟩, fr, tu, pl⟩) := oh (fine_chk (by rw [← hes, ← hr0]; exact HFI.out) HFT.out)
     rw [hes] at HL0 ⊢; have hk1' : (Pl.disc ⟨px, py - 25⟩ (1 + r1)).k = 1 := rfl
     have hr1' : (Pl.disc ⟨px, py - 25⟩ (1 + r1)).r = 1 + r1 := rfl
     rw [hk1', hr1', hr0]; clear hles hfre k11 hw3 hw4 HH10 K_r1 HD_r1 HFI hes hr0 hk1' hr1'; have f0 := fz HH11.out 0
     have f1 := fz HH11.out 1
     have f2 := fz HH11.out 2
     have z0 := hcell HH11.out 0 rfl
     have z1 := hcell HH11.out 1 rfl
     have z2 := hcell HH11.out 2 rfl
     go_upto_region 11 with fail
     have HH : Hid ((((w11.setCell ⟨H, 0, none⟩ (I6 1)).setCell ⟨H, 1, none⟩ (.slice ea es.length ec)).setCell ⟨H, 2, none⟩ (I6 r0)).heap[H]? = some (.cells #[I6 1, .slice ea es.length ec, I6 r0, I6 fr, I6 tu, .bool pl] 52 (0, 0))) := oh (heap_set (o := 2) (v := I6 r0) (heap_set (o := 1) (v := .slice ea es.length ec) (heap_set (o := 0) (v := I6 1) HH11.out)))
     have ks : Kp w11 (((w11.setCell ⟨H, 0, none⟩ (I6 1)).setCell ⟨H, 1, none⟩ (.slice ea es.length ec)).setCell ⟨H, 2, none⟩ (I6 r0)) (some H) := (((Kp.refl w11 (some H)).set _).set _).set _
     have K12 := oh (Kp.of_own K11.out ks HHW.out)
     have HL := oh (HL0.out.keepRow ks (fun p hp => by have := HFR.out p hp; omega))
     clear f0 f1 f2 z0 z1 z2 ks HH11 K11 HL0
     generalize ((w11.setCell ⟨H, 0, none⟩ (I6 1)).setCell ⟨H, 1, none⟩ (.slice ea es.length ec)).setCell ⟨H, 2, none⟩ (I6 r0) = w12 at *
     have g2 := fz HH.out 2
     have x2 := hcell HH.out 2 rfl
     go_upto_region 12 with fail
     have hs := heap_set (o := 2) (v := I6 (max 1 r0)) HH.out
     have HS : Hid ((w12.setCell ⟨H, 2, none⟩ (I6 (max 1 r0))).heap[H]? = some (.cells #[I6 1, .slice ea es.length ec, I6 (max 1 r0), I6 fr, I6 tu, .bool pl] 52 (0, 0))) := oh hs
     have ks : Kp w12 (w12.setCell ⟨H, 2, none⟩ (I6 (max 1 r0))) (some H) := (Kp.refl w12 (some H)).set _
     have KS := oh (Kp.of_own K12.out ks HHW.out)
     have HLS := oh (HL.out.keepRow ks (fun p hp => by have := HFR.out p hp; omega))
     clear g2 x2 hs ks HH HL
     generalize w12.setCell ⟨H, 2, none⟩ (I6 (max 1 r0)) = Y at *
     have x0 := hcell HS.out 0 rfl
     have x1 := hcell HS.out 1 rfl
     have x2 := hcell HS.out 2 rfl
     have x3 := hcell HS.out 3 rfl
     have x4 := hcell HS.out 4 rfl
     have x5 := hcell HS.out 5 rfl
     have ka := (Kp.refl Y none).alloc (.cells #[I6 1, .slice ea es.length ec, I6 (max 1 r0), I6 fr, I6 tu, .bool pl] 52)
     have KA := oh (KS.out.trans ka)
     have HLO : Hid (LiesOff 7 edC (Y.alloc (.cells #[I6 1, .slice ea es.length ec, I6 (max 1 r0), I6 fr, I6 tu, .bool pl] 52)) ea ec es (.slice ua k uc)) := oh (lies_off_fresh (w := wr) (HLS.out.keep ka) (fun q hq => (HOW.out.lt q hq).2) (fun p hp => by have h1 := HFR.out p hp; have h2 := HHW.out; omega))
     have HDL : Hid (IsList 6 htC (Y.alloc (.cells #[I6 1, .slice ea es.length ec, I6 (max 1 r0), I6 fr, I6 tu, .bool pl] 52)) (.slice (some ⟨Y.heap.size, 0, none⟩) 1 1) [(⟨⟨⟨1, es, max 1 r0⟩, fr, tu, pl⟩, ea, ec⟩ : HT)]) := oh (hole_list (w := Y) (⟨⟨⟨1, es, max 1 r0⟩, fr, tu, pl⟩, ea, ec⟩ : HT))
     clear ka; have HOWA := oh (own_kp HOW.out KA.out)
     go_wp2_with (at_builtin; go_must (refine wpList_app (f := htC) (by rfl) (.tmp 64) (.tmp 66) w.heap.size 30 52 (by rfl) i0 _ 6 64 Tryz.underlying30 hi hz0 hz1 hz2 rfl (by omega) (fun _ => rfl) ht_one (.slice ua k uc) k (ts.flatMap htC) (by rfl) HOWA.out _ [(⟨⟨⟨1, es, max 1 r0⟩, fr, tu, pl⟩, ea, ec⟩ : HT)] (by rfl) HDL.out (by have := HK6.out; unfold maxLen; simp; omega) (by have := HK6.out; simp; omega) (HK.out.trans KA.out).size ?_))
     intro v3 w3 ho hg hbb; obtain ⟨ea3, ec3, rfl⟩ := own_slice ho
     have HO3 := oh ho; have K3 : Hid (Kp w w3 none) := oh (Kp.row (HK.out.trans KA.out) hg (fun q hq => (HOWA.out.lt q hq).1))
     have HT3 : Hid (∀ t ∈ ts ++ [(⟨⟨⟨1, es, max 1 r0⟩, fr, tu, pl⟩, ea, ec⟩ : HT)], LiesOff 7 edC w3 t.ea t.ec t.h.s.es (.slice ea3 (k + 1) ec3)) := oh (fun t ht => by
      have hv : (Value.slice ea3 (k + 1) ec3).ownBlock = (Value.slice ua k uc).ownBlock ∨ ∃ n, (Y.alloc (.cells #[I6 1, .slice ea es.length ec, I6 (max 1 r0), I6 fr, I6 tu, .bool pl] 52)).heap.size ≤ n ∧ (Value.slice ea3 (k + 1) ec3).ownBlock = some n := by
       rcases hbb with hbb | hbb
       ·exact .inl hbb
       ·exact .inr ⟨Y.heap.size + 1, by simp, hbb⟩
      rcases List.mem_append.1 ht with ht | ht
      ·exact ((HOFF.out t ht).keep (KA.out.weak _)).turn hg hv
      ·rw [List.mem_singleton.1 ht]; exact HLO.out.turn hg hv)
     have HREL : Hid (MyRel n w (.slice ea3 (k + 1) ec3) (I6 ((k : Int) + 1)) w3) := oh ⟨k + 1, ts ++ [(⟨⟨⟨1, es, max 1 r0⟩, fr, tu, pl⟩, ea, ec⟩ : HT)], hlt, by omega, by push_cast; rfl, by rw [List.length_append, HLEN.out]; rfl, (fun t ht => by
      rcases List.mem_append.1 ht with ht | ht
      ·exact HGOOD.out t ht
      ·rw [List.mem_singleton.1 ht]; exact HFH.out), K3.out, (by have h := HO3.out; rw [List.flatMap_append]; exact h), HT3.out⟩
     have HME : Hid (6 - (intOf (I6 ((k : Int) + 1))).toNat < 6 - (intOf (I6 (k : Int))).toNat) := oh (by simp [intOf]; omega)
     clear ho hg hbb HO3 HT3 K3 KA HOWA HLO HDL x0 x1 x2 x3 x4 x5; go_wp2_with fail
     try rw [wrap_mid (n := (k : Int) + 1) (by omega) (by omega)]
     first | exact ⟨HREL.out, HME.out⟩ | (go_roundw; all_goals first | exact HREL.out | exact HME.out)
    ·dsimp only at hsk
     subst hsk; have HFH : Hid (FineH ⟨⟨1, es, max 1 r0⟩, fr, tu, pl⟩) := oh (fine_chk hfine HFT.out)
     have HH6 := oh (blk HH.out k6); have K6 := oh (K5.out.trans k6)
     have HFR : Hid (∀ p, ea = some p → H < p.block) := oh (fun p hp => by have h1 := hfre p hp; have h2 := HHL.out; omega)
     have HL0 := oh hles; clear k6 hc0 HH K5 HD5 hfine hles hfre; have f0 := fz HH6.out 0
     have f1 := fz HH6.out 1
     have f2 := fz HH6.out 2
     have z0 := hcell HH6.out 0 rfl
     have z1 := hcell HH6.out 1 rfl
     have z2 := hcell HH6.out 2 rfl
     go_upto_region 9 with fail
     have HH : Hid ((((w6.setCell ⟨H, 0, none⟩ (I6 1)).setCell ⟨H, 1, none⟩ (.slice ea es.length ec)).setCell ⟨H, 2, none⟩ (I6 r0)).heap[H]? = some (.cells #[I6 1, .slice ea es.length ec, I6 r0, I6 fr, I6 tu, .bool pl] 52 (0, 0))) := oh (heap_set (o := 2) (v := I6 r0) (heap_set (o := 1) (v := .slice ea es.length ec) (heap_set (o := 0) (v := I6 1) HH6.out)))
     have ks : Kp w6 (((w6.setCell ⟨H, 0, none⟩ (I6 1)).setCell ⟨H, 1, none⟩ (.slice ea es.length ec)).setCell ⟨H, 2, none⟩ (I6 r0)) (some H) := (((Kp.refl w6 (some H)).set _).set _).set _
     have K12 := oh (Kp.of_own K6.out ks HHW.out)
     have HL := oh (HL0.out.keepRow ks (fun p hp => by have := HFR.out p hp; omega))
     clear f0 f1 f2 z0 z1 z2 ks HH6 K6 HL0
     generalize ((w6.setCell ⟨H, 0, none⟩ (I6 1)).setCell ⟨H, 1, none⟩ (.slice ea es.length ec)).setCell ⟨H, 2, none⟩ (I6 r0) = w12 at *
     have y0 := hcell HH.out 0 rfl
     go_upto_region 11 with fail
     clear y0; have g2 := fz HH.out 2
     have x2 := hcell HH.out 2 rfl
     go_upto_region 12 with fail
     have hs := heap_set (o := 2) (v := I6 (max 1 r0)) HH.out
     have HS : Hid ((w12.setCell ⟨H, 2, none⟩ (I6 (max 1 r0))).heap[H]? = some (.cells #[I6 1, .slice ea es.length ec, I6 (max 1 r0), I6 fr, I6 tu, .bool pl] 52 (0, 0))) := oh hs
     have ks : Kp w12 (w12.setCell ⟨H, 2, none⟩ (I6 (max 1 r0))) (some H) := (Kp.refl w12 (some H)).set _
     have KS := oh (Kp.of_own K12.out ks HHW.out)
     have HLS := oh (HL.out.keepRow ks (fun p hp => by have := HFR.out p hp; omega))
     clear g2 x2 hs ks HH HL
     generalize w12.setCell ⟨H, 2, none⟩ (I6 (max 1 r0)) = Y at *
     have x0 := hcell HS.out 0 rfl
     have x1 := hcell HS.out 1 rfl
     have x2 := hcell HS.out 2 rfl
     have x3 := hcell HS.out 3 rfl
     have x4 := hcell HS.out 4 rfl
     have x5 := hcell HS.out 5 rfl
     have ka := (Kp.refl Y none).alloc (.cells #[I6 1, .slice ea es.length ec, I6 (max 1 r0), I6 fr, I6 tu, .bool pl] 52)
     have KA := oh (KS.out.trans ka)
     have HLO : Hid (LiesOff 7 edC (Y.alloc (.cells #[I6 1, .slice ea es.length ec, I6 (max 1 r0), I6 fr, I6 tu, .bool pl] 52)) ea ec es (.slice ua k uc)) := oh (lies_off_fresh (w := wr) (HLS.out.keep ka) (fun q hq => (HOW.out.lt q hq).2) (fun p hp => by have h1 := HFR.out p hp; have h2 := HHW.out; omega))
     have HDL : Hid (IsList 6 htC (Y.alloc (.cells #[I6 1, .slice ea es.length ec, I6 (max 1 r0), I6 fr, I6 tu, .bool pl] 52)) (.slice (some ⟨Y.heap.size, 0, none⟩) 1 1) [(⟨⟨⟨1, es, max 1 r0⟩, fr, tu, pl⟩, ea, ec⟩ : HT)]) := oh (hole_list (w := Y) (⟨⟨⟨1, es, max 1 r0⟩, fr, tu, pl⟩, ea, ec⟩ : HT))
     clear ka; have HOWA := oh (own_kp HOW.out KA.out)
     go_wp2_with (at_builtin; go_must (refine wpList_app (f := htC) (by rfl) (.tmp 64) (.tmp 66) w.heap.size 30 52 (by rfl) i0 _ 6 64 Tryz.underlying30 hi hz0 hz1 hz2 rfl (by omega) (fun _ => rfl) ht_one (.slice ua k uc) k (ts.flatMap htC) (by rfl) HOWA.out _ [(⟨⟨⟨1, es, max 1 r0⟩, fr, tu, pl⟩, ea, ec⟩ : HT)] (by rfl) HDL.out (by have := HK6.out; unfold maxLen; simp; omega) (by have := HK6.out; simp; omega) (HK.out.trans KA.out).size ?_))
     intro v3 w3 ho hg hbb; obtain ⟨ea3, ec3, rfl⟩ := own_slice ho
     have HO3 := oh ho; have K3 : Hid (Kp w w3 none) := oh (Kp.row (HK.out.trans KA.out) hg (fun q hq => (HOWA.out.lt q hq).1))
     have HT3 : Hid (∀ t ∈ ts ++ [(⟨⟨⟨1, es, max 1 r0⟩, fr, tu, pl⟩, ea, ec⟩ : HT)], LiesOff 7 edC w3 t.ea t.ec t.h.s.es (.slice ea3 (k + 1) ec3)) := oh (fun t ht => by
      have hv : (Value.slice ea3 (k + 1) ec3).ownBlock = (Value.slice ua k uc).ownBlock ∨ ∃ n, (Y.alloc (.cells #[I6 1, .slice ea es.length ec, I6 (max 1 r0), I6 fr, I6 tu, .bool pl] 52)).heap.size ≤ n ∧ (Value.slice ea3 (k + 1) ec3).ownBlock = some n := by
       rcases hbb with hbb | hbb
       ·exact .inl hbb
       ·exact .inr ⟨Y.heap.size + 1, by simp, hbb⟩
      rcases List.mem_append.1 ht with ht | ht
      ·exact ((HOFF.out t ht).keep (KA.out.weak _)).turn hg hv
      ·rw [List.mem_singleton.1 ht]; exact HLO.out.turn hg hv)
     have HREL : Hid (MyRel n w (.slice ea3 (k + 1) ec3) (I6 ((k : Int) + 1)) w3) := oh ⟨k + 1, ts ++ [(⟨⟨⟨1, es, max 1 r0⟩, fr, tu, pl⟩, ea, ec⟩ : HT)], hlt, by omega, by push_cast; rfl, by rw [List.length_append, HLEN.out]; rfl, (fun t ht => by
      rcases List.mem_append.1 ht with ht | ht
      ·exact HGOOD.out t ht
      ·rw [List.mem_singleton.1 ht]; exact HFH.out), K3.out, (by have h := HO3.out; rw [List.flatMap_append]; exact h), HT3.out⟩
     have HME : Hid (6 - (intOf (I6 ((k : Int) + 1))).toNat < 6 - (intOf (I6 (k : Int))).toNat) := oh (by simp [intOf]; omega)
     clear ho hg hbb HO3 HT3 K3 KA HOWA HLO HDL x0 x1 x2 x3 x4 x5; go_wp2_with fail
     try rw [wrap_mid (n := (k : Int) + 1) (by omega) (by omega)]
     first | exact ⟨HREL.out, HME.out⟩ | (go_roundw; all_goals first | exact HREL.out | exact HME.out)
   ·have hk2 : ¬ (k : Int) < 6 := by omega
    go_wp2_with fail
    go_ret
    exact made12_end HLEN.out HK6.out HGOOD.out HK.out HOW.out HOFF.out
  ·have hk1 : ¬ (k : Int) < (n : Int) := by omega
   go_wp2_with fail
   go_ret
   exact made12_end HLEN.out HK6.out HGOOD.out HK.out HOW.out HOFF.out
end Go.Proofs.YtljjbdbgedmadaaGreatDoor
