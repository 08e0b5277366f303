/- At most five holes with five edges each (the law's cut). No condition but the model's bounds. -/
import Derived.Test.YtljjbdbgedmadaaGreatDoorLw
set_option maxHeartbeats 16000000
set_option maxRecDepth 100000
namespace Go.Proofs.YtljjbdbgedmadaaGreatDoor
open Go.RowKit
def cutT (t : HT) : HT := ⟨⟨⟨t.h.s.k, t.h.s.es.take 5, t.h.s.r⟩, t.h.f, t.h.t, t.h.pl⟩, t.ea, t.ec⟩
theorem lies_takeN {α : Type} {m : Nat} {f : α → List Value} {w : World} {ao : Option Addr} {cap k : Nat} {xs : List α} (h : LiesAt m f w ao cap xs) : LiesAt m f w ao cap (xs.take k) := fun i hi => by
 have hi2 : i < xs.length := by rw [List.length_take] at hi; omega
 obtain ⟨b', off', e, hb, hc, hr⟩ := h i hi2
 have eg : (xs.take k)[i] = xs[i] := List.getElem_take
 refine ⟨b', off', e, hb, by rw [List.length_take]; omega, fun j hj => ?_⟩
 simp only [eg] at hj ⊢
 exact hr j hj
def CutIs (w : World) (ts : List HT) (E : Ending) (w' : World) : Prop := ∃ v, E = .returned v ∧ w'.ownsRow w.heap.size 52 6 v ((ts.take 5).map cutT).length (((ts.take 5).map cutT).flatMap htC) ∧ Kp w w' none
def CuRel (ts : List HT) (w : World) (v i : Value) (wr : World) : Prop := ∃ k : Nat, k ≤ ts.length ∧ k ≤ 5 ∧ i = I6 (k : Int) ∧ Kp w wr none ∧ wr.ownsRow w.heap.size 52 6 v k (((ts.take k).map cutT).flatMap htC)
theorem cutH_any (ts : List HT) (n : Nat) (hn : ts.length = n) (ao : Option Addr) (cap : Nat) (w : World) (hl : HolesAt w ao cap ts) (hg : ∀ t ∈ ts, RawH t) : Calls Tryz.prog 23 #[.slice ao n cap] w (CutIs w ts) := by
 have FA := oh hl; have HN := oh hn; have HGG := oh hg
 obtain ⟨i0, hi, hz0, hz1, hz2⟩ := info_parts infoHole
 clear hl hn hg
 go_enter Tryz.func23, Tryz.ntmps23
 go_wp2_with fail
 go_loopw [3, 4] (fun v i wr => CuRel ts w v i wr) (fun _ i _ => 5 - (intOf i).toNat)
 case atStart => exact ⟨0, Nat.zero_le _, Nat.zero_le _, rfl, Kp.refl _ _, World.ownsRow_nil _ _ _ _⟩
 case round =>
  obtain ⟨k, hk, hk5, rfl, hK, hO⟩ := hrel
  obtain ⟨ua, uc, rfl⟩ := own_slice hO
  have HK := oh hK; have HOW := oh hO; have HK5 := oh hk5; rw [HN.out] at hk; have HKN := oh hk; clear hK hO hk hk5
  have hk0 := nn k
  have hn0 := nn n
  have HEND : Hid (k = n ∨ k = 5 → CutIs w ts (.returned (.slice ua k uc)) wr) := oh fun h => by
   have e1 : ts.take k = ts.take 5 := by
    rcases h with h | h
    ·rw [List.take_of_length_le (by rw [HN.out]; omega), List.take_of_length_le (by rw [HN.out]; have := HK5.out; omega)]
    ·rw [h]
   have e2 : ((ts.take 5).map cutT).length = k := by rw [← e1, List.length_map, List.length_take, HN.out]; have := HKN.out; omega
   exact ⟨_, rfl, by rw [e2, ← e1]; exact HOW.out, HK.out⟩
  by_cases hlt : k < n
  ·have hk1 : (k : Int) < (n : Int) := by omega
   by_cases hl5 : k < 5
   ·have hk2 : (k : Int) < 5 := by omega
    have hkl : k < ts.length := by rw [HN.out]; exact hlt
    obtain ⟨b, off, rfl, hcap, hbs, hcx⟩ := FA.out.ho (k := k) hkl
    have hca : n ≤ cap := by have := HN.out; omega
    have hgg := HGG.out _ (List.getElem_mem hkl)
    have hle := FA.out.2 _ (List.getElem_mem hkl)
    have hxx := hcx wr HK.out
    obtain ⟨x, hx⟩ : ∃ e, ts[k] = e := ⟨_, rfl⟩
    have HTK : Hid ((ts.take (k + 1)).map cutT = (ts.take k).map cutT ++ [cutT x]) := oh (by rw [List.take_add_one, List.getElem?_eq_getElem hkl, hx, List.map_append]; rfl)
    rw [hx] at hgg hxx hle; obtain ⟨⟨⟨sk, es, sr⟩, xf, xt, xp⟩, xa, xc⟩ := x; obtain ⟨g1, g2, _⟩ := hgg
    dsimp only at g1 g2 hxx hle
    obtain ⟨xn, hxn⟩ : ∃ q, es.length = q := ⟨_, rfl⟩
    rw [hxn] at hxx g1; have HES := oh hxn
    obtain ⟨m, hm⟩ : ∃ m, min xn 5 = m := ⟨_, rfl⟩
    have hmi : min (xn : Int) 5 = (m : Int) := by omega
    have hm0 := nn m
    have hm1 : (m : Int) ≤ (xc : Int) := by omega
    have hm2 : m ≤ xc := by omega
    have HM := oh hm
    have HNN : Hid (xa = none → xn = 0 ∧ xc = 0) := oh fun e => by
     have h2 := g2 e
     exact ⟨by omega, h2⟩
    obtain ⟨x0, x1, x2, x3, x4, x5⟩ := hxx; clear g1 g2 hx hcx hxn hkl hcap hm hle; go_upto_region 6 with fail
    clear x0 x1 x2 x3 x4 x5
    have HB0 := oh (heap_alloc_new wr (.cells #[I6 sk, .slice xa xn xc, I6 sr, I6 xf, I6 xt, .bool xp] 52))
    have K1 : Hid (Kp wr (wr.alloc (.cells #[I6 sk, .slice xa xn xc, I6 sr, I6 xf, I6 xt, .bool xp] 52)) none) := oh ((Kp.refl wr none).alloc _)
    obtain ⟨B, hB⟩ : ∃ z, wr.heap.size = z := ⟨_, rfl⟩
    have HBB : Hid (wr.heap.size ≤ B) := oh (by omega)
    generalize wr.alloc (.cells #[I6 sk, .slice xa xn xc, I6 sr, I6 xf, I6 xt, .bool xp] 52) = w1 at *
    rw [hB] at HB0 ⊢; clear hB
    have x1 := hcell HB0.out 1 rfl
    have f1 := fz HB0.out 1
    have HSL : Hid (∀ Q2 : Option Addr → Nat → Nat → Prop, (∀ a, Q2 (some a) m xc) → (xa = none → Q2 none 0 0) → Q2 xa m xc) := oh fun Q2 h1 h2 => by
     cases hxa : xa with
     | none => have := HNN.out hxa; have := HM.out; rw [show m = 0 by omega, show xc = 0 by omega]; exact h2 hxa
     | some a => exact h1 a
    go_upto_region 7 with fail
    have hs := heap_set (o := 1) (v := .slice xa m xc) HB0.out
    simp at hs
    have kz : Kp w1 (w1.setCell ⟨B, 1, none⟩ (.slice xa m xc)) (some B) := (Kp.refl w1 (some B)).set _
    have HB2 := oh hs
    have K2 : Hid (Kp wr (w1.setCell ⟨B, 1, none⟩ (.slice xa m xc)) none) := oh (Kp.of_own K1.out kz HBB.out)
    clear hs kz x1 f1 HB0 K1 hmi hm0 hm1 hm2
    generalize w1.setCell ⟨B, 1, none⟩ (.slice xa m xc) = w2 at *
    have x0 := hcell HB2.out 0 rfl
    have x1 := hcell HB2.out 1 rfl
    have x2 := hcell HB2.out 2 rfl
    have x3 := hcell HB2.out 3 rfl
    have x4 := hcell HB2.out 4 rfl
    have x5 := hcell HB2.out 5 rfl
    have KA : Hid (Kp w (w2.alloc (.cells #[I6 sk, .slice xa m xc, I6 sr, I6 xf, I6 xt, .bool xp] 52)) none) := oh ((HK.out.trans K2.out).alloc _)
    have HOWA := oh (own_kp HOW.out (K2.out.alloc (.cells #[I6 sk, .slice xa m xc, I6 sr, I6 xf, I6 xt, .bool xp] 52)))
    have HDL : Hid (IsList 6 htC (w2.alloc (.cells #[I6 sk, .slice xa m xc, I6 sr, I6 xf, I6 xt, .bool xp] 52)) (.slice (some ⟨w2.heap.size, 0, none⟩) 1 1) [cutT (⟨⟨⟨sk, es, sr⟩, xf, xt, xp⟩, xa, xc⟩ : HT)]) := oh (by
     have h := hole_list (w := w2) (cutT (⟨⟨⟨sk, es, sr⟩, xf, xt, xp⟩, xa, xc⟩ : HT))
     have e : (es.take 5).length = m := by rw [List.length_take, HES.out]; have := HM.out; omega
     unfold cutT at h ⊢
     dsimp only at h ⊢
     rw [e] at h; exact h)
    go_wp2_with (at_builtin; go_must (refine wpList_app (f := htC) (by rfl) (.tmp 31) (.tmp 33) w.heap.size 30 52 (by rfl) i0 _ 6 64 Tryz.underlying30 hi hz0 hz1 hz2 rfl (by omega) (fun _ => rfl) ht_one (.slice ua k uc) k (((ts.take k).map cutT).flatMap htC) (by rfl) HOWA.out _ [cutT (⟨⟨⟨sk, es, sr⟩, xf, xt, xp⟩, xa, xc⟩ : HT)] (by rfl) HDL.out (by unfold maxLen; simp; omega) (by simp; omega) KA.out.size ?_))
    intro v3 w3 ho hgr hbb
    obtain ⟨ea3, ec3, rfl⟩ := own_slice ho
    have HREL : Hid (CuRel ts w (.slice ea3 (k + 1) ec3) (I6 ((k : Int) + 1)) w3) := oh ⟨k + 1, by rw [HN.out]; omega, by omega, by push_cast; rfl, Kp.row KA.out hgr (fun q hq => (HOWA.out.lt q hq).1), by rw [HTK.out, List.flatMap_append, List.map_take]; simpa using ho⟩
    have HME : Hid (5 - (intOf (I6 ((k : Int) + 1))).toNat < 5 - (intOf (I6 (k : Int))).toNat) := oh (by simp [intOf]; omega)
    clear ho hgr hbb HOWA HDL KA x0 x1 x2 x3 x4 x5; go_wp2_with fail
    try rw [wrap_mid (n := (k : Int) + 1) (by omega) (by omega)]
    first | exact ⟨HREL.out, HME.out⟩ | (go_roundw; all_goals first | exact HREL.out | exact HME.out)
   ·have hk2 : ¬ (k : Int) < 5 := by omega
    have HE := oh (HEND.out (.inr (by have := HK5.out; omega)))
    go_wp2_with fail
    go_ret
    exact HE.out
  ·have hk1 : ¬ (k : Int) < (n : Int) := by omega
   have HE := oh (HEND.out (.inl (by have := HKN.out; omega)))
   go_wp2_with fail
   go_ret
   exact HE.out
end Go.Proofs.YtljjbdbgedmadaaGreatDoor
