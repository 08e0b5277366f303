/- WireInverse, walked. No condition but what values can be. -/
import Derived.Test.YtfcbogoahangoaaDoorIp
namespace Go.Proofs.YtfcbogoahangoaaDoor
open Go.RowKit

theorem info45 : (Tryd.prog.info? 45).map (fun i => (i.zero, i.size, i.bytes)) = some (some (.agg #[.int .u8 0, .int .i64 0, .string ⟨#[]⟩, .slice none 0 0, .slice none 0 0]), 5, 80) := by kernel_rfl

theorem ckr {wB w' : World} {b : Nat} {T : TypeId} {cs : Array Value} {row : Option Nat} (h : wB.heap[b]? = some (.cells cs T (0, 0))) (k : Kp wB w' row) (hne : row ≠ some b) (i : Nat) {v : Value} (hv : cs[i]? = some v) : w'.cell? ⟨b, i, none⟩ = some v := by
  have h' := (k.block b (lt_of_block h) (fun e => hne e.symm)).trans h
  simp [World.cell?, h', hv]

set_option maxHeartbeats 8000000 in
set_option maxRecDepth 100000 in
theorem inverse_row (w : World) (vs : List V) (b off n cap : Nat) (hn : vs.length = min n 8) (hcap : n ≤ cap) (hcm : cap ≤ 9223372036854775807) (hb : b < w.heap.size)
    (hrow : ∀ k, (h : k < vs.length) → (w.cell? ⟨b, off + k * 5, none⟩ = some (.int .u8 vs[k].c) ∧ w.cell? ⟨b, off + k * 5 + 1, none⟩ = some (.int .i64 vs[k].n) ∧ w.cell? ⟨b, off + k * 5 + 2, none⟩ = some (.string ⟨vs[k].s.toArray⟩) ∧ w.cell? ⟨b, off + k * 5 + 3, none⟩ = some (.slice vs[k].a3 vs[k].l3 vs[k].c3) ∧ w.cell? ⟨b, off + k * 5 + 4, none⟩ = some vs[k].v4) ∧ V.Ok w vs[k])
    (he : Env w) : Calls Tryd.prog 5 #[.slice (some ⟨b, off, none⟩) n cap] w fun E w' => E = .returned (.bool true) ∧ Kp w w' none := by
  have HE := Lib.hid he
  have HROW := Lib.hid hrow
  have hv8 : vs.length ≤ 8 := by omega
  have hm0 : (0 : Int) ≤ min (n : Int) 8 := by omega
  have hm1 : min (n : Int) 8 ≤ (n : Int) := by omega
  have hm2 : min (n : Int) 8 ≤ (cap : Int) := by omega
  have hxm : (min (n : Int) 8).toNat = vs.length := by omega
  clear he hrow hn
  go_enter Tryd.func5, Tryd.ntmps5
  go_wp2_with fail
  refine (sanity_any _ HE.out).mono ?_
  rintro e w1 ⟨rfl, k⟩
  have K1 := Lib.hid k
  clear k
  go_wp2_with fail
  have HXM := Lib.hid hxm
  clear hxm
  go_loopw [4, 5, 19] (fun own s i wr => InvRel1 w vs own s i wr) (fun _ _ i _ => vs.length - (intOf i).toNat)
  case atStart => exact ⟨0, [], Nat.zero_le _, rfl, rfl, rfl, World.ownsRow_nil _ _ _ _, fun k x t h => by simp at h, K1.out⟩
  case round =>
    obtain ⟨k, tv, hk, htv, rfl, rfl, hown, hT, hK⟩ := hrel
    have HO := Lib.hid hown
    have HT := Lib.hid hT
    have HK := Lib.hid hK
    have HTV := Lib.hid htv
    clear hown hT hK htv
    by_cases hlt : k < vs.length
    · obtain ⟨⟨g0, g1, g2, g3, g4⟩, hok⟩ := HROW.out k hlt
      have hbz := HK.out.size
      have hk0 : (0 : Int) ≤ (k : Int) := Int.natCast_nonneg _
      have hk1 : (k : Int) < (vs.length : Int) := by omega
      have cc : ∀ o, wr.cell? ⟨b, o, none⟩ = w.cell? ⟨b, o, none⟩ := fun o => HK.out.below.cell (p := ⟨b, o, none⟩) hb
      have c0 := (cc _).trans g0
      have c1 := (cc _).trans g1
      have c2 := (cc _).trans g2
      have c3 := (cc _).trans g3
      have c4 := (cc _).trans g4
      clear g0 g1 g2 g3 g4 cc
      have HOK := Lib.hid (hok.keep HK.out)
      clear hok
      obtain ⟨x, hx⟩ : ∃ x, vs[k] = x := ⟨_, rfl⟩
      rw [hx] at c0 c1 c2 c3 c4 HOK
      have HX := Lib.hid hx
      clear hx
      have hsl := HOK.out.v.s
      have hs0 : (0 : Int) ≤ min (x.s.length : Int) 100 := by omega
      have hs1 : min (x.s.length : Int) 100 ≤ (x.s.length : Int) := by omega
      have hlc := HOK.out.v.lc
      have hlm := HOK.out.v.lm
      have hx0 : (0 : Int) ≤ min (x.l3 : Int) 20 := by omega
      have hx1 : min (x.l3 : Int) 20 ≤ (x.l3 : Int) := by omega
      have hx2 : min (x.l3 : Int) 20 ≤ (x.c3 : Int) := by omega
      have hx20 : x.xs.length ≤ 20 := by have := HOK.out.v.l; omega
      have hxl : (min (x.l3 : Int) 20).toNat = x.xs.length := by have := HOK.out.v.l; omega
      have hsx : (⟨x.s.toArray⟩ : ByteArray).extract 0 (min (x.s.length : Int) 100).toNat = ⟨(x.s.take 100).toArray⟩ := ext_min x.s 100
      obtain ⟨ao4, cap4, hv4⟩ := isRow_slice HOK.out.v.t
      rw [List.length_map] at hv4
      have HT4 : Hid (IsRow wr (.slice ao4 x.ts.length cap4) (x.ts.map vStr)) := Lib.hid (hv4 ▸ HOK.out.v.t)
      rw [hv4] at c4
      clear hv4
      have HB0 := Lib.hid (heap_alloc_new wr (.cells #[.int .u8 x.c, .int .i64 x.n, .string ⟨(x.s.take 100).toArray⟩, .slice x.a3 x.xs.length x.c3, .slice ao4 x.ts.length cap4] 45))
      have KB0 := Lib.hid ((Kp.refl wr none).alloc (.cells #[.int .u8 x.c, .int .i64 x.n, .string ⟨(x.s.take 100).toArray⟩, .slice x.a3 x.xs.length x.c3, .slice ao4 x.ts.length cap4] 45))
      go_wp2_with fail
      refine (cut_any _ x.ts _ (HT4.out.keep KB0.out) HOK.out.v.tn HOK.out.v.tl).mono ?_
      rintro e w2 ⟨v5, rfl, hv5, k2⟩
      have HV5 := Lib.hid hv5
      obtain ⟨ao5, cap5, rfl⟩ := isRow_slice (own_isRow hv5)
      rw [List.length_map] at HV5 ⊢
      have K2 := Lib.hid (KB0.out.trans k2)
      have HB2 : Hid (w2.heap[wr.heap.size]? = some (.cells #[.int .u8 x.c, .int .i64 x.n, .string ⟨(x.s.take 100).toArray⟩, .slice x.a3 x.xs.length x.c3, .slice ao4 x.ts.length cap4] 45 (0, 0))) := Lib.hid ((k2.block _ (by simp) (by simp)).trans HB0.out)
      obtain ⟨d0, d1, d2, d3, d4, -⟩ := box_cells HB2.out (Kp.refl w2 none)
      have df : ∀ o, w2.frozen? ⟨wr.heap.size, o, none⟩ = false := fun o => Lib.frozen_of_heap HB2.out o
      have hlt2 : wr.heap.size < w2.heap.size := lt_of_block HB2.out
      clear hv5 k2 c0 c1 c2 c3 c4 hlc hlm hs0 hs1 hsl hx0 hx1 hx2
      have hag : u4.ownBlock ≠ some wr.heap.size := fun e => by have := (HO.out.lt _ e).2; omega
      obtain ⟨i0, hi, hz0, hz1, hz2⟩ := info_parts info45
      have K3 : Hid (Kp wr (w2.setCell ⟨wr.heap.size, 4, none⟩ (.slice ao5 (cutL x.ts).length cap5)) none) := Lib.hid (Kp.of_own (r := wr.heap.size) K2.out ((Kp.refl w2 (some wr.heap.size)).set _) (Nat.le_refl _))
      have HNB : Hid (((w2.setCell ⟨wr.heap.size, 4, none⟩ (.slice ao5 (cutL x.ts).length cap5)).alloc (.cells #[.int .u8 x.c, .int .i64 x.n, .string ⟨(x.s.take 100).toArray⟩, .slice x.a3 x.xs.length x.c3, .slice ao5 (cutL x.ts).length cap5] 45)).heap[w2.heap.size]? = some (.cells #[.int .u8 x.c, .int .i64 x.n, .string ⟨(x.s.take 100).toArray⟩, .slice x.a3 x.xs.length x.c3, .slice ao5 (cutL x.ts).length cap5] 45 (0, 0))) := by
        have hh := heap_alloc_new (w2.setCell ⟨wr.heap.size, 4, none⟩ (.slice ao5 (cutL x.ts).length cap5)) (.cells #[.int .u8 x.c, .int .i64 x.n, .string ⟨(x.s.take 100).toArray⟩, .slice x.a3 x.xs.length x.c3, .slice ao5 (cutL x.ts).length cap5] 45)
        rw [show (w2.setCell ⟨wr.heap.size, 4, none⟩ (.slice ao5 (cutL x.ts).length cap5)).heap.size = w2.heap.size by simp [World.setCell]] at hh
        exact hh
      have HOW := Lib.hid (HO.out.kept (K3.out.alloc (.cells #[.int .u8 x.c, .int .i64 x.n, .string ⟨(x.s.take 100).toArray⟩, .slice x.a3 x.xs.length x.c3, .slice ao5 (cutL x.ts).length cap5] 45)) (by cases u4.ownBlock <;> simp))
      have hcm1 : k + 1 ≤ maxLen := by unfold maxLen; omega
      have hcb1 : (k + 1) * 80 ≤ 140737488355328 := by omega
      have hbas : w.heap.size ≤ w2.heap.size := by have := K2.out.size; omega
      go_wp2_with (at_builtin; go_must (refine wpList_append_lies _ (by rfl) _ _ _ (by rfl) w.heap.size 45 i0 _ 5 80 Tryd.underlying43 hi hz0 hz1 hz2 rfl (by omega) u4 k (ownCells (vs.take k) tv) (by rfl) HOW.out ⟨w2.heap.size, 0, none⟩ 1 1 [.int .u8 x.c, .int .i64 x.n, .string ⟨(x.s.take 100).toArray⟩, .slice x.a3 x.xs.length x.c3, .slice ao5 (cutL x.ts).length cap5] (by rfl) (by rfl) (World.news_of_block (cs := #[.int .u8 x.c, .int .i64 x.n, .string ⟨(x.s.take 100).toArray⟩, .slice x.a3 x.xs.length x.c3, .slice ao5 (cutL x.ts).length cap5]) (t := 45) (fr := (0, 0)) HNB.out) (by simp [Value.oneCell']) (by omega) hcm1 hcb1 (by simp; omega) (w2.heap.size + 1) (by simp) ?_))
      intro gg capg w4 hown4 hgrow4 hat4 hlt4
      have HIS := Lib.hid (inv_step (own' := .slice (some ⟨gg, 0, none⟩) (k + 1) capg) (x := x) (H := w2.heap.size + 1) hlt HX.out HTV.out HT.out HK.out (by omega) (K3.out.alloc (.cells #[.int .u8 x.c, .int .i64 x.n, .string ⟨(x.s.take 100).toArray⟩, .slice x.a3 x.xs.length x.c3, .slice ao5 (cutL x.ts).length cap5] 45)) (by simp) (by
        refine (own_isRow HV5.out).keepRow (((Kp.refl w2 (some wr.heap.size)).set (.slice ao5 (cutL x.ts).length cap5)).alloc (.cells #[.int .u8 x.c, .int .i64 x.n, .string ⟨(x.s.take 100).toArray⟩, .slice x.a3 x.xs.length x.c3, .slice ao5 (cutL x.ts).length cap5] 45)) (fun b hb e => ?_)
        injection e with e
        have := (HV5.out.lt b hb).1
        simp at this; omega) (fun b hb => by have := HV5.out.lt b hb; simp at this; omega) HO.out hgrow4 (hat4.imp (fun e => e.symm) (fun e => congrArg some e)) hown4)
      have HB4 : Hid (w4.heap[wr.heap.size]? = some (.cells #[.int .u8 x.c, .int .i64 x.n, .string ⟨(x.s.take 100).toArray⟩, .slice x.a3 x.xs.length x.c3, .slice ao5 (cutL x.ts).length cap5] 45 (0, 0))) := by
        have h1 := heap_set (o := 4) (v := .slice ao5 (cutL x.ts).length cap5) HB2.out
        have h2 := (((Kp.refl (w2.setCell ⟨wr.heap.size, 4, none⟩ (.slice ao5 (cutL x.ts).length cap5)) none).alloc (.cells #[.int .u8 x.c, .int .i64 x.n, .string ⟨(x.s.take 100).toArray⟩, .slice x.a3 x.xs.length x.c3, .slice ao5 (cutL x.ts).length cap5] 45)).block wr.heap.size (by simp [World.setCell]; omega) (by simp)).trans h1
        exact (hgrow4.block wr.heap.size (by simp [World.setCell]; omega) (fun e => hag e.symm)).trans h2
      have HOK4 := Lib.hid ((HROW.out k hlt).2.keep HIS.out.2.2.2)
      rw [HX.out] at HOK4
      have HT5 : Hid (IsRow w4 (.slice ao5 (cutL x.ts).length cap5) ((cutL x.ts).map vStr)) := Lib.hid (HIS.out.2.2.1 k x _ (by rw [← HX.out]; simp [hlt]) (by rw [← HTV.out]; simp)).1
      have hct : x.c.tmod 4 = (x.k : Int) := (Int.tmod_eq_emod_of_nonneg (b := 4) HOK4.out.c0).trans HOK4.out.k4.2
      have hj0 : (0 : Int) ≤ (x.k : Int) := Int.natCast_nonneg _
      have hj4 : (x.k : Int) < 4 := by have := HOK4.out.k4.1; omega
      have hs100 : (x.s.take 100).length < 2147483648 := by simp; omega
      have HE4 := Lib.hid (HE.out.kp0 HIS.out.2.2.2)
      have HX20 := Lib.hid hx20
      clear hgrow4 hat4 hown4 hlt4 d0 d1 d2 d3 d4 df hxl hsx hcm1 hcb1 hbas hx20 hag hi hz0 hz1 hz2
      go_wp2_with fail
      refine wp_region_held_drew (S := fun w' => w'.cell? ⟨wr.heap.size, 0, none⟩ = some (.int .u8 x.c) ∧ w'.cell? ⟨wr.heap.size, 1, none⟩ = some (.int .i64 x.n) ∧ w'.cell? ⟨wr.heap.size, 2, none⟩ = some (.string ⟨(x.s.take 100).toArray⟩) ∧ w'.cell? ⟨wr.heap.size, 3, none⟩ = some (.slice x.a3 x.xs.length x.c3) ∧ w'.cell? ⟨wr.heap.size, 4, none⟩ = some (.slice ao5 (cutL x.ts).length cap5) ∧ Hid (Kp w4 w' none)) (by kernel_rfl) ?_ (fun hHeld => ?_)
      · exact ⟨ck HB4.out ((Kp.refl _ _).drew) 0 rfl, ck HB4.out ((Kp.refl _ _).drew) 1 rfl, ck HB4.out ((Kp.refl _ _).drew) 2 rfl, ck HB4.out ((Kp.refl _ _).drew) 3 rfl, ck HB4.out ((Kp.refl _ _).drew) 4 rfl, Lib.hid ((Kp.refl _ _).drew)⟩
      refine wpAnyH_take (i := 0) (oi := _) (v := ?_) rfl (by kernel_rfl) (by kernel_rfl) (by kernel_rfl) (fun _ _ _ h => h) (Or.inl ⟨by rfl, ?_⟩) (by assumption) ?_
      rotate_left
      · (intro w hSw; (try dsimp only at hSw); go_simp <;> with_reducible rfl)
      try simp only [Act.put, List.setIfInBounds_toArray]
      refine wpAnyH_take (i := 1) (oi := _) (v := ?_) rfl (by kernel_rfl) (by kernel_rfl) (by kernel_rfl) (fun _ _ _ h => h) (Or.inl ⟨by rfl, ?_⟩) (by assumption) ?_
      rotate_left
      · (intro w hSw; (try dsimp only at hSw); go_simp <;> with_reducible rfl)
      try simp only [Act.put]
      refine wpAnyH_take (i := 2) (oi := _) (v := ?_) rfl (by kernel_rfl) (by kernel_rfl) (by kernel_rfl) (fun _ _ _ h => h) (Or.inl ⟨by rfl, ?_⟩) (by assumption) ?_
      rotate_left
      · (intro w hSw; (try dsimp only at hSw); go_simp <;> with_reducible rfl)
      try simp only [Act.put]
      refine wpAnyH_take (i := 4) (oi := _) (v := ?_) rfl (by kernel_rfl) (by kernel_rfl) (by kernel_rfl) (fun _ _ _ h => h) (Or.inl ⟨by rfl, ?_⟩) (by assumption) ?_
      rotate_left
      · (intro w hSw; (try dsimp only at hSw); go_simp <;> with_reducible rfl)
      try simp only [Act.put]
      refine wpAnyH_take (i := 5) (oi := _) (v := ?_) rfl (by kernel_rfl) (by kernel_rfl) (by kernel_rfl) (fun _ _ _ h => h) (Or.inl ⟨by rfl, ?_⟩) (by assumption) ?_
      rotate_left
      · (intro w hSw; (try dsimp only at hSw); go_simp <;> with_reducible rfl)
      try simp only [Act.put]
      refine wpAnyH_take (i := 7) (oi := _) (v := ?_) rfl (by kernel_rfl) (by kernel_rfl) (by kernel_rfl) (fun _ _ _ h => h) (Or.inl ⟨by rfl, ?_⟩) (by assumption) ?_
      rotate_left
      · (intro w hSw; (try dsimp only at hSw); go_simp <;> with_reducible rfl)
      try simp only [Act.put]
      refine wpAnyH_take (i := 8) (oi := _) (v := ?_) rfl (by kernel_rfl) (by kernel_rfl) (by kernel_rfl) (fun _ _ _ h => h) (Or.inl ⟨by rfl, ?_⟩) (by assumption) ?_
      rotate_left
      · (intro w hSw; (try dsimp only at hSw); go_simp <;> with_reducible rfl)
      try simp only [Act.put]
      refine wpAnyH_take (i := 10) (oi := _) (v := ?_) rfl (by kernel_rfl) (by kernel_rfl) (by kernel_rfl) (fun _ _ _ h => h) (Or.inl ⟨by rfl, ?_⟩) (by assumption) ?_
      rotate_left
      · (intro w hSw; (try dsimp only at hSw); go_simp <;> with_reducible rfl)
      try simp only [Act.put]
      refine wpAnyH_take (i := 11) (oi := _) (v := ?_) rfl (by kernel_rfl) (by kernel_rfl) (by kernel_rfl) (fun _ _ _ h => h) (Or.inl ⟨by rfl, ?_⟩) (by assumption) ?_
      rotate_left
      · (intro w hSw; (try dsimp only at hSw); go_simp <;> with_reducible rfl)
      try simp only [Act.put]
      refine wpAnyH_take (i := 14) (oi := _) (v := ?_) rfl (by kernel_rfl) (by kernel_rfl) (by kernel_rfl) (fun _ _ _ h => h) (Or.inl ⟨by rfl, ?_⟩) (by assumption) ?_
      rotate_left
      · (intro w hSw; (try dsimp only at hSw); go_simp <;> with_reducible rfl)
      try simp only [Act.put]
      refine wpAnyH_take (i := 15) (oi := _) (v := ?_) rfl (by kernel_rfl) (by kernel_rfl) (by kernel_rfl) (fun _ _ _ h => h) (Or.inl ⟨by rfl, ?_⟩) (by assumption) ?_
      rotate_left
      · (intro w hSw; (try dsimp only at hSw); go_simp <;> with_reducible rfl)
      try simp only [Act.put]
      refine wpAnyH_take (i := 16) (oi := _) (v := ?_) rfl (by kernel_rfl) (by kernel_rfl) (by kernel_rfl) (fun _ _ _ h => h) (Or.inl ⟨by rfl, ?_⟩) (by assumption) ?_
      rotate_left
      · (intro w hSw; (try dsimp only at hSw); go_simp <;> with_reducible rfl)
      try simp only [Act.put]
      refine wpAnyH_ready (rs := [3]) (by kernel_rfl) (by simp) ?_
      refine AllReadyH.cons (o := _) rfl (fun K hK => ?_) AllReadyH.nil
      have gK := hHeld.2.2.2.2.2
      go_simp
      refine (wint_any x.n _ (HE4.out.kp0 (kpo gK)) HOK4.out.v.n).mono ?_
      rintro e w5 ⟨rfl, k5⟩
      try go_wp2_with fail
      refine hK.out _ _ ?_ (fun hHeld2 => ?_)
      · exact ⟨ck HB4.out (kpt gK k5) 0 rfl, ck HB4.out (kpt gK k5) 1 rfl, ck HB4.out (kpt gK k5) 2 rfl, ck HB4.out (kpt gK k5) 3 rfl, ck HB4.out (kpt gK k5) 4 rfl, Lib.hid (kpt gK k5)⟩
      clear hK K hHeld gK
      have hHeld := hHeld2
      clear hHeld2
      try simp only [Act.put, List.setIfInBounds_toArray, List.set_cons_zero, List.set_cons_succ]
      refine wpAnyH_ready (rs := [6]) (by kernel_rfl) (by simp) ?_
      refine AllReadyH.cons (o := _) rfl (fun K hK => ?_) AllReadyH.nil
      have gK := hHeld.2.2.2.2.2
      go_simp
      refine (wtext_any (x.s.take 100) _ (HE4.out.kp0 (kpo gK)) hs100).mono ?_
      rintro e w5 ⟨rfl, k5⟩
      try go_wp2_with fail
      refine hK.out _ _ ?_ (fun hHeld2 => ?_)
      · exact ⟨ck HB4.out (kpt gK k5) 0 rfl, ck HB4.out (kpt gK k5) 1 rfl, ck HB4.out (kpt gK k5) 2 rfl, ck HB4.out (kpt gK k5) 3 rfl, ck HB4.out (kpt gK k5) 4 rfl, Lib.hid (kpt gK k5)⟩
      clear hK K hHeld gK
      have hHeld := hHeld2
      clear hHeld2
      try simp only [Act.put, List.setIfInBounds_toArray, List.set_cons_zero, List.set_cons_succ]
      refine wpAnyH_ready (rs := [9]) (by kernel_rfl) (by simp) ?_
      refine AllReadyH.cons (o := _) rfl (fun K hK => ?_) AllReadyH.nil
      have gK := hHeld.2.2.2.2.2
      go_simp
      refine (wints_any _ x.xs _ (HE4.out.kp0 (kpo gK)) (HOK4.out.v.row.keep (kpo gK)) HOK4.out.v.i (by have := HX20.out; omega)).mono ?_
      rintro e w5 ⟨rfl, k5⟩
      try go_wp2_with fail
      refine hK.out _ _ ?_ (fun hHeld2 => ?_)
      · exact ⟨ck HB4.out (kpt gK k5) 0 rfl, ck HB4.out (kpt gK k5) 1 rfl, ck HB4.out (kpt gK k5) 2 rfl, ck HB4.out (kpt gK k5) 3 rfl, ck HB4.out (kpt gK k5) 4 rfl, Lib.hid (kpt gK k5)⟩
      clear hK K hHeld gK
      have hHeld := hHeld2
      clear hHeld2
      try simp only [Act.put, List.setIfInBounds_toArray, List.set_cons_zero, List.set_cons_succ]
      refine wpAnyH_ready (rs := [12]) (by kernel_rfl) (by simp) ?_
      refine AllReadyH.cons (o := _) rfl (fun K hK => ?_) AllReadyH.nil
      have gK := hHeld.2.2.2.2.2
      go_simp
      refine (wtexts_any _ (cutL x.ts) _ (HE4.out.kp0 (kpo gK)) (HT5.out.keep (kpo gK)) (fun y hy => by have := cutL_mem x.ts y hy; omega) (by have := cutL_len x.ts; omega)).mono ?_
      rintro e w5 ⟨rfl, k5⟩
      try go_wp2_with fail
      refine hK.out _ _ ?_ (fun hHeld2 => ?_)
      · exact ⟨ck HB4.out (kpt gK k5) 0 rfl, ck HB4.out (kpt gK k5) 1 rfl, ck HB4.out (kpt gK k5) 2 rfl, ck HB4.out (kpt gK k5) 3 rfl, ck HB4.out (kpt gK k5) 4 rfl, Lib.hid (kpt gK k5)⟩
      clear hK K hHeld gK
      have hHeld := hHeld2
      clear hHeld2
      try simp only [Act.put, List.setIfInBounds_toArray, List.set_cons_zero, List.set_cons_succ]
      refine wpAnyH_ready (rs := [13]) (by kernel_rfl) (by simp) ?_
      refine AllReadyH.cons (o := _) rfl (fun K hK => ?_) AllReadyH.nil
      have gK := hHeld.2.2.2.2.2
      go_simp
      refine hK.out _ _ ?_ (fun hHeld2 => ?_)
      · exact ⟨ck HB4.out (kpa gK _) 0 rfl, ck HB4.out (kpa gK _) 1 rfl, ck HB4.out (kpa gK _) 2 rfl, ck HB4.out (kpa gK _) 3 rfl, ck HB4.out (kpa gK _) 4 rfl, Lib.hid (kpa gK _)⟩
      have KW : Hid (Kp w4 (w5.alloc (.cells #[.string ⟨(Wr.wInt x.n).toArray⟩, .string ⟨(Wr.wText (x.s.take 100)).toArray⟩, .string ⟨(Wr.wInts x.xs).toArray⟩, .string ⟨(Wr.wTexts (cutL x.ts)).toArray⟩] 9)) none) := kpa gK _
      clear hK K hHeld hHeld2 gK
      have HG := Lib.hid (heap_alloc_new w5 (.cells #[.string ⟨(Wr.wInt x.n).toArray⟩, .string ⟨(Wr.wText (x.s.take 100)).toArray⟩, .string ⟨(Wr.wInts x.xs).toArray⟩, .string ⟨(Wr.wTexts (cutL x.ts)).toArray⟩] 9))
      refine wpAnyH_mono (S' := fun w' => w'.cell? ⟨wr.heap.size, 0, none⟩ = some (.int .u8 x.c) ∧ w'.cell? ⟨wr.heap.size, 1, none⟩ = some (.int .i64 x.n) ∧ w'.cell? ⟨wr.heap.size, 2, none⟩ = some (.string ⟨(x.s.take 100).toArray⟩) ∧ w'.cell? ⟨wr.heap.size, 3, none⟩ = some (.slice x.a3 x.xs.length x.c3) ∧ w'.cell? ⟨wr.heap.size, 4, none⟩ = some (.slice ao5 (cutL x.ts).length cap5) ∧ w'.cell? ⟨w5.heap.size, x.k, none⟩ = some (.string ⟨x.ser.toArray⟩) ∧ Hid (Kp (w5.alloc (.cells #[.string ⟨(Wr.wInt x.n).toArray⟩, .string ⟨(Wr.wText (x.s.take 100)).toArray⟩, .string ⟨(Wr.wInts x.xs).toArray⟩, .string ⟨(Wr.wTexts (cutL x.ts)).toArray⟩] 9)) w' none)) (fun w' h => ?_) _ _ _ _ ?_
      · exact ⟨h.1, h.2.1, h.2.2.1, h.2.2.2.1, h.2.2.2.2.1, Lib.hid (KW.out.trans (h.2.2.2.2.2.2.out))⟩
      have HBW := Lib.hid ((KW.out.block _ (lt_of_block HB4.out) (by simp)).trans HB4.out)
      have hHeld : (fun w' => w'.cell? ⟨wr.heap.size, 0, none⟩ = some (.int .u8 x.c) ∧ w'.cell? ⟨wr.heap.size, 1, none⟩ = some (.int .i64 x.n) ∧ w'.cell? ⟨wr.heap.size, 2, none⟩ = some (.string ⟨(x.s.take 100).toArray⟩) ∧ w'.cell? ⟨wr.heap.size, 3, none⟩ = some (.slice x.a3 x.xs.length x.c3) ∧ w'.cell? ⟨wr.heap.size, 4, none⟩ = some (.slice ao5 (cutL x.ts).length cap5) ∧ w'.cell? ⟨w5.heap.size, x.k, none⟩ = some (.string ⟨x.ser.toArray⟩) ∧ Hid (Kp (w5.alloc (.cells #[.string ⟨(Wr.wInt x.n).toArray⟩, .string ⟨(Wr.wText (x.s.take 100)).toArray⟩, .string ⟨(Wr.wInts x.xs).toArray⟩, .string ⟨(Wr.wTexts (cutL x.ts)).toArray⟩] 9)) w' none)) (w5.alloc (.cells #[.string ⟨(Wr.wInt x.n).toArray⟩, .string ⟨(Wr.wText (x.s.take 100)).toArray⟩, .string ⟨(Wr.wInts x.xs).toArray⟩, .string ⟨(Wr.wTexts (cutL x.ts)).toArray⟩] 9)) := by
        exact ⟨ck HBW.out (Kp.refl _ _) 0 rfl, ck HBW.out (Kp.refl _ _) 1 rfl, ck HBW.out (Kp.refl _ _) 2 rfl, ck HBW.out (Kp.refl _ _) 3 rfl, ck HBW.out (Kp.refl _ _) 4 rfl, ck HG.out (Kp.refl _ _) x.k (serN_get x.k x.n x.s x.xs x.ts HOK4.out.k4.1), Lib.hid (Kp.refl _ _)⟩
      try simp only [Act.put, List.setIfInBounds_toArray, List.set_cons_zero, List.set_cons_succ]
      refine wpAnyH_take (i := 17) (oi := _) (v := ?_) rfl (by kernel_rfl) (by kernel_rfl) (by kernel_rfl) (fun _ _ _ h => h) (Or.inl ⟨by rfl, ?_⟩) (by assumption) ?_
      rotate_left
      · (intro w hSw; (try dsimp only at hSw); go_simp <;> with_reducible rfl)
      try simp only [Act.put, List.setIfInBounds_toArray]
      refine wpAnyH_take (i := 18) (oi := _) (v := ?_) rfl (by kernel_rfl) (by kernel_rfl) (by kernel_rfl) (fun _ _ _ h => h) (Or.inl ⟨by rfl, ?_⟩) (by assumption) ?_
      rotate_left
      · (intro w hSw; (try dsimp only at hSw); go_simp <;> with_reducible rfl)
      try simp only [Act.put]
      have hcat : (9223372036854775807 < (sers (vs.take k)).length + x.ser.length) = False := by
        have h1 := sers_length (w := w) (l := vs.take k) (fun y hy => by obtain ⟨i, hi, rfl⟩ := List.mem_iff_getElem.1 (List.mem_of_mem_take hy); exact (HROW.out i hi).2)
        have h2 := ser_length HOK4.out
        have h3 : (vs.take k).length ≤ 8 := by rw [List.length_take]; omega
        exact eq_false (by omega)
      refine wpAnyH_take (i := 19) (oi := _) (v := ?_) rfl (by kernel_rfl) (by kernel_rfl) (by kernel_rfl) (fun _ _ _ h => h) (Or.inl ⟨by rfl, ?_⟩) (by assumption) ?_
      rotate_left
      · (intro w hSw; (try dsimp only at hSw); go_simp <;> with_reducible rfl)
      try simp only [Act.put]
      refine wpAnyH_take (i := 20) (oi := _) (v := ?_) rfl (by kernel_rfl) (by kernel_rfl) (by kernel_rfl) (fun _ _ _ h => h) (Or.inl ⟨by rfl, ?_⟩) (by assumption) ?_
      rotate_left
      · (intro w hSw; (try dsimp only at hSw); go_simp <;> with_reducible rfl)
      try simp only [Act.put]
      clear hcat
      refine wpAnyH_done (by kernel_rfl) ?_ _
      have KZ := Lib.hid (KW.out.trans hHeld.2.2.2.2.2.2.out)
      clear hHeld KW
      go_wp2_with fail
      rw [cat_eq]
      have hrel : InvRel1 w vs (.slice (some ⟨gg, 0, none⟩) (k + 1) capg) (.string ⟨(sers (vs.take k) ++ x.ser).toArray⟩) (.int .i64 (k + 1)) (w5.alloc (.cells #[.string ⟨(Wr.wInt x.n).toArray⟩, .string ⟨(Wr.wText (x.s.take 100)).toArray⟩, .string ⟨(Wr.wInts x.xs).toArray⟩, .string ⟨(Wr.wTexts (cutL x.ts)).toArray⟩] 9)) :=
        ⟨k + 1, _, by omega, HIS.out.1, by go_num, by rw [sers_take vs k hlt, HX.out], HIS.out.2.1.kept KZ.out (by simp [Value.ownBlock]), HIS.out.2.2.1.keep KZ.out (.inl rfl), HIS.out.2.2.2.trans KZ.out⟩
      first | exact ⟨hrel, by simp [intOf]; omega⟩ | (go_roundw; all_goals first | exact hrel | (simp [intOf]; omega) | ((repeat apply Exists.intro); exact ⟨hrel, rfl⟩))
    · obtain rfl : k = vs.length := by omega
      have hown0 := HO.out
      have hT0 := HT.out
      rw [List.take_length] at hown0 hT0
      clear HO HT
      have HO := Lib.hid hown0
      have HT := Lib.hid hT0
      clear hown0 hT0
      obtain ⟨ao, capo, rfl⟩ : ∃ ao capo, u4 = .slice ao vs.length capo := by
        rcases HO.out.2 with ⟨hv, h0⟩ | ⟨g, cap, cur, hv, _⟩
        · exact ⟨none, 0, by rw [hv, h0]⟩
        · exact ⟨_, _, hv⟩
      have hslen := sers_length (w := w) (l := vs) (fun y hy => by obtain ⟨i, hi, rfl⟩ := List.mem_iff_getElem.1 hy; exact (HROW.out i hi).2)
      simp only [List.take_length]
      go_wp2_with fail
      refine (new_any (sers vs) _).mono ?_
      rintro e w3 ⟨rfl, h3, k3⟩
      have H3 := Lib.hid h3
      have K3 := Lib.hid k3
      clear h3 k3
      obtain ⟨wo, rfl⟩ : ∃ wo : World, wo = wr := ⟨_, rfl⟩
      have hr6 : 6 ≤ wo.heap.size := by have := HE.out.big; have := HK.out.size; omega
      have hvl : (vs.length : Int) ≤ 8 := by omega
      go_wp2_with (first | (go_at_call 32; refine (left_any _ _ _ H3.out).mono ?_; rintro e w' ⟨rfl, rfl⟩))
      go_loopw [81] (fun i wr => InvRel2 wo wo.heap.size vs i wr) (fun i _ => vs.length - (intOf i).toNat)
      case atStart => exact ⟨0, Nat.zero_le _, rfl, H3.out, K3.out⟩
      case round =>
        obtain ⟨k, hk, rfl, hR, hK2⟩ := hrel
        have HR := Lib.hid hR
        have HK2 := Lib.hid hK2
        clear hR hK2 H3 K3
        by_cases hlt : k < vs.length
        · obtain ⟨x, hx⟩ : ∃ x, vs[k] = x := ⟨_, rfl⟩
          have HX := Lib.hid hx
          have HOK := Lib.hid ((HROW.out k hlt).2.keep (HK.out.trans HK2.out))
          rw [hx] at HOK
          clear hx
          obtain ⟨t, ht⟩ : ∃ t, tv[k]? = some t := ⟨_, List.getElem?_eq_getElem (by rw [HTV.out]; exact hlt)⟩
          have hvx : vs[k]? = some x := by rw [← HX.out]; exact List.getElem?_eq_getElem hlt
          have HTTo := Lib.hid (HT.out k x t hvx ht).1
          have HOKo := Lib.hid ((HROW.out k hlt).2.keep HK.out)
          rw [HX.out] at HOKo
          obtain ⟨g, capg, hv, hgb, hgl⟩ := HO.out.form (by omega)
          have hg2 := (Value.slice.inj hv).1
          have hg3 := (Value.slice.inj hv).2.2
          clear hv
          subst hg2 hg3
          have cc : ∀ j u, j < 5 → (cellsOf x t)[j]? = some u → wr.cell? ⟨g, k * 5 + j, none⟩ = some u := fun j u hj hu => by
            have := HO.out.cells rfl (k * 5 + j) u (by rw [ownCells_get vs tv k j x t hvx ht hj]; exact hu)
            rw [show ((⟨g, 0, none⟩ : Addr).add (k * 5 + j)) = ⟨g, k * 5 + j, none⟩ by simp [Addr.add]; omega] at this
            exact (HK2.out.below.cell (p := ⟨g, k * 5 + j, none⟩) hgl).trans this
          obtain ⟨ao5, cap5, rfl⟩ := isRow_slice HTTo.out
          rw [List.length_map] at HTTo
          have c0 := cc 0 _ (by omega) rfl
          have c1 := cc 1 _ (by omega) rfl
          have c2 := cc 2 _ (by omega) rfl
          have c3 := cc 3 _ (by omega) rfl
          have c4 := cc 4 _ (by omega) rfl
          rw [Nat.add_zero] at c0
          rw [List.length_map] at c4
          clear cc ht hvx hgb
          have hk0 : (0 : Int) ≤ (k : Int) := Int.natCast_nonneg _
          have hk1 : (k : Int) < (vs.length : Int) := by omega
          have hct : x.c.tmod 4 = (x.k : Int) := (Int.tmod_eq_emod_of_nonneg (b := 4) HOK.out.c0).trans HOK.out.k4.2
          have hsd : (sers (vs.drop (k + 1))).length < 300000000 := by
            have := sers_length (w := w) (l := vs.drop (k + 1)) (fun y hy => by obtain ⟨i, hi, rfl⟩ := List.mem_iff_getElem.1 (List.mem_of_mem_drop hy); exact (HROW.out i hi).2)
            have h2 : (vs.drop (k + 1)).length ≤ 8 := by rw [List.length_drop]; omega
            omega
          have HSE : Hid (sers (vs.drop k) = x.ser ++ sers (vs.drop (k + 1))) := Lib.hid (by rw [sers_drop vs k hlt, HX.out])
          obtain ⟨rest, hrest⟩ : ∃ rest, sers (vs.drop (k + 1)) = rest := ⟨_, rfl⟩
          rw [hrest] at hsd HSE
          have HRE := Lib.hid hrest
          clear hrest
          have hsl := ser_length HOK.out
          have HR2 : Hid (RdIs wr wo.heap.size (some (x.ser ++ rest))) := Lib.hid (HSE.out ▸ HR.out)
          have hgg : wo.heap.size < wr.heap.size := HR.out.lt
          have HGN : Hid (some wo.heap.size ≠ some wr.heap.size) := Lib.hid (by simp; omega)
          have hx20 : x.xs.length ≤ 20 := by have := HOK.out.v.l; omega
          have HX20 := Lib.hid hx20
          clear hx20
          have HSL : Hid ((x.ser ++ rest).length < 2147483648) := Lib.hid (by rw [List.length_append]; omega)
          have HB := Lib.hid (heap_alloc_new wr (.cells #[.int .u8 x.c, .int .i64 x.n, .string ⟨(x.s.take 100).toArray⟩, .slice x.a3 x.xs.length x.c3, .slice ao5 (cutL x.ts).length cap5] 45))
          have KA := Lib.hid (HK2.out.alloc (.cells #[.int .u8 x.c, .int .i64 x.n, .string ⟨(x.s.take 100).toArray⟩, .slice x.a3 x.xs.length x.c3, .slice ao5 (cutL x.ts).length cap5] 45))
          have HR3 := Lib.hid (HR2.out.keep ((Kp.refl wr none).alloc (.cells #[.int .u8 x.c, .int .i64 x.n, .string ⟨(x.s.take 100).toArray⟩, .slice x.a3 x.xs.length x.c3, .slice ao5 (cutL x.ts).length cap5] 45)) (by simp))
          have HEA := Lib.hid (HE.out.kp0 (HK.out.trans KA.out))
          have KAA := Lib.hid (Kp.refl (wr.alloc (.cells #[.int .u8 x.c, .int .i64 x.n, .string ⟨(x.s.take 100).toArray⟩, .slice x.a3 x.xs.length x.c3, .slice ao5 (cutL x.ts).length cap5] 45)) (some wo.heap.size))
          clear HR HR2 hsl hsd
          have HCT := Lib.hid hct
          clear hct
          rcases (show x.k = 0 ∨ x.k = 1 ∨ x.k = 2 ∨ x.k = 3 by have := HOK.out.k4.1; omega) with hxk | hxk | hxk | hxk
          · have hct : x.c.tmod 4 = 0 := by rw [HCT.out, hxk]; rfl
            have HP : Hid ((some (x.ser ++ rest)).bind Wr.pInt = some (x.n, rest)) := Lib.hid (by unfold V.ser; rw [hxk]; exact Wr.int_codec.inv _ _ HOK.out.v.n)
            clear hxk
            go_wp2_with fail
            refine wp_region_held_drew (S := fun w' => w'.cell? ⟨wr.heap.size, 0, none⟩ = some (.int .u8 x.c) ∧ w'.cell? ⟨wr.heap.size, 1, none⟩ = some (.int .i64 x.n) ∧ w'.cell? ⟨wr.heap.size, 2, none⟩ = some (.string ⟨(x.s.take 100).toArray⟩) ∧ w'.cell? ⟨wr.heap.size, 3, none⟩ = some (.slice x.a3 x.xs.length x.c3) ∧ w'.cell? ⟨wr.heap.size, 4, none⟩ = some (.slice ao5 (cutL x.ts).length cap5) ∧ Hid (Kp (wr.alloc (.cells #[.int .u8 x.c, .int .i64 x.n, .string ⟨(x.s.take 100).toArray⟩, .slice x.a3 x.xs.length x.c3, .slice ao5 (cutL x.ts).length cap5] 45)) w' (some wo.heap.size))) (by kernel_rfl) ?_ (fun hHeld => ?_)
            · exact ⟨ckr HB.out (KAA.out.drew) HGN.out 0 rfl, ckr HB.out (KAA.out.drew) HGN.out 1 rfl, ckr HB.out (KAA.out.drew) HGN.out 2 rfl, ckr HB.out (KAA.out.drew) HGN.out 3 rfl, ckr HB.out (KAA.out.drew) HGN.out 4 rfl, Lib.hid (KAA.out.drew)⟩
            refine wpAnyH_take (i := 0) (oi := _) (v := ?_) rfl (by kernel_rfl) (by kernel_rfl) (by kernel_rfl) (fun _ _ _ h => h) (Or.inl ⟨by rfl, ?_⟩) (by assumption) ?_
            rotate_left
            · (intro w hSw; (try dsimp only at hSw); go_simp <;> with_reducible rfl)
            try simp only [Act.put, List.setIfInBounds_toArray]
            refine wpAnyH_take (i := 2) (oi := _) (v := ?_) rfl (by kernel_rfl) (by kernel_rfl) (by kernel_rfl) (fun _ _ _ h => h) (Or.inl ⟨by rfl, ?_⟩) (by assumption) ?_
            rotate_left
            · (intro w hSw; (try dsimp only at hSw); go_simp <;> with_reducible rfl)
            try simp only [Act.put]
            refine wpAnyH_take (i := 3) (oi := _) (v := ?_) rfl (by kernel_rfl) (by kernel_rfl) (by kernel_rfl) (fun _ _ _ h => h) (Or.inl ⟨by rfl, ?_⟩) (by assumption) ?_
            rotate_left
            · (intro w hSw; (try dsimp only at hSw); go_simp <;> with_reducible rfl)
            try simp only [Act.put]
            refine wpAnyH_ready (rs := [1]) (by kernel_rfl) (by simp) ?_
            refine AllReadyH.cons (o := _) rfl (fun K hK => ?_) AllReadyH.nil
            have gK := hHeld.2.2.2.2.2
            go_simp
            have hq := int_any wo.heap.size (some (x.ser ++ rest)) _ (HEA.out.kp gK.out (fun r hr => by injection hr; omega)) hr6 (by have := HSL.out; rw [List.length_append] at this; simp; omega) (HR3.out.keep ((Kp.refl (wr.alloc (.cells #[.int .u8 x.c, .int .i64 x.n, .string ⟨(x.s.take 100).toArray⟩, .slice x.a3 x.xs.length x.c3, .slice ao5 (cutL x.ts).length cap5] 45)) none).drew) (by simp))
            rw [HP.out] at hq
            refine hq.mono ?_
            clear hq
            rintro e w6 ⟨⟨rfl, h6⟩, k6⟩
            have H6 := Lib.hid h6
            clear h6
            try go_wp2_with fail
            refine hK.out _ _ ?_ (fun hHeld2 => ?_)
            · exact ⟨ckr HB.out (gK.out.trans k6) HGN.out 0 rfl, ckr HB.out (gK.out.trans k6) HGN.out 1 rfl, ckr HB.out (gK.out.trans k6) HGN.out 2 rfl, ckr HB.out (gK.out.trans k6) HGN.out 3 rfl, ckr HB.out (gK.out.trans k6) HGN.out 4 rfl, Lib.hid (gK.out.trans k6)⟩
            clear hK K hHeld gK
            have hHeld := hHeld2
            clear hHeld2
            try simp only [Act.put, List.setIfInBounds_toArray, List.set_cons_zero, List.set_cons_succ]
            refine wpAnyH_take (i := 4) (oi := _) (v := ?_) rfl (by kernel_rfl) (by kernel_rfl) (by kernel_rfl) (fun _ _ _ h => h) (Or.inl ⟨by rfl, ?_⟩) (by assumption) ?_
            rotate_left
            · (intro w hSw; (try dsimp only at hSw); go_simp <;> with_reducible rfl)
            try simp only [Act.put, List.setIfInBounds_toArray]
            refine wpAnyH_take (i := 5) (oi := _) (v := ?_) rfl (by kernel_rfl) (by kernel_rfl) (by kernel_rfl) (fun _ _ _ h => h) (Or.inl ⟨by rfl, ?_⟩) (by assumption) ?_
            rotate_left
            · (intro w hSw; (try dsimp only at hSw); go_simp <;> with_reducible rfl)
            try simp only [Act.put]
            refine wpAnyH_done (by kernel_rfl) ?_ _
            have H7 := H6
            have KZ := Lib.hid hHeld.2.2.2.2.2.out
            clear hHeld
            go_wp2_with (first | (go_at_call 34; refine (bad_any _ _ _ H7.out).mono ?_; rintro e w' ⟨rfl, rfl⟩))
            go_roundw
            case rel => exact ⟨k + 1, by omega, by go_num, HRE.out ▸ H7.out, Kp.of_own KA.out KZ.out (Nat.le_refl _)⟩
            case measure => simp [intOf]; omega
          · have hct : x.c.tmod 4 = 1 := by rw [HCT.out, hxk]; rfl
            have HP : Hid ((some (x.ser ++ rest)).bind Wr.pText = some (x.s.take 100, rest)) := Lib.hid (by unfold V.ser; rw [hxk]; exact Wr.text_codec.inv _ _ (by unfold Wr.I64; simp; omega))
            clear hxk
            go_wp2_with fail
            refine wp_region_held_drew (S := fun w' => w'.cell? ⟨wr.heap.size, 0, none⟩ = some (.int .u8 x.c) ∧ w'.cell? ⟨wr.heap.size, 1, none⟩ = some (.int .i64 x.n) ∧ w'.cell? ⟨wr.heap.size, 2, none⟩ = some (.string ⟨(x.s.take 100).toArray⟩) ∧ w'.cell? ⟨wr.heap.size, 3, none⟩ = some (.slice x.a3 x.xs.length x.c3) ∧ w'.cell? ⟨wr.heap.size, 4, none⟩ = some (.slice ao5 (cutL x.ts).length cap5) ∧ Hid (Kp (wr.alloc (.cells #[.int .u8 x.c, .int .i64 x.n, .string ⟨(x.s.take 100).toArray⟩, .slice x.a3 x.xs.length x.c3, .slice ao5 (cutL x.ts).length cap5] 45)) w' (some wo.heap.size))) (by kernel_rfl) ?_ (fun hHeld => ?_)
            · exact ⟨ckr HB.out (KAA.out.drew) HGN.out 0 rfl, ckr HB.out (KAA.out.drew) HGN.out 1 rfl, ckr HB.out (KAA.out.drew) HGN.out 2 rfl, ckr HB.out (KAA.out.drew) HGN.out 3 rfl, ckr HB.out (KAA.out.drew) HGN.out 4 rfl, Lib.hid (KAA.out.drew)⟩
            refine wpAnyH_take (i := 0) (oi := _) (v := ?_) rfl (by kernel_rfl) (by kernel_rfl) (by kernel_rfl) (fun _ _ _ h => h) (Or.inl ⟨by rfl, ?_⟩) (by assumption) ?_
            rotate_left
            · (intro w hSw; (try dsimp only at hSw); go_simp <;> with_reducible rfl)
            try simp only [Act.put, List.setIfInBounds_toArray]
            refine wpAnyH_take (i := 2) (oi := _) (v := ?_) rfl (by kernel_rfl) (by kernel_rfl) (by kernel_rfl) (fun _ _ _ h => h) (Or.inl ⟨by rfl, ?_⟩) (by assumption) ?_
            rotate_left
            · (intro w hSw; (try dsimp only at hSw); go_simp <;> with_reducible rfl)
            try simp only [Act.put]
            refine wpAnyH_take (i := 3) (oi := _) (v := ?_) rfl (by kernel_rfl) (by kernel_rfl) (by kernel_rfl) (fun _ _ _ h => h) (Or.inl ⟨by rfl, ?_⟩) (by assumption) ?_
            rotate_left
            · (intro w hSw; (try dsimp only at hSw); go_simp <;> with_reducible rfl)
            try simp only [Act.put]
            refine wpAnyH_ready (rs := [1]) (by kernel_rfl) (by simp) ?_
            refine AllReadyH.cons (o := _) rfl (fun K hK => ?_) AllReadyH.nil
            have gK := hHeld.2.2.2.2.2
            go_simp
            have hq := text_any wo.heap.size (some (x.ser ++ rest)) _ (HEA.out.kp gK.out (fun r hr => by injection hr; omega)) hr6 (by have := HSL.out; rw [List.length_append] at this; simp; omega) (HR3.out.keep ((Kp.refl (wr.alloc (.cells #[.int .u8 x.c, .int .i64 x.n, .string ⟨(x.s.take 100).toArray⟩, .slice x.a3 x.xs.length x.c3, .slice ao5 (cutL x.ts).length cap5] 45)) none).drew) (by simp))
            rw [HP.out] at hq
            refine hq.mono ?_
            clear hq
            rintro e w6 ⟨⟨rfl, h6⟩, k6⟩
            have H6 := Lib.hid h6
            clear h6
            try go_wp2_with fail
            refine hK.out _ _ ?_ (fun hHeld2 => ?_)
            · exact ⟨ckr HB.out (gK.out.trans k6) HGN.out 0 rfl, ckr HB.out (gK.out.trans k6) HGN.out 1 rfl, ckr HB.out (gK.out.trans k6) HGN.out 2 rfl, ckr HB.out (gK.out.trans k6) HGN.out 3 rfl, ckr HB.out (gK.out.trans k6) HGN.out 4 rfl, Lib.hid (gK.out.trans k6)⟩
            clear hK K hHeld gK
            have hHeld := hHeld2
            clear hHeld2
            try simp only [Act.put, List.setIfInBounds_toArray, List.set_cons_zero, List.set_cons_succ]
            refine wpAnyH_take (i := 4) (oi := _) (v := ?_) rfl (by kernel_rfl) (by kernel_rfl) (by kernel_rfl) (fun _ _ _ h => h) (Or.inl ⟨by rfl, ?_⟩) (by assumption) ?_
            rotate_left
            · (intro w hSw; (try dsimp only at hSw); go_simp <;> with_reducible rfl)
            try simp only [Act.put, List.setIfInBounds_toArray]
            refine wpAnyH_take (i := 5) (oi := _) (v := ?_) rfl (by kernel_rfl) (by kernel_rfl) (by kernel_rfl) (fun _ _ _ h => h) (Or.inl ⟨by rfl, ?_⟩) (by assumption) ?_
            rotate_left
            · (intro w hSw; (try dsimp only at hSw); go_simp <;> with_reducible rfl)
            try simp only [Act.put]
            refine wpAnyH_done (by kernel_rfl) ?_ _
            have H7 := H6
            have KZ := Lib.hid hHeld.2.2.2.2.2.out
            clear hHeld
            go_wp2_with (first | (go_at_call 34; refine (bad_any _ _ _ H7.out).mono ?_; rintro e w' ⟨rfl, rfl⟩))
            go_roundw
            case rel => exact ⟨k + 1, by omega, by go_num, HRE.out ▸ H7.out, Kp.of_own KA.out KZ.out (Nat.le_refl _)⟩
            case measure => simp [intOf]; omega
          · have hct : x.c.tmod 4 = 2 := by rw [HCT.out, hxk]; rfl
            have HP : Hid ((some (x.ser ++ rest)).bind Wr.pInts = some (x.xs, rest)) := Lib.hid (by unfold V.ser; rw [hxk]; exact Wr.ints_codec.inv _ _ HOK.out.v.i)
            clear hxk
            go_wp2_with fail
            refine wp_region_held_drew (S := fun w' => w'.cell? ⟨wr.heap.size, 0, none⟩ = some (.int .u8 x.c) ∧ w'.cell? ⟨wr.heap.size, 1, none⟩ = some (.int .i64 x.n) ∧ w'.cell? ⟨wr.heap.size, 2, none⟩ = some (.string ⟨(x.s.take 100).toArray⟩) ∧ w'.cell? ⟨wr.heap.size, 3, none⟩ = some (.slice x.a3 x.xs.length x.c3) ∧ w'.cell? ⟨wr.heap.size, 4, none⟩ = some (.slice ao5 (cutL x.ts).length cap5) ∧ Hid (Kp (wr.alloc (.cells #[.int .u8 x.c, .int .i64 x.n, .string ⟨(x.s.take 100).toArray⟩, .slice x.a3 x.xs.length x.c3, .slice ao5 (cutL x.ts).length cap5] 45)) w' (some wo.heap.size))) (by kernel_rfl) ?_ (fun hHeld => ?_)
            · exact ⟨ckr HB.out (KAA.out.drew) HGN.out 0 rfl, ckr HB.out (KAA.out.drew) HGN.out 1 rfl, ckr HB.out (KAA.out.drew) HGN.out 2 rfl, ckr HB.out (KAA.out.drew) HGN.out 3 rfl, ckr HB.out (KAA.out.drew) HGN.out 4 rfl, Lib.hid (KAA.out.drew)⟩
            refine wpAnyH_take (i := 0) (oi := _) (v := ?_) rfl (by kernel_rfl) (by kernel_rfl) (by kernel_rfl) (fun _ _ _ h => h) (Or.inl ⟨by rfl, ?_⟩) (by assumption) ?_
            rotate_left
            · (intro w hSw; (try dsimp only at hSw); go_simp <;> with_reducible rfl)
            try simp only [Act.put, List.setIfInBounds_toArray]
            refine wpAnyH_take (i := 2) (oi := _) (v := ?_) rfl (by kernel_rfl) (by kernel_rfl) (by kernel_rfl) (fun _ _ _ h => h) (Or.inl ⟨by rfl, ?_⟩) (by assumption) ?_
            rotate_left
            · (intro w hSw; (try dsimp only at hSw); go_simp <;> with_reducible rfl)
            try simp only [Act.put]
            refine wpAnyH_take (i := 3) (oi := _) (v := ?_) rfl (by kernel_rfl) (by kernel_rfl) (by kernel_rfl) (fun _ _ _ h => h) (Or.inl ⟨by rfl, ?_⟩) (by assumption) ?_
            rotate_left
            · (intro w hSw; (try dsimp only at hSw); go_simp <;> with_reducible rfl)
            try simp only [Act.put]
            refine wpAnyH_ready (rs := [1]) (by kernel_rfl) (by simp) ?_
            refine AllReadyH.cons (o := _) rfl (fun K hK => ?_) AllReadyH.nil
            have gK := hHeld.2.2.2.2.2
            go_simp
            have hq := ints_any wo.heap.size (some (x.ser ++ rest)) _ (HEA.out.kp gK.out (fun r hr => by injection hr; omega)) hr6 (by have := HSL.out; rw [List.length_append] at this; simp; omega) (HR3.out.keep ((Kp.refl (wr.alloc (.cells #[.int .u8 x.c, .int .i64 x.n, .string ⟨(x.s.take 100).toArray⟩, .slice x.a3 x.xs.length x.c3, .slice ao5 (cutL x.ts).length cap5] 45)) none).drew) (by simp))
            rw [HP.out] at hq
            refine hq.mono ?_
            clear hq
            rintro e w6 ⟨⟨⟨v6, rfl, hv6⟩, h6⟩, k6⟩
            have H6 := Lib.hid h6
            clear h6
            have HV6 := Lib.hid (own_isRow hv6)
            clear hv6
            try go_wp2_with fail
            refine hK.out _ _ ?_ (fun hHeld2 => ?_)
            · exact ⟨ckr HB.out (gK.out.trans k6) HGN.out 0 rfl, ckr HB.out (gK.out.trans k6) HGN.out 1 rfl, ckr HB.out (gK.out.trans k6) HGN.out 2 rfl, ckr HB.out (gK.out.trans k6) HGN.out 3 rfl, ckr HB.out (gK.out.trans k6) HGN.out 4 rfl, Lib.hid (gK.out.trans k6)⟩
            clear hK K hHeld gK
            have hHeld := hHeld2
            clear hHeld2
            try simp only [Act.put, List.setIfInBounds_toArray, List.set_cons_zero, List.set_cons_succ]
            refine wpAnyH_ready (rs := [4]) (by kernel_rfl) (by simp) ?_
            refine AllReadyH.cons (o := _) rfl (fun K hK => ?_) AllReadyH.nil
            have gK := hHeld.2.2.2.2.2
            go_simp
            have HRW := Lib.hid ((HOKo.out.v.row.keep (Kp.of_own KA.out gK.out (Nat.le_refl _))))
            refine (sameInts_any _ _ x.xs x.xs _ HV6.out HRW.out (by have := HX20.out; omega)).mono ?_
            rintro e w7 ⟨rfl, n7, rfl⟩
            try go_wp2_with fail
            refine hK.out _ _ ?_ (fun hHeld2 => ?_)
            · exact ⟨ckr HB.out (gK.out.drewN n7) HGN.out 0 rfl, ckr HB.out (gK.out.drewN n7) HGN.out 1 rfl, ckr HB.out (gK.out.drewN n7) HGN.out 2 rfl, ckr HB.out (gK.out.drewN n7) HGN.out 3 rfl, ckr HB.out (gK.out.drewN n7) HGN.out 4 rfl, Lib.hid (gK.out.drewN n7)⟩
            clear hK K hHeld gK
            have hHeld := hHeld2
            clear hHeld2
            try simp only [Act.put, List.setIfInBounds_toArray, List.set_cons_zero, List.set_cons_succ]
            refine wpAnyH_take (i := 5) (oi := _) (v := ?_) rfl (by kernel_rfl) (by kernel_rfl) (by kernel_rfl) (fun _ _ _ h => h) (Or.inl ⟨by rfl, ?_⟩) (by assumption) ?_
            rotate_left
            · (intro w hSw; (try dsimp only at hSw); go_simp <;> with_reducible rfl)
            try simp only [Act.put, List.setIfInBounds_toArray]
            refine wpAnyH_done (by kernel_rfl) ?_ _
            have H7 := Lib.hid (H6.out.drewN n7)
            have KZ := Lib.hid hHeld.2.2.2.2.2.out
            clear hHeld
            go_wp2_with (first | (go_at_call 34; refine (bad_any _ _ _ H7.out).mono ?_; rintro e w' ⟨rfl, rfl⟩))
            go_roundw
            case rel => exact ⟨k + 1, by omega, by go_num, HRE.out ▸ H7.out, Kp.of_own KA.out KZ.out (Nat.le_refl _)⟩
            case measure => simp [intOf]; omega
          · have hct : x.c.tmod 4 = 3 := by rw [HCT.out, hxk]; rfl
            have HP : Hid ((some (x.ser ++ rest)).bind Wr.pTexts = some (cutL x.ts, rest)) := Lib.hid (by unfold V.ser; rw [hxk]; exact Wr.texts_codec.inv _ _ (fun y hy => by have := cutL_mem x.ts y hy; unfold Wr.I64; omega))
            clear hxk
            go_wp2_with fail
            refine wp_region_held_drew (S := fun w' => w'.cell? ⟨wr.heap.size, 0, none⟩ = some (.int .u8 x.c) ∧ w'.cell? ⟨wr.heap.size, 1, none⟩ = some (.int .i64 x.n) ∧ w'.cell? ⟨wr.heap.size, 2, none⟩ = some (.string ⟨(x.s.take 100).toArray⟩) ∧ w'.cell? ⟨wr.heap.size, 3, none⟩ = some (.slice x.a3 x.xs.length x.c3) ∧ w'.cell? ⟨wr.heap.size, 4, none⟩ = some (.slice ao5 (cutL x.ts).length cap5) ∧ Hid (Kp (wr.alloc (.cells #[.int .u8 x.c, .int .i64 x.n, .string ⟨(x.s.take 100).toArray⟩, .slice x.a3 x.xs.length x.c3, .slice ao5 (cutL x.ts).length cap5] 45)) w' (some wo.heap.size))) (by kernel_rfl) ?_ (fun hHeld => ?_)
            · exact ⟨ckr HB.out (KAA.out.drew) HGN.out 0 rfl, ckr HB.out (KAA.out.drew) HGN.out 1 rfl, ckr HB.out (KAA.out.drew) HGN.out 2 rfl, ckr HB.out (KAA.out.drew) HGN.out 3 rfl, ckr HB.out (KAA.out.drew) HGN.out 4 rfl, Lib.hid (KAA.out.drew)⟩
            refine wpAnyH_take (i := 0) (oi := _) (v := ?_) rfl (by kernel_rfl) (by kernel_rfl) (by kernel_rfl) (fun _ _ _ h => h) (Or.inl ⟨by rfl, ?_⟩) (by assumption) ?_
            rotate_left
            · (intro w hSw; (try dsimp only at hSw); go_simp <;> with_reducible rfl)
            try simp only [Act.put, List.setIfInBounds_toArray]
            refine wpAnyH_take (i := 2) (oi := _) (v := ?_) rfl (by kernel_rfl) (by kernel_rfl) (by kernel_rfl) (fun _ _ _ h => h) (Or.inl ⟨by rfl, ?_⟩) (by assumption) ?_
            rotate_left
            · (intro w hSw; (try dsimp only at hSw); go_simp <;> with_reducible rfl)
            try simp only [Act.put]
            refine wpAnyH_take (i := 3) (oi := _) (v := ?_) rfl (by kernel_rfl) (by kernel_rfl) (by kernel_rfl) (fun _ _ _ h => h) (Or.inl ⟨by rfl, ?_⟩) (by assumption) ?_
            rotate_left
            · (intro w hSw; (try dsimp only at hSw); go_simp <;> with_reducible rfl)
            try simp only [Act.put]
            refine wpAnyH_ready (rs := [1]) (by kernel_rfl) (by simp) ?_
            refine AllReadyH.cons (o := _) rfl (fun K hK => ?_) AllReadyH.nil
            have gK := hHeld.2.2.2.2.2
            go_simp
            have hq := texts_any wo.heap.size (some (x.ser ++ rest)) _ (HEA.out.kp gK.out (fun r hr => by injection hr; omega)) hr6 (by have := HSL.out; rw [List.length_append] at this; simp; omega) (HR3.out.keep ((Kp.refl (wr.alloc (.cells #[.int .u8 x.c, .int .i64 x.n, .string ⟨(x.s.take 100).toArray⟩, .slice x.a3 x.xs.length x.c3, .slice ao5 (cutL x.ts).length cap5] 45)) none).drew) (by simp))
            rw [HP.out] at hq
            refine hq.mono ?_
            clear hq
            rintro e w6 ⟨⟨⟨v6, rfl, hv6⟩, h6⟩, k6⟩
            have H6 := Lib.hid h6
            clear h6
            have HV6 := Lib.hid (own_isRow hv6)
            clear hv6
            try go_wp2_with fail
            refine hK.out _ _ ?_ (fun hHeld2 => ?_)
            · exact ⟨ckr HB.out (gK.out.trans k6) HGN.out 0 rfl, ckr HB.out (gK.out.trans k6) HGN.out 1 rfl, ckr HB.out (gK.out.trans k6) HGN.out 2 rfl, ckr HB.out (gK.out.trans k6) HGN.out 3 rfl, ckr HB.out (gK.out.trans k6) HGN.out 4 rfl, Lib.hid (gK.out.trans k6)⟩
            clear hK K hHeld gK
            have hHeld := hHeld2
            clear hHeld2
            try simp only [Act.put, List.setIfInBounds_toArray, List.set_cons_zero, List.set_cons_succ]
            refine wpAnyH_ready (rs := [4]) (by kernel_rfl) (by simp) ?_
            refine AllReadyH.cons (o := _) rfl (fun K hK => ?_) AllReadyH.nil
            have gK := hHeld.2.2.2.2.2
            go_simp
            have HRW := Lib.hid ((HTTo.out.keep (Kp.of_own KA.out gK.out (Nat.le_refl _))))
            refine (sameTexts_any _ _ (cutL x.ts) (cutL x.ts) _ HV6.out HRW.out (by have := cutL_len x.ts; omega)).mono ?_
            rintro e w7 ⟨rfl, n7, rfl⟩
            try go_wp2_with fail
            refine hK.out _ _ ?_ (fun hHeld2 => ?_)
            · exact ⟨ckr HB.out (gK.out.drewN n7) HGN.out 0 rfl, ckr HB.out (gK.out.drewN n7) HGN.out 1 rfl, ckr HB.out (gK.out.drewN n7) HGN.out 2 rfl, ckr HB.out (gK.out.drewN n7) HGN.out 3 rfl, ckr HB.out (gK.out.drewN n7) HGN.out 4 rfl, Lib.hid (gK.out.drewN n7)⟩
            clear hK K hHeld gK
            have hHeld := hHeld2
            clear hHeld2
            try simp only [Act.put, List.setIfInBounds_toArray, List.set_cons_zero, List.set_cons_succ]
            refine wpAnyH_take (i := 5) (oi := _) (v := ?_) rfl (by kernel_rfl) (by kernel_rfl) (by kernel_rfl) (fun _ _ _ h => h) (Or.inl ⟨by rfl, ?_⟩) (by assumption) ?_
            rotate_left
            · (intro w hSw; (try dsimp only at hSw); go_simp <;> with_reducible rfl)
            try simp only [Act.put, List.setIfInBounds_toArray]
            refine wpAnyH_done (by kernel_rfl) ?_ _
            have H7 := Lib.hid (H6.out.drewN n7)
            have KZ := Lib.hid hHeld.2.2.2.2.2.out
            clear hHeld
            go_wp2_with (first | (go_at_call 34; refine (bad_any _ _ _ H7.out).mono ?_; rintro e w' ⟨rfl, rfl⟩))
            go_roundw
            case rel => exact ⟨k + 1, by omega, by go_num, HRE.out ▸ H7.out, Kp.of_own KA.out KZ.out (Nat.le_refl _)⟩
            case measure => simp [intOf]; omega
        · obtain rfl : k = vs.length := by omega
          have h9 := HR.out
          rw [List.drop_length] at h9
          have H9 := Lib.hid h9
          clear h9
          go_wp2_with (first | (go_at_call 32; refine (left_any _ _ _ H9.out).mono ?_; rintro e w' ⟨rfl, rfl⟩))
          go_ret
          exact ⟨rfl, HK.out.trans HK2.out⟩

end Go.Proofs.YtfcbogoahangoaaDoor
