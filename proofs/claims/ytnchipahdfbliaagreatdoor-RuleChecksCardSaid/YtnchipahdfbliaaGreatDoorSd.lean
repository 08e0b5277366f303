/- The law's helpers: conditions made, texts that are rules, texts that are none. Conditions: what a machine holds.
  The examples of the chapter, run. Conditions: what a machine holds. -/
import Derived.Test.YtnchipahdfbliaaGreatDoorSc
import Derived.Test.YtnchipahdfbliaaGreatDoorRuE

namespace Go.Proofs.YtnchipahdfbliaaGreatDoor
open Go.RowKit

set_option maxHeartbeats 1000000 in
set_option maxRecDepth 100000 in
theorem anything_any (w : World) : Calls Tryz.prog 24 #[] w fun e w' => e = .returned (.agg #[.int .i64 1, .string ⟨#[]⟩, .int .i64 0, .int .i64 0, .int .i64 0, .int .i64 0, .int .i64 0, .slice none 0 0]) ∧ Kp w w' none := by
 have HK : Hid (Kp w (w.alloc (.cells #[.int .i64 1, .string ⟨#[]⟩, .int .i64 0, .int .i64 0, .int .i64 0, .int .i64 0, .int .i64 0, .slice none 0 0] 40)) none) := Lib.hid ((Kp.refl _ _).alloc _)
 go_enter Tryz.func24, Tryz.ntmps24
 go_wp2_with (refine wpList_store_new (by rfl) 40 _ _ (by rfl) #[.int .i64 0, .string ⟨#[]⟩, .int .i64 0, .int .i64 0, .int .i64 0, .int .i64 0, .int .i64 0, .slice none 0 0] #[.int .i64 1, .string ⟨#[]⟩, .int .i64 0, .int .i64 0, .int .i64 0, .int .i64 0, .int .i64 0, .slice none 0 0] 40 (by rfl) (by rfl) rfl info40s (by rfl) (by simp [Value.oneCell']) ?_)
 exact bodyPost_ret (results_cell_row (p := 0) (ty := 40) (by rfl) _ (w.alloc (.cells #[.int .i64 1, .string ⟨#[]⟩, .int .i64 0, .int .i64 0, .int .i64 0, .int .i64 0, .int .i64 0, .slice none 0 0] 40)) w.heap.size 40 #[.int .i64 1, .string ⟨#[]⟩, .int .i64 0, .int .i64 0, .int .i64 0, .int .i64 0, .int .i64 0, .slice none 0 0] (0, 0) _ (by rfl) (heap_alloc_new w _) Tryz.underlying40 (by rfl) info40s) (by rfl) ⟨rfl, HK.out⟩
set_option maxHeartbeats 1000000 in
set_option maxRecDepth 100000 in
theorem kind_any (n : Int) (w : World) : Calls Tryz.prog 28 #[.int .i64 n] w fun e w' => e = .returned (.agg #[.int .i64 4, .string ⟨#[]⟩, .int .i64 n, .int .i64 0, .int .i64 0, .int .i64 0, .int .i64 0, .slice none 0 0]) ∧ Kp w w' none := by
 have HK : Hid (Kp w (w.alloc (.cells #[.int .i64 4, .string ⟨#[]⟩, .int .i64 n, .int .i64 0, .int .i64 0, .int .i64 0, .int .i64 0, .slice none 0 0] 40)) none) := Lib.hid ((Kp.refl _ _).alloc _)
 go_enter Tryz.func28, Tryz.ntmps28
 go_wp2_with (refine wpList_store_new (by rfl) 40 _ _ (by rfl) #[.int .i64 0, .string ⟨#[]⟩, .int .i64 0, .int .i64 0, .int .i64 0, .int .i64 0, .int .i64 0, .slice none 0 0] #[.int .i64 4, .string ⟨#[]⟩, .int .i64 n, .int .i64 0, .int .i64 0, .int .i64 0, .int .i64 0, .slice none 0 0] 40 (by rfl) (by rfl) rfl info40s (by rfl) (by simp [Value.oneCell']) ?_)
 exact bodyPost_ret (results_cell_row (p := 2) (ty := 40) (by rfl) _ (w.alloc (.cells #[.int .i64 4, .string ⟨#[]⟩, .int .i64 n, .int .i64 0, .int .i64 0, .int .i64 0, .int .i64 0, .slice none 0 0] 40)) w.heap.size 40 #[.int .i64 4, .string ⟨#[]⟩, .int .i64 n, .int .i64 0, .int .i64 0, .int .i64 0, .int .i64 0, .slice none 0 0] (0, 0) _ (by rfl) (heap_alloc_new w _) Tryz.underlying40 (by rfl) info40s) (by rfl) ⟨rfl, HK.out⟩
set_option maxHeartbeats 1000000 in
set_option maxRecDepth 100000 in
theorem with_any (op : Int) (a : Option Addr) (m c : Nat) (w : World) : Calls Tryz.prog 25 #[.int .i64 op, .slice a m c] w fun e w' => e = .returned (.agg #[.int .i64 op, .string ⟨#[]⟩, .int .i64 0, .int .i64 0, .int .i64 0, .int .i64 0, .int .i64 0, .slice a m c]) ∧ Kp w w' none := by
 have HK : Hid (Kp w (w.alloc (.cells #[.int .i64 op, .string ⟨#[]⟩, .int .i64 0, .int .i64 0, .int .i64 0, .int .i64 0, .int .i64 0, .slice a m c] 40)) none) := Lib.hid ((Kp.refl _ _).alloc _)
 go_enter Tryz.func25, Tryz.ntmps25
 go_wp2_with (refine wpList_store_new (by rfl) 40 _ _ (by rfl) #[.int .i64 0, .string ⟨#[]⟩, .int .i64 0, .int .i64 0, .int .i64 0, .int .i64 0, .int .i64 0, .slice none 0 0] #[.int .i64 op, .string ⟨#[]⟩, .int .i64 0, .int .i64 0, .int .i64 0, .int .i64 0, .int .i64 0, .slice a m c] 40 (by rfl) (by rfl) rfl info40s (by rfl) (by simp [Value.oneCell']) ?_)
 exact bodyPost_ret (results_cell_row (p := 4) (ty := 40) (by rfl) _ (w.alloc (.cells #[.int .i64 op, .string ⟨#[]⟩, .int .i64 0, .int .i64 0, .int .i64 0, .int .i64 0, .int .i64 0, .slice a m c] 40)) w.heap.size 40 #[.int .i64 op, .string ⟨#[]⟩, .int .i64 0, .int .i64 0, .int .i64 0, .int .i64 0, .int .i64 0, .slice a m c] (0, 0) _ (by rfl) (heap_alloc_new w _) Tryz.underlying40 (by rfl) info40s) (by rfl) ⟨rfl, HK.out⟩
theorem rules_len {w : World} {v : Value} {l : List Ru.Rule} (h : Rules w v l) : ∃ (ps : List RV) (ao : Option Addr) (cap : Nat), l = ps.map (·.r) ∧ v = .slice ao ps.length cap ∧ LiesAt 20 rC w ao cap ps ∧ ∀ p ∈ ps, p.Tree w := by
 obtain ⟨ps, h1, h2, h3⟩ := h
 obtain ⟨ao, cap, e, hl⟩ := h2.form
 exact ⟨ps, ao, cap, h1, e, hl, h3⟩
set_option maxHeartbeats 2000000 in
set_option maxRecDepth 100000 in
theorem fails_any (s : List UInt8) (line want : Int) (w : World) (he : Env w) (h : Ru.parse (s ++ [10]) = ([], line, want)) (hs : s.length ≤ 1000000000) : Calls Tryz.prog 27 #[str s, .int .i64 line, .int .i64 want] w (SameIs true w) := by
 have c1 := parse_any (s ++ [10]) w he
 rw [h] at c1
 have c2 : Calls Tryz.prog 19 #[str (s ++ [10])] w fun e w' => (∃ (ao : Option Addr) (cap : Nat), e = .returned (.tuple #[.slice ao 0 cap, .int .i64 line, .int .i64 want])) ∧ Kp w w' none := c1.mono fun e w' ⟨⟨v, h1, h2⟩, h3⟩ => by
  obtain ⟨ps, ao, cap, e1, e2, _⟩ := rules_len h2
  have : ps = [] := by simpa using e1.symm
  subst this
  exact ⟨⟨ao, cap, by rw [h1, e2]; rfl⟩, h3⟩
 have hcat : (⟨s.toArray⟩ : ByteArray) ++ ⟨#[10]⟩ = ⟨(s ++ [10]).toArray⟩ := cat_eq s [10]
 have hsn : ¬ 9223372036854775807 < s.length + 1 := by omega
 obtain ⟨t, ht⟩ : ∃ t, s ++ [10] = t := ⟨_, rfl⟩
 rw [ht] at c2 hcat
 have hb1 : (want == want) = true := by simp
 have hb2 : (line == line) = true := by simp
 clear c1 h he ht hs
 go_enter Tryz.func27, Tryz.ntmps27
 go_wp2_with (first | (rw [hcat]) | (go_at_call 19; refine c2.mono ?_; rintro e w2 ⟨⟨ao, cap, rfl⟩, hk2⟩))
 go_ret
 exact ⟨rfl, hk2⟩
set_option maxHeartbeats 4000000 in
set_option maxRecDepth 100000 in
theorem says_walk (s : List UInt8) (r : Ru.Rule) (q : Ru.Rule) (a3 : Option Addr) (m3 c3 : Nat) (a4 : Option Addr) (m4 c4 : Nat) (w : World) (he : Env w) (h : Ru.parse (s ++ [10]) = ([r], 0, 0)) (hf : Fit r) (hs : s.length ≤ 1000000000) (hq : RV.Tree w ⟨q, .slice a3 m3 c3, .slice a4 m4 c4⟩) : Calls Tryz.prog 26 #[str s, .agg #[str q.name, .int .i64 q.prio, .int .i64 q.what, .int .i64 q.a.op, str q.a.text, .int .i64 q.a.n, .int .i64 q.a.box.x0, .int .i64 q.a.box.y0, .int .i64 q.a.box.x1, .int .i64 q.a.box.y1, .slice a3 m3 c3, .int .i64 q.b.op, str q.b.text, .int .i64 q.b.n, .int .i64 q.b.box.x0, .int .i64 q.b.box.y0, .int .i64 q.b.box.x1, .int .i64 q.b.box.y1, .slice a4 m4 c4, .int .i64 q.value]] w (SameIs (eqB r q) w) := by
 have k0 : Kp w (w.alloc (.cells #[str q.name, .int .i64 q.prio, .int .i64 q.what, .int .i64 q.a.op, str q.a.text, .int .i64 q.a.n, .int .i64 q.a.box.x0, .int .i64 q.a.box.y0, .int .i64 q.a.box.x1, .int .i64 q.a.box.y1, .slice a3 m3 c3, .int .i64 q.b.op, str q.b.text, .int .i64 q.b.n, .int .i64 q.b.box.x0, .int .i64 q.b.box.y0, .int .i64 q.b.box.x1, .int .i64 q.b.box.y1, .slice a4 m4 c4, .int .i64 q.value] 42)) none := (Kp.refl _ _).alloc _
 have c1 := parse_any (s ++ [10]) _ (he.kp0 k0)
 rw [h] at c1
 have c2 : Calls Tryz.prog 19 #[str (s ++ [10])] (w.alloc (.cells #[str q.name, .int .i64 q.prio, .int .i64 q.what, .int .i64 q.a.op, str q.a.text, .int .i64 q.a.n, .int .i64 q.a.box.x0, .int .i64 q.a.box.y0, .int .i64 q.a.box.x1, .int .i64 q.a.box.y1, .slice a3 m3 c3, .int .i64 q.b.op, str q.b.text, .int .i64 q.b.n, .int .i64 q.b.box.x0, .int .i64 q.b.box.y0, .int .i64 q.b.box.x1, .int .i64 q.b.box.y1, .slice a4 m4 c4, .int .i64 q.value] 42)) fun e w' => (∃ (b off cap : Nat) (p : RV), e = .returned (.tuple #[.slice (some ⟨b, off, none⟩) 1 cap, .int .i64 0, .int .i64 0]) ∧ p.r = r ∧ p.Tree w' ∧ w'.rangeAt b off (rC p) ∧ b < w'.heap.size) ∧ Kp (w.alloc (.cells #[str q.name, .int .i64 q.prio, .int .i64 q.what, .int .i64 q.a.op, str q.a.text, .int .i64 q.a.n, .int .i64 q.a.box.x0, .int .i64 q.a.box.y0, .int .i64 q.a.box.x1, .int .i64 q.a.box.y1, .slice a3 m3 c3, .int .i64 q.b.op, str q.b.text, .int .i64 q.b.n, .int .i64 q.b.box.x0, .int .i64 q.b.box.y0, .int .i64 q.b.box.x1, .int .i64 q.b.box.y1, .slice a4 m4 c4, .int .i64 q.value] 42)) w' none := c1.mono fun e w' ⟨⟨v, h1, h2⟩, h3⟩ => by
  obtain ⟨ps, ao, cap, e1, e2, hl, ht⟩ := rules_len h2
  obtain ⟨p, rfl⟩ : ∃ p, ps = [p] := List.length_eq_one_iff.1 (by have := congrArg List.length e1; simpa using this.symm)
  obtain ⟨b, off, hao, hb, hr⟩ := hl.range 0 (by simp) (p := p) rfl
  subst hao
  refine ⟨⟨b, off, cap, p, by rw [h1, e2]; rfl, by simpa using e1.symm, ht p (by simp), by simpa using hr, hb⟩, h3⟩
 have hcat : (⟨s.toArray⟩ : ByteArray) ++ ⟨#[10]⟩ = ⟨(s ++ [10]).toArray⟩ := cat_eq s [10]
 have hsn : ¬ 9223372036854775807 < s.length + 1 := by omega
 obtain ⟨t, ht⟩ : ∃ t, s ++ [10] = t := ⟨_, rfl⟩
 rw [ht] at c2 hcat
 have HB := Lib.hid (heap_alloc_new w (.cells #[str q.name, .int .i64 q.prio, .int .i64 q.what, .int .i64 q.a.op, str q.a.text, .int .i64 q.a.n, .int .i64 q.a.box.x0, .int .i64 q.a.box.y0, .int .i64 q.a.box.x1, .int .i64 q.a.box.y1, .slice a3 m3 c3, .int .i64 q.b.op, str q.b.text, .int .i64 q.b.n, .int .i64 q.b.box.x0, .int .i64 q.b.box.y0, .int .i64 q.b.box.x1, .int .i64 q.b.box.y1, .slice a4 m4 c4, .int .i64 q.value] 42))
 have HQ := Lib.hid hq
 have HF := Lib.hid hf
 have HK0 := Lib.hid k0
 clear c1 h he ht hs hq hf k0
 go_enter Tryz.func26, Tryz.ntmps26
 go_upto_region 2 with (first | (rw [hcat]) | (go_at_call 19; refine c2.mono ?_; rintro e w2 ⟨⟨b, off, cap, p, rfl, hpr, hpt, hrg, hbl⟩, hk2⟩; have HK2 := Lib.hid hk2))
 have cS : ∀ V, Kp w2 V none → Calls Tryz.prog 18 #[rA p, rA ⟨q, .slice a3 m3 c3, .slice a4 m4 c4⟩] V (SameIs (eqB p.r q) V) := fun V hV => same_ref_any p ⟨q, .slice a3 m3 c3, .slice a4 m4 c4⟩ V (hpt.keep hV) ((HQ.out.keep HK0.out).keep (HK2.out.trans hV)) (by rw [hpr]; exact HF.out)
 rw [hpr] at cS
 obtain ⟨⟨a1, m1, c1, e1⟩, a2, m2, c2, e2⟩ := RV.slices hpt
 obtain ⟨p, va, vb⟩ := p
 simp only at e1 e2 hpr
 subst e1 e2
 have cS : ∀ V, Kp w2 V none → Calls Tryz.prog 18 #[.agg #[str p.name, .int .i64 p.prio, .int .i64 p.what, .int .i64 p.a.op, str p.a.text, .int .i64 p.a.n, .int .i64 p.a.box.x0, .int .i64 p.a.box.y0, .int .i64 p.a.box.x1, .int .i64 p.a.box.y1, .slice a1 m1 c1, .int .i64 p.b.op, str p.b.text, .int .i64 p.b.n, .int .i64 p.b.box.x0, .int .i64 p.b.box.y0, .int .i64 p.b.box.x1, .int .i64 p.b.box.y1, .slice a2 m2 c2, .int .i64 p.value], .agg #[str q.name, .int .i64 q.prio, .int .i64 q.what, .int .i64 q.a.op, str q.a.text, .int .i64 q.a.n, .int .i64 q.a.box.x0, .int .i64 q.a.box.y0, .int .i64 q.a.box.x1, .int .i64 q.a.box.y1, .slice a3 m3 c3, .int .i64 q.b.op, str q.b.text, .int .i64 q.b.n, .int .i64 q.b.box.x0, .int .i64 q.b.box.y0, .int .i64 q.b.box.x1, .int .i64 q.b.box.y1, .slice a4 m4 c4, .int .i64 q.value]] V (SameIs (eqB r q) V) := cS
 have HS : Hid (∀ V, Kp w2 V none → V.rangeAt b off #[str p.name, .int .i64 p.prio, .int .i64 p.what, .int .i64 p.a.op, str p.a.text, .int .i64 p.a.n, .int .i64 p.a.box.x0, .int .i64 p.a.box.y0, .int .i64 p.a.box.x1, .int .i64 p.a.box.y1, .slice a1 m1 c1, .int .i64 p.b.op, str p.b.text, .int .i64 p.b.n, .int .i64 p.b.box.x0, .int .i64 p.b.box.y0, .int .i64 p.b.box.x1, .int .i64 p.b.box.y1, .slice a2 m2 c2, .int .i64 p.value].toList ∧ V.rangeAt w.heap.size 0 #[str q.name, .int .i64 q.prio, .int .i64 q.what, .int .i64 q.a.op, str q.a.text, .int .i64 q.a.n, .int .i64 q.a.box.x0, .int .i64 q.a.box.y0, .int .i64 q.a.box.x1, .int .i64 q.a.box.y1, .slice a3 m3 c3, .int .i64 q.b.op, str q.b.text, .int .i64 q.b.n, .int .i64 q.b.box.x0, .int .i64 q.b.box.y0, .int .i64 q.b.box.x1, .int .i64 q.b.box.y1, .slice a4 m4 c4, .int .i64 q.value].toList ∧ Hid (Kp w2 V none)) := Lib.hid fun V hV => ⟨fun j v hv => by rw [hV.below.cell (p := ⟨b, off + j, none⟩) hbl]; exact hrg j v hv, range_blk (res_kept HB.out (HK2.out.trans hV) (by simp)), Lib.hid hV⟩
 clear hpr hpt hrg hk2 hbl
 refine wp_region_held_drew (S := fun V => V.rangeAt b off #[str p.name, .int .i64 p.prio, .int .i64 p.what, .int .i64 p.a.op, str p.a.text, .int .i64 p.a.n, .int .i64 p.a.box.x0, .int .i64 p.a.box.y0, .int .i64 p.a.box.x1, .int .i64 p.a.box.y1, .slice a1 m1 c1, .int .i64 p.b.op, str p.b.text, .int .i64 p.b.n, .int .i64 p.b.box.x0, .int .i64 p.b.box.y0, .int .i64 p.b.box.x1, .int .i64 p.b.box.y1, .slice a2 m2 c2, .int .i64 p.value].toList ∧ V.rangeAt w.heap.size 0 #[str q.name, .int .i64 q.prio, .int .i64 q.what, .int .i64 q.a.op, str q.a.text, .int .i64 q.a.n, .int .i64 q.a.box.x0, .int .i64 q.a.box.y0, .int .i64 q.a.box.x1, .int .i64 q.a.box.y1, .slice a3 m3 c3, .int .i64 q.b.op, str q.b.text, .int .i64 q.b.n, .int .i64 q.b.box.x0, .int .i64 q.b.box.y0, .int .i64 q.b.box.x1, .int .i64 q.b.box.y1, .slice a4 m4 c4, .int .i64 q.value].toList ∧ Hid (Kp w2 V none)) (by kernel_rfl) (HS.out _ (Kp.refl _ none).drew) (fun hHeld => ?_)
 generalize w2.drew = V0 at *
 refine tkH 0 rfl ?_
 try simp only [Act.put, sm]
 refine tkH 1 rfl ?_
 try simp only [Act.put, sm]
 refine tkH 2 rfl ?_
 try simp only [Act.put, sm]
 refine tkH 3 rfl ?_
 try simp only [Act.put, sm]
 refine tkH 4 rfl ?_
 try simp only [Act.put, sm]
 refine tkH 5 rfl ?_
 try simp only [Act.put, sm]
 refine tkH 6 rfl ?_
 try simp only [Act.put, sm]
 refine tkH 7 rfl ?_
 try simp only [Act.put, sm]
 refine tkH 8 rfl ?_
 try simp only [Act.put, sm]
 refine tkH 9 rfl ?_
 try simp only [Act.put, sm]
 refine tkH 10 rfl ?_
 try simp only [Act.put, sm]
 refine tkH 11 rfl ?_
 try simp only [Act.put, sm]
 refine tkH 12 rfl ?_
 try simp only [Act.put, sm]
 refine tkH 13 rfl ?_
 try simp only [Act.put, sm]
 refine wpAnyH_take (i := 14) rfl (by kernel_rfl) (by kernel_rfl) (by kernel_rfl) (fun _ _ _ h => h) (yieldsIf_load_mid (by rfl) _ _ rfl b off rfl #[str p.name, .int .i64 p.prio, .int .i64 p.what, .int .i64 p.a.op, str p.a.text, .int .i64 p.a.n, .int .i64 p.a.box.x0, .int .i64 p.a.box.y0, .int .i64 p.a.box.x1, .int .i64 p.a.box.y1, .slice a1 m1 c1, .int .i64 p.b.op, str p.b.text, .int .i64 p.b.n, .int .i64 p.b.box.x0, .int .i64 p.b.box.y0, .int .i64 p.b.box.x1, .int .i64 p.b.box.y1, .slice a2 m2 c2, .int .i64 p.value].toList _ (fun _ h => h.1) Tryz.underlying42 rfl info42) (by assumption) ?_
 try simp only [Act.put, sm]
 refine wpAnyH_take (i := 15) rfl (by kernel_rfl) (by kernel_rfl) (by kernel_rfl) (fun _ _ _ h => h) (yieldsIf_load_mid (by rfl) _ _ rfl w.heap.size 0 rfl #[str q.name, .int .i64 q.prio, .int .i64 q.what, .int .i64 q.a.op, str q.a.text, .int .i64 q.a.n, .int .i64 q.a.box.x0, .int .i64 q.a.box.y0, .int .i64 q.a.box.x1, .int .i64 q.a.box.y1, .slice a3 m3 c3, .int .i64 q.b.op, str q.b.text, .int .i64 q.b.n, .int .i64 q.b.box.x0, .int .i64 q.b.box.y0, .int .i64 q.b.box.x1, .int .i64 q.b.box.y1, .slice a4 m4 c4, .int .i64 q.value].toList _ (fun _ h => h.2.1) Tryz.underlying42 rfl info42) (by assumption) ?_
 try simp only [Act.put, sm]
 refine wpAnyH_ready (rs := [16]) (by kernel_rfl) (by simp) ?_
 refine AllReadyH.cons (o := _) rfl (fun K hK => ?_) AllReadyH.nil
 have gK := hHeld.2.2
 clear hHeld
 go_simp
 refine (cS _ gK.out).mono ?_
 rintro e w3 ⟨rfl, hk3⟩
 have k3 := gK.out.trans hk3
 try go_wp2_with fail
 refine hK.out _ _ (HS.out _ k3) (fun hHeld => ?_)
 clear hK K gK hk3
 try simp only [Act.put, sm]
 refine tkH 17 rfl ?_
 try simp only [Act.put, sm]
 refine tkH 18 rfl ?_
 try simp only [Act.put, sm]
 clear hHeld
 refine wpAnyH_done (by kernel_rfl) ?_ _
 go_wp2_with fail
 go_ret
 exact ⟨rfl, (HK0.out.trans HK2.out).trans k3⟩
end Go.Proofs.YtnchipahdfbliaaGreatDoor

namespace Go.Proofs.YtnchipahdfbliaaGreatDoor
open Go.RowKit

theorem wpList_want {P : Program} {ops : Array Oper} {Q : Exit → Act → World → Prop} {a : Act} {w : World} {rest : List Oper} {o : Oper} (hw : Region.wanted o (yielded ops a.tmps) = true) (h : ∀ K : Act → World → Prop, (∀ a w, wpList P ops Q rest a w → K a w) → o.wp P a w K Q) : wpList P ops Q (o :: rest) a w :=
 wpList_step fun K hK => by rw [if_pos hw]; exact h K hK
theorem wpList_load_want {P : Program} {ops : Array Oper} {rest : List Oper} {op : Oper} {a : Act} {w : World} {Q : Exit → Act → World → Prop} (hw : Region.wanted op (yielded ops a.tmps) = true) (ty : TypeId) (x : Operand) (ho : op.op = .load ty x)
  (b o : Nat) (hx : a.eval x = .pointer (some ⟨b, o, none⟩)) (cs : List Value) (d : TypeDesc) (hc : w.rangeAt b o cs) (hu : P.underlying ty = some d) (hd : d.isRow = true) (hi : (P.info? ty).map (·.size) = some cs.length)
  (h : wpList P ops Q rest (a.put op.dst (.agg cs.toArray)) w) : wpList P ops Q (op :: rest) a w :=
 wpList_want hw fun _ hK => wp_load_mid ty x ho b o hx cs d hc hu hd hi (hK _ _ h)
theorem wp_store_to {op : Oper} {a : Act} {w : World} {K : Act → World → Prop} {Q : Exit → Act → World → Prop} (ty : TypeId) (x y : Operand) (ho : op.op = .store ty x y)
  (g o : Nat) (old : Array Value) (t : TypeId) (hg : w.heap[g]? = some (.cells old t (0, 0))) (c' : Array Value) (hx : a.eval x = .pointer (some ⟨g, o, none⟩)) (hy : a.eval y = .agg c') (hi : (Tryz.prog.info? ty).map (·.size) = some c'.size) (hs : o + c'.size ≤ old.size) (h1 : ∀ v ∈ c'.toList, v.oneCell' = true) (new : Array Value) (hn : putAll old o c'.toList = new)
  (h : ∀ V, V.heap[g]? = some (.cells new t (0, 0)) → Kp w V (some g) → K (a.put op.dst undef) V) : op.wp Tryz.prog a w K Q := by
 have hh := heap_setCells c'.toList o w old hg
 refine wp_store_mid ty x y ho g o c' hx hy (fun j hj => ⟨?_, Lib.frozen_of_heap hg (o + j)⟩) hi (Array.all_eq_true_iff_forall_mem.2 (fun v hv => h1 v (by simpa using hv))) (h _ (hn ▸ hh.1) hh.2)
 rw [Lib.cell_of_heap hg]
 have : o + j < old.size := by omega
 simp [this]
theorem tree_one {w : World} {b : Nat} {p : Ru.Cond × Value} {op : Int} {t : List UInt8} {n : Int} {bx : Ru.Box} (h : w.heap[b]? = some (.cells (cC p).toArray 40 (0, 0))) (hp : Tree w p.1 p.2) : Tree w (.mk op t n bx [p.1]) (.slice (some ⟨b, 0, none⟩) 1 1) :=
 Tree.of (ps := [p]) rfl (.inr ⟨b, 0, 1, rfl, by simp, lt_of_block h, fun k hk j hj => by
  have e : k = 0 := by simp at hk; omega
  subst e
  exact hcell h _ (by simp)⟩) (fun q hq => by rw [List.mem_singleton] at hq; subst hq; exact hp)
theorem tree_two {w : World} {b : Nat} {p q : Ru.Cond × Value} {op : Int} {t : List UInt8} {n : Int} {bx : Ru.Box} (h : w.heap[b]? = some (.cells (cC p ++ cC q).toArray 40 (0, 0))) (hp : Tree w p.1 p.2) (hq : Tree w q.1 q.2) : Tree w (.mk op t n bx [p.1, q.1]) (.slice (some ⟨b, 0, none⟩) 2 2) :=
 Tree.of (ps := [p, q]) rfl (.inr ⟨b, 0, 2, rfl, by simp, lt_of_block h, fun k hk j hj => by
  have hj8 : j < 8 := by
   have e : k = 0 ∨ k = 1 := by simp at hk; omega
   rcases e with rfl | rfl <;> exact hj
  have e : k = 0 ∨ k = 1 := by simp at hk; omega
  rcases e with rfl | rfl
  ·refine hcell h _ ?_
   simp only [Nat.zero_mul, Nat.zero_add]
   rw [List.getElem?_toArray, List.getElem?_append_left (by exact hj8)]
   exact List.getElem?_eq_getElem hj
  ·refine hcell h _ ?_
   simp only [Nat.one_mul, Nat.zero_add]
   rw [List.getElem?_toArray, List.getElem?_append_right (by rw [cC_len]; omega), cC_len, show 8 + j - 8 = j by omega]
   exact List.getElem?_eq_getElem hj⟩) (fun r hr => by
  simp only [List.mem_cons, List.not_mem_nil, or_false] at hr
  rcases hr with rfl | rfl
  ·exact hp
  ·exact hq)
theorem says_t (s : List UInt8) (q : Ru.Rule) (a3 : Option Addr) (m3 c3 : Nat) (a4 : Option Addr) (m4 c4 : Nat) (w : World) (he : Env w) (h : Ru.parse (s ++ [10]) = ([q], 0, 0)) (hf : Fit q) (hs : s.length ≤ 1000000000) (hq : RV.Tree w ⟨q, .slice a3 m3 c3, .slice a4 m4 c4⟩) : Calls Tryz.prog 26 #[str s, rA ⟨q, .slice a3 m3 c3, .slice a4 m4 c4⟩] w (SameIs true w) := by
 have h := says_walk s q q a3 m3 c3 a4 m4 c4 w he h hf hs hq
 rw [eqB_t rfl] at h
 exact h
theorem good_fit {r : Ru.Rule} (h : Ru.Good r) : Fit r := by
 have hl : ∀ c : Ru.Cond, Ru.right c = true → Ru.Lim c := by
  intro c
  refine Ru.Cond.ind (P := fun c => Ru.right c = true → Ru.Lim c) (fun op t n b l ih hr => ?_) c
  have hf := Ru.right_form hr
  generalize hc : Ru.Cond.mk op t n b l = c at hf hr
  cases hf with
  | any => exact Ru.lim_leaf (by simp)
  | net t h1 => exact Ru.lim_leaf (by have := Ru.splitR_len h1; omega)
  | cls t h1 => exact Ru.lim_leaf (by have := Ru.name_len h1; omega)
  | kind k h1 h2 => exact Ru.lim_leaf (by simp)
  | layer k h1 h2 => exact Ru.lim_leaf (by simp)
  | part k h1 h2 => exact Ru.lim_leaf (by simp)
  | box b h1 => exact Ru.lim_leaf (by simp)
  | not d hd => injection hc with _ _ _ _ hl; exact .mk _ _ _ _ _ (by simp) (fun c hc => by rw [List.mem_singleton] at hc; subst hc; exact ih c (by rw [hl]; simp) hd)
  | and m h2 hra => injection hc with _ _ _ _ hl; subst hl; exact .mk _ _ _ _ _ (by simp) (fun c hc => ih c hc (hra c hc))
  | or m h2 hra => injection hc with _ _ _ _ hl; subst hl; exact .mk _ _ _ _ _ (by simp) (fun c hc => ih c hc (hra c hc))
 have := h.sa; have := h.sb
 exact ⟨by have := Ru.name_len h.name; omega, lim_short _ (hl _ h.a) (by omega), lim_short _ (hl _ h.b) (by omega), by omega, by omega⟩
theorem lies_one {w : World} {b : Nat} {p : RV} (h : w.heap[b]? = some (.cells (rC p).toArray 42 (0, 0))) : LiesAt 20 rC w (some ⟨b, 0, none⟩) 1 [p] := fun k hk => by
 have e : k = 0 := by simp at hk; omega
 subst e
 exact ⟨b, 0, rfl, lt_of_block h, Nat.le_refl _, fun j hj => hcell h _ (by simp)⟩
theorem parsed_fit {q : Ru.Rule} (h : Ru.check [q] = 0) : Fit q := good_fit ((Ru.check_good h).2 q (by simp))
end Go.Proofs.YtnchipahdfbliaaGreatDoor
