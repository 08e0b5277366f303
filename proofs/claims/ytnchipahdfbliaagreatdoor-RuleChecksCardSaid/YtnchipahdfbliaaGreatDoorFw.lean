/- The law's few rules. Conditions: what a machine holds. -/
import Derived.Test.YtnchipahdfbliaaGreatDoorCu
import Derived.Test.YtnchipahdfbliaaGreatDoorSh
namespace Go.Proofs.YtnchipahdfbliaaGreatDoor
open Go.RowKit

/-- Rules that a call hands out, at most so many, such as every walk takes. -/
def RulesIs (N : Nat) (w : World) (e : Ending) (w' : World) : Prop := ∃ (qs : List RV) (ao : Option Addr) (p : Nat), e = .returned (.slice ao qs.length p) ∧ LiesAt 20 rC w' ao p qs ∧ (∀ q ∈ qs, q.Tree w') ∧ (∀ q ∈ qs, Fit q.r) ∧ qs.length ≤ N ∧ Kp w w' none
def WideR (r : Ru.Rule) : Prop := LenOk r.name.length ∧ Wide r.a ∧ Wide r.b
set_option maxHeartbeats 16000000 in
set_option maxRecDepth 100000 in
theorem few_any (ps0 : List RV) (ao : Option Addr) (cap n : Nat) (w : World) (hn : ps0.length = n) (_hn2 : LenOk n) (hl : LiesAt 20 rC w ao cap ps0) (ht : ∀ p ∈ ps0, p.Tree w) (hw : ∀ p ∈ ps0, WideR p.r) :
  Calls Tryz.prog 12 #[.slice ao n cap] w (RulesIs 4 w) := by
 have HL := Lib.hid hl; have HT := Lib.hid ht; have HN := Lib.hid hn; have HW := Lib.hid hw
 have hn0 : (0 : Int) ≤ (n : Int) := by omega
 clear hl ht hn hw
 go_enter Tryz.func12, Tryz.ntmps12
 go_wp2_with fail
 go_loopw [3, 4] (fun lv i wr => ∃ (k : Nat) (qs : List RV), k ≤ n ∧ k ≤ 4 ∧ i = .int .i64 (k : Int) ∧ Hid (qs.length = k) ∧ Hid (wr.ownsRow w.heap.size 42 20 lv qs.length (qs.flatMap rC)) ∧ Hid (∀ p ∈ qs, RTree (fun b => w.heap.size ≤ b ∧ lv.ownBlock ≠ some b) wr p) ∧ Hid (∀ p ∈ qs, Fit p.r) ∧ Hid (Kp w wr none)) (fun _ i _ => 5 - (intOf i).toNat)
 case atStart => exact ⟨0, [], Nat.zero_le _, by omega, rfl, Lib.hid rfl, Lib.hid ⟨rfl, .inl ⟨rfl, rfl⟩⟩, Lib.hid (by simp), Lib.hid (by simp), Lib.hid (Kp.refl _ _)⟩
 case round =>
  obtain ⟨k, qs, hk, hk4, rfl, HQL, HOW, HTR, HF, HK⟩ := hrel
  have hk0 : (0 : Int) ≤ (k : Int) := by omega
  by_cases hlt : k < n ∧ k < 4
  ·have h1 : (k : Int) < (n : Int) := by omega
   have h2 : (k : Int) < 4 := by omega
   have hltp : k < ps0.length := by rw [HN.out]; exact hlt.1
   obtain ⟨q, hq⟩ : ∃ q, ps0[k] = q := ⟨_, rfl⟩
   have hmem : q ∈ ps0 := by rw [← hq]; exact List.getElem_mem hltp
   have htr := HT.out q hmem
   obtain ⟨hwn, hwa, hwb⟩ := HW.out q hmem
   obtain ⟨⟨a1, m1, p1, hva⟩, a2, m2, p2, hvb⟩ := RV.slices htr
   obtain ⟨b, off, hao, _, hrg⟩ := (HL.out.keep HK.out).range k hltp hq
   have HRG : Hid (wr.rangeAt b (off + k * 20) #[str q.r.name, .int .i64 q.r.prio, .int .i64 q.r.what, .int .i64 q.r.a.op, str q.r.a.text, .int .i64 q.r.a.n, .int .i64 q.r.a.box.x0, .int .i64 q.r.a.box.y0, .int .i64 q.r.a.box.x1, .int .i64 q.r.a.box.y1, .slice a1 m1 p1, .int .i64 q.r.b.op, str q.r.b.text, .int .i64 q.r.b.n, .int .i64 q.r.b.box.x0, .int .i64 q.r.b.box.y0, .int .i64 q.r.b.box.x1, .int .i64 q.r.b.box.y1, .slice a2 m2 p2, .int .i64 q.r.value].toList) := Lib.hid (by
    have e : rC q = #[str q.r.name, .int .i64 q.r.prio, .int .i64 q.r.what, .int .i64 q.r.a.op, str q.r.a.text, .int .i64 q.r.a.n, .int .i64 q.r.a.box.x0, .int .i64 q.r.a.box.y0, .int .i64 q.r.a.box.x1, .int .i64 q.r.a.box.y1, .slice a1 m1 p1, .int .i64 q.r.b.op, str q.r.b.text, .int .i64 q.r.b.n, .int .i64 q.r.b.box.x0, .int .i64 q.r.b.box.y0, .int .i64 q.r.b.box.x1, .int .i64 q.r.b.box.y1, .slice a2 m2 p2, .int .i64 q.r.value].toList := by unfold rC cC; rw [hva, hvb]; rfl
    rw [← e]; exact hrg)
   have HCA : Hid (∀ V, Kp w V none → Calls Tryz.prog 32 #[.agg #[.int .i64 q.r.a.op, str q.r.a.text, .int .i64 q.r.a.n, .int .i64 q.r.a.box.x0, .int .i64 q.r.a.box.y0, .int .i64 q.r.a.box.x1, .int .i64 q.r.a.box.y1, .slice a1 m1 p1], .int .i64 3] V (CutIs 3 V)) := Lib.hid fun V hV => by
    have h := cutL_any 3 (by omega) q.r.a V _ hwa (htr.1.keep hV)
    rw [hva] at h
    exact h
   have HCB : Hid (∀ V, Kp w V none → Calls Tryz.prog 32 #[.agg #[.int .i64 q.r.b.op, str q.r.b.text, .int .i64 q.r.b.n, .int .i64 q.r.b.box.x0, .int .i64 q.r.b.box.y0, .int .i64 q.r.b.box.x1, .int .i64 q.r.b.box.y1, .slice a2 m2 p2], .int .i64 3] V (CutIs 3 V)) := Lib.hid fun V hV => by
    have h := cutL_any 3 (by omega) q.r.b V _ hwb (htr.2.keep hV)
    rw [hvb] at h
    exact h
   obtain ⟨nm, hnm⟩ : ∃ y, q.r.name.take 40 = y := ⟨_, rfl⟩
   have HNL : Hid (nm.length ≤ 40) := Lib.hid (by rw [← hnm, List.length_take]; omega)
   have htl : q.r.name.length ≤ 9223372036854775807 := hwn
   have hxs : (⟨q.r.name.toArray⟩ : ByteArray).extract 0 (min (q.r.name.length : Int) 40).toNat = ⟨nm.toArray⟩ := by
    rw [ext_take, ← hnm]
    rcases Nat.lt_or_ge 40 q.r.name.length with h | h
    ·rw [show (min (q.r.name.length : Int) 40).toNat = 40 by omega]
    ·rw [show (min (q.r.name.length : Int) 40).toNat = q.r.name.length by omega, List.take_length, List.take_of_length_le h]
   have hmi0 : (0 : Int) ≤ min (q.r.name.length : Int) 40 := by omega
   have hmi1 : min (q.r.name.length : Int) 40 ≤ (q.r.name.length : Int) := by omega
   have hcm : qs.length + 1 ≤ maxLen := by have := HQL.out; unfold maxLen; omega
   have hcb : (qs.length + 1) * 216 ≤ 140737488355328 := by have := HQL.out; omega
   have HB := Lib.hid (heap_alloc_new wr (.cells #[str nm, .int .i64 q.r.prio, .int .i64 q.r.what, .int .i64 q.r.a.op, str q.r.a.text, .int .i64 q.r.a.n, .int .i64 q.r.a.box.x0, .int .i64 q.r.a.box.y0, .int .i64 q.r.a.box.x1, .int .i64 q.r.a.box.y1, .slice a1 m1 p1, .int .i64 q.r.b.op, str q.r.b.text, .int .i64 q.r.b.n, .int .i64 q.r.b.box.x0, .int .i64 q.r.b.box.y0, .int .i64 q.r.b.box.x1, .int .i64 q.r.b.box.y1, .slice a2 m2 p2, .int .i64 q.r.value] 42))
   have HKB : Hid (Kp wr (wr.alloc (.cells #[str nm, .int .i64 q.r.prio, .int .i64 q.r.what, .int .i64 q.r.a.op, str q.r.a.text, .int .i64 q.r.a.n, .int .i64 q.r.a.box.x0, .int .i64 q.r.a.box.y0, .int .i64 q.r.a.box.x1, .int .i64 q.r.a.box.y1, .slice a1 m1 p1, .int .i64 q.r.b.op, str q.r.b.text, .int .i64 q.r.b.n, .int .i64 q.r.b.box.x0, .int .i64 q.r.b.box.y0, .int .i64 q.r.b.box.x1, .int .i64 q.r.b.box.y1, .slice a2 m2 p2, .int .i64 q.r.value] 42)) none) := Lib.hid ((Kp.refl _ none).alloc _)
   have hzB : (wr.alloc (.cells #[str nm, .int .i64 q.r.prio, .int .i64 q.r.what, .int .i64 q.r.a.op, str q.r.a.text, .int .i64 q.r.a.n, .int .i64 q.r.a.box.x0, .int .i64 q.r.a.box.y0, .int .i64 q.r.a.box.x1, .int .i64 q.r.a.box.y1, .slice a1 m1 p1, .int .i64 q.r.b.op, str q.r.b.text, .int .i64 q.r.b.n, .int .i64 q.r.b.box.x0, .int .i64 q.r.b.box.y0, .int .i64 q.r.b.box.x1, .int .i64 q.r.b.box.y1, .slice a2 m2 p2, .int .i64 q.r.value] 42)).heap.size = wr.heap.size + 1 := by simp
   obtain ⟨i0, hi, hz0', hz1', hz2⟩ := info_parts info42f
   subst hao
   clear hq hmem htr hwa hwb hwn hva hvb hrg hltp hnm
   go_upto_region 7 with (first | (refine wpList_load_mid (by rfl) 42 _ (by rfl) b (off + k * 20) (by rfl) #[str q.r.name, .int .i64 q.r.prio, .int .i64 q.r.what, .int .i64 q.r.a.op, str q.r.a.text, .int .i64 q.r.a.n, .int .i64 q.r.a.box.x0, .int .i64 q.r.a.box.y0, .int .i64 q.r.a.box.x1, .int .i64 q.r.a.box.y1, .slice a1 m1 p1, .int .i64 q.r.b.op, str q.r.b.text, .int .i64 q.r.b.n, .int .i64 q.r.b.box.x0, .int .i64 q.r.b.box.y0, .int .i64 q.r.b.box.x1, .int .i64 q.r.b.box.y1, .slice a2 m2 p2, .int .i64 q.r.value].toList _ HRG.out Tryz.underlying42 (by rfl) info42 ?_) | (refine wpList_store_new (by rfl) 42 _ _ (by rfl) #[.string ⟨#[]⟩, .int .i64 0, .int .i64 0, .int .i64 0, .string ⟨#[]⟩, .int .i64 0, .int .i64 0, .int .i64 0, .int .i64 0, .int .i64 0, .slice none 0 0, .int .i64 0, .string ⟨#[]⟩, .int .i64 0, .int .i64 0, .int .i64 0, .int .i64 0, .int .i64 0, .slice none 0 0, .int .i64 0] #[str q.r.name, .int .i64 q.r.prio, .int .i64 q.r.what, .int .i64 q.r.a.op, str q.r.a.text, .int .i64 q.r.a.n, .int .i64 q.r.a.box.x0, .int .i64 q.r.a.box.y0, .int .i64 q.r.a.box.x1, .int .i64 q.r.a.box.y1, .slice a1 m1 p1, .int .i64 q.r.b.op, str q.r.b.text, .int .i64 q.r.b.n, .int .i64 q.r.b.box.x0, .int .i64 q.r.b.box.y0, .int .i64 q.r.b.box.x1, .int .i64 q.r.b.box.y1, .slice a2 m2 p2, .int .i64 q.r.value] 42 (by rfl) (by rfl) rfl info42 (by rfl) (by simp [Value.oneCell']) ?_))
   generalize hW : wr.alloc (.cells #[str nm, .int .i64 q.r.prio, .int .i64 q.r.what, .int .i64 q.r.a.op, str q.r.a.text, .int .i64 q.r.a.n, .int .i64 q.r.a.box.x0, .int .i64 q.r.a.box.y0, .int .i64 q.r.a.box.x1, .int .i64 q.r.a.box.y1, .slice a1 m1 p1, .int .i64 q.r.b.op, str q.r.b.text, .int .i64 q.r.b.n, .int .i64 q.r.b.box.x0, .int .i64 q.r.b.box.y0, .int .i64 q.r.b.box.x1, .int .i64 q.r.b.box.y1, .slice a2 m2 p2, .int .i64 q.r.value] 42) = W2 at *
   clear hW hxs hmi0 hmi1
   have HKW : Hid (Kp w W2 none) := Lib.hid (HK.out.trans HKB.out)
   have HRA := Lib.hid (range_a HB.out).1
   have cA := HCA.out W2 HKW.out
   go_upto_region 8 with (first | (refine wpList_load_mid (by rfl) 40 _ (by rfl) wr.heap.size 3 (by rfl) #[.int .i64 q.r.a.op, str q.r.a.text, .int .i64 q.r.a.n, .int .i64 q.r.a.box.x0, .int .i64 q.r.a.box.y0, .int .i64 q.r.a.box.x1, .int .i64 q.r.a.box.y1, .slice a1 m1 p1].toList _ HRA.out Tryz.underlying40 (by rfl) info40s ?_) | (go_at_call 32; refine cA.mono ?_; clear cA; rintro e w3 ⟨ca, x1, y1, z1, rfl, hta, hsa, hza, k3⟩; have HT3 := Lib.hid hta; have HX3 := Lib.hid (And.intro hsa hza); have HK3 := Lib.hid k3; have HB3 := Lib.hid (res_kept HB.out k3 (by simp)); clear hta hsa hza k3) | (refine wpList_store_to (by rfl) 40 _ _ (by rfl) wr.heap.size 3 _ 42 HB3.out #[.int .i64 ca.op, str ca.text, .int .i64 ca.n, .int .i64 ca.box.x0, .int .i64 ca.box.y0, .int .i64 ca.box.x1, .int .i64 ca.box.y1, .slice x1 y1 z1] (by rfl) (by rfl) info40s (by show 3 + 8 ≤ 20; omega) (by simp [Value.oneCell']) _ (put_a ..) (fun w4 hU hkU => ?_); have HB4 := Lib.hid hU; have HK4 := Lib.hid hkU; clear hU hkU))
   have hz3 := HK3.out.size
   have hz4 := HK4.out.size
   have HKW4 : Hid (Kp w w4 none) := Lib.hid (Kp.of_own (HKW.out.trans HK3.out) HK4.out (by have := HK.out.size; omega))
   have HRB := Lib.hid (range_a HB4.out).2
   have cB := HCB.out w4 HKW4.out
   clear HRA HB3
   go_upto_region 9 with (first | (refine wpList_load_mid (by rfl) 40 _ (by rfl) wr.heap.size 11 (by rfl) #[.int .i64 q.r.b.op, str q.r.b.text, .int .i64 q.r.b.n, .int .i64 q.r.b.box.x0, .int .i64 q.r.b.box.y0, .int .i64 q.r.b.box.x1, .int .i64 q.r.b.box.y1, .slice a2 m2 p2].toList _ HRB.out Tryz.underlying40 (by rfl) info40s ?_) | (go_at_call 32; refine cB.mono ?_; clear cB; rintro e w5 ⟨cb, x2, y2, z2, rfl, htb, hsb, hzb, k5⟩; have HT5 := Lib.hid htb; have HX5 := Lib.hid (And.intro hsb hzb); have HK5 := Lib.hid k5; have HB5 := Lib.hid (res_kept HB4.out k5 (by simp)); clear htb hsb hzb k5) | (refine wpList_store_to (by rfl) 40 _ _ (by rfl) wr.heap.size 11 _ 42 HB5.out #[.int .i64 cb.op, str cb.text, .int .i64 cb.n, .int .i64 cb.box.x0, .int .i64 cb.box.y0, .int .i64 cb.box.x1, .int .i64 cb.box.y1, .slice x2 y2 z2] (by rfl) (by rfl) info40s (by show 11 + 8 ≤ 20; omega) (by simp [Value.oneCell']) _ (put_b ..) (fun w6 hU hkU => ?_); have HB6 := Lib.hid hU; have HK6 := Lib.hid hkU; clear hU hkU))
   have hz5 := HK5.out.size
   have hz6 := HK6.out.size
   have HKW6 : Hid (Kp w w6 none) := Lib.hid (Kp.of_own (HKW4.out.trans HK5.out) HK6.out (by have := HK.out.size; omega))
   have HRC := Lib.hid (range_blk HB6.out)
   have hkr := HK.out.size
   have HOW6 : Hid (w6.ownsRow w.heap.size 42 20 u3 qs.length (qs.flatMap rC)) := Lib.hid (by
    have hr : ∀ (V V' : World), Kp V V' (some wr.heap.size) → V.ownsRow w.heap.size 42 20 u3 qs.length (qs.flatMap rC) → V'.ownsRow w.heap.size 42 20 u3 qs.length (qs.flatMap rC) := fun V V' hk h => h.kept hk (by
     cases hq : u3.ownBlock with
     | none => exact .inl rfl
     | some r => exact .inr (by have := (HOW.out.lt r hq).2; intro e; injection e with e; omega))
    exact hr _ _ HK6.out (own_kp (hr _ _ HK4.out (own_kp HOW.out (HKB.out.trans HK3.out))) HK5.out))
   clear HB4 HRB HB5
   go_wp2_with (first | (refine wpList_load_mid (by rfl) 42 _ (by rfl) wr.heap.size 0 (by rfl) #[str nm, .int .i64 q.r.prio, .int .i64 q.r.what, .int .i64 ca.op, str ca.text, .int .i64 ca.n, .int .i64 ca.box.x0, .int .i64 ca.box.y0, .int .i64 ca.box.x1, .int .i64 ca.box.y1, .slice x1 y1 z1, .int .i64 cb.op, str cb.text, .int .i64 cb.n, .int .i64 cb.box.x0, .int .i64 cb.box.y0, .int .i64 cb.box.x1, .int .i64 cb.box.y1, .slice x2 y2 z2, .int .i64 q.r.value].toList _ HRC.out Tryz.underlying42 (by rfl) info42 ?_) | (at_builtin; go_must (refine wpList_append_lies _ (by rfl) _ _ _ (by rfl) w.heap.size 42 i0 _ 20 216 Tryz.underlying25 hi hz0' hz1' hz2 rfl (by omega) u3 qs.length (qs.flatMap rC) (by rfl) (own_kp HOW6.out ((Kp.refl _ none).alloc _)) ⟨w6.heap.size, 0, none⟩ 1 1 #[str nm, .int .i64 q.r.prio, .int .i64 q.r.what, .int .i64 ca.op, str ca.text, .int .i64 ca.n, .int .i64 ca.box.x0, .int .i64 ca.box.y0, .int .i64 ca.box.x1, .int .i64 ca.box.y1, .slice x1 y1 z1, .int .i64 cb.op, str cb.text, .int .i64 cb.n, .int .i64 cb.box.x0, .int .i64 cb.box.y0, .int .i64 cb.box.x1, .int .i64 cb.box.y1, .slice x2 y2 z2, .int .i64 q.r.value].toList (by rfl) (by rfl) (World.news_of_block (cs := #[str nm, .int .i64 q.r.prio, .int .i64 q.r.what, .int .i64 ca.op, str ca.text, .int .i64 ca.n, .int .i64 ca.box.x0, .int .i64 ca.box.y0, .int .i64 ca.box.x1, .int .i64 ca.box.y1, .slice x1 y1 z1, .int .i64 cb.op, str cb.text, .int .i64 cb.n, .int .i64 cb.box.x0, .int .i64 cb.box.y0, .int .i64 cb.box.x1, .int .i64 cb.box.y1, .slice x2 y2 z2, .int .i64 q.r.value]) (t := 42) (fr := (0, 0)) (heap_alloc_new w6 _)) (by simp [Value.oneCell']) (by omega) hcm hcb (by simp; omega) (w6.heap.size + 1) (by simp) ?_)))
   intro gg capg w7 hown7 hgrow7 hor7 hgl7
   have HOW7 : Hid (w7.ownsRow w.heap.size 42 20 (.slice (some ⟨gg, 0, none⟩) (qs.length + 1) capg) (qs ++ [(⟨⟨nm, q.r.prio, q.r.what, q.r.value, ca, cb⟩, .slice x1 y1 z1, .slice x2 y2 z2⟩ : RV)]).length ((qs ++ [(⟨⟨nm, q.r.prio, q.r.what, q.r.value, ca, cb⟩, .slice x1 y1 z1, .slice x2 y2 z2⟩ : RV)]).flatMap rC)) := Lib.hid (by rw [List.flatMap_append, List.length_append]; exact hown7)
   have hog : ∀ b, u3.ownBlock = some b → b < wr.heap.size := fun b hb => (HOW.out.lt b hb).2
   have hgw : ∀ b, b < w6.heap.size → u3.ownBlock ≠ some b → gg ≠ b := fun b hb hne2 e => by
    rcases hor7 with h | h
    ·exact hne2 (by rw [h, e])
    ·omega
   have HT7 : Hid (∀ y ∈ qs ++ [(⟨⟨nm, q.r.prio, q.r.what, q.r.value, ca, cb⟩, .slice x1 y1 z1, .slice x2 y2 z2⟩ : RV)], RTree (fun b => w.heap.size ≤ b ∧ (Value.slice (some ⟨gg, 0, none⟩) (qs.length + 1) capg).ownBlock ≠ some b) w7 y) := Lib.hid (by
    have hrow : ∀ {S : Nat → Prop} {c : Ru.Cond} {v : Value}, (∀ b, S b → u3.ownBlock ≠ some b) → TreeP S w6 c v → TreeP S w7 c v := fun hS h => (h.keep ((Kp.refl w6 none).alloc _)).row hgrow7 (fun r hr hs => hS r hs hr)
    intro p hp
    rcases List.mem_append.1 hp with hp | hp
    ·have h0 := HTR.out p hp
     have up : ∀ {c : Ru.Cond} {v : Value}, TreeP (fun b => w.heap.size ≤ b ∧ u3.ownBlock ≠ some b) wr c v → TreeP (fun b => w.heap.size ≤ b ∧ (Value.slice (some ⟨gg, 0, none⟩) (qs.length + 1) capg).ownBlock ≠ some b) w7 c v := fun h => by
      have h1 := h.mono (T := fun b => (w.heap.size ≤ b ∧ u3.ownBlock ≠ some b) ∧ b < wr.heap.size) (fun b hb h => ⟨h, hb⟩)
      have h2 := (((h1.keep (HKB.out.trans HK3.out)).row HK4.out (fun r hr hs => by injection hr with hr; omega)).keep HK5.out).row HK6.out (fun r hr hs => by injection hr with hr; omega)
      exact (hrow (fun b hb => hb.1.2) h2).mono fun b _ h => ⟨h.1.1, fun e => hgw b (by omega) h.1.2 (by injection e)⟩
     exact ⟨up h0.1, up h0.2⟩
    ·rw [List.mem_singleton] at hp
     subst hp
     constructor
     ·have h1 := HT3.out.mono (T := fun b => (W2.heap.size ≤ b ∧ u3.ownBlock ≠ some b) ∧ b < w3.heap.size) (fun b hb h => ⟨⟨h, fun e => by have := hog b e; omega⟩, hb⟩)
      have h2 := ((h1.row HK4.out (fun r hr hs => by injection hr with hr; omega)).keep HK5.out).row HK6.out (fun r hr hs => by injection hr with hr; omega)
      exact (hrow (fun b hb => hb.1.2) h2).mono fun b _ h => ⟨by omega, fun e => hgw b (by omega) h.1.2 (by injection e)⟩
     ·have h1 := HT5.out.mono (T := fun b => (w4.heap.size ≤ b ∧ u3.ownBlock ≠ some b) ∧ b < w5.heap.size) (fun b hb h => ⟨⟨h, fun e => by have := hog b e; omega⟩, hb⟩)
      have h2 := h1.row HK6.out (fun r hr hs => by injection hr with hr; omega)
      exact (hrow (fun b hb => hb.1.2) h2).mono fun b _ h => ⟨by omega, fun e => hgw b (by omega) h.1.2 (by injection e)⟩)
   have HF7 : Hid (∀ y ∈ qs ++ [(⟨⟨nm, q.r.prio, q.r.what, q.r.value, ca, cb⟩, .slice x1 y1 z1, .slice x2 y2 z2⟩ : RV)], Fit y.r) := Lib.hid (fun p hp => by
    rcases List.mem_append.1 hp with hp | hp
    ·exact HF.out p hp
    ·rw [List.mem_singleton] at hp
     subst hp
     exact ⟨by show nm.length ≤ _; have := HNL.out; omega, HX3.out.1, HX5.out.1, by show Ru.size ca ≤ _; have := HX3.out.2; simp [csz] at this; omega, by show Ru.size cb ≤ _; have := HX5.out.2; simp [csz] at this; omega⟩)
   have HK7 : Hid (Kp w w7 none) := Lib.hid (Kp.row (HKW6.out.alloc _) hgrow7 (fun r hr => by have := (HOW.out.lt r hr).1; omega))
   have HQL7 : Hid ((qs ++ [(⟨⟨nm, q.r.prio, q.r.what, q.r.value, ca, cb⟩, .slice x1 y1 z1, .slice x2 y2 z2⟩ : RV)]).length = k + 1) := Lib.hid (by rw [List.length_append, HQL.out]; rfl)
   clear hown7 hgrow7 hor7 hgw hog HRC HB6 HOW6 HT3 HT5
   generalize qs ++ [(⟨⟨nm, q.r.prio, q.r.what, q.r.value, ca, cb⟩, .slice x1 y1 z1, .slice x2 y2 z2⟩ : RV)] = qs2 at HOW7 HT7 HF7 HQL7
   go_wp2_with fail
   go_roundw
   case rel => exact ⟨k + 1, qs2, by omega, by omega, by go_num, HQL7, HOW7, HT7, HF7, HK7⟩
   case measure => simp [intOf]; omega
  ·by_cases q1 : k < n
   ·have h1 : (k : Int) < (n : Int) := by omega
    have h2 : ¬ (k : Int) < 4 := by omega
    clear q1 hlt
    obtain ⟨lo, lcap, hlv⟩ := own_slice HOW.out
    subst hlv
    have HLA := Lib.hid (own_lies (m := 20) (f := rC) (fun _ => rfl) HOW.out).2
    go_wp2_with fail
    go_ret
    exact ⟨qs, lo, lcap, rfl, HLA.out, fun p hp => ⟨(HTR.out p hp).1.tree, (HTR.out p hp).2.tree⟩, HF.out, by rw [HQL.out]; exact hk4, HK.out⟩
   ·have h1 : ¬ (k : Int) < (n : Int) := by omega
    clear q1 hlt
    obtain ⟨lo, lcap, hlv⟩ := own_slice HOW.out
    subst hlv
    have HLA := Lib.hid (own_lies (m := 20) (f := rC) (fun _ => rfl) HOW.out).2
    go_wp2_with fail
    go_ret
    exact ⟨qs, lo, lcap, rfl, HLA.out, fun p hp => ⟨(HTR.out p hp).1.tree, (HTR.out p hp).2.tree⟩, HF.out, by rw [HQL.out]; exact hk4, HK.out⟩
end Go.Proofs.YtnchipahdfbliaaGreatDoor

