/- The reference's Parse. Condition: none beyond what a machine holds. -/
import Derived.Test.YtnchipahdfbliaaGreatDoorRns
namespace Go.Proofs.YtnchipahdfbliaaGreatDoor
open Go.RowKit

set_option maxHeartbeats 16000000 in
set_option maxRecDepth 100000 in
theorem parseR_any (s : List UInt8) (w : World) : Calls Tryz.prog 20 #[str s] w (ParseIs (Ru.parse s) w) := by
 obtain ⟨res, hres⟩ : ∃ r, Ru.parse s = r := ⟨_, rfl⟩
 rw [hres]
 have hl0 : (0 : Int) ≤ (s.length : Int) := by omega
 by_cases hbig : 262144 < s.length
 ·have hb : (262144 : Int) < (s.length : Int) := by omega
  have hr2 : res = ([], 0, 2) := by rw [← hres]; unfold Ru.parse; rw [if_pos hbig]
  subst hr2
  clear hres hbig
  go_enter Tryz.func20, Tryz.ntmps20
  go_wp2_with fail
  go_ret3
  exact ⟨⟨_, rfl, rules_nil⟩, Kp.refl _ _⟩
 ·have hb : ¬ (262144 : Int) < (s.length : Int) := by omega
  have hsl : s.length ≤ 262144 := by omega
  have HS : Hid (res = Ru.parseL 1 [] (Ru.pieces 10 s)) := Lib.hid (by rw [← hres]; unfold Ru.parse; rw [if_neg hbig])
  clear hres hbig
  go_enter Tryz.func20, Tryz.ntmps20
  go_wp2_with fail
  go_loopw [5, 6, 7, 8] (fun lv f mm i wr => ∃ (k fr m : Nat) (qs : List RV), k ≤ s.length ∧ fr ≤ k ∧ m ≤ k ∧ i = .int .i64 (k : Int) ∧ f = .int .i64 (fr : Int) ∧ mm = .int .i64 (m : Int) ∧ Hid (qs.length = m) ∧ Hid (wr.ownsRow w.heap.size 42 20 lv qs.length (qs.flatMap rC)) ∧ Hid (∀ p ∈ qs, RTree (fun b => w.heap.size ≤ b ∧ lv.ownBlock ≠ some b) wr p) ∧ Hid (∀ p ∈ qs, Fit p.r) ∧ Hid (res = Ru.parseL ((m : Int) + 1) (qs.map (·.r)) (Ru.pieces 10 (s.drop fr))) ∧ Hid (∀ i, fr ≤ i → i < k → s[i]? ≠ some 10) ∧ Hid (Kp w wr none)) (fun _ _ _ i _ => s.length - (intOf i).toNat)
  case atStart => exact ⟨0, 0, 0, [], Nat.zero_le _, Nat.le_refl _, Nat.le_refl _, rfl, rfl, rfl, Lib.hid rfl, Lib.hid ⟨rfl, .inl ⟨rfl, rfl⟩⟩, Lib.hid (by simp), Lib.hid (by simp), HS, Lib.hid (fun i h1 h2 => by omega), Lib.hid (Kp.refl _ _)⟩
  case round =>
   obtain ⟨k, fr, m, qs, hk, hfk, hmk, rfl, rfl, rfl, hql, HOW, HT, HF, HM, HNO, HK⟩ := hrel
   have hk0 : (0 : Int) ≤ (k : Int) := by omega
   have hf0 : (0 : Int) ≤ (fr : Int) := by omega
   have hm0 : (0 : Int) ≤ (m : Int) := by omega
   by_cases hlt : k < s.length
   ·have hk1 : (k : Int) < (s.length : Int) := by omega
    obtain ⟨c, hc⟩ : ∃ c, s[k] = c := ⟨_, rfl⟩
    have hx : ∀ h', (⟨s.toArray⟩ : ByteArray)[k]'h' = c := fun h' => (show s.toArray[k]'_ = s[k] by simp).trans hc
    by_cases h10 : c.toNat = 10
    ·have e10 : ((c.toNat : Int) != 10) = false := by rw [h10]; rfl
     have HC : Hid (s[k]? = some 10) := Lib.hid (by rw [List.getElem?_eq_getElem hlt, hc]; congr 1; exact UInt8.toNat_inj.1 h10)
     obtain ⟨x, hxx⟩ : ∃ x, (s.take k).drop fr = x := ⟨_, rfl⟩
     have hxl : x.length ≤ 1000000000 := by rw [← hxx, List.length_drop, List.length_take]; omega
     have hxp : (⟨s.toArray⟩ : ByteArray).extract fr k = ⟨x.toArray⟩ := by rw [ext_mid, hxx]
     have hfs : (fr : Int) ≤ (k : Int) := by omega
     have HM2 : Hid (res = match Ru.line x with
      | none => ([], (m : Int) + 1, 4)
      | some q => Ru.parseL ((m : Int) + 1 + 1) (qs.map (·.r) ++ [q]) (Ru.pieces 10 (s.drop (k + 1)))) := Lib.hid (by
      rw [HM.out, Ru.pieces_drop 10 s fr k hfk HC.out HNO.out, hxx]
      cases hp : Ru.pieces 10 (s.drop (k + 1)) with
      | nil => exact absurd hp (Ru.pieces_ne _ _)
      | cons y t => rw [Ru.parseL] <;> rfl)
     have c2 := lineR_any x hxl wr
     clear hc h10 hxx
     cases hln : Ru.line x with
     | none =>
      rw [hln] at c2 HM2
      have c3 : Calls Tryz.prog 53 #[str x] wr fun e w' => (∃ (q : Ru.Rule) (a1 : Option Addr) (m1 p1 : Nat) (a2 : Option Addr) (m2 p2 : Nat), e = .returned (.tuple #[.agg #[str q.name, .int .i64 q.prio, .int .i64 q.what, .int .i64 q.a.op, str q.a.text, .int .i64 q.a.n, .int .i64 q.a.box.x0, .int .i64 q.a.box.y0, .int .i64 q.a.box.x1, .int .i64 q.a.box.y1, .slice a1 m1 p1, .int .i64 q.b.op, str q.b.text, .int .i64 q.b.n, .int .i64 q.b.box.x0, .int .i64 q.b.box.y0, .int .i64 q.b.box.x1, .int .i64 q.b.box.y1, .slice a2 m2 p2, .int .i64 q.value], .bool false])) ∧ Hid (Kp wr w' none) := c2.mono fun e w' ⟨q, a1, m1, p1, a2, m2, p2, h1, _, _, _, h5⟩ => ⟨⟨q, a1, m1, p1, a2, m2, p2, h1⟩, Lib.hid h5⟩
      clear c2 hln
      go_wp2_with (first | (go_at_call 53; refine c3.mono ?_; rintro e w2 ⟨⟨q, a1, m1, p1, a2, m2, p2, rfl⟩, HK2⟩) | (refine wpList_store_new (by rfl) 42 _ _ (by rfl) #[.string ⟨#[]⟩, .int .i64 0, .int .i64 0, .int .i64 0, .string ⟨#[]⟩, .int .i64 0, .int .i64 0, .int .i64 0, .int .i64 0, .int .i64 0, .slice none 0 0, .int .i64 0, .string ⟨#[]⟩, .int .i64 0, .int .i64 0, .int .i64 0, .int .i64 0, .int .i64 0, .slice none 0 0, .int .i64 0] #[str q.name, .int .i64 q.prio, .int .i64 q.what, .int .i64 q.a.op, str q.a.text, .int .i64 q.a.n, .int .i64 q.a.box.x0, .int .i64 q.a.box.y0, .int .i64 q.a.box.x1, .int .i64 q.a.box.y1, .slice a1 m1 p1, .int .i64 q.b.op, str q.b.text, .int .i64 q.b.n, .int .i64 q.b.box.x0, .int .i64 q.b.box.y0, .int .i64 q.b.box.x1, .int .i64 q.b.box.y1, .slice a2 m2 p2, .int .i64 q.value] 42 (by rfl) (by rfl) rfl info42 (by rfl) (by simp [Value.oneCell']) ?_; have HRG := Lib.hid (range_blk (heap_alloc_new w2 (.cells #[str q.name, .int .i64 q.prio, .int .i64 q.what, .int .i64 q.a.op, str q.a.text, .int .i64 q.a.n, .int .i64 q.a.box.x0, .int .i64 q.a.box.y0, .int .i64 q.a.box.x1, .int .i64 q.a.box.y1, .slice a1 m1 p1, .int .i64 q.b.op, str q.b.text, .int .i64 q.b.n, .int .i64 q.b.box.x0, .int .i64 q.b.box.y0, .int .i64 q.b.box.x1, .int .i64 q.b.box.y1, .slice a2 m2 p2, .int .i64 q.value] 42)))))
      go_ret3
      exact ⟨⟨_, by rw [HM2.out]; rfl, by rw [HM2.out]; exact rules_nil⟩, (HK.out.trans HK2.out).alloc _⟩
     | some q0 =>
      rw [hln] at c2 HM2
      have c3 : Calls Tryz.prog 53 #[str x] wr fun e w' => (∃ (q : Ru.Rule) (a1 : Option Addr) (m1 p1 : Nat) (a2 : Option Addr) (m2 p2 : Nat), e = .returned (.tuple #[.agg #[str q.name, .int .i64 q.prio, .int .i64 q.what, .int .i64 q.a.op, str q.a.text, .int .i64 q.a.n, .int .i64 q.a.box.x0, .int .i64 q.a.box.y0, .int .i64 q.a.box.x1, .int .i64 q.a.box.y1, .slice a1 m1 p1, .int .i64 q.b.op, str q.b.text, .int .i64 q.b.n, .int .i64 q.b.box.x0, .int .i64 q.b.box.y0, .int .i64 q.b.box.x1, .int .i64 q.b.box.y1, .slice a2 m2 p2, .int .i64 q.value], .bool true]) ∧ Hid (TreeB wr.heap.size w' q.a (.slice a1 m1 p1) ∧ TreeB wr.heap.size w' q.b (.slice a2 m2 p2) ∧ q0 = q)) ∧ Hid (Kp wr w' none) := c2.mono fun e w' ⟨q, a1, m1, p1, a2, m2, p2, h1, h2, h3, h4, h5⟩ => ⟨⟨q, a1, m1, p1, a2, m2, p2, h1, Lib.hid ⟨h2, h3, h4 q0 rfl⟩⟩, Lib.hid h5⟩
      have HQF := Lib.hid (line_fit hln hxl)
      obtain ⟨i0, hi, hz0', hz1', hz2⟩ := info_parts info42f
      have hcm : qs.length + 1 ≤ maxLen := by have := hql.out; unfold maxLen; omega
      have hcb : (qs.length + 1) * 216 ≤ 140737488355328 := by have := hql.out; omega
      have hbk := HK.out.size
      clear c2 hln
      go_wp2_with (first | (go_at_call 53; refine c3.mono ?_; rintro e w2 ⟨⟨q, a1, m1, p1, a2, m2, p2, rfl, ht2⟩, HK2⟩; have hz2' := HK2.out.size) | (refine wpList_store_new (by rfl) 42 _ _ (by rfl) #[.string ⟨#[]⟩, .int .i64 0, .int .i64 0, .int .i64 0, .string ⟨#[]⟩, .int .i64 0, .int .i64 0, .int .i64 0, .int .i64 0, .int .i64 0, .slice none 0 0, .int .i64 0, .string ⟨#[]⟩, .int .i64 0, .int .i64 0, .int .i64 0, .int .i64 0, .int .i64 0, .slice none 0 0, .int .i64 0] #[str q.name, .int .i64 q.prio, .int .i64 q.what, .int .i64 q.a.op, str q.a.text, .int .i64 q.a.n, .int .i64 q.a.box.x0, .int .i64 q.a.box.y0, .int .i64 q.a.box.x1, .int .i64 q.a.box.y1, .slice a1 m1 p1, .int .i64 q.b.op, str q.b.text, .int .i64 q.b.n, .int .i64 q.b.box.x0, .int .i64 q.b.box.y0, .int .i64 q.b.box.x1, .int .i64 q.b.box.y1, .slice a2 m2 p2, .int .i64 q.value] 42 (by rfl) (by rfl) rfl info42 (by rfl) (by simp [Value.oneCell']) ?_; have HRG := Lib.hid (range_blk (heap_alloc_new w2 (.cells #[str q.name, .int .i64 q.prio, .int .i64 q.what, .int .i64 q.a.op, str q.a.text, .int .i64 q.a.n, .int .i64 q.a.box.x0, .int .i64 q.a.box.y0, .int .i64 q.a.box.x1, .int .i64 q.a.box.y1, .slice a1 m1 p1, .int .i64 q.b.op, str q.b.text, .int .i64 q.b.n, .int .i64 q.b.box.x0, .int .i64 q.b.box.y0, .int .i64 q.b.box.x1, .int .i64 q.b.box.y1, .slice a2 m2 p2, .int .i64 q.value] 42)))) | (refine wpList_load_mid (by rfl) 42 _ (by rfl) w2.heap.size 0 (by rfl) #[str q.name, .int .i64 q.prio, .int .i64 q.what, .int .i64 q.a.op, str q.a.text, .int .i64 q.a.n, .int .i64 q.a.box.x0, .int .i64 q.a.box.y0, .int .i64 q.a.box.x1, .int .i64 q.a.box.y1, .slice a1 m1 p1, .int .i64 q.b.op, str q.b.text, .int .i64 q.b.n, .int .i64 q.b.box.x0, .int .i64 q.b.box.y0, .int .i64 q.b.box.x1, .int .i64 q.b.box.y1, .slice a2 m2 p2, .int .i64 q.value].toList _ HRG.out Tryz.underlying42 (by rfl) info42 ?_) | (at_builtin; go_must (refine wpList_append_lies _ (by rfl) _ _ _ (by rfl) w.heap.size 42 i0 _ 20 216 Tryz.underlying25 hi hz0' hz1' hz2 rfl (by omega) u5 qs.length (qs.flatMap rC) (by rfl) (((own_kp HOW.out HK2.out).alloc _).alloc _) ⟨w2.heap.size + 1, 0, none⟩ 1 1 #[str q.name, .int .i64 q.prio, .int .i64 q.what, .int .i64 q.a.op, str q.a.text, .int .i64 q.a.n, .int .i64 q.a.box.x0, .int .i64 q.a.box.y0, .int .i64 q.a.box.x1, .int .i64 q.a.box.y1, .slice a1 m1 p1, .int .i64 q.b.op, str q.b.text, .int .i64 q.b.n, .int .i64 q.b.box.x0, .int .i64 q.b.box.y0, .int .i64 q.b.box.x1, .int .i64 q.b.box.y1, .slice a2 m2 p2, .int .i64 q.value].toList (by rfl) (by rfl) (World.news_of_block (cs := #[str q.name, .int .i64 q.prio, .int .i64 q.what, .int .i64 q.a.op, str q.a.text, .int .i64 q.a.n, .int .i64 q.a.box.x0, .int .i64 q.a.box.y0, .int .i64 q.a.box.x1, .int .i64 q.a.box.y1, .slice a1 m1 p1, .int .i64 q.b.op, str q.b.text, .int .i64 q.b.n, .int .i64 q.b.box.x0, .int .i64 q.b.box.y0, .int .i64 q.b.box.x1, .int .i64 q.b.box.y1, .slice a2 m2 p2, .int .i64 q.value]) (t := 42) (fr := (0, 0)) (heap_alloc2_new w2 _ _)) (by simp [Value.oneCell']) (by omega) hcm hcb (by simp; omega) (w2.heap.size + 2) (by simp) ?_)))
      intro gg capg w5 hown5 hgrow5 hor5 hgl5
      obtain ⟨ht2a, ht2b, hqe⟩ := ht2.out
      subst hqe
      have HOW5 : Hid (w5.ownsRow w.heap.size 42 20 (.slice (some ⟨gg, 0, none⟩) (qs.length + 1) capg) (qs ++ [(⟨q0, .slice a1 m1 p1, .slice a2 m2 p2⟩ : RV)]).length ((qs ++ [(⟨q0, .slice a1 m1 p1, .slice a2 m2 p2⟩ : RV)]).flatMap rC)) := Lib.hid (by rw [List.flatMap_append, List.length_append]; exact hown5)
      have hog : ∀ b, u5.ownBlock = some b → b < wr.heap.size := fun b hb => (HOW.out.lt b hb).2
      have hgw : ∀ b, b < w2.heap.size → u5.ownBlock ≠ some b → gg ≠ b := fun b hb hne2 e => by
       rcases hor5 with h | h
       ·exact hne2 (by rw [h, e])
       ·omega
      have HT5 : Hid (∀ y ∈ qs ++ [(⟨q0, .slice a1 m1 p1, .slice a2 m2 p2⟩ : RV)], RTree (fun b => w.heap.size ≤ b ∧ (Value.slice (some ⟨gg, 0, none⟩) (qs.length + 1) capg).ownBlock ≠ some b) w5 y) := Lib.hid (by
       have hrow : ∀ {S : Nat → Prop} {c : Ru.Cond} {v : Value}, (∀ b, S b → u5.ownBlock ≠ some b) → TreeP S w2 c v → TreeP S w5 c v := fun hS h => ((h.keep ((Kp.refl w2 none).alloc _)).keep ((Kp.refl _ none).alloc _)).row hgrow5 (fun r hr hs => hS r hs hr)
       intro p hp
       rcases List.mem_append.1 hp with hp | hp
       ·have h0 := HT.out p hp
        have up : ∀ {c : Ru.Cond} {v : Value}, TreeP (fun b => w.heap.size ≤ b ∧ u5.ownBlock ≠ some b) wr c v → TreeP (fun b => w.heap.size ≤ b ∧ (Value.slice (some ⟨gg, 0, none⟩) (qs.length + 1) capg).ownBlock ≠ some b) w5 c v := fun h => by
         have h2 := (h.keep HK2.out).mono (T := fun b => (w.heap.size ≤ b ∧ u5.ownBlock ≠ some b) ∧ b < w2.heap.size) (fun b hb h => ⟨h, hb⟩)
         exact (hrow (fun b hb => hb.1.2) h2).mono fun b _ h => ⟨h.1.1, fun e => hgw b h.2 h.1.2 (by injection e)⟩
        exact ⟨up h0.1, up h0.2⟩
       ·rw [List.mem_singleton] at hp
        subst hp
        have up : ∀ {c : Ru.Cond} {v : Value}, TreeB wr.heap.size w2 c v → TreeP (fun b => w.heap.size ≤ b ∧ (Value.slice (some ⟨gg, 0, none⟩) (qs.length + 1) capg).ownBlock ≠ some b) w5 c v := fun h => by
         have h2 := h.mono (T := fun b => (wr.heap.size ≤ b ∧ u5.ownBlock ≠ some b) ∧ b < w2.heap.size) (fun b hb h => ⟨⟨h, fun e => by have := hog b e; omega⟩, hb⟩)
         exact (hrow (fun b hb => hb.1.2) h2).mono fun b _ h => ⟨by omega, fun e => hgw b h.2 h.1.2 (by injection e)⟩
        exact ⟨up ht2a, up ht2b⟩)
      have HF5 : Hid (∀ y ∈ qs ++ [(⟨q0, .slice a1 m1 p1, .slice a2 m2 p2⟩ : RV)], Fit y.r) := Lib.hid (fun p hp => by
       rcases List.mem_append.1 hp with hp | hp
       ·exact HF.out p hp
       ·rw [List.mem_singleton] at hp; subst hp; exact HQF.out)
      have HK5 : Hid (Kp w w5 none) := Lib.hid (Kp.row (((HK.out.trans HK2.out).alloc _).alloc _) hgrow5 (fun r hr => by have := (HOW.out.lt r hr).1; omega))
      have HM5 : Hid (res = Ru.parseL (((m + 1 : Nat) : Int) + 1) ((qs ++ [(⟨q0, .slice a1 m1 p1, .slice a2 m2 p2⟩ : RV)]).map (·.r)) (Ru.pieces 10 (s.drop (k + 1)))) := Lib.hid (by rw [HM2.out, List.map_append]; rfl)
      have hql2 : Hid ((qs ++ [(⟨q0, .slice a1 m1 p1, .slice a2 m2 p2⟩ : RV)]).length = m + 1) := Lib.hid (by rw [List.length_append, hql.out]; rfl)
      clear hown5 hgrow5 hor5 hgw hog HRG ht2a ht2b ht2
      generalize qs ++ [(⟨q0, .slice a1 m1 p1, .slice a2 m2 p2⟩ : RV)] = qs2 at HOW5 HT5 HF5 HM5 hql2
      go_wp2_with fail
      go_roundw
      case rel => exact ⟨k + 1, k + 1, m + 1, qs2, hlt, Nat.le_refl _, by omega, by go_num, by go_num, by go_num, hql2, HOW5, HT5, HF5, HM5, Lib.hid (fun i h1 h2 => by omega), HK5⟩
      case measure => simp [intOf]; omega
    ·have e10 : ((c.toNat : Int) != 10) = true := by simp; omega
     have HNO2 : Hid (∀ i, fr ≤ i → i < k + 1 → s[i]? ≠ some 10) := Lib.hid fun i h1 h2 => by
      rcases Nat.lt_or_ge i k with h | h
      ·exact HNO.out i h1 h
      ·obtain rfl : i = k := by omega
       rw [List.getElem?_eq_getElem hlt, hc]
       intro e; injection e with e; exact h10 (by rw [e]; rfl)
     clear hc h10
     go_wp2_with fail
     go_roundw
     case rel => exact ⟨k + 1, fr, m, qs, hlt, by omega, by omega, by go_num, rfl, rfl, hql, HOW, HT, HF, HM, HNO2, HK⟩
     case measure => simp [intOf]; omega
   ·obtain rfl : k = s.length := by omega
    have HM2 : Hid (res = if s.drop fr ≠ [] then ([], (m : Int) + 1, 4) else if Ru.check (qs.map (·.r)) = 0 then (qs.map (·.r), 0, 0) else ([], 0, Ru.check (qs.map (·.r)))) := Lib.hid (by rw [HM.out, Ru.pieces_last 10 s fr HNO.out]; rfl)
    by_cases hend : fr < s.length
    ·have hfi : (fr : Int) < (s.length : Int) := by omega
     have HM3 : Hid (res = ([], (m : Int) + 1, 4)) := Lib.hid (by rw [HM2.out, if_pos]; intro h; have := congrArg List.length h; rw [List.length_drop] at this; simp at this; omega)
     go_wp2_with fail
     go_ret3
     exact ⟨⟨_, by rw [HM3.out]; rfl, by rw [HM3.out]; exact rules_nil⟩, HK.out⟩
    ·have hfi : ¬ (fr : Int) < (s.length : Int) := by omega
     have HM3 : Hid (res = if Ru.check (qs.map (·.r)) = 0 then (qs.map (·.r), 0, 0) else ([], 0, Ru.check (qs.map (·.r)))) := Lib.hid (by rw [HM2.out, if_neg]; rw [List.drop_of_length_le (by omega)]; simp)
     obtain ⟨ao, cap, hlv⟩ := own_slice HOW.out
     subst hlv
     have HLA := Lib.hid (own_lies (m := 20) (f := rC) (fun _ => rfl) HOW.out).2
     have hck := checkR_any qs ao cap qs.length wr rfl HLA.out (fun p hp => ⟨(HT.out p hp).1.tree, (HT.out p hp).2.tree⟩) HF.out
     obtain ⟨ck, hckk⟩ : ∃ c, Ru.check (qs.map (·.r)) = c := ⟨_, rfl⟩
     rw [hckk] at hck HM3
     clear hckk
     by_cases hz : ck = 0
     ·have hzb : (ck != 0) = false := by rw [hz]; rfl
      have HM4 : Hid (res = (qs.map (·.r), 0, 0)) := Lib.hid (by rw [HM3.out, if_pos hz])
      clear hz
      go_wp2_with fail
      refine hck.mono ?_
      rintro e w2 ⟨rfl, hk2⟩
      have HK2 := Lib.hid hk2
      have hIS : Rules w2 (.slice ao qs.length cap) (qs.map (·.r)) := ⟨qs, rfl, (HLA.out.keep HK2.out).list, fun p hp => ⟨((HT.out p hp).1.tree).keep HK2.out, ((HT.out p hp).2.tree).keep HK2.out⟩⟩
      go_wp2_with fail
      go_ret3
      exact ⟨⟨_, by rw [HM4.out]; rfl, by rw [HM4.out]; exact hIS⟩, HK.out.trans HK2.out⟩
     ·have hzb : (ck != 0) = true := by simpa using hz
      have HM4 : Hid (res = ([], 0, ck)) := Lib.hid (by rw [HM3.out, if_neg hz])
      clear hz
      go_wp2_with fail
      refine hck.mono ?_
      rintro e w2 ⟨rfl, hk2⟩
      have HK2 := Lib.hid hk2
      go_wp2_with fail
      go_ret3
      exact ⟨⟨_, by rw [HM4.out]; rfl, by rw [HM4.out]; exact rules_nil⟩, HK.out.trans HK2.out⟩
end Go.Proofs.YtnchipahdfbliaaGreatDoor
