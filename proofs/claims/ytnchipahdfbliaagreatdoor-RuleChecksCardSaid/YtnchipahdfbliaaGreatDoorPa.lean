/- The program's Check at any number of rules, and its Parse. Conditions: what a machine holds. -/
import Derived.Test.YtnchipahdfbliaaGreatDoorLy
import Derived.Test.YtnchipahdfbliaaGreatDoorRuA
namespace Go.Proofs.YtnchipahdfbliaaGreatDoor
open Go.RowKit

/-- Check at any rules. -/
theorem check_any (ps : List RV) (ao : Option Addr) (cap : Nat) (w : World) (he : Env w) (hl : LiesAt 20 rC w ao cap ps) (ht : ∀ p ∈ ps, p.Tree w) (hf : ∀ p ∈ ps, Fit p.r) :
  Calls Tryz.prog 13 #[.slice ao ps.length cap] w fun e w' => e = .returned (.int .i64 (Ru.check (ps.map (·.r)))) ∧ Kp w w' none := by
 by_cases hm : ps.length ≤ 24
 ·have e0 : Ru.check (ps.map (·.r)) = Ru.checkL [] (ps.map (·.r)) := by unfold Ru.check; rw [if_neg (by simp; omega)]
  rw [e0]; exact check_walk ps ao cap w he hl ht hf hm
 ·have e0 : Ru.check (ps.map (·.r)) = 2 := by unfold Ru.check; rw [if_pos (by simp; omega)]
  have hm1 : (24 : Int) < (ps.length : Int) := by omega
  rw [e0]
  clear he hl ht hf e0 hm
  go_enter Tryz.func13, Tryz.ntmps13
  go_wp2_with fail
  go_ret
  exact ⟨rfl, Kp.refl _ _⟩
theorem lim_short (c : Ru.Cond) : Ru.Lim c → Ru.size c ≤ 1000000000000 → Short c := by
 refine Ru.Cond.ind (P := fun c => Ru.Lim c → Ru.size c ≤ 1000000000000 → Short c) (fun op t n b l ih hl hs => ?_) c
 cases hl with
 | mk _ _ _ _ _ h1 h2 =>
  rw [Ru.size_mk] at hs
  have hlen : ∀ l : List Ru.Cond, l.length ≤ Ru.sizes l := by
   intro l
   induction l with
   | nil => simp
   | cons c l ih => have := Ru.size_pos c; simp [Ru.sizes]; omega
  refine .mk _ _ _ _ _ h1 (by have := hlen l; omega) (fun d hd => ih d hd (h2 d hd) (by have := Ru.size_le hd; omega))
theorem line_fit {s : List UInt8} {q : Ru.Rule} (h : Ru.line s = some q) (hs : s.length ≤ 1000000000) : Fit q := by
 unfold Ru.line at h
 have hn := piece_num 32 s
 obtain ⟨h1, h2, h3, h4, h5⟩ := Ru.lineW_fits h (fun x hx => Nat.le_trans (piece_len 32 s x hx) hs)
 exact ⟨h1, lim_short _ h2 (by omega), lim_short _ h3 (by omega), by omega, by omega⟩
theorem rules_nil {w : World} : Rules w (.slice none 0 0) [] := ⟨[], rfl, .inl ⟨_, _, rfl, rfl⟩, by simp⟩
/-- What Parse returns. -/
def ParseIs (x : List Ru.Rule × Int × Int) (w : World) (e : Ending) (w' : World) : Prop := (∃ v, e = .returned (.tuple #[v, .int .i64 x.2.1, .int .i64 x.2.2]) ∧ Rules w' v x.1) ∧ Kp w w' none
theorem info42f : (Tryz.prog.info? 42).map (fun i => (i.zero, i.size, i.bytes)) = some (some (.agg rZ), 20, 216) := by kernel_rfl
/-- Trees of rules in blocks that meet S. -/
def RTree (S : Nat → Prop) (w : World) (p : RV) : Prop := TreeP S w p.r.a p.a ∧ TreeP S w p.r.b p.b
theorem parseL_step {n : Int} {acc : List Ru.Rule} {ps : List Ru.Bytes} {k : Nat} (h : k + 1 < ps.length) : Ru.parseL n acc (ps.drop k) = match Ru.line ps[k] with
  | none => ([], n, 4)
  | some q => Ru.parseL (n + 1) (acc ++ [q]) (ps.drop (k + 1)) := by
 rw [List.drop_eq_getElem_cons (by omega), List.drop_eq_getElem_cons h, Ru.parseL]
 rfl
theorem parseL_end {n : Int} {acc : List Ru.Rule} {ps : List Ru.Bytes} {k : Nat} (h : k + 1 = ps.length) : Ru.parseL n acc (ps.drop k) = if ps[k] ≠ [] then ([], n, 4) else if Ru.check acc = 0 then (acc, 0, 0) else ([], 0, Ru.check acc) := by
 rw [List.drop_eq_getElem_cons (by omega), List.drop_eq_nil_of_le (by omega), Ru.parseL]
theorem parse_big (s : List UInt8) (w : World) (hbig : 262144 < s.length) : Calls Tryz.prog 19 #[str s] w (ParseIs ([], 0, 2) w) := by
 have hb : (262144 : Int) < (s.length : Int) := by omega
 clear hbig
 go_enter Tryz.func19, Tryz.ntmps19
 go_wp2_with fail
 go_ret3
 exact ⟨⟨_, rfl, rules_nil⟩, Kp.refl _ _⟩
set_option maxHeartbeats 8000000 in
set_option maxRecDepth 100000 in
theorem parse_any (s : List UInt8) (w : World) (he : Env w) : Calls Tryz.prog 19 #[str s] w (ParseIs (Ru.parse s) w) := by
 by_cases hbig : 262144 < s.length
 ·rw [show Ru.parse s = ([], 0, 2) by unfold Ru.parse; rw [if_pos hbig]]; exact parse_big s w hbig
 obtain ⟨ps, hps⟩ : ∃ ps, Ru.pieces 10 s = ps := ⟨_, rfl⟩
 have hs9 : s.length ≤ 1000000000 := by omega
 have hlen : ∀ p ∈ ps, p.length ≤ 1000000000 := fun p hp => by have := piece_len 10 s p (by rw [hps]; exact hp); omega
 have hnum := piece_num 10 s
 have hpne := Ru.pieces_ne 10 s
 have c1 := split_any 10 s hs9 w he
 rw [hps] at c1 hnum hpne
 have e0 : Ru.parse s = Ru.parseL 1 [] ps := by unfold Ru.parse; rw [if_neg hbig, hps]
 obtain ⟨res, hres⟩ : ∃ res, Ru.parse s = res := ⟨_, rfl⟩
 rw [hres] at e0 ⊢
 have E0 := Lib.hid e0
 have HE := Lib.hid he
 have HL := Lib.hid hlen
 have hl0 := strs_list (w := w) ps 9
 obtain ⟨W0, hW0⟩ : ∃ W, w.alloc (.cells (ps.map str).toArray 9) = W := ⟨_, rfl⟩
 have hK0 : Kp w W0 none := by rw [← hW0]; exact (Kp.refl _ _).alloc _
 have hz0 : W0.heap.size = w.heap.size + 1 := by rw [← hW0]; simp
 rw [hW0] at c1 hl0
 have hx : LiesAt 1 strVal W0 (some ⟨w.heap.size, 0, none⟩) ps.length ps := by
  obtain ⟨ao, cap, e, h⟩ := hl0.form
  injection e with e1 _ e2
  subst e1; subst e2
  exact h
 have HX := Lib.hid hx
 have HK0 := Lib.hid hK0
 obtain ⟨last, hlast⟩ : ∃ l, ps.length = l + 1 := ⟨ps.length - 1, by have := List.length_pos_iff.2 hpne; omega⟩
 have hbnd : last ≤ 262144 := by omega
 have hb1 : ¬ (262144 : Int) < (s.length : Int) := by omega
 rw [hlast] at c1
 have hsub : (((last + 1 : Nat) : Int) - 1) = (last : Int) := by omega
 have hl9 : (0 : Int) ≤ (last : Int) := by omega
 have hl8 : (last : Int) ≤ 9223372036854775807 := by omega
 clear he hlen hl0 hW0 hK0 hx hps hnum hpne hres e0 hbig
 go_enter Tryz.func19, Tryz.ntmps19
 go_wp2_with (go_at_call 51; refine c1.mono ?_; rintro e w1 ⟨rfl, rfl⟩)
 go_loopw [25, 5] (fun i lv wr => ∃ (k : Nat) (qs : List RV), k ≤ last ∧ i = .int .i64 (k : Int) ∧ qs.length = k ∧ wr.ownsRow (w.heap.size + 1) 42 20 lv qs.length (qs.flatMap rC) ∧ Hid (∀ p ∈ qs, RTree (fun b => w.heap.size + 1 ≤ b ∧ lv.ownBlock ≠ some b) wr p) ∧ Hid (∀ p ∈ qs, Fit p.r) ∧ Hid (res = Ru.parseL (k + 1) (qs.map (·.r)) (ps.drop k)) ∧ Hid (Kp w1 wr none)) (fun i _ _ => last - (intOf i).toNat)
 case atStart => exact ⟨0, [], Nat.zero_le _, rfl, rfl, ⟨rfl, .inl ⟨rfl, rfl⟩⟩, Lib.hid (by simp), Lib.hid (by simp), Lib.hid E0.out, Lib.hid (Kp.refl _ _)⟩
 case round =>
  obtain ⟨k, qs, hk, rfl, hql, hown, HT, HF, HM, HK⟩ := hrel
  have HOW := Lib.hid hown
  clear hown
  have hk0 : (0 : Int) ≤ (k : Int) := by omega
  have hbk := HK.out.size
  obtain ⟨b, off, hao, hb, hcap, hcell⟩ := LiesAt.str (HX.out.keep HK.out) k (by omega)
  injection hao with hao
  injection hao with e1 e2
  subst e1; subst e2
  have hc := hcell k (by omega)
  rw [Nat.zero_add] at hc
  clear hcell
  obtain ⟨x, hxk⟩ : ∃ x, ps[k]'(by omega) = x := ⟨_, rfl⟩
  rw [hxk] at hc
  have HXK := Lib.hid hxk
  have hxl := HL.out (ps[k]'(by omega)) (List.getElem_mem _)
  rw [hxk] at hxl
  have HXL := Lib.hid hxl
  clear hxk hxl
  by_cases hlt : k < last
  ·have hk1 : (k : Int) < (last : Int) := by omega
   have c2 := line_any x wr (HE.out.kp0 (HK0.out.trans HK.out)) HXL.out
   have HM2 : Hid (res = match Ru.line x with
    | none => ([], ((k + 1 : Nat) : Int), 4)
    | some q => Ru.parseL ((k + 1 : Nat) + 1) (qs.map (·.r) ++ [q]) (ps.drop (k + 1))) := Lib.hid (by rw [HM.out, parseL_step (by omega), HXK.out]; rfl)
   cases hln : Ru.line x with
   | none =>
    rw [hln] at c2 HM2
    have c3 : Calls Tryz.prog 52 #[str x] wr fun e w' => (∃ (q : Ru.Rule) (a1 : Option Addr) (m1 p1 : Nat) (a2 : Option Addr) (m2 p2 : Nat), e = .returned (.tuple #[.agg #[str q.name, .int .i64 q.prio, .int .i64 q.what, .int .i64 q.a.op, str q.a.text, .int .i64 q.a.n, .int .i64 q.a.box.x0, .int .i64 q.a.box.y0, .int .i64 q.a.box.x1, .int .i64 q.a.box.y1, .slice a1 m1 p1, .int .i64 q.b.op, str q.b.text, .int .i64 q.b.n, .int .i64 q.b.box.x0, .int .i64 q.b.box.y0, .int .i64 q.b.box.x1, .int .i64 q.b.box.y1, .slice a2 m2 p2, .int .i64 q.value], .bool false])) ∧ Kp wr w' none := c2
    clear c2 hln
    go_wp2_with (first | (go_at_call 52; refine c3.mono ?_; rintro e w2 ⟨⟨q, a1, m1, p1, a2, m2, p2, rfl⟩, hk2⟩) | (refine wpList_store_new (by rfl) 42 _ _ (by rfl) #[.string ⟨#[]⟩, .int .i64 0, .int .i64 0, .int .i64 0, .string ⟨#[]⟩, .int .i64 0, .int .i64 0, .int .i64 0, .int .i64 0, .int .i64 0, .slice none 0 0, .int .i64 0, .string ⟨#[]⟩, .int .i64 0, .int .i64 0, .int .i64 0, .int .i64 0, .int .i64 0, .slice none 0 0, .int .i64 0] #[str q.name, .int .i64 q.prio, .int .i64 q.what, .int .i64 q.a.op, str q.a.text, .int .i64 q.a.n, .int .i64 q.a.box.x0, .int .i64 q.a.box.y0, .int .i64 q.a.box.x1, .int .i64 q.a.box.y1, .slice a1 m1 p1, .int .i64 q.b.op, str q.b.text, .int .i64 q.b.n, .int .i64 q.b.box.x0, .int .i64 q.b.box.y0, .int .i64 q.b.box.x1, .int .i64 q.b.box.y1, .slice a2 m2 p2, .int .i64 q.value] 42 (by rfl) (by rfl) rfl info42 (by rfl) (by simp [Value.oneCell']) ?_; have HRG := Lib.hid (range_blk (heap_alloc_new w2 (.cells #[str q.name, .int .i64 q.prio, .int .i64 q.what, .int .i64 q.a.op, str q.a.text, .int .i64 q.a.n, .int .i64 q.a.box.x0, .int .i64 q.a.box.y0, .int .i64 q.a.box.x1, .int .i64 q.a.box.y1, .slice a1 m1 p1, .int .i64 q.b.op, str q.b.text, .int .i64 q.b.n, .int .i64 q.b.box.x0, .int .i64 q.b.box.y0, .int .i64 q.b.box.x1, .int .i64 q.b.box.y1, .slice a2 m2 p2, .int .i64 q.value] 42)))))
    go_ret3
    exact ⟨⟨_, by rw [HM2.out]; rfl, by rw [HM2.out]; exact rules_nil⟩, ((HK0.out.trans HK.out).trans hk2).alloc _⟩
   | some q =>
    rw [hln] at c2 HM2
    have c3 : Calls Tryz.prog 52 #[str x] wr fun e w' => (∃ (a1 : Option Addr) (m1 p1 : Nat) (a2 : Option Addr) (m2 p2 : Nat), e = .returned (.tuple #[.agg #[str q.name, .int .i64 q.prio, .int .i64 q.what, .int .i64 q.a.op, str q.a.text, .int .i64 q.a.n, .int .i64 q.a.box.x0, .int .i64 q.a.box.y0, .int .i64 q.a.box.x1, .int .i64 q.a.box.y1, .slice a1 m1 p1, .int .i64 q.b.op, str q.b.text, .int .i64 q.b.n, .int .i64 q.b.box.x0, .int .i64 q.b.box.y0, .int .i64 q.b.box.x1, .int .i64 q.b.box.y1, .slice a2 m2 p2, .int .i64 q.value], .bool true]) ∧ Hid (TreeB wr.heap.size w' q.a (.slice a1 m1 p1) ∧ TreeB wr.heap.size w' q.b (.slice a2 m2 p2))) ∧ Hid (Kp wr w' none) := c2
    have HQF := Lib.hid (line_fit hln HXL.out)
    obtain ⟨i0, hi, hz0', hz1', hz2⟩ := info_parts info42f
    have hcm : qs.length + 1 ≤ maxLen := by unfold maxLen; omega
    have hcb : (qs.length + 1) * 216 ≤ 140737488355328 := by omega
    clear c2 hln
    go_wp2_with (first | (go_at_call 52; refine c3.mono ?_; rintro e w2 ⟨⟨a1, m1, p1, a2, m2, p2, rfl, ht2⟩, hk2⟩; have hz2' := hk2.out.size) | (refine wpList_store_new (by rfl) 42 _ _ (by rfl) #[.string ⟨#[]⟩, .int .i64 0, .int .i64 0, .int .i64 0, .string ⟨#[]⟩, .int .i64 0, .int .i64 0, .int .i64 0, .int .i64 0, .int .i64 0, .slice none 0 0, .int .i64 0, .string ⟨#[]⟩, .int .i64 0, .int .i64 0, .int .i64 0, .int .i64 0, .int .i64 0, .slice none 0 0, .int .i64 0] #[str q.name, .int .i64 q.prio, .int .i64 q.what, .int .i64 q.a.op, str q.a.text, .int .i64 q.a.n, .int .i64 q.a.box.x0, .int .i64 q.a.box.y0, .int .i64 q.a.box.x1, .int .i64 q.a.box.y1, .slice a1 m1 p1, .int .i64 q.b.op, str q.b.text, .int .i64 q.b.n, .int .i64 q.b.box.x0, .int .i64 q.b.box.y0, .int .i64 q.b.box.x1, .int .i64 q.b.box.y1, .slice a2 m2 p2, .int .i64 q.value] 42 (by rfl) (by rfl) rfl info42 (by rfl) (by simp [Value.oneCell']) ?_; have HRG := Lib.hid (range_blk (heap_alloc_new w2 (.cells #[str q.name, .int .i64 q.prio, .int .i64 q.what, .int .i64 q.a.op, str q.a.text, .int .i64 q.a.n, .int .i64 q.a.box.x0, .int .i64 q.a.box.y0, .int .i64 q.a.box.x1, .int .i64 q.a.box.y1, .slice a1 m1 p1, .int .i64 q.b.op, str q.b.text, .int .i64 q.b.n, .int .i64 q.b.box.x0, .int .i64 q.b.box.y0, .int .i64 q.b.box.x1, .int .i64 q.b.box.y1, .slice a2 m2 p2, .int .i64 q.value] 42)))) | (refine wpList_load_mid (by rfl) 42 _ (by rfl) w2.heap.size 0 (by rfl) #[str q.name, .int .i64 q.prio, .int .i64 q.what, .int .i64 q.a.op, str q.a.text, .int .i64 q.a.n, .int .i64 q.a.box.x0, .int .i64 q.a.box.y0, .int .i64 q.a.box.x1, .int .i64 q.a.box.y1, .slice a1 m1 p1, .int .i64 q.b.op, str q.b.text, .int .i64 q.b.n, .int .i64 q.b.box.x0, .int .i64 q.b.box.y0, .int .i64 q.b.box.x1, .int .i64 q.b.box.y1, .slice a2 m2 p2, .int .i64 q.value].toList _ HRG.out Tryz.underlying42 (by rfl) info42 ?_) | (at_builtin; go_must (refine wpList_append_lies _ (by rfl) _ _ _ (by rfl) (w.heap.size + 1) 42 i0 _ 20 216 Tryz.underlying25 hi hz0' hz1' hz2 rfl (by omega) u5 qs.length (qs.flatMap rC) (by rfl) (((own_kp HOW.out hk2.out).alloc _).alloc _) ⟨w2.heap.size + 1, 0, none⟩ 1 1 #[str q.name, .int .i64 q.prio, .int .i64 q.what, .int .i64 q.a.op, str q.a.text, .int .i64 q.a.n, .int .i64 q.a.box.x0, .int .i64 q.a.box.y0, .int .i64 q.a.box.x1, .int .i64 q.a.box.y1, .slice a1 m1 p1, .int .i64 q.b.op, str q.b.text, .int .i64 q.b.n, .int .i64 q.b.box.x0, .int .i64 q.b.box.y0, .int .i64 q.b.box.x1, .int .i64 q.b.box.y1, .slice a2 m2 p2, .int .i64 q.value].toList (by rfl) (by rfl) (World.news_of_block (cs := #[str q.name, .int .i64 q.prio, .int .i64 q.what, .int .i64 q.a.op, str q.a.text, .int .i64 q.a.n, .int .i64 q.a.box.x0, .int .i64 q.a.box.y0, .int .i64 q.a.box.x1, .int .i64 q.a.box.y1, .slice a1 m1 p1, .int .i64 q.b.op, str q.b.text, .int .i64 q.b.n, .int .i64 q.b.box.x0, .int .i64 q.b.box.y0, .int .i64 q.b.box.x1, .int .i64 q.b.box.y1, .slice a2 m2 p2, .int .i64 q.value]) (t := 42) (fr := (0, 0)) (heap_alloc2_new w2 _ _)) (by simp [Value.oneCell']) (by omega) hcm hcb (by simp; omega) (w2.heap.size + 2) (by simp) ?_)))
    intro gg capg w5 hown5 hgrow5 hor5 hgl5
    have HOW5 : Hid (w5.ownsRow (w.heap.size + 1) 42 20 (.slice (some ⟨gg, 0, none⟩) (k + 1) capg) (qs ++ [(⟨q, .slice a1 m1 p1, .slice a2 m2 p2⟩ : RV)]).length ((qs ++ [(⟨q, .slice a1 m1 p1, .slice a2 m2 p2⟩ : RV)]).flatMap rC)) := Lib.hid (by rw [List.flatMap_append, List.length_append, hql]; exact hown5)
    have hog : ∀ b, u5.ownBlock = some b → b < wr.heap.size := fun b hb => (HOW.out.lt b hb).2
    have hgw : ∀ b, b < w2.heap.size → u5.ownBlock ≠ some b → gg ≠ b := fun b hb hne2 e => by
     rcases hor5 with h | h
     ·exact hne2 (by rw [h, e])
     ·omega
    have HT5 : Hid (∀ p ∈ qs ++ [(⟨q, .slice a1 m1 p1, .slice a2 m2 p2⟩ : RV)], RTree (fun b => w.heap.size + 1 ≤ b ∧ (Value.slice (some ⟨gg, 0, none⟩) (k + 1) capg).ownBlock ≠ some b) w5 p) := Lib.hid (by
     have hrow : ∀ {S : Nat → Prop} {c : Ru.Cond} {v : Value}, (∀ b, S b → u5.ownBlock ≠ some b) → TreeP S w2 c v → TreeP S w5 c v := fun hS h => ((h.keep ((Kp.refl w2 none).alloc _)).keep ((Kp.refl _ none).alloc _)).row hgrow5 (fun r hr hs => hS r hs hr)
     intro p hp
     rcases List.mem_append.1 hp with hp | hp
     ·have h0 := HT.out p hp
      have up : ∀ {c : Ru.Cond} {v : Value}, TreeP (fun b => w.heap.size + 1 ≤ b ∧ u5.ownBlock ≠ some b) wr c v → TreeP (fun b => w.heap.size + 1 ≤ b ∧ (Value.slice (some ⟨gg, 0, none⟩) (k + 1) capg).ownBlock ≠ some b) w5 c v := fun h => by
       have h2 := (h.keep hk2.out).mono (T := fun b => (w.heap.size + 1 ≤ b ∧ u5.ownBlock ≠ some b) ∧ b < w2.heap.size) (fun b hb h => ⟨h, hb⟩)
       exact (hrow (fun b hb => hb.1.2) h2).mono fun b _ h => ⟨h.1.1, fun e => hgw b h.2 h.1.2 (by injection e)⟩
      exact ⟨up h0.1, up h0.2⟩
     ·rw [List.mem_singleton] at hp
      subst hp
      have up : ∀ {c : Ru.Cond} {v : Value}, TreeB wr.heap.size w2 c v → TreeP (fun b => w.heap.size + 1 ≤ b ∧ (Value.slice (some ⟨gg, 0, none⟩) (k + 1) capg).ownBlock ≠ some b) w5 c v := fun h => by
       have h2 := h.mono (T := fun b => (wr.heap.size ≤ b ∧ u5.ownBlock ≠ some b) ∧ b < w2.heap.size) (fun b hb h => ⟨⟨h, fun e => by have := hog b e; omega⟩, hb⟩)
       exact (hrow (fun b hb => hb.1.2) h2).mono fun b _ h => ⟨by omega, fun e => hgw b h.2 h.1.2 (by injection e)⟩
      exact ⟨up ht2.out.1, up ht2.out.2⟩)
    have HF5 : Hid (∀ p ∈ qs ++ [(⟨q, .slice a1 m1 p1, .slice a2 m2 p2⟩ : RV)], Fit p.r) := Lib.hid (fun p hp => by
     rcases List.mem_append.1 hp with hp | hp
     ·exact HF.out p hp
     ·rw [List.mem_singleton] at hp; subst hp; exact HQF.out)
    have HK5 : Hid (Kp w1 w5 none) := Lib.hid (Kp.row (((HK.out.trans hk2.out).alloc _).alloc _) hgrow5 (fun r hr => by have := (HOW.out.lt r hr).1; omega))
    have HM5 : Hid (res = Ru.parseL ((k + 1 : Nat) + 1) ((qs ++ [(⟨q, .slice a1 m1 p1, .slice a2 m2 p2⟩ : RV)]).map (·.r)) (ps.drop (k + 1))) := Lib.hid (by rw [HM2.out, List.map_append]; rfl)
    clear hown5 hgrow5 hor5 hgw hog HRG
    have hql2 : (qs ++ [(⟨q, .slice a1 m1 p1, .slice a2 m2 p2⟩ : RV)]).length = k + 1 := by rw [List.length_append, hql]; rfl
    generalize qs ++ [(⟨q, .slice a1 m1 p1, .slice a2 m2 p2⟩ : RV)] = qs2 at HOW5 HT5 HF5 HM5 hql2
    go_wp2_with fail
    go_roundw
    case rel => exact ⟨k + 1, qs2, hlt, by go_num, hql2, HOW5.out, HT5, HF5, HM5, HK5⟩
    case measure => simp [intOf]; omega
  ·obtain rfl : k = last := by omega
   obtain ⟨ao, cap, hlv⟩ := own_slice HOW.out
   subst hlv
   have hla := (own_lies (m := 20) (f := rC) (fun _ => rfl) HOW.out).2
   have hck := check_any qs ao cap wr (HE.out.kp0 (HK0.out.trans HK.out)) hla (fun p hp => ⟨(HT.out p hp).1.tree, (HT.out p hp).2.tree⟩) HF.out
   have HME : Hid (res = if x ≠ [] then ([], ((k + 1 : Nat) : Int), 4) else if Ru.check (qs.map (·.r)) = 0 then (qs.map (·.r), 0, 0) else ([], 0, Ru.check (qs.map (·.r)))) := Lib.hid (by rw [HM.out, parseL_end (by omega), HXK.out]; rfl)
   rw [hql] at hck
   have HLA := Lib.hid hla
   clear hla
   by_cases hx0 : x = []
   ·have hxb : (x == []) = true := by rw [hx0]; rfl
    have HM0 := HME.out
    rw [if_neg (by simp [hx0])] at HM0
    have HM1 := Lib.hid HM0
    clear HM0 hx0
    obtain ⟨ck, hckk⟩ : ∃ c, Ru.check (qs.map (·.r)) = c := ⟨_, rfl⟩
    rw [hckk] at hck HM1
    clear hckk
    by_cases hz : ck = 0
    ·have hzb : (ck == 0) = true := by rw [hz]; rfl
     have HM2 := HM1.out
     rw [if_pos hz] at HM2
     have HM3 := Lib.hid HM2
     clear HM2 hz
     go_wp2_with (go_at_call 13; refine hck.mono ?_; rintro e w2 ⟨rfl, hk2⟩)
     have hIS : Rules w2 (.slice ao k cap) (qs.map (·.r)) := ⟨qs, rfl, by have h := (HLA.out.keep hk2).list; rw [hql] at h; exact h, fun p hp => ⟨((HT.out p hp).1.tree).keep hk2, ((HT.out p hp).2.tree).keep hk2⟩⟩
     go_ret3
     exact ⟨⟨_, by rw [HM3.out]; rfl, by rw [HM3.out]; exact hIS⟩, (HK0.out.trans HK.out).trans hk2⟩
    ·have hzb : (ck == 0) = false := by simpa using hz
     have HM2 := HM1.out
     rw [if_neg hz] at HM2
     have HM3 := Lib.hid HM2
     clear HM2 hz
     go_wp2_with (go_at_call 13; refine hck.mono ?_; rintro e w2 ⟨rfl, hk2⟩)
     go_ret3
     exact ⟨⟨_, by rw [HM3.out]; rfl, by rw [HM3.out]; exact rules_nil⟩, (HK0.out.trans HK.out).trans hk2⟩
   ·have hxb : (x == []) = false := by simpa using hx0
    have HM0 := HME.out
    rw [if_pos hx0] at HM0
    have HM1 := Lib.hid HM0
    clear HM0 hx0 hck
    go_wp2_with fail
    go_ret3
    exact ⟨⟨_, by rw [HM1.out]; rfl, by rw [HM1.out]; exact rules_nil⟩, HK0.out.trans HK.out⟩
end Go.Proofs.YtnchipahdfbliaaGreatDoor
