/- The reference's changes of rules. Conditions: at most 200 rules, sizes that a machine holds. -/
import Derived.Test.YtnchipahdfbliaaGreatDoorRa2
namespace Go.Proofs.YtnchipahdfbliaaGreatDoor
open Go.RowKit

/-- Blocks that were there, and new ones but for the list's own. -/
def TB (w : World) (v : Value) (b : Nat) : Prop := b < w.heap.size ∨ (w.heap.size + 1 ≤ b ∧ v.ownBlock ≠ some b)
theorem tb_no {w : World} {g m cap : Nat} (h : w.heap.size + 1 ≤ g) : ∀ r, some g = some r → ¬ TB w (.slice (some ⟨g, 0, none⟩) m cap) r := fun r e hs => by
 injection e with e
 subst e
 rcases hs with hs | hs
 ·omega
 ·exact hs.2 rfl
theorem tb_or {w V : World} {g m cap b : Nat} (h : g < V.heap.size) (hg : w.heap.size + 1 ≤ g) (hb : TB w (.slice (some ⟨g, 0, none⟩) m cap) b ∨ V.heap.size ≤ b) : TB w (.slice (some ⟨g, 0, none⟩) m cap) b := by
 rcases hb with hb | hb
 ·exact hb
 ·exact .inr ⟨by omega, fun e => by have e : g = b := Option.some.inj e; omega⟩
theorem sizes_any : ∀ {xs : List (Ru.Cond × Value)}, (∀ z ∈ xs, z = (Ru.cAny, Value.slice none 0 0)) → Ru.sizes (xs.map (·.1)) = xs.length
 | [], _ => by simp [Ru.sizes]
 | x :: xs, h => by
  have h1 := h x (by simp)
  have h2 := sizes_any (xs := xs) fun z hz => h z (by simp [hz])
  rw [List.map_cons, Ru.sizes, h2, h1, List.length_cons]
  simp [Ru.cAny, Ru.size_mk, Ru.sizes]; omega
def FitM (M : Nat) (r : Ru.Rule) : Prop := r.name.length ≤ 1000000000 ∧ Short r.a ∧ Short r.b ∧ Ru.size r.a ≤ M ∧ Ru.size r.b ≤ M
/-- The list that Odd makes, and the numbers that say how. -/
structure OutIs (M : Nat) (w : World) (q0 q1 q2 : Int) (V : World) (v : Value) (qs : List RV) : Prop where
 own : V.ownsRow (w.heap.size + 1) 42 20 v qs.length (qs.flatMap rC)
 tree : ∀ p ∈ qs, RTree (TB w v) V p
 fit : ∀ p ∈ qs, FitM M p.r
 kp : Kp w V none
 q : V.heap[w.heap.size]? = some (.cells #[.int .i64 q0, .int .i64 q1, .int .i64 q2] 23 (0, 0))
def rule0 : RV := ⟨⟨[99, 49], 0, 1, 0, Ru.cAny, Ru.cAny⟩, .slice none 0 0, .slice none 0 0⟩
theorem rule0_fit (M : Nat) (h : 1 ≤ M) : FitM M rule0.r := ⟨by simp [rule0], .mk _ _ _ _ _ (by simp) (by simp) (by simp), .mk _ _ _ _ _ (by simp) (by simp) (by simp), by show Ru.size Ru.cAny ≤ M; rw [Ru.cAny, Ru.size_mk]; simp [Ru.sizes]; omega, by show Ru.size Ru.cAny ≤ M; rw [Ru.cAny, Ru.size_mk]; simp [Ru.sizes]; omega⟩
theorem rtree_slices {S : Nat → Prop} {w : World} {ps : List RV} (h : ∀ p ∈ ps, RTree S w p) : ∀ p ∈ ps, RSl p := fun p hp => ⟨(h p hp).1.slice, (h p hp).2.slice⟩
/-- One rule more. -/
theorem OutIs.snoc {M : Nat} {w : World} {q0 q1 q2 : Int} {V V2 W : World} {v v2 : Value} {qs : List RV} {y : RV} {xs : List Value} (h : OutIs M w q0 q1 q2 V v qs) (hk : Kp V V2 none) (hxs : xs = qs.flatMap rC) (ho : W.ownsRow (w.heap.size + 1) 42 20 v2 (qs.length + [y].length) (xs ++ [y].flatMap rC)) (hg : V2.grownBy W v.ownBlock) (hor : v2.ownBlock = v.ownBlock ∨ v2.ownBlock = some V2.heap.size)
  (hty : RTree (TB w v) V y) (hfy : FitM M y.r) : OutIs M w q0 q1 q2 W v2 (qs ++ [y]) := by
 subst hxs
 have hlt : ∀ b, v.ownBlock = some b → w.heap.size + 1 ≤ b ∧ b < V.heap.size := fun b hb => h.own.lt b hb
 have hzk := hk.size
 have up : ∀ p, RTree (TB w v) V p → RTree (TB w v2) W p := fun p hp => by
  have go : ∀ {c : Ru.Cond} {x : Value}, TreeP (TB w v) V c x → TreeP (TB w v2) W c x := fun ht => by
   have h1 := (ht.mono (T := fun b => TB w v b ∧ b < V.heap.size) (fun b hb h => ⟨h, hb⟩)).keep hk
   have h2 := h1.row hg (fun r hr hs => by
    rcases hs.1 with hs | hs
    ·have := (hlt r hr).1; omega
    ·exact hs.2 hr)
   refine h2.mono fun b _ hb => ?_
   rcases hb.1 with hs | hs
   ·exact .inl hs
   ·refine .inr ⟨hs.1, fun e => ?_⟩
    rcases hor with ho | ho
    ·exact hs.2 (by rw [← ho]; exact e)
    ·rw [ho] at e; injection e with e; omega
  exact ⟨go hp.1, go hp.2⟩
 refine ⟨?_, fun p hp => ?_, fun p hp => ?_, ?_, ?_⟩
 ·rw [List.length_append, List.flatMap_append]; exact ho
 ·rcases List.mem_append.1 hp with hp | hp
  ·exact up p (h.tree p hp)
  ·rw [List.mem_singleton] at hp; subst hp; exact up _ hty
 ·rcases List.mem_append.1 hp with hp | hp
  ·exact h.fit p hp
  ·rw [List.mem_singleton] at hp; subst hp; exact hfy
 ·exact Kp.row (h.kp.trans hk) hg (fun k hk => by have := (hlt k hk).1; omega)
 ·exact res_kept (res_kept h.q hk (by simp)) hg (fun r hr e => by have := (hlt r hr).1; omega)
/-- Cells of one rule stored anew. -/
theorem OutIs.put {M M' : Nat} {w : World} {q0 q1 q2 : Int} {V V2 : World} {g cap m k off : Nat} {cs : Array Value} {qs : List RV} {x y : RV} {vs : List Value} (h : OutIs M w q0 q1 q2 V (.slice (some ⟨g, 0, none⟩) m cap) qs) (hm : qs.length = m) (hk : k < m) (hx : qs[k]'(by omega) = x) (hgb : w.heap.size + 1 ≤ g) (hgn : m ≤ cap) (hgm : cap ≤ maxLen) (hgs : cs.size = cap * 20) (hgt : cs.toList.take (m * 20) = qs.flatMap rC)
  (hoff : off + vs.length ≤ 20) (hy : rC y = (rC x).take off ++ (vs ++ (rC x).drop (off + vs.length))) (hB : V2.heap[g]? = some (.cells (putAll cs (k * 20 + off) vs) 42 (0, 0))) (kV : Kp V V2 (some g)) (hty : RTree (TB w (.slice (some ⟨g, 0, none⟩) m cap)) V2 y) (hfy : FitM M' y.r) (hMM : M ≤ M') :
  OutIs M' w q0 q1 q2 V2 (.slice (some ⟨g, 0, none⟩) m cap) (qs.set k y) := by
 refine ⟨?_, fun p hp => ?_, fun p hp => ?_, Kp.of_own h.kp kV (by omega), res_kept h.q kV (by intro q hq; injection hq with hq; omega)⟩
 ·rw [List.length_set, hm]
  exact ownr_put hm hk hx hgb hgn hgm hgs hgt hoff hy hB
 ·rcases List.mem_or_eq_of_mem_set hp with hp | hp
  ·have hr : ∀ r, some g = some r → ¬ TB w (.slice (some ⟨g, 0, none⟩) m cap) r := fun r e hs => by
    injection e with e
    subst e
    rcases hs with hs | hs
    ·omega
    ·exact hs.2 rfl
   exact ⟨(h.tree p hp).1.row kV hr, (h.tree p hp).2.row kV hr⟩
  ·subst hp; exact hty
 ·rcases List.mem_or_eq_of_mem_set hp with hp | hp
  ·obtain ⟨f1, f2, f3, f4, f5⟩ := h.fit p hp
   exact ⟨f1, f2, f3, by omega, by omega⟩
  ·subst hp; exact hfy
theorem OutIs.up {M M' : Nat} {w : World} {q0 q1 q2 : Int} {V : World} {v : Value} {qs : List RV} (h : OutIs M w q0 q1 q2 V v qs) (hMM : M ≤ M') : OutIs M' w q0 q1 q2 V v qs :=
 ⟨h.own, h.tree, fun p hp => by obtain ⟨f1, f2, f3, f4, f5⟩ := h.fit p hp; exact ⟨f1, f2, f3, by omega, by omega⟩, h.kp, h.q⟩
theorem OutIs.keep {M : Nat} {w : World} {q0 q1 q2 : Int} {V V2 : World} {v : Value} {qs : List RV} (h : OutIs M w q0 q1 q2 V v qs) (k : Kp V V2 none) : OutIs M w q0 q1 q2 V2 v qs :=
 ⟨own_kp h.own k, fun p hp => ⟨(h.tree p hp).1.keep k, (h.tree p hp).2.keep k⟩, h.fit, h.kp.trans k, res_kept h.q k (by simp)⟩
set_option maxHeartbeats 16000000 in
set_option maxRecDepth 100000 in
theorem odd_any (M : Nat) (hM : 24 ≤ M) (hM2 : M ≤ 900) (ps0 : List RV) (ao : Option Addr) (cap n : Nat) (q0 q1 q2 : Int) (w : World) (hn : ps0.length = n) (hn2 : n ≤ 200) (hl : LiesAt 20 rC w ao cap ps0) (ht : ∀ p ∈ ps0, p.Tree w) (hf : ∀ p ∈ ps0, FitM M p.r) :
  Calls Tryz.prog 11 #[.slice ao n cap, .agg #[.int .i64 q0, .int .i64 q1, .int .i64 q2]] w fun e w' => ∃ (qs : List RV) (a : Option Addr) (p : Nat), e = .returned (.slice a qs.length p) ∧ LiesAt 20 rC w' a p qs ∧ (∀ q ∈ qs, q.Tree w') ∧ (∀ q ∈ qs, FitM (M + 1) q.r) ∧ qs.length ≤ n + 30 ∧ Kp w w' none := by
 have HL := Lib.hid hl; have HF := Lib.hid hf; have HN := Lib.hid hn
 have HT : Hid (∀ p ∈ ps0, RTree (fun b => b < w.heap.size) w p) := Lib.hid fun p hp => ⟨treeP_of (ht p hp).1, treeP_of (ht p hp).2⟩
 have hQ := heap_alloc_new w (.cells #[.int .i64 q0, .int .i64 q1, .int .i64 q2] 23)
 have k1 : Kp w (w.alloc (.cells #[.int .i64 q0, .int .i64 q1, .int .i64 q2] 23)) none := (Kp.refl _ _).alloc _
 have hz1 : (w.alloc (.cells #[.int .i64 q0, .int .i64 q1, .int .i64 q2] 23)).heap.size = w.heap.size + 1 := by simp
 have k2 : Kp w ((w.alloc (.cells #[.int .i64 q0, .int .i64 q1, .int .i64 q2] 23)).alloc (.cells #[] 42)) none := k1.alloc _
 have hz2 : ((w.alloc (.cells #[.int .i64 q0, .int .i64 q1, .int .i64 q2] 23)).alloc (.cells #[] 42)).heap.size = w.heap.size + 2 := by simp
 have HQ := Lib.hid (res_kept hQ ((Kp.refl _ none).alloc (.cells #[] 42)) (by simp))
 have HO0 : Hid (((w.alloc (.cells #[.int .i64 q0, .int .i64 q1, .int .i64 q2] 23)).alloc (.cells #[] 42)).ownsRow (w.heap.size + 1) 42 20 (.slice (some ⟨w.heap.size + 1, 0, none⟩) 0 0) 0 []) := Lib.hid (by have h := ownr_empty (w := w.alloc (.cells #[.int .i64 q0, .int .i64 q1, .int .i64 q2] 23)) (base := w.heap.size + 1) (by omega); rw [hz1] at h; exact h)
 have HI0 := Lib.hid (hl.list.keep k2)
 rw [hn] at HI0
 have K2 := Lib.hid k2
 have hn0 : (0 : Int) ≤ (n : Int) := by omega
 clear hl ht hf hn hQ k1 k2
 go_enter Tryz.func11, Tryz.ntmps11
 go_wp2_with (at_builtin; go_must (refine app_rules (by rfl) _ _ (w.heap.size + 1) (by rfl) _ 0 [] (by rfl) HO0.out _ ps0 (by rfl) HI0.out (rtree_slices HT.out) (by rw [HN.out]; omega) (by omega) ?_))
 intro v1 w5 ho1 hg1 hb1
 have hg1 : ((w.alloc (.cells #[.int .i64 q0, .int .i64 q1, .int .i64 q2] 23)).alloc (.cells #[] 42)).grownBy w5 (some (w.heap.size + 1)) := hg1
 have HO1 : Hid (OutIs M w q0 q1 q2 w5 v1 ps0) := Lib.hid (by
  have hk : Kp w w5 none := Kp.row K2.out hg1 (fun k hk => by injection hk with hk; omega)
  refine ⟨by simpa using ho1, fun p hp => ?_, HF.out, hk, res_kept HQ.out hg1 (by intro q hq; injection hq with hq; omega)⟩
  exact ⟨((HT.out p hp).1.keep hk).mono fun b _ hb => .inl hb, ((HT.out p hp).2.keep hk).mono fun b _ hb => .inl hb⟩)
 clear HO0 HI0 HQ K2 ho1 hg1 hb1 hz1 hz2
 obtain ⟨a1, c1, e1⟩ := own_slice HO1.out.own
 subst e1
 rw [HN.out] at HO1 ⊢
 go_upto_if 16 with fail
 go_cut [5, 16] from 17 to 22 (fun s5 _ wx => ∃ qs : List RV, 0 < qs.length ∧ qs.length ≤ n + 1 ∧ Hid (OutIs M w q0 q1 q2 wx s5 qs))
 case first =>
  by_cases h0 : n = 0
  ·subst h0
   have hp0 : ps0 = [] := List.eq_nil_of_length_eq_zero HN.out
   have kA : Hid (Kp w5 (w5.alloc (.cells #[.string ⟨#[99, 49]⟩, .int .i64 0, .int .i64 1, .int .i64 1, .string ⟨#[]⟩, .int .i64 0, .int .i64 0, .int .i64 0, .int .i64 0, .int .i64 0, .slice none 0 0, .int .i64 1, .string ⟨#[]⟩, .int .i64 0, .int .i64 0, .int .i64 0, .int .i64 0, .int .i64 0, .slice none 0 0, .int .i64 0] 42)) none) := Lib.hid ((Kp.refl _ none).alloc _)
   have HI1 : Hid (IsList 20 rC (w5.alloc (.cells #[.string ⟨#[99, 49]⟩, .int .i64 0, .int .i64 1, .int .i64 1, .string ⟨#[]⟩, .int .i64 0, .int .i64 0, .int .i64 0, .int .i64 0, .int .i64 0, .slice none 0 0, .int .i64 1, .string ⟨#[]⟩, .int .i64 0, .int .i64 0, .int .i64 0, .int .i64 0, .int .i64 0, .slice none 0 0, .int .i64 0] 42)) (.slice (some ⟨w5.heap.size, 0, none⟩) 1 1) [rule0]) := Lib.hid (isList_own (m := 20) (f := rC) (fun _ => rfl) (ownr_one rule0 (base := 0) (Nat.zero_le _)))
   have HOW : Hid ((w5.alloc (.cells #[.string ⟨#[99, 49]⟩, .int .i64 0, .int .i64 1, .int .i64 1, .string ⟨#[]⟩, .int .i64 0, .int .i64 0, .int .i64 0, .int .i64 0, .int .i64 0, .slice none 0 0, .int .i64 1, .string ⟨#[]⟩, .int .i64 0, .int .i64 0, .int .i64 0, .int .i64 0, .int .i64 0, .slice none 0 0, .int .i64 0] 42)).ownsRow (w.heap.size + 1) 42 20 (.slice a1 0 c1) 0 []) := Lib.hid (own_kp (by have h := HO1.out.own; rw [hp0] at h; exact h) kA.out)
   go_wp2_with (at_builtin; go_must (refine app_rules (by rfl) _ _ (w.heap.size + 1) (by rfl) (.slice a1 0 c1) 0 [] (by rfl) HOW.out _ [rule0] (by rfl) HI1.out (by intro q hq; rw [List.mem_singleton] at hq; subst hq; exact ⟨⟨_, _, _, rfl⟩, _, _, _, rfl⟩) (by simp) (by have := kA.out.size; have := HO1.out.kp.size; have := lt_of_block HO1.out.q; omega) ?_))
   intro v2 w6 ho2 hg2 hb2
   have HO2 : Hid (OutIs M w q0 q1 q2 w6 v2 ([] ++ [rule0])) := Lib.hid (OutIs.snoc (by have h := HO1.out; rw [hp0] at h; exact h) kA.out rfl (by simpa using ho2) hg2 (by simpa using hb2) ⟨TreeP.leaf rfl, TreeP.leaf rfl⟩ (rule0_fit M (by omega)))
   obtain ⟨a2, c2, e2⟩ := own_slice HO2.out.own
   subst e2
   go_wp2_with fail
   go_meet
   exact ⟨[] ++ [rule0], by simp, by simp, HO2⟩
  ·have h0' : ((n : Int) == 0) = false := by simp; omega
   go_wp2_with fail
   go_meet
   exact ⟨ps0, by rw [HN.out]; omega, by rw [HN.out]; omega, HO1⟩
 case rest =>
  obtain ⟨qs, hql, hqn, HO⟩ := hcut
  clear HO1 HL HF HT HN
  obtain ⟨_, hown⟩ := HO.out.own
  rcases hown with ⟨_, hv0⟩ | ⟨g, cp, cs, hv1, hgb, hgc, hgn, hgm, hgs, hgt⟩
  ·omega
  subst hv1
  obtain ⟨m, hm⟩ : ∃ m, qs.length = m := ⟨_, rfl⟩
  rw [hm] at HO hql hqn hgn hgt ⊢
  have HQL := Lib.hid hm
  have HGC := Lib.hid (And.intro hgc (And.intro hgm (And.intro hgs hgt)))
  have hgl := lt_of_block hgc
  have cK := fun W => mod_any q2 m W (by omega) (by omega)
  have c8 := fun W => mod_any q1 8 W (by omega) (by omega)
  have c9 := fun W => mod_any q0 9 W (by omega) (by omega)
  have hrk := rem_range q2 m (by omega)
  have hr8 := rem_range q1 8 (by omega)
  have hr9 := rem_range q0 9 (by omega)
  obtain ⟨k, hk⟩ : ∃ k : Nat, rem q2 m = (k : Int) := ⟨(rem q2 m).toNat, by omega⟩
  obtain ⟨t8, ht8⟩ : ∃ x : Nat, rem q1 8 = (x : Int) := ⟨(rem q1 8).toNat, by omega⟩
  obtain ⟨t9, ht9⟩ : ∃ x, rem q0 9 = x := ⟨_, rfl⟩
  rw [hk] at cK hrk
  rw [ht8] at c8 hr8
  rw [ht9] at c9 hr9
  have hkm : k < m := by omega
  have hk0 : (0 : Int) ≤ (k : Int) := by omega
  have hk1 : (k : Int) < (m : Int) := by omega
  have hm0 : (0 : Int) ≤ (m : Int) := by omega
  have ht8 : t8 < 8 := by omega
  have h80 : (0 : Int) ≤ (t8 : Int) := by omega
  have h81 : (t8 : Int) < 8 := by omega
  have hkp : k < qs.length := by rw [HQL.out]; exact hkm
  obtain ⟨x, hx⟩ : ∃ x, qs[k] = x := ⟨_, rfl⟩
  have HX := Lib.hid hx
  have hxm : x ∈ qs := by rw [← hx]; exact List.getElem_mem hkp
  have HXT := Lib.hid (HO.out.tree x hxm)
  have HXF := Lib.hid (HO.out.fit x hxm)
  obtain ⟨a1, m1, p1, hxa⟩ := HXT.out.1.slice
  obtain ⟨a2, m2, p2, hxb⟩ := HXT.out.2.slice
  have HXE : Hid (rC x = #[str x.r.name, .int .i64 x.r.prio, .int .i64 x.r.what, .int .i64 x.r.a.op, str x.r.a.text, .int .i64 x.r.a.n, .int .i64 x.r.a.box.x0, .int .i64 x.r.a.box.y0, .int .i64 x.r.a.box.x1, .int .i64 x.r.a.box.y1, .slice a1 m1 p1, .int .i64 x.r.b.op, str x.r.b.text, .int .i64 x.r.b.n, .int .i64 x.r.b.box.x0, .int .i64 x.r.b.box.y0, .int .i64 x.r.b.box.x1, .int .i64 x.r.b.box.y1, .slice a2 m2 p2, .int .i64 x.r.value].toList) := Lib.hid (by unfold rC cC; rw [hxa, hxb]; rfl)
  have HXR : Hid (wc.rangeAt g (k * 20) #[str x.r.name, .int .i64 x.r.prio, .int .i64 x.r.what, .int .i64 x.r.a.op, str x.r.a.text, .int .i64 x.r.a.n, .int .i64 x.r.a.box.x0, .int .i64 x.r.a.box.y0, .int .i64 x.r.a.box.x1, .int .i64 x.r.a.box.y1, .slice a1 m1 p1, .int .i64 x.r.b.op, str x.r.b.text, .int .i64 x.r.b.n, .int .i64 x.r.b.box.x0, .int .i64 x.r.b.box.y0, .int .i64 x.r.b.box.x1, .int .i64 x.r.b.box.y1, .slice a2 m2 p2, .int .i64 x.r.value].toList) := Lib.hid (by
   have hO := HO.out.own
   rw [HQL.out, ← HQL.out] at hO
   obtain ⟨b', off', e, _, hr⟩ := (own_lies (m := 20) (f := rC) (fun _ => rfl) hO).2.range k hkp HX.out
   injection e with e; injection e with e1 e2
   subst e1; subst e2
   rw [HXE.out, Nat.zero_add] at hr
   exact hr)
  have HXA := Lib.hid hxa
  have HXB := Lib.hid hxb
  clear hx hxm hk ht8 ht9 hgc hgm hgs hgt hm hrk hxa hxb
  have dq2 := hcell HO.out.q 2 rfl
  go_upto_region 5 with (go_at_call 22; refine (cK _).mono ?_; rintro e w2 ⟨rfl, hw2⟩; subst w2)
  clear dq2 cK
  have dq1 := hcell HO.out.q 1 rfl
  go_upto_region 6 with (go_at_call 22; refine (c8 _).mono ?_; rintro e w2 ⟨rfl, hw2⟩; subst w2)
  clear dq1 c8
  have dq0 := hcell HO.out.q 0 rfl
  go_upto_block 0 with (go_at_call 22; refine (c9 _).mono ?_; rintro e w2 ⟨rfl, hw2⟩; subst w2)
  clear dq0 c9
  go_cut [5, 8, 9, 10] from 36 to 146 (fun s5 _ _ _ wx => ∃ qs2 : List RV, qs2.length ≤ n + 30 ∧ Hid (OutIs (M + 1) w q0 q1 q2 wx s5 qs2))
  case first =>
   have h9 : t9 = 0 ∨ t9 = 1 ∨ t9 = 2 ∨ t9 = 3 ∨ t9 = 4 ∨ t9 = 5 ∨ t9 = 6 ∨ t9 = 7 ∨ t9 = 8 := by omega
   rcases h9 with rfl | rfl | rfl | rfl | rfl | rfl | rfl | rfl | rfl
   ·skip
    have cz := HXR.out 0 _ rfl
    rw [Nat.add_zero] at cz
    have fz := Lib.frozen_of_heap HGC.out.1 (k * 20)
    have h8 : t8 = 0 ∨ t8 = 1 ∨ t8 = 2 ∨ t8 = 3 ∨ t8 = 4 ∨ t8 = 5 ∨ t8 = 6 ∨ t8 = 7 := by omega
    rcases h8 with rfl | rfl | rfl | rfl | rfl | rfl | rfl | rfl
    ·go_wp2_with fail
     go_meet
     have ks : Kp wc (wc.setCell ⟨g, k * 20, none⟩ (.string ⟨#[]⟩)) (some g) := (Kp.refl _ _).set _
     exact ⟨qs.set k (⟨⟨[], x.r.prio, x.r.what, x.r.value, x.r.a, x.r.b⟩, x.a, x.b⟩), by rw [List.length_set, HQL.out]; omega, Lib.hid (OutIs.keep (OutIs.put (x := x) (off := 0) (vs := [.string ⟨#[]⟩]) HO.out HQL.out hkm HX.out hgb hgn HGC.out.2.1 HGC.out.2.2.1 HGC.out.2.2.2 (by simp) rfl (heap_set (o := k * 20) (v := .string ⟨#[]⟩) HGC.out.1) ks ⟨HXT.out.1.row ks (tb_no hgb), HXT.out.2.row ks (tb_no hgb)⟩ ⟨by show ([] : List UInt8).length ≤ _; simp, HXF.out.2.1, HXF.out.2.2.1, by have := HXF.out.2.2.2.1; show Ru.size x.r.a ≤ M + 1; omega, by have := HXF.out.2.2.2.2; show Ru.size x.r.b ≤ M + 1; omega⟩ (by omega)) ((Kp.refl _ none).alloc (.cells #[.string ⟨#[]⟩, .string ⟨#[99, 49]⟩, .string ⟨#[57]⟩, .string ⟨#[97, 32, 98]⟩, .string ⟨#[120]⟩, .string ⟨#[97, 47, 98]⟩, .string ⟨#[119, 45, 50]⟩, .string ⟨#[114, 117, 108, 101]⟩] 9)))⟩
    ·go_wp2_with fail
     go_meet
     have ks : Kp wc (wc.setCell ⟨g, k * 20, none⟩ (.string ⟨#[99, 49]⟩)) (some g) := (Kp.refl _ _).set _
     exact ⟨qs.set k (⟨⟨[99, 49], x.r.prio, x.r.what, x.r.value, x.r.a, x.r.b⟩, x.a, x.b⟩), by rw [List.length_set, HQL.out]; omega, Lib.hid (OutIs.keep (OutIs.put (x := x) (off := 0) (vs := [.string ⟨#[99, 49]⟩]) HO.out HQL.out hkm HX.out hgb hgn HGC.out.2.1 HGC.out.2.2.1 HGC.out.2.2.2 (by simp) rfl (heap_set (o := k * 20) (v := .string ⟨#[99, 49]⟩) HGC.out.1) ks ⟨HXT.out.1.row ks (tb_no hgb), HXT.out.2.row ks (tb_no hgb)⟩ ⟨by show ([99, 49] : List UInt8).length ≤ _; simp, HXF.out.2.1, HXF.out.2.2.1, by have := HXF.out.2.2.2.1; show Ru.size x.r.a ≤ M + 1; omega, by have := HXF.out.2.2.2.2; show Ru.size x.r.b ≤ M + 1; omega⟩ (by omega)) ((Kp.refl _ none).alloc (.cells #[.string ⟨#[]⟩, .string ⟨#[99, 49]⟩, .string ⟨#[57]⟩, .string ⟨#[97, 32, 98]⟩, .string ⟨#[120]⟩, .string ⟨#[97, 47, 98]⟩, .string ⟨#[119, 45, 50]⟩, .string ⟨#[114, 117, 108, 101]⟩] 9)))⟩
    ·go_wp2_with fail
     go_meet
     have ks : Kp wc (wc.setCell ⟨g, k * 20, none⟩ (.string ⟨#[57]⟩)) (some g) := (Kp.refl _ _).set _
     exact ⟨qs.set k (⟨⟨[57], x.r.prio, x.r.what, x.r.value, x.r.a, x.r.b⟩, x.a, x.b⟩), by rw [List.length_set, HQL.out]; omega, Lib.hid (OutIs.keep (OutIs.put (x := x) (off := 0) (vs := [.string ⟨#[57]⟩]) HO.out HQL.out hkm HX.out hgb hgn HGC.out.2.1 HGC.out.2.2.1 HGC.out.2.2.2 (by simp) rfl (heap_set (o := k * 20) (v := .string ⟨#[57]⟩) HGC.out.1) ks ⟨HXT.out.1.row ks (tb_no hgb), HXT.out.2.row ks (tb_no hgb)⟩ ⟨by show ([57] : List UInt8).length ≤ _; simp, HXF.out.2.1, HXF.out.2.2.1, by have := HXF.out.2.2.2.1; show Ru.size x.r.a ≤ M + 1; omega, by have := HXF.out.2.2.2.2; show Ru.size x.r.b ≤ M + 1; omega⟩ (by omega)) ((Kp.refl _ none).alloc (.cells #[.string ⟨#[]⟩, .string ⟨#[99, 49]⟩, .string ⟨#[57]⟩, .string ⟨#[97, 32, 98]⟩, .string ⟨#[120]⟩, .string ⟨#[97, 47, 98]⟩, .string ⟨#[119, 45, 50]⟩, .string ⟨#[114, 117, 108, 101]⟩] 9)))⟩
    ·go_wp2_with fail
     go_meet
     have ks : Kp wc (wc.setCell ⟨g, k * 20, none⟩ (.string ⟨#[97, 32, 98]⟩)) (some g) := (Kp.refl _ _).set _
     exact ⟨qs.set k (⟨⟨[97, 32, 98], x.r.prio, x.r.what, x.r.value, x.r.a, x.r.b⟩, x.a, x.b⟩), by rw [List.length_set, HQL.out]; omega, Lib.hid (OutIs.keep (OutIs.put (x := x) (off := 0) (vs := [.string ⟨#[97, 32, 98]⟩]) HO.out HQL.out hkm HX.out hgb hgn HGC.out.2.1 HGC.out.2.2.1 HGC.out.2.2.2 (by simp) rfl (heap_set (o := k * 20) (v := .string ⟨#[97, 32, 98]⟩) HGC.out.1) ks ⟨HXT.out.1.row ks (tb_no hgb), HXT.out.2.row ks (tb_no hgb)⟩ ⟨by show ([97, 32, 98] : List UInt8).length ≤ _; simp, HXF.out.2.1, HXF.out.2.2.1, by have := HXF.out.2.2.2.1; show Ru.size x.r.a ≤ M + 1; omega, by have := HXF.out.2.2.2.2; show Ru.size x.r.b ≤ M + 1; omega⟩ (by omega)) ((Kp.refl _ none).alloc (.cells #[.string ⟨#[]⟩, .string ⟨#[99, 49]⟩, .string ⟨#[57]⟩, .string ⟨#[97, 32, 98]⟩, .string ⟨#[120]⟩, .string ⟨#[97, 47, 98]⟩, .string ⟨#[119, 45, 50]⟩, .string ⟨#[114, 117, 108, 101]⟩] 9)))⟩
    ·go_wp2_with fail
     go_meet
     have ks : Kp wc (wc.setCell ⟨g, k * 20, none⟩ (.string ⟨#[120]⟩)) (some g) := (Kp.refl _ _).set _
     exact ⟨qs.set k (⟨⟨[120], x.r.prio, x.r.what, x.r.value, x.r.a, x.r.b⟩, x.a, x.b⟩), by rw [List.length_set, HQL.out]; omega, Lib.hid (OutIs.keep (OutIs.put (x := x) (off := 0) (vs := [.string ⟨#[120]⟩]) HO.out HQL.out hkm HX.out hgb hgn HGC.out.2.1 HGC.out.2.2.1 HGC.out.2.2.2 (by simp) rfl (heap_set (o := k * 20) (v := .string ⟨#[120]⟩) HGC.out.1) ks ⟨HXT.out.1.row ks (tb_no hgb), HXT.out.2.row ks (tb_no hgb)⟩ ⟨by show ([120] : List UInt8).length ≤ _; simp, HXF.out.2.1, HXF.out.2.2.1, by have := HXF.out.2.2.2.1; show Ru.size x.r.a ≤ M + 1; omega, by have := HXF.out.2.2.2.2; show Ru.size x.r.b ≤ M + 1; omega⟩ (by omega)) ((Kp.refl _ none).alloc (.cells #[.string ⟨#[]⟩, .string ⟨#[99, 49]⟩, .string ⟨#[57]⟩, .string ⟨#[97, 32, 98]⟩, .string ⟨#[120]⟩, .string ⟨#[97, 47, 98]⟩, .string ⟨#[119, 45, 50]⟩, .string ⟨#[114, 117, 108, 101]⟩] 9)))⟩
    ·go_wp2_with fail
     go_meet
     have ks : Kp wc (wc.setCell ⟨g, k * 20, none⟩ (.string ⟨#[97, 47, 98]⟩)) (some g) := (Kp.refl _ _).set _
     exact ⟨qs.set k (⟨⟨[97, 47, 98], x.r.prio, x.r.what, x.r.value, x.r.a, x.r.b⟩, x.a, x.b⟩), by rw [List.length_set, HQL.out]; omega, Lib.hid (OutIs.keep (OutIs.put (x := x) (off := 0) (vs := [.string ⟨#[97, 47, 98]⟩]) HO.out HQL.out hkm HX.out hgb hgn HGC.out.2.1 HGC.out.2.2.1 HGC.out.2.2.2 (by simp) rfl (heap_set (o := k * 20) (v := .string ⟨#[97, 47, 98]⟩) HGC.out.1) ks ⟨HXT.out.1.row ks (tb_no hgb), HXT.out.2.row ks (tb_no hgb)⟩ ⟨by show ([97, 47, 98] : List UInt8).length ≤ _; simp, HXF.out.2.1, HXF.out.2.2.1, by have := HXF.out.2.2.2.1; show Ru.size x.r.a ≤ M + 1; omega, by have := HXF.out.2.2.2.2; show Ru.size x.r.b ≤ M + 1; omega⟩ (by omega)) ((Kp.refl _ none).alloc (.cells #[.string ⟨#[]⟩, .string ⟨#[99, 49]⟩, .string ⟨#[57]⟩, .string ⟨#[97, 32, 98]⟩, .string ⟨#[120]⟩, .string ⟨#[97, 47, 98]⟩, .string ⟨#[119, 45, 50]⟩, .string ⟨#[114, 117, 108, 101]⟩] 9)))⟩
    ·go_wp2_with fail
     go_meet
     have ks : Kp wc (wc.setCell ⟨g, k * 20, none⟩ (.string ⟨#[119, 45, 50]⟩)) (some g) := (Kp.refl _ _).set _
     exact ⟨qs.set k (⟨⟨[119, 45, 50], x.r.prio, x.r.what, x.r.value, x.r.a, x.r.b⟩, x.a, x.b⟩), by rw [List.length_set, HQL.out]; omega, Lib.hid (OutIs.keep (OutIs.put (x := x) (off := 0) (vs := [.string ⟨#[119, 45, 50]⟩]) HO.out HQL.out hkm HX.out hgb hgn HGC.out.2.1 HGC.out.2.2.1 HGC.out.2.2.2 (by simp) rfl (heap_set (o := k * 20) (v := .string ⟨#[119, 45, 50]⟩) HGC.out.1) ks ⟨HXT.out.1.row ks (tb_no hgb), HXT.out.2.row ks (tb_no hgb)⟩ ⟨by show ([119, 45, 50] : List UInt8).length ≤ _; simp, HXF.out.2.1, HXF.out.2.2.1, by have := HXF.out.2.2.2.1; show Ru.size x.r.a ≤ M + 1; omega, by have := HXF.out.2.2.2.2; show Ru.size x.r.b ≤ M + 1; omega⟩ (by omega)) ((Kp.refl _ none).alloc (.cells #[.string ⟨#[]⟩, .string ⟨#[99, 49]⟩, .string ⟨#[57]⟩, .string ⟨#[97, 32, 98]⟩, .string ⟨#[120]⟩, .string ⟨#[97, 47, 98]⟩, .string ⟨#[119, 45, 50]⟩, .string ⟨#[114, 117, 108, 101]⟩] 9)))⟩
    ·go_wp2_with fail
     go_meet
     have ks : Kp wc (wc.setCell ⟨g, k * 20, none⟩ (.string ⟨#[114, 117, 108, 101]⟩)) (some g) := (Kp.refl _ _).set _
     exact ⟨qs.set k (⟨⟨[114, 117, 108, 101], x.r.prio, x.r.what, x.r.value, x.r.a, x.r.b⟩, x.a, x.b⟩), by rw [List.length_set, HQL.out]; omega, Lib.hid (OutIs.keep (OutIs.put (x := x) (off := 0) (vs := [.string ⟨#[114, 117, 108, 101]⟩]) HO.out HQL.out hkm HX.out hgb hgn HGC.out.2.1 HGC.out.2.2.1 HGC.out.2.2.2 (by simp) rfl (heap_set (o := k * 20) (v := .string ⟨#[114, 117, 108, 101]⟩) HGC.out.1) ks ⟨HXT.out.1.row ks (tb_no hgb), HXT.out.2.row ks (tb_no hgb)⟩ ⟨by show ([114, 117, 108, 101] : List UInt8).length ≤ _; simp, HXF.out.2.1, HXF.out.2.2.1, by have := HXF.out.2.2.2.1; show Ru.size x.r.a ≤ M + 1; omega, by have := HXF.out.2.2.2.2; show Ru.size x.r.b ≤ M + 1; omega⟩ (by omega)) ((Kp.refl _ none).alloc (.cells #[.string ⟨#[]⟩, .string ⟨#[99, 49]⟩, .string ⟨#[57]⟩, .string ⟨#[97, 32, 98]⟩, .string ⟨#[120]⟩, .string ⟨#[97, 47, 98]⟩, .string ⟨#[119, 45, 50]⟩, .string ⟨#[114, 117, 108, 101]⟩] 9)))⟩
   ·skip
    have cz := HXR.out 1 _ rfl
    have fz := Lib.frozen_of_heap HGC.out.1 (k * 20 + 1)
    have h8 : t8 = 0 ∨ t8 = 1 ∨ t8 = 2 ∨ t8 = 3 ∨ t8 = 4 ∨ t8 = 5 ∨ t8 = 6 ∨ t8 = 7 := by omega
    rcases h8 with rfl | rfl | rfl | rfl | rfl | rfl | rfl | rfl
    ·go_wp2_with fail
     go_meet
     have ks : Kp wc (wc.setCell ⟨g, k * 20 + 1, none⟩ (.int .i64 (-1))) (some g) := (Kp.refl _ _).set _
     exact ⟨qs.set k (⟨⟨x.r.name, -1, x.r.what, x.r.value, x.r.a, x.r.b⟩, x.a, x.b⟩), by rw [List.length_set, HQL.out]; omega, Lib.hid (OutIs.keep (OutIs.put (x := x) (off := 1) (vs := [.int .i64 (-1)]) HO.out HQL.out hkm HX.out hgb hgn HGC.out.2.1 HGC.out.2.2.1 HGC.out.2.2.2 (by simp) rfl (heap_set (o := k * 20 + 1) (v := .int .i64 (-1)) HGC.out.1) ks ⟨HXT.out.1.row ks (tb_no hgb), HXT.out.2.row ks (tb_no hgb)⟩ ⟨HXF.out.1, HXF.out.2.1, HXF.out.2.2.1, by have := HXF.out.2.2.2.1; show Ru.size x.r.a ≤ M + 1; omega, by have := HXF.out.2.2.2.2; show Ru.size x.r.b ≤ M + 1; omega⟩ (by omega)) ((Kp.refl _ none).alloc (.cells #[.int .i64 (-1), .int .i64 0, .int .i64 1000, .int .i64 1001, .int .i64 5, .int .i64 6, .int .i64 7, .int .i64 8] 3)))⟩
    ·go_wp2_with fail
     go_meet
     have ks : Kp wc (wc.setCell ⟨g, k * 20 + 1, none⟩ (.int .i64 0)) (some g) := (Kp.refl _ _).set _
     exact ⟨qs.set k (⟨⟨x.r.name, 0, x.r.what, x.r.value, x.r.a, x.r.b⟩, x.a, x.b⟩), by rw [List.length_set, HQL.out]; omega, Lib.hid (OutIs.keep (OutIs.put (x := x) (off := 1) (vs := [.int .i64 0]) HO.out HQL.out hkm HX.out hgb hgn HGC.out.2.1 HGC.out.2.2.1 HGC.out.2.2.2 (by simp) rfl (heap_set (o := k * 20 + 1) (v := .int .i64 0) HGC.out.1) ks ⟨HXT.out.1.row ks (tb_no hgb), HXT.out.2.row ks (tb_no hgb)⟩ ⟨HXF.out.1, HXF.out.2.1, HXF.out.2.2.1, by have := HXF.out.2.2.2.1; show Ru.size x.r.a ≤ M + 1; omega, by have := HXF.out.2.2.2.2; show Ru.size x.r.b ≤ M + 1; omega⟩ (by omega)) ((Kp.refl _ none).alloc (.cells #[.int .i64 (-1), .int .i64 0, .int .i64 1000, .int .i64 1001, .int .i64 5, .int .i64 6, .int .i64 7, .int .i64 8] 3)))⟩
    ·go_wp2_with fail
     go_meet
     have ks : Kp wc (wc.setCell ⟨g, k * 20 + 1, none⟩ (.int .i64 1000)) (some g) := (Kp.refl _ _).set _
     exact ⟨qs.set k (⟨⟨x.r.name, 1000, x.r.what, x.r.value, x.r.a, x.r.b⟩, x.a, x.b⟩), by rw [List.length_set, HQL.out]; omega, Lib.hid (OutIs.keep (OutIs.put (x := x) (off := 1) (vs := [.int .i64 1000]) HO.out HQL.out hkm HX.out hgb hgn HGC.out.2.1 HGC.out.2.2.1 HGC.out.2.2.2 (by simp) rfl (heap_set (o := k * 20 + 1) (v := .int .i64 1000) HGC.out.1) ks ⟨HXT.out.1.row ks (tb_no hgb), HXT.out.2.row ks (tb_no hgb)⟩ ⟨HXF.out.1, HXF.out.2.1, HXF.out.2.2.1, by have := HXF.out.2.2.2.1; show Ru.size x.r.a ≤ M + 1; omega, by have := HXF.out.2.2.2.2; show Ru.size x.r.b ≤ M + 1; omega⟩ (by omega)) ((Kp.refl _ none).alloc (.cells #[.int .i64 (-1), .int .i64 0, .int .i64 1000, .int .i64 1001, .int .i64 5, .int .i64 6, .int .i64 7, .int .i64 8] 3)))⟩
    ·go_wp2_with fail
     go_meet
     have ks : Kp wc (wc.setCell ⟨g, k * 20 + 1, none⟩ (.int .i64 1001)) (some g) := (Kp.refl _ _).set _
     exact ⟨qs.set k (⟨⟨x.r.name, 1001, x.r.what, x.r.value, x.r.a, x.r.b⟩, x.a, x.b⟩), by rw [List.length_set, HQL.out]; omega, Lib.hid (OutIs.keep (OutIs.put (x := x) (off := 1) (vs := [.int .i64 1001]) HO.out HQL.out hkm HX.out hgb hgn HGC.out.2.1 HGC.out.2.2.1 HGC.out.2.2.2 (by simp) rfl (heap_set (o := k * 20 + 1) (v := .int .i64 1001) HGC.out.1) ks ⟨HXT.out.1.row ks (tb_no hgb), HXT.out.2.row ks (tb_no hgb)⟩ ⟨HXF.out.1, HXF.out.2.1, HXF.out.2.2.1, by have := HXF.out.2.2.2.1; show Ru.size x.r.a ≤ M + 1; omega, by have := HXF.out.2.2.2.2; show Ru.size x.r.b ≤ M + 1; omega⟩ (by omega)) ((Kp.refl _ none).alloc (.cells #[.int .i64 (-1), .int .i64 0, .int .i64 1000, .int .i64 1001, .int .i64 5, .int .i64 6, .int .i64 7, .int .i64 8] 3)))⟩
    ·go_wp2_with fail
     go_meet
     have ks : Kp wc (wc.setCell ⟨g, k * 20 + 1, none⟩ (.int .i64 5)) (some g) := (Kp.refl _ _).set _
     exact ⟨qs.set k (⟨⟨x.r.name, 5, x.r.what, x.r.value, x.r.a, x.r.b⟩, x.a, x.b⟩), by rw [List.length_set, HQL.out]; omega, Lib.hid (OutIs.keep (OutIs.put (x := x) (off := 1) (vs := [.int .i64 5]) HO.out HQL.out hkm HX.out hgb hgn HGC.out.2.1 HGC.out.2.2.1 HGC.out.2.2.2 (by simp) rfl (heap_set (o := k * 20 + 1) (v := .int .i64 5) HGC.out.1) ks ⟨HXT.out.1.row ks (tb_no hgb), HXT.out.2.row ks (tb_no hgb)⟩ ⟨HXF.out.1, HXF.out.2.1, HXF.out.2.2.1, by have := HXF.out.2.2.2.1; show Ru.size x.r.a ≤ M + 1; omega, by have := HXF.out.2.2.2.2; show Ru.size x.r.b ≤ M + 1; omega⟩ (by omega)) ((Kp.refl _ none).alloc (.cells #[.int .i64 (-1), .int .i64 0, .int .i64 1000, .int .i64 1001, .int .i64 5, .int .i64 6, .int .i64 7, .int .i64 8] 3)))⟩
    ·go_wp2_with fail
     go_meet
     have ks : Kp wc (wc.setCell ⟨g, k * 20 + 1, none⟩ (.int .i64 6)) (some g) := (Kp.refl _ _).set _
     exact ⟨qs.set k (⟨⟨x.r.name, 6, x.r.what, x.r.value, x.r.a, x.r.b⟩, x.a, x.b⟩), by rw [List.length_set, HQL.out]; omega, Lib.hid (OutIs.keep (OutIs.put (x := x) (off := 1) (vs := [.int .i64 6]) HO.out HQL.out hkm HX.out hgb hgn HGC.out.2.1 HGC.out.2.2.1 HGC.out.2.2.2 (by simp) rfl (heap_set (o := k * 20 + 1) (v := .int .i64 6) HGC.out.1) ks ⟨HXT.out.1.row ks (tb_no hgb), HXT.out.2.row ks (tb_no hgb)⟩ ⟨HXF.out.1, HXF.out.2.1, HXF.out.2.2.1, by have := HXF.out.2.2.2.1; show Ru.size x.r.a ≤ M + 1; omega, by have := HXF.out.2.2.2.2; show Ru.size x.r.b ≤ M + 1; omega⟩ (by omega)) ((Kp.refl _ none).alloc (.cells #[.int .i64 (-1), .int .i64 0, .int .i64 1000, .int .i64 1001, .int .i64 5, .int .i64 6, .int .i64 7, .int .i64 8] 3)))⟩
    ·go_wp2_with fail
     go_meet
     have ks : Kp wc (wc.setCell ⟨g, k * 20 + 1, none⟩ (.int .i64 7)) (some g) := (Kp.refl _ _).set _
     exact ⟨qs.set k (⟨⟨x.r.name, 7, x.r.what, x.r.value, x.r.a, x.r.b⟩, x.a, x.b⟩), by rw [List.length_set, HQL.out]; omega, Lib.hid (OutIs.keep (OutIs.put (x := x) (off := 1) (vs := [.int .i64 7]) HO.out HQL.out hkm HX.out hgb hgn HGC.out.2.1 HGC.out.2.2.1 HGC.out.2.2.2 (by simp) rfl (heap_set (o := k * 20 + 1) (v := .int .i64 7) HGC.out.1) ks ⟨HXT.out.1.row ks (tb_no hgb), HXT.out.2.row ks (tb_no hgb)⟩ ⟨HXF.out.1, HXF.out.2.1, HXF.out.2.2.1, by have := HXF.out.2.2.2.1; show Ru.size x.r.a ≤ M + 1; omega, by have := HXF.out.2.2.2.2; show Ru.size x.r.b ≤ M + 1; omega⟩ (by omega)) ((Kp.refl _ none).alloc (.cells #[.int .i64 (-1), .int .i64 0, .int .i64 1000, .int .i64 1001, .int .i64 5, .int .i64 6, .int .i64 7, .int .i64 8] 3)))⟩
    ·go_wp2_with fail
     go_meet
     have ks : Kp wc (wc.setCell ⟨g, k * 20 + 1, none⟩ (.int .i64 8)) (some g) := (Kp.refl _ _).set _
     exact ⟨qs.set k (⟨⟨x.r.name, 8, x.r.what, x.r.value, x.r.a, x.r.b⟩, x.a, x.b⟩), by rw [List.length_set, HQL.out]; omega, Lib.hid (OutIs.keep (OutIs.put (x := x) (off := 1) (vs := [.int .i64 8]) HO.out HQL.out hkm HX.out hgb hgn HGC.out.2.1 HGC.out.2.2.1 HGC.out.2.2.2 (by simp) rfl (heap_set (o := k * 20 + 1) (v := .int .i64 8) HGC.out.1) ks ⟨HXT.out.1.row ks (tb_no hgb), HXT.out.2.row ks (tb_no hgb)⟩ ⟨HXF.out.1, HXF.out.2.1, HXF.out.2.2.1, by have := HXF.out.2.2.2.1; show Ru.size x.r.a ≤ M + 1; omega, by have := HXF.out.2.2.2.2; show Ru.size x.r.b ≤ M + 1; omega⟩ (by omega)) ((Kp.refl _ none).alloc (.cells #[.int .i64 (-1), .int .i64 0, .int .i64 1000, .int .i64 1001, .int .i64 5, .int .i64 6, .int .i64 7, .int .i64 8] 3)))⟩
   ·skip
    have cz := HXR.out 2 _ rfl
    have fz := Lib.frozen_of_heap HGC.out.1 (k * 20 + 2)
    go_wp2_with fail
    go_meet
    have ks : Kp wc (wc.setCell ⟨g, k * 20 + 2, none⟩ (.int .i64 ((t8 : Int) - 1))) (some g) := (Kp.refl _ _).set _
    exact ⟨qs.set k (⟨⟨x.r.name, x.r.prio, (t8 : Int) - 1, x.r.value, x.r.a, x.r.b⟩, x.a, x.b⟩), by rw [List.length_set, HQL.out]; omega, Lib.hid (OutIs.put (x := x) (off := 2) (vs := [.int .i64 ((t8 : Int) - 1)]) HO.out HQL.out hkm HX.out hgb hgn HGC.out.2.1 HGC.out.2.2.1 HGC.out.2.2.2 (by simp) rfl (heap_set (o := k * 20 + 2) (v := .int .i64 ((t8 : Int) - 1)) HGC.out.1) ks ⟨HXT.out.1.row ks (tb_no hgb), HXT.out.2.row ks (tb_no hgb)⟩ ⟨HXF.out.1, HXF.out.2.1, HXF.out.2.2.1, by have := HXF.out.2.2.2.1; show Ru.size x.r.a ≤ M + 1; omega, by have := HXF.out.2.2.2.2; show Ru.size x.r.b ≤ M + 1; omega⟩ (by omega))⟩
   ·skip
    have cz := HXR.out 19 _ rfl
    have fz := Lib.frozen_of_heap HGC.out.1 (k * 20 + 19)
    have h8 : t8 = 0 ∨ t8 = 1 ∨ t8 = 2 ∨ t8 = 3 ∨ t8 = 4 ∨ t8 = 5 ∨ t8 = 6 ∨ t8 = 7 := by omega
    rcases h8 with rfl | rfl | rfl | rfl | rfl | rfl | rfl | rfl
    ·go_wp2_with fail
     go_meet
     have ks : Kp wc (wc.setCell ⟨g, k * 20 + 19, none⟩ (.int .i64 (-1))) (some g) := (Kp.refl _ _).set _
     exact ⟨qs.set k (⟨⟨x.r.name, x.r.prio, x.r.what, -1, x.r.a, x.r.b⟩, x.a, x.b⟩), by rw [List.length_set, HQL.out]; omega, Lib.hid (OutIs.keep (OutIs.put (x := x) (off := 19) (vs := [.int .i64 (-1)]) HO.out HQL.out hkm HX.out hgb hgn HGC.out.2.1 HGC.out.2.2.1 HGC.out.2.2.2 (by simp) rfl (heap_set (o := k * 20 + 19) (v := .int .i64 (-1)) HGC.out.1) ks ⟨HXT.out.1.row ks (tb_no hgb), HXT.out.2.row ks (tb_no hgb)⟩ ⟨HXF.out.1, HXF.out.2.1, HXF.out.2.2.1, by have := HXF.out.2.2.2.1; show Ru.size x.r.a ≤ M + 1; omega, by have := HXF.out.2.2.2.2; show Ru.size x.r.b ≤ M + 1; omega⟩ (by omega)) ((Kp.refl _ none).alloc (.cells #[.int .i64 (-1), .int .i64 0, .int .i64 4194304, .int .i64 4194305, .int .i64 4, .int .i64 5, .int .i64 6, .int .i64 7] 3)))⟩
    ·go_wp2_with fail
     go_meet
     have ks : Kp wc (wc.setCell ⟨g, k * 20 + 19, none⟩ (.int .i64 0)) (some g) := (Kp.refl _ _).set _
     exact ⟨qs.set k (⟨⟨x.r.name, x.r.prio, x.r.what, 0, x.r.a, x.r.b⟩, x.a, x.b⟩), by rw [List.length_set, HQL.out]; omega, Lib.hid (OutIs.keep (OutIs.put (x := x) (off := 19) (vs := [.int .i64 0]) HO.out HQL.out hkm HX.out hgb hgn HGC.out.2.1 HGC.out.2.2.1 HGC.out.2.2.2 (by simp) rfl (heap_set (o := k * 20 + 19) (v := .int .i64 0) HGC.out.1) ks ⟨HXT.out.1.row ks (tb_no hgb), HXT.out.2.row ks (tb_no hgb)⟩ ⟨HXF.out.1, HXF.out.2.1, HXF.out.2.2.1, by have := HXF.out.2.2.2.1; show Ru.size x.r.a ≤ M + 1; omega, by have := HXF.out.2.2.2.2; show Ru.size x.r.b ≤ M + 1; omega⟩ (by omega)) ((Kp.refl _ none).alloc (.cells #[.int .i64 (-1), .int .i64 0, .int .i64 4194304, .int .i64 4194305, .int .i64 4, .int .i64 5, .int .i64 6, .int .i64 7] 3)))⟩
    ·go_wp2_with fail
     go_meet
     have ks : Kp wc (wc.setCell ⟨g, k * 20 + 19, none⟩ (.int .i64 4194304)) (some g) := (Kp.refl _ _).set _
     exact ⟨qs.set k (⟨⟨x.r.name, x.r.prio, x.r.what, 4194304, x.r.a, x.r.b⟩, x.a, x.b⟩), by rw [List.length_set, HQL.out]; omega, Lib.hid (OutIs.keep (OutIs.put (x := x) (off := 19) (vs := [.int .i64 4194304]) HO.out HQL.out hkm HX.out hgb hgn HGC.out.2.1 HGC.out.2.2.1 HGC.out.2.2.2 (by simp) rfl (heap_set (o := k * 20 + 19) (v := .int .i64 4194304) HGC.out.1) ks ⟨HXT.out.1.row ks (tb_no hgb), HXT.out.2.row ks (tb_no hgb)⟩ ⟨HXF.out.1, HXF.out.2.1, HXF.out.2.2.1, by have := HXF.out.2.2.2.1; show Ru.size x.r.a ≤ M + 1; omega, by have := HXF.out.2.2.2.2; show Ru.size x.r.b ≤ M + 1; omega⟩ (by omega)) ((Kp.refl _ none).alloc (.cells #[.int .i64 (-1), .int .i64 0, .int .i64 4194304, .int .i64 4194305, .int .i64 4, .int .i64 5, .int .i64 6, .int .i64 7] 3)))⟩
    ·go_wp2_with fail
     go_meet
     have ks : Kp wc (wc.setCell ⟨g, k * 20 + 19, none⟩ (.int .i64 4194305)) (some g) := (Kp.refl _ _).set _
     exact ⟨qs.set k (⟨⟨x.r.name, x.r.prio, x.r.what, 4194305, x.r.a, x.r.b⟩, x.a, x.b⟩), by rw [List.length_set, HQL.out]; omega, Lib.hid (OutIs.keep (OutIs.put (x := x) (off := 19) (vs := [.int .i64 4194305]) HO.out HQL.out hkm HX.out hgb hgn HGC.out.2.1 HGC.out.2.2.1 HGC.out.2.2.2 (by simp) rfl (heap_set (o := k * 20 + 19) (v := .int .i64 4194305) HGC.out.1) ks ⟨HXT.out.1.row ks (tb_no hgb), HXT.out.2.row ks (tb_no hgb)⟩ ⟨HXF.out.1, HXF.out.2.1, HXF.out.2.2.1, by have := HXF.out.2.2.2.1; show Ru.size x.r.a ≤ M + 1; omega, by have := HXF.out.2.2.2.2; show Ru.size x.r.b ≤ M + 1; omega⟩ (by omega)) ((Kp.refl _ none).alloc (.cells #[.int .i64 (-1), .int .i64 0, .int .i64 4194304, .int .i64 4194305, .int .i64 4, .int .i64 5, .int .i64 6, .int .i64 7] 3)))⟩
    ·go_wp2_with fail
     go_meet
     have ks : Kp wc (wc.setCell ⟨g, k * 20 + 19, none⟩ (.int .i64 4)) (some g) := (Kp.refl _ _).set _
     exact ⟨qs.set k (⟨⟨x.r.name, x.r.prio, x.r.what, 4, x.r.a, x.r.b⟩, x.a, x.b⟩), by rw [List.length_set, HQL.out]; omega, Lib.hid (OutIs.keep (OutIs.put (x := x) (off := 19) (vs := [.int .i64 4]) HO.out HQL.out hkm HX.out hgb hgn HGC.out.2.1 HGC.out.2.2.1 HGC.out.2.2.2 (by simp) rfl (heap_set (o := k * 20 + 19) (v := .int .i64 4) HGC.out.1) ks ⟨HXT.out.1.row ks (tb_no hgb), HXT.out.2.row ks (tb_no hgb)⟩ ⟨HXF.out.1, HXF.out.2.1, HXF.out.2.2.1, by have := HXF.out.2.2.2.1; show Ru.size x.r.a ≤ M + 1; omega, by have := HXF.out.2.2.2.2; show Ru.size x.r.b ≤ M + 1; omega⟩ (by omega)) ((Kp.refl _ none).alloc (.cells #[.int .i64 (-1), .int .i64 0, .int .i64 4194304, .int .i64 4194305, .int .i64 4, .int .i64 5, .int .i64 6, .int .i64 7] 3)))⟩
    ·go_wp2_with fail
     go_meet
     have ks : Kp wc (wc.setCell ⟨g, k * 20 + 19, none⟩ (.int .i64 5)) (some g) := (Kp.refl _ _).set _
     exact ⟨qs.set k (⟨⟨x.r.name, x.r.prio, x.r.what, 5, x.r.a, x.r.b⟩, x.a, x.b⟩), by rw [List.length_set, HQL.out]; omega, Lib.hid (OutIs.keep (OutIs.put (x := x) (off := 19) (vs := [.int .i64 5]) HO.out HQL.out hkm HX.out hgb hgn HGC.out.2.1 HGC.out.2.2.1 HGC.out.2.2.2 (by simp) rfl (heap_set (o := k * 20 + 19) (v := .int .i64 5) HGC.out.1) ks ⟨HXT.out.1.row ks (tb_no hgb), HXT.out.2.row ks (tb_no hgb)⟩ ⟨HXF.out.1, HXF.out.2.1, HXF.out.2.2.1, by have := HXF.out.2.2.2.1; show Ru.size x.r.a ≤ M + 1; omega, by have := HXF.out.2.2.2.2; show Ru.size x.r.b ≤ M + 1; omega⟩ (by omega)) ((Kp.refl _ none).alloc (.cells #[.int .i64 (-1), .int .i64 0, .int .i64 4194304, .int .i64 4194305, .int .i64 4, .int .i64 5, .int .i64 6, .int .i64 7] 3)))⟩
    ·go_wp2_with fail
     go_meet
     have ks : Kp wc (wc.setCell ⟨g, k * 20 + 19, none⟩ (.int .i64 6)) (some g) := (Kp.refl _ _).set _
     exact ⟨qs.set k (⟨⟨x.r.name, x.r.prio, x.r.what, 6, x.r.a, x.r.b⟩, x.a, x.b⟩), by rw [List.length_set, HQL.out]; omega, Lib.hid (OutIs.keep (OutIs.put (x := x) (off := 19) (vs := [.int .i64 6]) HO.out HQL.out hkm HX.out hgb hgn HGC.out.2.1 HGC.out.2.2.1 HGC.out.2.2.2 (by simp) rfl (heap_set (o := k * 20 + 19) (v := .int .i64 6) HGC.out.1) ks ⟨HXT.out.1.row ks (tb_no hgb), HXT.out.2.row ks (tb_no hgb)⟩ ⟨HXF.out.1, HXF.out.2.1, HXF.out.2.2.1, by have := HXF.out.2.2.2.1; show Ru.size x.r.a ≤ M + 1; omega, by have := HXF.out.2.2.2.2; show Ru.size x.r.b ≤ M + 1; omega⟩ (by omega)) ((Kp.refl _ none).alloc (.cells #[.int .i64 (-1), .int .i64 0, .int .i64 4194304, .int .i64 4194305, .int .i64 4, .int .i64 5, .int .i64 6, .int .i64 7] 3)))⟩
    ·go_wp2_with fail
     go_meet
     have ks : Kp wc (wc.setCell ⟨g, k * 20 + 19, none⟩ (.int .i64 7)) (some g) := (Kp.refl _ _).set _
     exact ⟨qs.set k (⟨⟨x.r.name, x.r.prio, x.r.what, 7, x.r.a, x.r.b⟩, x.a, x.b⟩), by rw [List.length_set, HQL.out]; omega, Lib.hid (OutIs.keep (OutIs.put (x := x) (off := 19) (vs := [.int .i64 7]) HO.out HQL.out hkm HX.out hgb hgn HGC.out.2.1 HGC.out.2.2.1 HGC.out.2.2.2 (by simp) rfl (heap_set (o := k * 20 + 19) (v := .int .i64 7) HGC.out.1) ks ⟨HXT.out.1.row ks (tb_no hgb), HXT.out.2.row ks (tb_no hgb)⟩ ⟨HXF.out.1, HXF.out.2.1, HXF.out.2.2.1, by have := HXF.out.2.2.2.1; show Ru.size x.r.a ≤ M + 1; omega, by have := HXF.out.2.2.2.2; show Ru.size x.r.b ≤ M + 1; omega⟩ (by omega)) ((Kp.refl _ none).alloc (.cells #[.int .i64 (-1), .int .i64 0, .int .i64 4194304, .int .i64 4194305, .int .i64 4, .int .i64 5, .int .i64 6, .int .i64 7] 3)))⟩
   ·skip
    have HRA : Hid (wc.rangeAt g (k * 20 + 3) #[.int .i64 x.r.a.op, str x.r.a.text, .int .i64 x.r.a.n, .int .i64 x.r.a.box.x0, .int .i64 x.r.a.box.y0, .int .i64 x.r.a.box.x1, .int .i64 x.r.a.box.y1, .slice a1 m1 p1].toList) := Lib.hid fun j v hv => by
     have hj : j < 8 := by have := (List.getElem?_eq_some_iff.1 hv).1; simpa using this
     have h8 : j = 0 ∨ j = 1 ∨ j = 2 ∨ j = 3 ∨ j = 4 ∨ j = 5 ∨ j = 6 ∨ j = 7 := by omega
     rw [Nat.add_assoc]
     rcases h8 with rfl | rfl | rfl | rfl | rfl | rfl | rfl | rfl <;> exact HXR.out _ _ hv
    have HS5 : Hid (∀ V, Kp wc V none → V.rangeAt g (k * 20 + 3) #[.int .i64 x.r.a.op, str x.r.a.text, .int .i64 x.r.a.n, .int .i64 x.r.a.box.x0, .int .i64 x.r.a.box.y0, .int .i64 x.r.a.box.x1, .int .i64 x.r.a.box.y1, .slice a1 m1 p1].toList ∧ V.cell? ⟨w.heap.size, 0, none⟩ = some (.int .i64 q0) ∧ V.cell? ⟨w.heap.size, 1, none⟩ = some (.int .i64 q1) ∧ V.cell? ⟨w.heap.size, 2, none⟩ = some (.int .i64 q2) ∧ Hid (Kp wc V none)) := Lib.hid fun V hV => ⟨fun j v hv => by rw [hV.below.cell (p := ⟨g, k * 20 + 3 + j, none⟩) hgl]; exact HRA.out j v hv, ckr HO.out.q hV (by simp) 0 rfl, ckr HO.out.q hV (by simp) 1 rfl, ckr HO.out.q hV (by simp) 2 rfl, Lib.hid hV⟩
    have CI : Hid (∀ V, Kp wc V none → Calls Tryz.prog 31 #[.agg #[.int .i64 x.r.a.op, str x.r.a.text, .int .i64 x.r.a.n, .int .i64 x.r.a.box.x0, .int .i64 x.r.a.box.y0, .int .i64 x.r.a.box.x1, .int .i64 x.r.a.box.y1, .slice a1 m1 p1], .agg #[.int .i64 q1, .int .i64 q2, .int .i64 q0]] V (OddIs (TB w (.slice (some ⟨g, 0, none⟩) m cp)) (Ru.size x.r.a) V)) := Lib.hid fun V hV => by
     have h := oddCond_any x.r.a (TB w (.slice (some ⟨g, 0, none⟩) m cp)) V x.a q1 q2 q0 HXF.out.2.1 (by have := HXF.out.2.2.2.1; omega) (HXT.out.1.keep hV)
     rw [HXA.out] at h
     exact h
    go_upto_region 20 with fail
    have kd : Kp wc wc.drew none := (Kp.refl _ _).drew
    refine wp_region_last (fun V => V.rangeAt g (k * 20 + 3) #[.int .i64 x.r.a.op, str x.r.a.text, .int .i64 x.r.a.n, .int .i64 x.r.a.box.x0, .int .i64 x.r.a.box.y0, .int .i64 x.r.a.box.x1, .int .i64 x.r.a.box.y1, .slice a1 m1 p1].toList ∧ V.cell? ⟨w.heap.size, 0, none⟩ = some (.int .i64 q0) ∧ V.cell? ⟨w.heap.size, 1, none⟩ = some (.int .i64 q1) ∧ V.cell? ⟨w.heap.size, 2, none⟩ = some (.int .i64 q2) ∧ Hid (Kp wc V none)) 15 (by kernel_rfl) (HS5.out _ kd) (fun hHeld => ?_)
    refine tkL 0 rfl ?_
    try simp only [Act.put, sm]
    refine tkL 1 rfl ?_
    try simp only [Act.put, sm]
    refine tkL 2 rfl ?_
    try simp only [Act.put, sm]
    refine tkL 3 rfl ?_
    try simp only [Act.put, sm]
    refine wpAnyL_take (i := 4) rfl (by kernel_rfl) (by kernel_rfl) (by kernel_rfl) (by kernel_rfl) (fun _ _ _ h => h) (yieldsIf_load_mid (by rfl) _ _ rfl g (k * 20 + 3) rfl #[.int .i64 x.r.a.op, str x.r.a.text, .int .i64 x.r.a.n, .int .i64 x.r.a.box.x0, .int .i64 x.r.a.box.y0, .int .i64 x.r.a.box.x1, .int .i64 x.r.a.box.y1, .slice a1 m1 p1].toList _ (fun _ h => h.1) Tryz.underlying40 rfl info40s) (by assumption) ?_
    try simp only [Act.put, sm]
    refine tkL 5 rfl ?_
    try simp only [Act.put, sm]
    refine tkL 6 rfl ?_
    try simp only [Act.put, sm]
    refine tkL 7 rfl ?_
    try simp only [Act.put, sm]
    refine tkL 8 rfl ?_
    try simp only [Act.put, sm]
    refine tkL 9 rfl ?_
    try simp only [Act.put, sm]
    refine tkL 10 rfl ?_
    try simp only [Act.put, sm]
    refine tkL 11 rfl ?_
    try simp only [Act.put, sm]
    refine wpAnyL_ready (rs := [12]) (by kernel_rfl) (by simp) ?_
    refine AllReadyL.cons (o := _) rfl (fun K hK => ?_) AllReadyL.nil
    clear hHeld
    go_simp
    refine (CI.out _ kd).mono ?_
    rintro e w8 ⟨d, a9, m9, p9, rfl, htd, hsd, hzd, k8⟩
    have hHS := HS5.out _ (kd.trans k8)
    have K8 := Lib.hid (kd.trans k8)
    have HTD := Lib.hid htd
    have hgl2 : g < wc.drew.heap.size := Nat.lt_of_lt_of_le hgl kd.size
    clear kd k8 htd
    try go_wp2_with fail
    refine hK.out _ _ hHS (fun hHeld => ?_)
    clear hK K hHS
    try simp only [Act.put, sm]
    refine wpAnyL_ready (rs := [13]) (by kernel_rfl) (by simp) ?_
    refine AllReadyL.cons (o := _) rfl (fun K hK => ?_) AllReadyL.nil
    clear hHeld
    go_simp
    refine hK.out _ _ (HS5.out _ K8.out) (fun hHeld => ?_)
    clear hK K
    try simp only [Act.put, sm]
    refine tkL 14 rfl ?_
    try simp only [Act.put, sm]
    refine wpAnyL_ready (rs := [15]) (by kernel_rfl) (by simp) ?_
    refine AllReadyL.last (o := _) rfl (fun K hK => ?_)
    clear hHeld
    have HG8 := Lib.hid (res_kept HGC.out.1 K8.out (by simp))
    refine wp_store_to 40 _ _ rfl g (k * 20 + 3) _ 42 HG8.out #[.int .i64 d.op, str d.text, .int .i64 d.n, .int .i64 d.box.x0, .int .i64 d.box.y0, .int .i64 d.box.x1, .int .i64 d.box.y1, .slice a9 m9 p9] (by rfl) (by rfl) info40s (by show k * 20 + 3 + 8 ≤ _; have h1 := HGC.out.2.2.1; have h2 : m * 20 ≤ cp * 20 := Nat.mul_le_mul_right _ hgn; omega) (by simp [Value.oneCell']) _ rfl (fun v9 hV hkV => ?_)
    have HG9 := Lib.hid hV
    have K9 := Lib.hid hkV
    clear hV hkV
    refine hK.out _ _ ?_
    clear hK K
    try simp only [Act.put, sm]
    refine wpAnyL_done (by kernel_rfl) ?_ _
    go_wp2_with fail
    go_meet
    exact ⟨qs.set k (⟨⟨x.r.name, x.r.prio, x.r.what, x.r.value, d, x.r.b⟩, .slice a9 m9 p9, x.b⟩), by rw [List.length_set, HQL.out]; omega, Lib.hid (OutIs.put (x := x) (off := 3) (vs := cC (d, .slice a9 m9 p9)) (HO.out.keep K8.out) HQL.out hkm HX.out hgb hgn HGC.out.2.1 HGC.out.2.2.1 HGC.out.2.2.2 (by show 3 + 8 ≤ 20; omega) rfl HG9.out K9.out ⟨((HTD.out.mono (fun b _ hb => tb_or hgl2 hgb hb)).row K9.out (tb_no hgb)), ((HXT.out.2.keep K8.out).row K9.out (tb_no hgb))⟩ ⟨HXF.out.1, hsd, HXF.out.2.2.1, by have := HXF.out.2.2.2.1; show Ru.size d ≤ M + 1; omega, by have := HXF.out.2.2.2.2; show Ru.size x.r.b ≤ M + 1; omega⟩ (by omega))⟩
   ·skip
    have HRA : Hid (wc.rangeAt g (k * 20 + 11) #[.int .i64 x.r.b.op, str x.r.b.text, .int .i64 x.r.b.n, .int .i64 x.r.b.box.x0, .int .i64 x.r.b.box.y0, .int .i64 x.r.b.box.x1, .int .i64 x.r.b.box.y1, .slice a2 m2 p2].toList) := Lib.hid fun j v hv => by
     have hj : j < 8 := by have := (List.getElem?_eq_some_iff.1 hv).1; simpa using this
     have h8 : j = 0 ∨ j = 1 ∨ j = 2 ∨ j = 3 ∨ j = 4 ∨ j = 5 ∨ j = 6 ∨ j = 7 := by omega
     rw [Nat.add_assoc]
     rcases h8 with rfl | rfl | rfl | rfl | rfl | rfl | rfl | rfl <;> exact HXR.out _ _ hv
    have HS5 : Hid (∀ V, Kp wc V none → V.rangeAt g (k * 20 + 11) #[.int .i64 x.r.b.op, str x.r.b.text, .int .i64 x.r.b.n, .int .i64 x.r.b.box.x0, .int .i64 x.r.b.box.y0, .int .i64 x.r.b.box.x1, .int .i64 x.r.b.box.y1, .slice a2 m2 p2].toList ∧ V.cell? ⟨w.heap.size, 0, none⟩ = some (.int .i64 q0) ∧ V.cell? ⟨w.heap.size, 1, none⟩ = some (.int .i64 q1) ∧ V.cell? ⟨w.heap.size, 2, none⟩ = some (.int .i64 q2) ∧ Hid (Kp wc V none)) := Lib.hid fun V hV => ⟨fun j v hv => by rw [hV.below.cell (p := ⟨g, k * 20 + 11 + j, none⟩) hgl]; exact HRA.out j v hv, ckr HO.out.q hV (by simp) 0 rfl, ckr HO.out.q hV (by simp) 1 rfl, ckr HO.out.q hV (by simp) 2 rfl, Lib.hid hV⟩
    have CI : Hid (∀ V, Kp wc V none → Calls Tryz.prog 31 #[.agg #[.int .i64 x.r.b.op, str x.r.b.text, .int .i64 x.r.b.n, .int .i64 x.r.b.box.x0, .int .i64 x.r.b.box.y0, .int .i64 x.r.b.box.x1, .int .i64 x.r.b.box.y1, .slice a2 m2 p2], .agg #[.int .i64 q1, .int .i64 q2, .int .i64 q0]] V (OddIs (TB w (.slice (some ⟨g, 0, none⟩) m cp)) (Ru.size x.r.b) V)) := Lib.hid fun V hV => by
     have h := oddCond_any x.r.b (TB w (.slice (some ⟨g, 0, none⟩) m cp)) V x.b q1 q2 q0 HXF.out.2.2.1 (by have := HXF.out.2.2.2.2; omega) (HXT.out.2.keep hV)
     rw [HXB.out] at h
     exact h
    go_upto_region 22 with fail
    have kd : Kp wc wc.drew none := (Kp.refl _ _).drew
    refine wp_region_last (fun V => V.rangeAt g (k * 20 + 11) #[.int .i64 x.r.b.op, str x.r.b.text, .int .i64 x.r.b.n, .int .i64 x.r.b.box.x0, .int .i64 x.r.b.box.y0, .int .i64 x.r.b.box.x1, .int .i64 x.r.b.box.y1, .slice a2 m2 p2].toList ∧ V.cell? ⟨w.heap.size, 0, none⟩ = some (.int .i64 q0) ∧ V.cell? ⟨w.heap.size, 1, none⟩ = some (.int .i64 q1) ∧ V.cell? ⟨w.heap.size, 2, none⟩ = some (.int .i64 q2) ∧ Hid (Kp wc V none)) 15 (by kernel_rfl) (HS5.out _ kd) (fun hHeld => ?_)
    refine tkL 0 rfl ?_
    try simp only [Act.put, sm]
    refine tkL 1 rfl ?_
    try simp only [Act.put, sm]
    refine tkL 2 rfl ?_
    try simp only [Act.put, sm]
    refine tkL 3 rfl ?_
    try simp only [Act.put, sm]
    refine wpAnyL_take (i := 4) rfl (by kernel_rfl) (by kernel_rfl) (by kernel_rfl) (by kernel_rfl) (fun _ _ _ h => h) (yieldsIf_load_mid (by rfl) _ _ rfl g (k * 20 + 11) rfl #[.int .i64 x.r.b.op, str x.r.b.text, .int .i64 x.r.b.n, .int .i64 x.r.b.box.x0, .int .i64 x.r.b.box.y0, .int .i64 x.r.b.box.x1, .int .i64 x.r.b.box.y1, .slice a2 m2 p2].toList _ (fun _ h => h.1) Tryz.underlying40 rfl info40s) (by assumption) ?_
    try simp only [Act.put, sm]
    refine tkL 5 rfl ?_
    try simp only [Act.put, sm]
    refine tkL 6 rfl ?_
    try simp only [Act.put, sm]
    refine tkL 7 rfl ?_
    try simp only [Act.put, sm]
    refine tkL 8 rfl ?_
    try simp only [Act.put, sm]
    refine tkL 9 rfl ?_
    try simp only [Act.put, sm]
    refine tkL 10 rfl ?_
    try simp only [Act.put, sm]
    refine tkL 11 rfl ?_
    try simp only [Act.put, sm]
    refine wpAnyL_ready (rs := [12]) (by kernel_rfl) (by simp) ?_
    refine AllReadyL.cons (o := _) rfl (fun K hK => ?_) AllReadyL.nil
    clear hHeld
    go_simp
    refine (CI.out _ kd).mono ?_
    rintro e w8 ⟨d, a9, m9, p9, rfl, htd, hsd, hzd, k8⟩
    have hHS := HS5.out _ (kd.trans k8)
    have K8 := Lib.hid (kd.trans k8)
    have HTD := Lib.hid htd
    have hgl2 : g < wc.drew.heap.size := Nat.lt_of_lt_of_le hgl kd.size
    clear kd k8 htd
    try go_wp2_with fail
    refine hK.out _ _ hHS (fun hHeld => ?_)
    clear hK K hHS
    try simp only [Act.put, sm]
    refine wpAnyL_ready (rs := [13]) (by kernel_rfl) (by simp) ?_
    refine AllReadyL.cons (o := _) rfl (fun K hK => ?_) AllReadyL.nil
    clear hHeld
    go_simp
    refine hK.out _ _ (HS5.out _ K8.out) (fun hHeld => ?_)
    clear hK K
    try simp only [Act.put, sm]
    refine tkL 14 rfl ?_
    try simp only [Act.put, sm]
    refine wpAnyL_ready (rs := [15]) (by kernel_rfl) (by simp) ?_
    refine AllReadyL.last (o := _) rfl (fun K hK => ?_)
    clear hHeld
    have HG8 := Lib.hid (res_kept HGC.out.1 K8.out (by simp))
    refine wp_store_to 40 _ _ rfl g (k * 20 + 11) _ 42 HG8.out #[.int .i64 d.op, str d.text, .int .i64 d.n, .int .i64 d.box.x0, .int .i64 d.box.y0, .int .i64 d.box.x1, .int .i64 d.box.y1, .slice a9 m9 p9] (by rfl) (by rfl) info40s (by show k * 20 + 11 + 8 ≤ _; have h1 := HGC.out.2.2.1; have h2 : m * 20 ≤ cp * 20 := Nat.mul_le_mul_right _ hgn; omega) (by simp [Value.oneCell']) _ rfl (fun v9 hV hkV => ?_)
    have HG9 := Lib.hid hV
    have K9 := Lib.hid hkV
    clear hV hkV
    refine hK.out _ _ ?_
    clear hK K
    try simp only [Act.put, sm]
    refine wpAnyL_done (by kernel_rfl) ?_ _
    go_wp2_with fail
    go_meet
    exact ⟨qs.set k (⟨⟨x.r.name, x.r.prio, x.r.what, x.r.value, x.r.a, d⟩, x.a, .slice a9 m9 p9⟩), by rw [List.length_set, HQL.out]; omega, Lib.hid (OutIs.put (x := x) (off := 11) (vs := cC (d, .slice a9 m9 p9)) (HO.out.keep K8.out) HQL.out hkm HX.out hgb hgn HGC.out.2.1 HGC.out.2.2.1 HGC.out.2.2.2 (by show 11 + 8 ≤ 20; omega) rfl HG9.out K9.out ⟨((HXT.out.1.keep K8.out).row K9.out (tb_no hgb)), ((HTD.out.mono (fun b _ hb => tb_or hgl2 hgb hb)).row K9.out (tb_no hgb))⟩ ⟨HXF.out.1, HXF.out.2.1, hsd, by have := HXF.out.2.2.2.1; show Ru.size x.r.a ≤ M + 1; omega, by have := HXF.out.2.2.2.2; show Ru.size d ≤ M + 1; omega⟩ (by omega))⟩
   ·go_wp2_with fail
    go_loopw [8, 9] (fun lv i wr => ∃ (j : Nat) (xs : List (Ru.Cond × Value)), j ≤ 16 + t8 ∧ i = .int .i64 (j : Int) ∧ Hid (xs.length = j ∧ ∀ z ∈ xs, z = (Ru.cAny, Value.slice none 0 0)) ∧ Hid (wr.ownsRow wc.heap.size 40 8 lv xs.length (xs.flatMap cC)) ∧ Hid (Kp wc wr none)) (fun _ i _ => 16 + t8 - (intOf i).toNat)
    case atStart => exact ⟨0, [], by omega, rfl, Lib.hid ⟨rfl, by simp⟩, Lib.hid ⟨rfl, .inl ⟨rfl, rfl⟩⟩, Lib.hid (Kp.refl _ _)⟩
    case round =>
     obtain ⟨j, xs, hj, rfl, HXS, HOX, HKX⟩ := hrel
     have hj0 : (0 : Int) ≤ (j : Int) := by omega
     by_cases hlt : j < 16 + t8
     ·have hj1 : (j : Int) < 16 + (t8 : Int) := by omega
      have kA : Hid (Kp wr (wr.alloc (.cells #[.int .i64 1, .string ⟨#[]⟩, .int .i64 0, .int .i64 0, .int .i64 0, .int .i64 0, .int .i64 0, .slice none 0 0] 40)) none) := Lib.hid ((Kp.refl _ none).alloc _)
      have HI1 : Hid (IsList 8 cC (wr.alloc (.cells #[.int .i64 1, .string ⟨#[]⟩, .int .i64 0, .int .i64 0, .int .i64 0, .int .i64 0, .int .i64 0, .slice none 0 0] 40)) (.slice (some ⟨wr.heap.size, 0, none⟩) 1 1) [(Ru.cAny, Value.slice none 0 0)]) := Lib.hid (isList_own (m := 8) (f := cC) (fun _ => rfl) (own_one (c := Ru.cAny) (v := .slice none 0 0) (base := 0) (Nat.zero_le _)))
      obtain ⟨la, lc, e8⟩ := own_slice HOX.out
      subst e8
      have hlx : xs.length ≤ 24 := by have := HXS.out.1; omega
      go_wp2_with (at_builtin; go_must (refine app_conds (by rfl) _ _ wc.heap.size (by rfl) (.slice la xs.length lc) xs.length _ (by rfl) (own_kp HOX.out kA.out) _ [(Ru.cAny, Value.slice none 0 0)] (by rfl) HI1.out (by intro q hq; rw [List.mem_singleton] at hq; subst hq; exact ⟨_, _, _, rfl⟩) (by simp; omega) (by have := kA.out.size; have := HKX.out.size; omega) ?_))
      intro v2 w6 ho2 hg2 hb2
      have HO2 : Hid (w6.ownsRow wc.heap.size 40 8 v2 (xs ++ [(Ru.cAny, Value.slice none 0 0)]).length ((xs ++ [(Ru.cAny, Value.slice none 0 0)]).flatMap cC)) := Lib.hid (by rw [List.length_append, List.flatMap_append]; simpa using ho2)
      have HX2 : Hid ((xs ++ [(Ru.cAny, Value.slice none 0 0)]).length = j + 1 ∧ ∀ z ∈ xs ++ [(Ru.cAny, Value.slice none 0 0)], z = (Ru.cAny, Value.slice none 0 0)) := Lib.hid ⟨by rw [List.length_append, HXS.out.1]; rfl, fun z hz => by
       rcases List.mem_append.1 hz with hz | hz
       ·exact HXS.out.2 z hz
       ·exact List.mem_singleton.1 hz⟩
      have HK2 : Hid (Kp wc w6 none) := Lib.hid (Kp.row (HKX.out.trans kA.out) hg2 (fun q hq => by have := (HOX.out.lt q hq).1; omega))
      generalize xs ++ [(Ru.cAny, Value.slice none 0 0)] = xs2 at HO2 HX2
      obtain ⟨la2, lc2, e8⟩ := own_slice HO2.out
      subst e8
      clear ho2 hg2 hb2
      go_wp2_with fail
      go_roundw
      case rel => exact ⟨j + 1, xs2, by omega, by go_num, HX2, HO2, HK2⟩
      case measure => simp [intOf]; omega
     ·obtain rfl : j = 16 + t8 := by omega
      have hj1 : ¬ ((16 + t8 : Nat) : Int) < 16 + (t8 : Int) := by omega
      obtain ⟨J, hJ⟩ : ∃ J, xs.length = J := ⟨_, rfl⟩
      have hJ24 : J ≤ 23 := by have := HXS.out.1; omega
      rw [hJ] at HOX
      obtain ⟨a9, c9, e8⟩ := own_slice HOX.out
      subst e8
      have HJ := Lib.hid hJ
      clear hJ
      have HG8 := Lib.hid (res_kept HGC.out.1 HKX.out (by simp))
      have hzx := HKX.out.size
      go_wp2_with (refine wpList_store_to (by rfl) 40 _ _ (by rfl) g (k * 20 + 3) _ 42 HG8.out #[.int .i64 9, .string ⟨#[]⟩, .int .i64 0, .int .i64 0, .int .i64 0, .int .i64 0, .int .i64 0, .slice a9 J c9] (by rfl) (by rfl) info40s (by show k * 20 + 3 + 8 ≤ _; have h1 := HGC.out.2.2.1; have h2 : m * 20 ≤ cp * 20 := Nat.mul_le_mul_right _ hgn; omega) (by simp [Value.oneCell']) _ rfl (fun v9 hV hkV => ?_); have HG9 := Lib.hid hV; have K9 := Lib.hid hkV; clear hV hkV)
      go_meet
      have hO9 : v9.ownsRow wc.heap.size 40 8 (.slice a9 J c9) xs.length (xs.flatMap cC) := by rw [HJ.out]; exact own_row HOX.out K9.out hgl
      have hsz : Ru.sizes (xs.map (·.1)) = J := by rw [← HJ.out]; exact sizes_any fun z hz => HXS.out.2 z hz
      refine ⟨qs.set k ⟨⟨x.r.name, x.r.prio, x.r.what, x.r.value, .mk 9 [] 0 .none (xs.map (·.1)), x.r.b⟩, .slice a9 J c9, x.b⟩, by rw [List.length_set, HQL.out]; omega, Lib.hid (OutIs.put (x := x) (off := 3) (vs := cC (.mk 9 [] 0 .none (xs.map (·.1)), .slice a9 J c9)) (HO.out.keep HKX.out) HQL.out hkm HX.out hgb hgn HGC.out.2.1 HGC.out.2.2.1 HGC.out.2.2.2 (by show 3 + 8 ≤ 20; omega) rfl HG9.out K9.out ⟨tree_own (base := wc.heap.size) (xs := xs) rfl hO9 (fun b hb => .inr ⟨by omega, fun e => by have e : g = b := Option.some.inj e; omega⟩) (fun z hz => by rw [HXS.out.2 z hz]; exact TreeP.leaf rfl), ((HXT.out.2.keep HKX.out).row K9.out (tb_no hgb))⟩ ⟨HXF.out.1, .mk _ _ _ _ _ (by simp) (by rw [List.length_map, HJ.out]; omega) (fun d hd => ?_), HXF.out.2.2.1, by show Ru.size _ ≤ M + 1; rw [Ru.size_mk, hsz]; omega, by have := HXF.out.2.2.2.2; show Ru.size x.r.b ≤ M + 1; omega⟩ (by omega))⟩
      obtain ⟨z, hz, rfl⟩ := List.mem_map.1 hd
      rw [HXS.out.2 z hz]
      exact .mk _ _ _ _ _ (by simp) (by simp) (by simp)
   ·skip
    have kA : Hid (Kp wc (wc.alloc (.cells #[str x.r.name, .int .i64 x.r.prio, .int .i64 x.r.what, .int .i64 x.r.a.op, str x.r.a.text, .int .i64 x.r.a.n, .int .i64 x.r.a.box.x0, .int .i64 x.r.a.box.y0, .int .i64 x.r.a.box.x1, .int .i64 x.r.a.box.y1, .slice a1 m1 p1, .int .i64 x.r.b.op, str x.r.b.text, .int .i64 x.r.b.n, .int .i64 x.r.b.box.x0, .int .i64 x.r.b.box.y0, .int .i64 x.r.b.box.x1, .int .i64 x.r.b.box.y1, .slice a2 m2 p2, .int .i64 x.r.value] 42)) none) := Lib.hid ((Kp.refl _ none).alloc _)
    have HI1 : Hid (IsList 20 rC (wc.alloc (.cells #[str x.r.name, .int .i64 x.r.prio, .int .i64 x.r.what, .int .i64 x.r.a.op, str x.r.a.text, .int .i64 x.r.a.n, .int .i64 x.r.a.box.x0, .int .i64 x.r.a.box.y0, .int .i64 x.r.a.box.x1, .int .i64 x.r.a.box.y1, .slice a1 m1 p1, .int .i64 x.r.b.op, str x.r.b.text, .int .i64 x.r.b.n, .int .i64 x.r.b.box.x0, .int .i64 x.r.b.box.y0, .int .i64 x.r.b.box.x1, .int .i64 x.r.b.box.y1, .slice a2 m2 p2, .int .i64 x.r.value] 42)) (.slice (some ⟨wc.heap.size, 0, none⟩) 1 1) [x]) := Lib.hid (by
     have h := isList_own (m := 20) (f := rC) (fun _ => rfl) (ownr_one x (w := wc) (base := 0) (Nat.zero_le _))
     rw [HXE.out] at h
     exact h)
    have HOW : Hid ((wc.alloc (.cells #[str x.r.name, .int .i64 x.r.prio, .int .i64 x.r.what, .int .i64 x.r.a.op, str x.r.a.text, .int .i64 x.r.a.n, .int .i64 x.r.a.box.x0, .int .i64 x.r.a.box.y0, .int .i64 x.r.a.box.x1, .int .i64 x.r.a.box.y1, .slice a1 m1 p1, .int .i64 x.r.b.op, str x.r.b.text, .int .i64 x.r.b.n, .int .i64 x.r.b.box.x0, .int .i64 x.r.b.box.y0, .int .i64 x.r.b.box.x1, .int .i64 x.r.b.box.y1, .slice a2 m2 p2, .int .i64 x.r.value] 42)).ownsRow (w.heap.size + 1) 42 20 (.slice (some ⟨g, 0, none⟩) m cp) m (qs.flatMap rC)) := Lib.hid (own_kp (by have h := HO.out.own; rw [HQL.out] at h; exact h) kA.out)
    have hwz := Nat.lt_of_le_of_lt hgb hgl
    go_wp2_with (first | (refine wpList_load_mid (by rfl) 42 _ (by rfl) g (k * 20) (by rfl) #[str x.r.name, .int .i64 x.r.prio, .int .i64 x.r.what, .int .i64 x.r.a.op, str x.r.a.text, .int .i64 x.r.a.n, .int .i64 x.r.a.box.x0, .int .i64 x.r.a.box.y0, .int .i64 x.r.a.box.x1, .int .i64 x.r.a.box.y1, .slice a1 m1 p1, .int .i64 x.r.b.op, str x.r.b.text, .int .i64 x.r.b.n, .int .i64 x.r.b.box.x0, .int .i64 x.r.b.box.y0, .int .i64 x.r.b.box.x1, .int .i64 x.r.b.box.y1, .slice a2 m2 p2, .int .i64 x.r.value].toList _ HXR.out Tryz.underlying42 (by rfl) info42 ?_) | (at_builtin; go_must (refine app_rules (by rfl) _ _ (w.heap.size + 1) (by rfl) (.slice (some ⟨g, 0, none⟩) m cp) m _ (by rfl) HOW.out _ [x] (by rfl) HI1.out (by intro q hq; rw [List.mem_singleton] at hq; subst hq; exact ⟨⟨_, _, _, HXA.out⟩, _, _, _, HXB.out⟩) (by simp; omega) (by have := kA.out.size; omega) ?_)))
    intro v2 w6 ho2 hg2 hb2
    have HO2 : Hid (OutIs M w q0 q1 q2 w6 v2 (qs ++ [x])) := Lib.hid (OutIs.snoc HO.out kA.out rfl (by rw [HQL.out]; simpa using ho2) hg2 (by simpa using hb2) HXT.out HXF.out)
    have HL2 : Hid ((qs ++ [x]).length ≤ n + 30) := Lib.hid (by rw [List.length_append, HQL.out]; simp; omega)
    generalize qs ++ [x] = xs2 at HO2 HL2
    obtain ⟨a9, c9, e9⟩ := own_slice HO2.out.own
    subst e9
    clear ho2 hg2 hb2
    go_wp2_with fail
    go_meet
    exact ⟨xs2, HL2.out, Lib.hid (HO2.out.up (by omega))⟩
   ·go_wp2_with fail
    go_loopw [5, 10] (fun lv i wr => ∃ (j : Nat) (ys : List RV), j ≤ 20 + t8 ∧ i = .int .i64 (j : Int) ∧ Hid (ys.length = m + j) ∧ Hid (OutIs M w q0 q1 q2 wr lv ys)) (fun _ i _ => 20 + t8 - (intOf i).toNat)
    case atStart => exact ⟨0, qs, by omega, rfl, Lib.hid (by rw [HQL.out]; rfl), HO⟩
    case round =>
     obtain ⟨j, ys, hj, rfl, HYL, HOY⟩ := hrel
     have hj0 : (0 : Int) ≤ (j : Int) := by omega
     obtain ⟨la, lc, e8⟩ := own_slice HOY.out.own
     subst e8
     by_cases hlt : j < 20 + t8
     ·have hj1 : (j : Int) < 20 + (t8 : Int) := by omega
      have hj27 : (j : Int) ≤ 27 := by omega
      obtain ⟨u, hu⟩ : ∃ u : UInt8, UInt8.ofNat (97 + j) = u := ⟨_, rfl⟩
      have hun : u.toNat = 97 + j := by rw [← hu]; simp; omega
      have hw8 : IntKind.u8.wrap (97 + (j : Int)) = 97 + (j : Int) := by rw [show IntKind.u8.wrap (97 + (j : Int)) = (97 + (j : Int)) % 256 from rfl]; omega
      have hw6 : IntKind.i64.wrap (97 + (j : Int)) = 97 + (j : Int) := by rw [IntKind.wrap_i64]; omega
      have hcv : (convert 72 9 (.slice (some ⟨wr.heap.size, 0, none⟩) 1 1)).run Tryz.prog (wr.alloc (.cells #[.int .u8 (97 + (j : Int))] 5)) = .ok (.string ⟨#[u]⟩) (wr.alloc (.cells #[.int .u8 (97 + (j : Int))] 5)) :=
       run_convert_bytes_back (P := Tryz.prog) (wr.alloc (.cells #[.int .u8 (97 + (j : Int))] 5)) 72 9 5 ⟨wr.heap.size, 0, none⟩ 1 [u] Tryz.underlying72 Tryz.underlying5 Tryz.underlying9 (fun i hi => by
        have : i = 0 := by simpa using hi
        subst this
        show (wr.alloc _).cell? ⟨wr.heap.size, 0 + 0, none⟩ = _
        simp only [World.cell?, heap_alloc_new]
        simp only [List.getElem_cons_zero, hun]
        first | (simp; done) | (simp; omega))
      have hcat : (⟨#[109]⟩ : ByteArray) ++ ⟨#[u]⟩ = ⟨#[109, u]⟩ := cat_eq [109] [u]
      have kA : Hid (Kp wr ((wr.alloc (.cells #[.int .u8 (97 + (j : Int))] 5)).alloc (.cells #[.string ⟨#[109, u]⟩, .int .i64 0, .int .i64 2, .int .i64 1, .string ⟨#[]⟩, .int .i64 0, .int .i64 0, .int .i64 0, .int .i64 0, .int .i64 0, .slice none 0 0, .int .i64 1, .string ⟨#[]⟩, .int .i64 0, .int .i64 0, .int .i64 0, .int .i64 0, .int .i64 0, .slice none 0 0, .int .i64 0] 42)) none) := Lib.hid (((Kp.refl _ none).alloc _).alloc _)
      have HI1 : Hid (IsList 20 rC ((wr.alloc (.cells #[.int .u8 (97 + (j : Int))] 5)).alloc (.cells #[.string ⟨#[109, u]⟩, .int .i64 0, .int .i64 2, .int .i64 1, .string ⟨#[]⟩, .int .i64 0, .int .i64 0, .int .i64 0, .int .i64 0, .int .i64 0, .slice none 0 0, .int .i64 1, .string ⟨#[]⟩, .int .i64 0, .int .i64 0, .int .i64 0, .int .i64 0, .int .i64 0, .slice none 0 0, .int .i64 0] 42)) (.slice (some ⟨(wr.alloc (.cells #[.int .u8 (97 + (j : Int))] 5)).heap.size, 0, none⟩) 1 1) [(⟨⟨[109, u], 0, 2, 0, Ru.cAny, Ru.cAny⟩, .slice none 0 0, .slice none 0 0⟩ : RV)]) := Lib.hid (isList_own (m := 20) (f := rC) (fun _ => rfl) (ownr_one (⟨⟨[109, u], 0, 2, 0, Ru.cAny, Ru.cAny⟩, .slice none 0 0, .slice none 0 0⟩ : RV) (base := 0) (Nat.zero_le _)))
      have HOW : Hid (((wr.alloc (.cells #[.int .u8 (97 + (j : Int))] 5)).alloc (.cells #[.string ⟨#[109, u]⟩, .int .i64 0, .int .i64 2, .int .i64 1, .string ⟨#[]⟩, .int .i64 0, .int .i64 0, .int .i64 0, .int .i64 0, .int .i64 0, .slice none 0 0, .int .i64 1, .string ⟨#[]⟩, .int .i64 0, .int .i64 0, .int .i64 0, .int .i64 0, .int .i64 0, .slice none 0 0, .int .i64 0] 42)).ownsRow (w.heap.size + 1) 42 20 (.slice la ys.length lc) ys.length (ys.flatMap rC)) := Lib.hid (own_kp HOY.out.own kA.out)
      have hyl : ys.length ≤ 300 := by have := HYL.out; omega
      have hwz := lt_of_block HOY.out.q
      have hsz9 : (wr.alloc (.cells #[.int .u8 (97 + (j : Int))] 5)).heap.size = wr.heap.size + 1 := by simp
      rw [hsz9] at HI1
      clear hu hun
      go_wp2_with (at_builtin; go_must (refine app_rules (by rfl) _ _ (w.heap.size + 1) (by rfl) (.slice la ys.length lc) ys.length _ (by rfl) HOW.out _ [(⟨⟨[109, u], 0, 2, 0, Ru.cAny, Ru.cAny⟩, .slice none 0 0, .slice none 0 0⟩ : RV)] (by rfl) HI1.out (by intro q hq; rw [List.mem_singleton] at hq; subst hq; exact ⟨⟨_, _, _, rfl⟩, _, _, _, rfl⟩) (by simp; omega) (by have := kA.out.size; omega) ?_))
      intro v2 w6 ho2 hg2 hb2
      have HO2 : Hid (OutIs M w q0 q1 q2 w6 v2 (ys ++ [(⟨⟨[109, u], 0, 2, 0, Ru.cAny, Ru.cAny⟩, .slice none 0 0, .slice none 0 0⟩ : RV)])) := Lib.hid (OutIs.snoc HOY.out kA.out rfl (by simpa using ho2) hg2 (by simpa using hb2) ⟨TreeP.leaf rfl, TreeP.leaf rfl⟩ ⟨by simp, .mk _ _ _ _ _ (by simp) (by simp) (by simp), .mk _ _ _ _ _ (by simp) (by simp) (by simp), (rule0_fit M (by omega)).2.2.2.1, (rule0_fit M (by omega)).2.2.2.1⟩)
      have HL2 : Hid ((ys ++ [(⟨⟨[109, u], 0, 2, 0, Ru.cAny, Ru.cAny⟩, .slice none 0 0, .slice none 0 0⟩ : RV)]).length = m + (j + 1)) := Lib.hid (by rw [List.length_append, HYL.out]; rfl)
      generalize ys ++ [(⟨⟨[109, u], 0, 2, 0, Ru.cAny, Ru.cAny⟩, .slice none 0 0, .slice none 0 0⟩ : RV)] = ys2 at HO2 HL2
      obtain ⟨la2, lc2, e8⟩ := own_slice HO2.out.own
      subst e8
      clear ho2 hg2 hb2 hw8 hw6 hcv hcat
      go_wp2_with fail
      go_roundw
      case rel => exact ⟨j + 1, ys2, by omega, by go_num, HL2, HO2⟩
      case measure => simp [intOf]; omega
     ·obtain rfl : j = 20 + t8 := by omega
      have hj1 : ¬ ((20 + t8 : Nat) : Int) < 20 + (t8 : Int) := by omega
      go_wp2_with fail
      go_meet
      exact ⟨ys, by rw [HYL.out]; omega, Lib.hid (HOY.out.up (by omega))⟩
  case rest =>
   obtain ⟨qs2, hq2, HO2⟩ := hcut
   obtain ⟨a9, c9, e9⟩ := own_slice HO2.out.own
   subst e9
   go_wp2_with fail
   go_ret
   exact ⟨qs2, a9, c9, rfl, (own_lies (m := 20) (f := rC) (fun _ => rfl) HO2.out.own).2, fun p hp => ⟨(HO2.out.tree p hp).1.tree, (HO2.out.tree p hp).2.tree⟩, HO2.out.fit, hq2, HO2.out.kp⟩

end Go.Proofs.YtnchipahdfbliaaGreatDoor

