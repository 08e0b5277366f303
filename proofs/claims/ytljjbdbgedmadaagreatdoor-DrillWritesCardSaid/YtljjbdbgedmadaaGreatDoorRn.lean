/- The reference's Norm: holes put in one by one. Conditions: at most 1000 holes, each of at most 1000 edges. -/
import Derived.Test.YtljjbdbgedmadaaGreatDoorBf
import Derived.Test.YtljjbdbgedmadaaGreatDoorMz
import Derived.Test.YtljjbdbgedmadaaGreatDoorCy
set_option maxHeartbeats 16000000
set_option maxRecDepth 100000
namespace Go.Proofs.YtljjbdbgedmadaaGreatDoor.Dl
open Go Go.Proofs.YtljjbdbgedmadaaGreatDoor
theorem insB_at {α : Type} {lt : α → α → Bool} {h : α} : ∀ (A B : List α), (∀ x ∈ A, lt h x = true) → (∀ x ∈ B.head?, lt h x = false) → insB lt h (A ++ B) = A ++ h :: B
 | [], [], _, _ => rfl
 | [], b :: B, _, hb => by
  have := hb b (by simp)
  rw [List.nil_append, insB, if_neg (by rw [this]; simp)]; rfl
 | a :: A, B, ha, hb => by
  rw [List.cons_append, insB, if_pos (ha a (by simp)), insB_at A B (fun x hx => ha x (by simp [hx])) hb]; rfl
theorem sortB_put {α : Type} {lt : α → α → Bool} {l out : List α} {h : α} (ho : sortB lt l = out) (j : Nat) (hj : j ≤ out.length) (hd : ∀ x ∈ out.drop j, lt h x = true) (hb : j = 0 ∨ ∃ q, lt h (out[j - 1]'q) = false) : sortB lt (l ++ [h]) = out.take j ++ h :: out.drop j := by
 have h1 : sortB lt (l ++ [h]) = (insB lt h out.reverse).reverse := by
  rw [← ho]; unfold sortB; rw [List.foldl_append, List.reverse_reverse]; rfl
 have h2 : out.reverse = (out.drop j).reverse ++ (out.take j).reverse := by rw [← List.reverse_append, List.take_append_drop]
 rw [h1, h2, insB_at _ _ (fun x hx => hd x (List.mem_reverse.1 hx)) ?_]
 ·simp
 ·intro x hx
  rcases hb with rfl | ⟨q, hb⟩
  ·simp at hx
  ·rw [List.head?_reverse, List.getLast?_eq_getElem?, List.length_take] at hx
   rcases Nat.eq_zero_or_pos j with rfl | hp
   ·simp at hx
   ·rw [Nat.min_eq_left hj, List.getElem?_take_of_lt (by omega), List.getElem?_eq_getElem q] at hx
    simp at hx
    rw [← hx]; exact hb
end Go.Proofs.YtljjbdbgedmadaaGreatDoor.Dl
namespace Go.Proofs.YtljjbdbgedmadaaGreatDoor
open Go.RowKit Go.Sort
theorem splice_take (cur cs : List Value) (o N : Nat) (h : o + cs.length ≤ N) (hN : N ≤ cur.length) : (Go.splice cur o cs).take N = Go.splice (cur.take N) o cs := by
 unfold Go.splice; rw [List.take_append, List.take_append, List.take_take, List.take_take, List.length_take, List.drop_take]; rw [Nat.min_eq_right (show o ≤ N by omega), Nat.min_eq_left (show o ≤ N by omega), Nat.min_eq_left (show o ≤ cur.length by omega), List.take_of_length_le (show cs.length ≤ N - o by omega)]; rw [show N - o - cs.length = N - (o + cs.length) by omega]
theorem own_spliced {w w' : World} {base g cap n size o : Nat} {e : TypeId} {row cs : List Value} (h : w.ownsRow base e size (.slice (some ⟨g, 0, none⟩) n cap) n row)
  (hw : ∀ cur : Array Value, w.heap[g]? = some (.cells cur e (0, 0)) → w'.heap[g]? = some (.cells (Go.splice cur.toList o cs).toArray e (0, 0))) (ho : o + cs.length ≤ n * size) :
  w'.ownsRow base e size (.slice (some ⟨g, 0, none⟩) n cap) n (Go.splice row o cs) := by
 have hl : row.length = n * size := h.1
 have hsl : (Go.splice row o cs).length = n * size := by rw [length_splice _ _ _ (by omega), hl]
 refine ⟨hsl, ?_⟩
 rcases h.2 with ⟨h', _⟩ | ⟨g', cap', cur, h', hb, hg, hnc, hcm, hcs, ht⟩
 ·simp at h'
 ·simp only [Value.slice.injEq, Option.some.injEq, Addr.mk.injEq, and_true, true_and] at h'
  obtain ⟨rfl, rfl⟩ := h'
  have hle : n * size ≤ cap * size := Nat.mul_le_mul_right _ hnc
  have hcl : cur.toList.length = cap * size := by simpa using hcs
  exact .inr ⟨g, cap, _, rfl, hb, hw cur hg, hnc, hcm, by rw [List.size_toArray, length_splice _ _ _ (by omega), hcl], by rw [List.toList_toArray, splice_take _ _ _ _ ho (by omega), ht]⟩
theorem splice_flat {α : Type} (m : Nat) (f : α → List Value) (hm : ∀ x, (f x).length = m) (L M : List α) (p : Nat) : Go.splice (L.flatMap f) (p * m) (M.flatMap f) = (L.take p ++ (M ++ L.drop (p + M.length))).flatMap f := by
 have ht : ∀ k, (L.flatMap f).take (k * m) = (L.take k).flatMap f := fun k => by
  conv => lhs; rw [← List.take_append_drop k L, List.flatMap_append]
  by_cases hk : k ≤ L.length
  ·exact List.take_left' (by rw [flat_len hm, List.length_take, Nat.min_eq_left hk])
  ·rw [List.drop_of_length_le (by omega), List.flatMap_nil, List.append_nil]
   exact List.take_of_length_le (by rw [flat_len hm, List.length_take]; exact Nat.mul_le_mul_right _ (Nat.min_le_left _ _))
 have hd : ∀ k, (L.flatMap f).drop (k * m) = (L.drop k).flatMap f := fun k => by
  conv => lhs; rw [← List.take_append_drop k L, List.flatMap_append]
  by_cases hk : k ≤ L.length
  ·exact List.drop_left' (by rw [flat_len hm, List.length_take, Nat.min_eq_left hk])
  ·rw [List.drop_of_length_le (i := k) (by omega), List.flatMap_nil, List.append_nil]
   exact List.drop_of_length_le (by rw [flat_len hm, List.length_take]; exact Nat.mul_le_mul_right _ (Nat.min_le_left _ _))
 unfold Go.splice; rw [ht, flat_len hm, ← Nat.add_mul, hd, List.flatMap_append, List.flatMap_append]
theorem flat_set6 (x : HT) : ∀ (L : List HT) (k : Nat) (_ : k < L.length), ((((((L.flatMap htC).set (k * 6) (I6 x.h.s.k)).set (k * 6 + 1) (.slice x.ea x.h.s.es.length x.ec)).set (k * 6 + 2) (I6 x.h.s.r)).set (k * 6 + 3) (I6 x.h.f)).set (k * 6 + 4) (I6 x.h.t)).set (k * 6 + 5) (.bool x.h.pl) = (L.set k x).flatMap htC
 | [], _, h => by simp at h
 | y :: L, 0, _ => by simp [htC]
 | y :: L, k + 1, h => by
  have ih := flat_set6 x L k (by simpa using h)
  have e : ∀ (R : List Value) (i : Nat) (u : Value), (htC y ++ R).set (6 + i) u = htC y ++ R.set i u := fun R i u => by
   rw [List.set_append_right _ _ (by simp [htC])]
   simp [htC]
  have h0 : (k + 1) * 6 = 6 + k * 6 := by omega
  have hj : ∀ j, (k + 1) * 6 + j = 6 + (k * 6 + j) := fun j => by omega
  rw [List.set_cons_succ, List.flatMap_cons, List.flatMap_cons, hj, hj, hj, hj, hj, h0, e, e, e, e, e, e, ih]
theorem put_list {α : Type} (us : List α) (z x : α) (j : Nat) (hj : j ≤ us.length) : ((us ++ [z]).take (j + 1) ++ (us.drop j ++ (us ++ [z]).drop (j + 1 + (us.drop j).length))).set j x = us.take j ++ x :: us.drop j := by
 have e1 : (us ++ [z]).drop (j + 1 + (us.drop j).length) = [] := List.drop_of_length_le (by simp; omega)
 have hl : j < (us ++ [z]).length := by simp; omega
 have e2 : (us ++ [z]).take (j + 1) = us.take j ++ [(us ++ [z])[j]] := by rw [List.take_succ_eq_append_getElem hl, List.take_append_of_le_length hj]
 rw [e1, e2, List.append_nil, List.append_assoc, List.set_append_right _ _ (by rw [List.length_take, Nat.min_eq_left hj]; exact Nat.le_refl _), List.length_take, Nat.min_eq_left hj, Nat.sub_self]
 rfl
theorem wrap_upN (j : Nat) (h : j ≤ 1000000) : wrap64 ((j : Int) + 1) = ((j + 1 : Nat) : Int) ∧ IntKind.i64.wrap ((j : Int) + 1) = ((j + 1 : Nat) : Int) := ⟨by unfold wrap64; omega, by rw [IntKind.wrap_i64]; omega⟩
theorem flat_drop {α : Type} {m : Nat} {f : α → List Value} (hm : ∀ x, (f x).length = m) (L : List α) (k : Nat) (hk : k ≤ L.length) : (L.flatMap f).drop (k * m) = (L.drop k).flatMap f := by
 conv => lhs; rw [← List.take_append_drop k L, List.flatMap_append]
 exact List.drop_left' (by rw [flat_len hm, List.length_take, Nat.min_eq_left hk])
def zHT : HT := ⟨⟨⟨0, [], 0⟩, 0, 0, false⟩, none, 0⟩
def RnRel (ts : List HT) (n : Nat) (w : World) (v i : Value) (wr : World) : Prop := ∃ (k : Nat) (us : List HT), k ≤ n ∧ i = I6 (k : Int) ∧ us.length = k ∧ us.map (·.h) = Dl.norm ((ts.take k).map (·.h)) ∧ Kp w wr none ∧ wr.ownsRow w.heap.size 52 6 v k (us.flatMap htC) ∧ ∀ t ∈ us, LiesOff 7 edC wr t.ea t.ec t.h.s.es v
theorem rnorm_any (ts : List HT) (n : Nat) (hn : ts.length = n) (ao : Option Addr) (cap : Nat) (w : World) (hl : HolesAt w ao cap ts) (hg : ∀ t ∈ ts, t.h.s.es.length ≤ 1000) (hn9 : n ≤ 1000) : Calls Tryz.prog 25 #[.slice ao n cap] w (ZMoved w (Dl.norm (ts.map (·.h)))) := by
 have mixed := mixedT; have FA := oh hl; have HN := oh hn; have HGG := oh hg
 obtain ⟨i0, hi, hz0, hz1, hz2⟩ := info_parts infoHole
 obtain ⟨i1, hj1, hy0, hy1, hy2⟩ := info_parts infoEd
 clear hl hn hg
 go_enter Tryz.func25, Tryz.ntmps25
 go_wp2_with fail
 go_loopw [3, 4] (fun v i wr => RnRel ts n w v i wr) (fun _ i _ => n - (intOf i).toNat)
 case atStart => exact ⟨0, [], Nat.zero_le _, rfl, rfl, rfl, Kp.refl _ _, World.ownsRow_nil _ _ _ _, fun t h => absurd h (by simp)⟩
 case round =>
  obtain ⟨k, us, hk, rfl, hlen, hmap, hK, hO, hoff⟩ := hrel
  obtain ⟨ua, uc, rfl⟩ := own_slice hO
  have HK := oh hK; have HOW := oh hO; have HLEN := oh hlen; have HMAP := oh hmap; have HOFF := oh hoff; clear hK hO hlen hmap hoff
  have hk0 := nn k
  have hn0 := nn n
  by_cases hlt : k < n
  ·have hk1 : (k : Int) < (n : Int) := by omega
   have hkl : k < ts.length := by rw [HN.out]; exact hlt
   obtain ⟨b, off, rfl, hcap, hbs, hcx⟩ := FA.out.ho (k := k) hkl
   have hca : n ≤ cap := by have := HN.out; omega
   have hle := FA.out.2 _ (List.getElem_mem hkl)
   have hgg := HGG.out _ (List.getElem_mem hkl)
   have hxx := hcx wr HK.out
   obtain ⟨x, hx⟩ : ∃ e, ts[k] = e := ⟨_, rfl⟩
   have HTK : Hid (ts.take (k + 1) = ts.take k ++ [x]) := oh (by rw [List.take_add_one, List.getElem?_eq_getElem hkl, hx]; rfl)
   rw [hx] at hle hgg hxx; obtain ⟨⟨⟨sk, es, sr⟩, xf, xt, xp⟩, xa, xc⟩ := x
   dsimp only at hle hgg hxx
   obtain ⟨xn, hxn⟩ : ∃ q, es.length = q := ⟨_, rfl⟩
   rw [hxn] at hxx hgg; have HES := oh hxn; have HLE := oh (hle.keep HK.out); have HGX := oh hgg; obtain ⟨x0, x1, x2, x3, x4, x5⟩ := hxx; clear hle hgg hx hcx hxn hkl hcap; go_upto_region 6 with fail
   clear x0 x1 x2 x3 x4 x5
   have HB0 := oh (heap_alloc_new wr (.cells #[I6 sk, .slice xa xn xc, I6 sr, I6 xf, I6 xt, .bool xp] 52))
   have K1 : Hid (Kp wr (wr.alloc (.cells #[I6 sk, .slice xa xn xc, I6 sr, I6 xf, I6 xt, .bool xp] 52)) none) := oh ((Kp.refl wr none).alloc _)
   obtain ⟨B, hB⟩ : ∃ z, wr.heap.size = z := ⟨_, rfl⟩
   have HBB : Hid (wr.heap.size ≤ B) := oh (by omega)
   generalize wr.alloc (.cells #[I6 sk, .slice xa xn xc, I6 sr, I6 xf, I6 xt, .bool xp] 52) = w1 at *
   rw [hB] at HB0 ⊢; clear hB
   have x1 := hcell (blk HB0.out ((Kp.refl w1 none).alloc (.cells #[] 123))) 1 rfl
   go_wp2_with (at_builtin; go_must (refine wpList_app (f := edC) (by rfl) (.tmp 17) (.tmp 20) w1.heap.size 48 123 (by rfl) i1 _ 7 56 Tryz.underlying48 hj1 hy0 hy1 hy2 rfl (by omega) (fun _ => rfl) ed_one (.slice (some ⟨w1.heap.size, 0, none⟩) 0 0) 0 [] (by rfl) (World.ownsRow_made w1 #[] 0 (Nat.le_refl _) (by unfold maxLen; omega) rfl) (.slice xa xn xc) es (by rfl) (by have h := ((HLE.out.keep K1.out).keep ((Kp.refl w1 none).alloc (.cells #[] 123))).list; rw [HES.out] at h; exact h) (by have := HES.out; have := HGX.out; unfold maxLen; omega) (by have := HES.out; have := HGX.out; omega) (by simp) ?_))
   intro v3 w3 ho hgr hbb; rw [HES.out] at ho
   try rw [Nat.zero_add] at ho
   obtain ⟨na, nc, rfl⟩ := own_slice ho
   have HNE : Hid (w3.ownsRow w1.heap.size 123 7 (.slice na xn nc) xn (es.flatMap edC)) := oh (by simpa using ho)
   have K3 : Hid (Kp w1 w3 none) := oh (Kp.row ((Kp.refl w1 none).alloc (.cells #[] 123)) hgr (fun q hq => by
    simp [Value.ownBlock] at hq; omega))
   have HB3 := oh (blk HB0.out K3.out); have HLT := oh (lt_of_block HB0.out); clear ho hgr hbb x1 HB0
   have x1 := hcell HB3.out 1 rfl
   have f1 := fz HB3.out 1
   go_upto_region 7 with fail
   have hs := heap_set (o := 1) (v := .slice na xn nc) HB3.out
   simp at hs
   have kz : Kp w3 (w3.setCell ⟨B, 1, none⟩ (.slice na xn nc)) (some B) := (Kp.refl w3 (some B)).set _
   have HB4 := oh hs
   have K4 : Hid (Kp wr (w3.setCell ⟨B, 1, none⟩ (.slice na xn nc)) none) := oh (Kp.of_own (K1.out.trans K3.out) kz HBB.out)
   have HLE4 : Hid (LiesAt 7 edC (w3.setCell ⟨B, 1, none⟩ (.slice na xn nc)) na nc es) := oh ((own_lies (m := 7) (f := edC) (fun _ => rfl) (by rw [HES.out]; exact HNE.out)).2.keepRow kz (fun p hp => by have h := (HNE.out.lt p.block (by rw [hp]; rfl)).1; have := HLT.out; omega))
   have HFR : Hid (∀ p, na = some p → wr.heap.size ≤ p.block) := oh (fun p hp => by have h := (HNE.out.lt p.block (by rw [hp]; rfl)).1; have := K1.out.size; omega)
   clear hs kz x1 f1 HB3 HNE K3 K1 HLE
   generalize w3.setCell ⟨B, 1, none⟩ (.slice na xn nc) = w4 at *
   obtain ⟨h, hh⟩ : ∃ h : Dl.Ho, (⟨⟨sk, es, sr⟩, xf, xt, xp⟩ : Dl.Ho) = h := ⟨_, rfl⟩
   have HH := oh hh; go_upto_region 8 with fail
   obtain ⟨wr0, hwr0⟩ : ∃ W, W = wr := ⟨_, rfl⟩
   rw [← hwr0] at HK HOW HOFF HBB HFR K4; clear hwr0
   have HBW : Hid (wr0.heap.size ≤ B) := oh HBB.out
   go_loopw [6] (fun a wi => ∃ j : Nat, j ≤ k ∧ a = I6 (j : Int) ∧ Hid (∀ y ∈ us.drop j, Dl.ltH h y.h = true) ∧ Hid (Gr w4 wi)) (fun a _ => (intOf a).toNat)
   case atStart => exact ⟨k, Nat.le_refl _, rfl, oh (by rw [List.drop_of_length_le (by rw [HLEN.out]; exact Nat.le_refl _)]; simp), oh (Gr.refl _)⟩
   case round =>
    obtain ⟨j, hj, rfl, HD, HG⟩ := hrel
    have hj0 := nn j
    have HB9 := oh (blk HB4.out HG.out.kp)
    have HX4 : Hid (At w4 ⟨h, na, nc⟩) := oh (by rw [← HH.out]; exact HLE4.out)
    have hx0 : h.s.k = sk ∧ h.s.es.length = xn ∧ h.s.r = sr ∧ h.f = xf ∧ h.t = xt ∧ h.pl = xp := by rw [← HH.out]; exact ⟨rfl, HES.out, rfl, rfl, rfl, rfl⟩
    have HX0 := oh hx0; clear hx0; have HJK := oh hj
    have HKW : Hid (Kp w wr none) := oh ((HK.out.trans K4.out).trans HG.out.kp)
    have HOI : Hid (wr.ownsRow w.heap.size 52 6 (.slice ua k uc) k (us.flatMap htC)) := oh (own_kp HOW.out (K4.out.trans HG.out.kp))
    have HREL0 : Hid (∀ i : Nat, i + 1 = j → (hi : i < us.length) → Dl.ltH h us[i].h = true → ∀ wj, Gr wr wj → ∃ j2 : Nat, j2 ≤ k ∧ Value.int .i64 (i : Int) = I6 (j2 : Int) ∧ Hid (∀ y ∈ us.drop j2, Dl.ltH h y.h = true) ∧ Hid (Gr w4 wj)) := oh fun i e hi hlt2 wj g => ⟨i, by omega, rfl, oh (fun y hy => by
     rw [List.drop_eq_getElem_cons hi] at hy
     rcases List.mem_cons.1 hy with rfl | hy
     ·exact hlt2
     ·exact HD.out y (by rw [← e]; exact hy)), oh (HG.out.trans g)⟩
    rcases Nat.eq_zero_or_pos j with hjp | hjp
    ·have HEX : Hid (j = 0 ∨ ∃ q : j - 1 < us.length, Dl.ltH h us[j - 1].h = false) := oh (.inl hjp)
     have g1 : decide ((0 : Int) < (j : Int)) = false := decide_eq_false (by omega)
     have g2 : ¬ 0 < j := by omega
     clear hjp; go_upto_region 8 with fail
     go_quiet_grown (fail)
     clear g1 g2
     have G5 : Hid (Gr w4 (Sort.grow (wr.drewN nq) osq)) := oh (HG.out.more nq osq)
     generalize Sort.grow (wr.drewN nq) osq = w5 at *
     have HB5 := oh (blk HB4.out G5.out.kp)
     have HO5 : Hid (w5.ownsRow w.heap.size 52 6 (.slice ua k uc) k (us.flatMap htC)) := oh (own_kp HOW.out (K4.out.trans G5.out.kp))
     have HOFF5 : Hid (∀ t ∈ us, LiesOff 7 edC w5 t.ea t.ec t.h.s.es (.slice ua k uc)) := oh fun t ht => ((HOFF.out t ht).keep (K4.out.weak _)).keep (G5.out.kp.weak _)
     have HLX : Hid (LiesOff 7 edC w5 na nc h.s.es (.slice ua k uc)) := oh (lies_off_fresh (w := wr0) (HX4.out.keep G5.out.kp) (fun q hq => (HOW.out.lt q hq).2) HFR.out)
     have HK5 : Hid (Kp w w5 none) := oh ((HK.out.trans K4.out).trans G5.out.kp)
     have HNRM : Hid ((us.take j ++ (⟨h, na, nc⟩ : HT) :: us.drop j).map (·.h) = Dl.norm ((ts.take (k + 1)).map (·.h))) := oh (by
      have er : (ts.take (k + 1)).map (·.h) = (ts.take k).map (·.h) ++ [h] := by simp only [HTK.out, List.map_append, List.map_cons, List.map_nil, HH.out]
      rw [er]; unfold Dl.norm
      have e := Dl.sortB_put (lt := Dl.ltH) (l := (ts.take k).map (·.h)) (out := us.map (·.h)) (h := h) (by have h1 := HMAP.out; unfold Dl.norm at h1; exact h1.symm) j (by rw [List.length_map, HLEN.out]; exact HJK.out) (fun z hz => by rw [← List.map_drop] at hz; obtain ⟨t, ht, rfl⟩ := List.mem_map.1 hz; exact HD.out t ht) (by rcases HEX.out with e | ⟨q, e⟩; exact .inl e; exact .inr ⟨by rw [List.length_map]; exact q, by rw [List.getElem_map]; exact e⟩)
      rw [e, List.map_append, List.map_cons, List.map_take, List.map_drop])
     have HVB : Hid (∀ q, (Value.slice ua k uc).ownBlock = some q → q < B) := oh (fun q hq => by have := (HOW.out.lt q hq).2; have := HBW.out; omega)
     clear HOW HOFF HK HG HB9 HX4 HKW HOI HREL0 HB4 HMAP HTK HD HEX
     have HOWA := oh (own_kp HO5.out ((Kp.refl w5 none).alloc (.cells #[I6 0, .slice none 0 0, I6 0, I6 0, I6 0, .bool false] 52)))
     have HDL : Hid (IsList 6 htC (w5.alloc (.cells #[I6 0, .slice none 0 0, I6 0, I6 0, I6 0, .bool false] 52)) (.slice (some ⟨w5.heap.size, 0, none⟩) 1 1) [zHT]) := oh (hole_list (w := w5) zHT)
     go_wp2_with (at_builtin; go_must (refine wpList_app (f := htC) (by rfl) (.tmp 39) (.tmp 41) w.heap.size 30 52 (by rfl) i0 _ 6 64 Tryz.underlying30 hi hz0 hz1 hz2 rfl (by omega) (fun _ => rfl) ht_one (.slice ua k uc) k (us.flatMap htC) (by rfl) HOWA.out _ [zHT] (by rfl) HDL.out (by unfold maxLen; simp; omega) (by simp; omega) (HK5.out.alloc _).size ?_))
     intro v3 w6 ho hgr hbb
     obtain ⟨k1, hk1⟩ : ∃ q, k + 1 = q := ⟨_, rfl⟩
     have HK1 := oh hk1
     change w6.ownsRow w.heap.size 52 6 v3 (k + 1) _ at ho
     rw [hk1] at ho
     rcases ho.2 with ⟨_, hz⟩ | ⟨g, gc, cur, rfl, hgb, hgh, hgc, hgm, hgs, hgt⟩
     ·omega
     have HO6 := oh ho
     have HOFF6 : Hid (∀ t ∈ us.take j ++ (⟨h, na, nc⟩ : HT) :: us.drop j, LiesOff 7 edC w6 t.ea t.ec t.h.s.es (.slice (some ⟨g, 0, none⟩) k1 gc)) := oh (fun t ht => by
      have hv : (Value.slice (some ⟨g, 0, none⟩) k1 gc).ownBlock = (Value.slice ua k uc).ownBlock ∨ ∃ n, (w5.alloc (.cells #[I6 0, .slice none 0 0, I6 0, I6 0, I6 0, .bool false] 52)).heap.size ≤ n ∧ (Value.slice (some ⟨g, 0, none⟩) k1 gc).ownBlock = some n := by
       rcases hbb with hbb | hbb
       ·exact .inl hbb
       ·exact .inr ⟨w5.heap.size + 1, by simp, hbb⟩
      have hku : ∀ t' : HT, LiesOff 7 edC w5 t'.ea t'.ec t'.h.s.es (.slice ua k uc) → LiesOff 7 edC w6 t'.ea t'.ec t'.h.s.es (.slice (some ⟨g, 0, none⟩) k1 gc) := fun t' h' => (h'.keep (((Kp.refl w5 none).alloc _).weak _)).turn hgr hv
      rcases List.mem_append.1 ht with ht | ht
      ·exact hku t (HOFF5.out t (List.mem_of_mem_take ht))
      ·rcases List.mem_cons.1 ht with rfl | ht
       ·exact hku _ HLX.out
       ·exact hku t (HOFF5.out t (List.mem_of_mem_drop ht)))
     have HK6 : Hid (Kp w w6 none) := oh (Kp.row (HK5.out.alloc _) hgr (fun q hq => (HOWA.out.lt q hq).1))
     have HB6 := oh (res_kept (blk HB5.out ((Kp.refl w5 none).alloc _)) hgr (fun q hq e => by have := HVB.out q hq; omega))
     have HGB := oh hgb; have HGC := oh hgc
     have HCUR : Hid (w6.heap[g]? = some (.cells cur 52 (0, 0)) ∧ cur.size = gc * 6 ∧ cur.toList.take (k1 * 6) = us.flatMap htC ++ [zHT].flatMap htC) := oh ⟨hgh, hgs, hgt⟩
     have HNB : Hid (g ≠ B) := oh (by
      rcases hbb with hbb | hbb
      ·have := HVB.out g hbb.symm; omega
      ·have h1 := Option.some.inj hbb; have h2 := lt_of_block HB5.out; simp at h1; omega)
     clear ho hgr hbb HOWA HDL HO5 HOFF5 HLX HB5 hk1 hgb hgh hgc hgm hgs hgt
     obtain ⟨q, hq⟩ : ∃ q, j + 1 = q := ⟨_, rfl⟩
     have hkk : k + 1 = k1 := HK1.out
     have hq0 := nn q
     have hq1 : (q : Int) ≤ (k1 : Int) := by have := HJK.out; omega
     have hq2 : q ≤ k1 := by have := HJK.out; omega
     have hj1 : (j : Int) ≤ (k1 : Int) := by omega
     have hj2 : j ≤ k1 := by omega
     have hjc : (gc = j) = False := eq_false (by have := HGC.out; have := HJK.out; omega)
     obtain ⟨hw2, hw3⟩ : wrap64 ((j : Int) + 1) = (q : Int) ∧ IntKind.i64.wrap ((j : Int) + 1) = (q : Int) := by rw [← hq]; exact wrap_upN j (by omega)
     have HQ := oh hq; clear hq hkk; go_upto_region 11 with fail
     refine wp_region_held_drew (S := fun V => Hid (Kp w V none)) (by kernel_rfl) (oh HK6.out.drew) (fun eh => ?_)
     refine tjH 0 rfl ?_; refine tjH 1 rfl ?_; refine tjH 2 rfl ?_; refine tjH 3 rfl ?_; refine tjH 4 rfl ?_; refine tjH 5 rfl ?_; refine tjH 6 rfl ?_; clear hw2 hw3; refine rdH 7 rfl (fun K hK => ?_)
     have gR : w6.drew.heap[g]? = some (.cells cur.toList.toArray 52 (0, 0)) := HCUR.out.1
     clear eh
     refine step_copy_k rfl (.tmp 46) (.tmp 49) 30 30 rfl 52 6 Tryz.underlying30 (by kernel_rfl) _ _ _ _ _ _ rfl rfl g (q * 6) cur.toList 52 gR ((us.drop j).flatMap htC) ?len (by omega) ?src ?fit ?one ?_
     case len =>
      rw [flat_len (m := 6) (fun _ => rfl), List.length_drop, HLEN.out]; have := HQ.out; have := HK1.out; congr 1; simp only [Nat.min_def]; split <;> omega
     case fit =>
      rw [flat_len (m := 6) (fun _ => rfl), List.length_drop, HLEN.out, Array.length_toList, HCUR.out.2.1, ← Nat.add_mul]; have := HQ.out; have := HK1.out; have := HGC.out; have := HJK.out; exact Nat.mul_le_mul_right _ (by omega)
     case one => intro u hu; obtain ⟨y9, _, hy9⟩ := List.mem_flatMap.1 hu; exact ht_one y9 u hy9
     case src =>
      intro h0; rw [flat_len (m := 6) (fun _ => rfl), List.length_drop, HLEN.out] at h0
      have hqc : ¬ gc = q := by have := HQ.out; have := HK1.out; have := HGC.out; omega
      refine ⟨by simp [hqc], _, by simp; rfl, fun i9 u hu => ?_⟩
      have hil : i9 < (k - j) * 6 := by have h1 := (List.getElem?_eq_some_iff.1 hu).1; rw [flat_len (m := 6) (fun _ => rfl), List.length_drop, HLEN.out] at h1; exact h1
      have e8 : (us.flatMap htC)[j * 6 + i9]? = some u := by rw [← List.getElem?_drop, flat_drop (m := 6) (fun _ => rfl) us j (by rw [HLEN.out]; exact HJK.out)]; exact hu
      have hce : cur.toList[j * 6 + i9]? = some u := by
       have e9 := congrArg (fun l => l[j * 6 + i9]?) HCUR.out.2.2
       simp only [List.getElem?_take] at e9
       rw [if_pos (by have := HK1.out; omega), List.getElem?_append_left (by rw [flat_len (m := 6) (fun _ => rfl), HLEN.out]; omega), e8] at e9
       exact e9
      have h8 := hcell gR (j * 6 + i9) (v := u) (by simpa using hce)
      rw [show (⟨g, j * 6, none⟩ : Addr).add i9 = ⟨g, j * 6 + i9, none⟩ by unfold Addr.add; split <;> simp_all]
      exact h8
     intro w7 hw7 hg7
     have HK7 : Hid (Kp w w7 none) := oh (Kp.of_own HK6.out.drew hg7 HGB.out)
     have HW7 := oh hw7.out
     have HG7 := oh hg7
     refine hK _ _ (oh HK7.out) (fun _ => ?_)
     clear hK K gR hw7 hg7; try simp only [Act.put, sm]
     refine wpAnyH_done (by kernel_rfl) ?_ _
     obtain ⟨M, hM⟩ : ∃ M, (us ++ [zHT]).take q ++ (us.drop j ++ (us ++ [zHT]).drop (q + (us.drop j).length)) = M := ⟨_, rfl⟩
     have hML : M.length = k1 := by rw [← hM]; simp only [List.length_append, List.length_take, List.length_drop, List.length_cons, List.length_nil, HLEN.out]; have := HQ.out; have := HK1.out; have := HJK.out; omega
     have HMS : Hid (M.set j (⟨h, na, nc⟩ : HT) = us.take j ++ (⟨h, na, nc⟩ : HT) :: us.drop j) := oh (by rw [← hM, ← HQ.out]; exact put_list us zHT _ j (by rw [HLEN.out]; exact HJK.out))
     have HO7 : Hid (w7.ownsRow w.heap.size 52 6 (.slice (some ⟨g, 0, none⟩) k1 gc) k1 (M.flatMap htC)) := oh (by
      have h1 := own_spliced (w' := w7) (o := q * 6) (cs := (us.drop j).flatMap htC) (own_kp HO6.out (Kp.refl w6 none).drew) (fun cur' hc' => by
       have e9 : some (Obj.cells cur' 52 (0, 0)) = some (Obj.cells cur 52 (0, 0)) := hc'.symm.trans HCUR.out.1
       injection e9 with e9; injection e9 with e9; rw [e9]; exact HW7.out) (by rw [flat_len (m := 6) (fun _ => rfl), List.length_drop, HLEN.out, ← Nat.add_mul]; have := HQ.out; have := HK1.out; have := HJK.out; exact Nat.mul_le_mul_right _ (by omega))
      rw [show us.flatMap htC ++ htC zHT = (us ++ [zHT]).flatMap htC by rw [List.flatMap_append]; simp, splice_flat 6 htC (fun _ => rfl), hM] at h1
      exact h1)
     have HB7 := oh ((HG7.out.block B (lt_of_block HB6.out) (fun e => HNB.out (Option.some.inj e).symm)).trans HB6.out)
     have HOFF7 : Hid (∀ t ∈ us.take j ++ (⟨h, na, nc⟩ : HT) :: us.drop j, LiesOff 7 edC w7 t.ea t.ec t.h.s.es (.slice (some ⟨g, 0, none⟩) k1 gc)) := oh fun t ht => ((HOFF6.out t ht).keep ((Kp.refl w6 none).drew.weak _)).keep HG7.out
     have hjM : j < M.length := by rw [hML]; have := HJK.out; have := HK1.out; omega
     have HSET := oh (flat_set6 (⟨h, na, nc⟩ : HT) M j hjM)
     have hcM : ∀ i9 (hi9 : i9 < 6), ∃ u, w7.cell? ⟨g, j * 6 + i9, none⟩ = some u := fun i9 hi9 => by
      have h9 := flat_get 6 htC (fun _ => rfl) M j i9 hjM (by simpa [htC] using hi9)
      have h8 := HO7.out.cells rfl (j * 6 + i9) _ h9
      rw [show ((⟨g, 0, none⟩ : Addr).add (j * 6 + i9)) = ⟨g, j * 6 + i9, none⟩ by unfold Addr.add; split <;> simp_all] at h8
      exact ⟨_, h8⟩
     obtain ⟨u0, c0⟩ := hcM 0 (by omega)
     obtain ⟨u1, c1⟩ := hcM 1 (by omega)
     obtain ⟨u2, c2⟩ := hcM 2 (by omega)
     obtain ⟨u3, c3⟩ := hcM 3 (by omega)
     obtain ⟨u4, c4⟩ := hcM 4 (by omega)
     obtain ⟨u5, c5⟩ := hcM 5 (by omega)
     simp only [Nat.add_zero] at c0
     have f0 := HO7.out.frozenAt (j * 6)
     have f1 := HO7.out.frozenAt (j * 6 + 1)
     have f2 := HO7.out.frozenAt (j * 6 + 2)
     have f3 := HO7.out.frozenAt (j * 6 + 3)
     have f4 := HO7.out.frozenAt (j * 6 + 4)
     have f5 := HO7.out.frozenAt (j * 6 + 5)
     have x0 := hcell HB7.out 0 rfl
     have x1 := hcell HB7.out 1 rfl
     have x2 := hcell HB7.out 2 rfl
     have x3 := hcell HB7.out 3 rfl
     have x4 := hcell HB7.out 4 rfl
     have x5 := hcell HB7.out 5 rfl
     have hj3 : (j : Int) < (k1 : Int) := by have := HJK.out; have := HK1.out; omega
     have hj4 : j < k1 := by omega
     clear hcM hjM HCUR HW7 hM hML hq0 hq1 hq2 hj1 hj2 hjc; go_upto_region 4 with fail
     clear c0 c1 c2 c3 c4 c5 f0 f1 f2 f3 f4 f5 x0 x1 x2 x3 x4 x5
     have o1 := HO7.out.stored (j * 6) (I6 sk)
     have o2 := o1.1.stored (j * 6 + 1) (.slice na xn nc)
     have o3 := o2.1.stored (j * 6 + 2) (I6 sr)
     have o4 := o3.1.stored (j * 6 + 3) (I6 xf)
     have o5 := o4.1.stored (j * 6 + 4) (I6 xt)
     have o6 := o5.1.stored (j * 6 + 5) (.bool xp)
     have kz := (((((o1.2.trans o2.2).trans o3.2).trans o4.2).trans o5.2).trans o6.2)
     have hset := HSET.out
     simp only [HX0.out.1, HX0.out.2.1, HX0.out.2.2.1, HX0.out.2.2.2.1, HX0.out.2.2.2.2.1, HX0.out.2.2.2.2.2] at hset
     have ho8 := o6.1
     rw [hset, HMS.out] at ho8; have HO8 := oh ho8; have HKZ := oh kz; clear o1 o2 o3 o4 o5 o6 kz hset ho8
     generalize (((((w7.setCell ⟨g, j * 6, none⟩ (I6 sk)).setCell ⟨g, j * 6 + 1, none⟩ (.slice na xn nc)).setCell ⟨g, j * 6 + 2, none⟩ (I6 sr)).setCell ⟨g, j * 6 + 3, none⟩ (I6 xf)).setCell ⟨g, j * 6 + 4, none⟩ (I6 xt)).setCell ⟨g, j * 6 + 5, none⟩ (.bool xp) = w8 at *
     have HREL : Hid (RnRel ts n w (.slice (some ⟨g, 0, none⟩) k1 gc) (I6 ((k : Int) + 1)) w8) := oh ⟨k1, us.take j ++ (⟨h, na, nc⟩ : HT) :: us.drop j, by have := HK1.out; omega, by rw [← HK1.out]; push_cast; rfl, by rw [List.length_append, List.length_cons, List.length_take, List.length_drop, HLEN.out]; have := HK1.out; have := HJK.out; omega, by rw [← HK1.out]; exact HNRM.out, Kp.of_own HK7.out HKZ.out HGB.out, HO8.out, fun t ht => (HOFF7.out t ht).keep HKZ.out⟩
     have HME : Hid (n - (intOf (I6 ((k : Int) + 1))).toNat < n - (intOf (I6 (k : Int))).toNat) := oh (by simp [intOf]; omega)
     go_wp2_with fail
     try rw [wrap_mid (n := (k : Int) + 1) (by omega) (by omega)]
     first | exact ⟨HREL.out, HME.out⟩ | (go_roundw; all_goals first | exact HREL.out | exact HME.out)
    ·obtain ⟨i, hij⟩ : ∃ i, i + 1 = j := ⟨j - 1, by omega⟩
     have hji : j - 1 = i := by omega
     have hq : i < us.length := by rw [HLEN.out]; omega
     by_cases hlt9 : Dl.ltH h (us[i]'hq).h = true
     ·have HREL1 := oh (HREL0.out i hij hq hlt9); have hlt2 := hlt9; clear hlt9
      have hHT : HolesAt wr ua uc us := ⟨(own_lies (m := 6) (f := htC) (fun _ => rfl) (by rw [HLEN.out]; exact HOI.out)).2, fun t ht => ((HOFF.out t ht).at.keep K4.out).keep HG.out.kp⟩
      obtain ⟨b2, off2, rfl, hcap2, hbs2, hcy⟩ := hHT.ho (k := i) hq
      have hle2 := fun V (kv : Kp wr V none) => (hHT.2 _ (List.getElem_mem hq)).keep kv
      obtain ⟨y, hy⟩ : ∃ y, us[i]'hq = y := ⟨_, rfl⟩
      rw [hy] at hcy hle2 hlt2; have HHT := oh hHT
      have hkc2 : k ≤ uc := by have := HLEN.out; omega
      have hbc : ∀ n os, Calls Tryz.prog 70 #[hV ⟨h, na, nc⟩, hV y] (Sort.grow (wr.drewN n) os) fun E w' => E = .returned (.bool (Dl.ltH h y.h)) ∧ Gr (Sort.grow (wr.drewN n) os) w' := fun n os => before_any ⟨h, na, nc⟩ y _ (HX4.out.keep (HG.out.trans ((Gr.refl wr).more n os)).kp) (hle2 _ ((Gr.refl wr).more n os).kp)
      rw [hlt2] at hbc
      obtain ⟨yn, hyn⟩ : ∃ n, y.h.s.es.length = n := ⟨_, rfl⟩
      have HYN := oh hyn; unfold hV Gr at hbc
      dsimp only at hbc
      simp only [HX0.out.1, HX0.out.2.1, HX0.out.2.2.1, HX0.out.2.2.2.1, HX0.out.2.2.2.2.1, HX0.out.2.2.2.2.2, HYN.out] at hbc
      rw [hyn] at hcy
      have x0 := fun n os => cell_grown (n := n) (os := os) (lt_of_block HB9.out) (hcell HB9.out 0 rfl)
      have x1 := fun n os => cell_grown (n := n) (os := os) (lt_of_block HB9.out) (hcell HB9.out 1 rfl)
      have x2 := fun n os => cell_grown (n := n) (os := os) (lt_of_block HB9.out) (hcell HB9.out 2 rfl)
      have x3 := fun n os => cell_grown (n := n) (os := os) (lt_of_block HB9.out) (hcell HB9.out 3 rfl)
      have x4 := fun n os => cell_grown (n := n) (os := os) (lt_of_block HB9.out) (hcell HB9.out 4 rfl)
      have x5 := fun n os => cell_grown (n := n) (os := os) (lt_of_block HB9.out) (hcell HB9.out 5 rfl)
      have y0 := fun n os => (hcy _ ((Gr.refl wr).more n os).kp).1
      have y1 := fun n os => (hcy _ ((Gr.refl wr).more n os).kp).2.1
      have y2 := fun n os => (hcy _ ((Gr.refl wr).more n os).kp).2.2.1
      have y3 := fun n os => (hcy _ ((Gr.refl wr).more n os).kp).2.2.2.1
      have y4 := fun n os => (hcy _ ((Gr.refl wr).more n os).kp).2.2.2.2.1
      have y5 := fun n os => (hcy _ ((Gr.refl wr).more n os).kp).2.2.2.2.2
      have g1 : decide ((0 : Int) < (j : Int)) = true := decide_eq_true (by omega)
      have g2 : 0 < j := hjp
      have hij2 : (j : Int) - 1 = (i : Int) := by omega
      have hw1 : wrap64 ((j : Int) - 1) = (i : Int) := by rw [hij2]; exact wrap_mid (by omega) (by omega)
      have hw2 : IntKind.i64.wrap ((j : Int) - 1) = (i : Int) := by rw [IntKind.wrap_i64, hij2]; omega
      have hi0 := nn i
      have hi1 : (i : Int) < (k : Int) := by have := HLEN.out; omega
      have HIJ := oh hij; clear hHT hcy hle2 hyn hcap2 hbs2 hij hij2 hji hjp; go_upto_region 8 with fail
      go_quiet_grown (first | (go_at_call 70; with_reducible refine Calls.grown_of (hbc _ _)))
      clear hbc x0 x1 x2 x3 x4 x5 y0 y1 y2 y3 y4 y5 g1 g2
      have HREL : Hid _ := oh (HREL1.out _ ((Gr.refl wr).more nq osq))
      have HME : Hid ((intOf (I6 (i : Int))).toNat < (intOf (I6 (j : Int))).toNat) := oh (by have := HIJ.out; simp [intOf]; omega)
      go_wp2_with fail
      first | exact ⟨HREL.out, HME.out⟩ | (go_roundw; all_goals first | exact HREL.out | exact HME.out)
     ·have hlt2 : Dl.ltH h (us[i]'hq).h = false := by simpa using hlt9
      have HEX : Hid (j = 0 ∨ ∃ q : j - 1 < us.length, Dl.ltH h us[j - 1].h = false) := oh (.inr ⟨by omega, by simp only [hji]; exact hlt2⟩)
      clear hlt9
      have hHT : HolesAt wr ua uc us := ⟨(own_lies (m := 6) (f := htC) (fun _ => rfl) (by rw [HLEN.out]; exact HOI.out)).2, fun t ht => ((HOFF.out t ht).at.keep K4.out).keep HG.out.kp⟩
      obtain ⟨b2, off2, rfl, hcap2, hbs2, hcy⟩ := hHT.ho (k := i) hq
      have hle2 := fun V (kv : Kp wr V none) => (hHT.2 _ (List.getElem_mem hq)).keep kv
      obtain ⟨y, hy⟩ : ∃ y, us[i]'hq = y := ⟨_, rfl⟩
      rw [hy] at hcy hle2 hlt2; have HHT := oh hHT
      have hkc2 : k ≤ uc := by have := HLEN.out; omega
      have hbc : ∀ n os, Calls Tryz.prog 70 #[hV ⟨h, na, nc⟩, hV y] (Sort.grow (wr.drewN n) os) fun E w' => E = .returned (.bool (Dl.ltH h y.h)) ∧ Gr (Sort.grow (wr.drewN n) os) w' := fun n os => before_any ⟨h, na, nc⟩ y _ (HX4.out.keep (HG.out.trans ((Gr.refl wr).more n os)).kp) (hle2 _ ((Gr.refl wr).more n os).kp)
      rw [hlt2] at hbc
      obtain ⟨yn, hyn⟩ : ∃ n, y.h.s.es.length = n := ⟨_, rfl⟩
      have HYN := oh hyn; unfold hV Gr at hbc
      dsimp only at hbc
      simp only [HX0.out.1, HX0.out.2.1, HX0.out.2.2.1, HX0.out.2.2.2.1, HX0.out.2.2.2.2.1, HX0.out.2.2.2.2.2, HYN.out] at hbc
      rw [hyn] at hcy
      have x0 := fun n os => cell_grown (n := n) (os := os) (lt_of_block HB9.out) (hcell HB9.out 0 rfl)
      have x1 := fun n os => cell_grown (n := n) (os := os) (lt_of_block HB9.out) (hcell HB9.out 1 rfl)
      have x2 := fun n os => cell_grown (n := n) (os := os) (lt_of_block HB9.out) (hcell HB9.out 2 rfl)
      have x3 := fun n os => cell_grown (n := n) (os := os) (lt_of_block HB9.out) (hcell HB9.out 3 rfl)
      have x4 := fun n os => cell_grown (n := n) (os := os) (lt_of_block HB9.out) (hcell HB9.out 4 rfl)
      have x5 := fun n os => cell_grown (n := n) (os := os) (lt_of_block HB9.out) (hcell HB9.out 5 rfl)
      have y0 := fun n os => (hcy _ ((Gr.refl wr).more n os).kp).1
      have y1 := fun n os => (hcy _ ((Gr.refl wr).more n os).kp).2.1
      have y2 := fun n os => (hcy _ ((Gr.refl wr).more n os).kp).2.2.1
      have y3 := fun n os => (hcy _ ((Gr.refl wr).more n os).kp).2.2.2.1
      have y4 := fun n os => (hcy _ ((Gr.refl wr).more n os).kp).2.2.2.2.1
      have y5 := fun n os => (hcy _ ((Gr.refl wr).more n os).kp).2.2.2.2.2
      have g1 : decide ((0 : Int) < (j : Int)) = true := decide_eq_true (by omega)
      have g2 : 0 < j := hjp
      have hij2 : (j : Int) - 1 = (i : Int) := by omega
      have hw1 : wrap64 ((j : Int) - 1) = (i : Int) := by rw [hij2]; exact wrap_mid (by omega) (by omega)
      have hw2 : IntKind.i64.wrap ((j : Int) - 1) = (i : Int) := by rw [IntKind.wrap_i64, hij2]; omega
      have hi0 := nn i
      have hi1 : (i : Int) < (k : Int) := by have := HLEN.out; omega
      have HIJ := oh hij; clear hHT hcy hle2 hyn hcap2 hbs2 hij hij2 hji hjp; go_upto_region 8 with fail
      go_quiet_grown (first | (go_at_call 70; with_reducible refine Calls.grown_of (hbc _ _)))
      clear hbc x0 x1 x2 x3 x4 x5 y0 y1 y2 y3 y4 y5 g1 g2; clear hw1 hw2 hi0 hi1 HIJ hlt2 HHT
      have G5 : Hid (Gr w4 (Sort.grow (wr.drewN nq) osq)) := oh (HG.out.more nq osq)
      generalize Sort.grow (wr.drewN nq) osq = w5 at *
      have HB5 := oh (blk HB4.out G5.out.kp)
      have HO5 : Hid (w5.ownsRow w.heap.size 52 6 (.slice (some ⟨b2, off2, none⟩) k uc) k (us.flatMap htC)) := oh (own_kp HOW.out (K4.out.trans G5.out.kp))
      have HOFF5 : Hid (∀ t ∈ us, LiesOff 7 edC w5 t.ea t.ec t.h.s.es (.slice (some ⟨b2, off2, none⟩) k uc)) := oh fun t ht => ((HOFF.out t ht).keep (K4.out.weak _)).keep (G5.out.kp.weak _)
      have HLX : Hid (LiesOff 7 edC w5 na nc h.s.es (.slice (some ⟨b2, off2, none⟩) k uc)) := oh (lies_off_fresh (w := wr0) (HX4.out.keep G5.out.kp) (fun q hq => (HOW.out.lt q hq).2) HFR.out)
      have HK5 : Hid (Kp w w5 none) := oh ((HK.out.trans K4.out).trans G5.out.kp)
      have HNRM : Hid ((us.take j ++ (⟨h, na, nc⟩ : HT) :: us.drop j).map (·.h) = Dl.norm ((ts.take (k + 1)).map (·.h))) := oh (by
       have er : (ts.take (k + 1)).map (·.h) = (ts.take k).map (·.h) ++ [h] := by simp only [HTK.out, List.map_append, List.map_cons, List.map_nil, HH.out]
       rw [er]; unfold Dl.norm
       have e := Dl.sortB_put (lt := Dl.ltH) (l := (ts.take k).map (·.h)) (out := us.map (·.h)) (h := h) (by have h1 := HMAP.out; unfold Dl.norm at h1; exact h1.symm) j (by rw [List.length_map, HLEN.out]; exact HJK.out) (fun z hz => by rw [← List.map_drop] at hz; obtain ⟨t, ht, rfl⟩ := List.mem_map.1 hz; exact HD.out t ht) (by rcases HEX.out with e | ⟨q, e⟩; exact .inl e; exact .inr ⟨by rw [List.length_map]; exact q, by rw [List.getElem_map]; exact e⟩)
       rw [e, List.map_append, List.map_cons, List.map_take, List.map_drop])
      have HVB : Hid (∀ q, (Value.slice (some ⟨b2, off2, none⟩) k uc).ownBlock = some q → q < B) := oh (fun q hq => by have := (HOW.out.lt q hq).2; have := HBW.out; omega)
      clear HOW HOFF HK HG HB9 HX4 HKW HOI HREL0 HB4 HMAP HTK HD HEX
      have HOWA := oh (own_kp HO5.out ((Kp.refl w5 none).alloc (.cells #[I6 0, .slice none 0 0, I6 0, I6 0, I6 0, .bool false] 52)))
      have HDL : Hid (IsList 6 htC (w5.alloc (.cells #[I6 0, .slice none 0 0, I6 0, I6 0, I6 0, .bool false] 52)) (.slice (some ⟨w5.heap.size, 0, none⟩) 1 1) [zHT]) := oh (hole_list (w := w5) zHT)
      go_wp2_with (at_builtin; go_must (refine wpList_app (f := htC) (by rfl) (.tmp 39) (.tmp 41) w.heap.size 30 52 (by rfl) i0 _ 6 64 Tryz.underlying30 hi hz0 hz1 hz2 rfl (by omega) (fun _ => rfl) ht_one (.slice (some ⟨b2, off2, none⟩) k uc) k (us.flatMap htC) (by rfl) HOWA.out _ [zHT] (by rfl) HDL.out (by unfold maxLen; simp; omega) (by simp; omega) (HK5.out.alloc _).size ?_))
      intro v3 w6 ho hgr hbb
      obtain ⟨k1, hk1⟩ : ∃ q, k + 1 = q := ⟨_, rfl⟩
      have HK1 := oh hk1
      change w6.ownsRow w.heap.size 52 6 v3 (k + 1) _ at ho
      rw [hk1] at ho
      rcases ho.2 with ⟨_, hz⟩ | ⟨g, gc, cur, rfl, hgb, hgh, hgc, hgm, hgs, hgt⟩
      ·omega
      have HO6 := oh ho
      have HOFF6 : Hid (∀ t ∈ us.take j ++ (⟨h, na, nc⟩ : HT) :: us.drop j, LiesOff 7 edC w6 t.ea t.ec t.h.s.es (.slice (some ⟨g, 0, none⟩) k1 gc)) := oh (fun t ht => by
       have hv : (Value.slice (some ⟨g, 0, none⟩) k1 gc).ownBlock = (Value.slice (some ⟨b2, off2, none⟩) k uc).ownBlock ∨ ∃ n, (w5.alloc (.cells #[I6 0, .slice none 0 0, I6 0, I6 0, I6 0, .bool false] 52)).heap.size ≤ n ∧ (Value.slice (some ⟨g, 0, none⟩) k1 gc).ownBlock = some n := by
        rcases hbb with hbb | hbb
        ·exact .inl hbb
        ·exact .inr ⟨w5.heap.size + 1, by simp, hbb⟩
       have hku : ∀ t' : HT, LiesOff 7 edC w5 t'.ea t'.ec t'.h.s.es (.slice (some ⟨b2, off2, none⟩) k uc) → LiesOff 7 edC w6 t'.ea t'.ec t'.h.s.es (.slice (some ⟨g, 0, none⟩) k1 gc) := fun t' h' => (h'.keep (((Kp.refl w5 none).alloc _).weak _)).turn hgr hv
       rcases List.mem_append.1 ht with ht | ht
       ·exact hku t (HOFF5.out t (List.mem_of_mem_take ht))
       ·rcases List.mem_cons.1 ht with rfl | ht
        ·exact hku _ HLX.out
        ·exact hku t (HOFF5.out t (List.mem_of_mem_drop ht)))
      have HK6 : Hid (Kp w w6 none) := oh (Kp.row (HK5.out.alloc _) hgr (fun q hq => (HOWA.out.lt q hq).1))
      have HB6 := oh (res_kept (blk HB5.out ((Kp.refl w5 none).alloc _)) hgr (fun q hq e => by have := HVB.out q hq; omega))
      have HGB := oh hgb; have HGC := oh hgc
      have HCUR : Hid (w6.heap[g]? = some (.cells cur 52 (0, 0)) ∧ cur.size = gc * 6 ∧ cur.toList.take (k1 * 6) = us.flatMap htC ++ [zHT].flatMap htC) := oh ⟨hgh, hgs, hgt⟩
      have HNB : Hid (g ≠ B) := oh (by
       rcases hbb with hbb | hbb
       ·have := HVB.out g hbb.symm; omega
       ·have h1 := Option.some.inj hbb; have h2 := lt_of_block HB5.out; simp at h1; omega)
      clear ho hgr hbb HOWA HDL HO5 HOFF5 HLX HB5 hk1 hgb hgh hgc hgm hgs hgt
      obtain ⟨q, hq⟩ : ∃ q, j + 1 = q := ⟨_, rfl⟩
      have hkk : k + 1 = k1 := HK1.out
      have hq0 := nn q
      have hq1 : (q : Int) ≤ (k1 : Int) := by have := HJK.out; omega
      have hq2 : q ≤ k1 := by have := HJK.out; omega
      have hj1 : (j : Int) ≤ (k1 : Int) := by omega
      have hj2 : j ≤ k1 := by omega
      have hjc : (gc = j) = False := eq_false (by have := HGC.out; have := HJK.out; omega)
      obtain ⟨hw2, hw3⟩ : wrap64 ((j : Int) + 1) = (q : Int) ∧ IntKind.i64.wrap ((j : Int) + 1) = (q : Int) := by rw [← hq]; exact wrap_upN j (by omega)
      have HQ := oh hq; clear hq hkk; go_upto_region 11 with fail
      refine wp_region_held_drew (S := fun V => Hid (Kp w V none)) (by kernel_rfl) (oh HK6.out.drew) (fun eh => ?_)
      refine tjH 0 rfl ?_; refine tjH 1 rfl ?_; refine tjH 2 rfl ?_; refine tjH 3 rfl ?_; refine tjH 4 rfl ?_; refine tjH 5 rfl ?_; refine tjH 6 rfl ?_; clear hw2 hw3; refine rdH 7 rfl (fun K hK => ?_)
      have gR : w6.drew.heap[g]? = some (.cells cur.toList.toArray 52 (0, 0)) := HCUR.out.1
      clear eh
      refine step_copy_k rfl (.tmp 46) (.tmp 49) 30 30 rfl 52 6 Tryz.underlying30 (by kernel_rfl) _ _ _ _ _ _ rfl rfl g (q * 6) cur.toList 52 gR ((us.drop j).flatMap htC) ?len (by omega) ?src ?fit ?one ?_
      case len =>
       rw [flat_len (m := 6) (fun _ => rfl), List.length_drop, HLEN.out]; have := HQ.out; have := HK1.out; congr 1; simp only [Nat.min_def]; split <;> omega
      case fit =>
       rw [flat_len (m := 6) (fun _ => rfl), List.length_drop, HLEN.out, Array.length_toList, HCUR.out.2.1, ← Nat.add_mul]; have := HQ.out; have := HK1.out; have := HGC.out; have := HJK.out; exact Nat.mul_le_mul_right _ (by omega)
      case one => intro u hu; obtain ⟨y9, _, hy9⟩ := List.mem_flatMap.1 hu; exact ht_one y9 u hy9
      case src =>
       intro h0; rw [flat_len (m := 6) (fun _ => rfl), List.length_drop, HLEN.out] at h0
       have hqc : ¬ gc = q := by have := HQ.out; have := HK1.out; have := HGC.out; omega
       refine ⟨by simp [hqc], _, by simp; rfl, fun i9 u hu => ?_⟩
       have hil : i9 < (k - j) * 6 := by have h1 := (List.getElem?_eq_some_iff.1 hu).1; rw [flat_len (m := 6) (fun _ => rfl), List.length_drop, HLEN.out] at h1; exact h1
       have e8 : (us.flatMap htC)[j * 6 + i9]? = some u := by rw [← List.getElem?_drop, flat_drop (m := 6) (fun _ => rfl) us j (by rw [HLEN.out]; exact HJK.out)]; exact hu
       have hce : cur.toList[j * 6 + i9]? = some u := by
        have e9 := congrArg (fun l => l[j * 6 + i9]?) HCUR.out.2.2
        simp only [List.getElem?_take] at e9
        rw [if_pos (by have := HK1.out; omega), List.getElem?_append_left (by rw [flat_len (m := 6) (fun _ => rfl), HLEN.out]; omega), e8] at e9
        exact e9
       have h8 := hcell gR (j * 6 + i9) (v := u) (by simpa using hce)
       rw [show (⟨g, j * 6, none⟩ : Addr).add i9 = ⟨g, j * 6 + i9, none⟩ by unfold Addr.add; split <;> simp_all]
       exact h8
      intro w7 hw7 hg7
      have HK7 : Hid (Kp w w7 none) := oh (Kp.of_own HK6.out.drew hg7 HGB.out)
      have HW7 := oh hw7.out
      have HG7 := oh hg7
      refine hK _ _ (oh HK7.out) (fun _ => ?_)
      clear hK K gR hw7 hg7; try simp only [Act.put, sm]
      refine wpAnyH_done (by kernel_rfl) ?_ _
      obtain ⟨M, hM⟩ : ∃ M, (us ++ [zHT]).take q ++ (us.drop j ++ (us ++ [zHT]).drop (q + (us.drop j).length)) = M := ⟨_, rfl⟩
      have hML : M.length = k1 := by rw [← hM]; simp only [List.length_append, List.length_take, List.length_drop, List.length_cons, List.length_nil, HLEN.out]; have := HQ.out; have := HK1.out; have := HJK.out; omega
      have HMS : Hid (M.set j (⟨h, na, nc⟩ : HT) = us.take j ++ (⟨h, na, nc⟩ : HT) :: us.drop j) := oh (by rw [← hM, ← HQ.out]; exact put_list us zHT _ j (by rw [HLEN.out]; exact HJK.out))
      have HO7 : Hid (w7.ownsRow w.heap.size 52 6 (.slice (some ⟨g, 0, none⟩) k1 gc) k1 (M.flatMap htC)) := oh (by
       have h1 := own_spliced (w' := w7) (o := q * 6) (cs := (us.drop j).flatMap htC) (own_kp HO6.out (Kp.refl w6 none).drew) (fun cur' hc' => by
        have e9 : some (Obj.cells cur' 52 (0, 0)) = some (Obj.cells cur 52 (0, 0)) := hc'.symm.trans HCUR.out.1
        injection e9 with e9; injection e9 with e9; rw [e9]; exact HW7.out) (by rw [flat_len (m := 6) (fun _ => rfl), List.length_drop, HLEN.out, ← Nat.add_mul]; have := HQ.out; have := HK1.out; have := HJK.out; exact Nat.mul_le_mul_right _ (by omega))
       rw [show us.flatMap htC ++ htC zHT = (us ++ [zHT]).flatMap htC by rw [List.flatMap_append]; simp, splice_flat 6 htC (fun _ => rfl), hM] at h1
       exact h1)
      have HB7 := oh ((HG7.out.block B (lt_of_block HB6.out) (fun e => HNB.out (Option.some.inj e).symm)).trans HB6.out)
      have HOFF7 : Hid (∀ t ∈ us.take j ++ (⟨h, na, nc⟩ : HT) :: us.drop j, LiesOff 7 edC w7 t.ea t.ec t.h.s.es (.slice (some ⟨g, 0, none⟩) k1 gc)) := oh fun t ht => ((HOFF6.out t ht).keep ((Kp.refl w6 none).drew.weak _)).keep HG7.out
      have hjM : j < M.length := by rw [hML]; have := HJK.out; have := HK1.out; omega
      have HSET := oh (flat_set6 (⟨h, na, nc⟩ : HT) M j hjM)
      have hcM : ∀ i9 (hi9 : i9 < 6), ∃ u, w7.cell? ⟨g, j * 6 + i9, none⟩ = some u := fun i9 hi9 => by
       have h9 := flat_get 6 htC (fun _ => rfl) M j i9 hjM (by simpa [htC] using hi9)
       have h8 := HO7.out.cells rfl (j * 6 + i9) _ h9
       rw [show ((⟨g, 0, none⟩ : Addr).add (j * 6 + i9)) = ⟨g, j * 6 + i9, none⟩ by unfold Addr.add; split <;> simp_all] at h8
       exact ⟨_, h8⟩
      obtain ⟨u0, c0⟩ := hcM 0 (by omega)
      obtain ⟨u1, c1⟩ := hcM 1 (by omega)
      obtain ⟨u2, c2⟩ := hcM 2 (by omega)
      obtain ⟨u3, c3⟩ := hcM 3 (by omega)
      obtain ⟨u4, c4⟩ := hcM 4 (by omega)
      obtain ⟨u5, c5⟩ := hcM 5 (by omega)
      simp only [Nat.add_zero] at c0
      have f0 := HO7.out.frozenAt (j * 6)
      have f1 := HO7.out.frozenAt (j * 6 + 1)
      have f2 := HO7.out.frozenAt (j * 6 + 2)
      have f3 := HO7.out.frozenAt (j * 6 + 3)
      have f4 := HO7.out.frozenAt (j * 6 + 4)
      have f5 := HO7.out.frozenAt (j * 6 + 5)
      have x0 := hcell HB7.out 0 rfl
      have x1 := hcell HB7.out 1 rfl
      have x2 := hcell HB7.out 2 rfl
      have x3 := hcell HB7.out 3 rfl
      have x4 := hcell HB7.out 4 rfl
      have x5 := hcell HB7.out 5 rfl
      have hj3 : (j : Int) < (k1 : Int) := by have := HJK.out; have := HK1.out; omega
      have hj4 : j < k1 := by omega
      clear hcM hjM HCUR HW7 hM hML hq0 hq1 hq2 hj1 hj2 hjc; go_upto_region 4 with fail
      clear c0 c1 c2 c3 c4 c5 f0 f1 f2 f3 f4 f5 x0 x1 x2 x3 x4 x5
      have o1 := HO7.out.stored (j * 6) (I6 sk)
      have o2 := o1.1.stored (j * 6 + 1) (.slice na xn nc)
      have o3 := o2.1.stored (j * 6 + 2) (I6 sr)
      have o4 := o3.1.stored (j * 6 + 3) (I6 xf)
      have o5 := o4.1.stored (j * 6 + 4) (I6 xt)
      have o6 := o5.1.stored (j * 6 + 5) (.bool xp)
      have kz := (((((o1.2.trans o2.2).trans o3.2).trans o4.2).trans o5.2).trans o6.2)
      have hset := HSET.out
      simp only [HX0.out.1, HX0.out.2.1, HX0.out.2.2.1, HX0.out.2.2.2.1, HX0.out.2.2.2.2.1, HX0.out.2.2.2.2.2] at hset
      have ho8 := o6.1
      rw [hset, HMS.out] at ho8; have HO8 := oh ho8; have HKZ := oh kz; clear o1 o2 o3 o4 o5 o6 kz hset ho8
      generalize (((((w7.setCell ⟨g, j * 6, none⟩ (I6 sk)).setCell ⟨g, j * 6 + 1, none⟩ (.slice na xn nc)).setCell ⟨g, j * 6 + 2, none⟩ (I6 sr)).setCell ⟨g, j * 6 + 3, none⟩ (I6 xf)).setCell ⟨g, j * 6 + 4, none⟩ (I6 xt)).setCell ⟨g, j * 6 + 5, none⟩ (.bool xp) = w8 at *
      have HREL : Hid (RnRel ts n w (.slice (some ⟨g, 0, none⟩) k1 gc) (I6 ((k : Int) + 1)) w8) := oh ⟨k1, us.take j ++ (⟨h, na, nc⟩ : HT) :: us.drop j, by have := HK1.out; omega, by rw [← HK1.out]; push_cast; rfl, by rw [List.length_append, List.length_cons, List.length_take, List.length_drop, HLEN.out]; have := HK1.out; have := HJK.out; omega, by rw [← HK1.out]; exact HNRM.out, Kp.of_own HK7.out HKZ.out HGB.out, HO8.out, fun t ht => (HOFF7.out t ht).keep HKZ.out⟩
      have HME : Hid (n - (intOf (I6 ((k : Int) + 1))).toNat < n - (intOf (I6 (k : Int))).toNat) := oh (by simp [intOf]; omega)
      go_wp2_with fail
      try rw [wrap_mid (n := (k : Int) + 1) (by omega) (by omega)]
      first | exact ⟨HREL.out, HME.out⟩ | (go_roundw; all_goals first | exact HREL.out | exact HME.out)
  ·have hkn : k = n := by omega
   subst hkn
   have HF : Hid (us.map (·.h) = Dl.norm (ts.map (·.h))) := oh (by rw [HMAP.out, List.take_of_length_le (by have := HN.out; omega)])
   have hnk : ¬ (k : Int) < (k : Int) := by omega
   go_wp2_with fail
   go_ret
   exact ⟨us, _, HF.out, rfl, by rw [HLEN.out]; exact HOW.out, HOFF.out, HK.out⟩
end Go.Proofs.YtljjbdbgedmadaaGreatDoor
