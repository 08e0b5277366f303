/- The reference's lists of conditions: and, or. Condition: at most 10^12 words. -/
import Derived.Test.YtnchipahdfbliaaGreatDoorRnl
namespace Go.Proofs.YtnchipahdfbliaaGreatDoor
open Go.RowKit

/-- A condition that the reference's reader returns. -/
def CondR (o : Option (Ru.Cond × Ru.Ws)) (R : Nat) (w : World) (e : Ending) (w' : World) : Prop := ∃ (c : Ru.Cond) (a : Option Addr) (m p : Nat), e = .returned (.agg #[.int .i64 c.op, str c.text, .int .i64 c.n, .int .i64 c.box.x0, .int .i64 c.box.y0, .int .i64 c.box.x1, .int .i64 c.box.y1, .slice a m p]) ∧ TreeB w.heap.size w' c (.slice a m p) ∧ RrAt R w' (o.map (·.2)) ∧ (∀ c' r, o = some (c', r) → c' = c) ∧ Kp w w' (some R)
theorem mk1_many {op : Int} {l : List Ru.Cond} (h : l.length ≠ 1) : Ru.mk1 op l = .mk op [] 0 .none l := by
 unfold Ru.mk1
 split
 ·rename_i c
  exact absurd rfl h
 ·rfl

set_option maxHeartbeats 16000000 in
set_option maxRecDepth 100000 in
theorem listR_106 (rd : Ru.Ws → Option (Ru.Cond × Ru.Ws)) (hless : Ru.Less rd) (N R : Nat) (hN9 : N ≤ 1000000000000)
  (hrd : ∀ (u : World) (st : Option Ru.Ws), RrAt R u st → (∀ vs, st = some vs → vs.length ≤ N) → Calls Tryz.prog 129 #[.pointer (some ⟨R, 0, none⟩)] u (CondR (st.bind rd) R u))
  (w : World) (st : Option Ru.Ws) (h : RrAt R w st) (hN : ∀ vs, st = some vs → vs.length ≤ N) : Calls Tryz.prog 106 #[.pointer (some ⟨R, 0, none⟩)] w (CondR (st.bind (Ru.lst Ru.kwAnd 9 rd)) R w) := by
 have hRw := h.lt
 have HRD := Lib.hid hrd
 have HLS := Lib.hid hless
 have hwne : Ru.kwAnd ≠ [] := by decide
 have HWN := Lib.hid hwne
 have hK1 : Kp w (w.alloc (.cells #[.int .i64 0, .string ⟨#[]⟩, .int .i64 0, .int .i64 0, .int .i64 0, .int .i64 0, .int .i64 0, .slice none 0 0] 40)) none := (Kp.refl _ _).alloc _
 have A1 := hrd _ st (h.keep hK1) hN
 have HK1 := Lib.hid hK1
 have HN := Lib.hid hN
 obtain ⟨res, hres⟩ : ∃ res, st.bind (Ru.lst Ru.kwAnd 9 rd) = res := ⟨_, rfl⟩
 rw [hres]
 have HRES := Lib.hid hres
 obtain ⟨o1, ho1⟩ : ∃ o, st.bind rd = o := ⟨_, rfl⟩
 rw [ho1] at A1
 have HO1 := Lib.hid ho1
 have hZ : (w.alloc (.cells #[.int .i64 0, .string ⟨#[]⟩, .int .i64 0, .int .i64 0, .int .i64 0, .int .i64 0, .int .i64 0, .slice none 0 0] 40)).heap.size = w.heap.size + 1 := by simp
 have HB0 : Hid (∀ V, Kp (w.alloc (.cells #[.int .i64 0, .string ⟨#[]⟩, .int .i64 0, .int .i64 0, .int .i64 0, .int .i64 0, .int .i64 0, .slice none 0 0] 40)) V (some R) → V.heap[w.heap.size]? = some (.cells #[.int .i64 0, .string ⟨#[]⟩, .int .i64 0, .int .i64 0, .int .i64 0, .int .i64 0, .int .i64 0, .slice none 0 0] 40 (0, 0))) := Lib.hid fun V hV => res_kept (heap_alloc_new w _) hV (by intro q hq; injection hq with hq; omega)
 generalize hW0 : (w.alloc (.cells #[.int .i64 0, .string ⟨#[]⟩, .int .i64 0, .int .i64 0, .int .i64 0, .int .i64 0, .int .i64 0, .slice none 0 0] 40)) = W0 at *
 clear hrd hless hwne hK1 h hres ho1 hN
 go_enter Tryz.func106, Tryz.ntmps106
 go_wp2_with fail
 try rw [hW0]
 clear hW0
 refine A1.mono ?_
 clear A1
 rintro e w1 ⟨c1, a1, m1, p1, rfl, ht1, hr1, hc1, hk1⟩
 have HT1 := Lib.hid ht1
 have HR1 := Lib.hid hr1
 have HC1 := Lib.hid hc1
 have HKW := Lib.hid hk1
 have hz1 : w.heap.size + 1 ≤ w1.heap.size := (by have := hk1.size; omega)
 clear ht1 hr1 hc1 hk1
 go_wp2_with fail
 have kA : Kp w1 (w1.alloc (.cells #[.int .i64 c1.op, str c1.text, .int .i64 c1.n, .int .i64 c1.box.x0, .int .i64 c1.box.y0, .int .i64 c1.box.x1, .int .i64 c1.box.y1, .slice a1 m1 p1] 40)) none := (Kp.refl _ _).alloc _
 have HKA : Hid (Kp W0 (w1.alloc (.cells #[.int .i64 c1.op, str c1.text, .int .i64 c1.n, .int .i64 c1.box.x0, .int .i64 c1.box.y0, .int .i64 c1.box.x1, .int .i64 c1.box.y1, .slice a1 m1 p1] 40)) (some R)) := Lib.hid (HKW.out.trans (kA.weak _))
 have HOA : Hid ((w1.alloc (.cells #[.int .i64 c1.op, str c1.text, .int .i64 c1.n, .int .i64 c1.box.x0, .int .i64 c1.box.y0, .int .i64 c1.box.x1, .int .i64 c1.box.y1, .slice a1 m1 p1] 40)).ownsRow (w.heap.size + 1) 40 8 (.slice (some ⟨w1.heap.size, 0, none⟩) 1 1) [(c1, Value.slice a1 m1 p1)].length ([(c1, Value.slice a1 m1 p1)].flatMap cC)) := Lib.hid (own_one hz1)
 have HTA : Hid (TreeP (fun b => w.heap.size + 1 ≤ b ∧ some w1.heap.size ≠ some b) (w1.alloc (.cells #[.int .i64 c1.op, str c1.text, .int .i64 c1.n, .int .i64 c1.box.x0, .int .i64 c1.box.y0, .int .i64 c1.box.x1, .int .i64 c1.box.y1, .slice a1 m1 p1] 40)) c1 (.slice a1 m1 p1)) := Lib.hid ((HT1.out.mono (fun b hb h => ⟨by omega, fun e => by injection e with e; omega⟩)).keep kA)
 have HRA : Hid (RrAt R (w1.alloc (.cells #[.int .i64 c1.op, str c1.text, .int .i64 c1.n, .int .i64 c1.box.x0, .int .i64 c1.box.y0, .int .i64 c1.box.x1, .int .i64 c1.box.y1, .slice a1 m1 p1] 40)) (o1.map (·.2))) := Lib.hid (HR1.out.keep kA)
 have HST0 : Hid ((∀ vs, o1.map (·.2) = some vs → vs.length ≤ N ∧ vs.length ≤ ((o1.map (·.2)).getD []).length ∧ res = Ru.more Ru.kwAnd 9 rd ((o1.map (·.2)).getD []).length [c1] vs) ∧ (o1.map (·.2) = none → res = none)) := Lib.hid (by
  constructor
  ·intro vs hvs
   cases ho : o1 with
   | none => rw [ho] at hvs; cases hvs
   | some q =>
    obtain ⟨c', r'⟩ := q
    rw [ho] at hvs
    have hv : r' = vs := by injection hvs
    subst hv
    have hcc := HC1.out c' r' ho
    subst hcc
    cases hs : st with
    | none => have := HO1.out; rw [hs, ho] at this; cases this
    | some ws =>
     have h1 : rd ws = some (c', r') := by have := HO1.out; rw [hs, ho] at this; exact this
     have h2 := HLS.out _ _ _ h1
     have h3 := HN.out ws hs
     refine ⟨by omega, by simp, ?_⟩
     rw [← HRES.out, hs]
     show Ru.lst Ru.kwAnd 9 rd ws = _
     unfold Ru.lst
     rw [h1]; rfl
  ·intro hnn
   have ho : o1 = none := by cases h : o1 with
    | none => rfl
    | some q => rw [h] at hnn; cases hnn
   rw [← HRES.out]
   cases hs : st with
   | none => rfl
   | some ws =>
    have h1 : rd ws = none := by have := HO1.out; rw [hs, ho] at this; exact this
    show Ru.lst Ru.kwAnd 9 rd ws = none
    unfold Ru.lst
    rw [h1])
 clear kA
 go_loopg [3] ((o1.map (·.2)).getD []).length (fun gf lv wr => ∃ (ps : List (Ru.Cond × Value)) (su : Option Ru.Ws), ps ≠ [] ∧ ps.length + gf ≤ N + 1 ∧ wr.ownsRow (w.heap.size + 1) 40 8 lv ps.length (ps.flatMap cC) ∧ Hid (∀ p ∈ ps, TreeP (fun b => w.heap.size + 1 ≤ b ∧ lv.ownBlock ≠ some b) wr p.1 p.2) ∧ Hid (RrAt R wr su) ∧ Hid ((∀ vs, su = some vs → vs.length ≤ N ∧ vs.length ≤ gf ∧ res = Ru.more Ru.kwAnd 9 rd gf (ps.map (·.1)) vs) ∧ (su = none → res = none)) ∧ Hid (Kp W0 wr (some R)))
 case atStart =>
  refine ⟨[(c1, .slice a1 m1 p1)], o1.map (·.2), by simp, ?_, HOA.out, Lib.hid (fun p hp => by rw [List.mem_singleton] at hp; subst hp; exact HTA.out), HRA, HST0, HKA⟩
  cases hq : o1.map (·.2) with
  | none => simp
  | some vs => have := (HST0.out.1 vs hq).1; simp; omega
 case round =>
  obtain ⟨ps, su, hne, hsum, hown, HT, HR, HM, HK⟩ := hrel
  have HOW := Lib.hid hown
  clear hown
  have hzr : w.heap.size + 1 ≤ wr.heap.size := (by have := HK.out.size; omega)
  have cp := peekR_any R wr su HR.out
  by_cases hpw : peekV su = Ru.kwAnd
  ·obtain ⟨t, hsu, hnx⟩ := peek_some (st := su) (by rw [hpw]; exact HWN.out)
   rw [hpw] at cp hsu hnx
   obtain ⟨hv1, hv2, hv3⟩ := HM.out.1 _ hsu
   obtain ⟨g', rfl⟩ : ∃ g', gk = g' + 1 := ⟨gk - 1, by simp at hv2; omega⟩
   have cp2 : Calls Tryz.prog 105 #[.pointer (some ⟨R, 0, none⟩)] wr fun e w' => e = .returned (.string ⟨#[97, 110, 100]⟩) ∧ Kp wr w' none := cp
   have HSU := Lib.hid hsu
   have HNX := Lib.hid hnx
   have htN : t.length ≤ N := by simp at hv1; omega
   have htg : t.length ≤ g' := by simp at hv2; omega
   have HM1 : Hid (res = match rd t with | none => none | some (c, r') => Ru.more Ru.kwAnd 9 rd g' (ps.map (·.1) ++ [c]) r') := Lib.hid (by rw [hv3, Ru.more_some rfl, List.tail_cons] <;> rfl)
   have hcm : ps.length + 1 ≤ maxLen := by unfold maxLen; omega
   have hcb : (ps.length + 1) * 88 ≤ 140737488355328 := by omega
   obtain ⟨i0, hi, hz0, hz1', hz2⟩ := info_parts info40
   clear cp hpw hsu hnx hv1 hv2 hv3
   go_wp2_with fail
   refine cp2.mono ?_
   clear cp2
   rintro e w2 ⟨rfl, hk2⟩
   have HK2 := Lib.hid hk2
   have cw := wordR_any R w2 su (HR.out.keep hk2)
   unfold WordIs at cw
   rw [HNX.out] at cw
   have cw : Calls Tryz.prog 81 #[.pointer (some ⟨R, 0, none⟩)] w2 fun e w' => e = .returned (str Ru.kwAnd) ∧ Hid (RrAt R w' (some t)) ∧ Hid (Kp w2 w' (some R)) := cw.mono fun e w' ⟨h1, h2, h3⟩ => ⟨h1, Lib.hid h2, Lib.hid h3⟩
   clear hk2
   go_wp2_with fail
   refine cw.mono ?_
   clear cw
   rintro e w3 ⟨rfl, HR3, HK3⟩
   have A3 := HRD.out w3 (some t) HR3.out (fun vs hvs => by injection hvs with hvs; rw [← hvs]; exact htN)
   have HK23 := Lib.hid ((HK2.out.weak (some R)).trans HK3.out)
   go_wp2_with fail
   refine A3.mono ?_
   clear A3
   rintro e w4 ⟨c2, a2, m2, p2, rfl, ht4, hr4, hc4, hk4⟩
   have HT4 := Lib.hid ht4
   have hr4 : RrAt R w4 ((rd t).map (·.2)) := hr4
   have HR4 := Lib.hid hr4
   have hc4 : ∀ c' r, rd t = some (c', r) → c' = c2 := hc4
   have HC4 := Lib.hid hc4
   have HK4 := Lib.hid hk4
   have hz3 := HK23.out.size
   have hz4 := hk4.size
   clear ht4 hr4 hc4 hk4
   go_wp2_with (at_builtin; go_must (refine wpList_append_lies _ (by rfl) _ _ _ (by rfl) (w.heap.size + 1) 40 i0 _ 8 88 Tryz.underlying38 hi hz0 hz1' hz2 rfl (by omega) u3 ps.length (ps.flatMap cC) (by rfl) ((own_row (own_row HOW.out HK23.out (by omega)) HK4.out (by omega)).alloc _) ⟨w4.heap.size, 0, none⟩ 1 1 #[.int .i64 c2.op, str c2.text, .int .i64 c2.n, .int .i64 c2.box.x0, .int .i64 c2.box.y0, .int .i64 c2.box.x1, .int .i64 c2.box.y1, .slice a2 m2 p2].toList (by rfl) (by rfl) (World.news_of_block (cs := #[.int .i64 c2.op, str c2.text, .int .i64 c2.n, .int .i64 c2.box.x0, .int .i64 c2.box.y0, .int .i64 c2.box.x1, .int .i64 c2.box.y1, .slice a2 m2 p2]) (t := 40) (fr := (0, 0)) (heap_alloc_new w4 _)) (by simp [Value.oneCell']) (by omega) hcm hcb (by simp; omega) (w4.heap.size + 1) (by simp) ?_))
   intro gg capg w5 hown5 hgrow5 hor5 _
   have HOW5 : Hid (w5.ownsRow (w.heap.size + 1) 40 8 (.slice (some ⟨gg, 0, none⟩) (ps.length + 1) capg) (ps ++ [(c2, Value.slice a2 m2 p2)]).length ((ps ++ [(c2, Value.slice a2 m2 p2)]).flatMap cC)) := Lib.hid (by rw [List.flatMap_append, List.length_append]; exact hown5)
   have hog : ∀ b, u3.ownBlock = some b → b < wr.heap.size := fun b hb => (HOW.out.lt b hb).2
   have hgw : ∀ b, b < w4.heap.size → u3.ownBlock ≠ some b → gg ≠ b := fun b hb hne2 e => by
    rcases hor5 with h | h
    ·exact hne2 (by rw [h, e])
    ·omega
   have HT5 : Hid (∀ p ∈ ps ++ [(c2, Value.slice a2 m2 p2)], TreeP (fun b => w.heap.size + 1 ≤ b ∧ (Value.slice (some ⟨gg, 0, none⟩) (ps.length + 1) capg).ownBlock ≠ some b) w5 p.1 p.2) := Lib.hid (by
    have hrow : ∀ {S : Nat → Prop} {c : Ru.Cond} {v : Value}, (∀ b, S b → u3.ownBlock ≠ some b) → TreeP S w4 c v → TreeP S w5 c v := fun hS h => (h.keep ((Kp.refl w4 none).alloc _)).row hgrow5 (fun r hr hs => hS r hs hr)
    intro p hp
    rcases List.mem_append.1 hp with hp | hp
    ·have h0 := HT.out p hp
     have h1 := (h0.row HK23.out (fun r hr hs => by injection hr with hr; omega)).row HK4.out (fun r hr hs => by injection hr with hr; omega)
     have h2 := h1.mono (T := fun b => (w.heap.size + 1 ≤ b ∧ u3.ownBlock ≠ some b) ∧ b < w4.heap.size) (fun b hb h => ⟨h, hb⟩)
     exact (hrow (fun b hb => hb.1.2) h2).mono fun b _ h => ⟨h.1.1, fun e => hgw b h.2 h.1.2 (by injection e)⟩
    ·rw [List.mem_singleton] at hp
     subst hp
     have h2 := HT4.out.mono (T := fun b => (w3.heap.size ≤ b ∧ u3.ownBlock ≠ some b) ∧ b < w4.heap.size) (fun b hb h => ⟨⟨h, fun e => by have := hog b e; omega⟩, hb⟩)
     exact (hrow (fun b hb => hb.1.2) h2).mono fun b _ h => ⟨by omega, fun e => hgw b h.2 h.1.2 (by injection e)⟩)
   have HR5 : Hid (RrAt R w5 ((rd t).map (·.2))) := Lib.hid (by
    have h1 := HR4.out.keep ((Kp.refl w4 none).alloc (.cells #[.int .i64 c2.op, str c2.text, .int .i64 c2.n, .int .i64 c2.box.x0, .int .i64 c2.box.y0, .int .i64 c2.box.x1, .int .i64 c2.box.y1, .slice a2 m2 p2] 40))
    cases hq : u3.ownBlock with
    | none => rw [hq] at hgrow5; exact h1.keep hgrow5
    | some r => rw [hq] at hgrow5; exact h1.far hgrow5 (by have := (HOW.out.lt r hq).1; omega))
   have HK5 : Hid (Kp W0 w5 (some R)) := Lib.hid (Kp.row ((HK.out.trans (HK23.out.trans HK4.out)).alloc _) hgrow5 (fun q hq => by have := (HOW.out.lt q hq).1; omega))
   have HM3 : Hid ((∀ vs, (rd t).map (·.2) = some vs → vs.length ≤ N ∧ vs.length ≤ g' ∧ res = Ru.more Ru.kwAnd 9 rd g' ((ps ++ [(c2, Value.slice a2 m2 p2)]).map (·.1)) vs) ∧ ((rd t).map (·.2) = none → res = none)) := Lib.hid (by
    have hm := HM1.out
    cases hd : rd t with
    | none => rw [hd] at hm; exact ⟨fun vs h => (by cases h), fun _ => hm⟩
    | some q =>
     obtain ⟨c', r'⟩ := q
     rw [hd] at hm
     have hcc := HC4.out c' r' hd
     subst hcc
     have hlt2 := HLS.out _ _ _ hd
     refine ⟨fun vs h => ?_, fun h => by cases h⟩
     have hv : r' = vs := by injection h
     subst hv
     exact ⟨by omega, by omega, by rw [hm, List.map_append]; rfl⟩)
   clear hown5 hgrow5 hor5 hgw hog
   go_wp2_with fail
   go_roundg g'
   case measure => omega
   case rel => exact ⟨ps ++ [(c2, .slice a2 m2 p2)], (rd t).map (·.2), by simp, by rw [List.length_append]; simp; omega, HOW5.out, HT5, HR5, HM3, HK5⟩
  ·have HMs : Hid ((∀ vs, su = some vs → res = some (Ru.mk1 9 (ps.map (·.1)), vs)) ∧ (su = none → res = none)) := Lib.hid ⟨fun vs hvs => (by
    obtain ⟨_, _, h3⟩ := HM.out.1 vs hvs
    rw [h3, Ru.more_stop]
    intro hh
    apply hpw
    rw [hvs]
    unfold peekV
    cases vs with
    | nil => cases hh
    | cons y t => simpa using hh), HM.out.2⟩
   have hb : (peekV su == Ru.kwAnd) = false := by simpa using hpw
   obtain ⟨x0, hx0⟩ : ∃ x, peekV su = x := ⟨_, rfl⟩
   rw [hx0] at cp hb
   have hb : (x0 == [97, 110, 100]) = false := hb
   have HRET : Hid (∀ V c v, c = Ru.mk1 9 (ps.map (·.1)) → CondV w.heap.size c V v → RrAt R V su → Kp w V (some R) → CondR res R w (.returned v) V) := Lib.hid (fun V c v hc ⟨a, m, p, h1, h2⟩ h3 h4 => by
    refine ⟨c, a, m, p, by rw [h1], h2, ?_, ?_, h4⟩
    ·cases hs : su with
     | none => rw [HMs.out.2 hs]; rw [hs] at h3; exact h3
     | some vs => rw [HMs.out.1 vs hs]; rw [hs] at h3; exact h3
    ·intro c' r' he
     cases hs : su with
     | none => rw [HMs.out.2 hs] at he; cases he
     | some vs =>
      rw [HMs.out.1 vs hs] at he
      injection he with he
      injection he with he _
      rw [hc, he])
   obtain ⟨ao, cap, hlv⟩ := own_slice HOW.out
   subst hlv
   have hla := (own_lies (m := 8) (f := cC) (fun _ => rfl) HOW.out).2
   have hbase := own_base ps HOW.out
   clear hx0 hpw
   by_cases h1 : ps.length = 1
   ·obtain ⟨p, rfl⟩ := List.length_eq_one_iff.1 h1
    have ht := HT.out p (by simp)
    obtain ⟨a3, m3, p3, hv3⟩ := ht.slice
    obtain ⟨bb, off, hao, hbl, hrg⟩ := hla.range 0 (by simp) (p := p) rfl
    subst hao
    have e3 : cC p = #[.int .i64 p.1.op, str p.1.text, .int .i64 p.1.n, .int .i64 p.1.box.x0, .int .i64 p.1.box.y0, .int .i64 p.1.box.x1, .int .i64 p.1.box.y1, .slice a3 m3 p3].toList := by unfold cC; rw [hv3]
    have HRG : Hid (wr.rangeAt bb off #[.int .i64 p.1.op, str p.1.text, .int .i64 p.1.n, .int .i64 p.1.box.x0, .int .i64 p.1.box.y0, .int .i64 p.1.box.x1, .int .i64 p.1.box.y1, .slice a3 m3 p3].toList) := Lib.hid (by rw [← e3]; rw [Nat.zero_mul, Nat.add_zero] at hrg; exact hrg)
    have HBL := Lib.hid hbl
    have HTP := Lib.hid ht
    have HV3 := Lib.hid hv3
    have hcap : 1 ≤ cap := by obtain ⟨_, _, _, _, h, _⟩ := hla 0 (by simp); simpa using h
    clear hrg ht hv3 hla h1 hbase e3 hbl
    go_wp2_with fail
    refine cp.mono ?_
    clear cp
    rintro e w2 ⟨rfl, hk2⟩
    have HK2 := Lib.hid hk2
    have HRG2 : Hid (w2.rangeAt bb off #[.int .i64 p.1.op, str p.1.text, .int .i64 p.1.n, .int .i64 p.1.box.x0, .int .i64 p.1.box.y0, .int .i64 p.1.box.x1, .int .i64 p.1.box.y1, .slice a3 m3 p3].toList) := Lib.hid (fun j v hv => by rw [hk2.below.cell (p := ⟨bb, off + j, none⟩) HBL.out]; exact HRG.out j v hv)
    have HB := Lib.hid (HB0.out w2 (HK.out.trans (hk2.weak _)))
    have HTP2 : Hid (TreeP (fun b => w.heap.size + 1 ≤ b ∧ (Value.slice (some ⟨bb, off, none⟩) [p].length cap).ownBlock ≠ some b) w2 p.1 (.slice a3 m3 p3)) := Lib.hid (by have h := HTP.out.keep hk2; rw [HV3.out] at h; exact h)
    clear hk2
    go_wp2_with (first | (refine wpList_load_mid (by rfl) 40 _ (by rfl) bb off (by rfl) #[.int .i64 p.1.op, str p.1.text, .int .i64 p.1.n, .int .i64 p.1.box.x0, .int .i64 p.1.box.y0, .int .i64 p.1.box.x1, .int .i64 p.1.box.y1, .slice a3 m3 p3].toList _ HRG2.out Tryz.underlying40 (by rfl) info40s ?_) | (refine wpList_store_blk (by rfl) 40 _ _ (by rfl) w.heap.size _ 40 HB.out #[.int .i64 p.1.op, str p.1.text, .int .i64 p.1.n, .int .i64 p.1.box.x0, .int .i64 p.1.box.y0, .int .i64 p.1.box.x1, .int .i64 p.1.box.y1, .slice a3 m3 p3] (by rfl) (by rfl) info40s (by rfl) (by simp [Value.oneCell']) (fun V hV hkV => ?_); have HV := Lib.hid hV; have HKV := Lib.hid hkV; clear hV hkV))
    refine bodyPost_ret (results_cell_row (p := 2) (ty := 40) (by rfl) _ V w.heap.size 40 #[.int .i64 p.1.op, str p.1.text, .int .i64 p.1.n, .int .i64 p.1.box.x0, .int .i64 p.1.box.y0, .int .i64 p.1.box.x1, .int .i64 p.1.box.y1, .slice a3 m3 p3] (0, 0) _ (by rfl) HV.out Tryz.underlying40 (by rfl) info40s) (by rfl) ?_
    exact HRET.out V p.1 _ rfl ⟨a3, m3, p3, rfl, (HTP2.out.row HKV.out (fun r hr hs => by injection hr with hr; omega)).mono (fun b _ hb => by omega)⟩ ((HR.out.keep HK2.out).far HKV.out hRw) (Kp.of_own (((HK1.out.weak _).trans HK.out).trans (HK2.out.weak _)) HKV.out (Nat.le_refl _))
   ·have hb1 : ((ps.length : Int) == 1) = false := by simp; omega
    have HMK := Lib.hid (mk1_many (op := 9) (l := ps.map (·.1)) (by rw [List.length_map]; exact h1))
    have HLA := Lib.hid hla
    have HBS := Lib.hid hbase
    have hpl : ps.length ≤ 9223372036854775807 := by omega
    clear hla h1 hbase
    go_wp2_with fail
    refine cp.mono ?_
    clear cp
    rintro e w2 ⟨rfl, hk2⟩
    have HK2 := Lib.hid hk2
    have HB := Lib.hid (HB0.out w2 (HK.out.trans (hk2.weak _)))
    have HTT : Hid (TreeB (w.heap.size + 1) w2 (.mk 9 [] 0 .none (ps.map (·.1))) (.slice ao ps.length cap)) := Lib.hid ((TreeP.of (ps := ps) rfl (HLA.out.list) HBS.out (fun p hp => ((HT.out p hp).mono (fun b _ hb => hb.1)))).keep hk2)
    clear hk2
    go_wp2_with (refine wpList_store_blk (by rfl) 40 _ _ (by rfl) w.heap.size _ 40 HB.out #[.int .i64 9, .string ⟨#[]⟩, .int .i64 0, .int .i64 0, .int .i64 0, .int .i64 0, .int .i64 0, .slice ao ps.length cap] (by rfl) (by rfl) info40s (by rfl) (by simp [Value.oneCell']) (fun V hV hkV => ?_); have HV := Lib.hid hV; have HKV := Lib.hid hkV; clear hV hkV)
    refine bodyPost_ret (results_cell_row (p := 2) (ty := 40) (by rfl) _ V w.heap.size 40 #[.int .i64 9, .string ⟨#[]⟩, .int .i64 0, .int .i64 0, .int .i64 0, .int .i64 0, .int .i64 0, .slice ao ps.length cap] (0, 0) _ (by rfl) HV.out Tryz.underlying40 (by rfl) info40s) (by rfl) ?_
    exact HRET.out V _ _ HMK.out.symm ⟨ao, ps.length, cap, rfl, (HTT.out.row HKV.out (fun r hr hs => by injection hr with hr; omega)).mono (fun b _ hb => by omega)⟩ ((HR.out.keep HK2.out).far HKV.out hRw) (Kp.of_own (((HK1.out.weak _).trans HK.out).trans (HK2.out.weak _)) HKV.out (Nat.le_refl _))

set_option maxHeartbeats 16000000 in
set_option maxRecDepth 100000 in
theorem listR_83 (rd : Ru.Ws → Option (Ru.Cond × Ru.Ws)) (hless : Ru.Less rd) (N R : Nat) (hN9 : N ≤ 1000000000000)
  (hrd : ∀ (u : World) (st : Option Ru.Ws), RrAt R u st → (∀ vs, st = some vs → vs.length ≤ N) → Calls Tryz.prog 106 #[.pointer (some ⟨R, 0, none⟩)] u (CondR (st.bind rd) R u))
  (w : World) (st : Option Ru.Ws) (h : RrAt R w st) (hN : ∀ vs, st = some vs → vs.length ≤ N) : Calls Tryz.prog 83 #[.pointer (some ⟨R, 0, none⟩)] w (CondR (st.bind (Ru.lst Ru.kwOr 10 rd)) R w) := by
 have hRw := h.lt
 have HRD := Lib.hid hrd
 have HLS := Lib.hid hless
 have hwne : Ru.kwOr ≠ [] := by decide
 have HWN := Lib.hid hwne
 have hK1 : Kp w (w.alloc (.cells #[.int .i64 0, .string ⟨#[]⟩, .int .i64 0, .int .i64 0, .int .i64 0, .int .i64 0, .int .i64 0, .slice none 0 0] 40)) none := (Kp.refl _ _).alloc _
 have A1 := hrd _ st (h.keep hK1) hN
 have HK1 := Lib.hid hK1
 have HN := Lib.hid hN
 obtain ⟨res, hres⟩ : ∃ res, st.bind (Ru.lst Ru.kwOr 10 rd) = res := ⟨_, rfl⟩
 rw [hres]
 have HRES := Lib.hid hres
 obtain ⟨o1, ho1⟩ : ∃ o, st.bind rd = o := ⟨_, rfl⟩
 rw [ho1] at A1
 have HO1 := Lib.hid ho1
 have hZ : (w.alloc (.cells #[.int .i64 0, .string ⟨#[]⟩, .int .i64 0, .int .i64 0, .int .i64 0, .int .i64 0, .int .i64 0, .slice none 0 0] 40)).heap.size = w.heap.size + 1 := by simp
 have HB0 : Hid (∀ V, Kp (w.alloc (.cells #[.int .i64 0, .string ⟨#[]⟩, .int .i64 0, .int .i64 0, .int .i64 0, .int .i64 0, .int .i64 0, .slice none 0 0] 40)) V (some R) → V.heap[w.heap.size]? = some (.cells #[.int .i64 0, .string ⟨#[]⟩, .int .i64 0, .int .i64 0, .int .i64 0, .int .i64 0, .int .i64 0, .slice none 0 0] 40 (0, 0))) := Lib.hid fun V hV => res_kept (heap_alloc_new w _) hV (by intro q hq; injection hq with hq; omega)
 generalize hW0 : (w.alloc (.cells #[.int .i64 0, .string ⟨#[]⟩, .int .i64 0, .int .i64 0, .int .i64 0, .int .i64 0, .int .i64 0, .slice none 0 0] 40)) = W0 at *
 clear hrd hless hwne hK1 h hres ho1 hN
 go_enter Tryz.func83, Tryz.ntmps83
 go_wp2_with fail
 try rw [hW0]
 clear hW0
 refine A1.mono ?_
 clear A1
 rintro e w1 ⟨c1, a1, m1, p1, rfl, ht1, hr1, hc1, hk1⟩
 have HT1 := Lib.hid ht1
 have HR1 := Lib.hid hr1
 have HC1 := Lib.hid hc1
 have HKW := Lib.hid hk1
 have hz1 : w.heap.size + 1 ≤ w1.heap.size := (by have := hk1.size; omega)
 clear ht1 hr1 hc1 hk1
 go_wp2_with fail
 have kA : Kp w1 (w1.alloc (.cells #[.int .i64 c1.op, str c1.text, .int .i64 c1.n, .int .i64 c1.box.x0, .int .i64 c1.box.y0, .int .i64 c1.box.x1, .int .i64 c1.box.y1, .slice a1 m1 p1] 40)) none := (Kp.refl _ _).alloc _
 have HKA : Hid (Kp W0 (w1.alloc (.cells #[.int .i64 c1.op, str c1.text, .int .i64 c1.n, .int .i64 c1.box.x0, .int .i64 c1.box.y0, .int .i64 c1.box.x1, .int .i64 c1.box.y1, .slice a1 m1 p1] 40)) (some R)) := Lib.hid (HKW.out.trans (kA.weak _))
 have HOA : Hid ((w1.alloc (.cells #[.int .i64 c1.op, str c1.text, .int .i64 c1.n, .int .i64 c1.box.x0, .int .i64 c1.box.y0, .int .i64 c1.box.x1, .int .i64 c1.box.y1, .slice a1 m1 p1] 40)).ownsRow (w.heap.size + 1) 40 8 (.slice (some ⟨w1.heap.size, 0, none⟩) 1 1) [(c1, Value.slice a1 m1 p1)].length ([(c1, Value.slice a1 m1 p1)].flatMap cC)) := Lib.hid (own_one hz1)
 have HTA : Hid (TreeP (fun b => w.heap.size + 1 ≤ b ∧ some w1.heap.size ≠ some b) (w1.alloc (.cells #[.int .i64 c1.op, str c1.text, .int .i64 c1.n, .int .i64 c1.box.x0, .int .i64 c1.box.y0, .int .i64 c1.box.x1, .int .i64 c1.box.y1, .slice a1 m1 p1] 40)) c1 (.slice a1 m1 p1)) := Lib.hid ((HT1.out.mono (fun b hb h => ⟨by omega, fun e => by injection e with e; omega⟩)).keep kA)
 have HRA : Hid (RrAt R (w1.alloc (.cells #[.int .i64 c1.op, str c1.text, .int .i64 c1.n, .int .i64 c1.box.x0, .int .i64 c1.box.y0, .int .i64 c1.box.x1, .int .i64 c1.box.y1, .slice a1 m1 p1] 40)) (o1.map (·.2))) := Lib.hid (HR1.out.keep kA)
 have HST0 : Hid ((∀ vs, o1.map (·.2) = some vs → vs.length ≤ N ∧ vs.length ≤ ((o1.map (·.2)).getD []).length ∧ res = Ru.more Ru.kwOr 10 rd ((o1.map (·.2)).getD []).length [c1] vs) ∧ (o1.map (·.2) = none → res = none)) := Lib.hid (by
  constructor
  ·intro vs hvs
   cases ho : o1 with
   | none => rw [ho] at hvs; cases hvs
   | some q =>
    obtain ⟨c', r'⟩ := q
    rw [ho] at hvs
    have hv : r' = vs := by injection hvs
    subst hv
    have hcc := HC1.out c' r' ho
    subst hcc
    cases hs : st with
    | none => have := HO1.out; rw [hs, ho] at this; cases this
    | some ws =>
     have h1 : rd ws = some (c', r') := by have := HO1.out; rw [hs, ho] at this; exact this
     have h2 := HLS.out _ _ _ h1
     have h3 := HN.out ws hs
     refine ⟨by omega, by simp, ?_⟩
     rw [← HRES.out, hs]
     show Ru.lst Ru.kwOr 10 rd ws = _
     unfold Ru.lst
     rw [h1]; rfl
  ·intro hnn
   have ho : o1 = none := by cases h : o1 with
    | none => rfl
    | some q => rw [h] at hnn; cases hnn
   rw [← HRES.out]
   cases hs : st with
   | none => rfl
   | some ws =>
    have h1 : rd ws = none := by have := HO1.out; rw [hs, ho] at this; exact this
    show Ru.lst Ru.kwOr 10 rd ws = none
    unfold Ru.lst
    rw [h1])
 clear kA
 go_loopg [3] ((o1.map (·.2)).getD []).length (fun gf lv wr => ∃ (ps : List (Ru.Cond × Value)) (su : Option Ru.Ws), ps ≠ [] ∧ ps.length + gf ≤ N + 1 ∧ wr.ownsRow (w.heap.size + 1) 40 8 lv ps.length (ps.flatMap cC) ∧ Hid (∀ p ∈ ps, TreeP (fun b => w.heap.size + 1 ≤ b ∧ lv.ownBlock ≠ some b) wr p.1 p.2) ∧ Hid (RrAt R wr su) ∧ Hid ((∀ vs, su = some vs → vs.length ≤ N ∧ vs.length ≤ gf ∧ res = Ru.more Ru.kwOr 10 rd gf (ps.map (·.1)) vs) ∧ (su = none → res = none)) ∧ Hid (Kp W0 wr (some R)))
 case atStart =>
  refine ⟨[(c1, .slice a1 m1 p1)], o1.map (·.2), by simp, ?_, HOA.out, Lib.hid (fun p hp => by rw [List.mem_singleton] at hp; subst hp; exact HTA.out), HRA, HST0, HKA⟩
  cases hq : o1.map (·.2) with
  | none => simp
  | some vs => have := (HST0.out.1 vs hq).1; simp; omega
 case round =>
  obtain ⟨ps, su, hne, hsum, hown, HT, HR, HM, HK⟩ := hrel
  have HOW := Lib.hid hown
  clear hown
  have hzr : w.heap.size + 1 ≤ wr.heap.size := (by have := HK.out.size; omega)
  have cp := peekR_any R wr su HR.out
  by_cases hpw : peekV su = Ru.kwOr
  ·obtain ⟨t, hsu, hnx⟩ := peek_some (st := su) (by rw [hpw]; exact HWN.out)
   rw [hpw] at cp hsu hnx
   obtain ⟨hv1, hv2, hv3⟩ := HM.out.1 _ hsu
   obtain ⟨g', rfl⟩ : ∃ g', gk = g' + 1 := ⟨gk - 1, by simp at hv2; omega⟩
   have cp2 : Calls Tryz.prog 105 #[.pointer (some ⟨R, 0, none⟩)] wr fun e w' => e = .returned (.string ⟨#[111, 114]⟩) ∧ Kp wr w' none := cp
   have HSU := Lib.hid hsu
   have HNX := Lib.hid hnx
   have htN : t.length ≤ N := by simp at hv1; omega
   have htg : t.length ≤ g' := by simp at hv2; omega
   have HM1 : Hid (res = match rd t with | none => none | some (c, r') => Ru.more Ru.kwOr 10 rd g' (ps.map (·.1) ++ [c]) r') := Lib.hid (by rw [hv3, Ru.more_some rfl, List.tail_cons] <;> rfl)
   have hcm : ps.length + 1 ≤ maxLen := by unfold maxLen; omega
   have hcb : (ps.length + 1) * 88 ≤ 140737488355328 := by omega
   obtain ⟨i0, hi, hz0, hz1', hz2⟩ := info_parts info40
   clear cp hpw hsu hnx hv1 hv2 hv3
   go_wp2_with fail
   refine cp2.mono ?_
   clear cp2
   rintro e w2 ⟨rfl, hk2⟩
   have HK2 := Lib.hid hk2
   have cw := wordR_any R w2 su (HR.out.keep hk2)
   unfold WordIs at cw
   rw [HNX.out] at cw
   have cw : Calls Tryz.prog 81 #[.pointer (some ⟨R, 0, none⟩)] w2 fun e w' => e = .returned (str Ru.kwOr) ∧ Hid (RrAt R w' (some t)) ∧ Hid (Kp w2 w' (some R)) := cw.mono fun e w' ⟨h1, h2, h3⟩ => ⟨h1, Lib.hid h2, Lib.hid h3⟩
   clear hk2
   go_wp2_with fail
   refine cw.mono ?_
   clear cw
   rintro e w3 ⟨rfl, HR3, HK3⟩
   have A3 := HRD.out w3 (some t) HR3.out (fun vs hvs => by injection hvs with hvs; rw [← hvs]; exact htN)
   have HK23 := Lib.hid ((HK2.out.weak (some R)).trans HK3.out)
   go_wp2_with fail
   refine A3.mono ?_
   clear A3
   rintro e w4 ⟨c2, a2, m2, p2, rfl, ht4, hr4, hc4, hk4⟩
   have HT4 := Lib.hid ht4
   have hr4 : RrAt R w4 ((rd t).map (·.2)) := hr4
   have HR4 := Lib.hid hr4
   have hc4 : ∀ c' r, rd t = some (c', r) → c' = c2 := hc4
   have HC4 := Lib.hid hc4
   have HK4 := Lib.hid hk4
   have hz3 := HK23.out.size
   have hz4 := hk4.size
   clear ht4 hr4 hc4 hk4
   go_wp2_with (at_builtin; go_must (refine wpList_append_lies _ (by rfl) _ _ _ (by rfl) (w.heap.size + 1) 40 i0 _ 8 88 Tryz.underlying38 hi hz0 hz1' hz2 rfl (by omega) u3 ps.length (ps.flatMap cC) (by rfl) ((own_row (own_row HOW.out HK23.out (by omega)) HK4.out (by omega)).alloc _) ⟨w4.heap.size, 0, none⟩ 1 1 #[.int .i64 c2.op, str c2.text, .int .i64 c2.n, .int .i64 c2.box.x0, .int .i64 c2.box.y0, .int .i64 c2.box.x1, .int .i64 c2.box.y1, .slice a2 m2 p2].toList (by rfl) (by rfl) (World.news_of_block (cs := #[.int .i64 c2.op, str c2.text, .int .i64 c2.n, .int .i64 c2.box.x0, .int .i64 c2.box.y0, .int .i64 c2.box.x1, .int .i64 c2.box.y1, .slice a2 m2 p2]) (t := 40) (fr := (0, 0)) (heap_alloc_new w4 _)) (by simp [Value.oneCell']) (by omega) hcm hcb (by simp; omega) (w4.heap.size + 1) (by simp) ?_))
   intro gg capg w5 hown5 hgrow5 hor5 _
   have HOW5 : Hid (w5.ownsRow (w.heap.size + 1) 40 8 (.slice (some ⟨gg, 0, none⟩) (ps.length + 1) capg) (ps ++ [(c2, Value.slice a2 m2 p2)]).length ((ps ++ [(c2, Value.slice a2 m2 p2)]).flatMap cC)) := Lib.hid (by rw [List.flatMap_append, List.length_append]; exact hown5)
   have hog : ∀ b, u3.ownBlock = some b → b < wr.heap.size := fun b hb => (HOW.out.lt b hb).2
   have hgw : ∀ b, b < w4.heap.size → u3.ownBlock ≠ some b → gg ≠ b := fun b hb hne2 e => by
    rcases hor5 with h | h
    ·exact hne2 (by rw [h, e])
    ·omega
   have HT5 : Hid (∀ p ∈ ps ++ [(c2, Value.slice a2 m2 p2)], TreeP (fun b => w.heap.size + 1 ≤ b ∧ (Value.slice (some ⟨gg, 0, none⟩) (ps.length + 1) capg).ownBlock ≠ some b) w5 p.1 p.2) := Lib.hid (by
    have hrow : ∀ {S : Nat → Prop} {c : Ru.Cond} {v : Value}, (∀ b, S b → u3.ownBlock ≠ some b) → TreeP S w4 c v → TreeP S w5 c v := fun hS h => (h.keep ((Kp.refl w4 none).alloc _)).row hgrow5 (fun r hr hs => hS r hs hr)
    intro p hp
    rcases List.mem_append.1 hp with hp | hp
    ·have h0 := HT.out p hp
     have h1 := (h0.row HK23.out (fun r hr hs => by injection hr with hr; omega)).row HK4.out (fun r hr hs => by injection hr with hr; omega)
     have h2 := h1.mono (T := fun b => (w.heap.size + 1 ≤ b ∧ u3.ownBlock ≠ some b) ∧ b < w4.heap.size) (fun b hb h => ⟨h, hb⟩)
     exact (hrow (fun b hb => hb.1.2) h2).mono fun b _ h => ⟨h.1.1, fun e => hgw b h.2 h.1.2 (by injection e)⟩
    ·rw [List.mem_singleton] at hp
     subst hp
     have h2 := HT4.out.mono (T := fun b => (w3.heap.size ≤ b ∧ u3.ownBlock ≠ some b) ∧ b < w4.heap.size) (fun b hb h => ⟨⟨h, fun e => by have := hog b e; omega⟩, hb⟩)
     exact (hrow (fun b hb => hb.1.2) h2).mono fun b _ h => ⟨by omega, fun e => hgw b h.2 h.1.2 (by injection e)⟩)
   have HR5 : Hid (RrAt R w5 ((rd t).map (·.2))) := Lib.hid (by
    have h1 := HR4.out.keep ((Kp.refl w4 none).alloc (.cells #[.int .i64 c2.op, str c2.text, .int .i64 c2.n, .int .i64 c2.box.x0, .int .i64 c2.box.y0, .int .i64 c2.box.x1, .int .i64 c2.box.y1, .slice a2 m2 p2] 40))
    cases hq : u3.ownBlock with
    | none => rw [hq] at hgrow5; exact h1.keep hgrow5
    | some r => rw [hq] at hgrow5; exact h1.far hgrow5 (by have := (HOW.out.lt r hq).1; omega))
   have HK5 : Hid (Kp W0 w5 (some R)) := Lib.hid (Kp.row ((HK.out.trans (HK23.out.trans HK4.out)).alloc _) hgrow5 (fun q hq => by have := (HOW.out.lt q hq).1; omega))
   have HM3 : Hid ((∀ vs, (rd t).map (·.2) = some vs → vs.length ≤ N ∧ vs.length ≤ g' ∧ res = Ru.more Ru.kwOr 10 rd g' ((ps ++ [(c2, Value.slice a2 m2 p2)]).map (·.1)) vs) ∧ ((rd t).map (·.2) = none → res = none)) := Lib.hid (by
    have hm := HM1.out
    cases hd : rd t with
    | none => rw [hd] at hm; exact ⟨fun vs h => (by cases h), fun _ => hm⟩
    | some q =>
     obtain ⟨c', r'⟩ := q
     rw [hd] at hm
     have hcc := HC4.out c' r' hd
     subst hcc
     have hlt2 := HLS.out _ _ _ hd
     refine ⟨fun vs h => ?_, fun h => by cases h⟩
     have hv : r' = vs := by injection h
     subst hv
     exact ⟨by omega, by omega, by rw [hm, List.map_append]; rfl⟩)
   clear hown5 hgrow5 hor5 hgw hog
   go_wp2_with fail
   go_roundg g'
   case measure => omega
   case rel => exact ⟨ps ++ [(c2, .slice a2 m2 p2)], (rd t).map (·.2), by simp, by rw [List.length_append]; simp; omega, HOW5.out, HT5, HR5, HM3, HK5⟩
  ·have HMs : Hid ((∀ vs, su = some vs → res = some (Ru.mk1 10 (ps.map (·.1)), vs)) ∧ (su = none → res = none)) := Lib.hid ⟨fun vs hvs => (by
    obtain ⟨_, _, h3⟩ := HM.out.1 vs hvs
    rw [h3, Ru.more_stop]
    intro hh
    apply hpw
    rw [hvs]
    unfold peekV
    cases vs with
    | nil => cases hh
    | cons y t => simpa using hh), HM.out.2⟩
   have hb : (peekV su == Ru.kwOr) = false := by simpa using hpw
   obtain ⟨x0, hx0⟩ : ∃ x, peekV su = x := ⟨_, rfl⟩
   rw [hx0] at cp hb
   have hb : (x0 == [111, 114]) = false := hb
   have HRET : Hid (∀ V c v, c = Ru.mk1 10 (ps.map (·.1)) → CondV w.heap.size c V v → RrAt R V su → Kp w V (some R) → CondR res R w (.returned v) V) := Lib.hid (fun V c v hc ⟨a, m, p, h1, h2⟩ h3 h4 => by
    refine ⟨c, a, m, p, by rw [h1], h2, ?_, ?_, h4⟩
    ·cases hs : su with
     | none => rw [HMs.out.2 hs]; rw [hs] at h3; exact h3
     | some vs => rw [HMs.out.1 vs hs]; rw [hs] at h3; exact h3
    ·intro c' r' he
     cases hs : su with
     | none => rw [HMs.out.2 hs] at he; cases he
     | some vs =>
      rw [HMs.out.1 vs hs] at he
      injection he with he
      injection he with he _
      rw [hc, he])
   obtain ⟨ao, cap, hlv⟩ := own_slice HOW.out
   subst hlv
   have hla := (own_lies (m := 8) (f := cC) (fun _ => rfl) HOW.out).2
   have hbase := own_base ps HOW.out
   clear hx0 hpw
   by_cases h1 : ps.length = 1
   ·obtain ⟨p, rfl⟩ := List.length_eq_one_iff.1 h1
    have ht := HT.out p (by simp)
    obtain ⟨a3, m3, p3, hv3⟩ := ht.slice
    obtain ⟨bb, off, hao, hbl, hrg⟩ := hla.range 0 (by simp) (p := p) rfl
    subst hao
    have e3 : cC p = #[.int .i64 p.1.op, str p.1.text, .int .i64 p.1.n, .int .i64 p.1.box.x0, .int .i64 p.1.box.y0, .int .i64 p.1.box.x1, .int .i64 p.1.box.y1, .slice a3 m3 p3].toList := by unfold cC; rw [hv3]
    have HRG : Hid (wr.rangeAt bb off #[.int .i64 p.1.op, str p.1.text, .int .i64 p.1.n, .int .i64 p.1.box.x0, .int .i64 p.1.box.y0, .int .i64 p.1.box.x1, .int .i64 p.1.box.y1, .slice a3 m3 p3].toList) := Lib.hid (by rw [← e3]; rw [Nat.zero_mul, Nat.add_zero] at hrg; exact hrg)
    have HBL := Lib.hid hbl
    have HTP := Lib.hid ht
    have HV3 := Lib.hid hv3
    have hcap : 1 ≤ cap := by obtain ⟨_, _, _, _, h, _⟩ := hla 0 (by simp); simpa using h
    clear hrg ht hv3 hla h1 hbase e3 hbl
    go_wp2_with fail
    refine cp.mono ?_
    clear cp
    rintro e w2 ⟨rfl, hk2⟩
    have HK2 := Lib.hid hk2
    have HRG2 : Hid (w2.rangeAt bb off #[.int .i64 p.1.op, str p.1.text, .int .i64 p.1.n, .int .i64 p.1.box.x0, .int .i64 p.1.box.y0, .int .i64 p.1.box.x1, .int .i64 p.1.box.y1, .slice a3 m3 p3].toList) := Lib.hid (fun j v hv => by rw [hk2.below.cell (p := ⟨bb, off + j, none⟩) HBL.out]; exact HRG.out j v hv)
    have HB := Lib.hid (HB0.out w2 (HK.out.trans (hk2.weak _)))
    have HTP2 : Hid (TreeP (fun b => w.heap.size + 1 ≤ b ∧ (Value.slice (some ⟨bb, off, none⟩) [p].length cap).ownBlock ≠ some b) w2 p.1 (.slice a3 m3 p3)) := Lib.hid (by have h := HTP.out.keep hk2; rw [HV3.out] at h; exact h)
    clear hk2
    go_wp2_with (first | (refine wpList_load_mid (by rfl) 40 _ (by rfl) bb off (by rfl) #[.int .i64 p.1.op, str p.1.text, .int .i64 p.1.n, .int .i64 p.1.box.x0, .int .i64 p.1.box.y0, .int .i64 p.1.box.x1, .int .i64 p.1.box.y1, .slice a3 m3 p3].toList _ HRG2.out Tryz.underlying40 (by rfl) info40s ?_) | (refine wpList_store_blk (by rfl) 40 _ _ (by rfl) w.heap.size _ 40 HB.out #[.int .i64 p.1.op, str p.1.text, .int .i64 p.1.n, .int .i64 p.1.box.x0, .int .i64 p.1.box.y0, .int .i64 p.1.box.x1, .int .i64 p.1.box.y1, .slice a3 m3 p3] (by rfl) (by rfl) info40s (by rfl) (by simp [Value.oneCell']) (fun V hV hkV => ?_); have HV := Lib.hid hV; have HKV := Lib.hid hkV; clear hV hkV))
    refine bodyPost_ret (results_cell_row (p := 2) (ty := 40) (by rfl) _ V w.heap.size 40 #[.int .i64 p.1.op, str p.1.text, .int .i64 p.1.n, .int .i64 p.1.box.x0, .int .i64 p.1.box.y0, .int .i64 p.1.box.x1, .int .i64 p.1.box.y1, .slice a3 m3 p3] (0, 0) _ (by rfl) HV.out Tryz.underlying40 (by rfl) info40s) (by rfl) ?_
    exact HRET.out V p.1 _ rfl ⟨a3, m3, p3, rfl, (HTP2.out.row HKV.out (fun r hr hs => by injection hr with hr; omega)).mono (fun b _ hb => by omega)⟩ ((HR.out.keep HK2.out).far HKV.out hRw) (Kp.of_own (((HK1.out.weak _).trans HK.out).trans (HK2.out.weak _)) HKV.out (Nat.le_refl _))
   ·have hb1 : ((ps.length : Int) == 1) = false := by simp; omega
    have HMK := Lib.hid (mk1_many (op := 10) (l := ps.map (·.1)) (by rw [List.length_map]; exact h1))
    have HLA := Lib.hid hla
    have HBS := Lib.hid hbase
    have hpl : ps.length ≤ 9223372036854775807 := by omega
    clear hla h1 hbase
    go_wp2_with fail
    refine cp.mono ?_
    clear cp
    rintro e w2 ⟨rfl, hk2⟩
    have HK2 := Lib.hid hk2
    have HB := Lib.hid (HB0.out w2 (HK.out.trans (hk2.weak _)))
    have HTT : Hid (TreeB (w.heap.size + 1) w2 (.mk 10 [] 0 .none (ps.map (·.1))) (.slice ao ps.length cap)) := Lib.hid ((TreeP.of (ps := ps) rfl (HLA.out.list) HBS.out (fun p hp => ((HT.out p hp).mono (fun b _ hb => hb.1)))).keep hk2)
    clear hk2
    go_wp2_with (refine wpList_store_blk (by rfl) 40 _ _ (by rfl) w.heap.size _ 40 HB.out #[.int .i64 10, .string ⟨#[]⟩, .int .i64 0, .int .i64 0, .int .i64 0, .int .i64 0, .int .i64 0, .slice ao ps.length cap] (by rfl) (by rfl) info40s (by rfl) (by simp [Value.oneCell']) (fun V hV hkV => ?_); have HV := Lib.hid hV; have HKV := Lib.hid hkV; clear hV hkV)
    refine bodyPost_ret (results_cell_row (p := 2) (ty := 40) (by rfl) _ V w.heap.size 40 #[.int .i64 10, .string ⟨#[]⟩, .int .i64 0, .int .i64 0, .int .i64 0, .int .i64 0, .int .i64 0, .slice ao ps.length cap] (0, 0) _ (by rfl) HV.out Tryz.underlying40 (by rfl) info40s) (by rfl) ?_
    exact HRET.out V _ _ HMK.out.symm ⟨ao, ps.length, cap, rfl, (HTT.out.row HKV.out (fun r hr hs => by injection hr with hr; omega)).mono (fun b _ hb => by omega)⟩ ((HR.out.keep HK2.out).far HKV.out hRw) (Kp.of_own (((HK1.out.weak _).trans HK.out).trans (HK2.out.weak _)) HKV.out (Nat.le_refl _))

end Go.Proofs.YtnchipahdfbliaaGreatDoor
