/- The law's cut of conditions. Conditions: what a machine holds, at most 3 levels. -/
import Derived.Test.YtnchipahdfbliaaGreatDoorNx
namespace Go.Proofs.YtnchipahdfbliaaGreatDoor
open Go.RowKit

/-- Texts and lists of a machine's lengths. -/
inductive Wide : Ru.Cond → Prop
 | mk (op : Int) (t : List UInt8) (n : Int) (b : Ru.Box) (l : List Ru.Cond) : LenOk t.length → LenOk l.length → (∀ c ∈ l, Wide c) → Wide (.mk op t n b l)
theorem Wide.text {c : Ru.Cond} (h : Wide c) : LenOk c.text.length := by cases h; assumption
theorem Wide.len {c : Ru.Cond} (h : Wide c) : LenOk c.l.length := by cases h; assumption
theorem Wide.sub {c d : Ru.Cond} (h : Wide c) (hd : d ∈ c.l) : Wide d := by cases h with | mk op t n b l h1 h2 h3 => exact h3 d hd
/-- What cut may return at so many levels. -/
def csz : Nat → Nat
 | 0 => 1
 | k + 1 => 3 * csz k + 1
def CutIs (L : Nat) (w : World) (e : Ending) (w' : World) : Prop := ∃ (c : Ru.Cond) (a : Option Addr) (m p : Nat), e = .returned (.agg #[.int .i64 c.op, str c.text, .int .i64 c.n, .int .i64 c.box.x0, .int .i64 c.box.y0, .int .i64 c.box.x1, .int .i64 c.box.y1, .slice a m p]) ∧ TreeP (fun b => w.heap.size ≤ b) w' c (.slice a m p) ∧ Short c ∧ Ru.size c ≤ csz L ∧ Kp w w' none
theorem sizes_max {S0 : Nat} : ∀ (l : List Ru.Cond), (∀ c ∈ l, Ru.size c ≤ S0) → Ru.sizes l ≤ l.length * S0
 | [], _ => by simp [Ru.sizes]
 | c :: l, h => by
  have h1 := h c (by simp)
  have h2 := sizes_max l (fun d hd => h d (by simp [hd]))
  rw [Ru.sizes, List.length_cons, Nat.succ_mul]; omega
set_option maxHeartbeats 16000000 in
set_option maxRecDepth 100000 in
theorem cut_walk (L S0 : Nat) (hL : L ≤ 3) (c : Ru.Cond) (ps0 : List (Ru.Cond × Value)) (ao : Option Addr) (ca n : Nat) (w : World) (hw : LenOk c.text.length) (hn : ps0.length = n) (_hn2 : LenOk n) (hl : LiesAt 8 cC w ao ca ps0) (ht : ∀ p ∈ ps0, Tree w p.1 p.2) (_hd : ∀ p ∈ ps0, Wide p.1)
  (hS0 : L ≠ 0 → S0 = csz (L - 1)) (ih : ∀ j, L = j + 1 → ∀ p ∈ ps0, ∀ V, Kp w V none → Calls Tryz.prog 32 #[.agg (cC p).toArray, .int .i64 (j : Int)] V (CutIs j V)) :
  Calls Tryz.prog 32 #[.agg #[.int .i64 c.op, str c.text, .int .i64 c.n, .int .i64 c.box.x0, .int .i64 c.box.y0, .int .i64 c.box.x1, .int .i64 c.box.y1, .slice ao n ca], .int .i64 (L : Int)] w (CutIs L w) := by
 have HL := Lib.hid hl; have HT := Lib.hid ht; have HN := Lib.hid hn; have HIH := Lib.hid ih; have HS0 := Lib.hid hS0
 have hL0 : (0 : Int) ≤ (L : Int) := by omega
 have hL3 : (L : Int) ≤ 3 := by omega
 obtain ⟨t, hts⟩ : ∃ y, c.text.take 40 = y := ⟨_, rfl⟩
 have HTL : Hid (t.length ≤ 40) := Lib.hid (by rw [← hts, List.length_take]; omega)
 have htl : c.text.length ≤ 9223372036854775807 := hw
 have hxs : (⟨c.text.toArray⟩ : ByteArray).extract 0 (min (c.text.length : Int) 40).toNat = ⟨t.toArray⟩ := by
  rw [ext_take, ← hts]
  rcases Nat.lt_or_ge 40 c.text.length with h | h
  ·rw [show (min (c.text.length : Int) 40).toNat = 40 by omega]
  ·rw [show (min (c.text.length : Int) 40).toNat = c.text.length by omega, List.take_length, List.take_of_length_le h]
 have hmi0 : (0 : Int) ≤ min (c.text.length : Int) 40 := by omega
 have hmi1 : min (c.text.length : Int) 40 ≤ (c.text.length : Int) := by omega
 have hn0 : (0 : Int) ≤ (n : Int) := by omega
 have hA := heap_alloc_new w (.cells #[.int .i64 c.op, str t, .int .i64 c.n, .int .i64 c.box.x0, .int .i64 c.box.y0, .int .i64 c.box.x1, .int .i64 c.box.y1, .slice none 0 0] 40)
 have HB0 := Lib.hid (res_kept hA ((Kp.refl _ none).alloc (.cells #[.int .i64 0, .string ⟨#[]⟩, .int .i64 0, .int .i64 0, .int .i64 0, .int .i64 0, .int .i64 0, .slice none 0 0] 40)) (by simp))
 have hC := heap_alloc_new (w.alloc (.cells #[.int .i64 c.op, str t, .int .i64 c.n, .int .i64 c.box.x0, .int .i64 c.box.y0, .int .i64 c.box.x1, .int .i64 c.box.y1, .slice none 0 0] 40)) (.cells #[.int .i64 0, .string ⟨#[]⟩, .int .i64 0, .int .i64 0, .int .i64 0, .int .i64 0, .int .i64 0, .slice none 0 0] 40)
 have hsz : (w.alloc (.cells #[.int .i64 c.op, str t, .int .i64 c.n, .int .i64 c.box.x0, .int .i64 c.box.y0, .int .i64 c.box.x1, .int .i64 c.box.y1, .slice none 0 0] 40)).heap.size = w.heap.size + 1 := by simp
 rw [hsz] at hC
 have HC0 := Lib.hid hC
 have HK0 : Hid (Kp w ((w.alloc (.cells #[.int .i64 c.op, str t, .int .i64 c.n, .int .i64 c.box.x0, .int .i64 c.box.y0, .int .i64 c.box.x1, .int .i64 c.box.y1, .slice none 0 0] 40)).alloc (.cells #[.int .i64 0, .string ⟨#[]⟩, .int .i64 0, .int .i64 0, .int .i64 0, .int .i64 0, .int .i64 0, .slice none 0 0] 40)) none) := Lib.hid (((Kp.refl _ none).alloc _).alloc _)
 have hz0 : ((w.alloc (.cells #[.int .i64 c.op, str t, .int .i64 c.n, .int .i64 c.box.x0, .int .i64 c.box.y0, .int .i64 c.box.x1, .int .i64 c.box.y1, .slice none 0 0] 40)).alloc (.cells #[.int .i64 0, .string ⟨#[]⟩, .int .i64 0, .int .i64 0, .int .i64 0, .int .i64 0, .int .i64 0, .slice none 0 0] 40)).heap.size = w.heap.size + 2 := by simp
 clear hl ht hn ih hS0 hw hts hA hC hsz
 go_enter Tryz.func32, Tryz.ntmps32
 go_wp2_with fail
 change Code.wp _ _ _ _ ((w.alloc (.cells #[.int .i64 c.op, str t, .int .i64 c.n, .int .i64 c.box.x0, .int .i64 c.box.y0, .int .i64 c.box.x1, .int .i64 c.box.y1, .slice none 0 0] 40)).alloc (.cells #[.int .i64 0, .string ⟨#[]⟩, .int .i64 0, .int .i64 0, .int .i64 0, .int .i64 0, .int .i64 0, .slice none 0 0] 40))
 generalize hW : (w.alloc (.cells #[.int .i64 c.op, str t, .int .i64 c.n, .int .i64 c.box.x0, .int .i64 c.box.y0, .int .i64 c.box.x1, .int .i64 c.box.y1, .slice none 0 0] 40)).alloc (.cells #[.int .i64 0, .string ⟨#[]⟩, .int .i64 0, .int .i64 0, .int .i64 0, .int .i64 0, .int .i64 0, .slice none 0 0] 40) = W1 at *
 clear hW hxs hmi0 hmi1
 go_loopw [6] (fun i wr => ∃ (k : Nat) (ps : List (Ru.Cond × Value)) (lv : Value), k ≤ n ∧ k ≤ 3 ∧ (L = 0 → k = 0) ∧ i = .int .i64 (k : Int) ∧ Hid (ps.length = k) ∧ Hid (wr.heap[w.heap.size]? = some (.cells #[.int .i64 c.op, str t, .int .i64 c.n, .int .i64 c.box.x0, .int .i64 c.box.y0, .int .i64 c.box.x1, .int .i64 c.box.y1, lv] 40 (0, 0))) ∧ Hid (wr.heap[w.heap.size + 1]? = some (.cells #[.int .i64 0, .string ⟨#[]⟩, .int .i64 0, .int .i64 0, .int .i64 0, .int .i64 0, .int .i64 0, .slice none 0 0] 40 (0, 0))) ∧ Hid (wr.ownsRow (w.heap.size + 2) 40 8 lv k (ps.flatMap cC)) ∧ Hid (∀ p ∈ ps, TreeP (fun b => w.heap.size + 2 ≤ b ∧ lv.ownBlock ≠ some b) wr p.1 p.2 ∧ Short p.1 ∧ Ru.size p.1 ≤ S0) ∧ Hid (Kp w wr none) ∧ w.heap.size + 2 ≤ wr.heap.size) (fun i _ => 4 - (intOf i).toNat)
 case atStart => exact ⟨0, [], .slice none 0 0, Nat.zero_le _, by omega, fun _ => rfl, rfl, Lib.hid rfl, HB0, HC0, Lib.hid ⟨rfl, .inl ⟨rfl, rfl⟩⟩, Lib.hid (by simp), HK0, by omega⟩
 case round =>
  obtain ⟨k, ps, lv, hk, hk3, hkL, rfl, HPL, HBR, HCR, HOW, HPS, HKR, hzr⟩ := hrel
  have hk0 : (0 : Int) ≤ (k : Int) := by omega
  by_cases hlt : k < n ∧ k < 3 ∧ 0 < L
  ·have h1 : (k : Int) < (n : Int) := by omega
   have h2 : (k : Int) < 3 := by omega
   have h3 : (0 : Int) < (L : Int) := by omega
   obtain ⟨j, hj⟩ : ∃ j, L = j + 1 := ⟨L - 1, by omega⟩
   have hltp : k < ps0.length := by rw [HN.out]; exact hlt.1
   obtain ⟨q, hq⟩ : ∃ q, ps0[k] = q := ⟨_, rfl⟩
   have hmem : q ∈ ps0 := by rw [← hq]; exact List.getElem_mem hltp
   obtain ⟨a3, m3, p3, hq2⟩ := (HT.out q hmem).slice
   obtain ⟨b, off, hao, hbl, hrg⟩ := HL.out.range k hltp hq
   have hXE : cC q = #[.int .i64 q.1.op, str q.1.text, .int .i64 q.1.n, .int .i64 q.1.box.x0, .int .i64 q.1.box.y0, .int .i64 q.1.box.x1, .int .i64 q.1.box.y1, .slice a3 m3 p3].toList := by unfold cC; rw [hq2]
   rw [hXE] at hrg
   have hcm : k + 1 ≤ maxLen := by unfold maxLen; omega
   have hcb : (k + 1) * 88 ≤ 140737488355328 := by omega
   have HJS : Hid (S0 = csz j) := Lib.hid (by have h := HS0.out (by omega); rw [h, hj]; rfl)
   have CI : Hid (∀ V, Kp w V none → Calls Tryz.prog 32 #[.agg #[.int .i64 q.1.op, str q.1.text, .int .i64 q.1.n, .int .i64 q.1.box.x0, .int .i64 q.1.box.y0, .int .i64 q.1.box.x1, .int .i64 q.1.box.y1, .slice a3 m3 p3], .int .i64 (j : Int)] V (CutIs j V)) := Lib.hid fun V hV => by
    have h := HIH.out j hj q hmem V hV
    rw [hXE] at h
    exact h
   have hwj : (L : Int) - 1 = (j : Int) := by omega
   have HRGV : Hid (∀ V, Kp w V none → V.rangeAt b (off + k * 8) #[.int .i64 q.1.op, str q.1.text, .int .i64 q.1.n, .int .i64 q.1.box.x0, .int .i64 q.1.box.y0, .int .i64 q.1.box.x1, .int .i64 q.1.box.y1, .slice a3 m3 p3].toList) := Lib.hid fun V hV x v hv => by rw [hV.below.cell (p := ⟨b, off + k * 8 + x, none⟩) hbl]; exact hrg x v hv
   obtain ⟨i0, hi, hz0', hz1, hz2⟩ := info_parts info40
   subst hao
   clear hq hmem hq2 hXE hrg hltp hj
   go_upto_region 7 with fail
   have kD : Kp wr wr.drew none := (Kp.refl _ _).drew
   have HBR := Lib.hid (res_kept HBR.out kD (by simp))
   have HCR := Lib.hid (res_kept HCR.out kD (by simp))
   have HOW := Lib.hid (own_kp HOW.out kD)
   have HPS := Lib.hid (fun p hp => ⟨((HPS.out p hp).1).keep kD, (HPS.out p hp).2⟩ : ∀ p ∈ ps, TreeP (fun b => w.heap.size + 2 ≤ b ∧ lv.ownBlock ≠ some b) wr.drew p.1 p.2 ∧ Short p.1 ∧ Ru.size p.1 ≤ S0)
   have HKR := Lib.hid (HKR.out.trans kD)
   have hzr : w.heap.size + 2 ≤ wr.drew.heap.size := by have := kD.size; omega
   clear kD
   refine wp_region_last (fun V => V.cell? ⟨w.heap.size, 7, none⟩ = some lv ∧ V.rangeAt b (off + k * 8) #[.int .i64 q.1.op, str q.1.text, .int .i64 q.1.n, .int .i64 q.1.box.x0, .int .i64 q.1.box.y0, .int .i64 q.1.box.x1, .int .i64 q.1.box.y1, .slice a3 m3 p3].toList ∧ True) 12 (by kernel_rfl) ⟨hcell HBR.out 7 rfl, HRGV.out _ HKR.out, trivial⟩ (fun hHeld => ?_)
   generalize wr.drew = v0 at *
   have hwj2 : IntKind.i64.wrap (j : Int) = (j : Int) := by rw [IntKind.wrap_i64]; omega
   have hwk2 : IntKind.i64.wrap (k : Int) = (k : Int) := by rw [IntKind.wrap_i64]; omega
   refine tkL 0 rfl ?_
   try simp only [Act.put, sm]
   refine tkL 1 rfl ?_
   try simp only [Act.put, sm]
   refine tkL 2 rfl ?_
   try simp only [Act.put, sm]
   refine tkL 3 rfl ?_
   try simp only [Act.put, sm]
   refine tkL 4 rfl ?_
   try simp only [Act.put, sm]
   refine wpAnyL_take (i := 5) rfl (by kernel_rfl) (by kernel_rfl) (by kernel_rfl) (by kernel_rfl) (fun _ _ _ h => h) (yieldsIf_load_mid (by rfl) _ _ rfl b (off + k * 8) rfl #[.int .i64 q.1.op, str q.1.text, .int .i64 q.1.n, .int .i64 q.1.box.x0, .int .i64 q.1.box.y0, .int .i64 q.1.box.x1, .int .i64 q.1.box.y1, .slice a3 m3 p3].toList _ (fun _ h => h.2.1) Tryz.underlying40 rfl info40s) (by assumption) ?_
   try simp only [Act.put, sm]
   refine tkL 6 rfl ?_
   try simp only [Act.put, sm]
   refine tkL 7 rfl ?_
   try simp only [Act.put, sm]
   clear hwj2 hwk2
   refine wpAnyL_ready (rs := [8]) (by kernel_rfl) (by simp) ?_
   refine AllReadyL.cons (o := _) rfl (fun K hK => ?_) AllReadyL.nil
   clear hHeld
   go_simp
   refine (CI.out _ HKR.out).mono ?_
   rintro e v1 ⟨d, a2, m2, p2, rfl, ht, hds, hdz, hkn⟩
   have HB1r := Lib.hid (res_kept HBR.out hkn (by simp))
   have HC1r := Lib.hid (res_kept HCR.out hkn (by simp))
   have HOW1 := Lib.hid (own_kp HOW.out hkn)
   have HPS1 : Hid (∀ p ∈ ps, TreeP (fun b => w.heap.size + 2 ≤ b ∧ lv.ownBlock ≠ some b) v1 p.1 p.2 ∧ Short p.1 ∧ Ru.size p.1 ≤ S0) := Lib.hid fun p hp => ⟨((HPS.out p hp).1).keep hkn, (HPS.out p hp).2⟩
   have HKN := Lib.hid (HKR.out.trans hkn)
   have HT1 := Lib.hid ht
   have hzn := hkn.size
   have hlv0 : Hid (∀ b, lv.ownBlock = some b → b < v0.heap.size) := Lib.hid fun b hb => (HOW.out.lt b hb).2
   clear hkn ht HBR HCR HOW HPS HKR
   try go_wp2_with fail
   refine hK.out _ _ ⟨hcell HB1r.out 7 rfl, HRGV.out _ HKN.out, trivial⟩ (fun hHeld => ?_)
   clear hK K
   try simp only [Act.put, sm]
   refine wpAnyL_ready (rs := [9]) (by kernel_rfl) (by simp) ?_
   refine AllReadyL.cons (o := _) rfl (fun K hK => ?_) AllReadyL.nil
   clear hHeld
   go_simp
   have kA : Kp v1 (v1.alloc (.cells #[.int .i64 d.op, str d.text, .int .i64 d.n, .int .i64 d.box.x0, .int .i64 d.box.y0, .int .i64 d.box.x1, .int .i64 d.box.y1, .slice a2 m2 p2] 40)) none := (Kp.refl _ _).alloc _
   have HB2r := Lib.hid (res_kept HB1r.out kA (by simp))
   have hDB := heap_alloc_new v1 (.cells #[.int .i64 d.op, str d.text, .int .i64 d.n, .int .i64 d.box.x0, .int .i64 d.box.y0, .int .i64 d.box.x1, .int .i64 d.box.y1, .slice a2 m2 p2] 40)
   refine hK.out _ _ ⟨hcell HB2r.out 7 rfl, HRGV.out _ (HKN.out.trans kA), trivial⟩ (fun hHeld => ?_)
   clear hK K
   try simp only [Act.put, sm]
   refine wpAnyL_ready (rs := [10]) (by kernel_rfl) (by simp) ?_
   refine AllReadyL.cons (o := _) rfl (fun K hK => ?_) AllReadyL.nil
   refine step_append_lies _ (by rfl) _ _ _ (by rfl) (w.heap.size + 2) 40 i0 _ 8 88 Tryz.underlying38 hi hz0' hz1 hz2 rfl (by omega) lv k (ps.flatMap cC) (by rfl) (own_kp HOW1.out kA) ⟨v1.heap.size, 0, none⟩ 1 1 #[.int .i64 d.op, str d.text, .int .i64 d.n, .int .i64 d.box.x0, .int .i64 d.box.y0, .int .i64 d.box.x1, .int .i64 d.box.y1, .slice a2 m2 p2].toList (by rfl) (by rfl) (World.news_of_block (cs := #[.int .i64 d.op, str d.text, .int .i64 d.n, .int .i64 d.box.x0, .int .i64 d.box.y0, .int .i64 d.box.x1, .int .i64 d.box.y1, .slice a2 m2 p2]) (t := 40) (fr := (0, 0)) hDB) (by simp [Value.oneCell']) (by omega) hcm hcb (by simp; omega) (v1.heap.size + 1) (by simp) ?_
   intro gg capg v5 hown5 hgrow5 hor5 hgl5
   clear hHeld
   have HB5 : Hid (v5.heap[w.heap.size]? = some (.cells #[.int .i64 c.op, str t, .int .i64 c.n, .int .i64 c.box.x0, .int .i64 c.box.y0, .int .i64 c.box.x1, .int .i64 c.box.y1, lv] 40 (0, 0))) := Lib.hid (res_kept HB2r.out hgrow5 (fun r hr e => by have := (HOW1.out.lt r hr).1; omega))
   have hgb : w.heap.size + 2 ≤ gg := by
    rcases hor5 with h | h
    ·exact (HOW1.out.lt gg h).1
    ·omega
   have HC5 := Lib.hid (res_kept (res_kept HC1r.out kA (by simp)) hgrow5 (fun r hr e => by have := (HOW1.out.lt r hr).1; omega))
   have HK5 : Hid (Kp w v5 none) := Lib.hid (Kp.row (HKN.out.trans kA) hgrow5 (fun r hr => by have := (HOW1.out.lt r hr).1; omega))
   have HOW5 : Hid (v5.ownsRow (w.heap.size + 2) 40 8 (.slice (some ⟨gg, 0, none⟩) (k + 1) capg) (k + 1) ((ps ++ [(d, Value.slice a2 m2 p2)]).flatMap cC)) := Lib.hid (by rw [List.flatMap_append]; exact hown5)
   have hgw : ∀ b, b < v1.heap.size → lv.ownBlock ≠ some b → gg ≠ b := fun b hb hne2 e => by
    rcases hor5 with h | h
    ·exact hne2 (by rw [h, e])
    ·omega
   have HT5 : Hid (∀ p ∈ ps ++ [(d, Value.slice a2 m2 p2)], TreeP (fun b => w.heap.size + 2 ≤ b ∧ (Value.slice (some ⟨gg, 0, none⟩) (k + 1) capg).ownBlock ≠ some b) v5 p.1 p.2 ∧ Short p.1 ∧ Ru.size p.1 ≤ S0) := Lib.hid (by
    have hrow : ∀ {S : Nat → Prop} {c : Ru.Cond} {v : Value}, (∀ b, S b → lv.ownBlock ≠ some b) → TreeP S v1 c v → TreeP S v5 c v := fun hS h => (h.keep kA).row hgrow5 (fun r hr hs => hS r hs hr)
    intro p hp
    rcases List.mem_append.1 hp with hp | hp
    ·refine ⟨?_, (HPS1.out p hp).2⟩
     have h2 := ((HPS1.out p hp).1).mono (T := fun b => (w.heap.size + 2 ≤ b ∧ lv.ownBlock ≠ some b) ∧ b < v1.heap.size) (fun b hb h => ⟨h, hb⟩)
     exact (hrow (fun b hb => hb.1.2) h2).mono fun b _ h => ⟨h.1.1, fun e => hgw b h.2 h.1.2 (Option.some.inj e)⟩
    ·rw [List.mem_singleton] at hp
     subst hp
     refine ⟨?_, hds, by rw [HJS.out]; exact hdz⟩
     have h2 := HT1.out.mono (T := fun b => (v0.heap.size ≤ b ∧ lv.ownBlock ≠ some b) ∧ b < v1.heap.size) (fun b hb h => ⟨⟨h, fun e => by have := hlv0.out b e; omega⟩, hb⟩)
     exact (hrow (fun b hb => hb.1.2) h2).mono fun b _ h => ⟨by omega, fun e => hgw b h.2 h.1.2 (Option.some.inj e)⟩)
   have HPL5 : Hid ((ps ++ [(d, Value.slice a2 m2 p2)]).length = k + 1) := Lib.hid (by rw [List.length_append, HPL.out]; rfl)
   generalize ps ++ [(d, Value.slice a2 m2 p2)] = ps2 at HOW5 HT5 HPL5
   have HKA5 : Hid (Kp w v5 none) := HK5
   clear hown5 hor5 hgw hDB kA HOW1 HPS1 HC1r HKN HT1 HB1r HB2r
   refine hK.out _ _ ⟨hcell HB5.out 7 rfl, HRGV.out _ HK5.out, trivial⟩ (fun hHeld => ?_)
   clear hK K hgrow5
   try simp only [Act.put, sm]
   refine tkL 11 rfl ?_
   try simp only [Act.put, sm]
   refine wpAnyL_ready (rs := [12]) (by kernel_rfl) (by simp) ?_
   refine AllReadyL.last (o := _) rfl (fun K hK => ?_)
   have hc7 := hcell HB5.out 7 rfl
   have hf7 := Lib.frozen_of_heap HB5.out 7
   clear hHeld
   go_simp
   refine hK.out _ _ ?_
   clear hK K hc7 hf7
   try simp only [Act.put, sm]
   refine wpAnyL_done (by kernel_rfl) ?_ _
   have ks : Kp v5 (v5.setCell ⟨w.heap.size, 7, none⟩ (.slice (some ⟨gg, 0, none⟩) (k + 1) capg)) (some w.heap.size) := (Kp.refl _ _).set _
   have HKS := Lib.hid ks
   have HB6n := Lib.hid (heap_set (o := 7) (v := .slice (some ⟨gg, 0, none⟩) (k + 1) capg) HB5.out)
   have hzs := ks.size
   have hz5 := hgl5
   generalize v5.setCell ⟨w.heap.size, 7, none⟩ (.slice (some ⟨gg, 0, none⟩) (k + 1) capg) = v6 at *
   clear ks
   go_wp2_with fail
   go_roundw
   case rel => exact ⟨k + 1, ps2, _, by omega, by omega, by omega, by go_num, HPL5, HB6n, Lib.hid (res_kept HC5.out HKS.out (by intro q hq; injection hq with hq; omega)), Lib.hid (HOW5.out.kept HKS.out (.inr (fun e => by have e : gg = w.heap.size := Option.some.inj e; omega))), Lib.hid (fun p hp => ⟨((HT5.out p hp).1).row HKS.out (fun r hr hs => by injection hr with hr; omega), (HT5.out p hp).2⟩), Lib.hid (Kp.of_own HK5.out HKS.out (Nat.le_refl _)), by omega⟩
   case measure => simp [intOf]; omega
  ·obtain ⟨lo, lcap, hlv⟩ := own_slice HOW.out
   subst hlv
   have HRG := Lib.hid (range_blk HBR.out)
   have HFIN : Hid (∀ V, Kp wr V (some (w.heap.size + 1)) → CutIs L w (.returned (.agg #[.int .i64 c.op, str t, .int .i64 c.n, .int .i64 c.box.x0, .int .i64 c.box.y0, .int .i64 c.box.x1, .int .i64 c.box.y1, .slice lo k lcap])) V) := Lib.hid fun V hV => by
    have hT : ∀ p ∈ ps, TreeP (fun b => w.heap.size ≤ b) V p.1 p.2 := fun p hp => (((HPS.out p hp).1).row hV (fun r hr hs => by injection hr with hr; omega)).mono fun b _ hb => by omega
    have hO := HOW.out.kept hV (by
     cases hq : (Value.slice lo k lcap).ownBlock with
     | none => exact .inl rfl
     | some b => exact .inr (by have := (HOW.out.lt b hq).1; intro e; injection e with e; omega))
    refine ⟨.mk c.op t c.n c.box (ps.map (·.1)), lo, k, lcap, rfl, ?_, ?_, ?_, Kp.of_own HKR.out hV (by omega)⟩
    ·refine TreeP.of (ps := ps) rfl ?_ (fun a m c e hne => ?_) hT
     ·rw [← HPL.out] at hO ⊢
      exact isList_own (m := 8) (f := cC) (fun _ => rfl) hO
     ·injection e with e
      have := (hO.lt a.block (by rw [e]; rfl)).1
      omega
    ·refine .mk _ _ _ _ _ (by have := HTL.out; omega) (by rw [List.length_map, HPL.out]; omega) (fun d hd => ?_)
     obtain ⟨p, hp, rfl⟩ := List.mem_map.1 hd
     exact (HPS.out p hp).2.1
    ·rw [Ru.size_mk]
     have h1 := sizes_max (S0 := S0) (ps.map (·.1)) (fun d hd => by
      obtain ⟨p, hp, rfl⟩ := List.mem_map.1 hd
      exact (HPS.out p hp).2.2)
     rw [List.length_map, HPL.out] at h1
     cases hL' : L with
     | zero => rw [hkL hL'] at h1; simp at h1; simp [csz]; omega
     | succ j =>
      have h2 := HS0.out (by omega)
      rw [hL'] at h2
      have h3 : S0 = csz j := h2
      rw [csz, ← h3]
      have h4 : k * S0 ≤ 3 * S0 := Nat.mul_le_mul_right _ hk3
      omega
   by_cases q1 : k < n
   ·have h1 : (k : Int) < (n : Int) := by omega
    by_cases q2 : k < 3
    ·have h2 : (k : Int) < 3 := by omega
     have h3 : ¬ (0 : Int) < (L : Int) := by omega
     clear q1 q2 hlt
     go_wp2_with (first | (refine wpList_load_mid (by rfl) 40 _ (by rfl) w.heap.size 0 (by rfl) #[.int .i64 c.op, str t, .int .i64 c.n, .int .i64 c.box.x0, .int .i64 c.box.y0, .int .i64 c.box.x1, .int .i64 c.box.y1, .slice lo k lcap].toList _ HRG.out Tryz.underlying40 (by rfl) info40s ?_) | (refine wpList_store_blk (by rfl) 40 _ _ (by rfl) (w.heap.size + 1) _ 40 HCR.out #[.int .i64 c.op, str t, .int .i64 c.n, .int .i64 c.box.x0, .int .i64 c.box.y0, .int .i64 c.box.x1, .int .i64 c.box.y1, .slice lo k lcap] (by rfl) (by rfl) info40s (by rfl) (by simp [Value.oneCell']) (fun V hV hkV => ?_); have HV := Lib.hid hV; have HKV := Lib.hid hkV; clear hV hkV))
     refine bodyPost_ret (results_cell_row (p := 4) (ty := 40) (by rfl) _ V (w.heap.size + 1) 40 #[.int .i64 c.op, str t, .int .i64 c.n, .int .i64 c.box.x0, .int .i64 c.box.y0, .int .i64 c.box.x1, .int .i64 c.box.y1, .slice lo k lcap] (0, 0) _ (by rfl) HV.out Tryz.underlying40 (by rfl) info40s) (by rfl) ?_
     exact HFIN.out V HKV.out
    ·have h2 : ¬ (k : Int) < 3 := by omega
     clear q1 q2 hlt
     go_wp2_with (first | (refine wpList_load_mid (by rfl) 40 _ (by rfl) w.heap.size 0 (by rfl) #[.int .i64 c.op, str t, .int .i64 c.n, .int .i64 c.box.x0, .int .i64 c.box.y0, .int .i64 c.box.x1, .int .i64 c.box.y1, .slice lo k lcap].toList _ HRG.out Tryz.underlying40 (by rfl) info40s ?_) | (refine wpList_store_blk (by rfl) 40 _ _ (by rfl) (w.heap.size + 1) _ 40 HCR.out #[.int .i64 c.op, str t, .int .i64 c.n, .int .i64 c.box.x0, .int .i64 c.box.y0, .int .i64 c.box.x1, .int .i64 c.box.y1, .slice lo k lcap] (by rfl) (by rfl) info40s (by rfl) (by simp [Value.oneCell']) (fun V hV hkV => ?_); have HV := Lib.hid hV; have HKV := Lib.hid hkV; clear hV hkV))
     refine bodyPost_ret (results_cell_row (p := 4) (ty := 40) (by rfl) _ V (w.heap.size + 1) 40 #[.int .i64 c.op, str t, .int .i64 c.n, .int .i64 c.box.x0, .int .i64 c.box.y0, .int .i64 c.box.x1, .int .i64 c.box.y1, .slice lo k lcap] (0, 0) _ (by rfl) HV.out Tryz.underlying40 (by rfl) info40s) (by rfl) ?_
     exact HFIN.out V HKV.out
   ·have h1 : ¬ (k : Int) < (n : Int) := by omega
    clear q1 hlt
    go_wp2_with (first | (refine wpList_load_mid (by rfl) 40 _ (by rfl) w.heap.size 0 (by rfl) #[.int .i64 c.op, str t, .int .i64 c.n, .int .i64 c.box.x0, .int .i64 c.box.y0, .int .i64 c.box.x1, .int .i64 c.box.y1, .slice lo k lcap].toList _ HRG.out Tryz.underlying40 (by rfl) info40s ?_) | (refine wpList_store_blk (by rfl) 40 _ _ (by rfl) (w.heap.size + 1) _ 40 HCR.out #[.int .i64 c.op, str t, .int .i64 c.n, .int .i64 c.box.x0, .int .i64 c.box.y0, .int .i64 c.box.x1, .int .i64 c.box.y1, .slice lo k lcap] (by rfl) (by rfl) info40s (by rfl) (by simp [Value.oneCell']) (fun V hV hkV => ?_); have HV := Lib.hid hV; have HKV := Lib.hid hkV; clear hV hkV))
    refine bodyPost_ret (results_cell_row (p := 4) (ty := 40) (by rfl) _ V (w.heap.size + 1) 40 #[.int .i64 c.op, str t, .int .i64 c.n, .int .i64 c.box.x0, .int .i64 c.box.y0, .int .i64 c.box.x1, .int .i64 c.box.y1, .slice lo k lcap] (0, 0) _ (by rfl) HV.out Tryz.underlying40 (by rfl) info40s) (by rfl) ?_
    exact HFIN.out V HKV.out
theorem cutL_any : ∀ (L : Nat), L ≤ 3 → ∀ (c : Ru.Cond) (w : World) (v : Value), Wide c → Tree w c v → Calls Tryz.prog 32 #[cA c v, .int .i64 (L : Int)] w (CutIs L w)
 | L, hL, c, w, v, hc, ht => by
  obtain ⟨ps, e1, e2, e3⟩ := ht.open
  obtain ⟨ao, ca, e4, hla⟩ := e2.form
  subst e4
  refine cut_walk L (csz (L - 1)) hL c ps ao ca _ w hc.text rfl (by have := hc.len; rw [e1, List.length_map] at this; exact this) hla e3 (fun p hp => hc.sub (by rw [e1]; exact List.mem_map.2 ⟨p, hp, rfl⟩)) (fun _ => rfl) (fun j hj p hp V hV => ?_)
  exact cutL_any j (by omega) p.1 V p.2 (hc.sub (by rw [e1]; exact List.mem_map.2 ⟨p, hp, rfl⟩)) ((e3 p hp).keep hV)
end Go.Proofs.YtnchipahdfbliaaGreatDoor

