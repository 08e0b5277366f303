/- The reference's changes of conditions. Conditions: texts and sizes that a machine holds. -/
import Derived.Test.YtnchipahdfbliaaGreatDoorOa
namespace Go.Proofs.YtnchipahdfbliaaGreatDoor
open Go.RowKit

/-- A condition that OddCond hands out. -/
def OddIs (S : Nat → Prop) (N : Nat) (w : World) (e : Ending) (w' : World) : Prop := ∃ (c : Ru.Cond) (a : Option Addr) (m p : Nat), e = .returned (.agg #[.int .i64 c.op, str c.text, .int .i64 c.n, .int .i64 c.box.x0, .int .i64 c.box.y0, .int .i64 c.box.x1, .int .i64 c.box.y1, .slice a m p]) ∧ TreeP (fun b => S b ∨ w.heap.size ≤ b) w' c (.slice a m p) ∧ Short c ∧ Ru.size c ≤ N + 1 ∧ Kp w w' none
/-- The blocks of a condition that was there, and those made since. -/
def S3 (S : Nat → Prop) (w : World) (b : Nat) : Prop := (S b ∧ b < w.heap.size) ∨ w.heap.size + 3 ≤ b
theorem short_like {c d : Ru.Cond} (h : Short c) (hl : d.l = c.l) (ht : d.text.length ≤ 1000000000) : Short d := by
 obtain ⟨op, t, n, b, l⟩ := d
 have hl : l = c.l := hl
 subst hl
 exact .mk _ _ _ _ _ ht h.len (fun e he => h.sub he)
theorem size_like {c d : Ru.Cond} (hl : d.l = c.l) : Ru.size d = Ru.size c := by
 obtain ⟨op, t, n, b, l⟩ := d
 obtain ⟨op', t', n', b', l'⟩ := c
 have hl : l = l' := hl
 subst hl
 rw [Ru.size_mk, Ru.size_mk]
section
variable (S : Nat → Prop) (N : Nat) (c : Ru.Cond) (ps : List (Ru.Cond × Value)) (ao : Option Addr) (ca n : Nat) (q0 q1 q2 : Int) (w : World)
set_option maxHeartbeats 16000000 in
set_option maxRecDepth 100000 in
theorem odd_switch (hs : Short c) (hN : Ru.size c ≤ N) (hN2 : N ≤ 1000) (hc : c.l = ps.map (·.1)) (hn : ps.length = n) (hl : LiesAt 8 cC w ao ca ps) (hb : ∀ a m p, Value.slice ao n ca = .slice (some a) m p → ps ≠ [] → S a.block) (ht : ∀ p ∈ ps, TreeP S w p.1 p.2) (hno : ¬ (0 < n ∧ rem q2 2 = 1)) :
  Calls Tryz.prog 31 #[.agg #[.int .i64 c.op, str c.text, .int .i64 c.n, .int .i64 c.box.x0, .int .i64 c.box.y0, .int .i64 c.box.x1, .int .i64 c.box.y1, .slice ao n ca], .agg #[.int .i64 q0, .int .i64 q1, .int .i64 q2]] w (OddIs S N w) := by
 have HL := Lib.hid hl; have HT := Lib.hid ht; have HN := Lib.hid hn; have HB := Lib.hid hb; have HC := Lib.hid hc; have HS := Lib.hid hs; have HNO := Lib.hid hno
 have hA := heap_alloc_new w (.cells #[.int .i64 c.op, str c.text, .int .i64 c.n, .int .i64 c.box.x0, .int .i64 c.box.y0, .int .i64 c.box.x1, .int .i64 c.box.y1, .slice ao n ca] 40)
 have hA2 := res_kept (res_kept hA ((Kp.refl _ none).alloc (.cells #[.int .i64 q0, .int .i64 q1, .int .i64 q2] 23)) (by simp)) ((Kp.refl _ none).alloc (.cells #[.int .i64 0, .string ⟨#[]⟩, .int .i64 0, .int .i64 0, .int .i64 0, .int .i64 0, .int .i64 0, .slice none 0 0] 40)) (by simp)
 have hq := heap_alloc_new (w.alloc (.cells #[.int .i64 c.op, str c.text, .int .i64 c.n, .int .i64 c.box.x0, .int .i64 c.box.y0, .int .i64 c.box.x1, .int .i64 c.box.y1, .slice ao n ca] 40)) (.cells #[.int .i64 q0, .int .i64 q1, .int .i64 q2] 23)
 have hq2 := res_kept hq ((Kp.refl _ none).alloc (.cells #[.int .i64 0, .string ⟨#[]⟩, .int .i64 0, .int .i64 0, .int .i64 0, .int .i64 0, .int .i64 0, .slice none 0 0] 40)) (by simp)
 have hz := heap_alloc_new ((w.alloc (.cells #[.int .i64 c.op, str c.text, .int .i64 c.n, .int .i64 c.box.x0, .int .i64 c.box.y0, .int .i64 c.box.x1, .int .i64 c.box.y1, .slice ao n ca] 40)).alloc (.cells #[.int .i64 q0, .int .i64 q1, .int .i64 q2] 23)) (.cells #[.int .i64 0, .string ⟨#[]⟩, .int .i64 0, .int .i64 0, .int .i64 0, .int .i64 0, .int .i64 0, .slice none 0 0] 40)
 rw [show (w.alloc (.cells #[.int .i64 c.op, str c.text, .int .i64 c.n, .int .i64 c.box.x0, .int .i64 c.box.y0, .int .i64 c.box.x1, .int .i64 c.box.y1, .slice ao n ca] 40)).heap.size = w.heap.size + 1 by simp] at hq2
 rw [show ((w.alloc (.cells #[.int .i64 c.op, str c.text, .int .i64 c.n, .int .i64 c.box.x0, .int .i64 c.box.y0, .int .i64 c.box.x1, .int .i64 c.box.y1, .slice ao n ca] 40)).alloc (.cells #[.int .i64 q0, .int .i64 q1, .int .i64 q2] 23)).heap.size = w.heap.size + 2 by simp] at hz
 have HBA := Lib.hid hA2; have HBQ := Lib.hid hq2; have HBZ := Lib.hid hz
 have HK1 : Hid (Kp w (((w.alloc (.cells #[.int .i64 c.op, str c.text, .int .i64 c.n, .int .i64 c.box.x0, .int .i64 c.box.y0, .int .i64 c.box.x1, .int .i64 c.box.y1, .slice ao n ca] 40)).alloc (.cells #[.int .i64 q0, .int .i64 q1, .int .i64 q2] 23)).alloc (.cells #[.int .i64 0, .string ⟨#[]⟩, .int .i64 0, .int .i64 0, .int .i64 0, .int .i64 0, .int .i64 0, .slice none 0 0] 40)) none) := Lib.hid ((((Kp.refl _ none).alloc _).alloc _).alloc _)
 have hz1 : (((w.alloc (.cells #[.int .i64 c.op, str c.text, .int .i64 c.n, .int .i64 c.box.x0, .int .i64 c.box.y0, .int .i64 c.box.x1, .int .i64 c.box.y1, .slice ao n ca] 40)).alloc (.cells #[.int .i64 q0, .int .i64 q1, .int .i64 q2] 23)).alloc (.cells #[.int .i64 0, .string ⟨#[]⟩, .int .i64 0, .int .i64 0, .int .i64 0, .int .i64 0, .int .i64 0, .slice none 0 0] 40)).heap.size = w.heap.size + 3 := by simp
 have cM2 := fun W => mod_any q2 2 W (by omega) (by omega)
 have cM7 := fun W => mod_any q0 7 W (by omega) (by omega)
 have hr2 := rem_range q2 2 (by omega)
 have hr7 := rem_range q0 7 (by omega)
 obtain ⟨x2, hx2⟩ : ∃ x, rem q2 2 = x := ⟨_, rfl⟩
 obtain ⟨x7, hx7⟩ : ∃ x, rem q0 7 = x := ⟨_, rfl⟩
 rw [hx2] at cM2 hr2 HNO
 rw [hx7] at cM7 hr7
 have hn0 : (0 : Int) ≤ (n : Int) := by omega
 have hno2 : n = 0 ∨ (0 < n ∧ x2 = 0) := by have := HNO.out; omega
 have HTC : Hid (∀ V (d : Ru.Cond), Kp w V none → d.l = c.l → TreeP (S3 S w) V d (.slice ao n ca)) := Lib.hid fun V d hV hd => by
  refine TreeP.of (ps := ps) (by rw [hd]; exact hc) ?_ (fun a m p e hne => .inl ⟨hb a m p e hne, ?_⟩) (fun x hx => ((ht x hx).mono (fun b hb h => .inl ⟨h, hb⟩)).keep hV)
  ·rw [← hn]; exact (hl.list).keep hV
  ·injection e with e
   obtain ⟨b, off, e2, hb2, _⟩ := hl.range 0 (List.length_pos_iff.2 hne) rfl
   rw [e] at e2; injection e2 with e2; rw [e2]; exact hb2
 have HT3 : Hid (∀ x ∈ ps, TreeP (S3 S w) w x.1 x.2) := Lib.hid fun x hx => (ht x hx).mono fun b hb h => .inl ⟨h, hb⟩
 clear hl ht hn hb hc hs hno hA hA2 hq hq2 hz hx2 hx7 HNO
 have hc7 := hcell HBA.out 7 rfl
 have dq0 := hcell HBQ.out 0 rfl
 have dq1 := hcell HBQ.out 1 rfl
 have dq2 := hcell HBQ.out 2 rfl
 go_enter Tryz.func31, Tryz.ntmps31
 go_upto_region 1 with fail
 change Code.wp _ _ _ _ (((w.alloc (.cells #[.int .i64 c.op, str c.text, .int .i64 c.n, .int .i64 c.box.x0, .int .i64 c.box.y0, .int .i64 c.box.x1, .int .i64 c.box.y1, .slice ao n ca] 40)).alloc (.cells #[.int .i64 q0, .int .i64 q1, .int .i64 q2] 23)).alloc (.cells #[.int .i64 0, .string ⟨#[]⟩, .int .i64 0, .int .i64 0, .int .i64 0, .int .i64 0, .int .i64 0, .slice none 0 0] 40))
 generalize hW : (((w.alloc (.cells #[.int .i64 c.op, str c.text, .int .i64 c.n, .int .i64 c.box.x0, .int .i64 c.box.y0, .int .i64 c.box.x1, .int .i64 c.box.y1, .slice ao n ca] 40)).alloc (.cells #[.int .i64 q0, .int .i64 q1, .int .i64 q2] 23)).alloc (.cells #[.int .i64 0, .string ⟨#[]⟩, .int .i64 0, .int .i64 0, .int .i64 0, .int .i64 0, .int .i64 0, .slice none 0 0] 40)) = W1 at *
 clear hW
 go_cut [16] from 7 to 16 (fun s16 wx => s16 = .bool false ∧ wx = W1)
 case first =>
  rcases hno2 with h0 | ⟨h0, h1⟩
  ·subst h0
   go_wp2_with fail
   go_meet
   exact ⟨rfl, rfl⟩
  ·have h2 : (0 : Int) < (n : Int) := by omega
   subst h1
   go_wp2_with (go_at_call 22; refine (cM2 _).mono ?_; rintro e w2 ⟨rfl, hw2⟩; subst w2)
   go_meet
   exact ⟨rfl, rfl⟩
 case rest =>
  obtain ⟨rfl, hwx⟩ := hcut
  have hwx := hwx.symm
  subst hwx
  go_upto_block 0 with (go_at_call 22; refine (cM7 _).mono ?_; rintro e w2 ⟨rfl, hw2⟩; subst w2)
  clear cM2 cM7
  go_cut [51] from 52 to 119 (fun _ wx => ∃ (d : Ru.Cond) (a : Option Addr) (m p : Nat), Hid (wx.heap[w.heap.size]? = some (.cells #[.int .i64 d.op, str d.text, .int .i64 d.n, .int .i64 d.box.x0, .int .i64 d.box.y0, .int .i64 d.box.x1, .int .i64 d.box.y1, .slice a m p] 40 (0, 0))) ∧ Hid (TreeP (S3 S w) wx d (.slice a m p)) ∧ Hid (Short d) ∧ Ru.size d ≤ N + 1 ∧ Hid (wx.heap[w.heap.size + 2]? = some (.cells #[.int .i64 0, .string ⟨#[]⟩, .int .i64 0, .int .i64 0, .int .i64 0, .int .i64 0, .int .i64 0, .slice none 0 0] 40 (0, 0))) ∧ Hid (Kp w wx none))
  case first =>
   have h7 : x7 = 0 ∨ x7 = 1 ∨ x7 = 2 ∨ x7 = 3 ∨ x7 = 4 ∨ x7 = 5 ∨ x7 = 6 := by omega
   rcases h7 with rfl | rfl | rfl | rfl | rfl | rfl | rfl
   ·skip
    have fz := Lib.frozen_of_heap HBA.out 0
    have cz := hcell HBA.out 0 rfl
    have cX := fun W => mod_any q1 13 W (by omega) (by omega)
    have hrx := rem_range q1 13 (by omega)
    obtain ⟨x, hx⟩ : ∃ x, rem q1 13 = x := ⟨_, rfl⟩
    rw [hx] at cX hrx
    clear hx
    go_wp2_with (go_at_call 22; refine (cX _).mono ?_; rintro e w3 ⟨rfl, hw3⟩; subst w3)
    go_meet
    clear fz cz
    have ks : Kp W1 (W1.setCell ⟨w.heap.size, 0, none⟩ (.int .i64 (x - 1))) (some w.heap.size) := (Kp.refl _ _).set _
    have kw : Kp w (W1.setCell ⟨w.heap.size, 0, none⟩ (.int .i64 (x - 1))) none := Kp.of_own HK1.out ks (Nat.le_refl _)
    exact ⟨.mk (x - 1) c.text c.n c.box c.l, ao, n, ca, Lib.hid (heap_set (o := 0) (v := .int .i64 (x - 1)) HBA.out), Lib.hid (HTC.out _ _ kw rfl), Lib.hid (short_like HS.out rfl (by have := HS.out.text; exact this)), by rw [size_like (c := c) (d := .mk (x - 1) c.text c.n c.box c.l) rfl]; omega, Lib.hid (res_kept HBZ.out ks (by intro q hq; injection hq with hq; omega)), Lib.hid kw⟩
   ·skip
    have cX := fun W => mod_any q1 5 W (by omega) (by omega)
    have hrx := rem_range q1 5 (by omega)
    obtain ⟨x, hx⟩ : ∃ x, rem q1 5 = x := ⟨_, rfl⟩
    rw [hx] at cX hrx
    clear hx
    have HV : Hid (∀ V, Kp W1 V none → V.cell? ⟨w.heap.size, 2, none⟩ = some (.int .i64 c.n) ∧ V.cell? ⟨w.heap.size + 1, 1, none⟩ = some (.int .i64 q1) ∧ Hid (Kp W1 V none)) := Lib.hid fun V hV => ⟨ckr HBA.out hV (by simp) 2 rfl, ckr HBQ.out hV (by simp) 1 rfl, Lib.hid hV⟩
    go_upto_region 12 with fail
    have kd : Kp W1 W1.drew none := (Kp.refl _ _).drew
    refine wp_region_last (fun V => V.cell? ⟨w.heap.size, 2, none⟩ = some (.int .i64 c.n) ∧ V.cell? ⟨w.heap.size + 1, 1, none⟩ = some (.int .i64 q1) ∧ Hid (Kp W1 V none)) 8 (by kernel_rfl) (HV.out _ kd) (fun hHeld => ?_)
    have HKd := Lib.hid kd
    clear kd
    generalize W1.drew = v0 at *
    refine tkL 0 rfl ?_
    try simp only [Act.put, sm]
    refine tkL 1 rfl ?_
    try simp only [Act.put, sm]
    refine tkL 2 rfl ?_
    try simp only [Act.put, sm]
    refine tkL 3 rfl ?_
    try simp only [Act.put, sm]
    refine wpAnyL_ready (rs := [4]) (by kernel_rfl) (by simp) ?_
    refine AllReadyL.cons (o := _) rfl (fun K hK => ?_) AllReadyL.nil
    clear hHeld
    go_simp
    refine (cX _).mono ?_
    rintro e w3 ⟨rfl, hw3⟩
    subst w3
    try go_wp2_with fail
    refine hK.out _ _ (HV.out _ HKd.out) (fun hHeld => ?_)
    clear hK K
    try simp only [Act.put, sm]
    refine tkL 5 rfl ?_
    try simp only [Act.put, sm]
    refine tkL 6 rfl ?_
    try simp only [Act.put, sm]
    refine tkL 7 rfl ?_
    try simp only [Act.put, sm]
    refine wpAnyL_ready (rs := [8]) (by kernel_rfl) (by simp) ?_
    refine AllReadyL.last (o := _) rfl (fun K hK => ?_)
    clear hHeld
    have HBv := Lib.hid (res_kept HBA.out HKd.out (by simp))
    have HZv := Lib.hid (res_kept HBZ.out HKd.out (by simp))
    have HKv := Lib.hid (HK1.out.trans HKd.out)
    have fz := Lib.frozen_of_heap HBv.out 2
    have cz := hcell HBv.out 2 rfl
    go_simp
    refine hK.out _ _ ?_
    clear hK K fz cz
    try simp only [Act.put, sm]
    refine wpAnyL_done (by kernel_rfl) ?_ _
    go_wp2_with fail
    go_meet
    have ks : Kp v0 (v0.setCell ⟨w.heap.size, 2, none⟩ (.int .i64 (IntKind.i64.wrap (IntKind.i64.wrap (c.n + x) - 2)))) (some w.heap.size) := (Kp.refl _ _).set _
    have kw : Kp w (v0.setCell ⟨w.heap.size, 2, none⟩ (.int .i64 (IntKind.i64.wrap (IntKind.i64.wrap (c.n + x) - 2)))) none := Kp.of_own HKv.out ks (Nat.le_refl _)
    exact ⟨.mk c.op c.text (IntKind.i64.wrap (IntKind.i64.wrap (c.n + x) - 2)) c.box c.l, ao, n, ca, Lib.hid (heap_set (o := 2) (v := .int .i64 (IntKind.i64.wrap (IntKind.i64.wrap (c.n + x) - 2))) HBv.out), Lib.hid (HTC.out _ _ kw rfl), Lib.hid (short_like HS.out rfl (by have := HS.out.text; exact this)), by rw [size_like (c := c) (d := .mk c.op c.text (IntKind.i64.wrap (IntKind.i64.wrap (c.n + x) - 2)) c.box c.l) rfl]; omega, Lib.hid (res_kept HZv.out ks (by intro q hq; injection hq with hq; omega)), Lib.hid kw⟩
   ·skip
    have cX := fun W => mod_any q1 6 W (by omega) (by omega)
    have hrx := rem_range q1 6 (by omega)
    obtain ⟨x, hx⟩ : ∃ x, rem q1 6 = x := ⟨_, rfl⟩
    rw [hx] at cX hrx
    clear hx
    have hA4 := (Kp.refl W1 none).alloc (.cells #[.string ⟨#[]⟩, .string ⟨#[120]⟩, .string ⟨#[97, 32, 98]⟩, .string ⟨#[97, 47, 98]⟩, .string ⟨#[57]⟩, .string ⟨#[97, 47, 98, 47, 99, 47, 100, 47, 101, 47, 102]⟩] 9)
    have HBv := Lib.hid (res_kept HBA.out hA4 (by simp))
    have HZv := Lib.hid (res_kept HBZ.out hA4 (by simp))
    have HQv := Lib.hid (res_kept HBQ.out hA4 (by simp))
    have HKv := Lib.hid (HK1.out.trans hA4)
    have dq9 := hcell HQv.out 1 rfl
    have fz := Lib.frozen_of_heap HBv.out 1
    have cz := hcell HBv.out 1 rfl
    have fz0 := Lib.frozen_of_heap HBA.out 1
    have cz0 := hcell HBA.out 1 rfl
    clear hA4
    have hx7 : x = 0 ∨ x = 1 ∨ x = 2 ∨ x = 3 ∨ x = 4 ∨ x = 5 := by omega
    rcases hx7 with rfl | rfl | rfl | rfl | rfl | rfl
    ·skip
     go_wp2_with (go_at_call 22; refine (cX _).mono ?_; rintro e w3 ⟨rfl, hw3⟩; subst w3)
     go_meet
     have ks : Kp W1 (W1.setCell ⟨w.heap.size, 1, none⟩ (.string ⟨#[]⟩)) (some w.heap.size) := (Kp.refl _ _).set _
     have kw : Kp w ((W1.setCell ⟨w.heap.size, 1, none⟩ (.string ⟨#[]⟩)).alloc (Obj.cells #[.string ⟨#[]⟩, .string ⟨#[120]⟩, .string ⟨#[97, 32, 98]⟩, .string ⟨#[97, 47, 98]⟩, .string ⟨#[57]⟩, .string ⟨#[97, 47, 98, 47, 99, 47, 100, 47, 101, 47, 102]⟩] 9)) none := (Kp.of_own HK1.out ks (Nat.le_refl _)).alloc _
     exact ⟨.mk c.op [] c.n c.box c.l, ao, n, ca, Lib.hid (res_kept (heap_set (o := 1) (v := .string ⟨#[]⟩) HBA.out) ((Kp.refl _ none).alloc (Obj.cells #[.string ⟨#[]⟩, .string ⟨#[120]⟩, .string ⟨#[97, 32, 98]⟩, .string ⟨#[97, 47, 98]⟩, .string ⟨#[57]⟩, .string ⟨#[97, 47, 98, 47, 99, 47, 100, 47, 101, 47, 102]⟩] 9)) (by simp)), Lib.hid (HTC.out _ _ kw rfl), Lib.hid (short_like HS.out rfl (by show ([] : List UInt8).length ≤ 1000000000; simp)), by rw [size_like (c := c) (d := .mk c.op [] c.n c.box c.l) rfl]; omega, Lib.hid (res_kept (res_kept HBZ.out ks (by intro q hq; injection hq with hq; omega)) ((Kp.refl _ none).alloc (Obj.cells #[.string ⟨#[]⟩, .string ⟨#[120]⟩, .string ⟨#[97, 32, 98]⟩, .string ⟨#[97, 47, 98]⟩, .string ⟨#[57]⟩, .string ⟨#[97, 47, 98, 47, 99, 47, 100, 47, 101, 47, 102]⟩] 9)) (by simp)), Lib.hid kw⟩
    ·skip
     go_wp2_with (go_at_call 22; refine (cX _).mono ?_; rintro e w3 ⟨rfl, hw3⟩; subst w3)
     go_meet
     have ks : Kp W1 (W1.setCell ⟨w.heap.size, 1, none⟩ (.string ⟨#[120]⟩)) (some w.heap.size) := (Kp.refl _ _).set _
     have kw : Kp w ((W1.setCell ⟨w.heap.size, 1, none⟩ (.string ⟨#[120]⟩)).alloc (Obj.cells #[.string ⟨#[]⟩, .string ⟨#[120]⟩, .string ⟨#[97, 32, 98]⟩, .string ⟨#[97, 47, 98]⟩, .string ⟨#[57]⟩, .string ⟨#[97, 47, 98, 47, 99, 47, 100, 47, 101, 47, 102]⟩] 9)) none := (Kp.of_own HK1.out ks (Nat.le_refl _)).alloc _
     exact ⟨.mk c.op [120] c.n c.box c.l, ao, n, ca, Lib.hid (res_kept (heap_set (o := 1) (v := .string ⟨#[120]⟩) HBA.out) ((Kp.refl _ none).alloc (Obj.cells #[.string ⟨#[]⟩, .string ⟨#[120]⟩, .string ⟨#[97, 32, 98]⟩, .string ⟨#[97, 47, 98]⟩, .string ⟨#[57]⟩, .string ⟨#[97, 47, 98, 47, 99, 47, 100, 47, 101, 47, 102]⟩] 9)) (by simp)), Lib.hid (HTC.out _ _ kw rfl), Lib.hid (short_like HS.out rfl (by show ([120] : List UInt8).length ≤ 1000000000; simp)), by rw [size_like (c := c) (d := .mk c.op [120] c.n c.box c.l) rfl]; omega, Lib.hid (res_kept (res_kept HBZ.out ks (by intro q hq; injection hq with hq; omega)) ((Kp.refl _ none).alloc (Obj.cells #[.string ⟨#[]⟩, .string ⟨#[120]⟩, .string ⟨#[97, 32, 98]⟩, .string ⟨#[97, 47, 98]⟩, .string ⟨#[57]⟩, .string ⟨#[97, 47, 98, 47, 99, 47, 100, 47, 101, 47, 102]⟩] 9)) (by simp)), Lib.hid kw⟩
    ·skip
     go_wp2_with (go_at_call 22; refine (cX _).mono ?_; rintro e w3 ⟨rfl, hw3⟩; subst w3)
     go_meet
     have ks : Kp W1 (W1.setCell ⟨w.heap.size, 1, none⟩ (.string ⟨#[97, 32, 98]⟩)) (some w.heap.size) := (Kp.refl _ _).set _
     have kw : Kp w ((W1.setCell ⟨w.heap.size, 1, none⟩ (.string ⟨#[97, 32, 98]⟩)).alloc (Obj.cells #[.string ⟨#[]⟩, .string ⟨#[120]⟩, .string ⟨#[97, 32, 98]⟩, .string ⟨#[97, 47, 98]⟩, .string ⟨#[57]⟩, .string ⟨#[97, 47, 98, 47, 99, 47, 100, 47, 101, 47, 102]⟩] 9)) none := (Kp.of_own HK1.out ks (Nat.le_refl _)).alloc _
     exact ⟨.mk c.op [97, 32, 98] c.n c.box c.l, ao, n, ca, Lib.hid (res_kept (heap_set (o := 1) (v := .string ⟨#[97, 32, 98]⟩) HBA.out) ((Kp.refl _ none).alloc (Obj.cells #[.string ⟨#[]⟩, .string ⟨#[120]⟩, .string ⟨#[97, 32, 98]⟩, .string ⟨#[97, 47, 98]⟩, .string ⟨#[57]⟩, .string ⟨#[97, 47, 98, 47, 99, 47, 100, 47, 101, 47, 102]⟩] 9)) (by simp)), Lib.hid (HTC.out _ _ kw rfl), Lib.hid (short_like HS.out rfl (by show ([97, 32, 98] : List UInt8).length ≤ 1000000000; simp)), by rw [size_like (c := c) (d := .mk c.op [97, 32, 98] c.n c.box c.l) rfl]; omega, Lib.hid (res_kept (res_kept HBZ.out ks (by intro q hq; injection hq with hq; omega)) ((Kp.refl _ none).alloc (Obj.cells #[.string ⟨#[]⟩, .string ⟨#[120]⟩, .string ⟨#[97, 32, 98]⟩, .string ⟨#[97, 47, 98]⟩, .string ⟨#[57]⟩, .string ⟨#[97, 47, 98, 47, 99, 47, 100, 47, 101, 47, 102]⟩] 9)) (by simp)), Lib.hid kw⟩
    ·skip
     go_wp2_with (go_at_call 22; refine (cX _).mono ?_; rintro e w3 ⟨rfl, hw3⟩; subst w3)
     go_meet
     have ks : Kp W1 (W1.setCell ⟨w.heap.size, 1, none⟩ (.string ⟨#[97, 47, 98]⟩)) (some w.heap.size) := (Kp.refl _ _).set _
     have kw : Kp w ((W1.setCell ⟨w.heap.size, 1, none⟩ (.string ⟨#[97, 47, 98]⟩)).alloc (Obj.cells #[.string ⟨#[]⟩, .string ⟨#[120]⟩, .string ⟨#[97, 32, 98]⟩, .string ⟨#[97, 47, 98]⟩, .string ⟨#[57]⟩, .string ⟨#[97, 47, 98, 47, 99, 47, 100, 47, 101, 47, 102]⟩] 9)) none := (Kp.of_own HK1.out ks (Nat.le_refl _)).alloc _
     exact ⟨.mk c.op [97, 47, 98] c.n c.box c.l, ao, n, ca, Lib.hid (res_kept (heap_set (o := 1) (v := .string ⟨#[97, 47, 98]⟩) HBA.out) ((Kp.refl _ none).alloc (Obj.cells #[.string ⟨#[]⟩, .string ⟨#[120]⟩, .string ⟨#[97, 32, 98]⟩, .string ⟨#[97, 47, 98]⟩, .string ⟨#[57]⟩, .string ⟨#[97, 47, 98, 47, 99, 47, 100, 47, 101, 47, 102]⟩] 9)) (by simp)), Lib.hid (HTC.out _ _ kw rfl), Lib.hid (short_like HS.out rfl (by show ([97, 47, 98] : List UInt8).length ≤ 1000000000; simp)), by rw [size_like (c := c) (d := .mk c.op [97, 47, 98] c.n c.box c.l) rfl]; omega, Lib.hid (res_kept (res_kept HBZ.out ks (by intro q hq; injection hq with hq; omega)) ((Kp.refl _ none).alloc (Obj.cells #[.string ⟨#[]⟩, .string ⟨#[120]⟩, .string ⟨#[97, 32, 98]⟩, .string ⟨#[97, 47, 98]⟩, .string ⟨#[57]⟩, .string ⟨#[97, 47, 98, 47, 99, 47, 100, 47, 101, 47, 102]⟩] 9)) (by simp)), Lib.hid kw⟩
    ·skip
     go_wp2_with (go_at_call 22; refine (cX _).mono ?_; rintro e w3 ⟨rfl, hw3⟩; subst w3)
     go_meet
     have ks : Kp W1 (W1.setCell ⟨w.heap.size, 1, none⟩ (.string ⟨#[57]⟩)) (some w.heap.size) := (Kp.refl _ _).set _
     have kw : Kp w ((W1.setCell ⟨w.heap.size, 1, none⟩ (.string ⟨#[57]⟩)).alloc (Obj.cells #[.string ⟨#[]⟩, .string ⟨#[120]⟩, .string ⟨#[97, 32, 98]⟩, .string ⟨#[97, 47, 98]⟩, .string ⟨#[57]⟩, .string ⟨#[97, 47, 98, 47, 99, 47, 100, 47, 101, 47, 102]⟩] 9)) none := (Kp.of_own HK1.out ks (Nat.le_refl _)).alloc _
     exact ⟨.mk c.op [57] c.n c.box c.l, ao, n, ca, Lib.hid (res_kept (heap_set (o := 1) (v := .string ⟨#[57]⟩) HBA.out) ((Kp.refl _ none).alloc (Obj.cells #[.string ⟨#[]⟩, .string ⟨#[120]⟩, .string ⟨#[97, 32, 98]⟩, .string ⟨#[97, 47, 98]⟩, .string ⟨#[57]⟩, .string ⟨#[97, 47, 98, 47, 99, 47, 100, 47, 101, 47, 102]⟩] 9)) (by simp)), Lib.hid (HTC.out _ _ kw rfl), Lib.hid (short_like HS.out rfl (by show ([57] : List UInt8).length ≤ 1000000000; simp)), by rw [size_like (c := c) (d := .mk c.op [57] c.n c.box c.l) rfl]; omega, Lib.hid (res_kept (res_kept HBZ.out ks (by intro q hq; injection hq with hq; omega)) ((Kp.refl _ none).alloc (Obj.cells #[.string ⟨#[]⟩, .string ⟨#[120]⟩, .string ⟨#[97, 32, 98]⟩, .string ⟨#[97, 47, 98]⟩, .string ⟨#[57]⟩, .string ⟨#[97, 47, 98, 47, 99, 47, 100, 47, 101, 47, 102]⟩] 9)) (by simp)), Lib.hid kw⟩
    ·skip
     go_wp2_with (go_at_call 22; refine (cX _).mono ?_; rintro e w3 ⟨rfl, hw3⟩; subst w3)
     go_meet
     have ks : Kp W1 (W1.setCell ⟨w.heap.size, 1, none⟩ (.string ⟨#[97, 47, 98, 47, 99, 47, 100, 47, 101, 47, 102]⟩)) (some w.heap.size) := (Kp.refl _ _).set _
     have kw : Kp w ((W1.setCell ⟨w.heap.size, 1, none⟩ (.string ⟨#[97, 47, 98, 47, 99, 47, 100, 47, 101, 47, 102]⟩)).alloc (Obj.cells #[.string ⟨#[]⟩, .string ⟨#[120]⟩, .string ⟨#[97, 32, 98]⟩, .string ⟨#[97, 47, 98]⟩, .string ⟨#[57]⟩, .string ⟨#[97, 47, 98, 47, 99, 47, 100, 47, 101, 47, 102]⟩] 9)) none := (Kp.of_own HK1.out ks (Nat.le_refl _)).alloc _
     exact ⟨.mk c.op [97, 47, 98, 47, 99, 47, 100, 47, 101, 47, 102] c.n c.box c.l, ao, n, ca, Lib.hid (res_kept (heap_set (o := 1) (v := .string ⟨#[97, 47, 98, 47, 99, 47, 100, 47, 101, 47, 102]⟩) HBA.out) ((Kp.refl _ none).alloc (Obj.cells #[.string ⟨#[]⟩, .string ⟨#[120]⟩, .string ⟨#[97, 32, 98]⟩, .string ⟨#[97, 47, 98]⟩, .string ⟨#[57]⟩, .string ⟨#[97, 47, 98, 47, 99, 47, 100, 47, 101, 47, 102]⟩] 9)) (by simp)), Lib.hid (HTC.out _ _ kw rfl), Lib.hid (short_like HS.out rfl (by show ([97, 47, 98, 47, 99, 47, 100, 47, 101, 47, 102] : List UInt8).length ≤ 1000000000; simp)), by rw [size_like (c := c) (d := .mk c.op [97, 47, 98, 47, 99, 47, 100, 47, 101, 47, 102] c.n c.box c.l) rfl]; omega, Lib.hid (res_kept (res_kept HBZ.out ks (by intro q hq; injection hq with hq; omega)) ((Kp.refl _ none).alloc (Obj.cells #[.string ⟨#[]⟩, .string ⟨#[120]⟩, .string ⟨#[97, 32, 98]⟩, .string ⟨#[97, 47, 98]⟩, .string ⟨#[57]⟩, .string ⟨#[97, 47, 98, 47, 99, 47, 100, 47, 101, 47, 102]⟩] 9)) (by simp)), Lib.hid kw⟩
   ·skip
    have cX := fun W => mod_any q1 5 W (by omega) (by omega)
    have hrx := rem_range q1 5 (by omega)
    obtain ⟨x, hx⟩ : ∃ x, rem q1 5 = x := ⟨_, rfl⟩
    rw [hx] at cX hrx
    clear hx
    have HV : Hid (∀ V, Kp W1 V none → V.cell? ⟨w.heap.size, 5, none⟩ = some (.int .i64 c.box.x1) ∧ V.cell? ⟨w.heap.size + 1, 1, none⟩ = some (.int .i64 q1) ∧ Hid (Kp W1 V none)) := Lib.hid fun V hV => ⟨ckr HBA.out hV (by simp) 5 rfl, ckr HBQ.out hV (by simp) 1 rfl, Lib.hid hV⟩
    go_upto_region 16 with fail
    have kd : Kp W1 W1.drew none := (Kp.refl _ _).drew
    refine wp_region_last (fun V => V.cell? ⟨w.heap.size, 5, none⟩ = some (.int .i64 c.box.x1) ∧ V.cell? ⟨w.heap.size + 1, 1, none⟩ = some (.int .i64 q1) ∧ Hid (Kp W1 V none)) 10 (by kernel_rfl) (HV.out _ kd) (fun hHeld => ?_)
    have HKd := Lib.hid kd
    clear kd
    generalize W1.drew = v0 at *
    refine tkL 0 rfl ?_
    try simp only [Act.put, sm]
    refine tkL 1 rfl ?_
    try simp only [Act.put, sm]
    refine tkL 2 rfl ?_
    try simp only [Act.put, sm]
    refine tkL 3 rfl ?_
    try simp only [Act.put, sm]
    refine tkL 4 rfl ?_
    try simp only [Act.put, sm]
    refine wpAnyL_ready (rs := [5]) (by kernel_rfl) (by simp) ?_
    refine AllReadyL.cons (o := _) rfl (fun K hK => ?_) AllReadyL.nil
    clear hHeld
    go_simp
    refine (cX _).mono ?_
    rintro e w3 ⟨rfl, hw3⟩
    subst w3
    try go_wp2_with fail
    refine hK.out _ _ (HV.out _ HKd.out) (fun hHeld => ?_)
    clear hK K
    try simp only [Act.put, sm]
    refine tkL 6 rfl ?_
    try simp only [Act.put, sm]
    refine tkL 7 rfl ?_
    try simp only [Act.put, sm]
    refine wpAnyL_ready (rs := [8]) (by kernel_rfl) (by simp) ?_
    refine AllReadyL.cons (o := _) rfl (fun K hK => ?_) AllReadyL.nil
    clear hHeld
    go_simp
    refine hK.out _ _ (HV.out _ HKd.out) (fun hHeld => ?_)
    clear hK K
    try simp only [Act.put, sm]
    refine tkL 9 rfl ?_
    try simp only [Act.put, sm]
    refine wpAnyL_ready (rs := [10]) (by kernel_rfl) (by simp) ?_
    refine AllReadyL.last (o := _) rfl (fun K hK => ?_)
    clear hHeld
    have HBv := Lib.hid (res_kept HBA.out HKd.out (by simp))
    have HZv := Lib.hid (res_kept HBZ.out HKd.out (by simp))
    have HKv := Lib.hid (HK1.out.trans HKd.out)
    have fz := Lib.frozen_of_heap HBv.out 5
    have cz := hcell HBv.out 5 rfl
    go_simp
    refine hK.out _ _ ?_
    clear hK K fz cz
    try simp only [Act.put, sm]
    refine wpAnyL_done (by kernel_rfl) ?_ _
    go_wp2_with fail
    go_meet
    have ks : Kp v0 (v0.setCell ⟨w.heap.size, 5, none⟩ (.int .i64 (IntKind.i64.wrap (IntKind.i64.wrap (c.box.x1 + x) - 2)))) (some w.heap.size) := (Kp.refl _ _).set _
    have kw : Kp w (v0.setCell ⟨w.heap.size, 5, none⟩ (.int .i64 (IntKind.i64.wrap (IntKind.i64.wrap (c.box.x1 + x) - 2)))) none := Kp.of_own HKv.out ks (Nat.le_refl _)
    exact ⟨.mk c.op c.text c.n ⟨c.box.x0, c.box.y0, (IntKind.i64.wrap (IntKind.i64.wrap (c.box.x1 + x) - 2)), c.box.y1⟩ c.l, ao, n, ca, Lib.hid (heap_set (o := 5) (v := .int .i64 (IntKind.i64.wrap (IntKind.i64.wrap (c.box.x1 + x) - 2))) HBv.out), Lib.hid (HTC.out _ _ kw rfl), Lib.hid (short_like HS.out rfl (by have := HS.out.text; exact this)), by rw [size_like (c := c) (d := .mk c.op c.text c.n ⟨c.box.x0, c.box.y0, (IntKind.i64.wrap (IntKind.i64.wrap (c.box.x1 + x) - 2)), c.box.y1⟩ c.l) rfl]; omega, Lib.hid (res_kept HZv.out ks (by intro q hq; injection hq with hq; omega)), Lib.hid kw⟩
   ·have hA5 := (Kp.refl W1 none).alloc (.cells #[] 40)
    have HO0 : Hid ((W1.alloc (.cells #[] 40)).ownsRow (w.heap.size + 3) 40 8 (.slice (some ⟨w.heap.size + 3, 0, none⟩) 0 0) 0 []) := Lib.hid (by have h := own_empty (w := W1) (base := w.heap.size + 3) (by omega); rw [hz1] at h; exact h)
    have HI0 := Lib.hid (HL.out.list.keep (HK1.out.trans hA5))
    rw [HN.out] at HI0
    have hlen := sizes_len (ps.map (·.1))
    have hszc : Ru.sizes (ps.map (·.1)) + 1 ≤ N := by rw [← HC.out]; have e : Ru.size c = Ru.sizes c.l + 1 := (by obtain ⟨op, t, nn, b, l⟩ := c; exact Ru.size_mk ..); omega
    rw [List.length_map, HN.out] at hlen
    have HB5 := Lib.hid (res_kept HBA.out hA5 (by simp))
    have HZ5 := Lib.hid (res_kept HBZ.out hA5 (by simp))
    have HK5 := Lib.hid (HK1.out.trans hA5)
    have hw5 : (W1.alloc (.cells #[] 40)).heap.size = w.heap.size + 4 := by simp [hz1]
    clear hA5
    go_wp2_with (at_builtin; go_must (refine app_conds (by rfl) _ _ (w.heap.size + 3) (by rfl) _ 0 [] (by rfl) HO0.out _ ps (by rfl) HI0.out (tree_slice HT.out) (by rw [HN.out]; omega) (by omega) ?_))
    intro v1 w6 ho1 hg1 hb1
    have hg1 : (W1.alloc (.cells #[] 40)).grownBy w6 (some (w.heap.size + 3)) := hg1
    have HO1 := Lib.hid ho1
    obtain ⟨a1, c1, e1⟩ := own_slice ho1
    subst e1
    have HB6 := Lib.hid (res_kept HB5.out hg1 (by intro q hq; injection hq with hq; omega))
    have HZ6 := Lib.hid (res_kept HZ5.out hg1 (by intro q hq; injection hq with hq; omega))
    have HK6 : Hid (Kp w w6 none) := Lib.hid (Kp.row HK5.out hg1 (fun k hk => by injection hk with hk; omega))
    have hw6 := hg1.size
    have kA6 : Hid (Kp w6 (w6.alloc (.cells #[.int .i64 1, .string ⟨#[]⟩, .int .i64 0, .int .i64 0, .int .i64 0, .int .i64 0, .int .i64 0, .slice none 0 0] 40)) none) := Lib.hid ((Kp.refl _ none).alloc _)
    have HI1 : Hid (IsList 8 cC (w6.alloc (.cells #[.int .i64 1, .string ⟨#[]⟩, .int .i64 0, .int .i64 0, .int .i64 0, .int .i64 0, .int .i64 0, .slice none 0 0] 40)) (.slice (some ⟨w6.heap.size, 0, none⟩) 1 1) [(Ru.cAny, Value.slice none 0 0)]) := Lib.hid (isList_own (m := 8) (f := cC) (fun _ => rfl) (own_one (c := Ru.cAny) (v := .slice none 0 0) (base := 0) (Nat.zero_le _)))
    clear HB5 HZ5 HK5 HO0 HI0 ho1 hg1 hb1
    go_wp2_with (at_builtin; go_must (refine app_conds (by rfl) _ _ (w.heap.size + 3) (by rfl) (.slice a1 ps.length c1) ps.length _ (by rfl) (own_kp HO1.out kA6.out) _ [(Ru.cAny, Value.slice none 0 0)] (by rfl) HI1.out (by intro q hq; rw [List.mem_singleton] at hq; subst hq; exact ⟨_, _, _, rfl⟩) (by rw [HN.out]; simp; omega) (by have := kA6.out.size; omega) ?_))
    intro v2 w7 ho2 hg2 hb2
    have HO2 : Hid (w7.ownsRow (w.heap.size + 3) 40 8 v2 (ps ++ [(Ru.cAny, Value.slice none 0 0)]).length ((ps ++ [(Ru.cAny, Value.slice none 0 0)]).flatMap cC)) := Lib.hid (by
     rw [List.length_append, List.flatMap_append]; simpa using ho2)
    obtain ⟨xs, hxs⟩ : ∃ xs, ps ++ [(Ru.cAny, Value.slice none 0 0)] = xs := ⟨_, rfl⟩
    rw [hxs] at HO2
    have HX := Lib.hid hxs
    clear hxs
    obtain ⟨a2, c2, e2⟩ := own_slice HO2.out
    subst e2
    have HB7 := Lib.hid (res_kept (res_kept HB6.out kA6.out (by simp)) hg2 (fun q hq e => by have := (HO1.out.lt q hq).1; omega))
    have HZ7 := Lib.hid (res_kept (res_kept HZ6.out kA6.out (by simp)) hg2 (fun q hq e => by have := (HO1.out.lt q hq).1; omega))
    have HK7 : Hid (Kp w w7 none) := Lib.hid (Kp.row (HK6.out.trans kA6.out) hg2 (fun k hk => by have := (HO1.out.lt k hk).1; omega))
    clear HB6 HZ6 HK6 HO1 HI1 kA6 ho2 hg2 hb2
    have fz := Lib.frozen_of_heap HB7.out 7
    have cz := hcell HB7.out 7 rfl
    go_wp2_with fail
    go_meet
    have ks : Kp w7 (w7.setCell ⟨w.heap.size, 7, none⟩ (.slice a2 (xs.length) c2)) (some w.heap.size) := (Kp.refl _ _).set _
    have kw : Kp w (w7.setCell ⟨w.heap.size, 7, none⟩ (.slice a2 (xs.length) c2)) none := Kp.of_own HK7.out ks (Nat.le_refl _)
    have ho3 := own_row HO2.out ks (by omega)
    refine ⟨.mk c.op c.text c.n c.box (xs.map (·.1)), a2, _, c2, Lib.hid (heap_set (o := 7) (v := .slice a2 (xs.length) c2) HB7.out), Lib.hid (tree_own (base := w.heap.size + 3) (xs := xs) rfl ?_ (fun b hb => .inr hb) (fun x hx => ?_)), Lib.hid (.mk _ _ _ _ _ HS.out.text ?_ (fun d hd => ?_)), ?_, Lib.hid (res_kept HZ7.out ks (by intro q hq; injection hq with hq; omega)), Lib.hid kw⟩
    ·exact ho3
    ·rw [← HX.out] at hx
     rcases List.mem_append.1 hx with hx | hx
     ·exact ((HT3.out x hx)).keep kw
     ·rw [List.mem_singleton] at hx; subst hx; exact TreeP.leaf rfl
    ·rw [List.length_map, ← HX.out, List.length_append, HN.out]; simp; omega
    ·rw [← HX.out, List.map_append] at hd
     rcases List.mem_append.1 hd with hd | hd
     ·rw [← HC.out] at hd; exact HS.out.sub hd
     ·have hd : d = Ru.cAny := by simpa using hd
      subst hd; exact .mk _ _ _ _ _ (by simp) (by simp) (by simp)
    ·rw [Ru.size_mk, ← HX.out, List.map_append, Ru.sizes_app]
     have : Ru.sizes ([(Ru.cAny, Value.slice none 0 0)].map (·.1)) = 1 := by simp [Ru.sizes, Ru.cAny, Ru.size_mk]
     omega
   ·by_cases hn1 : n = 0
    ·subst hn1
     have hp0 : ps = [] := List.eq_nil_of_length_eq_zero HN.out
     go_wp2_with fail
     go_meet
     exact ⟨c, ao, 0, ca, HBA, Lib.hid (HTC.out _ _ HK1.out rfl), HS, by omega, HBZ, HK1⟩
    ·have h0 : (0 : Int) < (n : Int) := by omega
     have h0n : ¬ (n : Int) < 1 := by omega
     obtain ⟨y, ys, hys⟩ : ∃ y ys, ps = y :: ys := by
      cases hps : ps with
      | nil => rw [hps] at HN; exact absurd HN.out.symm hn1
      | cons y ys => exact ⟨y, ys, rfl⟩
     obtain ⟨b, off, hao, hbl, hcap, _⟩ := HL.out 0 (by rw [HN.out]; omega)
     have hcap : n ≤ ca := by rw [← HN.out]; exact hcap
     subst hao
     have hA5 := (Kp.refl W1 none).alloc (.cells #[] 40)
     have HO0 : Hid ((W1.alloc (.cells #[] 40)).ownsRow (w.heap.size + 3) 40 8 (.slice (some ⟨w.heap.size + 3, 0, none⟩) 0 0) 0 []) := Lib.hid (by have h := own_empty (w := W1) (base := w.heap.size + 3) (by omega); rw [hz1] at h; exact h)
     have hlen := sizes_len (ps.map (·.1))
     have hszc : Ru.sizes (ps.map (·.1)) + 1 ≤ N := by rw [← HC.out]; have e : Ru.size c = Ru.sizes c.l + 1 := (by obtain ⟨op, t, nn, b, l⟩ := c; exact Ru.size_mk ..); omega
     rw [List.length_map, HN.out] at hlen
     have HYS := Lib.hid hys
     have HB5 := Lib.hid (res_kept HBA.out hA5 (by simp))
     have HZ5 := Lib.hid (res_kept HBZ.out hA5 (by simp))
     have HK5 := Lib.hid (HK1.out.trans hA5)
     have hw5 : (W1.alloc (.cells #[] 40)).heap.size = w.heap.size + 4 := by simp [hz1]
     have HTY : Hid (∀ p ∈ ys, TreeP S w p.1 p.2) := Lib.hid fun p hp => HT.out p (by rw [HYS.out]; exact List.mem_cons_of_mem _ hp)
     have hyl : ys.length = n - 1 := by have := HN.out; rw [hys] at this; simp at this; omega
     have hc5 := hcell HB5.out 7 rfl
     by_cases hca : ca = 1
     ·subst hca
      obtain rfl : n = 1 := by omega
      have hy0 : ys = [] := List.eq_nil_of_length_eq_zero (by omega)
      have HI0 : Hid (IsList 8 cC (W1.alloc (.cells #[] 40)) (.slice (some ⟨b, off, none⟩) 0 0) ys) := Lib.hid (by rw [hy0]; exact .inl ⟨_, _, rfl, rfl⟩)
      have HYL := Lib.hid hyl
      clear hA5 hys hy0 hyl
      go_wp2_with (at_builtin; go_must (refine app_conds (by rfl) _ _ (w.heap.size + 3) (by rfl) _ 0 [] (by rfl) HO0.out _ ys (by rfl) HI0.out (tree_slice HTY.out) (by have := HYL.out; omega) (by omega) ?_))
      intro v1 w7 ho1 hg1 hb1
      have hg1 : (W1.alloc (.cells #[] 40)).grownBy w7 (some (w.heap.size + 3)) := hg1
      have HO2 : Hid (w7.ownsRow (w.heap.size + 3) 40 8 v1 ys.length (ys.flatMap cC)) := Lib.hid (by simpa using ho1)
      obtain ⟨a2, c2, e1⟩ := own_slice HO2.out
      subst e1
      have HB7 := Lib.hid (res_kept HB5.out hg1 (by intro q hq; injection hq with hq; omega))
      have HZ7 := Lib.hid (res_kept HZ5.out hg1 (by intro q hq; injection hq with hq; omega))
      have HK7 : Hid (Kp w w7 none) := Lib.hid (Kp.row HK5.out hg1 (fun k hk => by injection hk with hk; omega))
      clear HB5 HZ5 HK5 HO0 HI0 ho1 hg1 hb1 hc5
      have fz := Lib.frozen_of_heap HB7.out 7
      have cz := hcell HB7.out 7 rfl
      go_wp2_with fail
      go_meet
      have ks : Kp w7 (w7.setCell ⟨w.heap.size, 7, none⟩ (.slice a2 ys.length c2)) (some w.heap.size) := (Kp.refl _ _).set _
      have kw : Kp w (w7.setCell ⟨w.heap.size, 7, none⟩ (.slice a2 ys.length c2)) none := Kp.of_own HK7.out ks (Nat.le_refl _)
      have ho3 := own_row HO2.out ks (by omega)
      refine ⟨.mk c.op c.text c.n c.box (ys.map (·.1)), a2, _, c2, Lib.hid (heap_set (o := 7) (v := .slice a2 ys.length c2) HB7.out), Lib.hid (tree_own (base := w.heap.size + 3) (xs := ys) rfl ho3 (fun b hb => .inr hb) (fun x hx => (HT3.out x (by rw [HYS.out]; exact List.mem_cons_of_mem _ hx)).keep kw)), Lib.hid (.mk _ _ _ _ _ HS.out.text (by rw [List.length_map]; have := HYL.out; omega) (fun d hd => HS.out.sub (by rw [HC.out, HYS.out, List.map_cons]; exact List.mem_cons_of_mem _ hd))), ?_, Lib.hid (res_kept HZ7.out ks (by intro q hq; injection hq with hq; omega)), Lib.hid kw⟩
      rw [Ru.size_mk]
      rw [HYS.out, List.map_cons, Ru.sizes] at hszc
      omega
     ·have hca2 : ¬ ca - 1 = 0 := by omega
      have HI0 : Hid (IsList 8 cC (W1.alloc (.cells #[] 40)) (.slice (some ⟨b, off + 8, none⟩) (n - 1) (ca - 1)) ys) := Lib.hid (by
       have h := HL.out.keep HK5.out
       rw [hys] at h
       exact isConds_tail h hyl)
      have HYL := Lib.hid hyl
      clear hA5 hys hyl
      go_wp2_with (at_builtin; go_must (refine app_conds (by rfl) _ _ (w.heap.size + 3) (by rfl) _ 0 [] (by rfl) HO0.out _ ys (by rfl) HI0.out (tree_slice HTY.out) (by have := HYL.out; omega) (by omega) ?_))
      intro v1 w7 ho1 hg1 hb1
      have hg1 : (W1.alloc (.cells #[] 40)).grownBy w7 (some (w.heap.size + 3)) := hg1
      have HO2 : Hid (w7.ownsRow (w.heap.size + 3) 40 8 v1 ys.length (ys.flatMap cC)) := Lib.hid (by simpa using ho1)
      obtain ⟨a2, c2, e1⟩ := own_slice HO2.out
      subst e1
      have HB7 := Lib.hid (res_kept HB5.out hg1 (by intro q hq; injection hq with hq; omega))
      have HZ7 := Lib.hid (res_kept HZ5.out hg1 (by intro q hq; injection hq with hq; omega))
      have HK7 : Hid (Kp w w7 none) := Lib.hid (Kp.row HK5.out hg1 (fun k hk => by injection hk with hk; omega))
      clear HB5 HZ5 HK5 HO0 HI0 ho1 hg1 hb1 hc5
      have fz := Lib.frozen_of_heap HB7.out 7
      have cz := hcell HB7.out 7 rfl
      go_wp2_with fail
      go_meet
      have ks : Kp w7 (w7.setCell ⟨w.heap.size, 7, none⟩ (.slice a2 ys.length c2)) (some w.heap.size) := (Kp.refl _ _).set _
      have kw : Kp w (w7.setCell ⟨w.heap.size, 7, none⟩ (.slice a2 ys.length c2)) none := Kp.of_own HK7.out ks (Nat.le_refl _)
      have ho3 := own_row HO2.out ks (by omega)
      refine ⟨.mk c.op c.text c.n c.box (ys.map (·.1)), a2, _, c2, Lib.hid (heap_set (o := 7) (v := .slice a2 ys.length c2) HB7.out), Lib.hid (tree_own (base := w.heap.size + 3) (xs := ys) rfl ho3 (fun b hb => .inr hb) (fun x hx => (HT3.out x (by rw [HYS.out]; exact List.mem_cons_of_mem _ hx)).keep kw)), Lib.hid (.mk _ _ _ _ _ HS.out.text (by rw [List.length_map]; have := HYL.out; omega) (fun d hd => HS.out.sub (by rw [HC.out, HYS.out, List.map_cons]; exact List.mem_cons_of_mem _ hd))), ?_, Lib.hid (res_kept HZ7.out ks (by intro q hq; injection hq with hq; omega)), Lib.hid kw⟩
      rw [Ru.size_mk]
      rw [HYS.out, List.map_cons, Ru.sizes] at hszc
      omega
   ·skip
    have cX := fun W => mod_any q1 3 W (by omega) (by omega)
    have hrx := rem_range q1 3 (by omega)
    obtain ⟨x, hx⟩ : ∃ x, rem q1 3 = x := ⟨_, rfl⟩
    rw [hx] at cX hrx
    clear hx
    have hA4 := (Kp.refl W1 none).alloc (.cells #[.int .i64 (-67108864), .int .i64 (-67108865), .int .i64 0] 3)
    have HBv := Lib.hid (res_kept HBA.out hA4 (by simp))
    have HZv := Lib.hid (res_kept HBZ.out hA4 (by simp))
    have HQv := Lib.hid (res_kept HBQ.out hA4 (by simp))
    have HKv := Lib.hid (HK1.out.trans hA4)
    have dq9 := hcell HQv.out 1 rfl
    have fz := Lib.frozen_of_heap HBv.out 4
    have cz := hcell HBv.out 4 rfl
    have fz0 := Lib.frozen_of_heap HBA.out 4
    have cz0 := hcell HBA.out 4 rfl
    clear hA4
    have hx7 : x = 0 ∨ x = 1 ∨ x = 2 := by omega
    rcases hx7 with rfl | rfl | rfl
    ·skip
     go_wp2_with (go_at_call 22; refine (cX _).mono ?_; rintro e w3 ⟨rfl, hw3⟩; subst w3)
     go_meet
     have ks : Kp W1 (W1.setCell ⟨w.heap.size, 4, none⟩ (.int .i64 (-67108864))) (some w.heap.size) := (Kp.refl _ _).set _
     have kw : Kp w ((W1.setCell ⟨w.heap.size, 4, none⟩ (.int .i64 (-67108864))).alloc (Obj.cells #[.int .i64 (-67108864), .int .i64 (-67108865), .int .i64 0] 3)) none := (Kp.of_own HK1.out ks (Nat.le_refl _)).alloc _
     exact ⟨.mk c.op c.text c.n ⟨c.box.x0, -67108864, c.box.x1, c.box.y1⟩ c.l, ao, n, ca, Lib.hid (res_kept (heap_set (o := 4) (v := .int .i64 (-67108864)) HBA.out) ((Kp.refl _ none).alloc (Obj.cells #[.int .i64 (-67108864), .int .i64 (-67108865), .int .i64 0] 3)) (by simp)), Lib.hid (HTC.out _ _ kw rfl), Lib.hid (short_like HS.out rfl (by have := HS.out.text; exact this)), by rw [size_like (c := c) (d := .mk c.op c.text c.n ⟨c.box.x0, -67108864, c.box.x1, c.box.y1⟩ c.l) rfl]; omega, Lib.hid (res_kept (res_kept HBZ.out ks (by intro q hq; injection hq with hq; omega)) ((Kp.refl _ none).alloc (Obj.cells #[.int .i64 (-67108864), .int .i64 (-67108865), .int .i64 0] 3)) (by simp)), Lib.hid kw⟩
    ·skip
     go_wp2_with (go_at_call 22; refine (cX _).mono ?_; rintro e w3 ⟨rfl, hw3⟩; subst w3)
     go_meet
     have ks : Kp W1 (W1.setCell ⟨w.heap.size, 4, none⟩ (.int .i64 (-67108865))) (some w.heap.size) := (Kp.refl _ _).set _
     have kw : Kp w ((W1.setCell ⟨w.heap.size, 4, none⟩ (.int .i64 (-67108865))).alloc (Obj.cells #[.int .i64 (-67108864), .int .i64 (-67108865), .int .i64 0] 3)) none := (Kp.of_own HK1.out ks (Nat.le_refl _)).alloc _
     exact ⟨.mk c.op c.text c.n ⟨c.box.x0, -67108865, c.box.x1, c.box.y1⟩ c.l, ao, n, ca, Lib.hid (res_kept (heap_set (o := 4) (v := .int .i64 (-67108865)) HBA.out) ((Kp.refl _ none).alloc (Obj.cells #[.int .i64 (-67108864), .int .i64 (-67108865), .int .i64 0] 3)) (by simp)), Lib.hid (HTC.out _ _ kw rfl), Lib.hid (short_like HS.out rfl (by have := HS.out.text; exact this)), by rw [size_like (c := c) (d := .mk c.op c.text c.n ⟨c.box.x0, -67108865, c.box.x1, c.box.y1⟩ c.l) rfl]; omega, Lib.hid (res_kept (res_kept HBZ.out ks (by intro q hq; injection hq with hq; omega)) ((Kp.refl _ none).alloc (Obj.cells #[.int .i64 (-67108864), .int .i64 (-67108865), .int .i64 0] 3)) (by simp)), Lib.hid kw⟩
    ·skip
     go_wp2_with (go_at_call 22; refine (cX _).mono ?_; rintro e w3 ⟨rfl, hw3⟩; subst w3)
     go_meet
     have ks : Kp W1 (W1.setCell ⟨w.heap.size, 4, none⟩ (.int .i64 (0))) (some w.heap.size) := (Kp.refl _ _).set _
     have kw : Kp w ((W1.setCell ⟨w.heap.size, 4, none⟩ (.int .i64 (0))).alloc (Obj.cells #[.int .i64 (-67108864), .int .i64 (-67108865), .int .i64 0] 3)) none := (Kp.of_own HK1.out ks (Nat.le_refl _)).alloc _
     exact ⟨.mk c.op c.text c.n ⟨c.box.x0, 0, c.box.x1, c.box.y1⟩ c.l, ao, n, ca, Lib.hid (res_kept (heap_set (o := 4) (v := .int .i64 (0)) HBA.out) ((Kp.refl _ none).alloc (Obj.cells #[.int .i64 (-67108864), .int .i64 (-67108865), .int .i64 0] 3)) (by simp)), Lib.hid (HTC.out _ _ kw rfl), Lib.hid (short_like HS.out rfl (by have := HS.out.text; exact this)), by rw [size_like (c := c) (d := .mk c.op c.text c.n ⟨c.box.x0, 0, c.box.x1, c.box.y1⟩ c.l) rfl]; omega, Lib.hid (res_kept (res_kept HBZ.out ks (by intro q hq; injection hq with hq; omega)) ((Kp.refl _ none).alloc (Obj.cells #[.int .i64 (-67108864), .int .i64 (-67108865), .int .i64 0] 3)) (by simp)), Lib.hid kw⟩
  case rest =>
   obtain ⟨d, a, m, p, HBD, HTD, HSD, hsd, HZD, HKD⟩ := hcut
   have HRG := Lib.hid (range_blk HBD.out)
   clear HBA HBQ HBZ hc7 dq0 dq1 dq2
   go_wp2_with (first | (refine wpList_load_mid (by rfl) 40 _ (by rfl) w.heap.size 0 (by rfl) #[.int .i64 d.op, str d.text, .int .i64 d.n, .int .i64 d.box.x0, .int .i64 d.box.y0, .int .i64 d.box.x1, .int .i64 d.box.y1, .slice a m p].toList _ HRG.out Tryz.underlying40 (by rfl) info40s ?_) | (refine wpList_store_blk (by rfl) 40 _ _ (by rfl) (w.heap.size + 2) _ 40 HZD.out #[.int .i64 d.op, str d.text, .int .i64 d.n, .int .i64 d.box.x0, .int .i64 d.box.y0, .int .i64 d.box.x1, .int .i64 d.box.y1, .slice a m p] (by rfl) (by rfl) info40s (by rfl) (by simp [Value.oneCell']) (fun V hV hkV => ?_); have HV := Lib.hid hV; have HKV := Lib.hid hkV; clear hV hkV))
   refine bodyPost_ret (results_cell_row (p := 4) (ty := 40) (by rfl) _ V (w.heap.size + 2) 40 #[.int .i64 d.op, str d.text, .int .i64 d.n, .int .i64 d.box.x0, .int .i64 d.box.y0, .int .i64 d.box.x1, .int .i64 d.box.y1, .slice a m p] (0, 0) _ (by rfl) HV.out Tryz.underlying40 (by rfl) info40s) (by rfl) ?_
   refine ⟨d, a, m, p, rfl, ?_, HSD.out, hsd, Kp.of_own HKD.out HKV.out (by omega)⟩
   exact (HTD.out.row HKV.out (fun r hr hs => by injection hr with hr; unfold S3 at hs; omega)).mono fun b _ hb => by
    rcases hb with hb | hb
    ·exact .inl hb.1
    ·exact .inr (by omega)
end
end Go.Proofs.YtnchipahdfbliaaGreatDoor

