/- The conditions that numbers make. Conditions: a list of numbers of a machine's length. -/
import Derived.Test.YtnchipahdfbliaaGreatDoorNx
import Derived.Deep.CutBlock
namespace Go.Proofs.YtnchipahdfbliaaGreatDoor
open Go.RowKit

theorem DrawAt.kp {D : Nat} {ao : Option Addr} {n cap : Nat} {w w' : World} (h : DrawAt D ao n cap w) (k : Kp w w' none) : DrawAt D ao n cap w' := by
 obtain ⟨a, hb, ha⟩ := h; exact ⟨a, res_kept hb k (by simp), ha⟩
theorem DrawAt.row {D r : Nat} {ao : Option Addr} {n cap : Nat} {w w' : World} (h : DrawAt D ao n cap w) (k : Kp w w' (some r)) (hr : D ≠ r) : DrawAt D ao n cap w' := by
 obtain ⟨a, hb, ha⟩ := h; exact ⟨a, res_kept hb k (by intro q hq; injection hq with hq; omega), ha⟩
theorem DrawAt.lt {D : Nat} {ao : Option Addr} {n cap : Nat} {w : World} (h : DrawAt D ao n cap w) : D < w.heap.size := by
 obtain ⟨a, hb, _⟩ := h; exact lt_of_block hb
/-- How a made condition comes. -/
def Made1 (D : Nat) (ao : Option Addr) (n cap B : Nat) (w : World) (e : Ending) (w' : World) : Prop :=
 ∃ (c : Ru.Cond) (a : Option Addr) (m p : Nat), e = .returned (.agg #[.int .i64 c.op, str c.text, .int .i64 c.n, .int .i64 c.box.x0, .int .i64 c.box.y0, .int .i64 c.box.x1, .int .i64 c.box.y1, .slice a m p]) ∧ TreeB w.heap.size w' c (.slice a m p) ∧ Ru.right c = true ∧ Ru.size c ≤ B ∧ DrawAt D ao n cap w' ∧ Kp w w' (some D)
/-- How large. -/
def big : Nat → Nat
 | 0 => 1
 | k + 1 => 1 + 3 * big k
theorem big_pos : ∀ k, 1 ≤ big k
 | 0 => Nat.le_refl _
 | k + 1 => by unfold big; omega
theorem list_cell (L : List Ru.Bytes) (j : Nat) (hj : j < L.length) : (L.map str).toArray[j]? = some (str (L.getD j [])) := by
 simp [hj]
theorem right_kind {n : Int} (h : 1 ≤ n ∧ n ≤ 5) : Ru.right (Ru.leaf 4 [] n .none) = true := by rw [Ru.leaf, Ru.right_mk, Ru.rights]; simp [Ru.fine, Ru.rest, h]
theorem right_layer {n : Int} (h : 1 ≤ n ∧ n ≤ 4) : Ru.right (Ru.leaf 5 [] n .none) = true := by rw [Ru.leaf, Ru.right_mk, Ru.rights]; simp [Ru.fine, Ru.rest, h]
theorem right_box {b : Ru.Box} (h : Ru.boxR b = true) : Ru.right (Ru.leaf 7 [] 0 b) = true := by rw [Ru.leaf, Ru.right_mk, Ru.rights]; simp [Ru.fine, Ru.rest, h]
theorem right_not {c : Ru.Cond} (h : Ru.right c = true) : Ru.right (.mk 8 [] 0 .none [c]) = true := by rw [Ru.right_mk, Ru.rights, Ru.rights]; simp [Ru.fine, Ru.rest, h]
theorem put_c (a0 a1 a2 a3 a4 a5 a6 a7 b0 b1 b2 b3 : Value) : putAll #[a0, a1, a2, a3, a4, a5, a6, a7] 3 #[b0, b1, b2, b3].toList = #[a0, a1, a2, b0, b1, b2, b3, a7] := by simp [putAll]
theorem sizes_le {B : Nat} : ∀ {l : List Ru.Cond}, (∀ c ∈ l, Ru.size c ≤ B) → Ru.sizes l ≤ l.length * B
 | [], _ => by simp [Ru.sizes]
 | c :: l, h => by
  have h1 := sizes_le (l := l) (fun d hd => h d (by simp [hd]))
  have h2 := h c (by simp)
  rw [Ru.sizes, List.length_cons, Nat.add_mul, Nat.one_mul]; omega
theorem right_many9 {l : List Ru.Cond} (h : 2 ≤ l.length) (hr : ∀ c ∈ l, Ru.right c = true) : Ru.right (.mk 9 [] 0 .none l) = true := by rw [Ru.right_mk, Ru.rights_all]; simp [Ru.fine, Ru.rest, h]; exact hr
theorem right_many10 {l : List Ru.Cond} (h : 2 ≤ l.length) (hr : ∀ c ∈ l, Ru.right c = true) : Ru.right (.mk 10 [] 0 .none l) = true := by rw [Ru.right_mk, Ru.rights_all]; simp [Ru.fine, Ru.rest, h]; exact hr
theorem info37s : (Tryz.prog.info? 37).map (·.size) = some 4 := by kernel_rfl
def nets : List Ru.Bytes := [[78, 49], [71, 78, 68], [97, 47, 78, 49], [97, 110, 100], [68, 91, 51, 93]]
def clss : List Ru.Bytes := [[112, 111, 119, 101, 114], [116, 111], [99, 57]]
theorem nets_right : ∀ j : Nat, j < 5 → Ru.right (Ru.leaf 2 (nets.getD j []) 0 .none) = true
 | 0, _ => by kernel_rfl
 | 1, _ => by kernel_rfl
 | 2, _ => by kernel_rfl
 | 3, _ => by kernel_rfl
 | 4, _ => by kernel_rfl
 | j + 5, h => by omega
theorem clss_right : ∀ j : Nat, j < 3 → Ru.right (Ru.leaf 3 (clss.getD j []) 0 .none) = true
 | 0, _ => by kernel_rfl
 | 1, _ => by kernel_rfl
 | 2, _ => by kernel_rfl
 | j + 3, h => by omega
def parts3 : List Int := [1, 7, 1000000000]
theorem parts_right : ∀ j : Nat, j < 3 → Ru.right (Ru.leaf 6 [] (parts3.getD j 0) .none) = true
 | 0, _ => by kernel_rfl
 | 1, _ => by kernel_rfl
 | 2, _ => by kernel_rfl
 | j + 3, h => by omega
theorem parts_cell (j : Nat) (hj : j < 3) : (parts3.map (Value.int .i64)).toArray[j]? = some (.int .i64 (parts3.getD j 0)) := by
 have : j = 0 ∨ j = 1 ∨ j = 2 := by omega
 rcases this with rfl | rfl | rfl <;> rfl
section
variable (n : Nat) (D : Nat) (ao : Option Addr) (cap : Nat) (W : World) (hD : W.heap.size ≤ D)
  (hN : ∀ (w : World) (m : Int), Kp W w none → DrawAt D ao n cap w → 0 < m → m ≤ 1000000 → Calls Tryz.prog 29 #[.pointer (some ⟨D, 0, none⟩), .int .i64 m] w (Drew D ao n cap w m))
include hD hN
set_option maxHeartbeats 16000000 in
set_option maxRecDepth 100000 in
theorem cond_step (k : Nat) (hk : k ≤ 100) (ih : ∀ j, k = j + 1 → ∀ (w : World), Kp W w none → DrawAt D ao n cap w → Calls Tryz.prog 23 #[.pointer (some ⟨D, 0, none⟩), .int .i64 (j : Int)] w (Made1 D ao n cap (big j) w))
  (w : World) (hw : Kp W w none) (hd : DrawAt D ao n cap w) : Calls Tryz.prog 23 #[.pointer (some ⟨D, 0, none⟩), .int .i64 (k : Int)] w (Made1 D ao n cap (big k) w) := by
 have hdl := hd.lt
 have k1 : Kp w (w.alloc (.cells #[.int .i64 0, .string ⟨#[]⟩, .int .i64 0, .int .i64 0, .int .i64 0, .int .i64 0, .int .i64 0, .slice none 0 0] 40)) none := (Kp.refl _ _).alloc _
 have c1 := hN _ 10 (hw.trans k1) (hd.kp k1) (by omega) (by omega)
 have HN := Lib.hid hN
 have HIH := Lib.hid ih
 have HB4 := Lib.hid (heap_alloc_new w (.cells #[.int .i64 0, .string ⟨#[]⟩, .int .i64 0, .int .i64 0, .int .i64 0, .int .i64 0, .int .i64 0, .slice none 0 0] 40))
 have HW := Lib.hid hw
 have HK1 := Lib.hid k1
 have h41 : (w.alloc (.cells #[.int .i64 0, .string ⟨#[]⟩, .int .i64 0, .int .i64 0, .int .i64 0, .int .i64 0, .int .i64 0, .slice none 0 0] 40)).heap.size = w.heap.size + 1 := by simp
 have hk0 : (0 : Int) ≤ (k : Int) := by omega
 generalize hW1 : w.alloc (.cells #[.int .i64 0, .string ⟨#[]⟩, .int .i64 0, .int .i64 0, .int .i64 0, .int .i64 0, .int .i64 0, .slice none 0 0] 40) = W1 at *
 clear hN ih hw hd k1
 go_enter Tryz.func23, Tryz.ntmps23
 go_wp2_with fail
 try rw [hW1]
 clear hW1
 refine c1.mono ?_
 rintro e w2 ⟨v, rfl, hv, hd2, hk2⟩
 have HD2 := Lib.hid hd2
 have HK2 := Lib.hid hk2
 clear c1 hd2 hk2
 go_upto_region 2 with fail
 try simp only [Act.put]
 go_cut [19] from 14 to 18 (fun s19 wx => s19 = .bool (decide (k = 0 ∧ 7 < 1 + v)) ∧ wx = w2)
 case first =>
  by_cases hk00 : k = 0
  ·subst hk00
   by_cases hv7 : 7 < 1 + v
   ·go_wp2_with fail
    go_meet
    exact ⟨by simp [hv7], rfl⟩
   ·go_wp2_with fail
    go_meet
    exact ⟨by simp [hv7], rfl⟩
  ·have hkp : ¬ (k : Int) ≤ 0 := by omega
   go_wp2_with fail
   go_meet
   exact ⟨by simp [hk00], rfl⟩
 case rest =>
  obtain ⟨rfl, rfl⟩ := hcut
  go_upto_if 19 with fail
  go_cut [1, 5, 19] from 20 to 22 (fun s1 s5 _ wx => s1 = .int .i64 (k : Int) ∧ ∃ op : Int, s5 = .int .i64 op ∧ 1 ≤ op ∧ op ≤ 10 ∧ (k = 0 → op ≤ 7) ∧ Hid (DrawAt D ao n cap wx) ∧ Hid (Kp W1 wx (some D)))
  case first =>
   by_cases hc : k = 0 ∧ 7 < 1 + v
   ·have c2 := HN.out wc 7 ((HW.out.trans HK1.out).row HK2.out (by intro q hq; injection hq with hq; omega)) HD2.out (by omega) (by omega)
    rw [decide_eq_true hc]
    go_wp2_with fail
    refine c2.mono ?_
    rintro e w3 ⟨v2, rfl, hv2, hd3, hk3⟩
    go_wp2_with fail
    go_meet
    exact ⟨by rw [hc.1]; rfl, 1 + v2, rfl, by omega, by omega, fun _ => by omega, Lib.hid hd3, Lib.hid (HK2.out.trans hk3)⟩
   ·rw [decide_eq_false hc]
    go_wp2_with fail
    go_meet
    exact ⟨rfl, 1 + v, rfl, by omega, by omega, fun h => by omega, HD2, HK2⟩
  case rest =>
   obtain ⟨rfl, op, rfl, ho1, ho2, ho0, HD3, HK3⟩ := hcut
   go_upto_block 0 with (refine wpList_store_new (by rfl) 40 _ _ (by rfl) #[.int .i64 0, .string ⟨#[]⟩, .int .i64 0, .int .i64 0, .int .i64 0, .int .i64 0, .int .i64 0, .slice none 0 0] #[.int .i64 op, .string ⟨#[]⟩, .int .i64 0, .int .i64 0, .int .i64 0, .int .i64 0, .int .i64 0, .slice none 0 0] 40 (by rfl) (by rfl) rfl info40s (by rfl) (by simp [Value.oneCell']) ?_)
   try simp only [Act.put]
   have HB6 := Lib.hid (heap_alloc_new wc (.cells #[.int .i64 op, .string ⟨#[]⟩, .int .i64 0, .int .i64 0, .int .i64 0, .int .i64 0, .int .i64 0, .slice none 0 0] 40))
   have k6 : Kp wc (wc.alloc (.cells #[.int .i64 op, .string ⟨#[]⟩, .int .i64 0, .int .i64 0, .int .i64 0, .int .i64 0, .int .i64 0, .slice none 0 0] 40)) none := (Kp.refl _ _).alloc _
   have hs3 := HK3.out.size
   have HD6 := Lib.hid (HD3.out.kp k6)
   have HK6 : Hid (Kp W1 (wc.alloc (.cells #[.int .i64 op, .string ⟨#[]⟩, .int .i64 0, .int .i64 0, .int .i64 0, .int .i64 0, .int .i64 0, .slice none 0 0] 40)) (some D)) := Lib.hid (HK3.out.trans (k6.weak _))
   have HB46 := Lib.hid (res_kept (res_kept HB4.out HK3.out (by intro q hq; injection hq with hq; omega)) k6 (by simp))
   have hs6 : (wc.alloc (.cells #[.int .i64 op, .string ⟨#[]⟩, .int .i64 0, .int .i64 0, .int .i64 0, .int .i64 0, .int .i64 0, .slice none 0 0] 40)).heap.size = wc.heap.size + 1 := by simp
   generalize hW6 : wc.alloc (.cells #[.int .i64 op, .string ⟨#[]⟩, .int .i64 0, .int .i64 0, .int .i64 0, .int .i64 0, .int .i64 0, .slice none 0 0] 40) = W6 at *
   clear hW6 k6
   generalize wc.heap.size = b6 at *
   go_cut [7, 8, 9, 10] from 26 to 112 (fun _ _ _ _ wx => ∃ (c : Ru.Cond) (a : Option Addr) (m p : Nat), wx.heap[b6]? = some (.cells #[.int .i64 c.op, str c.text, .int .i64 c.n, .int .i64 c.box.x0, .int .i64 c.box.y0, .int .i64 c.box.x1, .int .i64 c.box.y1, .slice a m p] 40 (0, 0)) ∧ Hid (TreeB (b6 + 1) wx c (.slice a m p)) ∧ Ru.right c = true ∧ Ru.size c ≤ big k ∧ Hid (DrawAt D ao n cap wx) ∧ Hid (wx.heap[w.heap.size]? = some (.cells #[.int .i64 0, .string ⟨#[]⟩, .int .i64 0, .int .i64 0, .int .i64 0, .int .i64 0, .int .i64 0, .slice none 0 0] 40 (0, 0))) ∧ Hid (Kp W1 wx (some D)))
   case first =>
    have HNX : Hid (∀ (V : World) (m : Int), Kp W1 V (some D) → DrawAt D ao n cap V → 0 < m → m ≤ 1000000 → Calls Tryz.prog 29 #[.pointer (some ⟨D, 0, none⟩), .int .i64 m] V (Drew D ao n cap V m)) := Lib.hid fun V m hV hdV h0 h1 => HN.out V m ((HW.out.trans HK1.out).row hV (by intro q hq; injection hq with hq; omega)) hdV h0 h1
    have hop : op = 1 ∨ op = 2 ∨ op = 3 ∨ op = 4 ∨ op = 5 ∨ op = 6 ∨ op = 7 ∨ op = 8 ∨ op = 9 ∨ op = 10 := by omega
    rcases hop with rfl | rfl | rfl | rfl | rfl | rfl | rfl | rfl | rfl | rfl
    ·go_wp2_with fail
     go_meet
     exact ⟨Ru.cAny, none, 0, 0, HB6.out, Lib.hid (TreeP.leaf rfl), Ru.cAny_right, by have := big_pos k; simpa [Ru.cAny, Ru.size, Ru.sizes] using this, HD6, HB46, HK6⟩
    ·have kA : Kp W6 (W6.alloc (.cells #[.string ⟨#[78, 49]⟩, .string ⟨#[71, 78, 68]⟩, .string ⟨#[97, 47, 78, 49]⟩, .string ⟨#[97, 110, 100]⟩, .string ⟨#[68, 91, 51, 93]⟩] 9)) none := (Kp.refl _ _).alloc _
     have cN := HNX.out _ 5 (HK6.out.trans (kA.weak _)) (HD6.out.kp kA) (by omega) (by omega)
     have hLB := heap_alloc_new W6 (.cells #[.string ⟨#[78, 49]⟩, .string ⟨#[71, 78, 68]⟩, .string ⟨#[97, 47, 78, 49]⟩, .string ⟨#[97, 110, 100]⟩, .string ⟨#[68, 91, 51, 93]⟩] 9)
     have hA1 : (W6.alloc (.cells #[.string ⟨#[78, 49]⟩, .string ⟨#[71, 78, 68]⟩, .string ⟨#[97, 47, 78, 49]⟩, .string ⟨#[97, 110, 100]⟩, .string ⟨#[68, 91, 51, 93]⟩] 9)).heap.size = W6.heap.size + 1 := by simp
     have HB6' := Lib.hid (res_kept HB6.out kA (by simp))
     have HB46' := Lib.hid (res_kept HB46.out kA (by simp))
     go_wp2_with fail
     refine cN.mono ?_
     rintro e wn ⟨u, rfl, hu, hdn, hkn⟩
     obtain ⟨j, rfl⟩ : ∃ j : Nat, u = (j : Int) := ⟨u.toNat, by omega⟩
     have hj : j < 5 := by omega
     have hj0 : (0 : Int) ≤ (j : Int) := by omega
     have hj1 : (j : Int) < 5 := by omega
     have hcj := hcell (res_kept hLB hkn (by intro q hq; injection hq with hq; omega)) j (list_cell nets j hj)
     rw [hs6] at hcj
     have hB := res_kept HB6'.out hkn (by intro q hq; injection hq with hq; omega)
     have hB1 := hcell hB 1 rfl
     have hF1 := Lib.frozen_of_heap hB 1
     have HB := Lib.hid hB
     have HDN := Lib.hid hdn
     have HKN := Lib.hid ((HK6.out.trans (kA.weak _)).trans hkn)
     have HB4n := Lib.hid (res_kept HB46'.out hkn (by intro q hq; injection hq with hq; omega))
     have hRT := nets_right j hj
     generalize nets.getD j [] = tj at hcj hRT
     clear hB cN hdn hkn hLB kA
     go_wp2_with fail
     go_meet
     have ks : Kp wn (wn.setCell ⟨b6, 1, none⟩ (str tj)) (some b6) := (Kp.refl _ _).set _
     exact ⟨Ru.leaf 2 tj 0 .none, none, 0, 0, heap_set HB.out, Lib.hid (TreeP.leaf rfl), hRT, by have := big_pos k; simpa [Ru.leaf, Ru.size, Ru.sizes] using this, Lib.hid (HDN.out.row ks (by omega)), Lib.hid (res_kept HB4n.out ks (by intro q hq; injection hq with hq; omega)), Lib.hid (Kp.of_own HKN.out ks (by omega))⟩
    ·have kA : Kp W6 (W6.alloc (.cells #[.string ⟨#[112, 111, 119, 101, 114]⟩, .string ⟨#[116, 111]⟩, .string ⟨#[99, 57]⟩] 9)) none := (Kp.refl _ _).alloc _
     have cN := HNX.out _ 3 (HK6.out.trans (kA.weak _)) (HD6.out.kp kA) (by omega) (by omega)
     have hLB := heap_alloc_new W6 (.cells #[.string ⟨#[112, 111, 119, 101, 114]⟩, .string ⟨#[116, 111]⟩, .string ⟨#[99, 57]⟩] 9)
     have hA1 : (W6.alloc (.cells #[.string ⟨#[112, 111, 119, 101, 114]⟩, .string ⟨#[116, 111]⟩, .string ⟨#[99, 57]⟩] 9)).heap.size = W6.heap.size + 1 := by simp
     have HB6' := Lib.hid (res_kept HB6.out kA (by simp))
     have HB46' := Lib.hid (res_kept HB46.out kA (by simp))
     go_wp2_with fail
     refine cN.mono ?_
     rintro e wn ⟨u, rfl, hu, hdn, hkn⟩
     obtain ⟨j, rfl⟩ : ∃ j : Nat, u = (j : Int) := ⟨u.toNat, by omega⟩
     have hj : j < 3 := by omega
     have hj0 : (0 : Int) ≤ (j : Int) := by omega
     have hj1 : (j : Int) < 3 := by omega
     have hcj := hcell (res_kept hLB hkn (by intro q hq; injection hq with hq; omega)) j (list_cell clss j hj)
     rw [hs6] at hcj
     have hB := res_kept HB6'.out hkn (by intro q hq; injection hq with hq; omega)
     have hB1 := hcell hB 1 rfl
     have hF1 := Lib.frozen_of_heap hB 1
     have HB := Lib.hid hB
     have HDN := Lib.hid hdn
     have HKN := Lib.hid ((HK6.out.trans (kA.weak _)).trans hkn)
     have HB4n := Lib.hid (res_kept HB46'.out hkn (by intro q hq; injection hq with hq; omega))
     have hRT := clss_right j hj
     generalize clss.getD j [] = tj at hcj hRT
     clear hB cN hdn hkn hLB kA
     go_wp2_with fail
     go_meet
     have ks : Kp wn (wn.setCell ⟨b6, 1, none⟩ (str tj)) (some b6) := (Kp.refl _ _).set _
     exact ⟨Ru.leaf 3 tj 0 .none, none, 0, 0, heap_set HB.out, Lib.hid (TreeP.leaf rfl), hRT, by have := big_pos k; simpa [Ru.leaf, Ru.size, Ru.sizes] using this, Lib.hid (HDN.out.row ks (by omega)), Lib.hid (res_kept HB4n.out ks (by intro q hq; injection hq with hq; omega)), Lib.hid (Kp.of_own HKN.out ks (by omega))⟩
    ·have cN := HNX.out _ 5 HK6.out HD6.out (by omega) (by omega)
     go_wp2_with fail
     refine cN.mono ?_
     rintro e wn ⟨u, rfl, hu, hdn, hkn⟩
     have hB := res_kept HB6.out hkn (by intro q hq; injection hq with hq; omega)
     have hB1 := hcell hB 2 rfl
     have hF1 := Lib.frozen_of_heap hB 2
     have HB := Lib.hid hB
     have HDN := Lib.hid hdn
     have HKN := Lib.hid (HK6.out.trans hkn)
     have HB4n := Lib.hid (res_kept HB46.out hkn (by intro q hq; injection hq with hq; omega))
     have hRT := right_kind (n := 1 + u) (by omega)
     clear hB cN hdn hkn
     go_wp2_with fail
     go_meet
     have ks : Kp wn (wn.setCell ⟨b6, 2, none⟩ (.int .i64 (1 + u))) (some b6) := (Kp.refl _ _).set _
     exact ⟨Ru.leaf 4 [] (1 + u) .none, none, 0, 0, heap_set HB.out, Lib.hid (TreeP.leaf rfl), hRT, by have := big_pos k; simpa [Ru.leaf, Ru.size, Ru.sizes] using this, Lib.hid (HDN.out.row ks (by omega)), Lib.hid (res_kept HB4n.out ks (by intro q hq; injection hq with hq; omega)), Lib.hid (Kp.of_own HKN.out ks (by omega))⟩
    ·have cN := HNX.out _ 4 HK6.out HD6.out (by omega) (by omega)
     go_wp2_with fail
     refine cN.mono ?_
     rintro e wn ⟨u, rfl, hu, hdn, hkn⟩
     have hB := res_kept HB6.out hkn (by intro q hq; injection hq with hq; omega)
     have hB1 := hcell hB 2 rfl
     have hF1 := Lib.frozen_of_heap hB 2
     have HB := Lib.hid hB
     have HDN := Lib.hid hdn
     have HKN := Lib.hid (HK6.out.trans hkn)
     have HB4n := Lib.hid (res_kept HB46.out hkn (by intro q hq; injection hq with hq; omega))
     have hRT := right_layer (n := 1 + u) (by omega)
     clear hB cN hdn hkn
     go_wp2_with fail
     go_meet
     have ks : Kp wn (wn.setCell ⟨b6, 2, none⟩ (.int .i64 (1 + u))) (some b6) := (Kp.refl _ _).set _
     exact ⟨Ru.leaf 5 [] (1 + u) .none, none, 0, 0, heap_set HB.out, Lib.hid (TreeP.leaf rfl), hRT, by have := big_pos k; simpa [Ru.leaf, Ru.size, Ru.sizes] using this, Lib.hid (HDN.out.row ks (by omega)), Lib.hid (res_kept HB4n.out ks (by intro q hq; injection hq with hq; omega)), Lib.hid (Kp.of_own HKN.out ks (by omega))⟩
    ·have kA : Kp W6 (W6.alloc (.cells #[.int .i64 1, .int .i64 7, .int .i64 1000000000] 3)) none := (Kp.refl _ _).alloc _
     have cN := HNX.out _ 3 (HK6.out.trans (kA.weak _)) (HD6.out.kp kA) (by omega) (by omega)
     have hLB := heap_alloc_new W6 (.cells #[.int .i64 1, .int .i64 7, .int .i64 1000000000] 3)
     have hA1 : (W6.alloc (.cells #[.int .i64 1, .int .i64 7, .int .i64 1000000000] 3)).heap.size = W6.heap.size + 1 := by simp
     have HB6' := Lib.hid (res_kept HB6.out kA (by simp))
     have HB46' := Lib.hid (res_kept HB46.out kA (by simp))
     go_wp2_with fail
     refine cN.mono ?_
     rintro e wn ⟨u, rfl, hu, hdn, hkn⟩
     obtain ⟨j, rfl⟩ : ∃ j : Nat, u = (j : Int) := ⟨u.toNat, by omega⟩
     have hj : j < 3 := by omega
     have hj0 : (0 : Int) ≤ (j : Int) := by omega
     have hj1 : (j : Int) < 3 := by omega
     have hcj := hcell (res_kept hLB hkn (by intro q hq; injection hq with hq; omega)) j (parts_cell j hj)
     rw [hs6] at hcj
     have hB := res_kept HB6'.out hkn (by intro q hq; injection hq with hq; omega)
     have hB1 := hcell hB 2 rfl
     have hF1 := Lib.frozen_of_heap hB 2
     have HB := Lib.hid hB
     have HDN := Lib.hid hdn
     have HKN := Lib.hid ((HK6.out.trans (kA.weak _)).trans hkn)
     have HB4n := Lib.hid (res_kept HB46'.out hkn (by intro q hq; injection hq with hq; omega))
     have hRT := parts_right j hj
     generalize parts3.getD j 0 = tj at hcj hRT
     clear hB cN hdn hkn hLB kA
     go_wp2_with fail
     go_meet
     have ks : Kp wn (wn.setCell ⟨b6, 2, none⟩ (.int .i64 tj)) (some b6) := (Kp.refl _ _).set _
     exact ⟨Ru.leaf 6 [] tj .none, none, 0, 0, heap_set HB.out, Lib.hid (TreeP.leaf rfl), hRT, by have := big_pos k; simpa [Ru.leaf, Ru.size, Ru.sizes] using this, Lib.hid (HDN.out.row ks (by omega)), Lib.hid (res_kept HB4n.out ks (by intro q hq; injection hq with hq; omega)), Lib.hid (Kp.of_own HKN.out ks (by omega))⟩
    ·have HBK : Hid (∀ V, Kp W6 V (some D) → V.heap[b6]? = some (.cells #[.int .i64 7, .string ⟨#[]⟩, .int .i64 0, .int .i64 0, .int .i64 0, .int .i64 0, .int .i64 0, .slice none 0 0] 40 (0, 0))) := Lib.hid fun V hV => res_kept HB6.out hV (by intro q hq; injection hq with hq; omega)
     have HB4K : Hid (∀ V, Kp W6 V (some D) → V.heap[w.heap.size]? = some (.cells #[.int .i64 0, .string ⟨#[]⟩, .int .i64 0, .int .i64 0, .int .i64 0, .int .i64 0, .int .i64 0, .slice none 0 0] 40 (0, 0))) := Lib.hid fun V hV => res_kept HB46.out hV (by intro q hq; injection hq with hq; omega)
     have HKR : Hid (Kp W6 W6 (some D)) := Lib.hid (Kp.refl _ _)
     have cN := HNX.out W6 99 HK6.out HD6.out (by omega) (by omega)
     go_wp2_with fail
     refine cN.mono ?_
     rintro e y1 ⟨u1, rfl, hu1, hd1, hk1⟩
     have HD1' := Lib.hid hd1
     have HK1' := Lib.hid (HK6.out.trans hk1)
     have HR1 := Lib.hid (HKR.out.trans hk1)
     have hz1 := hk1.size
     clear cN hd1 hk1
     have cN := HNX.out y1 99 HK1'.out HD1'.out (by omega) (by omega)
     go_wp2_with fail
     refine cN.mono ?_
     rintro e y2 ⟨u2, rfl, hu2, hd2, hk2⟩
     have HD2' := Lib.hid hd2
     have HK2' := Lib.hid (HK1'.out.trans hk2)
     have HR2 := Lib.hid (HR1.out.trans hk2)
     have hz2 := hk2.size
     clear cN hd2 hk2
     have cN := HNX.out y2 60 HK2'.out HD2'.out (by omega) (by omega)
     go_wp2_with fail
     refine cN.mono ?_
     rintro e y3 ⟨u3, rfl, hu3, hd3, hk3⟩
     have HD3' := Lib.hid hd3
     have HK3' := Lib.hid (HK2'.out.trans hk3)
     have HR3 := Lib.hid (HR2.out.trans hk3)
     have hz3 := hk3.size
     clear cN hd3 hk3
     have cN := HNX.out y3 2 HK3'.out HD3'.out (by omega) (by omega)
     go_wp2_with fail
     refine cN.mono ?_
     rintro e y4 ⟨u4, rfl, hu4, hd4, hk4⟩
     have HD4' := Lib.hid hd4
     have HK4' := Lib.hid (HK3'.out.trans hk4)
     have HR4 := Lib.hid (HR3.out.trans hk4)
     have hz4 := hk4.size
     clear cN hd4 hk4
     have HK64 := HR4
     have h4 : u4 = 0 ∨ u4 = 1 := by omega
     rcases h4 with rfl | rfl
     ·skip
      have cN := HNX.out y4 60 HK4'.out HD4'.out (by omega) (by omega)
      go_wp2_with fail
      refine cN.mono ?_
      rintro e y5 ⟨u5, rfl, hu5, hd5, hk5⟩
      have hB := res_kept (HBK.out y4 HK64.out) hk5 (by intro q hq; injection hq with hq; omega)
      have HB := Lib.hid hB
      have HDN := Lib.hid hd5
      have HKN := Lib.hid (HK4'.out.trans hk5)
      have HB4n := Lib.hid (res_kept (HB4K.out y4 HK64.out) hk5 (by intro q hq; injection hq with hq; omega))
      clear cN hd5 hk5 hB
      go_wp2_with (refine wpList_store_to (by rfl) 37 _ _ (by rfl) b6 3 _ 40 HB.out #[.int .i64 (u1 - 50), .int .i64 (u2 - 50), .int .i64 (u1 - 50 + u3), .int .i64 (u2 - 50)] (by rfl) (by rfl) info37s (by show 3 + 4 ≤ 8; omega) (by simp [Value.oneCell']) _ (put_c ..) (fun V hV hkV => ?_); have HV := Lib.hid hV; have HKV := Lib.hid hkV; clear hV hkV)
      go_meet
      exact ⟨Ru.leaf 7 [] 0 ⟨u1 - 50, u2 - 50, u1 - 50 + u3, u2 - 50⟩, none, 0, 0, HV.out, Lib.hid (TreeP.leaf rfl), right_box (by unfold Ru.boxR Ru.coordR; simp; omega), by have := big_pos k; simpa [Ru.leaf, Ru.size, Ru.sizes] using this, Lib.hid (HDN.out.row HKV.out (by omega)), Lib.hid (res_kept HB4n.out HKV.out (by intro q hq; injection hq with hq; omega)), Lib.hid (Kp.of_own HKN.out HKV.out (by omega))⟩
     ·skip
      have cN := HNX.out y4 60 HK4'.out HD4'.out (by omega) (by omega)
      go_wp2_with fail
      refine cN.mono ?_
      rintro e y5 ⟨u5, rfl, hu5, hd5, hk5⟩
      have hB := res_kept (HBK.out y4 HK64.out) hk5 (by intro q hq; injection hq with hq; omega)
      have HB := Lib.hid hB
      have HDN := Lib.hid hd5
      have HKN := Lib.hid (HK4'.out.trans hk5)
      have HB4n := Lib.hid (res_kept (HB4K.out y4 HK64.out) hk5 (by intro q hq; injection hq with hq; omega))
      clear cN hd5 hk5 hB
      go_wp2_with (refine wpList_store_to (by rfl) 37 _ _ (by rfl) b6 3 _ 40 HB.out #[.int .i64 (u1 - 50), .int .i64 (u2 - 50), .int .i64 (u1 - 50 + u3), .int .i64 (u2 - 50 + u5)] (by rfl) (by rfl) info37s (by show 3 + 4 ≤ 8; omega) (by simp [Value.oneCell']) _ (put_c ..) (fun V hV hkV => ?_); have HV := Lib.hid hV; have HKV := Lib.hid hkV; clear hV hkV)
      go_meet
      exact ⟨Ru.leaf 7 [] 0 ⟨u1 - 50, u2 - 50, u1 - 50 + u3, u2 - 50 + u5⟩, none, 0, 0, HV.out, Lib.hid (TreeP.leaf rfl), right_box (by unfold Ru.boxR Ru.coordR; simp; omega), by have := big_pos k; simpa [Ru.leaf, Ru.size, Ru.sizes] using this, Lib.hid (HDN.out.row HKV.out (by omega)), Lib.hid (res_kept HB4n.out HKV.out (by intro q hq; injection hq with hq; omega)), Lib.hid (Kp.of_own HKN.out HKV.out (by omega))⟩
    ·obtain ⟨j, rfl⟩ : ∃ j, k = j + 1 := by
      cases k with
      | zero => exact absurd (ho0 rfl) (by omega)
      | succ j => exact ⟨j, rfl⟩
     have hsub : ((j + 1 : Nat) : Int) - 1 = (j : Int) := by omega
     have cR := HIH.out j rfl W6 ((HW.out.trans HK1.out).row HK6.out (by intro q hq; injection hq with hq; omega)) HD6.out
     go_wp2_with fail
     refine cR.mono ?_
     rintro e wn ⟨d, a2, m2, p2, rfl, ht, hdr, hds, hdn, hkn⟩
     have kA : Kp wn (wn.alloc (.cells #[.int .i64 d.op, str d.text, .int .i64 d.n, .int .i64 d.box.x0, .int .i64 d.box.y0, .int .i64 d.box.x1, .int .i64 d.box.y1, .slice a2 m2 p2] 40)) none := (Kp.refl _ _).alloc _
     have hB := res_kept (res_kept HB6.out hkn (by intro q hq; injection hq with hq; omega)) kA (by simp)
     have hB1 := hcell hB 7 rfl
     have hF1 := Lib.frozen_of_heap hB 7
     have HB := Lib.hid hB
     have HDN := Lib.hid (hdn.kp kA)
     have HKN := Lib.hid ((HK6.out.trans hkn).trans (kA.weak _))
     have HB4n := Lib.hid (res_kept (res_kept HB46.out hkn (by intro q hq; injection hq with hq; omega)) kA (by simp))
     have HT := Lib.hid (ht.keep kA)
     have HNB := Lib.hid (heap_alloc_new wn (.cells #[.int .i64 d.op, str d.text, .int .i64 d.n, .int .i64 d.box.x0, .int .i64 d.box.y0, .int .i64 d.box.x1, .int .i64 d.box.y1, .slice a2 m2 p2] 40))
     have hzn := hkn.size
     clear hB cR hdn hkn kA ht
     go_wp2_with fail
     go_meet
     have ks : Kp (wn.alloc (.cells #[.int .i64 d.op, str d.text, .int .i64 d.n, .int .i64 d.box.x0, .int .i64 d.box.y0, .int .i64 d.box.x1, .int .i64 d.box.y1, .slice a2 m2 p2] 40)) ((wn.alloc (.cells #[.int .i64 d.op, str d.text, .int .i64 d.n, .int .i64 d.box.x0, .int .i64 d.box.y0, .int .i64 d.box.x1, .int .i64 d.box.y1, .slice a2 m2 p2] 40)).setCell ⟨b6, 7, none⟩ (.slice (some ⟨wn.heap.size, 0, none⟩) 1 1)) (some b6) := (Kp.refl _ _).set _
     have hnb := res_kept HNB.out ks (by intro q hq; injection hq with hq; omega)
     have hT2 := HT.out.row ks (fun q hq hs => by injection hq with hq; omega)
     refine ⟨.mk 8 [] 0 .none [d], some ⟨wn.heap.size, 0, none⟩, 1, 1, heap_set HB.out, Lib.hid ?_, right_not hdr, by rw [Ru.size_mk]; simp [Ru.sizes, big]; omega, Lib.hid (HDN.out.row ks (by omega)), Lib.hid (res_kept HB4n.out ks (by intro q hq; injection hq with hq; omega)), Lib.hid (Kp.of_own HKN.out ks (by omega))⟩
     exact TreeP.of (ps := [(d, .slice a2 m2 p2)]) rfl (.inr ⟨wn.heap.size, 0, 1, rfl, by simp, lt_of_block hnb, fun i hi x hx => by
      have e : i = 0 := by simp at hi; omega
      subst e
      exact hcell hnb _ (by simp [cC])⟩) (fun a m c e _ => by injection e with e; injection e with e; subst e; show b6 + 1 ≤ wn.heap.size; omega) (fun q hq => by rw [List.mem_singleton] at hq; subst hq; exact hT2.mono (fun b _ hb => by omega))
    ·obtain ⟨j, rfl⟩ : ∃ j, k = j + 1 := by
      cases k with
      | zero => exact absurd (ho0 rfl) (by omega)
      | succ j => exact ⟨j, rfl⟩
     have hsub : ((j + 1 : Nat) : Int) - 1 = (j : Int) := by omega
     have cN := HNX.out W6 2 HK6.out HD6.out (by omega) (by omega)
     obtain ⟨i0, hi, hz0, hz1, hz2⟩ := info_parts info40
     go_wp2_with fail
     refine cN.mono ?_
     rintro e y1 ⟨u1, rfl, hu1, hd1, hk1⟩
     obtain ⟨t, rfl⟩ : ∃ t : Nat, u1 = (t : Int) := ⟨u1.toNat, by omega⟩
     have ht2 : t < 2 := by omega
     have HD1 := Lib.hid hd1
     have HK1' := Lib.hid (HK6.out.trans hk1)
     have HB1 := Lib.hid (res_kept HB6.out hk1 (by intro q hq; injection hq with hq; omega))
     have HB4' := Lib.hid (res_kept HB46.out hk1 (by intro q hq; injection hq with hq; omega))
     have hz1s := hk1.size
     clear cN hd1 hk1
     go_wp2_with fail
     go_loopw [10] (fun i wr => ∃ (q : Nat) (ps : List (Ru.Cond × Value)) (lv : Value), q ≤ 2 + t ∧ i = .int .i64 (q : Int) ∧ Hid (ps.length = q) ∧ Hid (wr.heap[b6]? = some (.cells #[.int .i64 9, .string ⟨#[]⟩, .int .i64 0, .int .i64 0, .int .i64 0, .int .i64 0, .int .i64 0, lv] 40 (0, 0))) ∧ Hid (wr.ownsRow (b6 + 1) 40 8 lv q (ps.flatMap cC)) ∧ Hid (∀ p ∈ ps, TreeP (fun b => b6 + 1 ≤ b ∧ lv.ownBlock ≠ some b) wr p.1 p.2 ∧ Ru.right p.1 = true ∧ Ru.size p.1 ≤ big j) ∧ Hid (DrawAt D ao n cap wr) ∧ Hid (wr.heap[w.heap.size]? = some (.cells #[.int .i64 0, .string ⟨#[]⟩, .int .i64 0, .int .i64 0, .int .i64 0, .int .i64 0, .int .i64 0, .slice none 0 0] 40 (0, 0))) ∧ Hid (Kp W1 wr (some D)) ∧ b6 + 1 ≤ wr.heap.size) (fun i _ => 2 + t - (intOf i).toNat)
     case atStart => exact ⟨0, [], .slice none 0 0, Nat.zero_le _, rfl, Lib.hid rfl, HB1, Lib.hid ⟨rfl, .inl ⟨rfl, rfl⟩⟩, Lib.hid (by simp), HD1, HB4', HK1', by omega⟩
     case round =>
      obtain ⟨q, ps, lv, hq, rfl, HPL, HBR, HOW, HPS, HDR, HB4R, HKR, hzr⟩ := hrel
      have hq0 : (0 : Int) ≤ (q : Int) := by omega
      by_cases hlt : q < 2 + t
      ·have hq1 : (q : Int) < 2 + (t : Int) := by omega
       have hcm : q + 1 ≤ maxLen := by unfold maxLen; omega
       have hcb : (q + 1) * 88 ≤ 140737488355328 := by omega
       go_upto_region 27 with fail
       have kD : Kp wr wr.drew none := (Kp.refl _ _).drew
       have HBR := Lib.hid (res_kept HBR.out kD (by simp))
       have HOW := Lib.hid (own_kp HOW.out kD)
       have HPS := Lib.hid (fun p hp => ⟨((HPS.out p hp).1).keep kD, (HPS.out p hp).2⟩ : ∀ p ∈ ps, TreeP (fun b => b6 + 1 ≤ b ∧ lv.ownBlock ≠ some b) wr.drew p.1 p.2 ∧ Ru.right p.1 = true ∧ Ru.size p.1 ≤ big j)
       have HDR := Lib.hid (HDR.out.kp kD)
       have HB4R := Lib.hid (res_kept HB4R.out kD (by simp))
       have HKR := Lib.hid (HKR.out.trans (kD.weak _))
       have hzr : b6 + 1 ≤ wr.drew.heap.size := by have := kD.size; omega
       clear kD
       refine wp_region_last (fun V => V.cell? ⟨b6, 7, none⟩ = some lv ∧ True) 9 (by kernel_rfl) ⟨hcell HBR.out 7 rfl, trivial⟩ (fun hHeld => ?_)
       generalize wr.drew = v0 at *
       have hwj : IntKind.i64.wrap (j : Int) = (j : Int) := by rw [IntKind.wrap_i64]; omega
       refine tkL 0 rfl ?_
       try simp only [Act.put, sm]
       refine tkL 1 rfl ?_
       try simp only [Act.put, sm]
       refine tkL 2 rfl ?_
       try simp only [Act.put, sm]
       refine tkL 3 rfl ?_
       try simp only [Act.put, sm]
       refine tkL 4 rfl ?_
       try simp only [Act.put, sm]
       clear hwj
       refine wpAnyL_ready (rs := [5]) (by kernel_rfl) (by simp) ?_
       refine AllReadyL.cons (o := _) rfl (fun K hK => ?_) AllReadyL.nil
       clear hHeld
       have cR := HIH.out j rfl v0 ((HW.out.trans HK1.out).row HKR.out (by intro q hq; injection hq with hq; omega)) HDR.out
       have CR := Lib.hid cR
       clear cR
       go_simp
       refine (CR.out).mono ?_
       rintro e v1 ⟨d, a2, m2, p2, rfl, ht, hdr, hds, hdn, hkn⟩
       have HB1r := Lib.hid (res_kept HBR.out hkn (by intro q hq; injection hq with hq; omega))
       have HOW1 := Lib.hid (own_row HOW.out hkn (by omega))
       have HPS1 : Hid (∀ p ∈ ps, TreeP (fun b => b6 + 1 ≤ b ∧ lv.ownBlock ≠ some b) v1 p.1 p.2 ∧ Ru.right p.1 = true ∧ Ru.size p.1 ≤ big j) := Lib.hid fun p hp => ⟨((HPS.out p hp).1).row hkn (fun r hr hs => by injection hr with hr; omega), (HPS.out p hp).2⟩
       have HDN := Lib.hid hdn
       have HB4n := Lib.hid (res_kept HB4R.out hkn (by intro q hq; injection hq with hq; omega))
       have HKN := Lib.hid (HKR.out.trans hkn)
       have HT := Lib.hid ht
       have hzn := hkn.size
       have hlv0 : Hid (∀ b, lv.ownBlock = some b → b < v0.heap.size) := Lib.hid fun b hb => (HOW.out.lt b hb).2
       clear hkn ht hdn HBR HOW HPS HDR HB4R HKR
       try go_wp2_with fail
       refine hK.out _ _ ⟨hcell HB1r.out 7 rfl, trivial⟩ (fun hHeld => ?_)
       clear hK K
       try simp only [Act.put, sm]
       refine wpAnyL_ready (rs := [6]) (by kernel_rfl) (by simp) ?_
       refine AllReadyL.cons (o := _) rfl (fun K hK => ?_) AllReadyL.nil
       clear hHeld
       go_simp
       have kA : Kp v1 (v1.alloc (.cells #[.int .i64 d.op, str d.text, .int .i64 d.n, .int .i64 d.box.x0, .int .i64 d.box.y0, .int .i64 d.box.x1, .int .i64 d.box.y1, .slice a2 m2 p2] 40)) none := (Kp.refl _ _).alloc _
       have HB2r := Lib.hid (res_kept HB1r.out kA (by simp))
       have hDB := heap_alloc_new v1 (.cells #[.int .i64 d.op, str d.text, .int .i64 d.n, .int .i64 d.box.x0, .int .i64 d.box.y0, .int .i64 d.box.x1, .int .i64 d.box.y1, .slice a2 m2 p2] 40)
       refine hK.out _ _ ⟨hcell HB2r.out 7 rfl, trivial⟩ (fun hHeld => ?_)
       clear hK K
       try simp only [Act.put, sm]
       refine wpAnyL_ready (rs := [7]) (by kernel_rfl) (by simp) ?_
       refine AllReadyL.cons (o := _) rfl (fun K hK => ?_) AllReadyL.nil
       refine step_append_lies _ (by rfl) _ _ _ (by rfl) (b6 + 1) 40 i0 _ 8 88 Tryz.underlying38 hi hz0 hz1 hz2 rfl (by omega) lv q (ps.flatMap cC) (by rfl) (own_kp HOW1.out kA) ⟨v1.heap.size, 0, none⟩ 1 1 #[.int .i64 d.op, str d.text, .int .i64 d.n, .int .i64 d.box.x0, .int .i64 d.box.y0, .int .i64 d.box.x1, .int .i64 d.box.y1, .slice a2 m2 p2].toList (by rfl) (by rfl) (World.news_of_block (cs := #[.int .i64 d.op, str d.text, .int .i64 d.n, .int .i64 d.box.x0, .int .i64 d.box.y0, .int .i64 d.box.x1, .int .i64 d.box.y1, .slice a2 m2 p2]) (t := 40) (fr := (0, 0)) hDB) (by simp [Value.oneCell']) (by omega) hcm hcb (by simp; omega) (v1.heap.size + 1) (by simp) ?_
       intro gg capg v5 hown5 hgrow5 hor5 hgl5
       clear hHeld
       have HB5 : Hid (v5.heap[b6]? = some (.cells #[.int .i64 9, .string ⟨#[]⟩, .int .i64 0, .int .i64 0, .int .i64 0, .int .i64 0, .int .i64 0, lv] 40 (0, 0))) := Lib.hid (res_kept HB2r.out hgrow5 (fun r hr e => by have := (HOW1.out.lt r hr).1; omega))
       have hgb : b6 < gg := by
        rcases hor5 with h | h
        ·exact (HOW1.out.lt gg h).1
        ·omega
       have HB45 := Lib.hid (res_kept (res_kept HB4n.out kA (by simp)) hgrow5 (fun r hr e => by have := (HOW1.out.lt r hr).1; omega))
       have HD5 : Hid (DrawAt D ao n cap v5) := Lib.hid (by
        have h := HDN.out.kp kA
        cases hl : lv.ownBlock with
        | none => rw [hl] at hgrow5; exact h.kp hgrow5
        | some r => rw [hl] at hgrow5; exact h.row hgrow5 (by have := (HOW1.out.lt r hl).1; omega))
       have HK5 : Hid (Kp W1 v5 (some D)) := Lib.hid (Kp.row (HKN.out.trans (kA.weak _)) hgrow5 (fun r hr => by have := (HOW1.out.lt r hr).1; omega))
       have HOW5 : Hid (v5.ownsRow (b6 + 1) 40 8 (.slice (some ⟨gg, 0, none⟩) (q + 1) capg) (q + 1) ((ps ++ [(d, Value.slice a2 m2 p2)]).flatMap cC)) := Lib.hid (by rw [List.flatMap_append]; exact hown5)
       have hgw : ∀ b, b < v1.heap.size → lv.ownBlock ≠ some b → gg ≠ b := fun b hb hne2 e => by
        rcases hor5 with h | h
        ·exact hne2 (by rw [h, e])
        ·omega
       have HT5 : Hid (∀ p ∈ ps ++ [(d, Value.slice a2 m2 p2)], TreeP (fun b => b6 + 1 ≤ b ∧ (Value.slice (some ⟨gg, 0, none⟩) (q + 1) capg).ownBlock ≠ some b) v5 p.1 p.2 ∧ Ru.right p.1 = true ∧ Ru.size p.1 ≤ big j) := Lib.hid (by
        have hrow : ∀ {S : Nat → Prop} {c : Ru.Cond} {v : Value}, (∀ b, S b → lv.ownBlock ≠ some b) → TreeP S v1 c v → TreeP S v5 c v := fun hS h => (h.keep kA).row hgrow5 (fun r hr hs => hS r hs hr)
        intro p hp
        rcases List.mem_append.1 hp with hp | hp
        ·refine ⟨?_, (HPS1.out p hp).2⟩
         have h2 := ((HPS1.out p hp).1).mono (T := fun b => (b6 + 1 ≤ b ∧ lv.ownBlock ≠ some b) ∧ b < v1.heap.size) (fun b hb h => ⟨h, hb⟩)
         exact (hrow (fun b hb => hb.1.2) h2).mono fun b _ h => ⟨h.1.1, fun e => hgw b h.2 h.1.2 (Option.some.inj e)⟩
        ·rw [List.mem_singleton] at hp
         subst hp
         refine ⟨?_, hdr, hds⟩
         have h2 := HT.out.mono (T := fun b => (v0.heap.size ≤ b ∧ lv.ownBlock ≠ some b) ∧ b < v1.heap.size) (fun b hb h => ⟨⟨h, fun e => by have := hlv0.out b e; omega⟩, hb⟩)
         exact (hrow (fun b hb => hb.1.2) h2).mono fun b _ h => ⟨by omega, fun e => hgw b h.2 h.1.2 (Option.some.inj e)⟩)
       have HPL5 : Hid ((ps ++ [(d, Value.slice a2 m2 p2)]).length = q + 1) := Lib.hid (by rw [List.length_append, HPL.out]; rfl)
       generalize ps ++ [(d, Value.slice a2 m2 p2)] = ps2 at HOW5 HT5 HPL5
       clear hown5 hgrow5 hor5 hgw hDB kA HOW1 HPS1 HDN HB4n HKN HT HB1r HB2r
       refine hK.out _ _ ⟨hcell HB5.out 7 rfl, trivial⟩ (fun hHeld => ?_)
       clear hK K
       try simp only [Act.put, sm]
       refine tkL 8 rfl ?_
       try simp only [Act.put, sm]
       refine wpAnyL_ready (rs := [9]) (by kernel_rfl) (by simp) ?_
       refine AllReadyL.last (o := _) rfl (fun K hK => ?_)
       have hc7 := hcell HB5.out 7 rfl
       have hf7 := Lib.frozen_of_heap HB5.out 7
       clear hHeld
       go_simp
       refine hK.out _ _ ?_
       clear hK K hc7 hf7
       try simp only [Act.put, sm]
       refine wpAnyL_done (by kernel_rfl) ?_ _
       have ks : Kp v5 (v5.setCell ⟨b6, 7, none⟩ (.slice (some ⟨gg, 0, none⟩) (q + 1) capg)) (some b6) := (Kp.refl _ _).set _
       have HKS := Lib.hid ks
       have HB6n := Lib.hid (heap_set (o := 7) (v := .slice (some ⟨gg, 0, none⟩) (q + 1) capg) HB5.out)
       have hzs := ks.size
       generalize v5.setCell ⟨b6, 7, none⟩ (.slice (some ⟨gg, 0, none⟩) (q + 1) capg) = v6 at *
       clear ks
       go_wp2_with fail
       go_roundw
       case rel => exact ⟨q + 1, ps2, _, by omega, by go_num, HPL5, HB6n, Lib.hid (HOW5.out.kept HKS.out (.inr (fun e => by have e : gg = b6 := Option.some.inj e; omega))), Lib.hid (fun p hp => ⟨((HT5.out p hp).1).row HKS.out (fun r hr hs => by injection hr with hr; omega), (HT5.out p hp).2⟩), Lib.hid (HD5.out.row HKS.out (by omega)), Lib.hid (res_kept HB45.out HKS.out (by intro q hq; injection hq with hq; omega)), Lib.hid (Kp.of_own HK5.out HKS.out (by omega)), by omega⟩
       case measure => simp [intOf]; omega
      ·obtain rfl : q = 2 + t := by omega
       have hq1 : ¬ ((2 + t : Nat) : Int) < 2 + (t : Int) := by omega
       obtain ⟨lo, lcap, hlv⟩ := own_slice HOW.out
       subst hlv
       go_wp2_with fail
       go_meet
       have hlen : (ps.map (·.1)).length = 2 + t := by rw [List.length_map]; exact HPL.out
       refine ⟨.mk 9 [] 0 .none (ps.map (·.1)), lo, 2 + t, lcap, HBR.out, Lib.hid ?_, ?_, ?_, HDR, HB4R, HKR⟩
       ·have hown : wr.ownsRow (b6 + 1) 40 8 (.slice lo (2 + t) lcap) ps.length (ps.flatMap cC) := by rw [HPL.out]; exact HOW.out
        refine TreeP.of (ps := ps) rfl (isList_own (m := 8) (f := cC) (fun _ => rfl) hown) (own_base ps hown) (fun p hp => ((HPS.out p hp).1).mono (fun b _ hb => hb.1))
       ·exact right_many9 (by rw [hlen]; omega) (fun c hc => by
         obtain ⟨p, hp, rfl⟩ := List.mem_map.1 hc
         exact (HPS.out p hp).2.1)
       ·have h3 := sizes_le (B := big j) (l := ps.map (·.1)) (fun c hc => by
         obtain ⟨p, hp, rfl⟩ := List.mem_map.1 hc
         exact (HPS.out p hp).2.2)
        rw [hlen] at h3
        rw [Ru.size_mk]
        have : (2 + t) * big j ≤ 3 * big j := Nat.mul_le_mul_right _ (by omega)
        show _ ≤ 1 + 3 * big j
        omega
    ·obtain ⟨j, rfl⟩ : ∃ j, k = j + 1 := by
      cases k with
      | zero => exact absurd (ho0 rfl) (by omega)
      | succ j => exact ⟨j, rfl⟩
     have hsub : ((j + 1 : Nat) : Int) - 1 = (j : Int) := by omega
     have cN := HNX.out W6 2 HK6.out HD6.out (by omega) (by omega)
     obtain ⟨i0, hi, hz0, hz1, hz2⟩ := info_parts info40
     go_wp2_with fail
     refine cN.mono ?_
     rintro e y1 ⟨u1, rfl, hu1, hd1, hk1⟩
     obtain ⟨t, rfl⟩ : ∃ t : Nat, u1 = (t : Int) := ⟨u1.toNat, by omega⟩
     have ht2 : t < 2 := by omega
     have HD1 := Lib.hid hd1
     have HK1' := Lib.hid (HK6.out.trans hk1)
     have HB1 := Lib.hid (res_kept HB6.out hk1 (by intro q hq; injection hq with hq; omega))
     have HB4' := Lib.hid (res_kept HB46.out hk1 (by intro q hq; injection hq with hq; omega))
     have hz1s := hk1.size
     clear cN hd1 hk1
     go_wp2_with fail
     go_loopw [10] (fun i wr => ∃ (q : Nat) (ps : List (Ru.Cond × Value)) (lv : Value), q ≤ 2 + t ∧ i = .int .i64 (q : Int) ∧ Hid (ps.length = q) ∧ Hid (wr.heap[b6]? = some (.cells #[.int .i64 10, .string ⟨#[]⟩, .int .i64 0, .int .i64 0, .int .i64 0, .int .i64 0, .int .i64 0, lv] 40 (0, 0))) ∧ Hid (wr.ownsRow (b6 + 1) 40 8 lv q (ps.flatMap cC)) ∧ Hid (∀ p ∈ ps, TreeP (fun b => b6 + 1 ≤ b ∧ lv.ownBlock ≠ some b) wr p.1 p.2 ∧ Ru.right p.1 = true ∧ Ru.size p.1 ≤ big j) ∧ Hid (DrawAt D ao n cap wr) ∧ Hid (wr.heap[w.heap.size]? = some (.cells #[.int .i64 0, .string ⟨#[]⟩, .int .i64 0, .int .i64 0, .int .i64 0, .int .i64 0, .int .i64 0, .slice none 0 0] 40 (0, 0))) ∧ Hid (Kp W1 wr (some D)) ∧ b6 + 1 ≤ wr.heap.size) (fun i _ => 2 + t - (intOf i).toNat)
     case atStart => exact ⟨0, [], .slice none 0 0, Nat.zero_le _, rfl, Lib.hid rfl, HB1, Lib.hid ⟨rfl, .inl ⟨rfl, rfl⟩⟩, Lib.hid (by simp), HD1, HB4', HK1', by omega⟩
     case round =>
      obtain ⟨q, ps, lv, hq, rfl, HPL, HBR, HOW, HPS, HDR, HB4R, HKR, hzr⟩ := hrel
      have hq0 : (0 : Int) ≤ (q : Int) := by omega
      by_cases hlt : q < 2 + t
      ·have hq1 : (q : Int) < 2 + (t : Int) := by omega
       have hcm : q + 1 ≤ maxLen := by unfold maxLen; omega
       have hcb : (q + 1) * 88 ≤ 140737488355328 := by omega
       go_upto_region 27 with fail
       have kD : Kp wr wr.drew none := (Kp.refl _ _).drew
       have HBR := Lib.hid (res_kept HBR.out kD (by simp))
       have HOW := Lib.hid (own_kp HOW.out kD)
       have HPS := Lib.hid (fun p hp => ⟨((HPS.out p hp).1).keep kD, (HPS.out p hp).2⟩ : ∀ p ∈ ps, TreeP (fun b => b6 + 1 ≤ b ∧ lv.ownBlock ≠ some b) wr.drew p.1 p.2 ∧ Ru.right p.1 = true ∧ Ru.size p.1 ≤ big j)
       have HDR := Lib.hid (HDR.out.kp kD)
       have HB4R := Lib.hid (res_kept HB4R.out kD (by simp))
       have HKR := Lib.hid (HKR.out.trans (kD.weak _))
       have hzr : b6 + 1 ≤ wr.drew.heap.size := by have := kD.size; omega
       clear kD
       refine wp_region_last (fun V => V.cell? ⟨b6, 7, none⟩ = some lv ∧ True) 9 (by kernel_rfl) ⟨hcell HBR.out 7 rfl, trivial⟩ (fun hHeld => ?_)
       generalize wr.drew = v0 at *
       have hwj : IntKind.i64.wrap (j : Int) = (j : Int) := by rw [IntKind.wrap_i64]; omega
       refine tkL 0 rfl ?_
       try simp only [Act.put, sm]
       refine tkL 1 rfl ?_
       try simp only [Act.put, sm]
       refine tkL 2 rfl ?_
       try simp only [Act.put, sm]
       refine tkL 3 rfl ?_
       try simp only [Act.put, sm]
       refine tkL 4 rfl ?_
       try simp only [Act.put, sm]
       clear hwj
       refine wpAnyL_ready (rs := [5]) (by kernel_rfl) (by simp) ?_
       refine AllReadyL.cons (o := _) rfl (fun K hK => ?_) AllReadyL.nil
       clear hHeld
       have cR := HIH.out j rfl v0 ((HW.out.trans HK1.out).row HKR.out (by intro q hq; injection hq with hq; omega)) HDR.out
       have CR := Lib.hid cR
       clear cR
       go_simp
       refine (CR.out).mono ?_
       rintro e v1 ⟨d, a2, m2, p2, rfl, ht, hdr, hds, hdn, hkn⟩
       have HB1r := Lib.hid (res_kept HBR.out hkn (by intro q hq; injection hq with hq; omega))
       have HOW1 := Lib.hid (own_row HOW.out hkn (by omega))
       have HPS1 : Hid (∀ p ∈ ps, TreeP (fun b => b6 + 1 ≤ b ∧ lv.ownBlock ≠ some b) v1 p.1 p.2 ∧ Ru.right p.1 = true ∧ Ru.size p.1 ≤ big j) := Lib.hid fun p hp => ⟨((HPS.out p hp).1).row hkn (fun r hr hs => by injection hr with hr; omega), (HPS.out p hp).2⟩
       have HDN := Lib.hid hdn
       have HB4n := Lib.hid (res_kept HB4R.out hkn (by intro q hq; injection hq with hq; omega))
       have HKN := Lib.hid (HKR.out.trans hkn)
       have HT := Lib.hid ht
       have hzn := hkn.size
       have hlv0 : Hid (∀ b, lv.ownBlock = some b → b < v0.heap.size) := Lib.hid fun b hb => (HOW.out.lt b hb).2
       clear hkn ht hdn HBR HOW HPS HDR HB4R HKR
       try go_wp2_with fail
       refine hK.out _ _ ⟨hcell HB1r.out 7 rfl, trivial⟩ (fun hHeld => ?_)
       clear hK K
       try simp only [Act.put, sm]
       refine wpAnyL_ready (rs := [6]) (by kernel_rfl) (by simp) ?_
       refine AllReadyL.cons (o := _) rfl (fun K hK => ?_) AllReadyL.nil
       clear hHeld
       go_simp
       have kA : Kp v1 (v1.alloc (.cells #[.int .i64 d.op, str d.text, .int .i64 d.n, .int .i64 d.box.x0, .int .i64 d.box.y0, .int .i64 d.box.x1, .int .i64 d.box.y1, .slice a2 m2 p2] 40)) none := (Kp.refl _ _).alloc _
       have HB2r := Lib.hid (res_kept HB1r.out kA (by simp))
       have hDB := heap_alloc_new v1 (.cells #[.int .i64 d.op, str d.text, .int .i64 d.n, .int .i64 d.box.x0, .int .i64 d.box.y0, .int .i64 d.box.x1, .int .i64 d.box.y1, .slice a2 m2 p2] 40)
       refine hK.out _ _ ⟨hcell HB2r.out 7 rfl, trivial⟩ (fun hHeld => ?_)
       clear hK K
       try simp only [Act.put, sm]
       refine wpAnyL_ready (rs := [7]) (by kernel_rfl) (by simp) ?_
       refine AllReadyL.cons (o := _) rfl (fun K hK => ?_) AllReadyL.nil
       refine step_append_lies _ (by rfl) _ _ _ (by rfl) (b6 + 1) 40 i0 _ 8 88 Tryz.underlying38 hi hz0 hz1 hz2 rfl (by omega) lv q (ps.flatMap cC) (by rfl) (own_kp HOW1.out kA) ⟨v1.heap.size, 0, none⟩ 1 1 #[.int .i64 d.op, str d.text, .int .i64 d.n, .int .i64 d.box.x0, .int .i64 d.box.y0, .int .i64 d.box.x1, .int .i64 d.box.y1, .slice a2 m2 p2].toList (by rfl) (by rfl) (World.news_of_block (cs := #[.int .i64 d.op, str d.text, .int .i64 d.n, .int .i64 d.box.x0, .int .i64 d.box.y0, .int .i64 d.box.x1, .int .i64 d.box.y1, .slice a2 m2 p2]) (t := 40) (fr := (0, 0)) hDB) (by simp [Value.oneCell']) (by omega) hcm hcb (by simp; omega) (v1.heap.size + 1) (by simp) ?_
       intro gg capg v5 hown5 hgrow5 hor5 hgl5
       clear hHeld
       have HB5 : Hid (v5.heap[b6]? = some (.cells #[.int .i64 10, .string ⟨#[]⟩, .int .i64 0, .int .i64 0, .int .i64 0, .int .i64 0, .int .i64 0, lv] 40 (0, 0))) := Lib.hid (res_kept HB2r.out hgrow5 (fun r hr e => by have := (HOW1.out.lt r hr).1; omega))
       have hgb : b6 < gg := by
        rcases hor5 with h | h
        ·exact (HOW1.out.lt gg h).1
        ·omega
       have HB45 := Lib.hid (res_kept (res_kept HB4n.out kA (by simp)) hgrow5 (fun r hr e => by have := (HOW1.out.lt r hr).1; omega))
       have HD5 : Hid (DrawAt D ao n cap v5) := Lib.hid (by
        have h := HDN.out.kp kA
        cases hl : lv.ownBlock with
        | none => rw [hl] at hgrow5; exact h.kp hgrow5
        | some r => rw [hl] at hgrow5; exact h.row hgrow5 (by have := (HOW1.out.lt r hl).1; omega))
       have HK5 : Hid (Kp W1 v5 (some D)) := Lib.hid (Kp.row (HKN.out.trans (kA.weak _)) hgrow5 (fun r hr => by have := (HOW1.out.lt r hr).1; omega))
       have HOW5 : Hid (v5.ownsRow (b6 + 1) 40 8 (.slice (some ⟨gg, 0, none⟩) (q + 1) capg) (q + 1) ((ps ++ [(d, Value.slice a2 m2 p2)]).flatMap cC)) := Lib.hid (by rw [List.flatMap_append]; exact hown5)
       have hgw : ∀ b, b < v1.heap.size → lv.ownBlock ≠ some b → gg ≠ b := fun b hb hne2 e => by
        rcases hor5 with h | h
        ·exact hne2 (by rw [h, e])
        ·omega
       have HT5 : Hid (∀ p ∈ ps ++ [(d, Value.slice a2 m2 p2)], TreeP (fun b => b6 + 1 ≤ b ∧ (Value.slice (some ⟨gg, 0, none⟩) (q + 1) capg).ownBlock ≠ some b) v5 p.1 p.2 ∧ Ru.right p.1 = true ∧ Ru.size p.1 ≤ big j) := Lib.hid (by
        have hrow : ∀ {S : Nat → Prop} {c : Ru.Cond} {v : Value}, (∀ b, S b → lv.ownBlock ≠ some b) → TreeP S v1 c v → TreeP S v5 c v := fun hS h => (h.keep kA).row hgrow5 (fun r hr hs => hS r hs hr)
        intro p hp
        rcases List.mem_append.1 hp with hp | hp
        ·refine ⟨?_, (HPS1.out p hp).2⟩
         have h2 := ((HPS1.out p hp).1).mono (T := fun b => (b6 + 1 ≤ b ∧ lv.ownBlock ≠ some b) ∧ b < v1.heap.size) (fun b hb h => ⟨h, hb⟩)
         exact (hrow (fun b hb => hb.1.2) h2).mono fun b _ h => ⟨h.1.1, fun e => hgw b h.2 h.1.2 (Option.some.inj e)⟩
        ·rw [List.mem_singleton] at hp
         subst hp
         refine ⟨?_, hdr, hds⟩
         have h2 := HT.out.mono (T := fun b => (v0.heap.size ≤ b ∧ lv.ownBlock ≠ some b) ∧ b < v1.heap.size) (fun b hb h => ⟨⟨h, fun e => by have := hlv0.out b e; omega⟩, hb⟩)
         exact (hrow (fun b hb => hb.1.2) h2).mono fun b _ h => ⟨by omega, fun e => hgw b h.2 h.1.2 (Option.some.inj e)⟩)
       have HPL5 : Hid ((ps ++ [(d, Value.slice a2 m2 p2)]).length = q + 1) := Lib.hid (by rw [List.length_append, HPL.out]; rfl)
       generalize ps ++ [(d, Value.slice a2 m2 p2)] = ps2 at HOW5 HT5 HPL5
       clear hown5 hgrow5 hor5 hgw hDB kA HOW1 HPS1 HDN HB4n HKN HT HB1r HB2r
       refine hK.out _ _ ⟨hcell HB5.out 7 rfl, trivial⟩ (fun hHeld => ?_)
       clear hK K
       try simp only [Act.put, sm]
       refine tkL 8 rfl ?_
       try simp only [Act.put, sm]
       refine wpAnyL_ready (rs := [9]) (by kernel_rfl) (by simp) ?_
       refine AllReadyL.last (o := _) rfl (fun K hK => ?_)
       have hc7 := hcell HB5.out 7 rfl
       have hf7 := Lib.frozen_of_heap HB5.out 7
       clear hHeld
       go_simp
       refine hK.out _ _ ?_
       clear hK K hc7 hf7
       try simp only [Act.put, sm]
       refine wpAnyL_done (by kernel_rfl) ?_ _
       have ks : Kp v5 (v5.setCell ⟨b6, 7, none⟩ (.slice (some ⟨gg, 0, none⟩) (q + 1) capg)) (some b6) := (Kp.refl _ _).set _
       have HKS := Lib.hid ks
       have HB6n := Lib.hid (heap_set (o := 7) (v := .slice (some ⟨gg, 0, none⟩) (q + 1) capg) HB5.out)
       have hzs := ks.size
       generalize v5.setCell ⟨b6, 7, none⟩ (.slice (some ⟨gg, 0, none⟩) (q + 1) capg) = v6 at *
       clear ks
       go_wp2_with fail
       go_roundw
       case rel => exact ⟨q + 1, ps2, _, by omega, by go_num, HPL5, HB6n, Lib.hid (HOW5.out.kept HKS.out (.inr (fun e => by have e : gg = b6 := Option.some.inj e; omega))), Lib.hid (fun p hp => ⟨((HT5.out p hp).1).row HKS.out (fun r hr hs => by injection hr with hr; omega), (HT5.out p hp).2⟩), Lib.hid (HD5.out.row HKS.out (by omega)), Lib.hid (res_kept HB45.out HKS.out (by intro q hq; injection hq with hq; omega)), Lib.hid (Kp.of_own HK5.out HKS.out (by omega)), by omega⟩
       case measure => simp [intOf]; omega
      ·obtain rfl : q = 2 + t := by omega
       have hq1 : ¬ ((2 + t : Nat) : Int) < 2 + (t : Int) := by omega
       obtain ⟨lo, lcap, hlv⟩ := own_slice HOW.out
       subst hlv
       go_wp2_with fail
       go_meet
       have hlen : (ps.map (·.1)).length = 2 + t := by rw [List.length_map]; exact HPL.out
       refine ⟨.mk 10 [] 0 .none (ps.map (·.1)), lo, 2 + t, lcap, HBR.out, Lib.hid ?_, ?_, ?_, HDR, HB4R, HKR⟩
       ·have hown : wr.ownsRow (b6 + 1) 40 8 (.slice lo (2 + t) lcap) ps.length (ps.flatMap cC) := by rw [HPL.out]; exact HOW.out
        refine TreeP.of (ps := ps) rfl (isList_own (m := 8) (f := cC) (fun _ => rfl) hown) (own_base ps hown) (fun p hp => ((HPS.out p hp).1).mono (fun b _ hb => hb.1))
       ·exact right_many10 (by rw [hlen]; omega) (fun c hc => by
         obtain ⟨p, hp, rfl⟩ := List.mem_map.1 hc
         exact (HPS.out p hp).2.1)
       ·have h3 := sizes_le (B := big j) (l := ps.map (·.1)) (fun c hc => by
         obtain ⟨p, hp, rfl⟩ := List.mem_map.1 hc
         exact (HPS.out p hp).2.2)
        rw [hlen] at h3
        rw [Ru.size_mk]
        have : (2 + t) * big j ≤ 3 * big j := Nat.mul_le_mul_right _ (by omega)
        show _ ≤ 1 + 3 * big j
        omega
   case rest =>
    obtain ⟨c, a, m, p, hbc, hta, hr, hsz, hdd, hz4, hkk⟩ := hcut
    have R6 := Lib.hid (range_blk hbc)
    have HBC := Lib.hid hbc
    clear hbc
    go_wp2_with (first | (refine wpList_load_mid (by rfl) 40 _ (by rfl) b6 0 (by rfl) #[.int .i64 c.op, str c.text, .int .i64 c.n, .int .i64 c.box.x0, .int .i64 c.box.y0, .int .i64 c.box.x1, .int .i64 c.box.y1, .slice a m p].toList _ R6.out Tryz.underlying40 (by rfl) info40s ?_) | (refine wpList_store_blk (by rfl) 40 _ _ (by rfl) w.heap.size _ 40 hz4.out #[.int .i64 c.op, str c.text, .int .i64 c.n, .int .i64 c.box.x0, .int .i64 c.box.y0, .int .i64 c.box.x1, .int .i64 c.box.y1, .slice a m p] (by rfl) (by rfl) info40s (by rfl) (by simp [Value.oneCell']) (fun V hV hkV => ?_); have HV := Lib.hid hV; have HKV := Lib.hid hkV; clear hV hkV))
    refine bodyPost_ret (results_cell_row (p := 4) (ty := 40) (by rfl) _ V w.heap.size 40 #[.int .i64 c.op, str c.text, .int .i64 c.n, .int .i64 c.box.x0, .int .i64 c.box.y0, .int .i64 c.box.x1, .int .i64 c.box.y1, .slice a m p] (0, 0) _ (by rfl) HV.out Tryz.underlying40 (by rfl) info40s) (by rfl) ?_
    exact ⟨c, a, m, p, rfl, (hta.out.row HKV.out (fun q hq hs => by injection hq with hq; omega)).mono (fun b _ hb => by omega), hr, hsz, hdd.out.row HKV.out (by omega), Kp.of_own ((HK1.out.weak _).trans hkk.out) HKV.out (Nat.le_refl _)⟩
theorem cond_made : ∀ (k : Nat), k ≤ 100 → ∀ (w : World), Kp W w none → DrawAt D ao n cap w → Calls Tryz.prog 23 #[.pointer (some ⟨D, 0, none⟩), .int .i64 (k : Int)] w (Made1 D ao n cap (big k) w)
 | 0, h, w, hw, hd => cond_step n D ao cap W hD hN 0 h (fun j hj => by omega) w hw hd
 | k + 1, h, w, hw, hd => cond_step n D ao cap W hD hN (k + 1) h (fun j hj w hw hd => by
   have e : j = k := by omega
   subst e
   exact cond_made j (by omega) w hw hd) w hw hd
end
end Go.Proofs.YtnchipahdfbliaaGreatDoor
