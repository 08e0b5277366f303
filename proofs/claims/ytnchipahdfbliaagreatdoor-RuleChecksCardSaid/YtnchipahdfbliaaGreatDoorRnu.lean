/- The reference's texts of conditions. Conditions: right conditions of a size up to 20.
   The reference's Text. Conditions: what a machine holds. -/
import Derived.Test.YtnchipahdfbliaaGreatDoorRna
import Derived.Test.YtnchipahdfbliaaGreatDoorWro
import Derived.Test.YtnchipahdfbliaaGreatDoorRnj
import Derived.Test.YtnchipahdfbliaaGreatDoorTx
namespace Go.Proofs.YtnchipahdfbliaaGreatDoor.Ru
open Go Go.Proofs.YtnchipahdfbliaaGreatDoor
open Go.RowKit

theorem write_brk {c : Cond} (h : right c = true) (ar : Int) : write ar c = inB (brk ar c.op) (write 0 c) := by
 have hf := right_form h
 cases hf with
 | any => rw [write_any, write_any]; simp [brk, inB, cAny, Cond.op]
 | net t ht => rw [write_net, write_net]; simp [brk, inB, leaf, Cond.op]
 | cls t ht => rw [write_cls, write_cls]; simp [brk, inB, leaf, Cond.op]
 | kind m h1 h2 => rw [write_kind, write_kind]; simp [brk, inB, leaf, Cond.op]
 | layer m h1 h2 => rw [write_layer, write_layer]; simp [brk, inB, leaf, Cond.op]
 | part m h1 h2 => rw [write_part, write_part]; simp [brk, inB, leaf, Cond.op]
 | box b hb => rw [write_box, write_box]; simp [brk, inB, leaf, Cond.op]
 | not d hd => rw [write_not, write_not]; simp [brk, inB, Cond.op]
 | and l h1 h2 => rw [write_and, write_and]; simp [brk, inB, Cond.op]
 | or l h1 h2 => rw [write_or, write_or]; simp [brk, inB, Cond.op]
/-- The text of a condition, in brackets or not. -/
def txB (b : Bool) (c : Cond) : Bytes := if b then [40, 32] ++ tx c ++ [32, 41] else tx c
theorem join_inB {c : Cond} (h : right c = true) (b : Bool) : joinB 32 (inB b (write 0 c)) = txB b c := by
 cases b with
 | false => rfl
 | true => rw [inB_true, br_app h]; rfl
theorem join_write {c : Cond} (h : right c = true) (ar : Int) : joinB 32 (write ar c) = txB (brk ar c.op) c := by rw [write_brk h, join_inB h]
theorem tx_not {c : Cond} (h : right c = true) : tx (notC c) = [110, 111, 116, 32] ++ txB (brk 8 c.op) c := by
 unfold tx notC
 rw [write_not, show kwNot :: write 8 c = [kwNot] ++ write 8 c from rfl, join_app 32 [kwNot] (write 8 c) (by simp) (write_ne c h 8), join_write h]
 rfl
def txs (kw : Bytes) (op : Int) (l : List Cond) : Bytes := joinB 32 (writes kw op l)
theorem txs_first {kw : Bytes} {op : Int} {c : Cond} (h : right c = true) : txs kw op [c] = txB (brk op c.op) c := by
 unfold txs
 rw [writes_eq, writesT, List.append_nil, join_write h]
theorem writes_ne {kw : Bytes} {op : Int} {l : List Cond} (h0 : l ≠ []) (h : ∀ c ∈ l, right c = true) : writes kw op l ≠ [] := by
 cases l with
 | nil => exact absurd rfl h0
 | cons c l => rw [writes_eq]; intro hx; exact write_ne c (h c (by simp)) op (List.append_eq_nil_iff.1 hx).1
theorem txs_snoc {kw : Bytes} {op : Int} {l : List Cond} {c : Cond} (h0 : l ≠ []) (hl : ∀ c ∈ l, right c = true) (h : right c = true) : txs kw op (l ++ [c]) = txs kw op l ++ (32 :: kw ++ [32]) ++ txB (brk op c.op) c := by
 unfold txs
 rw [writes_snoc, if_neg h0, join_app 32 _ _ (by simp) (write_ne c h op), join_app 32 _ [kw] (writes_ne h0 hl) (by simp), join_write h]
 simp [joinB]
theorem txB_len {c : Cond} (h : right c = true) (b : Bool) : (txB b c).length ≤ 220 * size c := by
 have h1 := join_wl 32 (write 0 c)
 have h2 := write_len c h 0
 have h3 : (txB b c).length ≤ (tx c).length + 4 := by cases b <;> simp [txB]
 unfold tx at h3; omega
theorem txs_len {kw : Bytes} {op : Int} (hk : kw.length ≤ 3) {l : List Cond} (h : ∀ c ∈ l, right c = true) : (txs kw op l).length ≤ 220 * sizes l := by
 have h1 := join_wl 32 (writes kw op l)
 have h2 := wl_writes (op := op) hk l (fun c hc => write_len c (h c hc) op)
 unfold txs; omega
theorem tx_and (l : List Cond) : tx (.mk 9 [] 0 .none l) = txs kwAnd 9 l := by unfold tx txs; rw [write_and]; simp [brk, inB]
theorem tx_or (l : List Cond) : tx (.mk 10 [] 0 .none l) = txs kwOr 10 l := by unfold tx txs; rw [write_or]; simp [brk, inB]
end Go.Proofs.YtnchipahdfbliaaGreatDoor.Ru
namespace Go.Proofs.YtnchipahdfbliaaGreatDoor
open Go.RowKit

section
variable (a : Option Addr) (m p : Nat) (w : World)
set_option maxHeartbeats 4000000 in
set_option maxRecDepth 100000 in
theorem condR_l1 : Calls Tryz.prog 48 #[.agg #[.int .i64 1, .string ⟨#[]⟩, .int .i64 0, .int .i64 0, .int .i64 0, .int .i64 0, .int .i64 0, .slice a m p]] w (fun e w' => e = .returned (str Ru.kwAny) ∧ Kp w w' none) := by
 go_enter Tryz.func48, Tryz.ntmps48
 go_wp2_with fail
 go_ret
 exact ⟨rfl, (Kp.refl w none).alloc _⟩
set_option maxHeartbeats 4000000 in
set_option maxRecDepth 100000 in
theorem condR_l2 (t : List UInt8) (ht : t.length ≤ 1000000000) : Calls Tryz.prog 48 #[.agg #[.int .i64 2, str t, .int .i64 0, .int .i64 0, .int .i64 0, .int .i64 0, .int .i64 0, .slice a m p]] w (fun e w' => e = .returned (str ([110, 101, 116, 32] ++ t)) ∧ Kp w w' none) := by
 go_enter Tryz.func48, Tryz.ntmps48
 go_wp2_with fail
 go_ret
 exact ⟨ret_str (cat_eq [110, 101, 116, 32] t), (Kp.refl w none).alloc _⟩
set_option maxHeartbeats 4000000 in
set_option maxRecDepth 100000 in
theorem condR_l3 (t : List UInt8) (ht : t.length ≤ 1000000000) : Calls Tryz.prog 48 #[.agg #[.int .i64 3, str t, .int .i64 0, .int .i64 0, .int .i64 0, .int .i64 0, .int .i64 0, .slice a m p]] w (fun e w' => e = .returned (str ([99, 108, 97, 115, 115, 32] ++ t)) ∧ Kp w w' none) := by
 go_enter Tryz.func48, Tryz.ntmps48
 go_wp2_with fail
 go_ret
 exact ⟨ret_str (cat_eq [99, 108, 97, 115, 115, 32] t), (Kp.refl w none).alloc _⟩
set_option maxHeartbeats 4000000 in
set_option maxRecDepth 100000 in
theorem condR_l4 (n : Int) (h0 : 1 ≤ n) (h1 : n ≤ 1000000000) : Calls Tryz.prog 48 #[.agg #[.int .i64 4, .string ⟨#[]⟩, .int .i64 n, .int .i64 0, .int .i64 0, .int .i64 0, .int .i64 0, .slice a m p]] w (fun e w' => e = .returned (str ([107, 105, 110, 100, 32] ++ Lib.itoa n)) ∧ Kp w w' none) := by
 have hI : Wr.I64 n := by unfold Wr.I64; omega
 have c46 := dec46_any n hI (by omega)
 have hl := Wr.itoa_length n hI
 have K1 : Hid (Kp w (w.alloc (.cells #[.int .i64 4, .string ⟨#[]⟩, .int .i64 n, .int .i64 0, .int .i64 0, .int .i64 0, .int .i64 0, .slice a m p] 40)) none) := Lib.hid ((Kp.refl _ _).alloc _)
 clear hI
 go_enter Tryz.func48, Tryz.ntmps48
 go_wp2_with (go_at_call 46; refine (c46 _).mono ?_; clear c46; rintro e w2 ⟨rfl, hk2⟩)
 go_ret
 exact ⟨ret_str (cat_eq [107, 105, 110, 100, 32] _), K1.out.trans hk2⟩
set_option maxHeartbeats 4000000 in
set_option maxRecDepth 100000 in
theorem condR_l5 (n : Int) (h0 : 1 ≤ n) (h1 : n ≤ 1000000000) : Calls Tryz.prog 48 #[.agg #[.int .i64 5, .string ⟨#[]⟩, .int .i64 n, .int .i64 0, .int .i64 0, .int .i64 0, .int .i64 0, .slice a m p]] w (fun e w' => e = .returned (str ([108, 97, 121, 101, 114, 32] ++ Lib.itoa n)) ∧ Kp w w' none) := by
 have hI : Wr.I64 n := by unfold Wr.I64; omega
 have c46 := dec46_any n hI (by omega)
 have hl := Wr.itoa_length n hI
 have K1 : Hid (Kp w (w.alloc (.cells #[.int .i64 5, .string ⟨#[]⟩, .int .i64 n, .int .i64 0, .int .i64 0, .int .i64 0, .int .i64 0, .slice a m p] 40)) none) := Lib.hid ((Kp.refl _ _).alloc _)
 clear hI
 go_enter Tryz.func48, Tryz.ntmps48
 go_wp2_with (go_at_call 46; refine (c46 _).mono ?_; clear c46; rintro e w2 ⟨rfl, hk2⟩)
 go_ret
 exact ⟨ret_str (cat_eq [108, 97, 121, 101, 114, 32] _), K1.out.trans hk2⟩
set_option maxHeartbeats 4000000 in
set_option maxRecDepth 100000 in
theorem condR_l6 (n : Int) (h0 : 1 ≤ n) (h1 : n ≤ 1000000000) : Calls Tryz.prog 48 #[.agg #[.int .i64 6, .string ⟨#[]⟩, .int .i64 n, .int .i64 0, .int .i64 0, .int .i64 0, .int .i64 0, .slice a m p]] w (fun e w' => e = .returned (str ([112, 97, 114, 116, 32] ++ Lib.itoa n)) ∧ Kp w w' none) := by
 have hI : Wr.I64 n := by unfold Wr.I64; omega
 have c46 := dec46_any n hI (by omega)
 have hl := Wr.itoa_length n hI
 have K1 : Hid (Kp w (w.alloc (.cells #[.int .i64 6, .string ⟨#[]⟩, .int .i64 n, .int .i64 0, .int .i64 0, .int .i64 0, .int .i64 0, .slice a m p] 40)) none) := Lib.hid ((Kp.refl _ _).alloc _)
 clear hI
 go_enter Tryz.func48, Tryz.ntmps48
 go_wp2_with (go_at_call 46; refine (c46 _).mono ?_; clear c46; rintro e w2 ⟨rfl, hk2⟩)
 go_ret
 exact ⟨ret_str (cat_eq [112, 97, 114, 116, 32] _), K1.out.trans hk2⟩
set_option maxHeartbeats 4000000 in
set_option maxRecDepth 100000 in
theorem condR_l7 (b : Ru.Box) (hb : Ru.boxR b = true) : Calls Tryz.prog 48 #[.agg #[.int .i64 7, .string ⟨#[]⟩, .int .i64 0, .int .i64 b.x0, .int .i64 b.y0, .int .i64 b.x1, .int .i64 b.y1, .slice a m p]] w (fun e w' => e = .returned (str (Ru.tx (Ru.leaf 7 [] 0 b))) ∧ Kp w w' none) := by
 have hB := heap_alloc_new w (.cells #[.int .i64 7, .string ⟨#[]⟩, .int .i64 0, .int .i64 b.x0, .int .i64 b.y0, .int .i64 b.x1, .int .i64 b.y1, .slice a m p] 40)
 obtain ⟨⟨e0, e1⟩, e2, e3⟩ := Ru.boxR_num hb
 have HI0 : Hid (Wr.I64 b.x0) := Lib.hid (by have := Ru.coord_num e0; unfold Wr.I64; omega)
 have HN0 : Hid (b.x0 ≠ -9223372036854775808) := Lib.hid (by have := Ru.coord_num e0; omega)
 have HI1 : Hid (Wr.I64 b.y0) := Lib.hid (by have := Ru.coord_num e1; unfold Wr.I64; omega)
 have HN1 : Hid (b.y0 ≠ -9223372036854775808) := Lib.hid (by have := Ru.coord_num e1; omega)
 have HI2 : Hid (Wr.I64 b.x1) := Lib.hid (by have := Ru.coord_num e2; unfold Wr.I64; omega)
 have HN2 : Hid (b.x1 ≠ -9223372036854775808) := Lib.hid (by have := Ru.coord_num e2; omega)
 have HI3 : Hid (Wr.I64 b.y1) := Lib.hid (by have := Ru.coord_num e3; unfold Wr.I64; omega)
 have HN3 : Hid (b.y1 ≠ -9223372036854775808) := Lib.hid (by have := Ru.coord_num e3; omega)
 have HS : Hid (∀ V, Kp (w.alloc (.cells #[.int .i64 7, .string ⟨#[]⟩, .int .i64 0, .int .i64 b.x0, .int .i64 b.y0, .int .i64 b.x1, .int .i64 b.y1, .slice a m p] 40)) V none → V.cell? ⟨w.heap.size, 3, none⟩ = some (.int .i64 b.x0) ∧ V.cell? ⟨w.heap.size, 4, none⟩ = some (.int .i64 b.y0) ∧ V.cell? ⟨w.heap.size, 5, none⟩ = some (.int .i64 b.x1) ∧ V.cell? ⟨w.heap.size, 6, none⟩ = some (.int .i64 b.y1) ∧ Hid (Kp (w.alloc (.cells #[.int .i64 7, .string ⟨#[]⟩, .int .i64 0, .int .i64 b.x0, .int .i64 b.y0, .int .i64 b.x1, .int .i64 b.y1, .slice a m p] 40)) V none)) := Lib.hid fun V hV => ⟨ckr hB hV (by simp) 3 rfl, ckr hB hV (by simp) 4 rfl, ckr hB hV (by simp) 5 rfl, ckr hB hV (by simp) 6 rfl, Lib.hid hV⟩
 have K1 : Hid (Kp w (w.alloc (.cells #[.int .i64 7, .string ⟨#[]⟩, .int .i64 0, .int .i64 b.x0, .int .i64 b.y0, .int .i64 b.x1, .int .i64 b.y1, .slice a m p] 40)) none) := Lib.hid ((Kp.refl _ _).alloc _)
 clear hB hb e0 e1 e2 e3
 go_enter Tryz.func48, Tryz.ntmps48
 go_upto_region 15 with fail
 generalize hW : w.alloc (.cells #[.int .i64 7, .string ⟨#[]⟩, .int .i64 0, .int .i64 b.x0, .int .i64 b.y0, .int .i64 b.x1, .int .i64 b.y1, .slice a m p] 40) = W0 at *
 clear hW
 obtain ⟨q1, hq1⟩ : ∃ q : List UInt8, [105, 110, 32] ++ Lib.itoa b.x0 = q := ⟨_, rfl⟩
 have Bq1 : Hid ((⟨#[105, 110, 32]⟩ : ByteArray) ++ (⟨(Lib.itoa b.x0).toArray⟩ : ByteArray) = ⟨(q1).toArray⟩) := Lib.hid (by rw [← hq1]; exact ByteArray.mk_append_mk _ _)
 have lbq1 : (Lib.itoa b.x0).length ≤ 20 := Wr.itoa_length b.x0 (HI0.out)
 have bq1 : q1.length ≤ 23 := by rw [← hq1, List.length_append]; (try simp only [List.length_cons, List.length_nil]); omega
 have Gq1 : Hid ((9223372036854775807 < 3 + (Lib.itoa b.x0).length) = False) := Lib.hid (eq_false (by (try simp only [List.length_cons, List.length_nil]); omega))
 have Hq1 := Lib.hid hq1
 clear hq1 lbq1
 obtain ⟨q2, hq2⟩ : ∃ q : List UInt8, q1 ++ [32] = q := ⟨_, rfl⟩
 have Bq2 : Hid ((⟨(q1).toArray⟩ : ByteArray) ++ (⟨#[32]⟩ : ByteArray) = ⟨(q2).toArray⟩) := Lib.hid (by rw [← hq2]; exact ByteArray.mk_append_mk _ _)
 have bq2 : q2.length ≤ 24 := by rw [← hq2, List.length_append]; (try simp only [List.length_cons, List.length_nil]); omega
 have Gq2 : Hid ((9223372036854775807 < (q1).length + 1) = False) := Lib.hid (eq_false (by (try simp only [List.length_cons, List.length_nil]); omega))
 have Hq2 := Lib.hid hq2
 clear hq2 
 obtain ⟨q3, hq3⟩ : ∃ q : List UInt8, q2 ++ Lib.itoa b.y0 = q := ⟨_, rfl⟩
 have Bq3 : Hid ((⟨(q2).toArray⟩ : ByteArray) ++ (⟨(Lib.itoa b.y0).toArray⟩ : ByteArray) = ⟨(q3).toArray⟩) := Lib.hid (by rw [← hq3]; exact ByteArray.mk_append_mk _ _)
 have lbq3 : (Lib.itoa b.y0).length ≤ 20 := Wr.itoa_length b.y0 (HI1.out)
 have bq3 : q3.length ≤ 44 := by rw [← hq3, List.length_append]; (try simp only [List.length_cons, List.length_nil]); omega
 have Gq3 : Hid ((9223372036854775807 < (q2).length + (Lib.itoa b.y0).length) = False) := Lib.hid (eq_false (by (try simp only [List.length_cons, List.length_nil]); omega))
 have Hq3 := Lib.hid hq3
 clear hq3 lbq3
 obtain ⟨q4, hq4⟩ : ∃ q : List UInt8, q3 ++ [32] = q := ⟨_, rfl⟩
 have Bq4 : Hid ((⟨(q3).toArray⟩ : ByteArray) ++ (⟨#[32]⟩ : ByteArray) = ⟨(q4).toArray⟩) := Lib.hid (by rw [← hq4]; exact ByteArray.mk_append_mk _ _)
 have bq4 : q4.length ≤ 45 := by rw [← hq4, List.length_append]; (try simp only [List.length_cons, List.length_nil]); omega
 have Gq4 : Hid ((9223372036854775807 < (q3).length + 1) = False) := Lib.hid (eq_false (by (try simp only [List.length_cons, List.length_nil]); omega))
 have Hq4 := Lib.hid hq4
 clear hq4 
 obtain ⟨q5, hq5⟩ : ∃ q : List UInt8, q4 ++ Lib.itoa b.x1 = q := ⟨_, rfl⟩
 have Bq5 : Hid ((⟨(q4).toArray⟩ : ByteArray) ++ (⟨(Lib.itoa b.x1).toArray⟩ : ByteArray) = ⟨(q5).toArray⟩) := Lib.hid (by rw [← hq5]; exact ByteArray.mk_append_mk _ _)
 have lbq5 : (Lib.itoa b.x1).length ≤ 20 := Wr.itoa_length b.x1 (HI2.out)
 have bq5 : q5.length ≤ 65 := by rw [← hq5, List.length_append]; (try simp only [List.length_cons, List.length_nil]); omega
 have Gq5 : Hid ((9223372036854775807 < (q4).length + (Lib.itoa b.x1).length) = False) := Lib.hid (eq_false (by (try simp only [List.length_cons, List.length_nil]); omega))
 have Hq5 := Lib.hid hq5
 clear hq5 lbq5
 obtain ⟨q6, hq6⟩ : ∃ q : List UInt8, q5 ++ [32] = q := ⟨_, rfl⟩
 have Bq6 : Hid ((⟨(q5).toArray⟩ : ByteArray) ++ (⟨#[32]⟩ : ByteArray) = ⟨(q6).toArray⟩) := Lib.hid (by rw [← hq6]; exact ByteArray.mk_append_mk _ _)
 have bq6 : q6.length ≤ 66 := by rw [← hq6, List.length_append]; (try simp only [List.length_cons, List.length_nil]); omega
 have Gq6 : Hid ((9223372036854775807 < (q5).length + 1) = False) := Lib.hid (eq_false (by (try simp only [List.length_cons, List.length_nil]); omega))
 have Hq6 := Lib.hid hq6
 clear hq6 
 obtain ⟨q7, hq7⟩ : ∃ q : List UInt8, q6 ++ Lib.itoa b.y1 = q := ⟨_, rfl⟩
 have Bq7 : Hid ((⟨(q6).toArray⟩ : ByteArray) ++ (⟨(Lib.itoa b.y1).toArray⟩ : ByteArray) = ⟨(q7).toArray⟩) := Lib.hid (by rw [← hq7]; exact ByteArray.mk_append_mk _ _)
 have lbq7 : (Lib.itoa b.y1).length ≤ 20 := Wr.itoa_length b.y1 (HI3.out)
 have bq7 : q7.length ≤ 86 := by rw [← hq7, List.length_append]; (try simp only [List.length_cons, List.length_nil]); omega
 have Gq7 : Hid ((9223372036854775807 < (q6).length + (Lib.itoa b.y1).length) = False) := Lib.hid (eq_false (by (try simp only [List.length_cons, List.length_nil]); omega))
 have Hq7 := Lib.hid hq7
 clear hq7 lbq7
 clear bq1 bq2 bq3 bq4 bq5 bq6 bq7
 refine wp_region_held_drew (S := fun V => V.cell? ⟨w.heap.size, 3, none⟩ = some (.int .i64 b.x0) ∧ V.cell? ⟨w.heap.size, 4, none⟩ = some (.int .i64 b.y0) ∧ V.cell? ⟨w.heap.size, 5, none⟩ = some (.int .i64 b.x1) ∧ V.cell? ⟨w.heap.size, 6, none⟩ = some (.int .i64 b.y1) ∧ Hid (Kp W0 V none)) (by kernel_rfl) (HS.out _ (Kp.refl _ none).drew) (fun hHeld => ?_)
 refine tkH 0 rfl ?_
 try simp only [Act.put, sm]
 refine tkH 6 rfl ?_
 try simp only [Act.put, sm]
 refine tkH 12 rfl ?_
 try simp only [Act.put, sm]
 refine tkH 18 rfl ?_
 try simp only [Act.put, sm]
 refine tkH 1 rfl ?_
 try simp only [Act.put, sm]
 refine tkH 7 rfl ?_
 try simp only [Act.put, sm]
 refine tkH 13 rfl ?_
 try simp only [Act.put, sm]
 refine tkH 19 rfl ?_
 try simp only [Act.put, sm]
 refine tkH 2 rfl ?_
 try simp only [Act.put, sm]
 refine tkH 8 rfl ?_
 try simp only [Act.put, sm]
 refine tkH 14 rfl ?_
 try simp only [Act.put, sm]
 refine tkH 20 rfl ?_
 try simp only [Act.put, sm]
 refine wpAnyH_ready (rs := [3]) (by kernel_rfl) (by simp) ?_
 refine AllReadyH.cons (o := _) rfl (fun K hK => ?_) AllReadyH.nil
 have gK := hHeld.2.2.2.2
 clear hHeld
 go_simp
 refine (dec46_any b.x0 (HI0.out) (HN0.out) _).mono ?_
 rintro e V1 ⟨rfl, kk⟩
 try go_wp2_with fail
 refine hK.out _ _ (HS.out _ (gK.out.trans kk)) (fun hHeld => ?_)
 clear hK K gK kk
 try simp only [Act.put, sm]
 have eq1 := Bq1.out
 have gq1 := Gq1.out
 refine tkH 4 rfl ?_
 try simp only [Act.put, sm]
 clear gq1 eq1
 have eq2 := Bq2.out
 have gq2 := Gq2.out
 refine tkH 5 rfl ?_
 try simp only [Act.put, sm]
 clear gq2 eq2
 refine wpAnyH_ready (rs := [9]) (by kernel_rfl) (by simp) ?_
 refine AllReadyH.cons (o := _) rfl (fun K hK => ?_) AllReadyH.nil
 have gK := hHeld.2.2.2.2
 clear hHeld
 go_simp
 refine (dec46_any b.y0 (HI1.out) (HN1.out) _).mono ?_
 rintro e V2 ⟨rfl, kk⟩
 try go_wp2_with fail
 refine hK.out _ _ (HS.out _ (gK.out.trans kk)) (fun hHeld => ?_)
 clear hK K gK kk
 try simp only [Act.put, sm]
 have eq3 := Bq3.out
 have gq3 := Gq3.out
 refine tkH 10 rfl ?_
 try simp only [Act.put, sm]
 clear gq3 eq3
 have eq4 := Bq4.out
 have gq4 := Gq4.out
 refine tkH 11 rfl ?_
 try simp only [Act.put, sm]
 clear gq4 eq4
 refine wpAnyH_ready (rs := [15]) (by kernel_rfl) (by simp) ?_
 refine AllReadyH.cons (o := _) rfl (fun K hK => ?_) AllReadyH.nil
 have gK := hHeld.2.2.2.2
 clear hHeld
 go_simp
 refine (dec46_any b.x1 (HI2.out) (HN2.out) _).mono ?_
 rintro e V3 ⟨rfl, kk⟩
 try go_wp2_with fail
 refine hK.out _ _ (HS.out _ (gK.out.trans kk)) (fun hHeld => ?_)
 clear hK K gK kk
 try simp only [Act.put, sm]
 have eq5 := Bq5.out
 have gq5 := Gq5.out
 refine tkH 16 rfl ?_
 try simp only [Act.put, sm]
 clear gq5 eq5
 have eq6 := Bq6.out
 have gq6 := Gq6.out
 refine tkH 17 rfl ?_
 try simp only [Act.put, sm]
 clear gq6 eq6
 refine wpAnyH_ready (rs := [21]) (by kernel_rfl) (by simp) ?_
 refine AllReadyH.cons (o := _) rfl (fun K hK => ?_) AllReadyH.nil
 have gK := hHeld.2.2.2.2
 clear hHeld
 go_simp
 refine (dec46_any b.y1 (HI3.out) (HN3.out) _).mono ?_
 rintro e V4 ⟨rfl, kk⟩
 try go_wp2_with fail
 refine hK.out _ _ (HS.out _ (gK.out.trans kk)) (fun hHeld => ?_)
 clear hK K gK kk
 try simp only [Act.put, sm]
 have eq7 := Bq7.out
 have gq7 := Gq7.out
 refine tkH 22 rfl ?_
 try simp only [Act.put, sm]
 clear gq7 eq7
 refine wpAnyH_ready (rs := [23]) (by kernel_rfl) (by simp) ?_
 refine AllReadyH.cons (o := _) rfl (fun K hK => ?_) AllReadyH.nil
 have gK := hHeld.2.2.2.2
 clear hHeld
 go_simp
 try go_wp2_with fail
 refine hK.out _ _ (HS.out _ gK.out) (fun _ => ?_)
 have KZ := Lib.hid gK.out
 clear hK K gK
 try simp only [Act.put, sm]
 refine wpAnyH_done (by kernel_rfl) ?_ _
 go_wp2_with fail
 go_ret
 refine ⟨ret_str ?_, K1.out.trans KZ.out⟩
 congr 2
 rw [← Hq7.out, ← Hq6.out, ← Hq5.out, ← Hq4.out, ← Hq3.out, ← Hq2.out, ← Hq1.out]
 unfold Ru.tx
 rw [Ru.write_box]
 simp [Ru.joinB, Ru.kwIn]
set_option maxHeartbeats 4000000 in
set_option maxRecDepth 100000 in
theorem condR_not (o : Int) (bb : Bool) (harm : (o = 9 ∧ bb = true) ∨ (o = 10 ∧ bb = true) ∨ (o ≠ 9 ∧ o ≠ 10 ∧ bb = false)) (d : Ru.Cond) (a3 : Option Addr) (m3 p3 : Nat) (b off cap : Nat) (hrg : w.rangeAt b off #[.int .i64 o, str d.text, .int .i64 d.n, .int .i64 d.box.x0, .int .i64 d.box.y0, .int .i64 d.box.x1, .int .i64 d.box.y1, .slice a3 m3 p3].toList) (hb : b < w.heap.size) (T : List UInt8) (hT : T.length ≤ 1000000000)
  (ih : ∀ u, Kp w u none → Calls Tryz.prog 69 #[.agg #[.int .i64 o, str d.text, .int .i64 d.n, .int .i64 d.box.x0, .int .i64 d.box.y0, .int .i64 d.box.x1, .int .i64 d.box.y1, .slice a3 m3 p3], .bool bb] u fun e w' => e = .returned (str T) ∧ Kp u w' none) : Calls Tryz.prog 48 #[.agg #[.int .i64 8, .string ⟨#[]⟩, .int .i64 0, .int .i64 0, .int .i64 0, .int .i64 0, .int .i64 0, .slice (some ⟨b, off, none⟩) 1 cap]] w (fun e w' => e = .returned (str ([110, 111, 116, 32] ++ T)) ∧ Kp w w' none) := by
 have hk1 : Kp w (w.alloc (.cells #[.int .i64 8, .string ⟨#[]⟩, .int .i64 0, .int .i64 0, .int .i64 0, .int .i64 0, .int .i64 0, .slice (some ⟨b, off, none⟩) 1 cap] 40)) none := (Kp.refl _ _).alloc _
 have hB := heap_alloc_new w (.cells #[.int .i64 8, .string ⟨#[]⟩, .int .i64 0, .int .i64 0, .int .i64 0, .int .i64 0, .int .i64 0, .slice (some ⟨b, off, none⟩) 1 cap] 40)
 have HS : Hid (∀ V, Kp (w.alloc (.cells #[.int .i64 8, .string ⟨#[]⟩, .int .i64 0, .int .i64 0, .int .i64 0, .int .i64 0, .int .i64 0, .slice (some ⟨b, off, none⟩) 1 cap] 40)) V none → V.cell? ⟨w.heap.size, 7, none⟩ = some (.slice (some ⟨b, off, none⟩) 1 cap) ∧ V.cell? ⟨b, off, none⟩ = some (.int .i64 o) ∧ V.rangeAt b off #[.int .i64 o, str d.text, .int .i64 d.n, .int .i64 d.box.x0, .int .i64 d.box.y0, .int .i64 d.box.x1, .int .i64 d.box.y1, .slice a3 m3 p3].toList ∧ Hid (Kp (w.alloc (.cells #[.int .i64 8, .string ⟨#[]⟩, .int .i64 0, .int .i64 0, .int .i64 0, .int .i64 0, .int .i64 0, .slice (some ⟨b, off, none⟩) 1 cap] 40)) V none)) := Lib.hid fun V hV => by
  have hr : V.rangeAt b off #[.int .i64 o, str d.text, .int .i64 d.n, .int .i64 d.box.x0, .int .i64 d.box.y0, .int .i64 d.box.x1, .int .i64 d.box.y1, .slice a3 m3 p3].toList := fun j v hv => by rw [(hk1.trans hV).below.cell (p := ⟨b, off + j, none⟩) hb]; exact hrg j v hv
  exact ⟨ckr hB hV (by simp) 7 rfl, by simpa using hr 0 _ rfl, hr, Lib.hid hV⟩
 have HIH : Hid (∀ u, Kp (w.alloc (.cells #[.int .i64 8, .string ⟨#[]⟩, .int .i64 0, .int .i64 0, .int .i64 0, .int .i64 0, .int .i64 0, .slice (some ⟨b, off, none⟩) 1 cap] 40)) u none → Calls Tryz.prog 69 #[.agg #[.int .i64 o, str d.text, .int .i64 d.n, .int .i64 d.box.x0, .int .i64 d.box.y0, .int .i64 d.box.x1, .int .i64 d.box.y1, .slice a3 m3 p3], .bool bb] u fun e w' => e = .returned (str T) ∧ Kp u w' none) := Lib.hid fun u hu => ih u (hk1.trans hu)
 have K1 := Lib.hid hk1
 have HT := Lib.hid hT
 clear hB hk1 ih hrg hT
 go_enter Tryz.func48, Tryz.ntmps48
 go_upto_region 17 with fail
 generalize hW : w.alloc (.cells #[.int .i64 8, .string ⟨#[]⟩, .int .i64 0, .int .i64 0, .int .i64 0, .int .i64 0, .int .i64 0, .slice (some ⟨b, off, none⟩) 1 cap] 40) = W0 at *
 clear hW
 rcases harm with ⟨rfl, rfl⟩ | ⟨rfl, rfl⟩ | ⟨h9, h10, rfl⟩
 ·skip
  obtain ⟨q1, hq1⟩ : ∃ q : List UInt8, [110, 111, 116, 32] ++ T = q := ⟨_, rfl⟩
  have Bq1 : Hid ((⟨#[110, 111, 116, 32]⟩ : ByteArray) ++ (⟨(T).toArray⟩ : ByteArray) = ⟨(q1).toArray⟩) := Lib.hid (by rw [← hq1]; exact ByteArray.mk_append_mk _ _)
  have lbq1 : (T).length ≤ 1000000000 := HT.out
  have bq1 : q1.length ≤ 1000000004 := by rw [← hq1, List.length_append]; (try simp only [List.length_cons, List.length_nil]); omega
  have Gq1 : Hid ((9223372036854775807 < 4 + (T).length) = False) := Lib.hid (eq_false (by (try simp only [List.length_cons, List.length_nil]); omega))
  have Hq1 := Lib.hid hq1
  clear hq1 lbq1
  clear bq1
  refine wp_region_held_drew (S := fun V => V.cell? ⟨w.heap.size, 7, none⟩ = some (.slice (some ⟨b, off, none⟩) 1 cap) ∧ V.cell? ⟨b, off, none⟩ = some (.int .i64 9) ∧ V.rangeAt b off #[.int .i64 9, str d.text, .int .i64 d.n, .int .i64 d.box.x0, .int .i64 d.box.y0, .int .i64 d.box.x1, .int .i64 d.box.y1, .slice a3 m3 p3].toList ∧ Hid (Kp W0 V none)) (by kernel_rfl) (HS.out _ (Kp.refl _ none).drew) (fun hHeld => ?_)
  refine tkH 0 rfl ?_
  try simp only [Act.put, sm]
  refine tkH 4 rfl ?_
  try simp only [Act.put, sm]
  refine tkH 1 rfl ?_
  try simp only [Act.put, sm]
  refine tkH 5 rfl ?_
  try simp only [Act.put, sm]
  refine tkH 2 rfl ?_
  try simp only [Act.put, sm]
  refine tkH 6 rfl ?_
  try simp only [Act.put, sm]
  refine wpAnyH_take (i := 3) rfl (by kernel_rfl) (by kernel_rfl) (by kernel_rfl) (fun _ _ _ h => h) (yieldsIf_load_mid (by rfl) _ _ rfl b off rfl #[.int .i64 9, str d.text, .int .i64 d.n, .int .i64 d.box.x0, .int .i64 d.box.y0, .int .i64 d.box.x1, .int .i64 d.box.y1, .slice a3 m3 p3].toList _ (fun _ h => h.2.2.1) Tryz.underlying40 rfl info40s) (by assumption) ?_
  try simp only [Act.put, sm]
  refine tkH 7 rfl ?_
  try simp only [Act.put, sm]
  refine tkH 8 rfl ?_
  try simp only [Act.put, sm]
  refine tkH 9 rfl ?_
  try simp only [Act.put, sm]
  refine tkH 10 rfl ?_
  try simp only [Act.put, sm]
  refine tkU 11 rfl ?_
  try simp only [Act.put, sm]
  refine tkU 12 rfl ?_
  try simp only [Act.put, sm]
  refine tkU 13 rfl ?_
  try simp only [Act.put, sm]
  refine tkU 14 rfl ?_
  try simp only [Act.put, sm]
  refine tkU 15 rfl ?_
  try simp only [Act.put, sm]
  refine tkU 16 rfl ?_
  try simp only [Act.put, sm]
  refine tkH 17 rfl ?_
  try simp only [Act.put, sm]
  refine wpAnyH_ready (rs := [18]) (by kernel_rfl) (by simp) ?_
  refine AllReadyH.cons (o := _) rfl (fun K hK => ?_) AllReadyH.nil
  have gK := hHeld.2.2.2
  clear hHeld
  go_simp
  refine (HIH.out _ gK.out).mono ?_
  rintro e V1 ⟨rfl, kk⟩
  try go_wp2_with fail
  refine hK.out _ _ (HS.out _ (gK.out.trans kk)) (fun hHeld => ?_)
  clear hK K gK kk
  try simp only [Act.put, sm]
  have eq1 := Bq1.out
  have gq1 := Gq1.out
  refine tkH 19 rfl ?_
  try simp only [Act.put, sm]
  clear gq1 eq1
  refine wpAnyH_ready (rs := [20]) (by kernel_rfl) (by simp) ?_
  refine AllReadyH.cons (o := _) rfl (fun K hK => ?_) AllReadyH.nil
  have gK := hHeld.2.2.2
  clear hHeld
  go_simp
  try go_wp2_with fail
  refine hK.out _ _ (HS.out _ gK.out) (fun _ => ?_)
  have KZ := Lib.hid gK.out
  clear hK K gK
  try simp only [Act.put, sm]
  refine wpAnyH_done (by kernel_rfl) ?_ _
  go_wp2_with fail
  go_ret
  exact ⟨ret_str (by rw [← Hq1.out]; rfl), K1.out.trans KZ.out⟩
 ·skip
  obtain ⟨q1, hq1⟩ : ∃ q : List UInt8, [110, 111, 116, 32] ++ T = q := ⟨_, rfl⟩
  have Bq1 : Hid ((⟨#[110, 111, 116, 32]⟩ : ByteArray) ++ (⟨(T).toArray⟩ : ByteArray) = ⟨(q1).toArray⟩) := Lib.hid (by rw [← hq1]; exact ByteArray.mk_append_mk _ _)
  have lbq1 : (T).length ≤ 1000000000 := HT.out
  have bq1 : q1.length ≤ 1000000004 := by rw [← hq1, List.length_append]; (try simp only [List.length_cons, List.length_nil]); omega
  have Gq1 : Hid ((9223372036854775807 < 4 + (T).length) = False) := Lib.hid (eq_false (by (try simp only [List.length_cons, List.length_nil]); omega))
  have Hq1 := Lib.hid hq1
  clear hq1 lbq1
  clear bq1
  refine wp_region_held_drew (S := fun V => V.cell? ⟨w.heap.size, 7, none⟩ = some (.slice (some ⟨b, off, none⟩) 1 cap) ∧ V.cell? ⟨b, off, none⟩ = some (.int .i64 10) ∧ V.rangeAt b off #[.int .i64 10, str d.text, .int .i64 d.n, .int .i64 d.box.x0, .int .i64 d.box.y0, .int .i64 d.box.x1, .int .i64 d.box.y1, .slice a3 m3 p3].toList ∧ Hid (Kp W0 V none)) (by kernel_rfl) (HS.out _ (Kp.refl _ none).drew) (fun hHeld => ?_)
  refine tkH 0 rfl ?_
  try simp only [Act.put, sm]
  refine tkH 4 rfl ?_
  try simp only [Act.put, sm]
  refine tkH 1 rfl ?_
  try simp only [Act.put, sm]
  refine tkH 5 rfl ?_
  try simp only [Act.put, sm]
  refine tkH 2 rfl ?_
  try simp only [Act.put, sm]
  refine tkH 6 rfl ?_
  try simp only [Act.put, sm]
  refine wpAnyH_take (i := 3) rfl (by kernel_rfl) (by kernel_rfl) (by kernel_rfl) (fun _ _ _ h => h) (yieldsIf_load_mid (by rfl) _ _ rfl b off rfl #[.int .i64 10, str d.text, .int .i64 d.n, .int .i64 d.box.x0, .int .i64 d.box.y0, .int .i64 d.box.x1, .int .i64 d.box.y1, .slice a3 m3 p3].toList _ (fun _ h => h.2.2.1) Tryz.underlying40 rfl info40s) (by assumption) ?_
  try simp only [Act.put, sm]
  refine tkH 7 rfl ?_
  try simp only [Act.put, sm]
  refine tkH 8 rfl ?_
  try simp only [Act.put, sm]
  refine tkH 9 rfl ?_
  try simp only [Act.put, sm]
  refine tkH 10 rfl ?_
  try simp only [Act.put, sm]
  refine tkH 11 rfl ?_
  try simp only [Act.put, sm]
  refine tkH 12 rfl ?_
  try simp only [Act.put, sm]
  refine tkH 13 rfl ?_
  try simp only [Act.put, sm]
  refine tkH 14 rfl ?_
  try simp only [Act.put, sm]
  refine tkH 15 rfl ?_
  try simp only [Act.put, sm]
  refine tkH 16 rfl ?_
  try simp only [Act.put, sm]
  refine tkH 17 rfl ?_
  try simp only [Act.put, sm]
  refine wpAnyH_ready (rs := [18]) (by kernel_rfl) (by simp) ?_
  refine AllReadyH.cons (o := _) rfl (fun K hK => ?_) AllReadyH.nil
  have gK := hHeld.2.2.2
  clear hHeld
  go_simp
  refine (HIH.out _ gK.out).mono ?_
  rintro e V1 ⟨rfl, kk⟩
  try go_wp2_with fail
  refine hK.out _ _ (HS.out _ (gK.out.trans kk)) (fun hHeld => ?_)
  clear hK K gK kk
  try simp only [Act.put, sm]
  have eq1 := Bq1.out
  have gq1 := Gq1.out
  refine tkH 19 rfl ?_
  try simp only [Act.put, sm]
  clear gq1 eq1
  refine wpAnyH_ready (rs := [20]) (by kernel_rfl) (by simp) ?_
  refine AllReadyH.cons (o := _) rfl (fun K hK => ?_) AllReadyH.nil
  have gK := hHeld.2.2.2
  clear hHeld
  go_simp
  try go_wp2_with fail
  refine hK.out _ _ (HS.out _ gK.out) (fun _ => ?_)
  have KZ := Lib.hid gK.out
  clear hK K gK
  try simp only [Act.put, sm]
  refine wpAnyH_done (by kernel_rfl) ?_ _
  go_wp2_with fail
  go_ret
  exact ⟨ret_str (by rw [← Hq1.out]; rfl), K1.out.trans KZ.out⟩
 ·have e9 : (o == 9) = false := by simpa using h9
  have e10 : (o == 10) = false := by simpa using h10
  clear h9 h10
  obtain ⟨q1, hq1⟩ : ∃ q : List UInt8, [110, 111, 116, 32] ++ T = q := ⟨_, rfl⟩
  have Bq1 : Hid ((⟨#[110, 111, 116, 32]⟩ : ByteArray) ++ (⟨(T).toArray⟩ : ByteArray) = ⟨(q1).toArray⟩) := Lib.hid (by rw [← hq1]; exact ByteArray.mk_append_mk _ _)
  have lbq1 : (T).length ≤ 1000000000 := HT.out
  have bq1 : q1.length ≤ 1000000004 := by rw [← hq1, List.length_append]; (try simp only [List.length_cons, List.length_nil]); omega
  have Gq1 : Hid ((9223372036854775807 < 4 + (T).length) = False) := Lib.hid (eq_false (by (try simp only [List.length_cons, List.length_nil]); omega))
  have Hq1 := Lib.hid hq1
  clear hq1 lbq1
  clear bq1
  refine wp_region_held_drew (S := fun V => V.cell? ⟨w.heap.size, 7, none⟩ = some (.slice (some ⟨b, off, none⟩) 1 cap) ∧ V.cell? ⟨b, off, none⟩ = some (.int .i64 o) ∧ V.rangeAt b off #[.int .i64 o, str d.text, .int .i64 d.n, .int .i64 d.box.x0, .int .i64 d.box.y0, .int .i64 d.box.x1, .int .i64 d.box.y1, .slice a3 m3 p3].toList ∧ Hid (Kp W0 V none)) (by kernel_rfl) (HS.out _ (Kp.refl _ none).drew) (fun hHeld => ?_)
  refine tkH 0 rfl ?_
  try simp only [Act.put, sm]
  refine tkH 4 rfl ?_
  try simp only [Act.put, sm]
  refine tkH 1 rfl ?_
  try simp only [Act.put, sm]
  refine tkH 5 rfl ?_
  try simp only [Act.put, sm]
  refine tkH 2 rfl ?_
  try simp only [Act.put, sm]
  refine tkH 6 rfl ?_
  try simp only [Act.put, sm]
  refine wpAnyH_take (i := 3) rfl (by kernel_rfl) (by kernel_rfl) (by kernel_rfl) (fun _ _ _ h => h) (yieldsIf_load_mid (by rfl) _ _ rfl b off rfl #[.int .i64 o, str d.text, .int .i64 d.n, .int .i64 d.box.x0, .int .i64 d.box.y0, .int .i64 d.box.x1, .int .i64 d.box.y1, .slice a3 m3 p3].toList _ (fun _ h => h.2.2.1) Tryz.underlying40 rfl info40s) (by assumption) ?_
  try simp only [Act.put, sm]
  refine tkH 7 rfl ?_
  try simp only [Act.put, sm]
  refine tkH 8 rfl ?_
  try simp only [Act.put, sm]
  refine tkH 9 rfl ?_
  try simp only [Act.put, sm]
  refine tkH 10 rfl ?_
  try simp only [Act.put, sm]
  refine tkH 11 rfl ?_
  try simp only [Act.put, sm]
  refine tkH 12 rfl ?_
  try simp only [Act.put, sm]
  refine tkH 13 rfl ?_
  try simp only [Act.put, sm]
  refine tkH 14 rfl ?_
  try simp only [Act.put, sm]
  refine tkH 15 rfl ?_
  try simp only [Act.put, sm]
  refine tkH 16 rfl ?_
  try simp only [Act.put, sm]
  refine tkH 17 rfl ?_
  try simp only [Act.put, sm]
  refine wpAnyH_ready (rs := [18]) (by kernel_rfl) (by simp) ?_
  refine AllReadyH.cons (o := _) rfl (fun K hK => ?_) AllReadyH.nil
  have gK := hHeld.2.2.2
  clear hHeld
  go_simp
  refine (HIH.out _ gK.out).mono ?_
  rintro e V1 ⟨rfl, kk⟩
  try go_wp2_with fail
  refine hK.out _ _ (HS.out _ (gK.out.trans kk)) (fun hHeld => ?_)
  clear hK K gK kk
  try simp only [Act.put, sm]
  have eq1 := Bq1.out
  have gq1 := Gq1.out
  refine tkH 19 rfl ?_
  try simp only [Act.put, sm]
  clear gq1 eq1
  refine wpAnyH_ready (rs := [20]) (by kernel_rfl) (by simp) ?_
  refine AllReadyH.cons (o := _) rfl (fun K hK => ?_) AllReadyH.nil
  have gK := hHeld.2.2.2
  clear hHeld
  go_simp
  try go_wp2_with fail
  refine hK.out _ _ (HS.out _ gK.out) (fun _ => ?_)
  have KZ := Lib.hid gK.out
  clear hK K gK
  try simp only [Act.put, sm]
  refine wpAnyH_done (by kernel_rfl) ?_ _
  go_wp2_with fail
  go_ret
  exact ⟨ret_str (by rw [← Hq1.out]; rfl), K1.out.trans KZ.out⟩
end
theorem ret_strv {a b : ByteArray} (h : a = b) : Value.string a = .string b := by rw [h]
set_option maxHeartbeats 4000000 in
set_option maxRecDepth 100000 in
theorem condR_l9 (ps : List (Ru.Cond × Value)) (ao : Option Addr) (cap n : Nat) (w : World) (hl : LiesAt 8 cC w ao cap ps) (hn : ps.length = n) (hv : ∀ p ∈ ps, ∃ a m c, p.2 = .slice a m c) (hr : ∀ p ∈ ps, Ru.right p.1 = true) (hsz : Ru.sizes (ps.map (·.1)) ≤ 100)
  (ih : ∀ p ∈ ps, ∀ u bb, Kp w u none → Calls Tryz.prog 69 #[.agg (cC p).toArray, .bool bb] u fun e w' => e = .returned (str (Ru.txB bb p.1)) ∧ Kp u w' none) : Calls Tryz.prog 48 #[.agg #[.int .i64 9, .string ⟨#[]⟩, .int .i64 0, .int .i64 0, .int .i64 0, .int .i64 0, .int .i64 0, .slice ao n cap]] w fun e w' => e = .returned (str (Ru.txs Ru.kwAnd 9 (ps.map (·.1)))) ∧ Kp w w' none := by
 have hk1 : Kp w (w.alloc (.cells #[.int .i64 9, .string ⟨#[]⟩, .int .i64 0, .int .i64 0, .int .i64 0, .int .i64 0, .int .i64 0, .slice ao n cap] 40)) none := (Kp.refl _ _).alloc _
 have HB := Lib.hid (heap_alloc_new w (.cells #[.int .i64 9, .string ⟨#[]⟩, .int .i64 0, .int .i64 0, .int .i64 0, .int .i64 0, .int .i64 0, .slice ao n cap] 40))
 have HK1 := Lib.hid hk1
 have HLA := Lib.hid (hl.keep hk1)
 have HIH := Lib.hid ih
 have HV := Lib.hid hv
 have HR := Lib.hid hr
 have HSZ := Lib.hid hsz
 have HN := Lib.hid hn
 have hn0 : (0 : Int) ≤ (n : Int) := by omega
 have hn1 : n ≤ 100 := by have := sizes_len (ps.map (·.1)); rw [List.length_map] at this; omega
 clear hl ih hv hr hsz hk1 hn
 go_enter Tryz.func48, Tryz.ntmps48
 go_wp2_with fail
 generalize hW : w.alloc (.cells #[.int .i64 9, .string ⟨#[]⟩, .int .i64 0, .int .i64 0, .int .i64 0, .int .i64 0, .int .i64 0, .slice ao n cap] 40) = W0 at *
 clear hW
 go_loopw [4, 5] (fun s4 i wr => ∃ (k : Nat) (L : List UInt8), k ≤ n ∧ i = .int .i64 (k : Int) ∧ s4 = str L ∧ Hid (L = Ru.txs Ru.kwAnd 9 ((ps.take k).map (·.1))) ∧ Hid (Kp W0 wr none)) (fun _ i _ => n - (intOf i).toNat)
 case atStart => exact ⟨0, [], Nat.zero_le _, rfl, rfl, Lib.hid (by simp [Ru.txs, Ru.writes, Ru.joinB]), Lib.hid (Kp.refl _ _)⟩
 case round =>
  obtain ⟨k, L, hk, rfl, rfl, HL, HK⟩ := hrel
  have hk0 : (0 : Int) ≤ (k : Int) := by omega
  have hc7 : wr.cell? ⟨w.heap.size, 7, none⟩ = some (.slice ao n cap) := ckr HB.out HK.out (by simp) 7 rfl
  have hLl : L.length ≤ 22000 := by
   have h1 := Ru.txs_len (kw := Ru.kwAnd) (op := 9) (by decide) (l := (ps.take k).map (·.1)) (fun c hc => by
    obtain ⟨x, hx, rfl⟩ := List.mem_map.1 hc
    exact HR.out x (List.mem_of_mem_take hx))
   have h2 := sizes_le_all (ps := ps) k
   have h3 := HSZ.out
   rw [HL.out]; omega
  by_cases hlt : k < n
  ·have hk1 : (k : Int) < (n : Int) := by omega
   have hltp : k < ps.length := by rw [HN.out]; exact hlt
   obtain ⟨q, hq⟩ : ∃ q, ps[k] = q := ⟨_, rfl⟩
   have hmem : q ∈ ps := by rw [← hq]; exact List.getElem_mem hltp
   obtain ⟨a3, m3, p3, hq2⟩ := HV.out q hmem
   obtain ⟨b, off, hao, hbl, hrg⟩ := (HLA.out.keep HK.out).range k hltp hq
   obtain ⟨o, ho⟩ : ∃ o, q.1.op = o := ⟨_, rfl⟩
   obtain ⟨bb, hbb⟩ : ∃ x, Ru.brk 9 q.1.op = x := ⟨_, rfl⟩
   have harm : (o = 10 ∧ bb = true) ∨ (o = 9 ∧ bb = true) ∨ (o ≠ 10 ∧ o ≠ 9 ∧ bb = false) := by
    by_cases h10 : o = 10
    ·subst h10; exact .inl ⟨rfl, by rw [← hbb, ho]; rfl⟩
    ·by_cases h9 : o = 9
     ·subst h9; exact .inr (.inl ⟨rfl, by rw [← hbb, ho]; rfl⟩)
     ·exact .inr (.inr ⟨h10, h9, by rw [← hbb, ho]; simp [Ru.brk, h10, h9]⟩)
   have hXE : cC q = #[.int .i64 o, str q.1.text, .int .i64 q.1.n, .int .i64 q.1.box.x0, .int .i64 q.1.box.y0, .int .i64 q.1.box.x1, .int .i64 q.1.box.y1, .slice a3 m3 p3].toList := by unfold cC; rw [hq2, ho]
   rw [hXE] at hrg
   obtain ⟨T, hT⟩ : ∃ x, Ru.txB bb q.1 = x := ⟨_, rfl⟩
   have HT : Hid (T.length ≤ 100000) := Lib.hid (by
    have h1 := Ru.txB_len (HR.out q hmem) bb
    have h2 : Ru.size q.1 ≤ Ru.sizes (ps.map (·.1)) := Ru.size_le (List.mem_map.2 ⟨q, hmem, rfl⟩)
    have h3 := HSZ.out
    rw [← hT]; omega)
   have HIQ : Hid (∀ u, Kp wr u none → Calls Tryz.prog 69 #[.agg #[.int .i64 o, str q.1.text, .int .i64 q.1.n, .int .i64 q.1.box.x0, .int .i64 q.1.box.y0, .int .i64 q.1.box.x1, .int .i64 q.1.box.y1, .slice a3 m3 p3], .bool bb] u fun e w' => e = .returned (str T) ∧ Kp u w' none) := Lib.hid fun u hu => by
    have h := HIH.out q hmem u bb ((HK1.out.trans HK.out).trans hu)
    rw [hT, hXE] at h
    exact h
   obtain ⟨M, hM⟩ : ∃ x, (if k = 0 then [] else L ++ (32 :: Ru.kwAnd ++ [32])) = x := ⟨_, rfl⟩
   have hMl : M.length ≤ 22005 := by rw [← hM]; split <;> simp [Ru.kwAnd] <;> omega
   have HNEW : Hid (Ru.txs Ru.kwAnd 9 ((ps.take (k + 1)).map (·.1)) = M ++ T) := Lib.hid (by
    rw [List.take_succ_eq_append_getElem hltp, hq, List.map_append, ← hM, ← hT, ← hbb]
    split
    ·rename_i h0
     subst h0
     rw [show ((ps.take 0).map (·.1)) ++ [q].map (·.1) = [q.1] by simp, Ru.txs_first (HR.out q hmem)]; simp
    ·rename_i h0
     rw [show [q].map (·.1) = [q.1] from rfl, Ru.txs_snoc (by intro hx; have := congrArg List.length hx; rw [List.length_map, List.length_take, List.length_nil] at this; omega) (fun c hc => by
      obtain ⟨x, hx, rfl⟩ := List.mem_map.1 hc
      exact HR.out x (List.mem_of_mem_take hx)) (HR.out q hmem), HL.out])
   have HS : Hid (∀ V, Kp wr V none → V.cell? ⟨w.heap.size, 7, none⟩ = some (.slice ao n cap) ∧ V.cell? ⟨w.heap.size, 0, none⟩ = some (.int .i64 9) ∧ V.cell? ⟨b, off + k * 8, none⟩ = some (.int .i64 o) ∧ V.rangeAt b (off + k * 8) #[.int .i64 o, str q.1.text, .int .i64 q.1.n, .int .i64 q.1.box.x0, .int .i64 q.1.box.y0, .int .i64 q.1.box.x1, .int .i64 q.1.box.y1, .slice a3 m3 p3].toList ∧ Hid (Kp wr V none)) := Lib.hid fun V hV => by
    have hr : V.rangeAt b (off + k * 8) #[.int .i64 o, str q.1.text, .int .i64 q.1.n, .int .i64 q.1.box.x0, .int .i64 q.1.box.y0, .int .i64 q.1.box.x1, .int .i64 q.1.box.y1, .slice a3 m3 p3].toList := fun j v hv => by rw [hV.below.cell (p := ⟨b, off + k * 8 + j, none⟩) hbl]; exact hrg j v hv
    exact ⟨ckr HB.out (HK.out.trans hV) (by simp) 7 rfl, ckr HB.out (HK.out.trans hV) (by simp) 0 rfl, by simpa using hr 0 _ rfl, hr, Lib.hid hV⟩
   have HM := Lib.hid hM
   have HARM := Lib.hid harm
   subst hao
   clear harm hq hmem hq2 hrg ho hbb hXE hT hM hltp hbl
   go_upto_if 96 with fail
   go_cut [4, 96] from 97 to 99 (fun s4 _ wx => s4 = str M ∧ wx = wr)
   case first =>
    by_cases hk9 : k = 0
    ·subst hk9
     have hM0 : M = [] := by rw [← HM.out]; rfl
     have hL0 : L = [] := by rw [HL.out]; simp [Ru.txs, Ru.writes, Ru.joinB]
     go_wp2_with fail
     go_meet
     exact ⟨by rw [hM0], rfl⟩
    ·have hkp : (0 : Int) < (k : Int) := by omega
     have hM1 : Hid ((⟨L.toArray⟩ : ByteArray) ++ ⟨#[32, 97, 110, 100, 32]⟩ = ⟨M.toArray⟩) := Lib.hid (by rw [← HM.out, if_neg hk9]; exact cat_eq L _)
     clear hk9
     go_wp2_with fail
     go_meet
     exact ⟨ret_strv hM1.out, rfl⟩
   case rest =>
    obtain ⟨rfl, hwx⟩ := hcut
    have hwx := hwx.symm
    subst hwx
    clear hLl
    go_upto_region 27 with fail
    rcases HARM.out with ⟨rfl, rfl⟩ | ⟨rfl, rfl⟩ | ⟨h10, h9, rfl⟩
    ·skip
     obtain ⟨z1, hz1⟩ : ∃ q : List UInt8, M ++ T = q := ⟨_, rfl⟩
     have Bz1 : Hid ((⟨(M).toArray⟩ : ByteArray) ++ (⟨(T).toArray⟩ : ByteArray) = ⟨(z1).toArray⟩) := Lib.hid (by rw [← hz1]; exact ByteArray.mk_append_mk _ _)
     have lbz1 : (T).length ≤ 100000 := HT.out
     have bz1 : z1.length ≤ 200000 := by rw [← hz1, List.length_append]; (try simp only [List.length_cons, List.length_nil]); omega
     have Gz1 : Hid ((9223372036854775807 < (M).length + (T).length) = False) := Lib.hid (eq_false (by (try simp only [List.length_cons, List.length_nil]); omega))
     have Hz1 := Lib.hid hz1
     clear hz1 lbz1
     clear bz1
     refine wp_region_held_drew (S := fun V => V.cell? ⟨w.heap.size, 7, none⟩ = some (.slice (some ⟨b, off, none⟩) n cap) ∧ V.cell? ⟨w.heap.size, 0, none⟩ = some (.int .i64 9) ∧ V.cell? ⟨b, off + k * 8, none⟩ = some (.int .i64 10) ∧ V.rangeAt b (off + k * 8) #[.int .i64 10, str q.1.text, .int .i64 q.1.n, .int .i64 q.1.box.x0, .int .i64 q.1.box.y0, .int .i64 q.1.box.x1, .int .i64 q.1.box.y1, .slice a3 m3 p3].toList ∧ Hid (Kp wr V none)) (by kernel_rfl) (HS.out _ (Kp.refl _ none).drew) (fun hHeld => ?_)
     refine tkH 0 rfl ?_
     try simp only [Act.put, sm]
     refine tkH 1 rfl ?_
     try simp only [Act.put, sm]
     refine tkH 3 rfl ?_
     try simp only [Act.put, sm]
     refine tkH 6 rfl ?_
     try simp only [Act.put, sm]
     refine tkH 8 rfl ?_
     try simp only [Act.put, sm]
     refine tkH 2 rfl ?_
     try simp only [Act.put, sm]
     refine tkH 7 rfl ?_
     try simp only [Act.put, sm]
     refine tkH 4 rfl ?_
     try simp only [Act.put, sm]
     refine tkH 9 rfl ?_
     try simp only [Act.put, sm]
     refine wpAnyH_take (i := 5) rfl (by kernel_rfl) (by kernel_rfl) (by kernel_rfl) (fun _ _ _ h => h) (yieldsIf_load_mid (by rfl) _ _ rfl b (off + k * 8) rfl #[.int .i64 10, str q.1.text, .int .i64 q.1.n, .int .i64 q.1.box.x0, .int .i64 q.1.box.y0, .int .i64 q.1.box.x1, .int .i64 q.1.box.y1, .slice a3 m3 p3].toList _ (fun _ h => h.2.2.2.1) Tryz.underlying40 rfl info40s) (by assumption) ?_
     try simp only [Act.put, sm]
     refine tkH 10 rfl ?_
     try simp only [Act.put, sm]
     refine tkH 11 rfl ?_
     try simp only [Act.put, sm]
     refine tkH 12 rfl ?_
     try simp only [Act.put, sm]
     refine tkH 13 rfl ?_
     try simp only [Act.put, sm]
     refine tkU 14 rfl ?_
     try simp only [Act.put, sm]
     refine tkU 15 rfl ?_
     try simp only [Act.put, sm]
     refine tkU 16 rfl ?_
     try simp only [Act.put, sm]
     refine tkU 17 rfl ?_
     try simp only [Act.put, sm]
     refine tkU 18 rfl ?_
     try simp only [Act.put, sm]
     refine tkU 20 rfl ?_
     try simp only [Act.put, sm]
     refine tkU 19 rfl ?_
     try simp only [Act.put, sm]
     refine tkU 21 rfl ?_
     try simp only [Act.put, sm]
     refine tkU 22 rfl ?_
     try simp only [Act.put, sm]
     refine tkU 23 rfl ?_
     try simp only [Act.put, sm]
     refine tkU 24 rfl ?_
     try simp only [Act.put, sm]
     refine tkU 25 rfl ?_
     try simp only [Act.put, sm]
     refine tkH 26 rfl ?_
     try simp only [Act.put, sm]
     refine wpAnyH_ready (rs := [27]) (by kernel_rfl) (by simp) ?_
     refine AllReadyH.cons (o := _) rfl (fun K hK => ?_) AllReadyH.nil
     have gK := hHeld.2.2.2.2
     clear hHeld
     go_simp
     refine (HIQ.out _ gK.out).mono ?_
     rintro e V1 ⟨rfl, kk⟩
     try go_wp2_with fail
     refine hK.out _ _ (HS.out _ (gK.out.trans kk)) (fun hHeld => ?_)
     clear hK K gK kk
     try simp only [Act.put, sm]
     have ez1 := Bz1.out
     have gz1 := Gz1.out
     refine tkH 28 rfl ?_
     try simp only [Act.put, sm]
     clear gz1 ez1
     refine wpAnyH_ready (rs := [29]) (by kernel_rfl) (by simp) ?_
     refine AllReadyH.cons (o := _) rfl (fun K hK => ?_) AllReadyH.nil
     have gK := hHeld.2.2.2.2
     clear hHeld
     go_simp
     try go_wp2_with fail
     refine hK.out _ _ (HS.out _ gK.out) (fun _ => ?_)
     have KZ := Lib.hid gK.out
     clear hK K gK
     try simp only [Act.put, sm]
     refine wpAnyH_done (by kernel_rfl) ?_ _
     go_wp2_with fail
     go_roundw
     case rel => exact ⟨k + 1, z1, hlt, by go_num, rfl, Lib.hid (by rw [HNEW.out, ← Hz1.out]), Lib.hid (HK.out.trans KZ.out)⟩
     case measure => simp [intOf]; omega
    ·skip
     obtain ⟨z1, hz1⟩ : ∃ q : List UInt8, M ++ T = q := ⟨_, rfl⟩
     have Bz1 : Hid ((⟨(M).toArray⟩ : ByteArray) ++ (⟨(T).toArray⟩ : ByteArray) = ⟨(z1).toArray⟩) := Lib.hid (by rw [← hz1]; exact ByteArray.mk_append_mk _ _)
     have lbz1 : (T).length ≤ 100000 := HT.out
     have bz1 : z1.length ≤ 200000 := by rw [← hz1, List.length_append]; (try simp only [List.length_cons, List.length_nil]); omega
     have Gz1 : Hid ((9223372036854775807 < (M).length + (T).length) = False) := Lib.hid (eq_false (by (try simp only [List.length_cons, List.length_nil]); omega))
     have Hz1 := Lib.hid hz1
     clear hz1 lbz1
     clear bz1
     refine wp_region_held_drew (S := fun V => V.cell? ⟨w.heap.size, 7, none⟩ = some (.slice (some ⟨b, off, none⟩) n cap) ∧ V.cell? ⟨w.heap.size, 0, none⟩ = some (.int .i64 9) ∧ V.cell? ⟨b, off + k * 8, none⟩ = some (.int .i64 9) ∧ V.rangeAt b (off + k * 8) #[.int .i64 9, str q.1.text, .int .i64 q.1.n, .int .i64 q.1.box.x0, .int .i64 q.1.box.y0, .int .i64 q.1.box.x1, .int .i64 q.1.box.y1, .slice a3 m3 p3].toList ∧ Hid (Kp wr V none)) (by kernel_rfl) (HS.out _ (Kp.refl _ none).drew) (fun hHeld => ?_)
     refine tkH 0 rfl ?_
     try simp only [Act.put, sm]
     refine tkH 1 rfl ?_
     try simp only [Act.put, sm]
     refine tkH 3 rfl ?_
     try simp only [Act.put, sm]
     refine tkH 6 rfl ?_
     try simp only [Act.put, sm]
     refine tkH 8 rfl ?_
     try simp only [Act.put, sm]
     refine tkH 2 rfl ?_
     try simp only [Act.put, sm]
     refine tkH 7 rfl ?_
     try simp only [Act.put, sm]
     refine tkH 4 rfl ?_
     try simp only [Act.put, sm]
     refine tkH 9 rfl ?_
     try simp only [Act.put, sm]
     refine wpAnyH_take (i := 5) rfl (by kernel_rfl) (by kernel_rfl) (by kernel_rfl) (fun _ _ _ h => h) (yieldsIf_load_mid (by rfl) _ _ rfl b (off + k * 8) rfl #[.int .i64 9, str q.1.text, .int .i64 q.1.n, .int .i64 q.1.box.x0, .int .i64 q.1.box.y0, .int .i64 q.1.box.x1, .int .i64 q.1.box.y1, .slice a3 m3 p3].toList _ (fun _ h => h.2.2.2.1) Tryz.underlying40 rfl info40s) (by assumption) ?_
     try simp only [Act.put, sm]
     refine tkH 10 rfl ?_
     try simp only [Act.put, sm]
     refine tkH 11 rfl ?_
     try simp only [Act.put, sm]
     refine tkH 12 rfl ?_
     try simp only [Act.put, sm]
     refine tkH 13 rfl ?_
     try simp only [Act.put, sm]
     refine tkH 14 rfl ?_
     try simp only [Act.put, sm]
     refine tkH 15 rfl ?_
     try simp only [Act.put, sm]
     refine tkH 16 rfl ?_
     try simp only [Act.put, sm]
     refine tkH 17 rfl ?_
     try simp only [Act.put, sm]
     refine tkH 18 rfl ?_
     try simp only [Act.put, sm]
     refine tkH 20 rfl ?_
     try simp only [Act.put, sm]
     refine tkH 19 rfl ?_
     try simp only [Act.put, sm]
     refine tkH 21 rfl ?_
     try simp only [Act.put, sm]
     refine tkH 22 rfl ?_
     try simp only [Act.put, sm]
     refine tkH 23 rfl ?_
     try simp only [Act.put, sm]
     refine tkH 24 rfl ?_
     try simp only [Act.put, sm]
     refine tkH 25 rfl ?_
     try simp only [Act.put, sm]
     refine tkH 26 rfl ?_
     try simp only [Act.put, sm]
     refine wpAnyH_ready (rs := [27]) (by kernel_rfl) (by simp) ?_
     refine AllReadyH.cons (o := _) rfl (fun K hK => ?_) AllReadyH.nil
     have gK := hHeld.2.2.2.2
     clear hHeld
     go_simp
     refine (HIQ.out _ gK.out).mono ?_
     rintro e V1 ⟨rfl, kk⟩
     try go_wp2_with fail
     refine hK.out _ _ (HS.out _ (gK.out.trans kk)) (fun hHeld => ?_)
     clear hK K gK kk
     try simp only [Act.put, sm]
     have ez1 := Bz1.out
     have gz1 := Gz1.out
     refine tkH 28 rfl ?_
     try simp only [Act.put, sm]
     clear gz1 ez1
     refine wpAnyH_ready (rs := [29]) (by kernel_rfl) (by simp) ?_
     refine AllReadyH.cons (o := _) rfl (fun K hK => ?_) AllReadyH.nil
     have gK := hHeld.2.2.2.2
     clear hHeld
     go_simp
     try go_wp2_with fail
     refine hK.out _ _ (HS.out _ gK.out) (fun _ => ?_)
     have KZ := Lib.hid gK.out
     clear hK K gK
     try simp only [Act.put, sm]
     refine wpAnyH_done (by kernel_rfl) ?_ _
     go_wp2_with fail
     go_roundw
     case rel => exact ⟨k + 1, z1, hlt, by go_num, rfl, Lib.hid (by rw [HNEW.out, ← Hz1.out]), Lib.hid (HK.out.trans KZ.out)⟩
     case measure => simp [intOf]; omega
    ·skip
     have e9 : (o == 9) = false := by simpa using h9
     have e10 : (o == 10) = false := by simpa using h10
     clear h9 h10
     obtain ⟨z1, hz1⟩ : ∃ q : List UInt8, M ++ T = q := ⟨_, rfl⟩
     have Bz1 : Hid ((⟨(M).toArray⟩ : ByteArray) ++ (⟨(T).toArray⟩ : ByteArray) = ⟨(z1).toArray⟩) := Lib.hid (by rw [← hz1]; exact ByteArray.mk_append_mk _ _)
     have lbz1 : (T).length ≤ 100000 := HT.out
     have bz1 : z1.length ≤ 200000 := by rw [← hz1, List.length_append]; (try simp only [List.length_cons, List.length_nil]); omega
     have Gz1 : Hid ((9223372036854775807 < (M).length + (T).length) = False) := Lib.hid (eq_false (by (try simp only [List.length_cons, List.length_nil]); omega))
     have Hz1 := Lib.hid hz1
     clear hz1 lbz1
     clear bz1
     refine wp_region_held_drew (S := fun V => V.cell? ⟨w.heap.size, 7, none⟩ = some (.slice (some ⟨b, off, none⟩) n cap) ∧ V.cell? ⟨w.heap.size, 0, none⟩ = some (.int .i64 9) ∧ V.cell? ⟨b, off + k * 8, none⟩ = some (.int .i64 o) ∧ V.rangeAt b (off + k * 8) #[.int .i64 o, str q.1.text, .int .i64 q.1.n, .int .i64 q.1.box.x0, .int .i64 q.1.box.y0, .int .i64 q.1.box.x1, .int .i64 q.1.box.y1, .slice a3 m3 p3].toList ∧ Hid (Kp wr V none)) (by kernel_rfl) (HS.out _ (Kp.refl _ none).drew) (fun hHeld => ?_)
     refine tkH 0 rfl ?_
     try simp only [Act.put, sm]
     refine tkH 1 rfl ?_
     try simp only [Act.put, sm]
     refine tkH 3 rfl ?_
     try simp only [Act.put, sm]
     refine tkH 6 rfl ?_
     try simp only [Act.put, sm]
     refine tkH 8 rfl ?_
     try simp only [Act.put, sm]
     refine tkH 2 rfl ?_
     try simp only [Act.put, sm]
     refine tkH 7 rfl ?_
     try simp only [Act.put, sm]
     refine tkH 4 rfl ?_
     try simp only [Act.put, sm]
     refine tkH 9 rfl ?_
     try simp only [Act.put, sm]
     refine wpAnyH_take (i := 5) rfl (by kernel_rfl) (by kernel_rfl) (by kernel_rfl) (fun _ _ _ h => h) (yieldsIf_load_mid (by rfl) _ _ rfl b (off + k * 8) rfl #[.int .i64 o, str q.1.text, .int .i64 q.1.n, .int .i64 q.1.box.x0, .int .i64 q.1.box.y0, .int .i64 q.1.box.x1, .int .i64 q.1.box.y1, .slice a3 m3 p3].toList _ (fun _ h => h.2.2.2.1) Tryz.underlying40 rfl info40s) (by assumption) ?_
     try simp only [Act.put, sm]
     refine tkH 10 rfl ?_
     try simp only [Act.put, sm]
     refine tkH 11 rfl ?_
     try simp only [Act.put, sm]
     refine tkH 12 rfl ?_
     try simp only [Act.put, sm]
     refine tkH 13 rfl ?_
     try simp only [Act.put, sm]
     refine tkH 14 rfl ?_
     try simp only [Act.put, sm]
     refine tkH 15 rfl ?_
     try simp only [Act.put, sm]
     refine tkH 16 rfl ?_
     try simp only [Act.put, sm]
     refine tkH 17 rfl ?_
     try simp only [Act.put, sm]
     refine tkH 18 rfl ?_
     try simp only [Act.put, sm]
     refine tkH 20 rfl ?_
     try simp only [Act.put, sm]
     refine tkH 19 rfl ?_
     try simp only [Act.put, sm]
     refine tkH 21 rfl ?_
     try simp only [Act.put, sm]
     refine tkH 22 rfl ?_
     try simp only [Act.put, sm]
     refine tkH 23 rfl ?_
     try simp only [Act.put, sm]
     refine tkH 24 rfl ?_
     try simp only [Act.put, sm]
     refine tkH 25 rfl ?_
     try simp only [Act.put, sm]
     refine tkH 26 rfl ?_
     try simp only [Act.put, sm]
     refine wpAnyH_ready (rs := [27]) (by kernel_rfl) (by simp) ?_
     refine AllReadyH.cons (o := _) rfl (fun K hK => ?_) AllReadyH.nil
     have gK := hHeld.2.2.2.2
     clear hHeld
     go_simp
     refine (HIQ.out _ gK.out).mono ?_
     rintro e V1 ⟨rfl, kk⟩
     try go_wp2_with fail
     refine hK.out _ _ (HS.out _ (gK.out.trans kk)) (fun hHeld => ?_)
     clear hK K gK kk
     try simp only [Act.put, sm]
     have ez1 := Bz1.out
     have gz1 := Gz1.out
     refine tkH 28 rfl ?_
     try simp only [Act.put, sm]
     clear gz1 ez1
     refine wpAnyH_ready (rs := [29]) (by kernel_rfl) (by simp) ?_
     refine AllReadyH.cons (o := _) rfl (fun K hK => ?_) AllReadyH.nil
     have gK := hHeld.2.2.2.2
     clear hHeld
     go_simp
     try go_wp2_with fail
     refine hK.out _ _ (HS.out _ gK.out) (fun _ => ?_)
     have KZ := Lib.hid gK.out
     clear hK K gK
     try simp only [Act.put, sm]
     refine wpAnyH_done (by kernel_rfl) ?_ _
     go_wp2_with fail
     go_roundw
     case rel => exact ⟨k + 1, z1, hlt, by go_num, rfl, Lib.hid (by rw [HNEW.out, ← Hz1.out]), Lib.hid (HK.out.trans KZ.out)⟩
     case measure => simp [intOf]; omega
  ·obtain rfl : k = n := by omega
   have hall : L = Ru.txs Ru.kwAnd 9 (ps.map (·.1)) := by
    rw [HL.out, List.take_of_length_le (by rw [HN.out]; exact Nat.le_refl _)]
   go_wp2_with fail
   go_ret
   exact ⟨by rw [hall]; rfl, HK1.out.trans HK.out⟩
set_option maxHeartbeats 4000000 in
set_option maxRecDepth 100000 in
theorem condR_l10 (ps : List (Ru.Cond × Value)) (ao : Option Addr) (cap n : Nat) (w : World) (hl : LiesAt 8 cC w ao cap ps) (hn : ps.length = n) (hv : ∀ p ∈ ps, ∃ a m c, p.2 = .slice a m c) (hr : ∀ p ∈ ps, Ru.right p.1 = true) (hsz : Ru.sizes (ps.map (·.1)) ≤ 100)
  (ih : ∀ p ∈ ps, ∀ u bb, Kp w u none → Calls Tryz.prog 69 #[.agg (cC p).toArray, .bool bb] u fun e w' => e = .returned (str (Ru.txB bb p.1)) ∧ Kp u w' none) : Calls Tryz.prog 48 #[.agg #[.int .i64 10, .string ⟨#[]⟩, .int .i64 0, .int .i64 0, .int .i64 0, .int .i64 0, .int .i64 0, .slice ao n cap]] w fun e w' => e = .returned (str (Ru.txs Ru.kwOr 10 (ps.map (·.1)))) ∧ Kp w w' none := by
 have hk1 : Kp w (w.alloc (.cells #[.int .i64 10, .string ⟨#[]⟩, .int .i64 0, .int .i64 0, .int .i64 0, .int .i64 0, .int .i64 0, .slice ao n cap] 40)) none := (Kp.refl _ _).alloc _
 have HB := Lib.hid (heap_alloc_new w (.cells #[.int .i64 10, .string ⟨#[]⟩, .int .i64 0, .int .i64 0, .int .i64 0, .int .i64 0, .int .i64 0, .slice ao n cap] 40))
 have HK1 := Lib.hid hk1
 have HLA := Lib.hid (hl.keep hk1)
 have HIH := Lib.hid ih
 have HV := Lib.hid hv
 have HR := Lib.hid hr
 have HSZ := Lib.hid hsz
 have HN := Lib.hid hn
 have hn0 : (0 : Int) ≤ (n : Int) := by omega
 have hn1 : n ≤ 100 := by have := sizes_len (ps.map (·.1)); rw [List.length_map] at this; omega
 clear hl ih hv hr hsz hk1 hn
 go_enter Tryz.func48, Tryz.ntmps48
 go_wp2_with fail
 generalize hW : w.alloc (.cells #[.int .i64 10, .string ⟨#[]⟩, .int .i64 0, .int .i64 0, .int .i64 0, .int .i64 0, .int .i64 0, .slice ao n cap] 40) = W0 at *
 clear hW
 go_loopw [4, 5] (fun s4 i wr => ∃ (k : Nat) (L : List UInt8), k ≤ n ∧ i = .int .i64 (k : Int) ∧ s4 = str L ∧ Hid (L = Ru.txs Ru.kwOr 10 ((ps.take k).map (·.1))) ∧ Hid (Kp W0 wr none)) (fun _ i _ => n - (intOf i).toNat)
 case atStart => exact ⟨0, [], Nat.zero_le _, rfl, rfl, Lib.hid (by simp [Ru.txs, Ru.writes, Ru.joinB]), Lib.hid (Kp.refl _ _)⟩
 case round =>
  obtain ⟨k, L, hk, rfl, rfl, HL, HK⟩ := hrel
  have hk0 : (0 : Int) ≤ (k : Int) := by omega
  have hc7 : wr.cell? ⟨w.heap.size, 7, none⟩ = some (.slice ao n cap) := ckr HB.out HK.out (by simp) 7 rfl
  have hLl : L.length ≤ 22000 := by
   have h1 := Ru.txs_len (kw := Ru.kwOr) (op := 10) (by decide) (l := (ps.take k).map (·.1)) (fun c hc => by
    obtain ⟨x, hx, rfl⟩ := List.mem_map.1 hc
    exact HR.out x (List.mem_of_mem_take hx))
   have h2 := sizes_le_all (ps := ps) k
   have h3 := HSZ.out
   rw [HL.out]; omega
  by_cases hlt : k < n
  ·have hk1 : (k : Int) < (n : Int) := by omega
   have hltp : k < ps.length := by rw [HN.out]; exact hlt
   obtain ⟨q, hq⟩ : ∃ q, ps[k] = q := ⟨_, rfl⟩
   have hmem : q ∈ ps := by rw [← hq]; exact List.getElem_mem hltp
   obtain ⟨a3, m3, p3, hq2⟩ := HV.out q hmem
   obtain ⟨b, off, hao, hbl, hrg⟩ := (HLA.out.keep HK.out).range k hltp hq
   obtain ⟨o, ho⟩ : ∃ o, q.1.op = o := ⟨_, rfl⟩
   obtain ⟨bb, hbb⟩ : ∃ x, Ru.brk 10 q.1.op = x := ⟨_, rfl⟩
   have harm : (o = 10 ∧ bb = true) ∨ (o ≠ 10 ∧ bb = false) := by
    by_cases h10 : o = 10
    ·subst h10; exact .inl ⟨rfl, by rw [← hbb, ho]; rfl⟩
    ·exact .inr ⟨h10, by rw [← hbb, ho]; simp [Ru.brk, h10]⟩
   have hXE : cC q = #[.int .i64 o, str q.1.text, .int .i64 q.1.n, .int .i64 q.1.box.x0, .int .i64 q.1.box.y0, .int .i64 q.1.box.x1, .int .i64 q.1.box.y1, .slice a3 m3 p3].toList := by unfold cC; rw [hq2, ho]
   rw [hXE] at hrg
   obtain ⟨T, hT⟩ : ∃ x, Ru.txB bb q.1 = x := ⟨_, rfl⟩
   have HT : Hid (T.length ≤ 100000) := Lib.hid (by
    have h1 := Ru.txB_len (HR.out q hmem) bb
    have h2 : Ru.size q.1 ≤ Ru.sizes (ps.map (·.1)) := Ru.size_le (List.mem_map.2 ⟨q, hmem, rfl⟩)
    have h3 := HSZ.out
    rw [← hT]; omega)
   have HIQ : Hid (∀ u, Kp wr u none → Calls Tryz.prog 69 #[.agg #[.int .i64 o, str q.1.text, .int .i64 q.1.n, .int .i64 q.1.box.x0, .int .i64 q.1.box.y0, .int .i64 q.1.box.x1, .int .i64 q.1.box.y1, .slice a3 m3 p3], .bool bb] u fun e w' => e = .returned (str T) ∧ Kp u w' none) := Lib.hid fun u hu => by
    have h := HIH.out q hmem u bb ((HK1.out.trans HK.out).trans hu)
    rw [hT, hXE] at h
    exact h
   obtain ⟨M, hM⟩ : ∃ x, (if k = 0 then [] else L ++ (32 :: Ru.kwOr ++ [32])) = x := ⟨_, rfl⟩
   have hMl : M.length ≤ 22005 := by rw [← hM]; split <;> simp [Ru.kwOr] <;> omega
   have HNEW : Hid (Ru.txs Ru.kwOr 10 ((ps.take (k + 1)).map (·.1)) = M ++ T) := Lib.hid (by
    rw [List.take_succ_eq_append_getElem hltp, hq, List.map_append, ← hM, ← hT, ← hbb]
    split
    ·rename_i h0
     subst h0
     rw [show ((ps.take 0).map (·.1)) ++ [q].map (·.1) = [q.1] by simp, Ru.txs_first (HR.out q hmem)]; simp
    ·rename_i h0
     rw [show [q].map (·.1) = [q.1] from rfl, Ru.txs_snoc (by intro hx; have := congrArg List.length hx; rw [List.length_map, List.length_take, List.length_nil] at this; omega) (fun c hc => by
      obtain ⟨x, hx, rfl⟩ := List.mem_map.1 hc
      exact HR.out x (List.mem_of_mem_take hx)) (HR.out q hmem), HL.out])
   have HS : Hid (∀ V, Kp wr V none → V.cell? ⟨w.heap.size, 7, none⟩ = some (.slice ao n cap) ∧ V.cell? ⟨w.heap.size, 0, none⟩ = some (.int .i64 10) ∧ V.cell? ⟨b, off + k * 8, none⟩ = some (.int .i64 o) ∧ V.rangeAt b (off + k * 8) #[.int .i64 o, str q.1.text, .int .i64 q.1.n, .int .i64 q.1.box.x0, .int .i64 q.1.box.y0, .int .i64 q.1.box.x1, .int .i64 q.1.box.y1, .slice a3 m3 p3].toList ∧ Hid (Kp wr V none)) := Lib.hid fun V hV => by
    have hr : V.rangeAt b (off + k * 8) #[.int .i64 o, str q.1.text, .int .i64 q.1.n, .int .i64 q.1.box.x0, .int .i64 q.1.box.y0, .int .i64 q.1.box.x1, .int .i64 q.1.box.y1, .slice a3 m3 p3].toList := fun j v hv => by rw [hV.below.cell (p := ⟨b, off + k * 8 + j, none⟩) hbl]; exact hrg j v hv
    exact ⟨ckr HB.out (HK.out.trans hV) (by simp) 7 rfl, ckr HB.out (HK.out.trans hV) (by simp) 0 rfl, by simpa using hr 0 _ rfl, hr, Lib.hid hV⟩
   have HM := Lib.hid hM
   have HARM := Lib.hid harm
   subst hao
   clear harm hq hmem hq2 hrg ho hbb hXE hT hM hltp hbl
   go_upto_if 96 with fail
   go_cut [4, 96] from 97 to 99 (fun s4 _ wx => s4 = str M ∧ wx = wr)
   case first =>
    by_cases hk9 : k = 0
    ·subst hk9
     have hM0 : M = [] := by rw [← HM.out]; rfl
     have hL0 : L = [] := by rw [HL.out]; simp [Ru.txs, Ru.writes, Ru.joinB]
     go_wp2_with fail
     go_meet
     exact ⟨by rw [hM0], rfl⟩
    ·have hkp : (0 : Int) < (k : Int) := by omega
     have hM1 : Hid ((⟨L.toArray⟩ : ByteArray) ++ ⟨#[32, 111, 114, 32]⟩ = ⟨M.toArray⟩) := Lib.hid (by rw [← HM.out, if_neg hk9]; exact cat_eq L _)
     clear hk9
     go_wp2_with fail
     go_meet
     exact ⟨ret_strv hM1.out, rfl⟩
   case rest =>
    obtain ⟨rfl, hwx⟩ := hcut
    have hwx := hwx.symm
    subst hwx
    clear hLl
    go_upto_region 27 with fail
    rcases HARM.out with ⟨rfl, rfl⟩ | ⟨h10, rfl⟩
    ·skip
     obtain ⟨z1, hz1⟩ : ∃ q : List UInt8, M ++ T = q := ⟨_, rfl⟩
     have Bz1 : Hid ((⟨(M).toArray⟩ : ByteArray) ++ (⟨(T).toArray⟩ : ByteArray) = ⟨(z1).toArray⟩) := Lib.hid (by rw [← hz1]; exact ByteArray.mk_append_mk _ _)
     have lbz1 : (T).length ≤ 100000 := HT.out
     have bz1 : z1.length ≤ 200000 := by rw [← hz1, List.length_append]; (try simp only [List.length_cons, List.length_nil]); omega
     have Gz1 : Hid ((9223372036854775807 < (M).length + (T).length) = False) := Lib.hid (eq_false (by (try simp only [List.length_cons, List.length_nil]); omega))
     have Hz1 := Lib.hid hz1
     clear hz1 lbz1
     clear bz1
     refine wp_region_held_drew (S := fun V => V.cell? ⟨w.heap.size, 7, none⟩ = some (.slice (some ⟨b, off, none⟩) n cap) ∧ V.cell? ⟨w.heap.size, 0, none⟩ = some (.int .i64 10) ∧ V.cell? ⟨b, off + k * 8, none⟩ = some (.int .i64 10) ∧ V.rangeAt b (off + k * 8) #[.int .i64 10, str q.1.text, .int .i64 q.1.n, .int .i64 q.1.box.x0, .int .i64 q.1.box.y0, .int .i64 q.1.box.x1, .int .i64 q.1.box.y1, .slice a3 m3 p3].toList ∧ Hid (Kp wr V none)) (by kernel_rfl) (HS.out _ (Kp.refl _ none).drew) (fun hHeld => ?_)
     refine tkH 0 rfl ?_
     try simp only [Act.put, sm]
     refine tkH 1 rfl ?_
     try simp only [Act.put, sm]
     refine tkH 3 rfl ?_
     try simp only [Act.put, sm]
     refine tkH 6 rfl ?_
     try simp only [Act.put, sm]
     refine tkH 8 rfl ?_
     try simp only [Act.put, sm]
     refine tkH 2 rfl ?_
     try simp only [Act.put, sm]
     refine tkH 7 rfl ?_
     try simp only [Act.put, sm]
     refine tkH 4 rfl ?_
     try simp only [Act.put, sm]
     refine tkH 9 rfl ?_
     try simp only [Act.put, sm]
     refine wpAnyH_take (i := 5) rfl (by kernel_rfl) (by kernel_rfl) (by kernel_rfl) (fun _ _ _ h => h) (yieldsIf_load_mid (by rfl) _ _ rfl b (off + k * 8) rfl #[.int .i64 10, str q.1.text, .int .i64 q.1.n, .int .i64 q.1.box.x0, .int .i64 q.1.box.y0, .int .i64 q.1.box.x1, .int .i64 q.1.box.y1, .slice a3 m3 p3].toList _ (fun _ h => h.2.2.2.1) Tryz.underlying40 rfl info40s) (by assumption) ?_
     try simp only [Act.put, sm]
     refine tkH 10 rfl ?_
     try simp only [Act.put, sm]
     refine tkH 11 rfl ?_
     try simp only [Act.put, sm]
     refine tkH 12 rfl ?_
     try simp only [Act.put, sm]
     refine tkH 13 rfl ?_
     try simp only [Act.put, sm]
     refine tkU 14 rfl ?_
     try simp only [Act.put, sm]
     refine tkU 15 rfl ?_
     try simp only [Act.put, sm]
     refine tkU 16 rfl ?_
     try simp only [Act.put, sm]
     refine tkU 17 rfl ?_
     try simp only [Act.put, sm]
     refine tkU 18 rfl ?_
     try simp only [Act.put, sm]
     refine tkU 20 rfl ?_
     try simp only [Act.put, sm]
     refine tkU 19 rfl ?_
     try simp only [Act.put, sm]
     refine tkU 21 rfl ?_
     try simp only [Act.put, sm]
     refine tkU 22 rfl ?_
     try simp only [Act.put, sm]
     refine tkU 23 rfl ?_
     try simp only [Act.put, sm]
     refine tkU 24 rfl ?_
     try simp only [Act.put, sm]
     refine tkU 25 rfl ?_
     try simp only [Act.put, sm]
     refine tkH 26 rfl ?_
     try simp only [Act.put, sm]
     refine wpAnyH_ready (rs := [27]) (by kernel_rfl) (by simp) ?_
     refine AllReadyH.cons (o := _) rfl (fun K hK => ?_) AllReadyH.nil
     have gK := hHeld.2.2.2.2
     clear hHeld
     go_simp
     refine (HIQ.out _ gK.out).mono ?_
     rintro e V1 ⟨rfl, kk⟩
     try go_wp2_with fail
     refine hK.out _ _ (HS.out _ (gK.out.trans kk)) (fun hHeld => ?_)
     clear hK K gK kk
     try simp only [Act.put, sm]
     have ez1 := Bz1.out
     have gz1 := Gz1.out
     refine tkH 28 rfl ?_
     try simp only [Act.put, sm]
     clear gz1 ez1
     refine wpAnyH_ready (rs := [29]) (by kernel_rfl) (by simp) ?_
     refine AllReadyH.cons (o := _) rfl (fun K hK => ?_) AllReadyH.nil
     have gK := hHeld.2.2.2.2
     clear hHeld
     go_simp
     try go_wp2_with fail
     refine hK.out _ _ (HS.out _ gK.out) (fun _ => ?_)
     have KZ := Lib.hid gK.out
     clear hK K gK
     try simp only [Act.put, sm]
     refine wpAnyH_done (by kernel_rfl) ?_ _
     go_wp2_with fail
     go_roundw
     case rel => exact ⟨k + 1, z1, hlt, by go_num, rfl, Lib.hid (by rw [HNEW.out, ← Hz1.out]), Lib.hid (HK.out.trans KZ.out)⟩
     case measure => simp [intOf]; omega
    ·skip
     have e10 : (o == 10) = false := by simpa using h10
     clear h10
     obtain ⟨z1, hz1⟩ : ∃ q : List UInt8, M ++ T = q := ⟨_, rfl⟩
     have Bz1 : Hid ((⟨(M).toArray⟩ : ByteArray) ++ (⟨(T).toArray⟩ : ByteArray) = ⟨(z1).toArray⟩) := Lib.hid (by rw [← hz1]; exact ByteArray.mk_append_mk _ _)
     have lbz1 : (T).length ≤ 100000 := HT.out
     have bz1 : z1.length ≤ 200000 := by rw [← hz1, List.length_append]; (try simp only [List.length_cons, List.length_nil]); omega
     have Gz1 : Hid ((9223372036854775807 < (M).length + (T).length) = False) := Lib.hid (eq_false (by (try simp only [List.length_cons, List.length_nil]); omega))
     have Hz1 := Lib.hid hz1
     clear hz1 lbz1
     clear bz1
     refine wp_region_held_drew (S := fun V => V.cell? ⟨w.heap.size, 7, none⟩ = some (.slice (some ⟨b, off, none⟩) n cap) ∧ V.cell? ⟨w.heap.size, 0, none⟩ = some (.int .i64 10) ∧ V.cell? ⟨b, off + k * 8, none⟩ = some (.int .i64 o) ∧ V.rangeAt b (off + k * 8) #[.int .i64 o, str q.1.text, .int .i64 q.1.n, .int .i64 q.1.box.x0, .int .i64 q.1.box.y0, .int .i64 q.1.box.x1, .int .i64 q.1.box.y1, .slice a3 m3 p3].toList ∧ Hid (Kp wr V none)) (by kernel_rfl) (HS.out _ (Kp.refl _ none).drew) (fun hHeld => ?_)
     refine tkH 0 rfl ?_
     try simp only [Act.put, sm]
     refine tkH 1 rfl ?_
     try simp only [Act.put, sm]
     refine tkH 3 rfl ?_
     try simp only [Act.put, sm]
     refine tkH 6 rfl ?_
     try simp only [Act.put, sm]
     refine tkH 8 rfl ?_
     try simp only [Act.put, sm]
     refine tkH 2 rfl ?_
     try simp only [Act.put, sm]
     refine tkH 7 rfl ?_
     try simp only [Act.put, sm]
     refine tkH 4 rfl ?_
     try simp only [Act.put, sm]
     refine tkH 9 rfl ?_
     try simp only [Act.put, sm]
     refine wpAnyH_take (i := 5) rfl (by kernel_rfl) (by kernel_rfl) (by kernel_rfl) (fun _ _ _ h => h) (yieldsIf_load_mid (by rfl) _ _ rfl b (off + k * 8) rfl #[.int .i64 o, str q.1.text, .int .i64 q.1.n, .int .i64 q.1.box.x0, .int .i64 q.1.box.y0, .int .i64 q.1.box.x1, .int .i64 q.1.box.y1, .slice a3 m3 p3].toList _ (fun _ h => h.2.2.2.1) Tryz.underlying40 rfl info40s) (by assumption) ?_
     try simp only [Act.put, sm]
     refine tkH 10 rfl ?_
     try simp only [Act.put, sm]
     refine tkH 11 rfl ?_
     try simp only [Act.put, sm]
     refine tkH 12 rfl ?_
     try simp only [Act.put, sm]
     refine tkH 13 rfl ?_
     try simp only [Act.put, sm]
     refine tkH 14 rfl ?_
     try simp only [Act.put, sm]
     refine tkH 15 rfl ?_
     try simp only [Act.put, sm]
     refine tkH 16 rfl ?_
     try simp only [Act.put, sm]
     refine tkH 17 rfl ?_
     try simp only [Act.put, sm]
     refine tkU 18 rfl ?_
     try simp only [Act.put, sm]
     refine tkU 20 rfl ?_
     try simp only [Act.put, sm]
     refine tkU 19 rfl ?_
     try simp only [Act.put, sm]
     refine tkU 21 rfl ?_
     try simp only [Act.put, sm]
     refine tkU 22 rfl ?_
     try simp only [Act.put, sm]
     refine tkU 23 rfl ?_
     try simp only [Act.put, sm]
     refine tkU 24 rfl ?_
     try simp only [Act.put, sm]
     refine tkH 25 rfl ?_
     try simp only [Act.put, sm]
     refine tkH 26 rfl ?_
     try simp only [Act.put, sm]
     refine wpAnyH_ready (rs := [27]) (by kernel_rfl) (by simp) ?_
     refine AllReadyH.cons (o := _) rfl (fun K hK => ?_) AllReadyH.nil
     have gK := hHeld.2.2.2.2
     clear hHeld
     go_simp
     refine (HIQ.out _ gK.out).mono ?_
     rintro e V1 ⟨rfl, kk⟩
     try go_wp2_with fail
     refine hK.out _ _ (HS.out _ (gK.out.trans kk)) (fun hHeld => ?_)
     clear hK K gK kk
     try simp only [Act.put, sm]
     have ez1 := Bz1.out
     have gz1 := Gz1.out
     refine tkH 28 rfl ?_
     try simp only [Act.put, sm]
     clear gz1 ez1
     refine wpAnyH_ready (rs := [29]) (by kernel_rfl) (by simp) ?_
     refine AllReadyH.cons (o := _) rfl (fun K hK => ?_) AllReadyH.nil
     have gK := hHeld.2.2.2.2
     clear hHeld
     go_simp
     try go_wp2_with fail
     refine hK.out _ _ (HS.out _ gK.out) (fun _ => ?_)
     have KZ := Lib.hid gK.out
     clear hK K gK
     try simp only [Act.put, sm]
     refine wpAnyH_done (by kernel_rfl) ?_ _
     go_wp2_with fail
     go_roundw
     case rel => exact ⟨k + 1, z1, hlt, by go_num, rfl, Lib.hid (by rw [HNEW.out, ← Hz1.out]), Lib.hid (HK.out.trans KZ.out)⟩
     case measure => simp [intOf]; omega
  ·obtain rfl : k = n := by omega
   have hall : L = Ru.txs Ru.kwOr 10 (ps.map (·.1)) := by
    rw [HL.out, List.take_of_length_le (by rw [HN.out]; exact Nat.le_refl _)]
   go_wp2_with fail
   go_ret
   exact ⟨by rw [hall]; rfl, HK1.out.trans HK.out⟩
set_option maxHeartbeats 4000000 in
set_option maxRecDepth 100000 in
theorem brR_walk (d : Ru.Cond) (bb : Bool) (a : Option Addr) (m p : Nat) (w : World) (T : List UInt8) (hT : T.length ≤ 100000) (ih : ∀ u, Kp w u none → Calls Tryz.prog 48 #[.agg #[.int .i64 d.op, str d.text, .int .i64 d.n, .int .i64 d.box.x0, .int .i64 d.box.y0, .int .i64 d.box.x1, .int .i64 d.box.y1, .slice a m p]] u fun e w' => e = .returned (str T) ∧ Kp u w' none) :
  Calls Tryz.prog 69 #[.agg #[.int .i64 d.op, str d.text, .int .i64 d.n, .int .i64 d.box.x0, .int .i64 d.box.y0, .int .i64 d.box.x1, .int .i64 d.box.y1, .slice a m p], .bool bb] w fun e w' => e = .returned (str (if bb then [40, 32] ++ T ++ [32, 41] else T)) ∧ Kp w w' none := by
 have k1 : Kp w (w.alloc (.cells #[.int .i64 d.op, str d.text, .int .i64 d.n, .int .i64 d.box.x0, .int .i64 d.box.y0, .int .i64 d.box.x1, .int .i64 d.box.y1, .slice a m p] 40)) none := (Kp.refl _ _).alloc _
 have HRG := Lib.hid (range_blk (heap_alloc_new w (.cells #[.int .i64 d.op, str d.text, .int .i64 d.n, .int .i64 d.box.x0, .int .i64 d.box.y0, .int .i64 d.box.x1, .int .i64 d.box.y1, .slice a m p] 40)))
 have c48 := ih _ k1
 have K1 := Lib.hid k1
 obtain ⟨T1, hT1⟩ : ∃ x, [40, 32] ++ T = x := ⟨_, rfl⟩
 have e1 : (⟨#[40, 32]⟩ : ByteArray) ++ ⟨T.toArray⟩ = ⟨T1.toArray⟩ := by rw [← hT1]; exact cat_eq [40, 32] T
 have l1 : T1.length ≤ 100002 := by rw [← hT1, List.length_append]; simp; omega
 obtain ⟨T2, hT2⟩ : ∃ x, T1 ++ [32, 41] = x := ⟨_, rfl⟩
 have e2 : (⟨T1.toArray⟩ : ByteArray) ++ ⟨#[32, 41]⟩ = ⟨T2.toArray⟩ := by rw [← hT2]; exact cat_eq T1 [32, 41]
 have HT2 : Hid (T2 = [40, 32] ++ T ++ [32, 41]) := Lib.hid (by rw [← hT2, ← hT1])
 clear ih k1 hT1 hT2
 cases bb with
 | true =>
  go_enter Tryz.func69, Tryz.ntmps69
  go_wp2_with (first | (refine wpList_load_mid (by rfl) 40 _ (by rfl) w.heap.size 0 (by rfl) #[.int .i64 d.op, str d.text, .int .i64 d.n, .int .i64 d.box.x0, .int .i64 d.box.y0, .int .i64 d.box.x1, .int .i64 d.box.y1, .slice a m p].toList _ HRG.out Tryz.underlying40 (by rfl) info40s ?_) | (go_at_call 48; refine c48.mono ?_; clear c48; rintro e w2 ⟨rfl, hk2⟩))
  go_ret
  exact ⟨by rw [HT2.out]; rfl, K1.out.trans hk2⟩
 | false =>
  clear e1 e2 l1
  go_enter Tryz.func69, Tryz.ntmps69
  go_wp2_with (first | (refine wpList_load_mid (by rfl) 40 _ (by rfl) w.heap.size 0 (by rfl) #[.int .i64 d.op, str d.text, .int .i64 d.n, .int .i64 d.box.x0, .int .i64 d.box.y0, .int .i64 d.box.x1, .int .i64 d.box.y1, .slice a m p].toList _ HRG.out Tryz.underlying40 (by rfl) info40s ?_) | (go_at_call 48; refine c48.mono ?_; clear c48; rintro e w2 ⟨rfl, hk2⟩))
  go_ret
  exact ⟨rfl, K1.out.trans hk2⟩
def CondT (c : Ru.Cond) : Prop := ∀ (w : World) (v : Value), Tree w c v → Calls Tryz.prog 48 #[cA c v] w fun e w' => e = .returned (str (Ru.tx c)) ∧ Kp w w' none
theorem brR_any {c : Ru.Cond} (h : CondT c) (hr : Ru.right c = true) (hs : Ru.size c ≤ 20) (w : World) (v : Value) (bb : Bool) (ht : Tree w c v) : Calls Tryz.prog 69 #[cA c v, .bool bb] w fun e w' => e = .returned (str (Ru.txB bb c)) ∧ Kp w w' none := by
 obtain ⟨a, m, p, rfl⟩ := ht.slice
 exact brR_walk c bb a m p w (Ru.tx c) (by have := Ru.tx_len hr hs; omega) (fun u hu => h u _ (ht.keep hu))
theorem condR_any (c : Ru.Cond) : Ru.right c = true → Ru.size c ≤ 20 → CondT c := by
 refine Ru.Cond.ind (P := fun c => Ru.right c = true → Ru.size c ≤ 20 → CondT c) (fun op t n b l ih h hs => ?_) c
 have hf := Ru.right_form h
 generalize hc : Ru.Cond.mk op t n b l = c at hf h hs
 intro w v ht
 obtain ⟨a, m, p, hv⟩ := ht.slice
 subst hv
 cases hf with
 | any => have e : Ru.tx Ru.cAny = Ru.kwAny := (by unfold Ru.tx; rw [Ru.write_any]; rfl); rw [e]; exact condR_l1 a m p w
 | net t h1 => have e : Ru.tx (Ru.leaf 2 t 0 .none) = [110, 101, 116, 32] ++ t := (by unfold Ru.tx; rw [Ru.write_net]; simp [Ru.joinB, Ru.kwNet]); rw [e]; exact condR_l2 a m p w t (by have := Ru.splitR_len h1; omega)
 | cls t h1 => have e : Ru.tx (Ru.leaf 3 t 0 .none) = [99, 108, 97, 115, 115, 32] ++ t := (by unfold Ru.tx; rw [Ru.write_cls]; simp [Ru.joinB, Ru.kwClass]); rw [e]; exact condR_l3 a m p w t (by have := Ru.name_len h1; omega)
 | kind k h1 h2 => have e : Ru.tx (Ru.leaf 4 [] k .none) = [107, 105, 110, 100, 32] ++ Lib.itoa k := (by unfold Ru.tx; rw [Ru.write_kind]; simp [Ru.joinB, Ru.kwKind]); rw [e]; exact condR_l4 a m p w k h1 (by omega)
 | layer k h1 h2 => have e : Ru.tx (Ru.leaf 5 [] k .none) = [108, 97, 121, 101, 114, 32] ++ Lib.itoa k := (by unfold Ru.tx; rw [Ru.write_layer]; simp [Ru.joinB, Ru.kwLayer]); rw [e]; exact condR_l5 a m p w k h1 (by omega)
 | part k h1 h2 => have e : Ru.tx (Ru.leaf 6 [] k .none) = [112, 97, 114, 116, 32] ++ Lib.itoa k := (by unfold Ru.tx; rw [Ru.write_part]; simp [Ru.joinB, Ru.kwPart]); rw [e]; exact condR_l6 a m p w k h1 h2
 | box b h1 => exact condR_l7 a m p w b h1
 | not d hd =>
  injection hc with _ _ _ _ hl
  obtain ⟨ps, e1, e2, e3⟩ := ht.open
  have e1 : [d] = ps.map (·.1) := e1
  obtain ⟨q, rfl⟩ : ∃ q, ps = [q] := by
   have := congrArg List.length e1
   rw [List.length_map] at this
   exact List.length_eq_one_iff.1 this.symm
  have eq : d = q.1 := by simpa using e1
  have hq := e3 q (by simp)
  obtain ⟨a3, m3, p3, hq2⟩ := hq.slice
  obtain ⟨ao, cap, e4, hla⟩ := e2.form
  injection e4 with ea eb ec
  obtain ⟨b, off, hao, hb, hrg⟩ := hla.range 0 (by simp) (p := q) rfl
  have hXE : cC q = #[.int .i64 d.op, str d.text, .int .i64 d.n, .int .i64 d.box.x0, .int .i64 d.box.y0, .int .i64 d.box.x1, .int .i64 d.box.y1, .slice a3 m3 p3].toList := by unfold cC; rw [hq2, eq]
  rw [hXE] at hrg
  subst ea; subst hao
  have em : m = 1 := by simpa using eb
  subst em
  have hds : Ru.size d ≤ 20 := by rw [Ru.size_mk, Ru.sizes] at hs; omega
  have hX : Ru.tx (Ru.Cond.mk 8 [] 0 .none [d]) = [110, 111, 116, 32] ++ Ru.txB (Ru.brk 8 d.op) d := Ru.tx_not hd
  rw [hX]
  refine condR_not w d.op (Ru.brk 8 d.op) ?_ d a3 m3 p3 b (off + 0 * 8) p hrg hb _ (by have := Ru.txB_len hd (Ru.brk 8 d.op); omega) (fun u hu => ?_)
  ·by_cases h9 : d.op = 9
   ·exact .inl ⟨h9, by rw [h9]; rfl⟩
   ·by_cases h10 : d.op = 10
    ·exact .inr (.inl ⟨h10, by rw [h10]; rfl⟩)
    ·exact .inr (.inr ⟨h9, h10, by simp [Ru.brk, h9, h10]⟩)
  ·have ht' : Tree u d (.slice a3 m3 p3) := by have h := hq.keep hu; rw [hq2, ← eq] at h; exact h
   exact brR_any (ih d (by rw [hl]; simp) hd hds) hd hds u _ _ ht'
 | and l2 h2 hr =>
  injection hc with _ _ _ _ hl
  subst hl
  obtain ⟨ps, e1, e2, e3⟩ := ht.open
  have e1 : l = ps.map (·.1) := e1
  obtain ⟨ao, cap, e4, hla⟩ := e2.form
  injection e4 with ea eb ec
  subst ea eb ec
  have hsz : Ru.sizes l ≤ 20 := by rw [Ru.size_mk] at hs; omega
  rw [Ru.tx_and, e1]
  refine condR_l9 ps a p _ w hla rfl (fun q hq => (e3 q hq).slice) (fun q hq => hr _ (by rw [e1]; exact List.mem_map.2 ⟨q, hq, rfl⟩)) (by rw [← e1]; omega) (fun q hq u bb hu => ?_)
  have hm : q.1 ∈ l := by rw [e1]; exact List.mem_map.2 ⟨q, hq, rfl⟩
  have hqs : Ru.size q.1 ≤ 20 := by have := Ru.size_le hm; omega
  exact brR_any (ih q.1 hm (hr _ hm) hqs) (hr _ hm) hqs u q.2 bb ((e3 q hq).keep hu)
 | or l2 h2 hr =>
  injection hc with _ _ _ _ hl
  subst hl
  obtain ⟨ps, e1, e2, e3⟩ := ht.open
  have e1 : l = ps.map (·.1) := e1
  obtain ⟨ao, cap, e4, hla⟩ := e2.form
  injection e4 with ea eb ec
  subst ea eb ec
  have hsz : Ru.sizes l ≤ 20 := by rw [Ru.size_mk] at hs; omega
  rw [Ru.tx_or, e1]
  refine condR_l10 ps a p _ w hla rfl (fun q hq => (e3 q hq).slice) (fun q hq => hr _ (by rw [e1]; exact List.mem_map.2 ⟨q, hq, rfl⟩)) (by rw [← e1]; omega) (fun q hq u bb hu => ?_)
  have hm : q.1 ∈ l := by rw [e1]; exact List.mem_map.2 ⟨q, hq, rfl⟩
  have hqs : Ru.size q.1 ≤ 20 := by have := Ru.size_le hm; omega
  exact brR_any (ih q.1 hm (hr _ hm) hqs) (hr _ hm) hqs u q.2 bb ((e3 q hq).keep hu)
end Go.Proofs.YtnchipahdfbliaaGreatDoor

namespace Go.Proofs.YtnchipahdfbliaaGreatDoor.Ru
open Go Go.Proofs.YtnchipahdfbliaaGreatDoor
open Go.RowKit

theorem line_tx {r : Rule} (h : Good r) : lineOf r = [114, 117, 108, 101, 32] ++ r.name ++ [32] ++ Lib.itoa r.prio ++ [32] ++ whats.getD (r.what - 1).toNat [] ++ [32] ++ Lib.itoa r.value ++ [32, 119, 104, 101, 110, 32] ++ tx r.a ++ (if r.what = 1 then [32, 116, 111, 32] ++ tx r.b else []) ++ [10] := by
 unfold lineOf wordsOf
 have e1 : joinB 32 ([kwRule, r.name, Lib.itoa r.prio, whats.getD (r.what - 1).toNat [], Lib.itoa r.value, kwWhen] ++ write 0 r.a) = [114, 117, 108, 101, 32] ++ r.name ++ [32] ++ Lib.itoa r.prio ++ [32] ++ whats.getD (r.what - 1).toNat [] ++ [32] ++ Lib.itoa r.value ++ [32, 119, 104, 101, 110, 32] ++ tx r.a := by
  rw [join_app 32 _ _ (by simp) (write_ne r.a h.a 0)]
  simp [joinB, kwRule, kwWhen, tx]
 by_cases hw : r.what = 1
 ·rw [if_pos hw, if_pos hw, join_app 32 _ (kwTo :: write 0 r.b) (by simp) (by simp), e1, show kwTo :: write 0 r.b = [kwTo] ++ write 0 r.b from rfl, join_app 32 [kwTo] _ (by simp) (write_ne r.b h.b 0)]
  simp [joinB, kwTo, tx]
 ·rw [if_neg hw, if_neg hw, List.append_nil, e1]; simp
theorem what_len (j : Nat) : (whats.getD j []).length ≤ 5 := by
 rcases Nat.lt_or_ge j 4 with h | h
 ·have h4 : j = 0 ∨ j = 1 ∨ j = 2 ∨ j = 3 := by omega
  rcases h4 with rfl | rfl | rfl | rfl <;> decide
 ·rw [List.getD_eq_getElem?_getD, List.getElem?_eq_none (show whats.length ≤ j from h)]; simp
end Go.Proofs.YtnchipahdfbliaaGreatDoor.Ru

namespace Go.Proofs.YtnchipahdfbliaaGreatDoor
open Go.RowKit

theorem whatsR_at (n : Nat) (h1 : 1 ≤ n) (h4 : n ≤ 4) (w : World) : Calls Tryz.prog 47 #[.int .i64 (n : Int)] w fun e w' => e = .returned (str (Ru.whats.getD (n - 1) [])) ∧ Kp w w' none := by
 have : n = 1 ∨ n = 2 ∨ n = 3 ∨ n = 4 := by omega
 rcases this with rfl | rfl | rfl | rfl
 all_goals
  go_enter Tryz.func47, Tryz.ntmps47
  go_wp2
  go_ret
  exact ⟨rfl, (Kp.refl _ _).alloc _⟩
set_option maxHeartbeats 16000000 in
set_option maxRecDepth 100000 in
theorem textR_any (ps : List RV) (ao : Option Addr) (cap : Nat) (w : World) (hl : LiesAt 20 rC w ao cap ps) (ht : ∀ p ∈ ps, p.Tree w) (hf : ∀ p ∈ ps, Fit p.r) :
  Calls Tryz.prog 16 #[.slice ao ps.length cap] w fun e w' => e = .returned (.tuple #[str (Ru.text (ps.map (·.r))).1, .int .i64 (Ru.text (ps.map (·.r))).2]) ∧ Kp w w' none := by
 have hck := checkR_any ps ao cap ps.length w rfl hl ht hf
 obtain ⟨rs, hrs⟩ : ∃ rs, ps.map (·.r) = rs := ⟨_, rfl⟩
 rw [hrs] at hck ⊢
 have HRS := Lib.hid hrs
 obtain ⟨ck, hc⟩ : ∃ c, Ru.check rs = c := ⟨_, rfl⟩
 rw [hc] at hck
 have HC := Lib.hid hc
 obtain ⟨n, hn⟩ : ∃ n, ps.length = n := ⟨_, rfl⟩
 have HN := Lib.hid hn
 rw [hn] at hck ⊢
 have HL := Lib.hid hl
 have HT := Lib.hid ht
 clear hl ht hf hrs hc
 by_cases hz : ck = 0
 ·subst hz
  have hbig : n ≤ 24 := by have := (Ru.check_good HC.out).1; rw [← HRS.out, List.length_map] at this; omega
  have HGOOD : Hid (∀ r ∈ rs, Ru.Good r) := Lib.hid (Ru.check_good HC.out).2
  have hres : Ru.text rs = (Ru.textOf rs, 0) := by unfold Ru.text; rw [if_pos HC.out]
  rw [hres]
  have hn0 : (0 : Int) ≤ (n : Int) := by omega
  clear hres hn
  go_enter Tryz.func16, Tryz.ntmps16
  go_wp2_with (go_at_call 14; refine hck.mono ?_; rintro e w1 ⟨rfl, hk1⟩)
  have HK1 := Lib.hid hk1
  clear hck hk1
  go_loopw [5, 6] (fun s5 i wr => ∃ (k : Nat) (Z : List UInt8), k ≤ n ∧ i = .int .i64 (k : Int) ∧ s5 = str Z ∧ Hid (Z = Ru.textOf (rs.take k)) ∧ Hid (Kp w wr none)) (fun _ i _ => n - (intOf i).toNat)
  case atStart => exact ⟨0, [], Nat.zero_le _, rfl, rfl, Lib.hid rfl, HK1⟩
  case round =>
   obtain ⟨k, Z, hk, rfl, rfl, HZ, HK⟩ := hrel
   have hk0 : (0 : Int) ≤ (k : Int) := by omega
   by_cases hlt : k < n
   ·have hk1 : (k : Int) < (n : Int) := by omega
    have hltp : k < ps.length := by rw [HN.out]; exact hlt
    obtain ⟨q, hq⟩ : ∃ q, ps[k] = q := ⟨_, rfl⟩
    have hmem : q ∈ ps := by rw [← hq]; exact List.getElem_mem hltp
    have hgood := HGOOD.out q.r (by rw [← HRS.out]; exact List.mem_map.2 ⟨q, hmem, rfl⟩)
    have HGR := Lib.hid hgood
    have htr := HT.out q hmem
    obtain ⟨⟨a1, m1, p1, hva⟩, a2, m2, p2, hvb⟩ := RV.slices htr
    obtain ⟨b, off, hao, _, hrg⟩ := (HL.out.keep HK.out).range k hltp hq
    have HTS : Hid (Ru.textOf (rs.take (k + 1)) = Z ++ Ru.lineOf q.r) := Lib.hid (by
     have h1 : k < rs.length := by rw [← HRS.out, List.length_map]; exact hltp
     rw [HZ.out]
     refine text_take h1 ?_
     have h2 : rs[k] = (ps.map (·.r))[k]'(by rw [List.length_map]; exact hltp) := by congr 1; exact HRS.out.symm
     rw [h2, List.getElem_map, hq])
    have hZ : Z.length ≤ 213600 := by rw [HZ.out]; exact text_take_len HC.out k
    obtain ⟨j, hj⟩ : ∃ j : Nat, q.r.what = (j : Int) + 1 := ⟨(q.r.what - 1).toNat, by have := hgood.what; omega⟩
    have hj4 : j < 4 := by have := hgood.what; omega
    have HRG : Hid (wr.rangeAt b (off + k * 20) #[str q.r.name, .int .i64 q.r.prio, .int .i64 ((j : Int) + 1), .int .i64 q.r.a.op, str q.r.a.text, .int .i64 q.r.a.n, .int .i64 q.r.a.box.x0, .int .i64 q.r.a.box.y0, .int .i64 q.r.a.box.x1, .int .i64 q.r.a.box.y1, .slice a1 m1 p1, .int .i64 q.r.b.op, str q.r.b.text, .int .i64 q.r.b.n, .int .i64 q.r.b.box.x0, .int .i64 q.r.b.box.y0, .int .i64 q.r.b.box.x1, .int .i64 q.r.b.box.y1, .slice a2 m2 p2, .int .i64 q.r.value].toList) := Lib.hid (by
     have e : rC q = #[str q.r.name, .int .i64 q.r.prio, .int .i64 ((j : Int) + 1), .int .i64 q.r.a.op, str q.r.a.text, .int .i64 q.r.a.n, .int .i64 q.r.a.box.x0, .int .i64 q.r.a.box.y0, .int .i64 q.r.a.box.x1, .int .i64 q.r.a.box.y1, .slice a1 m1 p1, .int .i64 q.r.b.op, str q.r.b.text, .int .i64 q.r.b.n, .int .i64 q.r.b.box.x0, .int .i64 q.r.b.box.y0, .int .i64 q.r.b.box.x1, .int .i64 q.r.b.box.y1, .slice a2 m2 p2, .int .i64 q.r.value].toList := by unfold rC cC; rw [hva, hvb, hj]; rfl
     rw [← e]; exact hrg)
    have HTA : Hid (Tree w q.r.a (.slice a1 m1 p1)) := Lib.hid (by have h := htr.1; rw [hva] at h; exact h)
    have HTB : Hid (Tree w q.r.b (.slice a2 m2 p2)) := Lib.hid (by have h := htr.2; rw [hvb] at h; exact h)
    have HJ := Lib.hid hj
    have HI1 : Hid (Wr.I64 q.r.prio) := Lib.hid (by have := hgood.prio; unfold Wr.I64; omega)
    have HN1 : Hid (q.r.prio ≠ -9223372036854775808) := Lib.hid (by have := hgood.prio; omega)
    have HI2 : Hid (Wr.I64 q.r.value) := Lib.hid (by have := hgood.value; unfold Wr.I64; omega)
    have HN2 : Hid (q.r.value ≠ -9223372036854775808) := Lib.hid (by have := hgood.value; omega)
    obtain ⟨wo, hwo⟩ : ∃ x, Ru.whats.getD j [] = x := ⟨_, rfl⟩
    have HWL : Hid (wo.length ≤ 5) := Lib.hid (by rw [← hwo]; exact Ru.what_len j)
    have HWH : Hid (∀ V, Calls Tryz.prog 47 #[.int .i64 ((j : Int) + 1)] V fun e w' => e = .returned (str wo) ∧ Kp V w' none) := Lib.hid fun V => by
     have h := whatsR_at (j + 1) (by omega) (by omega) V
     rw [show ((j + 1 : Nat) : Int) = (j : Int) + 1 by omega, show j + 1 - 1 = j by omega, hwo] at h
     exact h
    have HTA2 : Hid ((Ru.tx q.r.a).length ≤ 4400) := Lib.hid (Ru.tx_len hgood.a hgood.sa)
    have HTB2 : Hid ((Ru.tx q.r.b).length ≤ 4400) := Lib.hid (Ru.tx_len hgood.b hgood.sb)
    have hnm : q.r.name.length ≤ 16 := by have := Ru.name_len hgood.name; omega
    have HLT : Hid (Ru.lineOf q.r = [114, 117, 108, 101, 32] ++ q.r.name ++ [32] ++ Lib.itoa q.r.prio ++ [32] ++ wo ++ [32] ++ Lib.itoa q.r.value ++ [32, 119, 104, 101, 110, 32] ++ Ru.tx q.r.a ++ (if j = 0 then [32, 116, 111, 32] ++ Ru.tx q.r.b else []) ++ [10]) := Lib.hid (by
     rw [Ru.line_tx hgood, hj, show ((j : Int) + 1 - 1).toNat = j by omega, hwo]
     congr 2
     by_cases h0 : j = 0
     ·rw [if_pos h0, if_pos (by omega)]
     ·rw [if_neg h0, if_neg (by omega)])
    subst hao
    clear hgood htr hva hvb hrg hq hmem hltp hj hwo
    go_upto_region 9 with (first | (refine wpList_load_mid (by rfl) 42 _ (by rfl) b (off + k * 20) (by rfl) #[str q.r.name, .int .i64 q.r.prio, .int .i64 ((j : Int) + 1), .int .i64 q.r.a.op, str q.r.a.text, .int .i64 q.r.a.n, .int .i64 q.r.a.box.x0, .int .i64 q.r.a.box.y0, .int .i64 q.r.a.box.x1, .int .i64 q.r.a.box.y1, .slice a1 m1 p1, .int .i64 q.r.b.op, str q.r.b.text, .int .i64 q.r.b.n, .int .i64 q.r.b.box.x0, .int .i64 q.r.b.box.y0, .int .i64 q.r.b.box.x1, .int .i64 q.r.b.box.y1, .slice a2 m2 p2, .int .i64 q.r.value].toList _ HRG.out Tryz.underlying42 (by rfl) info42 ?_) | (refine wpList_store_new (by rfl) 42 _ _ (by rfl) #[.string ⟨#[]⟩, .int .i64 0, .int .i64 0, .int .i64 0, .string ⟨#[]⟩, .int .i64 0, .int .i64 0, .int .i64 0, .int .i64 0, .int .i64 0, .slice none 0 0, .int .i64 0, .string ⟨#[]⟩, .int .i64 0, .int .i64 0, .int .i64 0, .int .i64 0, .int .i64 0, .slice none 0 0, .int .i64 0] #[str q.r.name, .int .i64 q.r.prio, .int .i64 ((j : Int) + 1), .int .i64 q.r.a.op, str q.r.a.text, .int .i64 q.r.a.n, .int .i64 q.r.a.box.x0, .int .i64 q.r.a.box.y0, .int .i64 q.r.a.box.x1, .int .i64 q.r.a.box.y1, .slice a1 m1 p1, .int .i64 q.r.b.op, str q.r.b.text, .int .i64 q.r.b.n, .int .i64 q.r.b.box.x0, .int .i64 q.r.b.box.y0, .int .i64 q.r.b.box.x1, .int .i64 q.r.b.box.y1, .slice a2 m2 p2, .int .i64 q.r.value] 42 (by rfl) (by rfl) rfl info42 (by rfl) (by simp [Value.oneCell']) ?_))
    have HRB := Lib.hid (heap_alloc_new wr (.cells #[str q.r.name, .int .i64 q.r.prio, .int .i64 ((j : Int) + 1), .int .i64 q.r.a.op, str q.r.a.text, .int .i64 q.r.a.n, .int .i64 q.r.a.box.x0, .int .i64 q.r.a.box.y0, .int .i64 q.r.a.box.x1, .int .i64 q.r.a.box.y1, .slice a1 m1 p1, .int .i64 q.r.b.op, str q.r.b.text, .int .i64 q.r.b.n, .int .i64 q.r.b.box.x0, .int .i64 q.r.b.box.y0, .int .i64 q.r.b.box.x1, .int .i64 q.r.b.box.y1, .slice a2 m2 p2, .int .i64 q.r.value] 42))
    have HKR : Hid (Kp wr (wr.alloc (.cells #[str q.r.name, .int .i64 q.r.prio, .int .i64 ((j : Int) + 1), .int .i64 q.r.a.op, str q.r.a.text, .int .i64 q.r.a.n, .int .i64 q.r.a.box.x0, .int .i64 q.r.a.box.y0, .int .i64 q.r.a.box.x1, .int .i64 q.r.a.box.y1, .slice a1 m1 p1, .int .i64 q.r.b.op, str q.r.b.text, .int .i64 q.r.b.n, .int .i64 q.r.b.box.x0, .int .i64 q.r.b.box.y0, .int .i64 q.r.b.box.x1, .int .i64 q.r.b.box.y1, .slice a2 m2 p2, .int .i64 q.r.value] 42)) none) := Lib.hid ((Kp.refl _ _).alloc _)
    generalize hWR : wr.alloc (.cells #[str q.r.name, .int .i64 q.r.prio, .int .i64 ((j : Int) + 1), .int .i64 q.r.a.op, str q.r.a.text, .int .i64 q.r.a.n, .int .i64 q.r.a.box.x0, .int .i64 q.r.a.box.y0, .int .i64 q.r.a.box.x1, .int .i64 q.r.a.box.y1, .slice a1 m1 p1, .int .i64 q.r.b.op, str q.r.b.text, .int .i64 q.r.b.n, .int .i64 q.r.b.box.x0, .int .i64 q.r.b.box.y0, .int .i64 q.r.b.box.x1, .int .i64 q.r.b.box.y1, .slice a2 m2 p2, .int .i64 q.r.value] 42) = W0 at *
    clear hWR
    have HS : Hid (∀ V, Kp W0 V none → V.cell? ⟨wr.heap.size, 0, none⟩ = some (str q.r.name) ∧ V.cell? ⟨wr.heap.size, 1, none⟩ = some (.int .i64 q.r.prio) ∧ V.cell? ⟨wr.heap.size, 2, none⟩ = some (.int .i64 ((j : Int) + 1)) ∧ V.cell? ⟨wr.heap.size, 19, none⟩ = some (.int .i64 q.r.value) ∧ V.rangeAt wr.heap.size 3 #[.int .i64 q.r.a.op, str q.r.a.text, .int .i64 q.r.a.n, .int .i64 q.r.a.box.x0, .int .i64 q.r.a.box.y0, .int .i64 q.r.a.box.x1, .int .i64 q.r.a.box.y1, .slice a1 m1 p1].toList ∧ Hid (Kp W0 V none)) := Lib.hid fun V hV => ⟨ckr HRB.out hV (by simp) 0 rfl, ckr HRB.out hV (by simp) 1 rfl, ckr HRB.out hV (by simp) 2 rfl, ckr HRB.out hV (by simp) 19 rfl, by
     have h := World.rangeAt_of_block (res_kept HRB.out hV (by simp)) 3 8
     simpa using h, Lib.hid hV⟩
    have HCA : Hid (∀ V, Kp W0 V none → Calls Tryz.prog 48 #[.agg #[.int .i64 q.r.a.op, str q.r.a.text, .int .i64 q.r.a.n, .int .i64 q.r.a.box.x0, .int .i64 q.r.a.box.y0, .int .i64 q.r.a.box.x1, .int .i64 q.r.a.box.y1, .slice a1 m1 p1]] V fun e w' => e = .returned (str (Ru.tx q.r.a)) ∧ Kp V w' none) := Lib.hid fun V hV => condR_any q.r.a HGR.out.a HGR.out.sa V _ (HTA.out.keep ((HK.out.trans HKR.out).trans hV))
    have HCB : Hid (∀ V, Kp W0 V none → Calls Tryz.prog 48 #[.agg #[.int .i64 q.r.b.op, str q.r.b.text, .int .i64 q.r.b.n, .int .i64 q.r.b.box.x0, .int .i64 q.r.b.box.y0, .int .i64 q.r.b.box.x1, .int .i64 q.r.b.box.y1, .slice a2 m2 p2]] V fun e w' => e = .returned (str (Ru.tx q.r.b)) ∧ Kp V w' none) := Lib.hid fun V hV => condR_any q.r.b HGR.out.b HGR.out.sb V _ (HTB.out.keep ((HK.out.trans HKR.out).trans hV))
    simp only [Act.put]
    obtain ⟨q1, hq1⟩ : ∃ zz : List UInt8, Z ++ [114, 117, 108, 101, 32] = zz := ⟨_, rfl⟩
    have Bq1 : Hid ((⟨(Z).toArray⟩ : ByteArray) ++ (⟨#[114, 117, 108, 101, 32]⟩ : ByteArray) = ⟨(q1).toArray⟩) := Lib.hid (by rw [← hq1]; exact ByteArray.mk_append_mk _ _)
    have bq1 : q1.length ≤ 213605 := by rw [← hq1, List.length_append]; (try simp only [List.length_cons, List.length_nil]); omega
    have Gq1 : Hid ((9223372036854775807 < (Z).length + 5) = False) := Lib.hid (eq_false (by (try simp only [List.length_cons, List.length_nil]); omega))
    have Hq1 := Lib.hid hq1
    clear hq1 
    obtain ⟨q2, hq2⟩ : ∃ zz : List UInt8, q1 ++ q.r.name = zz := ⟨_, rfl⟩
    have Bq2 : Hid ((⟨(q1).toArray⟩ : ByteArray) ++ (⟨(q.r.name).toArray⟩ : ByteArray) = ⟨(q2).toArray⟩) := Lib.hid (by rw [← hq2]; exact ByteArray.mk_append_mk _ _)
    have bq2 : q2.length ≤ 213621 := by rw [← hq2, List.length_append]; (try simp only [List.length_cons, List.length_nil]); omega
    have Gq2 : Hid ((9223372036854775807 < (q1).length + (q.r.name).length) = False) := Lib.hid (eq_false (by (try simp only [List.length_cons, List.length_nil]); omega))
    have Hq2 := Lib.hid hq2
    clear hq2 
    obtain ⟨q3, hq3⟩ : ∃ zz : List UInt8, q2 ++ [32] = zz := ⟨_, rfl⟩
    have Bq3 : Hid ((⟨(q2).toArray⟩ : ByteArray) ++ (⟨#[32]⟩ : ByteArray) = ⟨(q3).toArray⟩) := Lib.hid (by rw [← hq3]; exact ByteArray.mk_append_mk _ _)
    have bq3 : q3.length ≤ 213622 := by rw [← hq3, List.length_append]; (try simp only [List.length_cons, List.length_nil]); omega
    have Gq3 : Hid ((9223372036854775807 < (q2).length + 1) = False) := Lib.hid (eq_false (by (try simp only [List.length_cons, List.length_nil]); omega))
    have Hq3 := Lib.hid hq3
    clear hq3 
    obtain ⟨q4, hq4⟩ : ∃ zz : List UInt8, q3 ++ Lib.itoa q.r.prio = zz := ⟨_, rfl⟩
    have Bq4 : Hid ((⟨(q3).toArray⟩ : ByteArray) ++ (⟨(Lib.itoa q.r.prio).toArray⟩ : ByteArray) = ⟨(q4).toArray⟩) := Lib.hid (by rw [← hq4]; exact ByteArray.mk_append_mk _ _)
    have lbq4 : (Lib.itoa q.r.prio).length ≤ 20 := Wr.itoa_length q.r.prio HI1.out
    have bq4 : q4.length ≤ 213642 := by rw [← hq4, List.length_append]; (try simp only [List.length_cons, List.length_nil]); omega
    have Gq4 : Hid ((9223372036854775807 < (q3).length + (Lib.itoa q.r.prio).length) = False) := Lib.hid (eq_false (by (try simp only [List.length_cons, List.length_nil]); omega))
    have Hq4 := Lib.hid hq4
    clear hq4 lbq4
    obtain ⟨q5, hq5⟩ : ∃ zz : List UInt8, q4 ++ [32] = zz := ⟨_, rfl⟩
    have Bq5 : Hid ((⟨(q4).toArray⟩ : ByteArray) ++ (⟨#[32]⟩ : ByteArray) = ⟨(q5).toArray⟩) := Lib.hid (by rw [← hq5]; exact ByteArray.mk_append_mk _ _)
    have bq5 : q5.length ≤ 213643 := by rw [← hq5, List.length_append]; (try simp only [List.length_cons, List.length_nil]); omega
    have Gq5 : Hid ((9223372036854775807 < (q4).length + 1) = False) := Lib.hid (eq_false (by (try simp only [List.length_cons, List.length_nil]); omega))
    have Hq5 := Lib.hid hq5
    clear hq5 
    obtain ⟨q6, hq6⟩ : ∃ zz : List UInt8, q5 ++ wo = zz := ⟨_, rfl⟩
    have Bq6 : Hid ((⟨(q5).toArray⟩ : ByteArray) ++ (⟨(wo).toArray⟩ : ByteArray) = ⟨(q6).toArray⟩) := Lib.hid (by rw [← hq6]; exact ByteArray.mk_append_mk _ _)
    have lbq6 : (wo).length ≤ 5 := HWL.out
    have bq6 : q6.length ≤ 213648 := by rw [← hq6, List.length_append]; (try simp only [List.length_cons, List.length_nil]); omega
    have Gq6 : Hid ((9223372036854775807 < (q5).length + (wo).length) = False) := Lib.hid (eq_false (by (try simp only [List.length_cons, List.length_nil]); omega))
    have Hq6 := Lib.hid hq6
    clear hq6 lbq6
    obtain ⟨q7, hq7⟩ : ∃ zz : List UInt8, q6 ++ [32] = zz := ⟨_, rfl⟩
    have Bq7 : Hid ((⟨(q6).toArray⟩ : ByteArray) ++ (⟨#[32]⟩ : ByteArray) = ⟨(q7).toArray⟩) := Lib.hid (by rw [← hq7]; exact ByteArray.mk_append_mk _ _)
    have bq7 : q7.length ≤ 213649 := by rw [← hq7, List.length_append]; (try simp only [List.length_cons, List.length_nil]); omega
    have Gq7 : Hid ((9223372036854775807 < (q6).length + 1) = False) := Lib.hid (eq_false (by (try simp only [List.length_cons, List.length_nil]); omega))
    have Hq7 := Lib.hid hq7
    clear hq7 
    obtain ⟨q8, hq8⟩ : ∃ zz : List UInt8, q7 ++ Lib.itoa q.r.value = zz := ⟨_, rfl⟩
    have Bq8 : Hid ((⟨(q7).toArray⟩ : ByteArray) ++ (⟨(Lib.itoa q.r.value).toArray⟩ : ByteArray) = ⟨(q8).toArray⟩) := Lib.hid (by rw [← hq8]; exact ByteArray.mk_append_mk _ _)
    have lbq8 : (Lib.itoa q.r.value).length ≤ 20 := Wr.itoa_length q.r.value HI2.out
    have bq8 : q8.length ≤ 213669 := by rw [← hq8, List.length_append]; (try simp only [List.length_cons, List.length_nil]); omega
    have Gq8 : Hid ((9223372036854775807 < (q7).length + (Lib.itoa q.r.value).length) = False) := Lib.hid (eq_false (by (try simp only [List.length_cons, List.length_nil]); omega))
    have Hq8 := Lib.hid hq8
    clear hq8 lbq8
    obtain ⟨q9, hq9⟩ : ∃ zz : List UInt8, q8 ++ [32, 119, 104, 101, 110, 32] = zz := ⟨_, rfl⟩
    have Bq9 : Hid ((⟨(q8).toArray⟩ : ByteArray) ++ (⟨#[32, 119, 104, 101, 110, 32]⟩ : ByteArray) = ⟨(q9).toArray⟩) := Lib.hid (by rw [← hq9]; exact ByteArray.mk_append_mk _ _)
    have bq9 : q9.length ≤ 213675 := by rw [← hq9, List.length_append]; (try simp only [List.length_cons, List.length_nil]); omega
    have Gq9 : Hid ((9223372036854775807 < (q8).length + 6) = False) := Lib.hid (eq_false (by (try simp only [List.length_cons, List.length_nil]); omega))
    have Hq9 := Lib.hid hq9
    clear hq9 
    obtain ⟨q10, hq10⟩ : ∃ zz : List UInt8, q9 ++ Ru.tx q.r.a = zz := ⟨_, rfl⟩
    have Bq10 : Hid ((⟨(q9).toArray⟩ : ByteArray) ++ (⟨(Ru.tx q.r.a).toArray⟩ : ByteArray) = ⟨(q10).toArray⟩) := Lib.hid (by rw [← hq10]; exact ByteArray.mk_append_mk _ _)
    have lbq10 : (Ru.tx q.r.a).length ≤ 4400 := HTA2.out
    have bq10 : q10.length ≤ 218075 := by rw [← hq10, List.length_append]; (try simp only [List.length_cons, List.length_nil]); omega
    have Gq10 : Hid ((9223372036854775807 < (q9).length + (Ru.tx q.r.a).length) = False) := Lib.hid (eq_false (by (try simp only [List.length_cons, List.length_nil]); omega))
    have Hq10 := Lib.hid hq10
    clear hq10 lbq10
    clear bq1 bq2 bq3 bq4 bq5 bq6 bq7 bq8 bq9 bq10
    refine wp_region_held_drew (S := fun V => V.cell? ⟨wr.heap.size, 0, none⟩ = some (str q.r.name) ∧ V.cell? ⟨wr.heap.size, 1, none⟩ = some (.int .i64 q.r.prio) ∧ V.cell? ⟨wr.heap.size, 2, none⟩ = some (.int .i64 ((j : Int) + 1)) ∧ V.cell? ⟨wr.heap.size, 19, none⟩ = some (.int .i64 q.r.value) ∧ V.rangeAt wr.heap.size 3 #[.int .i64 q.r.a.op, str q.r.a.text, .int .i64 q.r.a.n, .int .i64 q.r.a.box.x0, .int .i64 q.r.a.box.y0, .int .i64 q.r.a.box.x1, .int .i64 q.r.a.box.y1, .slice a1 m1 p1].toList ∧ Hid (Kp W0 V none)) (by kernel_rfl) (HS.out _ (Kp.refl _ none).drew) (fun hHeld => ?_)
    refine tkH 0 rfl ?_
    try simp only [Act.put, sm]
    refine tkH 2 rfl ?_
    try simp only [Act.put, sm]
    refine tkH 6 rfl ?_
    try simp only [Act.put, sm]
    refine tkH 11 rfl ?_
    try simp only [Act.put, sm]
    refine tkH 16 rfl ?_
    try simp only [Act.put, sm]
    refine tkH 21 rfl ?_
    try simp only [Act.put, sm]
    have eq1 := Bq1.out
    have gq1 := Gq1.out
    refine tkH 1 rfl ?_
    try simp only [Act.put, sm]
    clear gq1 eq1
    refine tkH 3 rfl ?_
    try simp only [Act.put, sm]
    refine tkH 7 rfl ?_
    try simp only [Act.put, sm]
    refine tkH 12 rfl ?_
    try simp only [Act.put, sm]
    refine tkH 17 rfl ?_
    try simp only [Act.put, sm]
    refine wpAnyH_take (i := 22) rfl (by kernel_rfl) (by kernel_rfl) (by kernel_rfl) (fun _ _ _ h => h) (yieldsIf_load_mid (by rfl) _ _ rfl wr.heap.size 3 rfl #[.int .i64 q.r.a.op, str q.r.a.text, .int .i64 q.r.a.n, .int .i64 q.r.a.box.x0, .int .i64 q.r.a.box.y0, .int .i64 q.r.a.box.x1, .int .i64 q.r.a.box.y1, .slice a1 m1 p1].toList _ (fun _ h => h.2.2.2.2.1) Tryz.underlying40 rfl info40s) (by assumption) ?_
    try simp only [Act.put, sm]
    have eq2 := Bq2.out
    have gq2 := Gq2.out
    refine tkH 4 rfl ?_
    try simp only [Act.put, sm]
    clear gq2 eq2
    have eq3 := Bq3.out
    have gq3 := Gq3.out
    refine tkH 5 rfl ?_
    try simp only [Act.put, sm]
    clear gq3 eq3
    refine wpAnyH_ready (rs := [8]) (by kernel_rfl) (by simp) ?_
    refine AllReadyH.cons (o := _) rfl (fun K hK => ?_) AllReadyH.nil
    have gK := hHeld.2.2.2.2.2
    clear hHeld
    go_simp
    refine (dec46_any q.r.prio HI1.out HN1.out _).mono ?_
    rintro e V1 ⟨rfl, kk⟩
    try go_wp2_with fail
    refine hK.out _ _ (HS.out _ (gK.out.trans kk)) (fun hHeld => ?_)
    clear hK K gK kk
    try simp only [Act.put, sm]
    have eq4 := Bq4.out
    have gq4 := Gq4.out
    refine tkH 9 rfl ?_
    try simp only [Act.put, sm]
    clear gq4 eq4
    have eq5 := Bq5.out
    have gq5 := Gq5.out
    refine tkH 10 rfl ?_
    try simp only [Act.put, sm]
    clear gq5 eq5
    refine wpAnyH_ready (rs := [13]) (by kernel_rfl) (by simp) ?_
    refine AllReadyH.cons (o := _) rfl (fun K hK => ?_) AllReadyH.nil
    have gK := hHeld.2.2.2.2.2
    clear hHeld
    go_simp
    refine (HWH.out _).mono ?_
    rintro e V2 ⟨rfl, kk⟩
    try go_wp2_with fail
    refine hK.out _ _ (HS.out _ (gK.out.trans kk)) (fun hHeld => ?_)
    clear hK K gK kk
    try simp only [Act.put, sm]
    have eq6 := Bq6.out
    have gq6 := Gq6.out
    refine tkH 14 rfl ?_
    try simp only [Act.put, sm]
    clear gq6 eq6
    have eq7 := Bq7.out
    have gq7 := Gq7.out
    refine tkH 15 rfl ?_
    try simp only [Act.put, sm]
    clear gq7 eq7
    refine wpAnyH_ready (rs := [18]) (by kernel_rfl) (by simp) ?_
    refine AllReadyH.cons (o := _) rfl (fun K hK => ?_) AllReadyH.nil
    have gK := hHeld.2.2.2.2.2
    clear hHeld
    go_simp
    refine (dec46_any q.r.value HI2.out HN2.out _).mono ?_
    rintro e V3 ⟨rfl, kk⟩
    try go_wp2_with fail
    refine hK.out _ _ (HS.out _ (gK.out.trans kk)) (fun hHeld => ?_)
    clear hK K gK kk
    try simp only [Act.put, sm]
    have eq8 := Bq8.out
    have gq8 := Gq8.out
    refine tkH 19 rfl ?_
    try simp only [Act.put, sm]
    clear gq8 eq8
    have eq9 := Bq9.out
    have gq9 := Gq9.out
    refine tkH 20 rfl ?_
    try simp only [Act.put, sm]
    clear gq9 eq9
    refine wpAnyH_ready (rs := [23]) (by kernel_rfl) (by simp) ?_
    refine AllReadyH.cons (o := _) rfl (fun K hK => ?_) AllReadyH.nil
    have gK := hHeld.2.2.2.2.2
    clear hHeld
    go_simp
    refine (HCA.out _ gK.out).mono ?_
    rintro e V4 ⟨rfl, kk⟩
    try go_wp2_with fail
    refine hK.out _ _ (HS.out _ (gK.out.trans kk)) (fun hHeld => ?_)
    clear hK K gK kk
    try simp only [Act.put, sm]
    have eq10 := Bq10.out
    have gq10 := Gq10.out
    refine tkH 24 rfl ?_
    try simp only [Act.put, sm]
    clear gq10 eq10
    refine wpAnyH_ready (rs := [25]) (by kernel_rfl) (by simp) ?_
    refine AllReadyH.cons (o := _) rfl (fun K hK => ?_) AllReadyH.nil
    have gK := hHeld.2.2.2.2.2
    clear hHeld
    go_simp
    try go_wp2_with fail
    refine hK.out _ _ (HS.out _ gK.out) (fun _ => ?_)
    have KZ := Lib.hid gK.out
    clear hK K gK
    try simp only [Act.put, sm]
    refine wpAnyH_done (by kernel_rfl) ?_ _
    have HX := Lib.hid (HK.out.trans (HKR.out.trans KZ.out))
    have c2 := (HS.out _ KZ.out).2.2.1
    have HQE : Hid (q10 = Z ++ [114, 117, 108, 101, 32] ++ q.r.name ++ [32] ++ Lib.itoa q.r.prio ++ [32] ++ wo ++ [32] ++ Lib.itoa q.r.value ++ [32, 119, 104, 101, 110, 32] ++ Ru.tx q.r.a) := Lib.hid (by rw [← Hq10.out, ← Hq9.out, ← Hq8.out, ← Hq7.out, ← Hq6.out, ← Hq5.out, ← Hq4.out, ← Hq3.out, ← Hq2.out, ← Hq1.out])
    have lq : q10.length ≤ 230000 := by
     have l1 := Wr.itoa_length q.r.prio HI1.out
     have l2 := Wr.itoa_length q.r.value HI2.out
     have l3 := HWL.out
     have l4 := HTA2.out
     rw [HQE.out]; simp only [List.length_append, List.length_cons, List.length_nil]; omega
    clear Hq1 Bq1 Gq1 Hq2 Bq2 Gq2 Hq3 Bq3 Gq3 Hq4 Bq4 Gq4 Hq5 Bq5 Gq5 Hq6 Bq6 Gq6 Hq7 Bq7 Gq7 Hq8 Bq8 Gq8 Hq9 Bq9 Gq9 Hq10 Bq10 Gq10
    by_cases hj0 : j = 0
    ·subst hj0
     obtain ⟨T, hT⟩ : ∃ x, Ru.tx q.r.b = x := ⟨_, rfl⟩
     rw [hT] at HCB HTB2 HLT
     have hTl := HTB2.out
     obtain ⟨y1, hy1⟩ : ∃ x, q10 ++ [32, 116, 111, 32] = x := ⟨_, rfl⟩
     have e1 : (⟨q10.toArray⟩ : ByteArray) ++ ⟨#[32, 116, 111, 32]⟩ = ⟨y1.toArray⟩ := by rw [← hy1]; exact cat_eq q10 _
     have l1 : y1.length ≤ 230004 := by rw [← hy1, List.length_append]; simp; omega
     obtain ⟨y2, hy2⟩ : ∃ x, y1 ++ T = x := ⟨_, rfl⟩
     have e2 : (⟨y1.toArray⟩ : ByteArray) ++ ⟨T.toArray⟩ = ⟨y2.toArray⟩ := by rw [← hy2]; exact cat_eq y1 T
     have l2 : y2.length ≤ 240000 := by rw [← hy2, List.length_append]; omega
     obtain ⟨y3, hy3⟩ : ∃ x, y2 ++ [10] = x := ⟨_, rfl⟩
     have e3 : (⟨y2.toArray⟩ : ByteArray) ++ ⟨#[10]⟩ = ⟨y3.toArray⟩ := by rw [← hy3]; exact cat_eq y2 _
     have HY : Hid (y3 = Ru.textOf (rs.take (k + 1))) := Lib.hid (by rw [HTS.out, HLT.out, if_pos rfl, ← hy3, ← hy2, ← hy1, HQE.out]; simp)
     have HRG2 : Hid (V4.rangeAt wr.heap.size 11 #[.int .i64 q.r.b.op, str q.r.b.text, .int .i64 q.r.b.n, .int .i64 q.r.b.box.x0, .int .i64 q.r.b.box.y0, .int .i64 q.r.b.box.x1, .int .i64 q.r.b.box.y1, .slice a2 m2 p2].toList) := Lib.hid (by
      have h := World.rangeAt_of_block (res_kept HRB.out KZ.out (by simp)) 11 8
      simpa using h)
     have cB := HCB.out V4 KZ.out
     clear hT hy1 hy2 hy3 HQE HLT HTS hZ
     go_wp2_with (first | (refine wpList_load_mid (by rfl) 40 _ (by rfl) wr.heap.size 11 (by rfl) #[.int .i64 q.r.b.op, str q.r.b.text, .int .i64 q.r.b.n, .int .i64 q.r.b.box.x0, .int .i64 q.r.b.box.y0, .int .i64 q.r.b.box.x1, .int .i64 q.r.b.box.y1, .slice a2 m2 p2].toList _ HRG2.out Tryz.underlying40 (by rfl) info40s ?_) | (go_at_call 48; refine cB.mono ?_; clear cB; rintro e w5 ⟨rfl, k5⟩))
     go_roundw
     case rel => exact ⟨k + 1, y3, hlt, by go_num, rfl, HY, Lib.hid (HX.out.trans k5)⟩
     case measure => simp [intOf]; omega
    ·have h1 : ((j : Int) + 1 == 1) = false := by simp; omega
     obtain ⟨y3, hy3⟩ : ∃ x, q10 ++ [10] = x := ⟨_, rfl⟩
     have e3 : (⟨q10.toArray⟩ : ByteArray) ++ ⟨#[10]⟩ = ⟨y3.toArray⟩ := by rw [← hy3]; exact cat_eq q10 _
     have HY : Hid (y3 = Ru.textOf (rs.take (k + 1))) := Lib.hid (by rw [HTS.out, HLT.out, if_neg hj0, ← hy3, HQE.out]; simp)
     clear hy3 HQE HLT HTS hZ
     go_wp2_with fail
     go_roundw
     case rel => exact ⟨k + 1, y3, hlt, by go_num, rfl, HY, HX⟩
     case measure => simp [intOf]; omega
   ·obtain rfl : k = n := by omega
    have hall : Z = Ru.textOf rs := by rw [HZ.out, List.take_of_length_le (by rw [← HRS.out, List.length_map, HN.out]; exact Nat.le_refl _)]
    go_wp2_with fail
    go_ret2
    exact ⟨by rw [hall]; rfl, HK.out⟩
 ·have hzb : (ck != 0) = true := by simpa using hz
  have hres : Ru.text rs = ([], ck) := by unfold Ru.text; rw [if_neg (by rw [HC.out]; exact hz), HC.out]
  rw [hres]
  clear hres hn hz
  go_enter Tryz.func16, Tryz.ntmps16
  go_wp2_with (go_at_call 14; refine hck.mono ?_; rintro e w1 ⟨rfl, hk1⟩)
  go_ret2
  exact ⟨rfl, hk1⟩
end Go.Proofs.YtnchipahdfbliaaGreatDoor
