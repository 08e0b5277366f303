/- The laws' example: the text with a line changed, the failures, the holes. No condition but the model's bounds.
  The laws' example in memory. No condition.
  The laws' sanity (func 10). Conditions: none but the model's bounds. -/
import Derived.Test.YtljjbdbgedmadaaGreatDoorRw
import Derived.Test.YtljjbdbgedmadaaGreatDoorDrA
import Derived.Test.YtljjbdbgedmadaaGreatDoorSd
import Derived.Test.YtljjbdbgedmadaaGreatDoorWt
set_option maxHeartbeats 16000000
set_option maxRecDepth 100000
namespace Go.Proofs.YtljjbdbgedmadaaGreatDoor
open Go.RowKit
theorem fails_any (s : List UInt8) (n e : Int) (h : Dl.Fails s n e) (w : World) (he : Env w) (hs : s.length ≤ 1000000000) : Calls Tryz.prog 30 #[str s, I6 n, I6 e] w fun E w' => E = .returned (.bool true) ∧ Kp w w' none := by
 have HC := read_any s w he hs
 rw [show Dl.read s = ([], n, e) from h] at HC
 have HR : Hid (Calls Tryz.prog 16 #[str s] w fun E w' => (∃ ao cap, E = .returned (.tuple #[.slice ao 0 cap, I6 n, I6 e])) ∧ Kp w w' none) := oh (HC.mono fun E w' hh => by
  obtain ⟨k, ao, cap, ts, hts, hE, _, _⟩ := hh
  have : ts = [] := by simpa using hts
  subst this; exact ⟨⟨ao, cap, hE⟩, k⟩)
 clear HC h he hs; go_enter Tryz.func30, Tryz.ntmps30
 go_wp2_with (go_at_call 16; refine HR.out.mono ?_; rintro E w1 ⟨⟨ao, cap, rfl⟩, k1⟩)
 go_ret
 exact ⟨rfl, k1⟩
def lineAt (no : Nat) (text : List UInt8) (x : List UInt8 × Nat) : List UInt8 := let s := if x.2 + 1 = no then text else x.1; if s = [] then [] else Dl.ln s
def fileTo (no : Nat) (text : List UInt8) (k : Nat) : List UInt8 := (Dl.exL.zipIdx.take k).flatMap (lineAt no text)
theorem fileTo_all (no : Nat) (text : List UInt8) : fileTo no text 16 = Dl.exFile no text := by
 unfold fileTo Dl.exFile
 rw [List.take_of_length_le (by rw [List.length_zipIdx]; decide)]
 rfl
theorem fileTo_step (no : Nat) (text : List UInt8) {k : Nat} (hk : k < 16) : fileTo no text (k + 1) = fileTo no text k ++ lineAt no text (Dl.exL[k]'hk, k) := by
 unfold fileTo
 rw [List.take_succ_eq_append_getElem (by rw [List.length_zipIdx]; exact hk), List.flatMap_append]
 simp only [List.getElem_zipIdx, List.flatMap_cons, List.flatMap_nil, List.append_nil, Nat.zero_add]
 rfl
theorem exL_len : ∀ k, (hk : k < 16) → (Dl.exL[k]'hk).length ≤ 100 := by decide
theorem line_len (no : Nat) (text : List UInt8) (ht : text.length ≤ 100) {k : Nat} (hk : k < 16) : (lineAt no text (Dl.exL[k]'hk, k)).length ≤ 101 := by
 have := exL_len k hk
 unfold lineAt Dl.ln; dsimp only
 by_cases h1 : k + 1 = no
 ·rw [if_pos h1]
  split <;> simp <;> omega
 ·rw [if_neg h1]
  split <;> simp <;> omega
theorem fileTo_len (no : Nat) (text : List UInt8) (ht : text.length ≤ 100) : ∀ k, k ≤ 16 → (fileTo no text k).length ≤ 101 * k
 | 0, _ => by simp [fileTo]
 | k + 1, h => by
  rw [fileTo_step no text (by omega), List.length_append]; have := fileTo_len no text ht k (by omega)
  have := line_len no text ht (show k < 16 by omega)
  omega
theorem add_str (a b c : List UInt8) (h : a ++ b = c) : (⟨a.toArray⟩ ++ ⟨b.toArray⟩ : ByteArray) = ⟨c.toArray⟩ := by rw [← h]; exact ByteArray.mk_append_mk _ _
def FlRel (no : Nat) (text : List UInt8) (N : Nat) (w : World) (acc iv : Value) (wr : World) : Prop := ∃ k : Nat, k ≤ 16 ∧ iv = I6 (k : Int) ∧ acc = str (fileTo no text k) ∧ wr.heap[N]? = some (.cells (Dl.exL.map str).toArray 9 (0, 0)) ∧ Kp w wr none
theorem ex_cell {k : Nat} (hk : k < 16) : (Dl.exL.map str).toArray[k]? = some (str (Dl.exL[k]'hk)) := by
 simp [List.getElem?_map, List.getElem?_eq_getElem (show k < Dl.exL.length from hk)]
 rfl
theorem file_any (no : Int) (nn : Nat) (hno : no = (nn : Int)) (text : List UInt8) (ht : text.length ≤ 100) (w : World) : Calls Tryz.prog 29 #[I6 no, str text] w fun E w' => E = .returned (str (Dl.exFile nn text)) ∧ Kp w w' none := by
 subst hno; have HT := oh ht
 have K1 : Hid (Kp w (w.alloc (.cells #[.string ⟨#[77, 52, 56]⟩, .string ⟨#[59, 101, 116, 99, 104, 97, 110, 116]⟩, .string ⟨#[84, 49, 67, 52]⟩, .string ⟨#[84, 50, 67, 54]⟩, .string ⟨#[37]⟩, .string ⟨#[59, 115, 112, 97, 110, 32, 49, 32, 50, 32, 112, 108, 97, 116, 101, 100]⟩, .string ⟨#[84, 49]⟩, .string ⟨#[88, 53, 89, 45, 51]⟩, .string ⟨#[59, 115, 112, 97, 110, 32, 49, 32, 50, 32, 112, 108, 97, 105, 110]⟩, .string ⟨#[84, 50]⟩, .string ⟨#[71, 48, 48, 88, 48, 89, 48]⟩, .string ⟨#[77, 49, 53]⟩, .string ⟨#[71, 48, 49, 88, 57, 89, 48]⟩, .string ⟨#[71, 48, 51, 88, 49, 52, 89, 53, 73, 48, 74, 53]⟩, .string ⟨#[77, 49, 54]⟩, .string ⟨#[77, 51, 48]⟩] 9)) none) := oh ((Kp.refl w none).alloc _)
 have HN : Hid ((w.alloc (.cells #[.string ⟨#[77, 52, 56]⟩, .string ⟨#[59, 101, 116, 99, 104, 97, 110, 116]⟩, .string ⟨#[84, 49, 67, 52]⟩, .string ⟨#[84, 50, 67, 54]⟩, .string ⟨#[37]⟩, .string ⟨#[59, 115, 112, 97, 110, 32, 49, 32, 50, 32, 112, 108, 97, 116, 101, 100]⟩, .string ⟨#[84, 49]⟩, .string ⟨#[88, 53, 89, 45, 51]⟩, .string ⟨#[59, 115, 112, 97, 110, 32, 49, 32, 50, 32, 112, 108, 97, 105, 110]⟩, .string ⟨#[84, 50]⟩, .string ⟨#[71, 48, 48, 88, 48, 89, 48]⟩, .string ⟨#[77, 49, 53]⟩, .string ⟨#[71, 48, 49, 88, 57, 89, 48]⟩, .string ⟨#[71, 48, 51, 88, 49, 52, 89, 53, 73, 48, 74, 53]⟩, .string ⟨#[77, 49, 54]⟩, .string ⟨#[77, 51, 48]⟩] 9)).heap[w.heap.size]? = some (.cells (Dl.exL.map str).toArray 9 (0, 0))) := oh (heap_alloc_new w _)
 clear ht; go_enter Tryz.func29, Tryz.ntmps29
 go_wp2_with fail
 generalize w.alloc (.cells #[.string ⟨#[77, 52, 56]⟩, .string ⟨#[59, 101, 116, 99, 104, 97, 110, 116]⟩, .string ⟨#[84, 49, 67, 52]⟩, .string ⟨#[84, 50, 67, 54]⟩, .string ⟨#[37]⟩, .string ⟨#[59, 115, 112, 97, 110, 32, 49, 32, 50, 32, 112, 108, 97, 116, 101, 100]⟩, .string ⟨#[84, 49]⟩, .string ⟨#[88, 53, 89, 45, 51]⟩, .string ⟨#[59, 115, 112, 97, 110, 32, 49, 32, 50, 32, 112, 108, 97, 105, 110]⟩, .string ⟨#[84, 50]⟩, .string ⟨#[71, 48, 48, 88, 48, 89, 48]⟩, .string ⟨#[77, 49, 53]⟩, .string ⟨#[71, 48, 49, 88, 57, 89, 48]⟩, .string ⟨#[71, 48, 51, 88, 49, 52, 89, 53, 73, 48, 74, 53]⟩, .string ⟨#[77, 49, 54]⟩, .string ⟨#[77, 51, 48]⟩] 9) = X at *
 obtain ⟨N, hN⟩ : ∃ q, w.heap.size = q := ⟨_, rfl⟩
 rw [hN] at HN ⊢; clear hN; go_loopw [6, 12] (fun acc iv wr => FlRel nn text N w acc iv wr) (fun _ iv _ => 16 - (intOf iv).toNat)
 case atStart => exact ⟨0, by omega, rfl, rfl, HN.out, K1.out⟩
 case round =>
  obtain ⟨k, hk, rfl, rfl, hb, hK⟩ := hrel; have HB := oh hb; have HK := oh hK
  have hk0 : (0 : Int) ≤ (k : Int) := Int.natCast_nonneg _; have hal := fileTo_len nn text HT.out k hk
  clear hK
  by_cases h16 : k < 16
  ·have hk1 : (k : Int) < 16 := by omega
   have c0 : wr.cell? ⟨N, k, none⟩ = some (str (Dl.exL[k]'h16)) := hcell hb k (ex_cell h16)
   have hll := exL_len k h16
   have htl := HT.out; have HSTEP := oh (fileTo_step nn text h16)
   obtain ⟨l, hl⟩ : ∃ l, (Dl.exL[k]'h16) = l := ⟨_, rfl⟩
   obtain ⟨acc, hacc⟩ : ∃ acc, fileTo nn text k = acc := ⟨_, rfl⟩
   rw [hl] at c0 hll HSTEP; rw [hacc] at hal HSTEP ⊢; have hal2 : acc.length ≤ 1616 := by omega
   clear hb hl hacc hal; have hal := hal2; clear hal2
   by_cases h1 : k + 1 = nn
   ·have hq : ((k : Int) + 1 == (nn : Int)) = true := by simp; omega
    by_cases he : text = []
    ·have HE := oh he; have hs : (text == ([] : List UInt8)) = true := by simpa using he
     clear he; have HST : Hid (fileTo nn text (k + 1) = acc) := oh (by rw [HSTEP.out]; unfold lineAt; dsimp only; rw [if_pos h1, if_pos HE.out, List.append_nil])
     clear hal hll htl; go_wp2_with fail
     have HREL : Hid (FlRel nn text N w (str acc) (I6 ((k : Int) + 1)) wr) := oh ⟨k + 1, by omega, by push_cast; rfl, by rw [HST.out], HB.out, HK.out⟩
     have HME : 16 - (intOf (I6 ((k : Int) + 1))).toNat < 16 - (intOf (I6 (k : Int))).toNat := by simp [intOf]; omega
     first | exact ⟨HREL.out, HME⟩ | (go_roundw; all_goals first | exact HREL.out | exact HME)
    ·have HE := oh he; have hs : (text == ([] : List UInt8)) = false := by simpa using he
     clear he; obtain ⟨z1, hz1⟩ : ∃ z, acc ++ text = z := ⟨_, rfl⟩
     obtain ⟨z2, hz2⟩ : ∃ z, z1 ++ [10] = z := ⟨_, rfl⟩
     have e1 : (⟨acc.toArray⟩ ++ ⟨(text).toArray⟩ : ByteArray) = ⟨z1.toArray⟩ := add_str _ _ _ hz1
     have e2 : (⟨z1.toArray⟩ ++ ⟨#[10]⟩ : ByteArray) = ⟨z2.toArray⟩ := add_str z1 [10] z2 hz2
     have g1 : (9223372036854775807 < acc.length + (text).length) = False := eq_false (by omega)
     have hl1 : z1.length ≤ 1717 := by rw [← hz1, List.length_append]; omega
     have g2 : (9223372036854775807 < z1.length + 1) = False := eq_false (by omega)
     have HST : Hid (fileTo nn text (k + 1) = z2) := oh (by rw [HSTEP.out, ← hz2, ← hz1]; unfold lineAt Dl.ln; dsimp only; rw [if_pos h1, if_neg HE.out, List.append_assoc])
     clear hz1 hz2 hl1; clear hal hll htl; go_wp2_with fail
     have HREL : Hid (FlRel nn text N w (str z2) (I6 ((k : Int) + 1)) wr) := oh ⟨k + 1, by omega, by push_cast; rfl, by rw [HST.out], HB.out, HK.out⟩
     have HME : 16 - (intOf (I6 ((k : Int) + 1))).toNat < 16 - (intOf (I6 (k : Int))).toNat := by simp [intOf]; omega
     first | exact ⟨HREL.out, HME⟩ | (go_roundw; all_goals first | exact HREL.out | exact HME)
   ·have hq : ((k : Int) + 1 == (nn : Int)) = false := by simp; omega
    by_cases he : l = []
    ·have HE := oh he; have hs : (l == ([] : List UInt8)) = true := by simpa using he
     clear he; have HST : Hid (fileTo nn text (k + 1) = acc) := oh (by rw [HSTEP.out]; unfold lineAt; dsimp only; rw [if_neg h1, if_pos HE.out, List.append_nil])
     clear hal hll htl; go_wp2_with fail
     have HREL : Hid (FlRel nn text N w (str acc) (I6 ((k : Int) + 1)) wr) := oh ⟨k + 1, by omega, by push_cast; rfl, by rw [HST.out], HB.out, HK.out⟩
     have HME : 16 - (intOf (I6 ((k : Int) + 1))).toNat < 16 - (intOf (I6 (k : Int))).toNat := by simp [intOf]; omega
     first | exact ⟨HREL.out, HME⟩ | (go_roundw; all_goals first | exact HREL.out | exact HME)
    ·have HE := oh he; have hs : (l == ([] : List UInt8)) = false := by simpa using he
     clear he; obtain ⟨z1, hz1⟩ : ∃ z, acc ++ l = z := ⟨_, rfl⟩
     obtain ⟨z2, hz2⟩ : ∃ z, z1 ++ [10] = z := ⟨_, rfl⟩
     have e1 : (⟨acc.toArray⟩ ++ ⟨(l).toArray⟩ : ByteArray) = ⟨z1.toArray⟩ := add_str _ _ _ hz1
     have e2 : (⟨z1.toArray⟩ ++ ⟨#[10]⟩ : ByteArray) = ⟨z2.toArray⟩ := add_str z1 [10] z2 hz2
     have g1 : (9223372036854775807 < acc.length + (l).length) = False := eq_false (by omega)
     have hl1 : z1.length ≤ 1717 := by rw [← hz1, List.length_append]; omega
     have g2 : (9223372036854775807 < z1.length + 1) = False := eq_false (by omega)
     have HST : Hid (fileTo nn text (k + 1) = z2) := oh (by rw [HSTEP.out, ← hz2, ← hz1]; unfold lineAt Dl.ln; dsimp only; rw [if_neg h1, if_neg HE.out, List.append_assoc])
     clear hz1 hz2 hl1; clear hal hll htl; go_wp2_with fail
     have HREL : Hid (FlRel nn text N w (str z2) (I6 ((k : Int) + 1)) wr) := oh ⟨k + 1, by omega, by push_cast; rfl, by rw [HST.out], HB.out, HK.out⟩
     have HME : 16 - (intOf (I6 ((k : Int) + 1))).toNat < 16 - (intOf (I6 (k : Int))).toNat := by simp [intOf]; omega
     first | exact ⟨HREL.out, HME⟩ | (go_roundw; all_goals first | exact HREL.out | exact HME)
  ·have hk2 : k = 16 := by omega
   subst hk2; have HF := oh (fileTo_all nn text); rw [show ((16 : Nat) : Int) = 16 from rfl]; go_wp2_with fail
   go_ret
   exact ⟨by (try rw [HF.out]); rfl, HK.out⟩
theorem blk_lies {α : Type} {f : α → List Value} {m : Nat} (hm : ∀ x, (f x).length = m) {w : World} {g : Nat} {T : TypeId} {cs : Array Value} (xs : List α) (hb : w.heap[g]? = some (.cells cs T (0, 0))) (hc : cs.toList = xs.flatMap f) (hl : xs.length ≤ 1000000) : LiesAt m f w (some ⟨g, 0, none⟩) xs.length xs := by
 have hsz : cs.size = xs.length * m := by
  rw [← Array.length_toList, hc]; clear hc hb hl
  induction xs with
  | nil => simp
  | cons x xs ih => rw [List.flatMap_cons, List.length_append, hm, ih, List.length_cons, Nat.succ_mul]; omega
 exact (own_lies (base := 0) (e := T) hm ⟨by rw [← hc, Array.length_toList, hsz], .inr ⟨g, xs.length, cs, rfl, Nat.zero_le _, hb, Nat.le_refl _, by unfold maxLen; omega, hsz, by rw [← hc, List.take_of_length_le (by rw [Array.length_toList, hsz]; exact Nat.le_refl _)]⟩⟩).2
theorem disc_any (x y r : Int) (w : World) : Calls Tryz.prog 79 #[.agg #[I6 x, I6 y], I6 r] w fun E w' => (∃ g, E = .returned (.agg #[I6 1, .slice (some ⟨g, 0, none⟩) 1 1, I6 r]) ∧ w'.heap[g]? = some (.cells #[I6 1, I6 x, I6 y, I6 x, I6 y, I6 0, I6 0] 123 (0, 0))) ∧ Kp w w' none := by
 go_enter Tryz.func79, Tryz.ntmps79
 go_wp2_with fail
 go_returns
 refine ⟨⟨_, rfl, ?_⟩, (((Kp.refl w none).alloc _).alloc _).alloc _⟩
 have := heap_alloc_new ((w.alloc (.cells #[I6 x, I6 y] 42)).alloc (.cells #[I6 1, .slice (some ⟨w.heap.size + 1 + 1, 0, none⟩) 1 1, I6 r] 50)) (.cells #[I6 1, I6 x, I6 y, I6 x, I6 y, I6 0, I6 0] 123)
 simpa using this
def ExIs (w : World) (E : Ending) (w' : World) : Prop := ∃ ao cap ts, E = .returned (.slice ao 2 cap) ∧ ts.map (·.h) = Dl.exH ∧ HolesAt w' ao cap ts ∧ Kp w w' none
theorem example_any (w : World) : Calls Tryz.prog 28 #[] w (ExIs w) := by
 have HD := oh (fun V => disc_any 5 (-3) 2 V)
 go_enter Tryz.func28, Tryz.ntmps28
 go_wp2_with (go_at_call 79; refine (HD.out _).mono ?_; rintro E w1 ⟨⟨g, rfl, hg⟩, k1⟩)
 go_ret
 have ka := (Kp.refl w1 none).alloc (.cells #[I6 1, .slice (some ⟨g, 0, none⟩) 1 1, I6 2, I6 1, I6 2, .bool true, I6 1, .slice (some ⟨w.heap.size, 0, none⟩) 2 2, I6 3, I6 1, I6 2, .bool false] 52)
 have hM := blk (heap_alloc_new w (.cells #[I6 1, I6 0, I6 0, I6 9, I6 0, I6 0, I6 0, I6 2, I6 9, I6 0, I6 14, I6 5, I6 9, I6 5] 123)) (k1.trans ka)
 refine ⟨some ⟨w1.heap.size, 0, none⟩, 2, [⟨⟨⟨1, [⟨1, ⟨5, -3⟩, ⟨5, -3⟩, ⟨0, 0⟩⟩], 2⟩, 1, 2, true⟩, some ⟨g, 0, none⟩, 1⟩, ⟨⟨⟨1, [⟨1, ⟨0, 0⟩, ⟨9, 0⟩, ⟨0, 0⟩⟩, ⟨2, ⟨9, 0⟩, ⟨14, 5⟩, ⟨9, 5⟩⟩], 3⟩, 1, 2, false⟩, some ⟨w.heap.size, 0, none⟩, 2⟩], rfl, rfl, ⟨blk_lies (f := htC) (fun _ => rfl) [⟨⟨⟨1, [⟨1, ⟨5, -3⟩, ⟨5, -3⟩, ⟨0, 0⟩⟩], 2⟩, 1, 2, true⟩, some ⟨g, 0, none⟩, 1⟩, ⟨⟨⟨1, [⟨1, ⟨0, 0⟩, ⟨9, 0⟩, ⟨0, 0⟩⟩, ⟨2, ⟨9, 0⟩, ⟨14, 5⟩, ⟨9, 5⟩⟩], 3⟩, 1, 2, false⟩, some ⟨w.heap.size, 0, none⟩, 2⟩] (heap_alloc_new w1 _) rfl (by simp), fun t ht => ?_⟩, (((Kp.refl w none).alloc _).trans k1).trans ka⟩
 simp only [List.mem_cons, List.not_mem_nil, or_false] at ht
 rcases ht with rfl | rfl
 ·exact blk_lies (f := edC) (fun _ => rfl) [⟨1, ⟨5, -3⟩, ⟨5, -3⟩, ⟨0, 0⟩⟩] (blk hg ka) rfl (by decide)
 ·exact blk_lies (f := edC) (fun _ => rfl) [⟨1, ⟨0, 0⟩, ⟨9, 0⟩, ⟨0, 0⟩⟩, ⟨2, ⟨9, 0⟩, ⟨14, 5⟩, ⟨9, 5⟩⟩] hM rfl (by decide)
theorem hol_len {ts : List HT} {l : List Dl.Ho} (h : ts.map (·.h) = l) : ts.length = l.length := by rw [← h, List.length_map]
theorem hol_small {ts : List HT} {l : List Dl.Ho} (h : ts.map (·.h) = l) (hl : ∀ x ∈ l, x.s.es.length ≤ 1000000) : ∀ z ∈ ts, z.h.s.es.length ≤ 1000000 := fun z hz => hl _ (by rw [← h]; exact List.mem_map_of_mem hz)
theorem exH_small : ∀ x ∈ Dl.exH, x.s.es.length ≤ 1000000 := by decide
theorem read_known {s : List UInt8} {l : List Dl.Ho} {n : Nat} (hn : l.length = n) (h : Dl.read s = (l, 0, 0)) (w : World) (he : Env w) (hs : s.length ≤ 1000000000) : Calls Tryz.prog 16 #[str s] w fun E w' => (∃ ao cap ts, E = .returned (.tuple #[.slice ao n cap, I6 0, I6 0]) ∧ ts.map (·.h) = l ∧ HolesAt w' ao cap ts) ∧ Kp w w' none := by
 have HC := read_any s w he hs
 rw [h] at HC; refine HC.mono fun E w' hh => ?_
 obtain ⟨k, ao, cap, ts, hts, hE, hh, _⟩ := hh
 exact ⟨⟨ao, cap, ts, by rw [hE, hol_len hts, ← hn], hts, hh⟩, k⟩
theorem sanity_any (w : World) (he : Env w) : Calls Tryz.prog 10 #[] w fun E w' => E = .returned (.bool true) ∧ Kp w w' none := by
 have HEN : Hid (∀ V, Kp w V none → Env V) := oh fun V k => he.kp0 k
 have hlen : ∀ nn text, text.length ≤ 100 → (Dl.exFile nn text).length ≤ 1000000000 := fun nn text ht => by
  have := fileTo_len nn text ht 16 (Nat.le_refl _)
  rw [fileTo_all] at this; omega
 have HEX := oh example_any; obtain ⟨F0, h0⟩ : ∃ F, Dl.exFile 0 [] = F := ⟨_, rfl⟩
 obtain ⟨F4, h4⟩ : ∃ F, Dl.exFile 4 [84, 49, 67, 54] = F := ⟨_, rfl⟩
 obtain ⟨F10, h10⟩ : ∃ F, Dl.exFile 10 [84, 51] = F := ⟨_, rfl⟩
 obtain ⟨F9, h9⟩ : ∃ F, Dl.exFile 9 [59, 115, 112, 97, 110, 32, 50, 32, 49, 32, 112, 108, 97, 105, 110] = F := ⟨_, rfl⟩
 obtain ⟨F6, h6⟩ : ∃ F, Dl.exFile 6 [] = F := ⟨_, rfl⟩
 obtain ⟨F14, h14⟩ : ∃ F, Dl.exFile 14 [] = F := ⟨_, rfl⟩
 obtain ⟨F15, h15⟩ : ∃ F, Dl.exFile 14 [71, 48, 51, 88, 49, 52, 89, 53, 73, 48, 74, 54] = F := ⟨_, rfl⟩
 obtain ⟨F16, h16⟩ : ∃ F, Dl.exFile 16 [] = F := ⟨_, rfl⟩
 have HF0 := oh (fun V => h0 ▸ file_any 0 0 rfl [] (by decide) V)
 have HF4 := oh (fun V => h4 ▸ file_any 4 4 rfl [84, 49, 67, 54] (by decide) V)
 have HF10 := oh (fun V => h10 ▸ file_any 10 10 rfl [84, 51] (by decide) V)
 have HF9 := oh (fun V => h9 ▸ file_any 9 9 rfl [59, 115, 112, 97, 110, 32, 50, 32, 49, 32, 112, 108, 97, 105, 110] (by decide) V)
 have HF6 := oh (fun V => h6 ▸ file_any 6 6 rfl [] (by decide) V)
 have HF14 := oh (fun V => h14 ▸ file_any 14 14 rfl [] (by decide) V)
 have HF15 := oh (fun V => h15 ▸ file_any 14 14 rfl [71, 48, 51, 88, 49, 52, 89, 53, 73, 48, 74, 54] (by decide) V)
 have HF16 := oh (fun V => h16 ▸ file_any 16 16 rfl [] (by decide) V)
 have HX4 := oh (fun V k => fails_any F4 4 70 (h4 ▸ Dl.fail_tool) V (HEN.out V k) (h4 ▸ hlen _ _ (by decide)))
 have HX10 := oh (fun V k => fails_any F10 10 70 (h10 ▸ Dl.fail_pick) V (HEN.out V k) (h10 ▸ hlen _ _ (by decide)))
 have HX9 := oh (fun V k => fails_any F9 9 72 (h9 ▸ Dl.fail_span) V (HEN.out V k) (h9 ▸ hlen _ _ (by decide)))
 have HX6 := oh (fun V k => fails_any F6 7 72 (h6 ▸ Dl.fail_none) V (HEN.out V k) (h6 ▸ hlen _ _ (by decide)))
 have HX15 := oh (fun V k => fails_any F15 14 11 (h15 ▸ Dl.fail_edge) V (HEN.out V k) (h15 ▸ hlen _ _ (by decide)))
 have HX16 := oh (fun V k => fails_any F16 16 4 (h16 ▸ Dl.fail_end) V (HEN.out V k) (h16 ▸ hlen _ _ (by decide)))
 have HR0 := oh (fun V k => read_known (s := F0) (l := Dl.exH) (n := 2) rfl (h0 ▸ Dl.ex_read) V (HEN.out V k) (h0 ▸ hlen _ _ (by decide)))
 have HR14 := oh (fun V k => read_known (s := F14) (l := Dl.exM) (n := 2) rfl (h14 ▸ Dl.mid_read) V (HEN.out V k) (h14 ▸ hlen _ _ (by decide)))
 have HWR : Hid (∀ V (_ : Kp w V none) ao cap ts, ts.map (·.h) = Dl.exH → HolesAt V ao cap ts → Calls Tryz.prog 15 #[.slice ao 2 cap] V fun E w' => E = .returned (.tuple #[str F0, I6 0]) ∧ Kp V w' none) := oh fun V k ao cap ts hts hh => by
  have := write_any ts 2 (hol_len hts) ao cap V (HEN.out V k) hh (by decide)
  rw [hts, Dl.ex_write, h0] at this; exact this
 have HSH : Hid (∀ V ao cap ts bo cb us, ts.map (·.h) = Dl.exH → HolesAt V ao cap ts → us.map (·.h) = Dl.exH → HolesAt V bo cb us → Calls Tryz.prog 17 #[.slice ao 2 cap, .slice bo 2 cb] V fun E w' => E = .returned (.bool true) ∧ Kp V w' none) := oh fun V ao cap ts bo cb us hts hh hus hu => by
  have := hsame_any ts us 2 2 (hol_len hts) (hol_len hus) ao bo cap cb V hh hu (hol_small hts exH_small) (hol_small hus exH_small) (by decide) (by decide)
  rw [hts, hus, decide_eq_true rfl] at this; exact this
 have K := oh (Kp.refl w none); clear he hlen h0 h4 h10 h9 h6 h14 h15 h16
 go_enter Tryz.func10, Tryz.ntmps10
 go_upto_region 3 with (first | (go_at_call 28; refine (HEX.out _).mono ?_; rintro E w1 ⟨ao, cap, ts, rfl, hts, hh, kk⟩; have K := oh (K.out.trans kk); have HTS := oh hts; have HH := oh hh; clear kk hts hh) | (go_at_call 15; refine (HWR.out _ K.out _ _ _ HTS.out HH.out).mono ?_; rintro E w2 ⟨rfl, kk⟩; have K := oh (K.out.trans kk); clear kk) | (go_at_call 29; refine (HF0.out _).mono ?_; rintro E w3 ⟨rfl, kk⟩; have K := oh (K.out.trans kk); clear kk) | (go_at_call 16; refine (HR0.out _ K.out).mono ?_; rintro E w4 ⟨⟨bo, cb, us, rfl, hus, hu⟩, kk⟩; have K := oh (K.out.trans kk); have HUS := oh hus; have HU := oh hu; clear kk hus hu))
 go_upto_region 4 with (first | (go_at_call 28; refine (HEX.out _).mono ?_; rintro E w1 ⟨a2, cap2, ts2, rfl, hts, hh, kk⟩; have K := oh (K.out.trans kk); have HTS2 := oh hts; have HH2 := oh hh; have HU := oh (HU.out.keep kk); clear kk hts hh) | (go_at_call 29; refine (HF0.out _).mono ?_; rintro E w3 ⟨rfl, kk⟩; have K := oh (K.out.trans kk); have HU := oh (HU.out.keep kk); clear kk) | (go_at_call 17; refine (HSH.out _ _ _ _ _ _ _ HUS.out HU.out HTS2.out HH2.out).mono ?_; rintro E w4 ⟨rfl, kk⟩; have K := oh (K.out.trans kk); clear kk))
 go_upto_region 6 with (first | (go_at_call 29; (first | (with_reducible refine (HF4.out _).mono ?_) | (with_reducible refine (HF10.out _).mono ?_) | (with_reducible refine (HF9.out _).mono ?_) | (with_reducible refine (HF6.out _).mono ?_) | (with_reducible refine (HF14.out _).mono ?_)); rintro E w3 ⟨rfl, kk⟩; have K := oh (K.out.trans kk); clear kk) | (go_at_call 30; (first | (with_reducible refine (HX4.out _ K.out).mono ?_) | (with_reducible refine (HX10.out _ K.out).mono ?_) | (with_reducible refine (HX9.out _ K.out).mono ?_) | (with_reducible refine (HX6.out _ K.out).mono ?_)); rintro E w3 ⟨rfl, kk⟩; have K := oh (K.out.trans kk); clear kk) | (go_at_call 16; refine (HR14.out _ K.out).mono ?_; rintro E wm ⟨⟨mo, cm, ms, rfl, hms, hmm⟩, kk⟩; have K := oh (K.out.trans kk); have HMS := oh hms; have HM := oh hmm; clear kk hms hmm))
 obtain ⟨b, off, rfl, hcap, hb, hcx⟩ := HM.out.ho (k := 1) (by rw [hol_len HMS.out]; decide)
 have hc2 : 2 ≤ cm := by have := hol_len HMS.out; rw [this] at hcap; exact hcap
 have hes : (ms[1]'(by rw [hol_len HMS.out]; decide)).h.s.es.length = 1 := by
  have h1 : (ms.map (·.h))[1]'(by rw [List.length_map, hol_len HMS.out]; decide) = Dl.exM[1] := by simp only [HMS.out]
  have h2 : (ms[1]'(by rw [hol_len HMS.out]; decide)).h = Dl.exM[1] := by simpa using h1
  rw [h2]; rfl
 have c1 := (hcx _ (Kp.refl _ _)).2.1
 rw [hes] at c1; obtain ⟨ea, hea⟩ : ∃ q, (ms[1]'(by rw [hol_len HMS.out]; decide)).ea = q := ⟨_, rfl⟩
 obtain ⟨ec, hec⟩ : ∃ q, (ms[1]'(by rw [hol_len HMS.out]; decide)).ec = q := ⟨_, rfl⟩
 rw [hea, hec] at c1; have c2 : wm.cell? ⟨b, off + 6 + 1, none⟩ = some (.slice ea 1 ec) := by rw [show off + 6 + 1 = off + 1 * 6 + 1 by omega]; exact c1
 clear hcx hb hes hea hec hcap
 go_wp2_with (first | (go_at_call 29; (first | (with_reducible refine (HF15.out _).mono ?_) | (with_reducible refine (HF16.out _).mono ?_)); rintro E w3 ⟨rfl, kk⟩; have K := oh (K.out.trans kk); clear kk) | (go_at_call 30; (first | (with_reducible refine (HX15.out _ K.out).mono ?_) | (with_reducible refine (HX16.out _ K.out).mono ?_)); rintro E w3 ⟨rfl, kk⟩; have K := oh (K.out.trans kk); clear kk))
 go_ret
 exact ⟨rfl, K.out⟩
end Go.Proofs.YtljjbdbgedmadaaGreatDoor
