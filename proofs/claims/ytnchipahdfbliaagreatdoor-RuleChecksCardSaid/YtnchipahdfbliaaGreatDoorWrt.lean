/- The program's write: conditions with no conditions in them. Conditions: what a machine holds.
  The program's write: a condition on a place. Conditions: what a machine holds.
  The program's write: not. Conditions: what a machine holds. -/
import Derived.Test.YtnchipahdfbliaaGreatDoorPa

namespace Go.Proofs.YtnchipahdfbliaaGreatDoor
open Go.RowKit

/-- A call gives these strings, in a slice of its own. -/
def OwnStrs (l : List (List UInt8)) (w : World) (e : Ending) (w' : World) : Prop := ∃ v, e = .returned v ∧ w'.ownsRow w.heap.size 9 1 v l.length (l.flatMap strVal) ∧ Kp w w' none
theorem own_strs {w : World} {base : Nat} (l : List (List UInt8)) (hb : base ≤ w.heap.size) (hl : l.length ≤ 140737488355328) : (w.alloc (.cells (l.map str).toArray 9)).ownsRow base 9 1 (.slice (some ⟨w.heap.size, 0, none⟩) l.length l.length) l.length (l.flatMap strVal) := by
 have e : l.flatMap strVal = l.map str := by induction l with
  | nil => rfl
  | cons x l ih => rw [List.flatMap_cons, ih (by simp at hl; omega)]; rfl
 rw [e]
 exact ⟨by simp, .inr ⟨w.heap.size, l.length, (l.map str).toArray, rfl, hb, heap_alloc_new w _, Nat.le_refl _, by unfold maxLen; omega, by simp, by rw [List.take_of_length_le (by simp)]⟩⟩
theorem ownStrs_new {l : List (List UInt8)} {w w2 : World} {g : Nat} (hg : w2.heap.size = g) (k : Kp w w2 none) (hl : l.length ≤ 140737488355328) : OwnStrs l w (.returned (.slice (some ⟨g, 0, none⟩) l.length l.length)) (w2.alloc (.cells (l.map str).toArray 9)) :=
 hg ▸ ⟨_, rfl, own_strs l k.size hl, k.alloc _⟩
section
variable (ar : Int) (a : Option Addr) (m p : Nat) (w : World)
set_option maxHeartbeats 2000000 in
set_option maxRecDepth 100000 in
theorem write_l1 : Calls Tryz.prog 42 #[.agg #[.int .i64 1, .string ⟨#[]⟩, .int .i64 0, .int .i64 0, .int .i64 0, .int .i64 0, .int .i64 0, .slice a m p], .int .i64 ar] w (OwnStrs [Ru.kwAny] w) := by
 go_enter Tryz.func42, Tryz.ntmps42
 go_wp2_with fail
 go_ret
 exact ownStrs_new (l := [Ru.kwAny]) (by simp) ((Kp.refl w none).alloc (.cells #[.int .i64 1, .string ⟨#[]⟩, .int .i64 0, .int .i64 0, .int .i64 0, .int .i64 0, .int .i64 0, .slice a m p] 40)) (by simp)
set_option maxHeartbeats 2000000 in
set_option maxRecDepth 100000 in
theorem write_l2 (t : List UInt8) : Calls Tryz.prog 42 #[.agg #[.int .i64 2, str t, .int .i64 0, .int .i64 0, .int .i64 0, .int .i64 0, .int .i64 0, .slice a m p], .int .i64 ar] w (OwnStrs [Ru.kwNet, t] w) := by
 go_enter Tryz.func42, Tryz.ntmps42
 go_wp2_with fail
 go_ret
 exact ownStrs_new (l := [Ru.kwNet, t]) (by simp) ((Kp.refl w none).alloc (.cells #[.int .i64 2, str t, .int .i64 0, .int .i64 0, .int .i64 0, .int .i64 0, .int .i64 0, .slice a m p] 40)) (by simp)
set_option maxHeartbeats 2000000 in
set_option maxRecDepth 100000 in
theorem write_l3 (t : List UInt8) : Calls Tryz.prog 42 #[.agg #[.int .i64 3, str t, .int .i64 0, .int .i64 0, .int .i64 0, .int .i64 0, .int .i64 0, .slice a m p], .int .i64 ar] w (OwnStrs [Ru.kwClass, t] w) := by
 go_enter Tryz.func42, Tryz.ntmps42
 go_wp2_with fail
 go_ret
 exact ownStrs_new (l := [Ru.kwClass, t]) (by simp) ((Kp.refl w none).alloc (.cells #[.int .i64 3, str t, .int .i64 0, .int .i64 0, .int .i64 0, .int .i64 0, .int .i64 0, .slice a m p] 40)) (by simp)
set_option maxHeartbeats 2000000 in
set_option maxRecDepth 100000 in
theorem write_l4 (n : Int) (he : Env w) (hn : Wr.I64 n) : Calls Tryz.prog 42 #[.agg #[.int .i64 4, .string ⟨#[]⟩, .int .i64 n, .int .i64 0, .int .i64 0, .int .i64 0, .int .i64 0, .slice a m p], .int .i64 ar] w (OwnStrs [Ru.kwKind, Lib.itoa n] w) := by
 have k1 : Kp w (w.alloc (.cells #[.int .i64 4, .string ⟨#[]⟩, .int .i64 n, .int .i64 0, .int .i64 0, .int .i64 0, .int .i64 0, .slice a m p] 40)) none := (Kp.refl _ _).alloc _
 have cI := itoa_any n _ (he.kp0 k1) hn
 have K1 := Lib.hid k1
 clear k1 he hn
 go_enter Tryz.func42, Tryz.ntmps42
 go_wp2_with (go_at_call 40; refine cI.mono ?_; rintro e w2 ⟨rfl, hk2⟩)
 go_ret
 exact ownStrs_new (l := [Ru.kwKind, Lib.itoa n]) (by simp) (K1.out.trans hk2) (by simp)
set_option maxHeartbeats 2000000 in
set_option maxRecDepth 100000 in
theorem write_l5 (n : Int) (he : Env w) (hn : Wr.I64 n) : Calls Tryz.prog 42 #[.agg #[.int .i64 5, .string ⟨#[]⟩, .int .i64 n, .int .i64 0, .int .i64 0, .int .i64 0, .int .i64 0, .slice a m p], .int .i64 ar] w (OwnStrs [Ru.kwLayer, Lib.itoa n] w) := by
 have k1 : Kp w (w.alloc (.cells #[.int .i64 5, .string ⟨#[]⟩, .int .i64 n, .int .i64 0, .int .i64 0, .int .i64 0, .int .i64 0, .slice a m p] 40)) none := (Kp.refl _ _).alloc _
 have cI := itoa_any n _ (he.kp0 k1) hn
 have K1 := Lib.hid k1
 clear k1 he hn
 go_enter Tryz.func42, Tryz.ntmps42
 go_wp2_with (go_at_call 40; refine cI.mono ?_; rintro e w2 ⟨rfl, hk2⟩)
 go_ret
 exact ownStrs_new (l := [Ru.kwLayer, Lib.itoa n]) (by simp) (K1.out.trans hk2) (by simp)
set_option maxHeartbeats 2000000 in
set_option maxRecDepth 100000 in
theorem write_l6 (n : Int) (he : Env w) (hn : Wr.I64 n) : Calls Tryz.prog 42 #[.agg #[.int .i64 6, .string ⟨#[]⟩, .int .i64 n, .int .i64 0, .int .i64 0, .int .i64 0, .int .i64 0, .slice a m p], .int .i64 ar] w (OwnStrs [Ru.kwPart, Lib.itoa n] w) := by
 have k1 : Kp w (w.alloc (.cells #[.int .i64 6, .string ⟨#[]⟩, .int .i64 n, .int .i64 0, .int .i64 0, .int .i64 0, .int .i64 0, .slice a m p] 40)) none := (Kp.refl _ _).alloc _
 have cI := itoa_any n _ (he.kp0 k1) hn
 have K1 := Lib.hid k1
 clear k1 he hn
 go_enter Tryz.func42, Tryz.ntmps42
 go_wp2_with (go_at_call 40; refine cI.mono ?_; rintro e w2 ⟨rfl, hk2⟩)
 go_ret
 exact ownStrs_new (l := [Ru.kwPart, Lib.itoa n]) (by simp) (K1.out.trans hk2) (by simp)
end
end Go.Proofs.YtnchipahdfbliaaGreatDoor

namespace Go.Proofs.YtnchipahdfbliaaGreatDoor
open Go.RowKit

set_option maxHeartbeats 4000000 in
set_option maxRecDepth 100000 in
theorem write_l7 (ar : Int) (a : Option Addr) (m p : Nat) (w : World) (b : Ru.Box) (he : Env w) (hb : ∀ x ∈ [b.x0, b.y0, b.x1, b.y1], Wr.I64 x) :
  Calls Tryz.prog 42 #[.agg #[.int .i64 7, .string ⟨#[]⟩, .int .i64 0, .int .i64 b.x0, .int .i64 b.y0, .int .i64 b.x1, .int .i64 b.y1, .slice a m p], .int .i64 ar] w (OwnStrs (Ru.kwIn :: [b.x0, b.y0, b.x1, b.y1].map Lib.itoa) w) := by
 obtain ⟨xs, hxs⟩ : ∃ xs, [b.x0, b.y0, b.x1, b.y1] = xs := ⟨_, rfl⟩
 have hlen : xs.length = 4 := by rw [← hxs]; rfl
 rw [hxs] at hb ⊢
 have HXS := Lib.hid hxs
 have HLEN := Lib.hid hlen
 have HE := Lib.hid he
 have HB := Lib.hid hb
 have k1 : Kp w (w.alloc (.cells #[.int .i64 7, .string ⟨#[]⟩, .int .i64 0, .int .i64 b.x0, .int .i64 b.y0, .int .i64 b.x1, .int .i64 b.y1, .slice a m p] 40)) none := (Kp.refl _ _).alloc _
 have hO : ((w.alloc (.cells #[.int .i64 7, .string ⟨#[]⟩, .int .i64 0, .int .i64 b.x0, .int .i64 b.y0, .int .i64 b.x1, .int .i64 b.y1, .slice a m p] 40)).alloc (.cells ([Ru.kwIn].map str).toArray 9)).ownsRow w.heap.size 9 1 (.slice (some ⟨w.heap.size + 1, 0, none⟩) 1 1) 1 ([Ru.kwIn].flatMap strVal) := by
  have h := own_strs (w := (w.alloc (.cells #[.int .i64 7, .string ⟨#[]⟩, .int .i64 0, .int .i64 b.x0, .int .i64 b.y0, .int .i64 b.x1, .int .i64 b.y1, .slice a m p] 40))) (base := w.heap.size) [Ru.kwIn] (by simp) (by simp)
  simpa using h
 have KK : Hid (Kp w (((w.alloc (.cells #[.int .i64 7, .string ⟨#[]⟩, .int .i64 0, .int .i64 b.x0, .int .i64 b.y0, .int .i64 b.x1, .int .i64 b.y1, .slice a m p] 40)).alloc (.cells #[.string ⟨#[105, 110]⟩] 9)).alloc (.cells #[.int .i64 b.x0, .int .i64 b.y0, .int .i64 b.x1, .int .i64 b.y1] 3)) none) := Lib.hid ((k1.alloc _).alloc _)
 have HO : Hid ((((w.alloc (.cells #[.int .i64 7, .string ⟨#[]⟩, .int .i64 0, .int .i64 b.x0, .int .i64 b.y0, .int .i64 b.x1, .int .i64 b.y1, .slice a m p] 40)).alloc (.cells #[.string ⟨#[105, 110]⟩] 9)).alloc (.cells #[.int .i64 b.x0, .int .i64 b.y0, .int .i64 b.x1, .int .i64 b.y1] 3)).ownsRow w.heap.size 9 1 (.slice (some ⟨w.heap.size + 1, 0, none⟩) 1 1) 1 ([Ru.kwIn].flatMap strVal)) := Lib.hid (own_kp hO ((Kp.refl _ none).alloc _))
 have HIB : Hid ((((w.alloc (.cells #[.int .i64 7, .string ⟨#[]⟩, .int .i64 0, .int .i64 b.x0, .int .i64 b.y0, .int .i64 b.x1, .int .i64 b.y1, .slice a m p] 40)).alloc (.cells #[.string ⟨#[105, 110]⟩] 9)).alloc (.cells #[.int .i64 b.x0, .int .i64 b.y0, .int .i64 b.x1, .int .i64 b.y1] 3)).heap[w.heap.size + 2]? = some (.cells (xs.map (Value.int .i64)).toArray 3 (0, 0))) := Lib.hid (by
  have h := heap_alloc_new ((w.alloc (.cells #[.int .i64 7, .string ⟨#[]⟩, .int .i64 0, .int .i64 b.x0, .int .i64 b.y0, .int .i64 b.x1, .int .i64 b.y1, .slice a m p] 40)).alloc (.cells #[.string ⟨#[105, 110]⟩] 9)) (.cells #[.int .i64 b.x0, .int .i64 b.y0, .int .i64 b.x1, .int .i64 b.y1] 3)
  rw [← hxs]; simpa using h)
 obtain ⟨i0, hi, hz0, hz1, hz2⟩ := info_parts info9
 clear he hb hxs hlen k1 hO
 go_enter Tryz.func42, Tryz.ntmps42
 go_wp2_with fail
 generalize hW : ((w.alloc (.cells #[.int .i64 7, .string ⟨#[]⟩, .int .i64 0, .int .i64 b.x0, .int .i64 b.y0, .int .i64 b.x1, .int .i64 b.y1, .slice a m p] 40)).alloc (.cells #[.string ⟨#[105, 110]⟩] 9)).alloc (.cells #[.int .i64 b.x0, .int .i64 b.y0, .int .i64 b.x1, .int .i64 b.y1] 3) = W1 at *
 clear hW
 go_loopw [61, 5] (fun i lv wr => ∃ k : Nat, k ≤ 4 ∧ i = .int .i64 (k : Int) ∧ wr.ownsRow w.heap.size 9 1 lv (k + 1) ((Ru.kwIn :: (xs.take k).map Lib.itoa).flatMap strVal) ∧ Hid (Kp w wr none) ∧ Hid (lv.ownBlock ≠ some (w.heap.size + 2) ∧ wr.heap[w.heap.size + 2]? = some (.cells (xs.map (Value.int .i64)).toArray 3 (0, 0)))) (fun i _ _ => 4 - (intOf i).toNat)
 case atStart => exact ⟨0, by omega, rfl, HO.out, KK, Lib.hid ⟨by simp [Value.ownBlock], HIB.out⟩⟩
 case round =>
  obtain ⟨k, hk, rfl, hown, HK, HNB⟩ := hrel
  have HOW := Lib.hid hown
  clear hown
  have hk0 : (0 : Int) ≤ (k : Int) := by omega
  by_cases hlt : k < 4
  ·have hk1 : (k : Int) < 4 := by omega
   obtain ⟨x, hx⟩ : ∃ x, xs[k]'(by rw [HLEN.out]; omega) = x := ⟨_, rfl⟩
   have hI := HB.out x (by rw [← hx]; exact List.getElem_mem _)
   have hc : wr.cell? ⟨w.heap.size + 2, k, none⟩ = some (.int .i64 x) := hcell HNB.out.2 k (by rw [← hx]; simp)
   have cI := itoa_any x wr (HE.out.kp0 HK.out) hI
   have HST : Hid ((xs.take (k + 1)).map Lib.itoa = (xs.take k).map Lib.itoa ++ [Lib.itoa x]) := Lib.hid (by rw [List.take_succ_eq_append_getElem (by rw [HLEN.out]; omega), List.map_append, hx]; rfl)
   have hcm : k + 1 + 1 ≤ maxLen := by unfold maxLen; omega
   have hcb : (k + 1 + 1) * 16 ≤ 140737488355328 := by omega
   have hzw : w.heap.size ≤ wr.heap.size := HK.out.size
   clear hx hI
   go_wp2_with (first | (go_at_call 40; refine cI.mono ?_; rintro e w2 ⟨rfl, hk2⟩; have hz3 := hk2.size) | (at_builtin; go_must (refine wpList_append_lies _ (by rfl) _ _ _ (by rfl) w.heap.size 9 i0 _ 1 16 Tryz.underlying68 hi hz0 hz1 hz2 rfl (by omega) u5 (k + 1) ((Ru.kwIn :: (xs.take k).map Lib.itoa).flatMap strVal) (by rfl) ((own_kp HOW.out hk2).alloc _) ⟨w2.heap.size, 0, none⟩ 1 1 #[str (Lib.itoa x)].toList (by rfl) (by rfl) (World.news_of_block (cs := #[str (Lib.itoa x)]) (t := 9) (fr := (0, 0)) (heap_alloc_new w2 _)) (by simp [Value.oneCell']) (by omega) hcm hcb (by simp; omega) (w2.heap.size + 1) (by simp) ?_)))
   intro gg capg w5 hown5 hgrow5 hor5 hgl5
   have HOW5 : Hid (w5.ownsRow w.heap.size 9 1 (.slice (some ⟨gg, 0, none⟩) (k + 1 + 1) capg) (k + 1 + 1) ((Ru.kwIn :: (xs.take (k + 1)).map Lib.itoa).flatMap strVal)) := Lib.hid (by rw [HST.out]; simpa [List.map_take, strVal] using hown5)
   have hbz := lt_of_block HNB.out.2
   have HK5 : Hid (Kp w w5 none) := Lib.hid (Kp.row ((HK.out.trans hk2).alloc _) hgrow5 (fun r hr => (HOW.out.lt r hr).1))
   have HNB5 : Hid ((Value.slice (some ⟨gg, 0, none⟩) (k + 1 + 1) capg).ownBlock ≠ some (w.heap.size + 2) ∧ w5.heap[w.heap.size + 2]? = some (.cells (xs.map (Value.int .i64)).toArray 3 (0, 0))) := Lib.hid ⟨fun e0 => by
    have e : gg = w.heap.size + 2 := Option.some.inj e0
    rcases hor5 with h | h
    ·exact HNB.out.1 (by rw [h, e])
    ·omega, res_kept (res_kept (res_kept HNB.out.2 hk2 (by simp)) ((Kp.refl w2 none).alloc _) (by simp)) hgrow5 (fun q hq e => HNB.out.1 (by rw [hq, e]))⟩
   clear hown5 hgrow5 hor5
   go_wp2_with fail
   go_roundw
   case rel => exact ⟨k + 1, by omega, by go_num, HOW5.out, HK5, HNB5⟩
   case measure => simp [intOf]; omega
  ·obtain rfl : k = 4 := by omega
   go_wp2_with fail
   go_ret
   have h4 : xs.take 4 = xs := List.take_of_length_le (by rw [HLEN.out]; exact Nat.le_refl 4)
   have h := HOW.out
   rw [h4] at h
   exact ⟨_, rfl, by rw [List.length_cons, List.length_map, HLEN.out]; exact h, HK.out⟩
end Go.Proofs.YtnchipahdfbliaaGreatDoor

namespace Go.Proofs.YtnchipahdfbliaaGreatDoor
open Go.RowKit

theorem own_base_le {w : World} {base base' : Nat} {e : TypeId} {size : Nat} {v : Value} {n : Nat} {xs : List Value} (h : w.ownsRow base e size v n xs) (hb : base' ≤ base) : w.ownsRow base' e size v n xs := by
 refine ⟨h.1, ?_⟩
 rcases h.2 with h0 | ⟨g, cap, cur, hv, hg, hr⟩
 ·exact .inl h0
 ·exact .inr ⟨g, cap, cur, hv, Nat.le_trans hb hg, hr⟩
theorem own_isStrs {w : World} {base : Nat} {v : Value} {l : List (List UInt8)} (h : w.ownsRow base 9 1 v l.length (l.flatMap strVal)) : IsStrs w v l := isList_own (m := 1) (f := strVal) (fun _ => rfl) h
set_option maxHeartbeats 4000000 in
set_option maxRecDepth 100000 in
theorem write_l8 (ar : Int) (d : Ru.Cond) (a3 : Option Addr) (m3 p3 : Nat) (b off cap : Nat) (w : World) (hrg : w.rangeAt b off #[.int .i64 d.op, str d.text, .int .i64 d.n, .int .i64 d.box.x0, .int .i64 d.box.y0, .int .i64 d.box.x1, .int .i64 d.box.y1, .slice a3 m3 p3].toList) (hb : b < w.heap.size) (ws : List (List UInt8)) (hlen : ws.length ≤ 1000000000)
  (ih : ∀ u, Kp w u none → Calls Tryz.prog 42 #[.agg #[.int .i64 d.op, str d.text, .int .i64 d.n, .int .i64 d.box.x0, .int .i64 d.box.y0, .int .i64 d.box.x1, .int .i64 d.box.y1, .slice a3 m3 p3], .int .i64 8] u (OwnStrs ws u)) : Calls Tryz.prog 42 #[.agg #[.int .i64 8, .string ⟨#[]⟩, .int .i64 0, .int .i64 0, .int .i64 0, .int .i64 0, .int .i64 0, .slice (some ⟨b, off, none⟩) 1 cap], .int .i64 ar] w (OwnStrs (Ru.kwNot :: ws) w) := by
 have hk1 : Kp w (w.alloc (.cells #[.int .i64 8, .string ⟨#[]⟩, .int .i64 0, .int .i64 0, .int .i64 0, .int .i64 0, .int .i64 0, .slice (some ⟨b, off, none⟩) 1 cap] 40)) none := (Kp.refl _ _).alloc _
 have hB := heap_alloc_new w (.cells #[.int .i64 8, .string ⟨#[]⟩, .int .i64 0, .int .i64 0, .int .i64 0, .int .i64 0, .int .i64 0, .slice (some ⟨b, off, none⟩) 1 cap] 40)
 have HS : Hid (∀ V, Kp (w.alloc (.cells #[.int .i64 8, .string ⟨#[]⟩, .int .i64 0, .int .i64 0, .int .i64 0, .int .i64 0, .int .i64 0, .slice (some ⟨b, off, none⟩) 1 cap] 40)) V none → V.cell? ⟨w.heap.size, 7, none⟩ = some (.slice (some ⟨b, off, none⟩) 1 cap) ∧ V.cell? ⟨w.heap.size, 0, none⟩ = some (.int .i64 8) ∧ V.rangeAt b off #[.int .i64 d.op, str d.text, .int .i64 d.n, .int .i64 d.box.x0, .int .i64 d.box.y0, .int .i64 d.box.x1, .int .i64 d.box.y1, .slice a3 m3 p3].toList ∧ Hid (Kp (w.alloc (.cells #[.int .i64 8, .string ⟨#[]⟩, .int .i64 0, .int .i64 0, .int .i64 0, .int .i64 0, .int .i64 0, .slice (some ⟨b, off, none⟩) 1 cap] 40)) V none)) := Lib.hid fun V hV => ⟨ckr hB hV (by simp) 7 rfl, ckr hB hV (by simp) 0 rfl, fun j v hv => by
  rw [(hk1.trans hV).below.cell (p := ⟨b, off + j, none⟩) hb]; exact hrg j v hv, Lib.hid hV⟩
 have HIH : Hid (∀ u, Kp (w.alloc (.cells #[.int .i64 8, .string ⟨#[]⟩, .int .i64 0, .int .i64 0, .int .i64 0, .int .i64 0, .int .i64 0, .slice (some ⟨b, off, none⟩) 1 cap] 40)) u none → Calls Tryz.prog 42 #[.agg #[.int .i64 d.op, str d.text, .int .i64 d.n, .int .i64 d.box.x0, .int .i64 d.box.y0, .int .i64 d.box.x1, .int .i64 d.box.y1, .slice a3 m3 p3], .int .i64 8] u (OwnStrs ws u)) := Lib.hid fun u hu => ih u (hk1.trans hu)
 obtain ⟨i0, hi, hz0, hz1, hz2⟩ := info_parts info9
 have HK1 := Lib.hid hk1
 have hH1 : (w.alloc (.cells #[.int .i64 8, .string ⟨#[]⟩, .int .i64 0, .int .i64 0, .int .i64 0, .int .i64 0, .int .i64 0, .slice (some ⟨b, off, none⟩) 1 cap] 40)).heap.size = w.heap.size + 1 := by simp
 have HFIN : Hid (∀ V v, Kp (w.alloc (.cells #[.int .i64 8, .string ⟨#[]⟩, .int .i64 0, .int .i64 0, .int .i64 0, .int .i64 0, .int .i64 0, .slice (some ⟨b, off, none⟩) 1 cap] 40)) V none → V.ownsRow (w.heap.size + 1) 9 1 v (1 + ws.length) ([Ru.kwNot].flatMap strVal ++ ws.flatMap strVal) → OwnStrs (Ru.kwNot :: ws) w (.returned v) V) := Lib.hid fun V v hV ho => ⟨v, rfl, by rw [List.length_cons, Nat.add_comm ws.length 1]; exact own_base_le ho (by omega), hk1.trans hV⟩
 clear hrg ih hB hk1
 go_enter Tryz.func42, Tryz.ntmps42
 go_upto_region 24 with fail
 generalize hW : w.alloc (.cells #[.int .i64 8, .string ⟨#[]⟩, .int .i64 0, .int .i64 0, .int .i64 0, .int .i64 0, .int .i64 0, .slice (some ⟨b, off, none⟩) 1 cap] 40) = W0 at *
 clear hW
 refine wp_region_held_drew (S := fun V => V.cell? ⟨w.heap.size, 7, none⟩ = some (.slice (some ⟨b, off, none⟩) 1 cap) ∧ V.cell? ⟨w.heap.size, 0, none⟩ = some (.int .i64 8) ∧ V.rangeAt b off #[.int .i64 d.op, str d.text, .int .i64 d.n, .int .i64 d.box.x0, .int .i64 d.box.y0, .int .i64 d.box.x1, .int .i64 d.box.y1, .slice a3 m3 p3].toList ∧ Hid (Kp W0 V none)) (by kernel_rfl) (HS.out _ (Kp.refl _ none).drew) (fun hHeld => ?_)
 generalize W0.drew = W1 at *
 refine tkH 1 rfl ?_
 try simp only [Act.put, sm]
 refine tkH 2 rfl ?_
 try simp only [Act.put, sm]
 refine tkH 3 rfl ?_
 try simp only [Act.put, sm]
 refine wpAnyH_take (i := 4) rfl (by kernel_rfl) (by kernel_rfl) (by kernel_rfl) (fun _ _ _ h => h) (yieldsIf_load_mid (by rfl) _ _ rfl b off rfl #[.int .i64 d.op, str d.text, .int .i64 d.n, .int .i64 d.box.x0, .int .i64 d.box.y0, .int .i64 d.box.x1, .int .i64 d.box.y1, .slice a3 m3 p3].toList _ (fun _ h => h.2.2.1) Tryz.underlying40 rfl info40s) (by assumption) ?_
 try simp only [Act.put, sm]
 refine tkH 5 rfl ?_
 try simp only [Act.put, sm]
 refine tkH 6 rfl ?_
 try simp only [Act.put, sm]
 refine wpAnyH_ready (rs := [0, 7]) (by kernel_rfl) (by simp) ?_
 refine AllReadyH.cons (o := _) rfl (fun K hK => ?_) (AllReadyH.cons (o := _) rfl (fun K hK => ?_) AllReadyH.nil)
 ·have gK := hHeld.2.2.2
  clear hHeld
  go_simp
  have kA : Kp W0 (W1.alloc (.cells #[.string ⟨#[110, 111, 116]⟩] 9)) none := gK.out.alloc _
  have hO : Hid ((W1.alloc (.cells #[.string ⟨#[110, 111, 116]⟩] 9)).ownsRow (w.heap.size + 1) 9 1 (.slice (some ⟨W1.heap.size, 0, none⟩) 1 1) 1 ([Ru.kwNot].flatMap strVal)) := Lib.hid (own_strs [Ru.kwNot] (by have := gK.out.size; omega) (by simp))
  refine hK.out _ _ (HS.out _ kA) (fun hHeld => ?_)
  clear hK K gK
  generalize W1.alloc (.cells #[.string ⟨#[110, 111, 116]⟩] 9) = W2 at *
  try simp only [Act.put, sm]
  refine wpAnyH_ready (rs := [7]) (by kernel_rfl) (by simp) ?_
  refine AllReadyH.cons (o := _) rfl (fun K hK => ?_) AllReadyH.nil
  clear hHeld
  go_simp
  refine (HIH.out _ kA).mono ?_
  rintro e W3 ⟨v3, rfl, h3, hk3⟩
  have hO3 := Lib.hid (own_kp hO.out hk3)
  have hI3 := Lib.hid (own_isStrs h3)
  have kB : Kp W0 W3 none := kA.trans hk3
  try go_wp2_with fail
  refine hK.out _ _ (HS.out _ kB) (fun hHeld => ?_)
  clear hK K
  try simp only [Act.put, sm]
  refine wpAnyH_ready (rs := [8]) (by kernel_rfl) (by simp) ?_
  refine AllReadyH.cons (o := _) rfl (fun K hK => ?_) AllReadyH.nil
  refine step_app (by rfl) _ _ (w.heap.size + 1) 68 9 (by rfl) i0 _ 1 16 Tryz.underlying68 hi hz0 hz1 hz2 rfl (by omega) (fun _ => rfl) (by simp [strVal, Value.oneCell']) _ 1 _ (by rfl) hO3.out v3 ws (by rfl) hI3.out (by unfold maxLen; omega) (by omega) (by have := kB.size; omega) ?_
  intro v5 w5 hown5 hgrow5 _
  have kC : Kp W0 w5 none := Kp.row kB hgrow5 (fun r hr => by have := (hO3.out.lt r hr).1; omega)
  refine hK.out _ _ (HS.out _ kC) (fun hHeld => ?_)
  clear hK K
  try simp only [Act.put, sm]
  refine tkH 9 rfl ?_
  try simp only [Act.put, sm]
  clear hHeld
  refine wpAnyH_done (by kernel_rfl) ?_ _
  go_wp2_with fail
  go_ret
  exact HFIN.out _ _ kC hown5
 ·have gK := hHeld.2.2.2
  clear hHeld
  go_simp
  refine (HIH.out _ gK.out).mono ?_
  rintro e W2 ⟨v3, rfl, h3, hk3⟩
  have hI2 := Lib.hid (own_isStrs h3)
  have kA : Kp W0 W2 none := gK.out.trans hk3
  try go_wp2_with fail
  refine hK.out _ _ (HS.out _ kA) (fun hHeld => ?_)
  clear hK K
  try simp only [Act.put, sm]
  refine wpAnyH_ready (rs := [0]) (by kernel_rfl) (by simp) ?_
  refine AllReadyH.cons (o := _) rfl (fun K hK => ?_) AllReadyH.nil
  clear hHeld
  go_simp
  have kB : Kp W0 (W2.alloc (.cells #[.string ⟨#[110, 111, 116]⟩] 9)) none := kA.alloc _
  have hO3 : Hid ((W2.alloc (.cells #[.string ⟨#[110, 111, 116]⟩] 9)).ownsRow (w.heap.size + 1) 9 1 (.slice (some ⟨W2.heap.size, 0, none⟩) 1 1) 1 ([Ru.kwNot].flatMap strVal)) := Lib.hid (own_strs [Ru.kwNot] (by have := kA.size; omega) (by simp))
  have hI3 : Hid (IsStrs (W2.alloc (.cells #[.string ⟨#[110, 111, 116]⟩] 9)) v3 ws) := Lib.hid (hI2.out.keep ((Kp.refl _ none).alloc _))
  refine hK.out _ _ (HS.out _ kB) (fun hHeld => ?_)
  clear hK K
  try simp only [Act.put, sm]
  refine wpAnyH_ready (rs := [8]) (by kernel_rfl) (by simp) ?_
  refine AllReadyH.cons (o := _) rfl (fun K hK => ?_) AllReadyH.nil
  refine step_app (by rfl) _ _ (w.heap.size + 1) 68 9 (by rfl) i0 _ 1 16 Tryz.underlying68 hi hz0 hz1 hz2 rfl (by omega) (fun _ => rfl) (by simp [strVal, Value.oneCell']) _ 1 _ (by rfl) hO3.out v3 ws (by rfl) hI3.out (by unfold maxLen; omega) (by omega) (by have := kB.size; omega) ?_
  intro v5 w5 hown5 hgrow5 _
  have kC : Kp W0 w5 none := Kp.row kB hgrow5 (fun r hr => by have := (hO3.out.lt r hr).1; omega)
  refine hK.out _ _ (HS.out _ kC) (fun hHeld => ?_)
  clear hK K
  try simp only [Act.put, sm]
  refine tkH 9 rfl ?_
  try simp only [Act.put, sm]
  clear hHeld
  refine wpAnyH_done (by kernel_rfl) ?_ _
  go_wp2_with fail
  go_ret
  exact HFIN.out _ _ kC hown5
end Go.Proofs.YtnchipahdfbliaaGreatDoor
