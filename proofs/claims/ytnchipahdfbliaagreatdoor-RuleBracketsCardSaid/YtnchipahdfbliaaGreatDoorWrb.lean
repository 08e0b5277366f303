/- The program's write: a condition on a place. Conditions: what a machine holds. -/
import Derived.Test.YtnchipahdfbliaaGreatDoorWrt
namespace Go.Proofs.YtnchipahdfbliaaGreatDoor
open Go.RowKit

set_option maxHeartbeats 4000000 in
set_option maxRecDepth 100000 in
theorem write_l7 (ar : Int) (a : Option Addr) (m p : Nat) (w : World) (b : Ru.Box) (he : Env w) (hb : ∀ x ∈ [b.x0, b.y0, b.x1, b.y1], Wr.I64 x) :
    Calls Tryz.prog 42 #[.agg #[.int .i64 7, .string ⟨#[]⟩, .int .i64 0, .int .i64 b.x0, .int .i64 b.y0, .int .i64 b.x1, .int .i64 b.y1, .slice a m p], .int .i64 ar] w (OwnStrs (Ru.kwIn :: [b.x0, b.y0, b.x1, b.y1].map Lib.itoa) w) := by
  obtain ⟨xs, hxs⟩ : ∃ xs, [b.x0, b.y0, b.x1, b.y1] = xs := ⟨_, rfl⟩
  have hlen : xs.length = 4 := by rw [← hxs]; rfl
  rw [hxs] at hb ⊢
  have HXS := Lib.hid hxs
  have HLEN := Lib.hid hlen
  have HE := Lib.hid he
  have HB := Lib.hid hb
  have k1 : Kp w (w.alloc (.cells #[.int .i64 7, .string ⟨#[]⟩, .int .i64 0, .int .i64 b.x0, .int .i64 b.y0, .int .i64 b.x1, .int .i64 b.y1, .slice a m p] 40)) none := (Kp.refl _ _).alloc _
  have hO : ((w.alloc (.cells #[.int .i64 7, .string ⟨#[]⟩, .int .i64 0, .int .i64 b.x0, .int .i64 b.y0, .int .i64 b.x1, .int .i64 b.y1, .slice a m p] 40)).alloc (.cells ([Ru.kwIn].map str).toArray 9)).ownsRow w.heap.size 9 1 (.slice (some ⟨w.heap.size + 1, 0, none⟩) 1 1) 1 ([Ru.kwIn].flatMap strVal) := by
    have h := own_strs (w := (w.alloc (.cells #[.int .i64 7, .string ⟨#[]⟩, .int .i64 0, .int .i64 b.x0, .int .i64 b.y0, .int .i64 b.x1, .int .i64 b.y1, .slice a m p] 40))) (base := w.heap.size) [Ru.kwIn] (by simp) (by simp)
    simpa using h
  have KK : Hid (Kp w (((w.alloc (.cells #[.int .i64 7, .string ⟨#[]⟩, .int .i64 0, .int .i64 b.x0, .int .i64 b.y0, .int .i64 b.x1, .int .i64 b.y1, .slice a m p] 40)).alloc (.cells #[.string ⟨#[105, 110]⟩] 9)).alloc (.cells #[.int .i64 b.x0, .int .i64 b.y0, .int .i64 b.x1, .int .i64 b.y1] 3)) none) := Lib.hid ((k1.alloc _).alloc _)
  have HO : Hid ((((w.alloc (.cells #[.int .i64 7, .string ⟨#[]⟩, .int .i64 0, .int .i64 b.x0, .int .i64 b.y0, .int .i64 b.x1, .int .i64 b.y1, .slice a m p] 40)).alloc (.cells #[.string ⟨#[105, 110]⟩] 9)).alloc (.cells #[.int .i64 b.x0, .int .i64 b.y0, .int .i64 b.x1, .int .i64 b.y1] 3)).ownsRow w.heap.size 9 1 (.slice (some ⟨w.heap.size + 1, 0, none⟩) 1 1) 1 ([Ru.kwIn].flatMap strVal)) := Lib.hid (own_kp hO ((Kp.refl _ none).alloc _))
  have HIB : Hid ((((w.alloc (.cells #[.int .i64 7, .string ⟨#[]⟩, .int .i64 0, .int .i64 b.x0, .int .i64 b.y0, .int .i64 b.x1, .int .i64 b.y1, .slice a m p] 40)).alloc (.cells #[.string ⟨#[105, 110]⟩] 9)).alloc (.cells #[.int .i64 b.x0, .int .i64 b.y0, .int .i64 b.x1, .int .i64 b.y1] 3)).heap[w.heap.size + 2]? = some (.cells (xs.map (Value.int .i64)).toArray 3 (0, 0))) := Lib.hid (by
    have h := heap_alloc_new ((w.alloc (.cells #[.int .i64 7, .string ⟨#[]⟩, .int .i64 0, .int .i64 b.x0, .int .i64 b.y0, .int .i64 b.x1, .int .i64 b.y1, .slice a m p] 40)).alloc (.cells #[.string ⟨#[105, 110]⟩] 9)) (.cells #[.int .i64 b.x0, .int .i64 b.y0, .int .i64 b.x1, .int .i64 b.y1] 3)
    rw [← hxs]; simpa using h)
  obtain ⟨i0, hi, hz0, hz1, hz2⟩ := info_parts info9
  clear he hb hxs hlen k1 hO
  go_enter Tryz.func42, Tryz.ntmps42
  go_wp2_with fail
  generalize hW : ((w.alloc (.cells #[.int .i64 7, .string ⟨#[]⟩, .int .i64 0, .int .i64 b.x0, .int .i64 b.y0, .int .i64 b.x1, .int .i64 b.y1, .slice a m p] 40)).alloc (.cells #[.string ⟨#[105, 110]⟩] 9)).alloc (.cells #[.int .i64 b.x0, .int .i64 b.y0, .int .i64 b.x1, .int .i64 b.y1] 3) = W1 at *
  clear hW
  go_loopw [61, 5] (fun i lv wr => ∃ k : Nat, k ≤ 4 ∧ i = .int .i64 (k : Int) ∧ wr.ownsRow w.heap.size 9 1 lv (k + 1) ((Ru.kwIn :: (xs.take k).map Lib.itoa).flatMap strVal) ∧ Hid (Kp w wr none) ∧ Hid (lv.ownBlock ≠ some (w.heap.size + 2) ∧ wr.heap[w.heap.size + 2]? = some (.cells (xs.map (Value.int .i64)).toArray 3 (0, 0)))) (fun i _ _ => 4 - (intOf i).toNat)
  case atStart => exact ⟨0, by omega, rfl, HO.out, KK, Lib.hid ⟨by simp [Value.ownBlock], HIB.out⟩⟩
  case round =>
    obtain ⟨k, hk, rfl, hown, HK, HNB⟩ := hrel
    have HOW := Lib.hid hown
    clear hown
    have hk0 : (0 : Int) ≤ (k : Int) := by omega
    by_cases hlt : k < 4
    · have hk1 : (k : Int) < 4 := by omega
      obtain ⟨x, hx⟩ : ∃ x, xs[k]'(by rw [HLEN.out]; omega) = x := ⟨_, rfl⟩
      have hI := HB.out x (by rw [← hx]; exact List.getElem_mem _)
      have hc : wr.cell? ⟨w.heap.size + 2, k, none⟩ = some (.int .i64 x) := hcell HNB.out.2 k (by rw [← hx]; simp)
      have cI := itoa_any x wr (HE.out.kp0 HK.out) hI
      have HST : Hid ((xs.take (k + 1)).map Lib.itoa = (xs.take k).map Lib.itoa ++ [Lib.itoa x]) := Lib.hid (by rw [List.take_succ_eq_append_getElem (by rw [HLEN.out]; omega), List.map_append, hx]; rfl)
      have hcm : k + 1 + 1 ≤ maxLen := by unfold maxLen; omega
      have hcb : (k + 1 + 1) * 16 ≤ 140737488355328 := by omega
      have hzw : w.heap.size ≤ wr.heap.size := HK.out.size
      clear hx hI
      go_wp2_with (first | (go_at_call 40; refine cI.mono ?_; rintro e w2 ⟨rfl, hk2⟩; have hz3 := hk2.size) | (at_builtin; go_must (refine wpList_append_lies _ (by rfl) _ _ _ (by rfl) w.heap.size 9 i0 _ 1 16 Tryz.underlying68 hi hz0 hz1 hz2 rfl (by omega) u5 (k + 1) ((Ru.kwIn :: (xs.take k).map Lib.itoa).flatMap strVal) (by rfl) ((own_kp HOW.out hk2).alloc _) ⟨w2.heap.size, 0, none⟩ 1 1 #[str (Lib.itoa x)].toList (by rfl) (by rfl) (World.news_of_block (cs := #[str (Lib.itoa x)]) (t := 9) (fr := (0, 0)) (heap_alloc_new w2 _)) (by simp [Value.oneCell']) (by omega) hcm hcb (by simp; omega) (w2.heap.size + 1) (by simp) ?_)))
      intro gg capg w5 hown5 hgrow5 hor5 hgl5
      have HOW5 : Hid (w5.ownsRow w.heap.size 9 1 (.slice (some ⟨gg, 0, none⟩) (k + 1 + 1) capg) (k + 1 + 1) ((Ru.kwIn :: (xs.take (k + 1)).map Lib.itoa).flatMap strVal)) := Lib.hid (by rw [HST.out]; simpa [List.map_take, strVal] using hown5)
      have hbz := lt_of_block HNB.out.2
      have HK5 : Hid (Kp w w5 none) := Lib.hid (Kp.row ((HK.out.trans hk2).alloc _) hgrow5 (fun r hr => (HOW.out.lt r hr).1))
      have HNB5 : Hid ((Value.slice (some ⟨gg, 0, none⟩) (k + 1 + 1) capg).ownBlock ≠ some (w.heap.size + 2) ∧ w5.heap[w.heap.size + 2]? = some (.cells (xs.map (Value.int .i64)).toArray 3 (0, 0))) := Lib.hid ⟨fun e0 => by
        have e : gg = w.heap.size + 2 := Option.some.inj e0
        rcases hor5 with h | h
        · exact HNB.out.1 (by rw [h, e])
        · omega, res_kept (res_kept (res_kept HNB.out.2 hk2 (by simp)) ((Kp.refl w2 none).alloc _) (by simp)) hgrow5 (fun q hq e => HNB.out.1 (by rw [hq, e]))⟩
      clear hown5 hgrow5 hor5
      go_wp2_with fail
      go_roundw
      case rel => exact ⟨k + 1, by omega, by go_num, HOW5.out, HK5, HNB5⟩
      case measure => simp [intOf]; omega
    · obtain rfl : k = 4 := by omega
      go_wp2_with fail
      go_ret
      have h4 : xs.take 4 = xs := List.take_of_length_le (by rw [HLEN.out]; exact Nat.le_refl 4)
      have h := HOW.out
      rw [h4] at h
      exact ⟨_, rfl, by rw [List.length_cons, List.length_map, HLEN.out]; exact h, HK.out⟩
end Go.Proofs.YtnchipahdfbliaaGreatDoor
