/- The lines of a text (11), and whether a text ends with another one (12). Conditions: texts of less than 2^20 bytes. -/
import Derived.Test.YtggplbenliaodaaGreatDoorPlH
import Derived.Test.YtggplbenliaodaaGreatDoorBs
import Derived.Deep.AppendLies
namespace Pl
theorem split_hit {s : Bytes} {f k : Nat} (hk : k < s.length) (h : s[k] = 10) : splitFrom ((s.take k).drop f) (s.drop k) = (s.take k).drop f :: splitFrom ((s.take (k + 1)).drop (k + 1)) (s.drop (k + 1)) := by
  have e : (s.take (k + 1)).drop (k + 1) = [] := List.drop_eq_nil_of_le (by rw [List.length_take]; omega)
  rw [List.drop_eq_getElem_cons hk, h, splitFrom, if_pos rfl, e]
theorem split_on {s : Bytes} {f k : Nat} (hf : f ≤ k) (hk : k < s.length) (h : s[k] ≠ 10) : splitFrom ((s.take k).drop f) (s.drop k) = splitFrom ((s.take (k + 1)).drop f) (s.drop (k + 1)) := by
  rw [List.drop_eq_getElem_cons hk, splitFrom, if_neg h, List.take_succ_eq_append_getElem hk, List.drop_append_of_le_length (by rw [List.length_take]; omega)]
end Pl
namespace Go.Proofs.YtggplbenliaodaaGreatDoor
open Go.RowKit

theorem ext_take (t : List UInt8) (n : Nat) : (⟨t.toArray⟩ : ByteArray).extract 0 n = ⟨(t.take n).toArray⟩ := by
  apply ByteArray.ext; rw [ByteArray.data_extract]; simp
theorem ext_mid (t : List UInt8) (a b : Nat) : (⟨t.toArray⟩ : ByteArray).extract a b = ⟨((t.take b).drop a).toArray⟩ := by
  apply ByteArray.ext; rw [ByteArray.data_extract]; simp [List.drop_take]
theorem ext_drop (t : List UInt8) (n : Nat) : (⟨t.toArray⟩ : ByteArray).extract n t.length = ⟨(t.drop n).toArray⟩ := by
  rw [ext_mid, List.take_length]
def lnC (s : List UInt8) : List Value := [.string ⟨s.toArray⟩]
theorem info9 : (Tryz.prog.info? 9).map (fun i => (i.zero, i.size, i.bytes)) = some (some (.string ⟨#[]⟩), 1, 16) := by kernel_rfl
def LinesRel (w : World) (s : List UInt8) (v fr i : Value) (wr : World) : Prop :=
  ∃ (f k : Nat) (outs : List (List UInt8)), f ≤ k ∧ k ≤ s.length ∧ i = .int .i64 k ∧ fr = .int .i64 f ∧ Pl.splitFrom [] s = outs ++ Pl.splitFrom ((s.take k).drop f) (s.drop k) ∧ wr.ownsRow w.heap.size 9 1 v outs.length (outs.flatMap lnC) ∧ outs.length ≤ f ∧ Kp w wr none
def LinesEnds (w : World) (s : List UInt8) (E : Ending) (w' : World) : Prop := ∃ ao cap, E = .returned (.slice ao (Pl.splitFrom [] s).length cap) ∧ LiesAt 1 lnC w' ao cap (Pl.splitFrom [] s) ∧ Kp w w' none
set_option maxHeartbeats 4000000 in
set_option maxRecDepth 100000 in
theorem lines_any (s : List UInt8) (w : World) (hs : s.length < 1048576) : Calls Tryz.prog 11 #[.string ⟨s.toArray⟩] w (LinesEnds w s) := by
  go_enter Tryz.func11, Tryz.ntmps11
  go_wp2_with fail
  go_loopw [3, 4, 5] (fun v fr i wr => LinesRel w s v fr i wr) (fun _ _ i _ => s.length - (intOf i).toNat)
  case atStart => exact ⟨0, 0, [], Nat.le_refl _, Nat.zero_le _, rfl, rfl, by simp, World.ownsRow_nil _ _ _ _, Nat.le_refl _, Kp.refl _ _⟩
  case round =>
    obtain ⟨f, k, outs, hfk, hk, rfl, rfl, hl, hown, hof, hK⟩ := hrel
    have HL := Lib.hid hl
    have HO := Lib.hid hown
    have HK := Lib.hid hK
    have hbz := HK.out.size
    clear hl hown hK
    have hcm : outs.length + 1 ≤ maxLen := by unfold maxLen; omega
    have hcb : (outs.length + 1) * 16 ≤ 140737488355328 := by omega
    obtain ⟨i0, hi, hz0, hz1, hz2⟩ := info_parts info9
    have hf0 : (0 : Int) ≤ (f : Int) := by omega
    have hk0 : (0 : Int) ≤ (k : Int) := by omega
    by_cases hlt : k < s.length
    · obtain ⟨c, hc⟩ : ∃ c, s[k] = c := ⟨_, rfl⟩
      have hx0 : ∀ h', (⟨s.toArray⟩ : ByteArray)[k]'h' = c := fun _ => hc
      have HC : Hid (s[k] = c) := Lib.hid hc
      clear hc
      have hk1 : (k : Int) < (s.length : Int) := by omega
      by_cases h10 : c = 10
      · subst h10
        obtain ⟨ln, hln⟩ : ∃ ln, (s.take k).drop f = ln := ⟨_, rfl⟩
        have hx : (⟨s.toArray⟩ : ByteArray).extract f k = ⟨ln.toArray⟩ := by rw [ext_mid, hln]
        have HLN := Lib.hid hln
        have hfk1 : (f : Int) ≤ (k : Int) := by omega
        have hks : (k : Int) ≤ (s.length : Int) := by omega
        clear hln
        go_wp2_with (at_builtin; go_must (refine wpList_append_lies _ (by rfl) _ _ _ (by rfl) w.heap.size 9 i0 _ 1 16 Tryz.underlying40 hi hz0 hz1 hz2 rfl (by omega) u3 outs.length (outs.flatMap lnC) (by rfl) (HO.out.alloc _) ⟨wr.heap.size, 0, none⟩ 1 1 [.string ⟨ln.toArray⟩] (by rfl) (by rfl) (World.news_of_block (cs := #[.string ⟨ln.toArray⟩]) (t := 9) (fr := (0, 0)) (heap_alloc_new wr _)) (by simp [Value.oneCell']) (by omega) hcm hcb (by simp; omega) (wr.heap.size + 1) (by simp) ?_))
        intro gg capg w4 hown4 hgrow4 _ _
        have HREL : Hid (LinesRel w s (.slice (some ⟨gg, 0, none⟩) (outs.length + 1) capg) (.int .i64 (k + 1)) (.int .i64 (k + 1)) w4) := Lib.hid ⟨k + 1, k + 1, outs ++ [ln], Nat.le_refl _, hlt, by go_num, by go_num, by rw [HL.out, Pl.split_hit hlt HC.out, HLN.out]; simp, by rw [List.flatMap_append, List.length_append]; exact hown4, by simp; omega, Kp.row (HK.out.alloc _) hgrow4 (fun j hj => (HO.out.lt j hj).1)⟩
        clear hown4 hgrow4 hx
        go_wp2_with fail
        first | exact ⟨HREL.out, by simp [intOf]; omega⟩ | (go_roundw; all_goals first | exact HREL.out | (simp [intOf]; omega) | ((repeat apply Exists.intro); exact ⟨HREL.out, rfl⟩))
      · have hcn : ((c.toNat : Int) == 10) = false := beq_eq_false_iff_ne.2 (fun e => h10 (UInt8.toNat.inj (by show c.toNat = 10; omega)))
        have HREL : Hid (LinesRel w s u3 (.int .i64 f) (.int .i64 (k + 1)) wr) := Lib.hid ⟨f, k + 1, outs, by omega, hlt, by go_num, rfl, by rw [HL.out, Pl.split_on hfk hlt (by rw [HC.out]; exact h10)], HO.out, hof, HK.out⟩
        go_wp2_with fail
        first | exact ⟨HREL.out, by simp [intOf]; omega⟩ | (go_roundw; all_goals first | exact HREL.out | (simp [intOf]; omega) | ((repeat apply Exists.intro); exact ⟨HREL.out, rfl⟩))
    · obtain rfl : k = s.length := by omega
      obtain ⟨ao, cap, rfl⟩ := own_slice HO.out
      have HE : Hid (LinesEnds w s (.returned (.slice ao outs.length cap)) wr) := Lib.hid (by
        have e : Pl.splitFrom [] s = outs := by rw [HL.out, List.drop_length, Pl.splitFrom, List.append_nil]
        have h := (own_lies (m := 1) (f := lnC) (fun _ => rfl) HO.out).2
        rw [← e] at h
        exact ⟨ao, cap, by rw [e], h, HK.out⟩)
      go_wp2_with fail
      go_ret
      exact HE.out
set_option maxHeartbeats 4000000 in
set_option maxRecDepth 100000 in
theorem ends_any (x y : List UInt8) (yv : ByteArray) (hy : yv = ⟨y.toArray⟩) (w : World) (hx : x.length < 1048576) (hyl : y.length < 1048576) : Calls Tryz.prog 12 #[.string ⟨x.toArray⟩, .string yv] w fun E w' => E = .returned (.bool (Pl.endsB x y)) ∧ Kp w w' none := by
  subst hy
  have hx0 : (0 : Int) ≤ (x.length : Int) := Int.natCast_nonneg _
  have hy0 : (0 : Int) ≤ (y.length : Int) := Int.natCast_nonneg _
  obtain ⟨r, hr⟩ : ∃ r, Pl.endsB x y = r := ⟨_, rfl⟩
  rw [hr]
  by_cases hl : y.length ≤ x.length
  · obtain ⟨z, hz⟩ : ∃ z, x.drop (x.length - y.length) = z := ⟨_, rfl⟩
    have hr2 : decide (z = y) = r := by
      rw [← hr, ← hz]; unfold Pl.endsB
      rw [decide_eq_true hl, Bool.true_and]
    have hxx : (⟨x.toArray⟩ : ByteArray).extract (x.length - y.length) x.length = ⟨z.toArray⟩ := by rw [ext_drop, hz]
    have hsub : (x.length : Int) - (y.length : Int) = ((x.length - y.length : Nat) : Int) := by omega
    obtain ⟨n, hn⟩ : ∃ n, x.length - y.length = n := ⟨_, rfl⟩
    rw [hn] at hxx hsub
    have hlI : (y.length : Int) ≤ (x.length : Int) := by omega
    have hn0 : (0 : Int) ≤ (n : Int) := by omega
    have hnx : (n : Int) ≤ (x.length : Int) := by omega
    have HR := Lib.hid hr2
    clear hr hz hr2 hn
    go_enter Tryz.func12, Tryz.ntmps12
    go_wp2_with fail
    go_ret
    exact ⟨by rw [← HR.out]; show Ending.returned (.bool (z == y)) = _; rw [show (z == y) = decide (z = y) by rw [Bool.eq_iff_iff]; simp], Kp.refl _ _⟩
  · have hlI : ¬ (y.length : Int) ≤ (x.length : Int) := by omega
    have HR : Hid (r = false) := Lib.hid (by rw [← hr]; unfold Pl.endsB; rw [decide_eq_false hl]; rfl)
    clear hr
    go_enter Tryz.func12, Tryz.ntmps12
    go_wp2_with fail
    go_ret
    exact ⟨by rw [HR.out]; rfl, Kp.refl _ _⟩
end Go.Proofs.YtggplbenliaodaaGreatDoor
