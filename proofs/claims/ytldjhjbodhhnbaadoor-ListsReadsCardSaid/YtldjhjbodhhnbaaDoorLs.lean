/- The lines of a text, as the reference parts it. Condition: the text is shorter than 2^20 bytes. -/
import Derived.Test.YtldjhjbodhhnbaaDoorWf
namespace Go.Proofs.YtldjhjbodhhnbaaDoor
open Go.RowKit

def vStr (s : List UInt8) : Value := .string ⟨s.toArray⟩
theorem info9 : (Tryd.prog.info? 9).map (fun i => (i.zero, i.size, i.bytes)) = some (some (.string ⟨#[]⟩), 1, 16) := by kernel_rfl
theorem Kp.row {W w w' : World} {row rb : Option Nat} (h0 : Kp W w row) (h : Kp w w' rb) (hr : ∀ k, rb = some k → W.heap.size ≤ k) : Kp W w' row := by
  cases rb with
  | none => exact h0.trans (h.weak row)
  | some r => exact Kp.of_own h0 h (hr r rfl)
def LinesRel (w : World) (s : List UInt8) (v fr i : Value) (wr : World) : Prop :=
  ∃ (f k : Nat) (outs : List (List UInt8)), f ≤ k ∧ k ≤ s.length ∧ i = .int .i64 k ∧ fr = .int .i64 f ∧ Li.linesL s = outs ++ Li.linesL (s.drop f) ∧ (∀ j, f ≤ j → j < k → s[j]? ≠ some 10) ∧ wr.ownsRow w.heap.size 9 1 v outs.length (outs.map vStr) ∧ outs.length ≤ f ∧ Kp w wr none
theorem lines_at {s : List UInt8} {f k : Nat} (hf : f ≤ k) (h : ∀ j, f ≤ j → j < k → s[j]? ≠ some 10) (hk : s[k]? = some 10) : Li.linesL (s.drop f) = ((s.take (k + 1)).drop f) :: Li.linesL (s.drop (k + 1)) := by
  have hc : Wr.cut1 10 (s.drop f) = some ((s.drop f).take (k - f), (s.drop f).drop (k - f + 1)) := Wr.cut1_of_prefix (k - f) (fun i hi => by rw [List.getElem?_drop]; exact h (f + i) (by omega) (by omega)) (by rw [List.getElem?_drop, show f + (k - f) = k by omega]; exact hk)
  have hlt := (List.getElem?_eq_some_iff.1 hk).1
  rw [Li.lines_cut hc, List.drop_drop, show f + (k - f + 1) = k + 1 by omega]
  congr 1
  rw [List.drop_take, show k + 1 - f = (k - f) + 1 by omega, List.take_succ_eq_append_getElem (by rw [List.length_drop]; omega)]
  congr 1
  have := List.getElem?_eq_some_iff.1 hk
  rw [List.getElem_drop]
  obtain ⟨h1, h2⟩ := this
  simp only [show f + (k - f) = k by omega, h2]
theorem lines_last {s : List UInt8} {f : Nat} (h : ∀ j, f ≤ j → j < s.length → s[j]? ≠ some 10) : Li.linesL (s.drop f) = [s.drop f] := by
  refine Li.lines_none (Wr.cut1_none_of fun i hi => ?_)
  rw [List.length_drop] at hi
  rw [List.getElem?_drop]
  exact h (f + i) (by omega) (by omega)
def LinesEnds (w : World) (s : List UInt8) (E : Ending) (w' : World) : Prop := ∃ v, E = .returned v ∧ w'.ownsRow w.heap.size 9 1 v (Li.linesL s).length ((Li.linesL s).map vStr) ∧ Kp w w' none
set_option maxHeartbeats 4000000 in
set_option maxRecDepth 100000 in
theorem lines_any (s : List UInt8) (w : World) (hs : s.length < 1048576) : Calls Tryd.prog 31 #[.string ⟨s.toArray⟩] w (LinesEnds w s) := by
  go_enter Tryd.func31, Tryd.ntmps31
  go_wp2_with fail
  go_loopw [3, 4, 5] (fun v fr i wr => LinesRel w s v fr i wr) (fun _ _ i _ => s.length - (intOf i).toNat)
  case atStart => exact ⟨0, 0, [], Nat.le_refl _, Nat.zero_le _, rfl, rfl, by simp, fun j h1 h2 => by omega, World.ownsRow_nil _ _ _ _, Nat.le_refl _, Kp.refl _ _⟩
  case round =>
    obtain ⟨f, k, outs, hfk, hk, rfl, rfl, hl, hno, hown, hof, hK⟩ := hrel
    have HL := Lib.hid hl
    have HNO := Lib.hid hno
    have HO := Lib.hid hown
    have HK := Lib.hid hK
    have hbz := HK.out.size
    clear hl hno hown hK
    have hcm : outs.length + 1 ≤ maxLen := by unfold maxLen; omega
    have hcb : (outs.length + 1) * 16 ≤ 140737488355328 := by omega
    obtain ⟨i0, hi, hz0, hz1, hz2⟩ := info_parts info9
    have hf0 : (0 : Int) ≤ (f : Int) := by omega
    have hk0 : (0 : Int) ≤ (k : Int) := by omega
    by_cases hlt : k < s.length
    · obtain ⟨c, hc⟩ : ∃ c, s[k] = c := ⟨_, rfl⟩
      have hx0 : ∀ h', (⟨s.toArray⟩ : ByteArray)[k]'h' = c := fun _ => hc
      have HC : Hid (s[k]? = some c) := Lib.hid (by rw [List.getElem?_eq_getElem hlt, hc])
      clear hc
      have hk1 : (k : Int) < (s.length : Int) := by omega
      by_cases h10 : c = 10
      · subst h10
        obtain ⟨ln, hln⟩ : ∃ ln, (s.take (k + 1)).drop f = ln := ⟨_, rfl⟩
        have hx : (⟨s.toArray⟩ : ByteArray).extract f (k + 1) = ⟨ln.toArray⟩ := by rw [ext_mid, hln]
        have HLN := Lib.hid hln
        have hfk1 : (f : Int) ≤ (k : Int) + 1 := by omega
        have hks : (k : Int) + 1 ≤ (s.length : Int) := by omega
        clear hln
        go_wp2_with (at_builtin; go_must (refine wpList_append_lies _ (by rfl) _ _ _ (by rfl) w.heap.size 9 i0 _ 1 16 Tryd.underlying43 hi hz0 hz1 hz2 rfl (by omega) u3 outs.length (outs.map vStr) (by rfl) (HO.out.alloc _) ⟨wr.heap.size, 0, none⟩ 1 1 [.string ⟨ln.toArray⟩] (by rfl) (by rfl) (World.news_of_block (cs := #[.string ⟨ln.toArray⟩]) (t := 9) (fr := (0, 0)) (heap_alloc_new wr _)) (by simp [Value.oneCell']) (by omega) hcm hcb (by simp; omega) (wr.heap.size + 1) (by simp) ?_))
        intro gg capg w4 hown4 hgrow4 _ _
        have HREL : Hid (LinesRel w s (.slice (some ⟨gg, 0, none⟩) (outs.length + 1) capg) (.int .i64 (k + 1)) (.int .i64 (k + 1)) w4) := Lib.hid ⟨k + 1, k + 1, outs ++ [ln], Nat.le_refl _, hlt, by go_num, by go_num, by rw [HL.out, lines_at hfk HNO.out HC.out, HLN.out]; simp, fun j h1 h2 => by omega, by rw [List.map_append, List.length_append]; exact hown4, by simp; omega, Kp.row (HK.out.alloc _) hgrow4 (fun j hj => (HO.out.lt j hj).1)⟩
        clear hown4 hgrow4 hx
        go_wp2_with fail
        first | exact ⟨HREL.out, by simp [intOf]; omega⟩ | (go_roundw; all_goals first | exact HREL.out | (simp [intOf]; omega) | ((repeat apply Exists.intro); exact ⟨HREL.out, rfl⟩))
      · have hcn : ((c.toNat : Int) == 10) = false := beq_eq_false_iff_ne.2 (fun e => h10 (UInt8.toNat.inj (by show c.toNat = 10; omega)))
        have HREL : Hid (LinesRel w s u3 (.int .i64 f) (.int .i64 (k + 1)) wr) := Lib.hid ⟨f, k + 1, outs, by omega, hlt, by go_num, rfl, HL.out, fun j h1 h2 => by
          rcases Nat.lt_or_ge j k with h | h
          · exact HNO.out j h1 h
          · obtain rfl : j = k := by omega
            rw [HC.out]; intro e; injection e with e; exact h10 e, HO.out, hof, HK.out⟩
        go_wp2_with fail
        first | exact ⟨HREL.out, by simp [intOf]; omega⟩ | (go_roundw; all_goals first | exact HREL.out | (simp [intOf]; omega) | ((repeat apply Exists.intro); exact ⟨HREL.out, rfl⟩))
    · obtain rfl : k = s.length := by omega
      obtain ⟨ln, hln⟩ : ∃ ln, s.drop f = ln := ⟨_, rfl⟩
      have hx : (⟨s.toArray⟩ : ByteArray).extract f s.length = ⟨ln.toArray⟩ := by rw [ext_drop, hln]
      have HLN := Lib.hid hln
      have hfs : (f : Int) ≤ (s.length : Int) := by omega
      clear hln
      go_wp2_with (at_builtin; go_must (refine wpList_append_lies _ (by rfl) _ _ _ (by rfl) w.heap.size 9 i0 _ 1 16 Tryd.underlying43 hi hz0 hz1 hz2 rfl (by omega) u3 outs.length (outs.map vStr) (by rfl) (HO.out.alloc _) ⟨wr.heap.size, 0, none⟩ 1 1 [.string ⟨ln.toArray⟩] (by rfl) (by rfl) (World.news_of_block (cs := #[.string ⟨ln.toArray⟩]) (t := 9) (fr := (0, 0)) (heap_alloc_new wr _)) (by simp [Value.oneCell']) (by omega) hcm hcb (by simp; omega) (wr.heap.size + 1) (by simp) ?_))
      intro gg capg w4 hown4 hgrow4 _ _
      have HE : Hid (LinesEnds w s (.returned (.slice (some ⟨gg, 0, none⟩) (outs.length + 1) capg)) w4) := Lib.hid ⟨_, rfl, by rw [HL.out, lines_last HNO.out, HLN.out, List.map_append, List.length_append]; exact hown4, Kp.row (HK.out.alloc _) hgrow4 (fun j hj => (HO.out.lt j hj).1)⟩
      clear hown4 hgrow4 hx
      go_wp2_with fail
      go_ret
      exact HE.out
end Go.Proofs.YtldjhjbodhhnbaaDoor
