/- The reference's Expand, Member, Split. Conditions: strings of at most 10^9 bytes. -/
import Derived.Test.YtnchipahdfbliaaGreatDoorRnd
namespace Go.Proofs.YtnchipahdfbliaaGreatDoor
open Go.RowKit

/-- A row of strings and whether there is one. -/
def StrsAre (o : Option (List (List UInt8))) (w : World) (e : Ending) (w' : World) : Prop := (match o with
 | some l => ∃ ao cap, e = .returned (.tuple #[.slice ao l.length cap, .bool true]) ∧ LiesAt 1 strVal w' ao cap l
 | none => e = .returned (.tuple #[.slice none 0 0, .bool false])) ∧ Kp w w' none
theorem lies_str (w : World) (s : List UInt8) : LiesAt 1 strVal (w.alloc (.cells #[str s] 9)) (some ⟨w.heap.size, 0, none⟩) 1 [s] := fun k hk => by
 have h0 : k = 0 := by simpa using hk
 subst h0
 refine ⟨w.heap.size, 0, rfl, by simp, by simp, fun j hj => ?_⟩
 have h1 : j = 0 := by simpa [strVal] using hj
 subst h1
 exact hcell (heap_alloc_new w _) 0 rfl
theorem bus_rng {s nm : List UInt8} {a b : Int} (h : busI s = some (nm, a, b)) : nm.length ≤ s.length ∧ (0 ≤ a ∧ a ≤ 999) ∧ (0 ≤ b ∧ b ≤ 999) ∧ a - b ≤ 15 ∧ b - a ≤ 15 := by
 unfold busI at h
 split at h
 ·cases h
 ·rename_i name rest hc
  have hl := (Wr.cut1_some hc).1
  split at h
  ·split at h
   ·cases he : Ru.endsI rest.dropLast with
    | none => rw [he] at h; cases h
    | some p =>
     rw [he] at h
     have hp : ∀ x y q, Ru.pairR (Ru.idxR x) (Ru.idxR y) = some q → (0 ≤ q.1 ∧ q.1 ≤ 999) ∧ (0 ≤ q.2 ∧ q.2 ≤ 999) ∧ q.1 - q.2 ≤ 15 ∧ q.2 - q.1 ≤ 15 := fun x y q hq => by
      have h1 := Ru.idxR_bound x
      have h2 := Ru.idxR_bound y
      unfold Ru.pairR at hq
      split at hq
      ·cases hq
      ·injection hq with hq; subst hq; dsimp only; omega
     have hp2 : (0 ≤ p.1 ∧ p.1 ≤ 999) ∧ (0 ≤ p.2 ∧ p.2 ≤ 999) ∧ p.1 - p.2 ≤ 15 ∧ p.2 - p.1 ≤ 15 := by
      unfold Ru.endsI at he
      split at he
      ·exact hp _ _ _ he
      ·split at he
       ·exact hp _ _ _ he
       ·cases he
     injection h with h
     injection h with h1 h
     injection h with h2 h3
     subst h1; subst h2; subst h3
     exact ⟨by rw [hl, List.length_append]; omega, hp2⟩
   ·cases h
  ·cases h
theorem take_snoc {α : Type} (f : Nat → α) (K k : Nat) (h : k < K) : ((List.range K).map f).take (k + 1) = ((List.range K).map f).take k ++ [f k] := by
 rw [List.take_add_one, List.getElem?_eq_getElem (by simpa using h)]
 simp

set_option maxHeartbeats 4000000 in
set_option maxRecDepth 100000 in
theorem expand12_any (s : List UInt8) (hs : s.length ≤ 1000000000) (w : World) : Calls Tryz.prog 135 #[str s] w (StrsAre (Ru.expand s) w) := by
 have c1 := right12_any s (by omega) w
 have c2 := ends12_any s (by omega) w
 cases hn : Ru.nameR s with
 | true =>
  rw [hn] at c1
  have HO : Hid (Ru.expand s = some [s]) := Lib.hid (by unfold Ru.expand; rw [if_pos hn])
  clear hn c2
  go_enter Tryz.func135, Tryz.ntmps135
  go_wp2_with (go_at_call 63; refine c1.mono ?_; rintro e w1 ⟨rfl, hw1⟩; subst w1)
  go_ret2
  exact ⟨by rw [HO.out]; exact ⟨_, _, rfl, lies_str _ s⟩, (Kp.refl _ _).alloc _⟩
 | false =>
  rw [hn] at c1
  have HO0 : Hid (Ru.expand s = (busI s).map fun p => Ru.members p.1 p.2.1 p.2.2) := Lib.hid (by unfold Ru.expand; rw [if_neg (by simp [hn]), bus_ref])
  clear hn
  cases hb : busI s with
  | none =>
   rw [hb] at c2
   have HO : Hid (Ru.expand s = none) := Lib.hid (by rw [HO0.out, hb]; rfl)
   have c2 : Calls Tryz.prog 151 #[str s] w fun e w' => e = .returned (.tuple #[.string ⟨#[]⟩, .int .i64 0, .int .i64 0, .bool false]) ∧ w' = w := c2
   clear hb HO0
   go_enter Tryz.func135, Tryz.ntmps135
   go_wp2_with (first | (go_at_call 63; refine c1.mono ?_; rintro e w1 ⟨rfl, hw1⟩; subst w1) | (go_at_call 151; refine c2.mono ?_; rintro e w1 ⟨rfl, hw1⟩; subst w1))
   go_ret2
   exact ⟨by rw [HO.out]; rfl, Kp.refl _ _⟩
  | some p =>
   obtain ⟨nm, a, b⟩ := p
   obtain ⟨hnl, ha, hbb, hd1, hd2⟩ := bus_rng hb
   rw [hb] at c2
   have HO : Hid (Ru.expand s = some (Ru.members nm a b)) := Lib.hid (by rw [HO0.out, hb]; rfl)
   have c2 : Calls Tryz.prog 151 #[str s] w fun e w' => e = .returned (.tuple #[str nm, .int .i64 a, .int .i64 b, .bool true]) ∧ w' = w := c2
   have hnl : nm.length ≤ 1000000000 := by omega
   obtain ⟨ha0, ha1⟩ := ha
   obtain ⟨hb0, hb1⟩ := hbb
   clear hb HO0
   go_enter Tryz.func135, Tryz.ntmps135
   by_cases hba : b < a
   ·obtain ⟨K, hK⟩ : ∃ K : Nat, (K : Int) = a - b + 1 := ⟨(a - b + 1).toNat, by omega⟩
    have hmem : Ru.members nm a b = (List.range K).map (fun k : Nat => Ru.memb nm (a + -(k : Int))) := Ru.members_step nm a b (-1) (by rw [if_pos hba]) K (by rw [hK]; omega) |>.trans (List.map_congr_left fun k _ => by rw [show a + -1 * (k : Int) = a + -(k : Int) by omega])
    have HME := Lib.hid hmem
    clear hmem
    have hbI : b < a := hba
    go_wp2_with (first | (go_at_call 63; refine c1.mono ?_; rintro e w1 ⟨rfl, hw1⟩; subst w1) | (go_at_call 151; refine c2.mono ?_; rintro e w1 ⟨rfl, hw1⟩; subst w1))
    go_loopw [9, 11] (fun lv i wr => ∃ k : Nat, k ≤ K ∧ i = .int .i64 (a - (k : Int)) ∧ Hid (wr.ownsRow w.heap.size 9 1 lv k ((((List.range K).map (fun k : Nat => Ru.memb nm (a + -(k : Int)))).take k).flatMap strVal)) ∧ Hid (Kp w wr none)) (fun _ i _ => ((intOf i - (b - 1)).toNat))
    case atStart => exact ⟨0, Nat.zero_le _, by simp, Lib.hid ⟨rfl, .inl ⟨rfl, rfl⟩⟩, Lib.hid (Kp.refl _ _)⟩
    case round =>
     obtain ⟨k, hk, rfl, HOW, HK⟩ := hrel
     have hk0 : (0 : Int) ≤ (k : Int) := by omega
     by_cases hlt : k < K
     ·have hne : (a - (k : Int) != b + -1) = true := by simp; omega
      have hi0 : 0 ≤ a - (k : Int) := by omega
      have hi1 : a - (k : Int) ≤ 999 := by omega
      have cD := dec152_any 1000 (a - (k : Int)) hi0 (by omega) (by unfold Wr.I64; omega) wr
      have hil : (Lib.itoa (a - (k : Int))).length ≤ 20 := Wr.itoa_length _ (by unfold Wr.I64; omega)
      obtain ⟨d, hd⟩ : ∃ x, Lib.itoa (a - (k : Int)) = x := ⟨_, rfl⟩
      rw [hd] at cD hil
      obtain ⟨f1, hf1⟩ : ∃ x, nm ++ [91] = x := ⟨_, rfl⟩
      have hc1 : (⟨nm.toArray⟩ : ByteArray) ++ ⟨#[91]⟩ = ⟨f1.toArray⟩ := by rw [← hf1]; exact cat_eq nm [91]
      have hl1 : f1.length ≤ 1000000001 := by rw [← hf1, List.length_append]; simp; omega
      obtain ⟨f2, hf2⟩ : ∃ x, f1 ++ d = x := ⟨_, rfl⟩
      have hc2 : (⟨f1.toArray⟩ : ByteArray) ++ ⟨d.toArray⟩ = ⟨f2.toArray⟩ := by rw [← hf2]; exact cat_eq f1 d
      have hl2 : f2.length ≤ 1000000021 := by rw [← hf2, List.length_append]; omega
      obtain ⟨f3, hf3⟩ : ∃ x, f2 ++ [93] = x := ⟨_, rfl⟩
      have hc3 : (⟨f2.toArray⟩ : ByteArray) ++ ⟨#[93]⟩ = ⟨f3.toArray⟩ := by rw [← hf3]; exact cat_eq f2 [93]
      have HF : Hid (((List.range K).map (fun k : Nat => Ru.memb nm (a + -(k : Int)))).take (k + 1) = ((List.range K).map (fun k : Nat => Ru.memb nm (a + -(k : Int)))).take k ++ [f3]) := Lib.hid (by
       rw [take_snoc _ K k hlt]
       congr 2
       rw [← hf3, ← hf2, ← hf1, ← hd]
       show Ru.memb nm (a + -(k : Int)) = _
       rw [show a + -(k : Int) = a - (k : Int) by omega]
       simp [Ru.memb])
      obtain ⟨i0, hi, hz0, hz1, hz2⟩ := info_parts info9
      have hcm : k + 1 ≤ maxLen := by unfold maxLen; omega
      have hcb : (k + 1) * 16 ≤ 140737488355328 := by omega
      clear hd hf1 hf2 hf3
      go_wp2_with (first | (go_at_call 152; refine cD.mono ?_; rintro e w3 ⟨rfl, hk3⟩; have HK3 := Lib.hid hk3; have hz3 := (HK.out.trans hk3).size; clear hk3) | (at_builtin; go_must (refine wpList_append_lies _ (by rfl) _ _ _ (by rfl) w.heap.size 9 i0 _ 1 16 Tryz.underlying68 hi hz0 hz1 hz2 rfl (by omega) u9 k ((((List.range K).map (fun k : Nat => Ru.memb nm (a + -(k : Int)))).take k).flatMap strVal) (by rfl) ((own_kp HOW.out HK3.out).alloc _) ⟨w3.heap.size, 0, none⟩ 1 1 #[str f3].toList (by rfl) (by rfl) (World.news_of_block (cs := #[str f3]) (t := 9) (fr := (0, 0)) (heap_alloc_new w3 _)) (by simp [Value.oneCell']) (by omega) hcm hcb (by simp; omega) (w3.heap.size + 1) (by simp) ?_)))
      intro gg capg w5 hown5 hgrow5 hor5 hgl5
      have HOW5 : Hid (w5.ownsRow w.heap.size 9 1 (.slice (some ⟨gg, 0, none⟩) (k + 1) capg) (k + 1) ((((List.range K).map (fun k : Nat => Ru.memb nm (a + -(k : Int)))).take (k + 1)).flatMap strVal)) := Lib.hid (by rw [HF.out, List.flatMap_append]; exact hown5)
      have HK5 : Hid (Kp w w5 none) := Lib.hid (Kp.row ((HK.out.trans HK3.out).alloc _) hgrow5 (fun r hr => (HOW.out.lt r hr).1))
      clear hown5 hgrow5 hor5
      go_wp2_with fail
      go_roundw
      case rel => exact ⟨k + 1, hlt, by go_num, HOW5, HK5⟩
      case measure => simp [intOf]; omega
     ·obtain rfl : k = K := by omega
      have hne : (a - (k : Int) != b + -1) = false := by simp; omega
      have hlen : (Ru.members nm a b).length = k := by rw [HME.out]; simp
      have HOW2 : Hid (wr.ownsRow w.heap.size 9 1 u9 (Ru.members nm a b).length ((Ru.members nm a b).flatMap strVal)) := Lib.hid (by
       have h := HOW.out
       rw [List.take_of_length_le (by simp)] at h
       rw [hlen, HME.out]; exact h)
      obtain ⟨ao, cp, hlv⟩ := own_slice HOW2.out
      subst hlv
      have HLI := Lib.hid (own_lies (m := 1) (f := strVal) (fun _ => rfl) HOW2.out).2
      clear hlen
      go_wp2_with fail
      go_ret2
      exact ⟨by rw [HO.out]; exact ⟨_, _, rfl, HLI.out⟩, HK.out⟩
   ·obtain ⟨K, hK⟩ : ∃ K : Nat, (K : Int) = b - a + 1 := ⟨(b - a + 1).toNat, by omega⟩
    have hmem : Ru.members nm a b = (List.range K).map (fun k : Nat => Ru.memb nm (a + (k : Int))) := Ru.members_step nm a b (1) (by rw [if_neg hba]) K (by rw [hK]; omega) |>.trans (List.map_congr_left fun k _ => by rw [show a + 1 * (k : Int) = a + (k : Int) by omega])
    have HME := Lib.hid hmem
    clear hmem
    have hbI : ¬ b < a := hba
    go_wp2_with (first | (go_at_call 63; refine c1.mono ?_; rintro e w1 ⟨rfl, hw1⟩; subst w1) | (go_at_call 151; refine c2.mono ?_; rintro e w1 ⟨rfl, hw1⟩; subst w1))
    go_loopw [9, 11] (fun lv i wr => ∃ k : Nat, k ≤ K ∧ i = .int .i64 (a + (k : Int)) ∧ Hid (wr.ownsRow w.heap.size 9 1 lv k ((((List.range K).map (fun k : Nat => Ru.memb nm (a + (k : Int)))).take k).flatMap strVal)) ∧ Hid (Kp w wr none)) (fun _ i _ => ((b + 1 - intOf i).toNat))
    case atStart => exact ⟨0, Nat.zero_le _, by simp, Lib.hid ⟨rfl, .inl ⟨rfl, rfl⟩⟩, Lib.hid (Kp.refl _ _)⟩
    case round =>
     obtain ⟨k, hk, rfl, HOW, HK⟩ := hrel
     have hk0 : (0 : Int) ≤ (k : Int) := by omega
     by_cases hlt : k < K
     ·have hne : (a + (k : Int) != b + 1) = true := by simp; omega
      have hi0 : 0 ≤ a + (k : Int) := by omega
      have hi1 : a + (k : Int) ≤ 999 := by omega
      have cD := dec152_any 1000 (a + (k : Int)) hi0 (by omega) (by unfold Wr.I64; omega) wr
      have hil : (Lib.itoa (a + (k : Int))).length ≤ 20 := Wr.itoa_length _ (by unfold Wr.I64; omega)
      obtain ⟨d, hd⟩ : ∃ x, Lib.itoa (a + (k : Int)) = x := ⟨_, rfl⟩
      rw [hd] at cD hil
      obtain ⟨f1, hf1⟩ : ∃ x, nm ++ [91] = x := ⟨_, rfl⟩
      have hc1 : (⟨nm.toArray⟩ : ByteArray) ++ ⟨#[91]⟩ = ⟨f1.toArray⟩ := by rw [← hf1]; exact cat_eq nm [91]
      have hl1 : f1.length ≤ 1000000001 := by rw [← hf1, List.length_append]; simp; omega
      obtain ⟨f2, hf2⟩ : ∃ x, f1 ++ d = x := ⟨_, rfl⟩
      have hc2 : (⟨f1.toArray⟩ : ByteArray) ++ ⟨d.toArray⟩ = ⟨f2.toArray⟩ := by rw [← hf2]; exact cat_eq f1 d
      have hl2 : f2.length ≤ 1000000021 := by rw [← hf2, List.length_append]; omega
      obtain ⟨f3, hf3⟩ : ∃ x, f2 ++ [93] = x := ⟨_, rfl⟩
      have hc3 : (⟨f2.toArray⟩ : ByteArray) ++ ⟨#[93]⟩ = ⟨f3.toArray⟩ := by rw [← hf3]; exact cat_eq f2 [93]
      have HF : Hid (((List.range K).map (fun k : Nat => Ru.memb nm (a + (k : Int)))).take (k + 1) = ((List.range K).map (fun k : Nat => Ru.memb nm (a + (k : Int)))).take k ++ [f3]) := Lib.hid (by
       rw [take_snoc _ K k hlt]
       congr 2
       rw [← hf3, ← hf2, ← hf1, ← hd]
       show Ru.memb nm (a + (k : Int)) = _
       rw [show a + (k : Int) = a + (k : Int) by omega]
       simp [Ru.memb])
      obtain ⟨i0, hi, hz0, hz1, hz2⟩ := info_parts info9
      have hcm : k + 1 ≤ maxLen := by unfold maxLen; omega
      have hcb : (k + 1) * 16 ≤ 140737488355328 := by omega
      clear hd hf1 hf2 hf3
      go_wp2_with (first | (go_at_call 152; refine cD.mono ?_; rintro e w3 ⟨rfl, hk3⟩; have HK3 := Lib.hid hk3; have hz3 := (HK.out.trans hk3).size; clear hk3) | (at_builtin; go_must (refine wpList_append_lies _ (by rfl) _ _ _ (by rfl) w.heap.size 9 i0 _ 1 16 Tryz.underlying68 hi hz0 hz1 hz2 rfl (by omega) u9 k ((((List.range K).map (fun k : Nat => Ru.memb nm (a + (k : Int)))).take k).flatMap strVal) (by rfl) ((own_kp HOW.out HK3.out).alloc _) ⟨w3.heap.size, 0, none⟩ 1 1 #[str f3].toList (by rfl) (by rfl) (World.news_of_block (cs := #[str f3]) (t := 9) (fr := (0, 0)) (heap_alloc_new w3 _)) (by simp [Value.oneCell']) (by omega) hcm hcb (by simp; omega) (w3.heap.size + 1) (by simp) ?_)))
      intro gg capg w5 hown5 hgrow5 hor5 hgl5
      have HOW5 : Hid (w5.ownsRow w.heap.size 9 1 (.slice (some ⟨gg, 0, none⟩) (k + 1) capg) (k + 1) ((((List.range K).map (fun k : Nat => Ru.memb nm (a + (k : Int)))).take (k + 1)).flatMap strVal)) := Lib.hid (by rw [HF.out, List.flatMap_append]; exact hown5)
      have HK5 : Hid (Kp w w5 none) := Lib.hid (Kp.row ((HK.out.trans HK3.out).alloc _) hgrow5 (fun r hr => (HOW.out.lt r hr).1))
      clear hown5 hgrow5 hor5
      go_wp2_with fail
      go_roundw
      case rel => exact ⟨k + 1, hlt, by go_num, HOW5, HK5⟩
      case measure => simp [intOf]; omega
     ·obtain rfl : k = K := by omega
      have hne : (a + (k : Int) != b + 1) = false := by simp; omega
      have hlen : (Ru.members nm a b).length = k := by rw [HME.out]; simp
      have HOW2 : Hid (wr.ownsRow w.heap.size 9 1 u9 (Ru.members nm a b).length ((Ru.members nm a b).flatMap strVal)) := Lib.hid (by
       have h := HOW.out
       rw [List.take_of_length_le (by simp)] at h
       rw [hlen, HME.out]; exact h)
      obtain ⟨ao, cp, hlv⟩ := own_slice HOW2.out
      subst hlv
      have HLI := Lib.hid (own_lies (m := 1) (f := strVal) (fun _ => rfl) HOW2.out).2
      clear hlen
      go_wp2_with fail
      go_ret2
      exact ⟨by rw [HO.out]; exact ⟨_, _, rfl, HLI.out⟩, HK.out⟩
end Go.Proofs.YtnchipahdfbliaaGreatDoor
