/- The reference's Member, parts, Split. Conditions: strings of at most 10^9 bytes. -/
import Derived.Test.YtnchipahdfbliaaGreatDoorRne
import Derived.Test.YtnchipahdfbliaaGreatDoorEy
namespace Go.Proofs.YtnchipahdfbliaaGreatDoor
open Go.RowKit

set_option maxHeartbeats 4000000 in
set_option maxRecDepth 100000 in
theorem member12_any (s : List UInt8) (hs : s.length ≤ 1000000000) (w : World) : Calls Tryz.prog 117 #[str s] w fun e w' => e = .returned (.bool (Ru.member s)) ∧ Kp w w' none := by
 have c1 := expand12_any s hs w
 cases hx : Ru.expand s with
 | none =>
  rw [hx] at c1
  have HO : Hid (Ru.member s = false) := Lib.hid (by unfold Ru.member; rw [hx]; rfl)
  have c1 : Calls Tryz.prog 135 #[str s] w fun e w' => e = .returned (.tuple #[.slice none 0 0, .bool false]) ∧ Kp w w' none := c1
  clear hx
  go_enter Tryz.func117, Tryz.ntmps117
  go_wp2_with (go_at_call 135; refine c1.mono ?_; rintro e w1 ⟨rfl, hk1⟩)
  go_ret
  exact ⟨by rw [HO.out]; rfl, hk1⟩
 | some l =>
  rw [hx] at c1
  have c1 : Calls Tryz.prog 135 #[str s] w fun e w' => (∃ ao cap, e = .returned (.tuple #[.slice ao l.length cap, .bool true]) ∧ LiesAt 1 strVal w' ao cap l) ∧ Kp w w' none := c1
  by_cases h1 : l.length = 1
  ·obtain ⟨x, rfl⟩ := List.length_eq_one_iff.1 h1
   have HO : Hid (Ru.member s = (x == s)) := Lib.hid (by unfold Ru.member; rw [hx]; show ([x] == [s]) = _; simp)
   have c1 : Calls Tryz.prog 135 #[str s] w fun e w' => (∃ (b off cap : Nat), e = .returned (.tuple #[.slice (some ⟨b, off, none⟩) 1 cap, .bool true]) ∧ w'.cell? ⟨b, off, none⟩ = some (str x) ∧ 1 ≤ cap) ∧ Hid (Kp w w' none) := c1.mono fun e w' ⟨⟨ao, cap, h1, h2⟩, h3⟩ => by
    obtain ⟨b, off, rfl, _, hc, hr⟩ := h2 0 (by simp)
    exact ⟨⟨b, off, cap, h1, by have := hr 0 (by simp [strVal]); simpa [strVal] using this, by simpa using hc⟩, Lib.hid h3⟩
   clear hx h1
   by_cases he : x = s
   ·have hb : (x == s) = true := by rw [he]; simp
    rw [hb] at HO
    clear he
    go_enter Tryz.func117, Tryz.ntmps117
    go_wp2_with (go_at_call 135; refine c1.mono ?_; rintro e w1 ⟨⟨b, off, cap, rfl, hc, hcap⟩, hk1⟩)
    go_ret
    exact ⟨by rw [HO.out]; rfl, hk1.out⟩
   ·have hb : (x == s) = false := by simpa using he
    rw [hb] at HO
    clear he
    go_enter Tryz.func117, Tryz.ntmps117
    go_wp2_with (go_at_call 135; refine c1.mono ?_; rintro e w1 ⟨⟨b, off, cap, rfl, hc, hcap⟩, hk1⟩)
    go_ret
    exact ⟨by rw [HO.out]; rfl, hk1.out⟩
  ·have HO : Hid (Ru.member s = false) := Lib.hid (by
    unfold Ru.member; rw [hx]
    cases hb : (some l == some [s]) with
    | false => rfl
    | true =>
     have : l = [s] := by simpa using hb
     rw [this] at h1; exact absurd rfl h1)
   have hb1 : ((l.length : Int) == 1) = false := by simp; omega
   clear hx h1
   go_enter Tryz.func117, Tryz.ntmps117
   go_wp2_with (go_at_call 135; refine c1.mono ?_; rintro e w1 ⟨⟨ao, cap, rfl, hl⟩, hk1⟩)
   go_ret
   exact ⟨by rw [HO.out]; rfl, hk1⟩

/-- A row of strings. -/
def StrsIs (l : List (List UInt8)) (w : World) (e : Ending) (w' : World) : Prop := (∃ ao cap, e = .returned (.slice ao l.length cap) ∧ LiesAt 1 strVal w' ao cap l) ∧ Kp w w' none

set_option maxHeartbeats 4000000 in
set_option maxRecDepth 100000 in
theorem parts12_any (s : List UInt8) (hs : s.length ≤ 1000000000) (w : World) : Calls Tryz.prog 116 #[str s] w (StrsIs (Ru.pieces 47 s) w) := by
 have hl0 : (0 : Int) ≤ (s.length : Int) := by omega
 go_enter Tryz.func116, Tryz.ntmps116
 go_wp2_with fail
 go_loopw [3, 4, 5] (fun lv f i wr => ∃ (k fr q : Nat) (out : List (List UInt8)), k ≤ s.length + 1 ∧ fr ≤ k ∧ q ≤ k ∧ i = .int .i64 (k : Int) ∧ f = .int .i64 (fr : Int) ∧ out.length = q ∧ Hid (wr.ownsRow w.heap.size 9 1 lv q (out.flatMap strVal)) ∧ Hid (k ≤ s.length → Ru.pieces 47 s = out ++ Ru.pieces 47 (s.drop fr)) ∧ Hid (k = s.length + 1 → Ru.pieces 47 s = out) ∧ Hid (∀ i, fr ≤ i → i < k → s[i]? ≠ some 47) ∧ Hid (Kp w wr none)) (fun _ _ i _ => s.length + 1 - (intOf i).toNat)
 case atStart => exact ⟨0, 0, 0, [], by omega, by omega, by omega, rfl, rfl, rfl, Lib.hid ⟨rfl, .inl ⟨rfl, rfl⟩⟩, Lib.hid (fun _ => by simp), Lib.hid (fun h => by omega), Lib.hid (fun i h1 h2 => by omega), Lib.hid (Kp.refl _ _)⟩
 case round =>
  obtain ⟨k, fr, q, out, hk, hfk, hqk, rfl, rfl, hol, HOW, HPC, HEND, HNO, HK⟩ := hrel
  have hk0 : (0 : Int) ≤ (k : Int) := by omega
  have hf0 : (0 : Int) ≤ (fr : Int) := by omega
  by_cases hlt : k ≤ s.length
  ·have hk1 : (k : Int) ≤ (s.length : Int) := by omega
   by_cases hend : k = s.length
   ·subst hend
    have hfs : (fr : Int) ≤ (s.length : Int) := by omega
    obtain ⟨pc, hpc⟩ : ∃ x, (s.take s.length).drop fr = x := ⟨_, rfl⟩
    have hxp : (⟨s.toArray⟩ : ByteArray).extract fr s.length = ⟨pc.toArray⟩ := by rw [ext_mid, hpc]
    have HP5 : Hid (Ru.pieces 47 s = (out ++ [pc])) := Lib.hid (by
     rw [HPC.out (by omega), Ru.pieces_last 47 s fr HNO.out, ← hpc, List.take_length]
     skip)
    have hol2 : (out ++ [pc]).length = q + 1 := by rw [List.length_append, hol]; rfl
    obtain ⟨i0, hi, hz0, hz1, hz2⟩ := info_parts info9
    have hcm : q + 1 ≤ maxLen := by unfold maxLen; omega
    have hcb : (q + 1) * 16 ≤ 140737488355328 := by omega
    have hzr := HK.out.size
    clear hpc
    go_wp2_with (at_builtin; go_must (refine wpList_append_lies _ (by rfl) _ _ _ (by rfl) w.heap.size 9 i0 _ 1 16 Tryz.underlying68 hi hz0 hz1 hz2 rfl (by omega) u3 q (out.flatMap strVal) (by rfl) ((own_kp HOW.out (Kp.refl _ _)).alloc _) ⟨wr.heap.size, 0, none⟩ 1 1 #[str pc].toList (by rfl) (by rfl) (World.news_of_block (cs := #[str pc]) (t := 9) (fr := (0, 0)) (heap_alloc_new wr _)) (by simp [Value.oneCell']) (by omega) hcm hcb (by simp; omega) (wr.heap.size + 1) (by simp) ?_))
    intro gg capg w5 hown5 hgrow5 hor5 hgl5
    have HOW5 : Hid (w5.ownsRow w.heap.size 9 1 (.slice (some ⟨gg, 0, none⟩) (q + 1) capg) (q + 1) ((out ++ [pc]).flatMap strVal)) := Lib.hid (by rw [List.flatMap_append]; exact hown5)
    have HK5 : Hid (Kp w w5 none) := Lib.hid (Kp.row (HK.out.alloc _) hgrow5 (fun r hr => (HOW.out.lt r hr).1))
    clear hown5 hgrow5 hor5
    generalize out ++ [pc] = out2 at HOW5 HP5 hol2
    go_wp2_with fail
    go_roundw
    case rel => exact ⟨s.length + 1, s.length + 1, q + 1, out2, by omega, by omega, by omega, by go_num, by go_num, hol2, HOW5, Lib.hid (fun h => by omega), Lib.hid (fun _ => HP5.out), Lib.hid (fun i h1 h2 => by omega), HK5⟩
    case measure => simp [intOf]
   ·have hlt2 : k < s.length := by omega
    have hne : ((k : Int) == (s.length : Int)) = false := by simp; omega
    have hk2 : (k : Int) < (s.length : Int) := by omega
    obtain ⟨c, hc⟩ : ∃ c, s[k] = c := ⟨_, rfl⟩
    have hx : ∀ h', (⟨s.toArray⟩ : ByteArray)[k]'h' = c := fun h' => (show s.toArray[k]'_ = s[k] by simp).trans hc
    by_cases h47 : c.toNat = 47
    ·have e47 : ((c.toNat : Int) == 47) = true := by rw [h47]; rfl
     have HC : Hid (s[k]? = some 47) := Lib.hid (by rw [List.getElem?_eq_getElem hlt2, hc]; congr 1; exact UInt8.toNat_inj.1 h47)
     have hfs : (fr : Int) ≤ (k : Int) := by omega
     clear hc h47
     obtain ⟨pc, hpc⟩ : ∃ x, (s.take k).drop fr = x := ⟨_, rfl⟩
     have hxp : (⟨s.toArray⟩ : ByteArray).extract fr k = ⟨pc.toArray⟩ := by rw [ext_mid, hpc]
     have HP5 : Hid (Ru.pieces 47 s = (out ++ [pc]) ++ Ru.pieces 47 (s.drop (k + 1))) := Lib.hid (by
      rw [HPC.out (by omega), Ru.pieces_drop 47 s fr k hfk HC.out HNO.out]
      simp [hpc])
     have hol2 : (out ++ [pc]).length = q + 1 := by rw [List.length_append, hol]; rfl
     obtain ⟨i0, hi, hz0, hz1, hz2⟩ := info_parts info9
     have hcm : q + 1 ≤ maxLen := by unfold maxLen; omega
     have hcb : (q + 1) * 16 ≤ 140737488355328 := by omega
     have hzr := HK.out.size
     clear hpc
     go_wp2_with (at_builtin; go_must (refine wpList_append_lies _ (by rfl) _ _ _ (by rfl) w.heap.size 9 i0 _ 1 16 Tryz.underlying68 hi hz0 hz1 hz2 rfl (by omega) u3 q (out.flatMap strVal) (by rfl) ((own_kp HOW.out (Kp.refl _ _)).alloc _) ⟨wr.heap.size, 0, none⟩ 1 1 #[str pc].toList (by rfl) (by rfl) (World.news_of_block (cs := #[str pc]) (t := 9) (fr := (0, 0)) (heap_alloc_new wr _)) (by simp [Value.oneCell']) (by omega) hcm hcb (by simp; omega) (wr.heap.size + 1) (by simp) ?_))
     intro gg capg w5 hown5 hgrow5 hor5 hgl5
     have HOW5 : Hid (w5.ownsRow w.heap.size 9 1 (.slice (some ⟨gg, 0, none⟩) (q + 1) capg) (q + 1) ((out ++ [pc]).flatMap strVal)) := Lib.hid (by rw [List.flatMap_append]; exact hown5)
     have HK5 : Hid (Kp w w5 none) := Lib.hid (Kp.row (HK.out.alloc _) hgrow5 (fun r hr => (HOW.out.lt r hr).1))
     clear hown5 hgrow5 hor5
     generalize out ++ [pc] = out2 at HOW5 HP5 hol2
     go_wp2_with fail
     go_roundw
     case rel => exact ⟨k + 1, k + 1, q + 1, out2, by omega, by omega, by omega, by go_num, by go_num, hol2, HOW5, Lib.hid (fun _ => HP5.out), Lib.hid (fun h => by omega), Lib.hid (fun i h1 h2 => by omega), HK5⟩
     case measure => simp [intOf]; omega
    ·have e47 : ((c.toNat : Int) == 47) = false := by simp; omega
     have HNO2 : Hid (∀ i, fr ≤ i → i < k + 1 → s[i]? ≠ some 47) := Lib.hid fun i h1 h2 => by
      rcases Nat.lt_or_ge i k with h | h
      ·exact HNO.out i h1 h
      ·obtain rfl : i = k := by omega
       rw [List.getElem?_eq_getElem hlt2, hc]
       intro e; injection e with e; exact h47 (by rw [e]; rfl)
     clear hc h47
     go_wp2_with fail
     go_roundw
     case rel => exact ⟨k + 1, fr, q, out, by omega, by omega, by omega, by go_num, rfl, hol, HOW, Lib.hid (fun _ => HPC.out (by omega)), Lib.hid (fun h => by omega), HNO2, HK⟩
     case measure => simp [intOf]; omega
  ·obtain rfl : k = s.length + 1 := by omega
   have hk1 : ¬ (s.length : Int) + 1 ≤ (s.length : Int) := by omega
   have HP : Hid (Ru.pieces 47 s = out) := Lib.hid (HEND.out rfl)
   have HOW2 : Hid (wr.ownsRow w.heap.size 9 1 u3 out.length (out.flatMap strVal)) := Lib.hid (by rw [hol]; exact HOW.out)
   obtain ⟨ao, cp, hlv⟩ := own_slice HOW2.out
   subst hlv
   have HLI := Lib.hid (own_lies (m := 1) (f := strVal) (fun _ => rfl) HOW2.out).2
   go_wp2_with fail
   go_ret
   exact ⟨⟨_, _, by rw [HP.out, hol]; rfl, by rw [HP.out]; exact HLI.out⟩, HK.out⟩
set_option maxHeartbeats 4000000 in
set_option maxRecDepth 100000 in
theorem split12_ref (s : List UInt8) (hs : s.length ≤ 1000000000) (w : World) : Calls Tryz.prog 92 #[str s] w (StrsAre (Ru.split s) w) := by
 have c1 := parts12_any s hs w
 obtain ⟨ps, hps⟩ : ∃ x, Ru.pieces 47 s = x := ⟨_, rfl⟩
 obtain ⟨n, hn⟩ : ∃ n, ps.length = n := ⟨_, rfl⟩
 have hpl : ∀ p ∈ ps, p.length ≤ 1000000000 := fun p hp => by
  have h := piece_len 47 s p (by rw [hps]; exact hp)
  omega
 have hn1 : n ≤ 1000000001 := by
  have h := piece_num 47 s
  rw [hps, hn] at h; omega
 have HO : Hid (Ru.split s = if ps.all Ru.member then some ps else none) := Lib.hid (by unfold Ru.split; rw [hps])
 rw [hps] at c1
 have c1 : Calls Tryz.prog 116 #[str s] w fun e w' => (∃ ao cap, e = .returned (.slice ao n cap) ∧ Hid (LiesAt 1 strVal w' ao cap ps)) ∧ Hid (Kp w w' none) := c1.mono fun e w' ⟨⟨ao, cap, h1, h2⟩, h3⟩ => ⟨⟨ao, cap, by rw [h1, hn], Lib.hid h2⟩, Lib.hid h3⟩
 have HN := Lib.hid hn
 have hn0 : (0 : Int) ≤ (n : Int) := by omega
 clear hps hn
 go_enter Tryz.func92, Tryz.ntmps92
 go_wp2_with (go_at_call 116; refine c1.mono ?_; rintro e w1 ⟨⟨ao, cap, rfl, HL⟩, HK1⟩)
 go_loopw [5] (fun i wr => ∃ k : Nat, k ≤ n ∧ i = .int .i64 (k : Int) ∧ Hid ((ps.take k).all Ru.member = true) ∧ Hid (Kp w1 wr none)) (fun i _ => n - (intOf i).toNat)
 case atStart => exact ⟨0, Nat.zero_le _, rfl, Lib.hid (by simp), Lib.hid (Kp.refl _ _)⟩
 case round =>
  obtain ⟨k, hk, rfl, HA, HK⟩ := hrel
  by_cases hlt : k < n
  ·have h1 : k < ps.length := by rw [HN.out]; exact hlt
   have hk1 : (k : Int) < (n : Int) := by omega
   obtain ⟨y, hy⟩ : ∃ c, ps[k] = c := ⟨_, rfl⟩
   obtain ⟨b, off, hao, hbl, hcap, hcc⟩ := LiesAt.str (HL.out.keep HK.out) k h1
   subst hao
   have hc := hcc k h1
   rw [hy] at hc
   have hcap2 : n ≤ cap := by have := HN.out; omega
   have HY := Lib.hid hy
   have cM := member12_any y (hpl y (by rw [← hy]; exact List.getElem_mem h1)) wr
   clear hcc hy hcap
   cases hm : Ru.member y with
   | true =>
    rw [hm] at cM
    have HA2 : Hid ((ps.take (k + 1)).all Ru.member = true) := Lib.hid (by
     rw [List.take_add_one, List.getElem?_eq_getElem h1, List.all_append, HA.out, HY.out]
     simp [hm])
    clear hm
    go_wp2_with (go_at_call 117; refine cM.mono ?_; rintro e w3 ⟨rfl, hk3⟩; have HK3 := Lib.hid (HK.out.trans hk3); clear hk3)
    go_roundw
    case rel => exact ⟨k + 1, hlt, by go_num, HA2, HK3⟩
    case measure => simp [intOf]; omega
   | false =>
    rw [hm] at cM
    have HR : Hid (Ru.split s = none) := Lib.hid (by
     rw [HO.out, if_neg]
     intro h
     have := List.all_eq_true.1 h ps[k] (List.getElem_mem h1)
     rw [HY.out, hm] at this; cases this)
    clear hm
    go_wp2_with (go_at_call 117; refine cM.mono ?_; rintro e w3 ⟨rfl, hk3⟩; have HK3 := Lib.hid (HK.out.trans hk3); clear hk3)
    go_ret2
    exact ⟨by rw [HR.out]; rfl, HK1.out.trans HK3.out⟩
  ·obtain rfl : k = n := by omega
   have HR : Hid (Ru.split s = some ps) := Lib.hid (by
    rw [HO.out, if_pos]
    have := HA.out
    rwa [← HN.out, List.take_length] at this)
   have HLK := Lib.hid (HL.out.keep HK.out)
   go_wp2_with fail
   go_ret2
   exact ⟨by rw [HR.out]; exact ⟨_, _, by rw [HN.out]; rfl, HLK.out⟩, HK1.out.trans HK.out⟩
end Go.Proofs.YtnchipahdfbliaaGreatDoor
