/- The program's Expand, whole, and Split. Condition: a string of at most 10^9 bytes.
  The program's Split. Condition: a string of at most 10^9 bytes. -/
import Derived.Test.YtnchipahdfbliaaGreatDoorEx

namespace Go.Proofs.YtnchipahdfbliaaGreatDoor
open Go.RowKit

theorem cut_len {s sep d r : List UInt8} {b : Bool} (h : Lib.cut s sep = (d, r, b)) : d.length ≤ s.length ∧ r.length ≤ s.length := by
 unfold Lib.cut at h
 split at h
 ·injection h with h1 h; injection h with h2 _
  rw [← h1, ← h2]
  exact ⟨by rw [List.length_take]; omega, by rw [List.length_drop]; omega⟩
 ·injection h with h1 h; injection h with h2 _
  rw [← h1, ← h2]; simp
theorem suffix_last (l : List UInt8) : Lib.hasSuffix l [93] = true ↔ l.getLast? = some 93 := by
 unfold Lib.hasSuffix
 rw [List.isSuffixOf_iff_suffix]
 constructor
 ·rintro ⟨t, rfl⟩; simp
 ·intro h
  obtain ⟨t, rfl⟩ := List.getLast?_eq_some_iff.1 h
  exact ⟨t, rfl⟩
theorem trim_last {l : List UInt8} (h : Lib.hasSuffix l [93] = true) : Lib.trimSuffix l [93] = l.dropLast := by
 unfold Lib.trimSuffix
 rw [if_pos h, List.dropLast_eq_take]; rfl
theorem bus_none {s : List UInt8} (hc : Wr.cut1 91 s = none) : Ru.bus s = none := by unfold Ru.bus; rw [hc]
theorem bus_noend {s name rst : List UInt8} (hc : Wr.cut1 91 s = some (name, rst)) (h : rst.getLast? ≠ some 93) : Ru.bus s = none := by
 unfold Ru.bus; rw [hc]; dsimp only
 split
 ·rename_i e; exact absurd e h
 ·rfl
theorem bus_end {s name rst : List UInt8} (hc : Wr.cut1 91 s = some (name, rst)) (h : rst.getLast? = some 93) : Ru.bus s = if Ru.nameR name then (Ru.ends rst.dropLast).map fun p => (name, p.1, p.2) else none := by
 unfold Ru.bus; rw [hc]; dsimp only; rw [h]; rfl
theorem expand_any (s : List UInt8) (hs : s.length ≤ 1000000000) (w : World) (he : Env w) : Calls Tryz.prog 87 #[str s] w (ExpIs (Ru.expand s) w) := by
 cases hn : Ru.nameR s with
 | true => unfold Ru.expand; rw [if_pos hn]; exact expand_name hs hn
 | false =>
  have e0 : Ru.expand s = (Ru.bus s).map fun p => Ru.members p.1 p.2.1 p.2.2 := by unfold Ru.expand; rw [hn]; rfl
  rw [e0]
  have hcut := Wr.cut_eq s 91
  cases hc1 : Wr.cut1 91 s with
  | none =>
   rw [hc1] at hcut
   rw [bus_none hc1]
   exact expand_nobr hs he hn hcut
  | some p =>
   obtain ⟨name, rst⟩ := p
   rw [hc1] at hcut
   have hl := cut_len hcut
   cases h2 : Lib.hasSuffix rst [93] with
   | false =>
    have hno : rst.getLast? ≠ some 93 := fun e => by rw [(suffix_last rst).2 e] at h2; cases h2
    rw [bus_noend hc1 hno]
    exact expand_noend hs he hn hcut (by omega) h2
   | true =>
    have hl9 := (suffix_last rst).1 h2
    have hd := trim_last h2
    rw [bus_end hc1 hl9]
    cases h3 : Ru.nameR name with
    | false => exact expand_noname hs he hn hcut (by omega) (by omega) h2 h3
    | true =>
     simp only [if_true]
     have hil : rst.dropLast.length ≤ 1000000000 := by rw [List.length_dropLast]; omega
     unfold Ru.ends
     cases hc2 : Lib.cut rst.dropLast [46, 46] with
     | mk f q =>
      obtain ⟨t, sev⟩ := q
      have hl2 := cut_len hc2
      dsimp only
      cases sev with
      | true =>
       simp only [if_true]
       cases h5 : Ru.idx f with
       | none => exact expand_no1T hs he hn hcut (by omega) (by omega) h2 h3 hd hil (by omega) (by omega) hc2 h5
       | some a =>
        cases h6 : Ru.idx t with
        | none => exact expand_no2T hs he hn hcut (by omega) (by omega) h2 h3 hd hil (by omega) (by omega) hc2 h5 h6
        | some b =>
         dsimp only
         by_cases h7 : a - b ≤ 15 ∧ b - a ≤ 15
         ·rw [if_pos h7]
          exact expand_busT hs he hn hcut (by omega) (by omega) h2 h3 hd hil (by omega) (by omega) hc2 h5 h6 h7
         ·rw [if_neg h7]
          exact expand_farT hs he hn hcut (by omega) (by omega) h2 h3 hd hil (by omega) (by omega) hc2 h5 h6 h7
      | false =>
       simp only [Bool.false_eq_true, if_false]
       cases h5 : Ru.idx f with
       | none => exact expand_no1F hs he hn hcut (by omega) (by omega) h2 h3 hd hil (by omega) (by omega) hc2 h5
       | some a =>
        dsimp only
        rw [if_pos (by omega)]
        exact expand_busF hs he hn hcut (by omega) (by omega) h2 h3 hd hil (by omega) (by omega) hc2 h5

/-! ### strings.Split at one byte -/
theorem index_one {l : List UInt8} {e : UInt8} : (∃ d r, Wr.cut1 e l = some (d, r) ∧ Lib.index l [e] = d.length) ∨ (Wr.cut1 e l = none ∧ Lib.index l [e] = -1) := by
 have h := Wr.cut_eq l e
 unfold Lib.cut at h
 cases hc : Wr.cut1 e l with
 | none =>
  rw [hc] at h
  right
  refine ⟨rfl, ?_⟩
  split at h
  ·injection h with _ h; injection h with _ h; cases h
  ·rcases Lib.index_spec l [e] with ⟨h1, _⟩ | ⟨i, h1, _⟩
   ·exact h1
   ·omega
 | some p =>
  obtain ⟨d, r⟩ := p
  rw [hc] at h
  left
  split at h
  ·rename_i h0
   injection h with h1 _
   have hr := Lib.index_room l [e] h0
   refine ⟨d, r, rfl, ?_⟩
   have h2 := congrArg List.length h1
   rw [List.length_take] at h2
   simp at hr
   omega
  ·injection h with _ h; injection h with _ h; cases h
theorem splitK_pieces (e : UInt8) : ∀ (n : Nat) (l : List UInt8), l.length ≤ n → Lib.splitK [e] 0 (Lib.count l [e]) l = Ru.pieces e l
 | n, l, hn => by
  rcases index_one (l := l) (e := e) with ⟨d, r, hc, hi⟩ | ⟨hc, hi⟩
  ·obtain ⟨hl, hd⟩ := Wr.cut1_some hc
   have hcnt := Lib.count_hit (s := l) (sub := [e]) (i := d.length) (by simp) hi
   have e1 : l.drop (d.length + [e].length) = r := by rw [hl]; simp
   have e2 : l.take d.length = d := by rw [hl]; simp
   rw [e1] at hcnt
   have hlt : r.length < n := by
    have := congrArg List.length hl
    simp at this; omega
   obtain ⟨n, rfl⟩ : ∃ m, n = m + 1 := ⟨n - 1, by omega⟩
   have ih := splitK_pieces e n r (by omega)
   rw [hcnt, Nat.add_comm, Lib.splitK, hi]
   have hne : ((d.length : Int) == -1) = false := by rw [beq_eq_false_iff_ne]; omega
   rw [hne]
   simp only [Bool.false_eq_true, if_false, Int.toNat_natCast, Nat.add_zero]
   rw [e1, e2, ih, hl, Ru.pieces_app e d r hd]
  ·have hcnt := Lib.count_miss (s := l) (sub := [e]) hi
   rw [hcnt, Lib.splitK, Ru.pieces_plain e l (Wr.cut1_none.1 hc)]
theorem split_cells (e : UInt8) (s : List UInt8) : (Lib.splitB ⟨#[e]⟩ 0 (Lib.countB ⟨s.toArray⟩ ⟨#[e]⟩) ⟨s.toArray⟩).map Value.string = (Ru.pieces e s).map str := by
 have h := Lib.splitB_data ⟨#[e]⟩ 0 (Lib.countB ⟨s.toArray⟩ ⟨#[e]⟩) ⟨s.toArray⟩
 have h2 := splitK_pieces e s.length s (Nat.le_refl _)
 have h3 : (Lib.splitB ⟨#[e]⟩ 0 (Lib.countB ⟨s.toArray⟩ ⟨#[e]⟩) ⟨s.toArray⟩).map (·.data.toList) = Ru.pieces e s := h.trans h2
 rw [← h3, List.map_map]
 apply List.map_congr_left
 intro x _
 rfl
theorem split_len (e : UInt8) (s : List UInt8) : Lib.countB ⟨s.toArray⟩ ⟨#[e]⟩ + 1 = (Ru.pieces e s).length := by
 have h := congrArg List.length (split_cells e s)
 rw [List.length_map, List.length_map, Lib.splitB_all ⟨#[e]⟩ (by show 1 ≤ 1; omega) 0 _ _ rfl] at h
 exact h
/-- strings.Split at one byte. -/
theorem split_any (e : UInt8) (s : List UInt8) (hs : s.length ≤ 1000000000) (w : World) (he : Env w) :
  Calls Tryz.prog 51 #[str s, .string ⟨#[e]⟩] w fun E w' => E = .returned (.slice (some ⟨w.heap.size, 0, none⟩) (Ru.pieces e s).length (Ru.pieces e s).length) ∧ w' = w.alloc (.cells ((Ru.pieces e s).map str).toArray 9) := by
 obtain ⟨m, hm⟩ := he.mx
 have c := Tryz.strings_Split ⟨s.toArray⟩ ⟨#[e]⟩ m w (by rw [size_str]; omega) hm (by show 1 ≤ 1; omega)
 rw [split_cells, split_len] at c
 exact c
end Go.Proofs.YtnchipahdfbliaaGreatDoor

namespace Go.Proofs.YtnchipahdfbliaaGreatDoor
open Go.RowKit

def SplitIs (x : Option (List (List UInt8))) (w : World) (e : Ending) (w' : World) : Prop :=
 (match x with
 | some l => ∃ v, e = .returned (.tuple #[v, .bool true]) ∧ IsStrs w' v l
 | none => e = .returned (.tuple #[.slice none 0 0, .bool false])) ∧ Kp w w' none
theorem piece_len (e : UInt8) : ∀ (l : List UInt8), ∀ p ∈ Ru.pieces e l, p.length ≤ l.length
 | [], p, h => by simp [Ru.pieces] at h; subst h; simp
 | c :: l, p, h => by
  have ih := piece_len e l
  unfold Ru.pieces at h
  split at h
  ·rcases List.mem_cons.1 h with rfl | h
   ·simp
   ·have := ih p h; simp; omega
  ·split at h
   ·simp at h; subst h; simp
   ·rename_i q r hq
    rcases List.mem_cons.1 h with rfl | h
    ·have := ih q (by rw [hq]; simp); simp; omega
    ·have := ih p (by rw [hq]; simp [h]); simp; omega
theorem piece_num (e : UInt8) (l : List UInt8) : (Ru.pieces e l).length ≤ l.length + 1 := by
 induction l with
 | nil => simp [Ru.pieces]
 | cons c l ih =>
  unfold Ru.pieces
  split
  ·simp; exact ih
  ·split
   ·simp
   ·rename_i q r hq
    rw [hq] at ih; simp at ih ⊢; omega
theorem all_take_succ {p : List UInt8 → Bool} {l : List (List UInt8)} {k : Nat} (hk : k < l.length) (h : ∀ j, (hj : j < l.length) → j < k → p l[j] = true) (hp : p l[k] = true) : ∀ j, (hj : j < l.length) → j < k + 1 → p l[j] = true := fun j hj hjk => by
 by_cases e : j = k
 ·subst e; exact hp
 ·exact h j hj (by omega)
set_option maxHeartbeats 4000000 in
set_option maxRecDepth 100000 in
theorem split12_any (s : List UInt8) (hs : s.length ≤ 1000000000) (w : World) (he : Env w) : Calls Tryz.prog 59 #[str s] w (SplitIs (Ru.split s) w) := by
 obtain ⟨ps, hps⟩ : ∃ ps, Ru.pieces 47 s = ps := ⟨_, rfl⟩
 have hlen : ∀ p ∈ ps, p.length ≤ 1000000000 := fun p hp => by have := piece_len 47 s p (by rw [hps]; exact hp); omega
 have hnum := piece_num 47 s
 have c1 := split_any 47 s hs w he
 rw [hps] at c1 hnum
 have HSP : Hid (Ru.split s = if ps.all Ru.member then some ps else none) := Lib.hid (by unfold Ru.split; rw [hps])
 have HE := Lib.hid he
 have HL := Lib.hid hlen
 have hl0 := strs_list (w := w) ps 9
 obtain ⟨W0, hW0⟩ : ∃ W, w.alloc (.cells (ps.map str).toArray 9) = W := ⟨_, rfl⟩
 have hK0 : Kp w W0 none := by rw [← hW0]; exact (Kp.refl _ _).alloc _
 rw [hW0] at c1 hl0
 have hx : LiesAt 1 strVal W0 (some ⟨w.heap.size, 0, none⟩) ps.length ps := by
  obtain ⟨ao, cap, e, h⟩ := hl0.form
  injection e with e1 _ e2
  subst e1; subst e2
  exact h
 have HX := Lib.hid hx
 have HK0 := Lib.hid hK0
 have hbnd : ps.length ≤ 1000000001 := by omega
 clear he hlen hl0 hW0 hK0 hx hps hnum
 go_enter Tryz.func59, Tryz.ntmps59
 go_wp2_with (go_at_call 51; refine c1.mono ?_; rintro e w1 ⟨rfl, rfl⟩)
 go_loopw [13] (fun i wr => ∃ k : Nat, k ≤ ps.length ∧ i = .int .i64 (k : Int) ∧ Hid (∀ j, (hj : j < ps.length) → j < k → Ru.member ps[j] = true) ∧ Kp w1 wr none) (fun i _ => ps.length - (intOf i).toNat)
 case atStart => exact ⟨0, Nat.zero_le _, rfl, Lib.hid (fun j _ h => absurd h (Nat.not_lt_zero _)), Kp.refl _ _⟩
 case round =>
  obtain ⟨k, hk, rfl, HA, hK⟩ := hrel
  have HK := Lib.hid hK
  clear hK
  have hk0 : (0 : Int) ≤ (k : Int) := by omega
  by_cases hlt : k < ps.length
  ·obtain ⟨b, off, hao, hb, hcap, hcell⟩ := LiesAt.str (HX.out.keep HK.out) k hlt
   injection hao with hao
   injection hao with e1 e2
   subst e1; subst e2
   have hc := hcell k hlt
   rw [Nat.zero_add] at hc
   clear hcell
   obtain ⟨x, hxk⟩ : ∃ x, ps[k] = x := ⟨_, rfl⟩
   rw [hxk] at hc
   have HXK := Lib.hid hxk
   have hxl := HL.out ps[k] (List.getElem_mem hlt)
   rw [hxk] at hxl
   have c2 := expand_any x hxl wr (HE.out.kp0 (HK0.out.trans HK.out))
   have hk1 : (k : Int) < (ps.length : Int) := by omega
   have hno : Ru.member x = false → Hid (Ru.split s = none) := fun h => Lib.hid (by
    rw [HSP.out, if_neg]
    intro ha
    have := List.all_eq_true.1 ha ps[k] (List.getElem_mem hlt)
    rw [HXK.out, h] at this; cases this)
   have HNO := Lib.hid hno
   clear hno hxk
   cases hex : Ru.expand x with
   | none =>
    rw [hex] at c2
    have HN := HNO.out (by unfold Ru.member; rw [hex]; rfl)
    clear hex
    have c3 : Calls Tryz.prog 87 #[str x] wr fun e w' => e = .returned (.tuple #[.slice none 0 0, .bool false]) ∧ Kp wr w' none := c2
    clear c2
    go_wp2_with (go_at_call 87; refine c3.mono ?_; rintro e w2 ⟨rfl, hk2⟩)
    go_ret2
    exact ⟨by rw [HN.out]; rfl, (HK0.out.trans HK.out).trans hk2⟩
   | some m =>
    rw [hex] at c2
    have c3 : Calls Tryz.prog 87 #[str x] wr fun e w' => ∃ ao cap, e = .returned (.tuple #[.slice ao m.length cap, .bool true]) ∧ Hid (LiesAt 1 strVal w' ao cap m) ∧ Hid (Kp wr w' none) := c2.mono fun e w' ⟨⟨v, h1, h2⟩, h3⟩ => by
     obtain ⟨ao, cap, rfl, h4⟩ := h2.form
     exact ⟨ao, cap, h1, Lib.hid h4, Lib.hid h3⟩
    clear c2
    have HEX := Lib.hid hex
    clear hex
    by_cases h1 : m.length = 1
    ·obtain ⟨y, rfl⟩ := List.length_eq_one_iff.1 h1
     have c4 : Calls Tryz.prog 87 #[str x] wr fun e w' => ∃ b off cap, e = .returned (.tuple #[.slice (some ⟨b, off, none⟩) 1 cap, .bool true]) ∧ w'.cell? ⟨b, off, none⟩ = some (str y) ∧ Hid (Kp wr w' none) := c3.mono fun e w' ⟨ao, cap, h1, h2, h3⟩ => by
      obtain ⟨b, off, rfl, _, _, hc⟩ := LiesAt.str h2.out 0 (by simp)
      exact ⟨b, off, cap, h1, hc 0 (by simp), h3⟩
     clear c3 h1
     by_cases hyx : y = x
     ·have hb : (y == x) = true := by rw [hyx]; simp
      have hb2 : (y != x) = false := by rw [hyx]; simp
      have HM : Hid (Ru.member x = true) := Lib.hid (by unfold Ru.member; rw [HEX.out, hyx]; simp)
      clear hyx
      go_wp2_with (go_at_call 87; refine c4.mono ?_; rintro e w2 ⟨b2, off2, cap2, rfl, hc2, hk2⟩)
      go_roundw
      case rel => exact ⟨k + 1, hlt, by go_num, Lib.hid (all_take_succ hlt HA.out (by rw [HXK.out]; exact HM.out)), HK.out.trans hk2.out⟩
      case measure => simp [intOf]; omega
     ·have hb : (y == x) = false := by simpa using hyx
      have hb2 : (y != x) = true := by simp [bne, hb]
      have HN := HNO.out (by unfold Ru.member; rw [HEX.out]; simpa using hyx)
      clear hyx
      go_wp2_with (go_at_call 87; refine c4.mono ?_; rintro e w2 ⟨b2, off2, cap2, rfl, hc2, hk2⟩)
      go_ret2
      exact ⟨by rw [HN.out]; rfl, (HK0.out.trans HK.out).trans hk2.out⟩
    ·have hml : ((m.length : Int) != 1) = true := by simp; omega
     have HN := HNO.out (by
      unfold Ru.member; rw [HEX.out]
      have : m ≠ [x] := fun e => h1 (by rw [e]; rfl)
      simpa using this)
     clear h1
     go_wp2_with (go_at_call 87; refine c3.mono ?_; rintro e w2 ⟨ao2, cap2, rfl, hc2, hk2⟩)
     go_ret2
     exact ⟨by rw [HN.out]; rfl, (HK0.out.trans HK.out).trans hk2.out⟩
  ·obtain rfl : k = ps.length := by omega
   have HS : Hid (Ru.split s = some ps) := Lib.hid (by
    rw [HSP.out, if_pos]
    refine List.all_eq_true.2 fun x hx => ?_
    obtain ⟨j, hj, rfl⟩ := List.mem_iff_getElem.1 hx
    exact HA.out j hj hj)
   go_wp2_with fail
   go_ret2
   exact ⟨by rw [HS.out]; exact ⟨_, rfl, (HX.out.keep HK.out).list⟩, HK0.out.trans HK.out⟩
end Go.Proofs.YtnchipahdfbliaaGreatDoor
