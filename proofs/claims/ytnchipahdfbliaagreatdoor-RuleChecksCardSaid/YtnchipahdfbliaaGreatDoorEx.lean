/- The program's Expand: a name, or the members of a bus. Condition: a string of at most 10^9 bytes. -/
import Derived.Test.YtnchipahdfbliaaGreatDoorNm
namespace Go.Proofs.YtnchipahdfbliaaGreatDoor
open Go.RowKit

theorem cut_any {s sep d r : List UInt8} {b : Bool} (h : Lib.cut s sep = (d, r, b)) (hs : s.length ≤ 1000000000) (w : World) (he : Env w) :
  Calls Tryz.prog 112 #[str s, str sep] w fun e w' => e = .returned (.tuple #[str d, str r, .bool b]) ∧ ∃ n, w' = w.drewN n := by
 obtain ⟨m, hm⟩ := he.mx
 have c := Tryz.strings_Cut ⟨s.toArray⟩ ⟨sep.toArray⟩ m w (by rw [size_str]; omega) hm
 rw [data_str, data_str, h] at c
 exact c
theorem suffix_any {s d : List UInt8} {b : Bool} (h : Lib.trimSuffix s [93] = d) (h2 : Lib.hasSuffix s [93] = b) (hs : s.length ≤ 1000000000) (w : World) :
  Calls Tryz.prog 113 #[str s, str [93]] w fun e w' => e = .returned (.tuple #[str d, .bool b]) ∧ w' = w := by
 have c := Tryz.strings_CutSuffix ⟨s.toArray⟩ ⟨#[93]⟩ w (by rw [size_str]; omega)
 rw [data_str] at c
 have e : (⟨#[93]⟩ : ByteArray).data.toList = [93] := rfl
 rw [e, h, h2] at c
 exact c
theorem rightB {s : List UInt8} {b : Bool} (h : Ru.nameR s = b) (hm : s.length ≤ 1000000000) (w : World) : Calls Tryz.prog 33 #[str s] w fun e w' => e = .returned (.bool b) ∧ Kp w w' none := by
 rw [← h]; exact right_any s (by omega) w
theorem index_yes {s : List UInt8} {n : Int} (h : Ru.idx s = some n) (hs : s.length ≤ 1000000000) (w : World) (he : Env w) : Calls Tryz.prog 114 #[str s] w fun e w' => e = .returned (.tuple #[.int .i64 n, .bool true]) ∧ Kp w w' none :=
 (index_any s (by omega) w he).mono fun e w' ⟨⟨m, b, h1, h2⟩, hk⟩ => by
  rcases h2 with ⟨rfl, h2⟩ | ⟨rfl, h2⟩
  ·rw [h] at h2; injection h2 with h2; subst h2; exact ⟨h1, hk⟩
  ·rw [h] at h2; cases h2
theorem index_no {s : List UInt8} (h : Ru.idx s = none) (hs : s.length ≤ 1000000000) (w : World) (he : Env w) : Calls Tryz.prog 114 #[str s] w fun e w' => (∃ m, e = .returned (.tuple #[.int .i64 m, .bool false])) ∧ Kp w w' none :=
 (index_any s (by omega) w he).mono fun e w' ⟨⟨m, b, h1, h2⟩, hk⟩ => by
  rcases h2 with ⟨rfl, h2⟩ | ⟨rfl, h2⟩
  ·rw [h] at h2; cases h2
  ·exact ⟨⟨m, h1⟩, hk⟩

/-- What Expand returns. -/
def ExpIs (x : Option (List (List UInt8))) (w : World) (e : Ending) (w' : World) : Prop :=
 (match x with
 | some l => ∃ v, e = .returned (.tuple #[v, .bool true]) ∧ IsStrs w' v l
 | none => e = .returned (.tuple #[.slice none 0 0, .bool false])) ∧ Kp w w' none

section
variable {s name rst inner f t : List UInt8} {w : World}
set_option maxHeartbeats 2000000 in
set_option maxRecDepth 100000 in
theorem expand_name (hs : s.length ≤ 1000000000) (hn : Ru.nameR s = true) : Calls Tryz.prog 87 #[str s] w (ExpIs (some [s]) w) := by
 have c1 := rightB hn hs w
 clear hn
 go_enter Tryz.func87, Tryz.ntmps87
 go_wp2_with (go_at_call 33; refine c1.mono ?_; rintro e w1 ⟨rfl, hk1⟩)
 go_ret2
 exact ⟨⟨_, rfl, str_list s⟩, hk1.alloc _⟩
set_option maxHeartbeats 2000000 in
set_option maxRecDepth 100000 in
theorem expand_nobr (hs : s.length ≤ 1000000000) (he : Env w) (hn : Ru.nameR s = false) {d : List UInt8} (hc : Lib.cut s [91] = (d, [], false)) : Calls Tryz.prog 87 #[str s] w (ExpIs none w) := by
 have c1 := rightB hn hs w
 have c2 := fun u hu => cut_any hc hs u hu
 have c3 := suffix_any (s := []) (d := []) (b := false) rfl rfl (by simp)
 have HE := Lib.hid he
 clear hn hc he
 go_enter Tryz.func87, Tryz.ntmps87
 go_wp2_with (first | (go_at_call 33; refine c1.mono ?_; rintro e w1 ⟨rfl, hk1⟩) | (go_at_call 112; refine (c2 _ (HE.out.kp0 hk1)).mono ?_; rintro e w2 ⟨rfl, n, rfl⟩) | (go_at_call 113; refine (c3 _).mono ?_; rintro e w3 ⟨rfl, rfl⟩))
 go_ret2
 exact ⟨rfl, hk1.drewN _⟩
set_option maxHeartbeats 2000000 in
set_option maxRecDepth 100000 in
theorem expand_noend (hs : s.length ≤ 1000000000) (he : Env w) (hn : Ru.nameR s = false) (hc : Lib.cut s [91] = (name, rst, true)) (hr : rst.length ≤ 1000000000) (h2 : Lib.hasSuffix rst [93] = false) : Calls Tryz.prog 87 #[str s] w (ExpIs none w) := by
 obtain ⟨d, hd⟩ : ∃ d, Lib.trimSuffix rst [93] = d := ⟨_, rfl⟩
 have c1 := rightB hn hs w
 have c2 := fun u hu => cut_any hc hs u hu
 have c3 := suffix_any hd h2 hr
 have HE := Lib.hid he
 clear hn hc he h2 hd
 go_enter Tryz.func87, Tryz.ntmps87
 go_wp2_with (first | (go_at_call 33; refine c1.mono ?_; rintro e w1 ⟨rfl, hk1⟩) | (go_at_call 112; refine (c2 _ (HE.out.kp0 hk1)).mono ?_; rintro e w2 ⟨rfl, n, rfl⟩) | (go_at_call 113; refine (c3 _).mono ?_; rintro e w3 ⟨rfl, rfl⟩))
 go_ret2
 exact ⟨rfl, hk1.drewN _⟩
set_option maxHeartbeats 2000000 in
set_option maxRecDepth 100000 in
theorem expand_noname (hs : s.length ≤ 1000000000) (he : Env w) (hn : Ru.nameR s = false) (hc : Lib.cut s [91] = (name, rst, true)) (hr : rst.length ≤ 1000000000) (hnl : name.length ≤ 1000000000) (h2 : Lib.hasSuffix rst [93] = true) (h3 : Ru.nameR name = false) : Calls Tryz.prog 87 #[str s] w (ExpIs none w) := by
 obtain ⟨d, hd⟩ : ∃ d, Lib.trimSuffix rst [93] = d := ⟨_, rfl⟩
 have c1 := rightB hn hs w
 have c4 := rightB h3 hnl
 have c2 := fun u hu => cut_any hc hs u hu
 have c3 := suffix_any hd h2 hr
 have HE := Lib.hid he
 clear hn hc he h2 hd h3
 go_enter Tryz.func87, Tryz.ntmps87
 go_wp2_with (first | (go_at_call 33; (with_reducible refine c1.mono ?_); rintro e w1 ⟨rfl, hk1⟩) | (go_at_call 112; refine (c2 _ (HE.out.kp0 hk1)).mono ?_; rintro e w2 ⟨rfl, n, rfl⟩) | (go_at_call 113; refine (c3 _).mono ?_; rintro e w3 ⟨rfl, rfl⟩) | (go_at_call 33; refine (c4 _).mono ?_; rintro e w4 ⟨rfl, hk4⟩))
 go_ret2
 exact ⟨rfl, (hk1.drewN _).trans hk4⟩
set_option maxHeartbeats 4000000 in
set_option maxRecDepth 100000 in
theorem expand_no1T (hs : s.length ≤ 1000000000) (he : Env w) (hn : Ru.nameR s = false) (hc : Lib.cut s [91] = (name, rst, true)) (hr : rst.length ≤ 1000000000) (hnl : name.length ≤ 1000000000) (h2 : Lib.hasSuffix rst [93] = true) (h3 : Ru.nameR name = true) (hd : Lib.trimSuffix rst [93] = inner) (hil : inner.length ≤ 1000000000) (hfl : f.length ≤ 1000000000) (htl : t.length ≤ 1000000000) (hc2 : Lib.cut inner [46, 46] = (f, t, true)) (h5 : Ru.idx f = none) : Calls Tryz.prog 87 #[str s] w (ExpIs none w) := by
 have c1 := rightB hn hs w
 have c4 := rightB h3 hnl
 have c2 := fun u hu => cut_any hc hs u hu
 have c5 := fun u hu => cut_any hc2 hil u hu
 have c3 := suffix_any hd h2 hr
 have HE := Lib.hid he
 clear hn hc he h2 hd h3 hc2
 have c6 := index_no h5 hfl
 have c7 := index_any t (by omega)
 clear h5
 go_enter Tryz.func87, Tryz.ntmps87
 go_wp2_with (first | (go_at_call 33; (with_reducible refine c1.mono ?_); rintro e w1 ⟨rfl, hk1⟩; have hK1 := Lib.hid hk1; clear hk1) | (go_at_call 112; (with_reducible refine (c2 _ (HE.out.kp0 hK1.out)).mono ?_); rintro e w2 ⟨rfl, n, rfl⟩) | (go_at_call 113; refine (c3 _).mono ?_; rintro e w3 ⟨rfl, rfl⟩) | (go_at_call 33; (with_reducible refine (c4 _).mono ?_); rintro e w4 ⟨rfl, hk4⟩; have hK4 := Lib.hid ((hK1.out.drewN n).trans hk4); clear hk4) | (go_at_call 112; (with_reducible refine (c5 _ (HE.out.kp0 hK4.out)).mono ?_); rintro e w5 ⟨rfl, n5, rfl⟩) | (go_at_call 114; (with_reducible refine (c6 _ (HE.out.kp0 (hK4.out.drewN n5))).mono ?_); rintro e w6 ⟨⟨m6, rfl⟩, hk6⟩; have hK6 := Lib.hid ((hK4.out.drewN n5).trans hk6); clear hk6) | (go_at_call 114; (with_reducible refine (c7 _ (HE.out.kp0 hK6.out)).mono ?_); rintro e w7 ⟨⟨m7, b7, rfl, _⟩, hk7⟩; have hK7 := Lib.hid (hK6.out.trans hk7); clear hk7))
 all_goals
  go_ret2
  exact ⟨rfl, hK7.out⟩

set_option maxHeartbeats 4000000 in
set_option maxRecDepth 100000 in
theorem expand_no2T (hs : s.length ≤ 1000000000) (he : Env w) (hn : Ru.nameR s = false) (hc : Lib.cut s [91] = (name, rst, true)) (hr : rst.length ≤ 1000000000) (hnl : name.length ≤ 1000000000) (h2 : Lib.hasSuffix rst [93] = true) (h3 : Ru.nameR name = true) (hd : Lib.trimSuffix rst [93] = inner) (hil : inner.length ≤ 1000000000) (hfl : f.length ≤ 1000000000) (htl : t.length ≤ 1000000000) (hc2 : Lib.cut inner [46, 46] = (f, t, true)) {a : Int} (h5 : Ru.idx f = some a) (h6 : Ru.idx t = none) : Calls Tryz.prog 87 #[str s] w (ExpIs none w) := by
 have c1 := rightB hn hs w
 have c4 := rightB h3 hnl
 have c2 := fun u hu => cut_any hc hs u hu
 have c5 := fun u hu => cut_any hc2 hil u hu
 have c3 := suffix_any hd h2 hr
 have HE := Lib.hid he
 clear hn hc he h2 hd h3 hc2
 have c6 := index_yes h5 hfl
 have c7 := index_no h6 htl
 clear h5 h6
 go_enter Tryz.func87, Tryz.ntmps87
 go_wp2_with (first | (go_at_call 33; (with_reducible refine c1.mono ?_); rintro e w1 ⟨rfl, hk1⟩; have hK1 := Lib.hid hk1; clear hk1) | (go_at_call 112; (with_reducible refine (c2 _ (HE.out.kp0 hK1.out)).mono ?_); rintro e w2 ⟨rfl, n, rfl⟩) | (go_at_call 113; refine (c3 _).mono ?_; rintro e w3 ⟨rfl, rfl⟩) | (go_at_call 33; (with_reducible refine (c4 _).mono ?_); rintro e w4 ⟨rfl, hk4⟩; have hK4 := Lib.hid ((hK1.out.drewN n).trans hk4); clear hk4) | (go_at_call 112; (with_reducible refine (c5 _ (HE.out.kp0 hK4.out)).mono ?_); rintro e w5 ⟨rfl, n5, rfl⟩) | (go_at_call 114; (with_reducible refine (c6 _ (HE.out.kp0 (hK4.out.drewN n5))).mono ?_); rintro e w6 ⟨rfl, hk6⟩; have hK6 := Lib.hid ((hK4.out.drewN n5).trans hk6); clear hk6) | (go_at_call 114; (with_reducible refine (c7 _ (HE.out.kp0 hK6.out)).mono ?_); rintro e w7 ⟨⟨m7, rfl⟩, hk7⟩; have hK7 := Lib.hid (hK6.out.trans hk7); clear hk7))
 all_goals
  go_ret2
  exact ⟨rfl, hK7.out⟩

set_option maxHeartbeats 4000000 in
set_option maxRecDepth 100000 in
theorem expand_farT (hs : s.length ≤ 1000000000) (he : Env w) (hn : Ru.nameR s = false) (hc : Lib.cut s [91] = (name, rst, true)) (hr : rst.length ≤ 1000000000) (hnl : name.length ≤ 1000000000) (h2 : Lib.hasSuffix rst [93] = true) (h3 : Ru.nameR name = true) (hd : Lib.trimSuffix rst [93] = inner) (hil : inner.length ≤ 1000000000) (hfl : f.length ≤ 1000000000) (htl : t.length ≤ 1000000000) (hc2 : Lib.cut inner [46, 46] = (f, t, true)) {a b : Int} (h5 : Ru.idx f = some a) (h6 : Ru.idx t = some b) (h7 : ¬ (a - b ≤ 15 ∧ b - a ≤ 15)) : Calls Tryz.prog 87 #[str s] w (ExpIs none w) := by
 have ra := Ru.idx_range h5
 have rb := Ru.idx_range h6
 have c1 := rightB hn hs w
 have c4 := rightB h3 hnl
 have c2 := fun u hu => cut_any hc hs u hu
 have c5 := fun u hu => cut_any hc2 hil u hu
 have c3 := suffix_any hd h2 hr
 have HE := Lib.hid he
 clear hn hc he h2 hd h3 hc2
 have c6 := index_yes h5 hfl
 have c7 := index_yes h6 htl
 clear h5 h6
 obtain ⟨ra0, ra1⟩ := ra
 obtain ⟨rb0, rb1⟩ := rb
 by_cases hab : a - b ≤ b - a
 ·have h8 : 16 ≤ b - a := by omega
  clear h7
  go_enter Tryz.func87, Tryz.ntmps87
  go_wp2_with (first | (go_at_call 33; (with_reducible refine c1.mono ?_); rintro e w1 ⟨rfl, hk1⟩; have hK1 := Lib.hid hk1; clear hk1) | (go_at_call 112; (with_reducible refine (c2 _ (HE.out.kp0 hK1.out)).mono ?_); rintro e w2 ⟨rfl, n, rfl⟩) | (go_at_call 113; refine (c3 _).mono ?_; rintro e w3 ⟨rfl, rfl⟩) | (go_at_call 33; (with_reducible refine (c4 _).mono ?_); rintro e w4 ⟨rfl, hk4⟩; have hK4 := Lib.hid ((hK1.out.drewN n).trans hk4); clear hk4) | (go_at_call 112; (with_reducible refine (c5 _ (HE.out.kp0 hK4.out)).mono ?_); rintro e w5 ⟨rfl, n5, rfl⟩) | (go_at_call 114; (with_reducible refine (c6 _ (HE.out.kp0 (hK4.out.drewN n5))).mono ?_); rintro e w6 ⟨rfl, hk6⟩; have hK6 := Lib.hid ((hK4.out.drewN n5).trans hk6); clear hk6) | (go_at_call 114; (with_reducible refine (c7 _ (HE.out.kp0 hK6.out)).mono ?_); rintro e w7 ⟨rfl, hk7⟩; have hK7 := Lib.hid (hK6.out.trans hk7); clear hk7))
  all_goals
   go_ret2
   exact ⟨rfl, hK7.out⟩
 ·have h8 : 16 ≤ a - b := by omega
  clear h7
  go_enter Tryz.func87, Tryz.ntmps87
  go_wp2_with (first | (go_at_call 33; (with_reducible refine c1.mono ?_); rintro e w1 ⟨rfl, hk1⟩; have hK1 := Lib.hid hk1; clear hk1) | (go_at_call 112; (with_reducible refine (c2 _ (HE.out.kp0 hK1.out)).mono ?_); rintro e w2 ⟨rfl, n, rfl⟩) | (go_at_call 113; refine (c3 _).mono ?_; rintro e w3 ⟨rfl, rfl⟩) | (go_at_call 33; (with_reducible refine (c4 _).mono ?_); rintro e w4 ⟨rfl, hk4⟩; have hK4 := Lib.hid ((hK1.out.drewN n).trans hk4); clear hk4) | (go_at_call 112; (with_reducible refine (c5 _ (HE.out.kp0 hK4.out)).mono ?_); rintro e w5 ⟨rfl, n5, rfl⟩) | (go_at_call 114; (with_reducible refine (c6 _ (HE.out.kp0 (hK4.out.drewN n5))).mono ?_); rintro e w6 ⟨rfl, hk6⟩; have hK6 := Lib.hid ((hK4.out.drewN n5).trans hk6); clear hk6) | (go_at_call 114; (with_reducible refine (c7 _ (HE.out.kp0 hK6.out)).mono ?_); rintro e w7 ⟨rfl, hk7⟩; have hK7 := Lib.hid (hK6.out.trans hk7); clear hk7))
  all_goals
   go_ret2
   exact ⟨rfl, hK7.out⟩

set_option maxHeartbeats 4000000 in
set_option maxRecDepth 100000 in
theorem expand_busT (hs : s.length ≤ 1000000000) (he : Env w) (hn : Ru.nameR s = false) (hc : Lib.cut s [91] = (name, rst, true)) (hr : rst.length ≤ 1000000000) (hnl : name.length ≤ 1000000000) (h2 : Lib.hasSuffix rst [93] = true) (h3 : Ru.nameR name = true) (hd : Lib.trimSuffix rst [93] = inner) (hil : inner.length ≤ 1000000000) (hfl : f.length ≤ 1000000000) (htl : t.length ≤ 1000000000) (hc2 : Lib.cut inner [46, 46] = (f, t, true)) {a b : Int} (h5 : Ru.idx f = some a) (h6 : Ru.idx t = some b) (h7 : a - b ≤ 15 ∧ b - a ≤ 15) : Calls Tryz.prog 87 #[str s] w (ExpIs (some (Ru.members name a b)) w) := by
 have ra := Ru.idx_range h5
 have rb := Ru.idx_range h6
 have c1 := rightB hn hs w
 have c4 := rightB h3 hnl
 have c2 := fun u hu => cut_any hc hs u hu
 have c5 := fun u hu => cut_any hc2 hil u hu
 have c3 := suffix_any hd h2 hr
 have HE := Lib.hid he
 clear hn hc he h2 hd h3 hc2
 have c6 := index_yes h5 hfl
 have c7 := index_yes h6 htl
 clear h5 h6
 obtain ⟨ra0, ra1⟩ := ra
 obtain ⟨rb0, rb1⟩ := rb
 obtain ⟨h8, h9⟩ := h7
 by_cases hab : a - b ≤ b - a
 ·obtain ⟨N, hN⟩ : ∃ N : Nat, (b - a).toNat = N := ⟨_, rfl⟩
  have HM : Hid (Ru.members name a b = (List.range (N + 1)).map fun j : Nat => Ru.memb name (a + (j : Int))) := Lib.hid (by unfold Ru.members; rw [if_pos (by omega)]; rw [hN])
  have hN2 : (N : Int) = b - a := by omega
  have hc0 := hN
  go_enter Tryz.func87, Tryz.ntmps87
  go_wp2_with (first | (go_at_call 33; (with_reducible refine c1.mono ?_); rintro e w1 ⟨rfl, hk1⟩; have hK1 := Lib.hid hk1; clear hk1) | (go_at_call 112; (with_reducible refine (c2 _ (HE.out.kp0 hK1.out)).mono ?_); rintro e w2 ⟨rfl, n, rfl⟩) | (go_at_call 113; refine (c3 _).mono ?_; rintro e w3 ⟨rfl, rfl⟩) | (go_at_call 33; (with_reducible refine (c4 _).mono ?_); rintro e w4 ⟨rfl, hk4⟩; have hK4 := Lib.hid ((hK1.out.drewN n).trans hk4); clear hk4) | (go_at_call 112; (with_reducible refine (c5 _ (HE.out.kp0 hK4.out)).mono ?_); rintro e w5 ⟨rfl, n5, rfl⟩) | (go_at_call 114; (with_reducible refine (c6 _ (HE.out.kp0 (hK4.out.drewN n5))).mono ?_); rintro e w6 ⟨rfl, hk6⟩; have hK6 := Lib.hid ((hK4.out.drewN n5).trans hk6); clear hk6) | (go_at_call 114; (with_reducible refine (c7 _ (HE.out.kp0 hK6.out)).mono ?_); rintro e w7 ⟨rfl, hk7⟩; have hK7 := Lib.hid (hK6.out.trans hk7); clear hk7))
  clear hc0
  have hfin : ∀ wr v, wr.ownsRow w.heap.size 9 1 v ((List.range (N + 1)).map fun j : Nat => Ru.memb name (a + (j : Int))).length (((List.range (N + 1)).map fun j : Nat => Ru.memb name (a + (j : Int))).flatMap strVal) → Kp w wr none → ExpIs (some (Ru.members name a b)) w (.returned (.tuple #[v, .bool true])) wr := fun wr v ho hk => by
   rw [HM.out]; exact ⟨⟨v, rfl, isList_own (m := 1) (f := strVal) (fun _ => rfl) ho⟩, hk⟩
  have HF := Lib.hid hfin
  clear hfin
  go_loopw [16, 17] (fun v n wr => ∃ k : Nat, k ≤ N ∧ n = .int .i64 (a + (k : Int)) ∧ wr.ownsRow w.heap.size 9 1 v ((List.range k).map fun j : Nat => Ru.memb name (a + (j : Int))).length (((List.range k).map fun j : Nat => Ru.memb name (a + (j : Int))).flatMap strVal) ∧ Kp w wr none) (fun _ n _ => (if a ≤ b then b - intOf n else intOf n - b).toNat)
  case atStart => exact ⟨0, Nat.zero_le _, (by simp), World.ownsRow_nil _ _ _ _, hK7.out⟩
  case round =>
   obtain ⟨k, hkN, rfl, hown, hK⟩ := hrel
   have HO := Lib.hid hown
   have HK := Lib.hid hK
   have hbz := HK.out.size
   clear hown hK
   obtain ⟨i0, hi, hz0, hz1, hz2⟩ := info_parts info9
   obtain ⟨m, hm⟩ : ∃ m : Int, a + (k : Int) = m := ⟨_, rfl⟩
   rw [hm]
   have hm0 : 0 ≤ m := by omega
   have hm9 : m ≤ 999 := by omega
   have ci := itoa_any m wr (HE.out.kp0 HK.out) (by unfold Wr.I64; omega)
   obtain ⟨it, hit⟩ : ∃ it, Lib.itoa m = it := ⟨_, rfl⟩
   rw [hit] at ci
   obtain ⟨x1, q1⟩ : ∃ x, name ++ [91] = x := ⟨_, rfl⟩
   obtain ⟨x2, q2⟩ : ∃ x, x1 ++ it = x := ⟨_, rfl⟩
   obtain ⟨x3, q3⟩ : ∃ x, x2 ++ [93] = x := ⟨_, rfl⟩
   have HX : Hid (Ru.memb name m = x3) := Lib.hid (by rw [← q3, ← q2, ← q1, ← hit]; simp [Ru.memb])
   have r1 : ((⟨name.toArray⟩ : ByteArray) ++ ⟨#[91]⟩) = ⟨x1.toArray⟩ := by rw [← q1]; exact cat_eq name [91]
   have r2 : ((⟨x1.toArray⟩ : ByteArray) ++ ⟨it.toArray⟩) = ⟨x2.toArray⟩ := by rw [← q2]; exact cat_eq x1 it
   have r3 : ((⟨x2.toArray⟩ : ByteArray) ++ ⟨#[93]⟩) = ⟨x3.toArray⟩ := by rw [← q3]; exact cat_eq x2 [93]
   have hitl : it.length ≤ 20 := by rw [← hit]; exact Ru.itoa_len (by omega) (by omega)
   have l1 : x1.length = name.length + 1 := by rw [← q1]; simp
   have l2 : x2.length = name.length + 1 + it.length := by rw [← q2, List.length_append, l1]
   have s1 : ¬ 9223372036854775807 < name.length + 1 := by omega
   have s2 : ¬ 9223372036854775807 < x1.length + it.length := by omega
   have s3 : ¬ 9223372036854775807 < x2.length + 1 := by omega
   have hlk : ((List.range k).map fun j : Nat => Ru.memb name (a + (j : Int))).length = k := by simp
   have HM2 : Hid (a + (k : Int) = m) := Lib.hid hm
   have hcm : ((List.range k).map fun j : Nat => Ru.memb name (a + (j : Int))).length + 1 ≤ maxLen := by rw [hlk]; unfold maxLen; omega
   have hcb : (((List.range k).map fun j : Nat => Ru.memb name (a + (j : Int))).length + 1) * 16 ≤ 140737488355328 := by rw [hlk]; omega
   have HS : Hid ((((List.range k).map fun j : Nat => Ru.memb name (a + (j : Int))) ++ [x3]) = (List.range (k + 1)).map fun j : Nat => Ru.memb name (a + (j : Int))) := Lib.hid (by
    rw [List.range_succ, List.map_append, ← HX.out, ← HM2.out]; rfl)
   obtain ⟨outs, ho⟩ : ∃ outs, ((List.range k).map fun j : Nat => Ru.memb name (a + (j : Int))) = outs := ⟨_, rfl⟩
   rw [ho] at HO HS hcm hcb
   clear hlk q1 q2 q3 hit l1 l2 ho
   by_cases hlast : k = N
   ·have hmb : m = b := by omega
    subst hmb
    go_wp2_with (first | (go_at_call 40; refine ci.mono ?_; rintro e w8 ⟨rfl, hk8⟩; have hz8 := hk8.size) | (at_builtin; go_must (refine wpList_append_lies _ (by rfl) _ _ _ (by rfl) w.heap.size 9 i0 _ 1 16 Tryz.underlying68 hi hz0 hz1 hz2 rfl (by omega) u16 outs.length (outs.flatMap strVal) (by rfl) ((own_kp HO.out hk8).alloc _) ⟨w8.heap.size, 0, none⟩ 1 1 [str x3] (by rfl) (by rfl) (World.news_of_block (cs := #[str x3]) (t := 9) (fr := (0, 0)) (heap_alloc_new w8 _)) (by simp [Value.oneCell']) (by omega) hcm hcb (by simp; omega) (w8.heap.size + 1) (by simp) ?_)))
    intro gg capg w4 hown4 hgrow4 _ _
    have HE4 := Lib.hid (HF.out w4 (.slice (some ⟨gg, 0, none⟩) (outs.length + 1) capg) (by
     have h := hown4
     have e : outs.flatMap strVal ++ [str x3] = (outs ++ [x3]).flatMap strVal := by simp [strVal]
     rw [e] at h
     rw [← hlast, ← HS.out]
     simpa using h) (Kp.row ((HK.out.trans hk8).alloc _) hgrow4 (fun q hq => (HO.out.lt q hq).1)))
    clear hown4 hgrow4
    go_wp2_with fail
    go_ret2
    exact HE4.out
   ·have hne : (m == b) = false := by simp; omega
    have hkl : k + 1 ≤ N := by omega
    go_wp2_with (first | (go_at_call 40; refine ci.mono ?_; rintro e w8 ⟨rfl, hk8⟩; have hz8 := hk8.size) | (at_builtin; go_must (refine wpList_append_lies _ (by rfl) _ _ _ (by rfl) w.heap.size 9 i0 _ 1 16 Tryz.underlying68 hi hz0 hz1 hz2 rfl (by omega) u16 outs.length (outs.flatMap strVal) (by rfl) ((own_kp HO.out hk8).alloc _) ⟨w8.heap.size, 0, none⟩ 1 1 [str x3] (by rfl) (by rfl) (World.news_of_block (cs := #[str x3]) (t := 9) (fr := (0, 0)) (heap_alloc_new w8 _)) (by simp [Value.oneCell']) (by omega) hcm hcb (by simp; omega) (w8.heap.size + 1) (by simp) ?_)))
    intro gg capg w4 hown4 hgrow4 _ _
    have HW : Hid (w4.ownsRow w.heap.size 9 1 (.slice (some ⟨gg, 0, none⟩) (outs.length + 1) capg) ((List.range (k + 1)).map fun j : Nat => Ru.memb name (a + (j : Int))).length (((List.range (k + 1)).map fun j : Nat => Ru.memb name (a + (j : Int))).flatMap strVal) ∧ Kp w w4 none) := Lib.hid ⟨by
     have h := hown4
     have e : outs.flatMap strVal ++ [str x3] = (outs ++ [x3]).flatMap strVal := by simp [strVal]
     rw [e] at h
     rw [← HS.out]
     simpa using h, Kp.row ((HK.out.trans hk8).alloc _) hgrow4 (fun q hq => (HO.out.lt q hq).1)⟩
    clear hown4 hgrow4 HS
    have cc : ∀ u, Calls Tryz.prog 115 #[.int .i64 b, .int .i64 a] u fun e w' => e = .returned (.int .i64 1) ∧ w' = u := fun u => by
     have h := cmp_sign b a u
     rw [if_neg (by omega), if_pos (by omega)] at h
     exact h
    go_wp2_with (go_at_call 115; refine (cc _).mono ?_; rintro e w9 ⟨rfl, rfl⟩)
    go_roundw
    case rel => exact ⟨k + 1, hkl, (by have := HM2.out; first | (congr 1; omega) | (simp; omega)), HW.out.1, HW.out.2⟩
    case measure => simp [intOf]; omega
 ·obtain ⟨N, hN⟩ : ∃ N : Nat, (a - b).toNat = N := ⟨_, rfl⟩
  have HM : Hid (Ru.members name a b = (List.range (N + 1)).map fun j : Nat => Ru.memb name (a - (j : Int))) := Lib.hid (by unfold Ru.members; rw [if_neg (by omega)]; rw [hN])
  have hN2 : (N : Int) = a - b := by omega
  have hc0 := hN
  go_enter Tryz.func87, Tryz.ntmps87
  go_wp2_with (first | (go_at_call 33; (with_reducible refine c1.mono ?_); rintro e w1 ⟨rfl, hk1⟩; have hK1 := Lib.hid hk1; clear hk1) | (go_at_call 112; (with_reducible refine (c2 _ (HE.out.kp0 hK1.out)).mono ?_); rintro e w2 ⟨rfl, n, rfl⟩) | (go_at_call 113; refine (c3 _).mono ?_; rintro e w3 ⟨rfl, rfl⟩) | (go_at_call 33; (with_reducible refine (c4 _).mono ?_); rintro e w4 ⟨rfl, hk4⟩; have hK4 := Lib.hid ((hK1.out.drewN n).trans hk4); clear hk4) | (go_at_call 112; (with_reducible refine (c5 _ (HE.out.kp0 hK4.out)).mono ?_); rintro e w5 ⟨rfl, n5, rfl⟩) | (go_at_call 114; (with_reducible refine (c6 _ (HE.out.kp0 (hK4.out.drewN n5))).mono ?_); rintro e w6 ⟨rfl, hk6⟩; have hK6 := Lib.hid ((hK4.out.drewN n5).trans hk6); clear hk6) | (go_at_call 114; (with_reducible refine (c7 _ (HE.out.kp0 hK6.out)).mono ?_); rintro e w7 ⟨rfl, hk7⟩; have hK7 := Lib.hid (hK6.out.trans hk7); clear hk7))
  clear hc0
  have hfin : ∀ wr v, wr.ownsRow w.heap.size 9 1 v ((List.range (N + 1)).map fun j : Nat => Ru.memb name (a - (j : Int))).length (((List.range (N + 1)).map fun j : Nat => Ru.memb name (a - (j : Int))).flatMap strVal) → Kp w wr none → ExpIs (some (Ru.members name a b)) w (.returned (.tuple #[v, .bool true])) wr := fun wr v ho hk => by
   rw [HM.out]; exact ⟨⟨v, rfl, isList_own (m := 1) (f := strVal) (fun _ => rfl) ho⟩, hk⟩
  have HF := Lib.hid hfin
  clear hfin
  go_loopw [16, 17] (fun v n wr => ∃ k : Nat, k ≤ N ∧ n = .int .i64 (a - (k : Int)) ∧ wr.ownsRow w.heap.size 9 1 v ((List.range k).map fun j : Nat => Ru.memb name (a - (j : Int))).length (((List.range k).map fun j : Nat => Ru.memb name (a - (j : Int))).flatMap strVal) ∧ Kp w wr none) (fun _ n _ => (if a ≤ b then b - intOf n else intOf n - b).toNat)
  case atStart => exact ⟨0, Nat.zero_le _, (by simp), World.ownsRow_nil _ _ _ _, hK7.out⟩
  case round =>
   obtain ⟨k, hkN, rfl, hown, hK⟩ := hrel
   have HO := Lib.hid hown
   have HK := Lib.hid hK
   have hbz := HK.out.size
   clear hown hK
   obtain ⟨i0, hi, hz0, hz1, hz2⟩ := info_parts info9
   obtain ⟨m, hm⟩ : ∃ m : Int, a - (k : Int) = m := ⟨_, rfl⟩
   rw [hm]
   have hm0 : 0 ≤ m := by omega
   have hm9 : m ≤ 999 := by omega
   have ci := itoa_any m wr (HE.out.kp0 HK.out) (by unfold Wr.I64; omega)
   obtain ⟨it, hit⟩ : ∃ it, Lib.itoa m = it := ⟨_, rfl⟩
   rw [hit] at ci
   obtain ⟨x1, q1⟩ : ∃ x, name ++ [91] = x := ⟨_, rfl⟩
   obtain ⟨x2, q2⟩ : ∃ x, x1 ++ it = x := ⟨_, rfl⟩
   obtain ⟨x3, q3⟩ : ∃ x, x2 ++ [93] = x := ⟨_, rfl⟩
   have HX : Hid (Ru.memb name m = x3) := Lib.hid (by rw [← q3, ← q2, ← q1, ← hit]; simp [Ru.memb])
   have r1 : ((⟨name.toArray⟩ : ByteArray) ++ ⟨#[91]⟩) = ⟨x1.toArray⟩ := by rw [← q1]; exact cat_eq name [91]
   have r2 : ((⟨x1.toArray⟩ : ByteArray) ++ ⟨it.toArray⟩) = ⟨x2.toArray⟩ := by rw [← q2]; exact cat_eq x1 it
   have r3 : ((⟨x2.toArray⟩ : ByteArray) ++ ⟨#[93]⟩) = ⟨x3.toArray⟩ := by rw [← q3]; exact cat_eq x2 [93]
   have hitl : it.length ≤ 20 := by rw [← hit]; exact Ru.itoa_len (by omega) (by omega)
   have l1 : x1.length = name.length + 1 := by rw [← q1]; simp
   have l2 : x2.length = name.length + 1 + it.length := by rw [← q2, List.length_append, l1]
   have s1 : ¬ 9223372036854775807 < name.length + 1 := by omega
   have s2 : ¬ 9223372036854775807 < x1.length + it.length := by omega
   have s3 : ¬ 9223372036854775807 < x2.length + 1 := by omega
   have hlk : ((List.range k).map fun j : Nat => Ru.memb name (a - (j : Int))).length = k := by simp
   have HM2 : Hid (a - (k : Int) = m) := Lib.hid hm
   have hcm : ((List.range k).map fun j : Nat => Ru.memb name (a - (j : Int))).length + 1 ≤ maxLen := by rw [hlk]; unfold maxLen; omega
   have hcb : (((List.range k).map fun j : Nat => Ru.memb name (a - (j : Int))).length + 1) * 16 ≤ 140737488355328 := by rw [hlk]; omega
   have HS : Hid ((((List.range k).map fun j : Nat => Ru.memb name (a - (j : Int))) ++ [x3]) = (List.range (k + 1)).map fun j : Nat => Ru.memb name (a - (j : Int))) := Lib.hid (by
    rw [List.range_succ, List.map_append, ← HX.out, ← HM2.out]; rfl)
   obtain ⟨outs, ho⟩ : ∃ outs, ((List.range k).map fun j : Nat => Ru.memb name (a - (j : Int))) = outs := ⟨_, rfl⟩
   rw [ho] at HO HS hcm hcb
   clear hlk q1 q2 q3 hit l1 l2 ho
   by_cases hlast : k = N
   ·have hmb : m = b := by omega
    subst hmb
    go_wp2_with (first | (go_at_call 40; refine ci.mono ?_; rintro e w8 ⟨rfl, hk8⟩; have hz8 := hk8.size) | (at_builtin; go_must (refine wpList_append_lies _ (by rfl) _ _ _ (by rfl) w.heap.size 9 i0 _ 1 16 Tryz.underlying68 hi hz0 hz1 hz2 rfl (by omega) u16 outs.length (outs.flatMap strVal) (by rfl) ((own_kp HO.out hk8).alloc _) ⟨w8.heap.size, 0, none⟩ 1 1 [str x3] (by rfl) (by rfl) (World.news_of_block (cs := #[str x3]) (t := 9) (fr := (0, 0)) (heap_alloc_new w8 _)) (by simp [Value.oneCell']) (by omega) hcm hcb (by simp; omega) (w8.heap.size + 1) (by simp) ?_)))
    intro gg capg w4 hown4 hgrow4 _ _
    have HE4 := Lib.hid (HF.out w4 (.slice (some ⟨gg, 0, none⟩) (outs.length + 1) capg) (by
     have h := hown4
     have e : outs.flatMap strVal ++ [str x3] = (outs ++ [x3]).flatMap strVal := by simp [strVal]
     rw [e] at h
     rw [← hlast, ← HS.out]
     simpa using h) (Kp.row ((HK.out.trans hk8).alloc _) hgrow4 (fun q hq => (HO.out.lt q hq).1)))
    clear hown4 hgrow4
    go_wp2_with fail
    go_ret2
    exact HE4.out
   ·have hne : (m == b) = false := by simp; omega
    have hkl : k + 1 ≤ N := by omega
    go_wp2_with (first | (go_at_call 40; refine ci.mono ?_; rintro e w8 ⟨rfl, hk8⟩; have hz8 := hk8.size) | (at_builtin; go_must (refine wpList_append_lies _ (by rfl) _ _ _ (by rfl) w.heap.size 9 i0 _ 1 16 Tryz.underlying68 hi hz0 hz1 hz2 rfl (by omega) u16 outs.length (outs.flatMap strVal) (by rfl) ((own_kp HO.out hk8).alloc _) ⟨w8.heap.size, 0, none⟩ 1 1 [str x3] (by rfl) (by rfl) (World.news_of_block (cs := #[str x3]) (t := 9) (fr := (0, 0)) (heap_alloc_new w8 _)) (by simp [Value.oneCell']) (by omega) hcm hcb (by simp; omega) (w8.heap.size + 1) (by simp) ?_)))
    intro gg capg w4 hown4 hgrow4 _ _
    have HW : Hid (w4.ownsRow w.heap.size 9 1 (.slice (some ⟨gg, 0, none⟩) (outs.length + 1) capg) ((List.range (k + 1)).map fun j : Nat => Ru.memb name (a - (j : Int))).length (((List.range (k + 1)).map fun j : Nat => Ru.memb name (a - (j : Int))).flatMap strVal) ∧ Kp w w4 none) := Lib.hid ⟨by
     have h := hown4
     have e : outs.flatMap strVal ++ [str x3] = (outs ++ [x3]).flatMap strVal := by simp [strVal]
     rw [e] at h
     rw [← HS.out]
     simpa using h, Kp.row ((HK.out.trans hk8).alloc _) hgrow4 (fun q hq => (HO.out.lt q hq).1)⟩
    clear hown4 hgrow4 HS
    have cc : ∀ u, Calls Tryz.prog 115 #[.int .i64 b, .int .i64 a] u fun e w' => e = .returned (.int .i64 (-1)) ∧ w' = u := fun u => by
     have h := cmp_sign b a u
     rw [if_pos (by omega)] at h
     exact h
    go_wp2_with (go_at_call 115; refine (cc _).mono ?_; rintro e w9 ⟨rfl, rfl⟩)
    go_roundw
    case rel => exact ⟨k + 1, hkl, (by have := HM2.out; first | (congr 1; omega) | (simp; omega)), HW.out.1, HW.out.2⟩
    case measure => simp [intOf]; omega

set_option maxHeartbeats 4000000 in
set_option maxRecDepth 100000 in
theorem expand_no1F (hs : s.length ≤ 1000000000) (he : Env w) (hn : Ru.nameR s = false) (hc : Lib.cut s [91] = (name, rst, true)) (hr : rst.length ≤ 1000000000) (hnl : name.length ≤ 1000000000) (h2 : Lib.hasSuffix rst [93] = true) (h3 : Ru.nameR name = true) (hd : Lib.trimSuffix rst [93] = inner) (hil : inner.length ≤ 1000000000) (hfl : f.length ≤ 1000000000) (_htl : t.length ≤ 1000000000) (hc2 : Lib.cut inner [46, 46] = (f, t, false)) (h5 : Ru.idx f = none) : Calls Tryz.prog 87 #[str s] w (ExpIs none w) := by
 have c1 := rightB hn hs w
 have c4 := rightB h3 hnl
 have c2 := fun u hu => cut_any hc hs u hu
 have c5 := fun u hu => cut_any hc2 hil u hu
 have c3 := suffix_any hd h2 hr
 have HE := Lib.hid he
 clear hn hc he h2 hd h3 hc2
 have c6 := index_no h5 hfl
 have c7 := index_no h5 hfl
 clear h5
 go_enter Tryz.func87, Tryz.ntmps87
 go_wp2_with (first | (go_at_call 33; (with_reducible refine c1.mono ?_); rintro e w1 ⟨rfl, hk1⟩; have hK1 := Lib.hid hk1; clear hk1) | (go_at_call 112; (with_reducible refine (c2 _ (HE.out.kp0 hK1.out)).mono ?_); rintro e w2 ⟨rfl, n, rfl⟩) | (go_at_call 113; refine (c3 _).mono ?_; rintro e w3 ⟨rfl, rfl⟩) | (go_at_call 33; (with_reducible refine (c4 _).mono ?_); rintro e w4 ⟨rfl, hk4⟩; have hK4 := Lib.hid ((hK1.out.drewN n).trans hk4); clear hk4) | (go_at_call 112; (with_reducible refine (c5 _ (HE.out.kp0 hK4.out)).mono ?_); rintro e w5 ⟨rfl, n5, rfl⟩) | (go_at_call 114; (with_reducible refine (c6 _ (HE.out.kp0 (hK4.out.drewN n5))).mono ?_); rintro e w6 ⟨⟨m6, rfl⟩, hk6⟩; have hK6 := Lib.hid ((hK4.out.drewN n5).trans hk6); clear hk6) | (go_at_call 114; (with_reducible refine (c7 _ (HE.out.kp0 hK6.out)).mono ?_); rintro e w7 ⟨⟨m7, rfl⟩, hk7⟩; have hK7 := Lib.hid (hK6.out.trans hk7); clear hk7))
 all_goals
  go_ret2
  exact ⟨rfl, hK7.out⟩

set_option maxHeartbeats 4000000 in
set_option maxRecDepth 100000 in
theorem expand_busF (hs : s.length ≤ 1000000000) (he : Env w) (hn : Ru.nameR s = false) (hc : Lib.cut s [91] = (name, rst, true)) (hr : rst.length ≤ 1000000000) (hnl : name.length ≤ 1000000000) (h2 : Lib.hasSuffix rst [93] = true) (h3 : Ru.nameR name = true) (hd : Lib.trimSuffix rst [93] = inner) (hil : inner.length ≤ 1000000000) (hfl : f.length ≤ 1000000000) (_htl : t.length ≤ 1000000000) (hc2 : Lib.cut inner [46, 46] = (f, t, false)) {a : Int} (h5 : Ru.idx f = some a) : Calls Tryz.prog 87 #[str s] w (ExpIs (some (Ru.members name a a)) w) := by
 have ra := Ru.idx_range h5
 have c1 := rightB hn hs w
 have c4 := rightB h3 hnl
 have c2 := fun u hu => cut_any hc hs u hu
 have c5 := fun u hu => cut_any hc2 hil u hu
 have c3 := suffix_any hd h2 hr
 have HE := Lib.hid he
 clear hn hc he h2 hd h3 hc2
 have c6 := index_yes h5 hfl
 have c7 := index_yes h5 hfl
 clear h5
 obtain ⟨ra0, ra1⟩ := ra
 obtain ⟨N, hN⟩ : ∃ N : Nat, (a - a).toNat = N := ⟨_, rfl⟩
 have HM : Hid (Ru.members name a a = (List.range (N + 1)).map fun j : Nat => Ru.memb name (a + (j : Int))) := Lib.hid (by unfold Ru.members; rw [if_pos (by omega)]; rw [hN])
 have hN2 : (N : Int) = a - a := by omega
 have hc0 := hN
 go_enter Tryz.func87, Tryz.ntmps87
 go_wp2_with (first | (go_at_call 33; (with_reducible refine c1.mono ?_); rintro e w1 ⟨rfl, hk1⟩; have hK1 := Lib.hid hk1; clear hk1) | (go_at_call 112; (with_reducible refine (c2 _ (HE.out.kp0 hK1.out)).mono ?_); rintro e w2 ⟨rfl, n, rfl⟩) | (go_at_call 113; refine (c3 _).mono ?_; rintro e w3 ⟨rfl, rfl⟩) | (go_at_call 33; (with_reducible refine (c4 _).mono ?_); rintro e w4 ⟨rfl, hk4⟩; have hK4 := Lib.hid ((hK1.out.drewN n).trans hk4); clear hk4) | (go_at_call 112; (with_reducible refine (c5 _ (HE.out.kp0 hK4.out)).mono ?_); rintro e w5 ⟨rfl, n5, rfl⟩) | (go_at_call 114; (with_reducible refine (c6 _ (HE.out.kp0 (hK4.out.drewN n5))).mono ?_); rintro e w6 ⟨rfl, hk6⟩; have hK6 := Lib.hid ((hK4.out.drewN n5).trans hk6); clear hk6) | (go_at_call 114; (with_reducible refine (c7 _ (HE.out.kp0 hK6.out)).mono ?_); rintro e w7 ⟨rfl, hk7⟩; have hK7 := Lib.hid (hK6.out.trans hk7); clear hk7))
 clear hc0
 have hfin : ∀ wr v, wr.ownsRow w.heap.size 9 1 v ((List.range (N + 1)).map fun j : Nat => Ru.memb name (a + (j : Int))).length (((List.range (N + 1)).map fun j : Nat => Ru.memb name (a + (j : Int))).flatMap strVal) → Kp w wr none → ExpIs (some (Ru.members name a a)) w (.returned (.tuple #[v, .bool true])) wr := fun wr v ho hk => by
  rw [HM.out]; exact ⟨⟨v, rfl, isList_own (m := 1) (f := strVal) (fun _ => rfl) ho⟩, hk⟩
 have HF := Lib.hid hfin
 clear hfin
 go_loopw [16, 17] (fun v n wr => ∃ k : Nat, k ≤ N ∧ n = .int .i64 (a + (k : Int)) ∧ wr.ownsRow w.heap.size 9 1 v ((List.range k).map fun j : Nat => Ru.memb name (a + (j : Int))).length (((List.range k).map fun j : Nat => Ru.memb name (a + (j : Int))).flatMap strVal) ∧ Kp w wr none) (fun _ n _ => (if a ≤ a then a - intOf n else intOf n - a).toNat)
 case atStart => exact ⟨0, Nat.zero_le _, (by simp), World.ownsRow_nil _ _ _ _, hK7.out⟩
 case round =>
  obtain ⟨k, hkN, rfl, hown, hK⟩ := hrel
  have HO := Lib.hid hown
  have HK := Lib.hid hK
  have hbz := HK.out.size
  clear hown hK
  obtain ⟨i0, hi, hz0, hz1, hz2⟩ := info_parts info9
  obtain ⟨m, hm⟩ : ∃ m : Int, a + (k : Int) = m := ⟨_, rfl⟩
  rw [hm]
  have hm0 : 0 ≤ m := by omega
  have hm9 : m ≤ 999 := by omega
  have ci := itoa_any m wr (HE.out.kp0 HK.out) (by unfold Wr.I64; omega)
  obtain ⟨it, hit⟩ : ∃ it, Lib.itoa m = it := ⟨_, rfl⟩
  rw [hit] at ci
  obtain ⟨x1, q1⟩ : ∃ x, name ++ [91] = x := ⟨_, rfl⟩
  obtain ⟨x2, q2⟩ : ∃ x, x1 ++ it = x := ⟨_, rfl⟩
  obtain ⟨x3, q3⟩ : ∃ x, x2 ++ [93] = x := ⟨_, rfl⟩
  have HX : Hid (Ru.memb name m = x3) := Lib.hid (by rw [← q3, ← q2, ← q1, ← hit]; simp [Ru.memb])
  have r1 : ((⟨name.toArray⟩ : ByteArray) ++ ⟨#[91]⟩) = ⟨x1.toArray⟩ := by rw [← q1]; exact cat_eq name [91]
  have r2 : ((⟨x1.toArray⟩ : ByteArray) ++ ⟨it.toArray⟩) = ⟨x2.toArray⟩ := by rw [← q2]; exact cat_eq x1 it
  have r3 : ((⟨x2.toArray⟩ : ByteArray) ++ ⟨#[93]⟩) = ⟨x3.toArray⟩ := by rw [← q3]; exact cat_eq x2 [93]
  have hitl : it.length ≤ 20 := by rw [← hit]; exact Ru.itoa_len (by omega) (by omega)
  have l1 : x1.length = name.length + 1 := by rw [← q1]; simp
  have l2 : x2.length = name.length + 1 + it.length := by rw [← q2, List.length_append, l1]
  have s1 : ¬ 9223372036854775807 < name.length + 1 := by omega
  have s2 : ¬ 9223372036854775807 < x1.length + it.length := by omega
  have s3 : ¬ 9223372036854775807 < x2.length + 1 := by omega
  have hlk : ((List.range k).map fun j : Nat => Ru.memb name (a + (j : Int))).length = k := by simp
  have HM2 : Hid (a + (k : Int) = m) := Lib.hid hm
  have hcm : ((List.range k).map fun j : Nat => Ru.memb name (a + (j : Int))).length + 1 ≤ maxLen := by rw [hlk]; unfold maxLen; omega
  have hcb : (((List.range k).map fun j : Nat => Ru.memb name (a + (j : Int))).length + 1) * 16 ≤ 140737488355328 := by rw [hlk]; omega
  have HS : Hid ((((List.range k).map fun j : Nat => Ru.memb name (a + (j : Int))) ++ [x3]) = (List.range (k + 1)).map fun j : Nat => Ru.memb name (a + (j : Int))) := Lib.hid (by
   rw [List.range_succ, List.map_append, ← HX.out, ← HM2.out]; rfl)
  obtain ⟨outs, ho⟩ : ∃ outs, ((List.range k).map fun j : Nat => Ru.memb name (a + (j : Int))) = outs := ⟨_, rfl⟩
  rw [ho] at HO HS hcm hcb
  clear hlk q1 q2 q3 hit l1 l2 ho
  by_cases hlast : k = N
  ·have hmb : m = a := by omega
   subst hmb
   go_wp2_with (first | (go_at_call 40; refine ci.mono ?_; rintro e w8 ⟨rfl, hk8⟩; have hz8 := hk8.size) | (at_builtin; go_must (refine wpList_append_lies _ (by rfl) _ _ _ (by rfl) w.heap.size 9 i0 _ 1 16 Tryz.underlying68 hi hz0 hz1 hz2 rfl (by omega) u16 outs.length (outs.flatMap strVal) (by rfl) ((own_kp HO.out hk8).alloc _) ⟨w8.heap.size, 0, none⟩ 1 1 [str x3] (by rfl) (by rfl) (World.news_of_block (cs := #[str x3]) (t := 9) (fr := (0, 0)) (heap_alloc_new w8 _)) (by simp [Value.oneCell']) (by omega) hcm hcb (by simp; omega) (w8.heap.size + 1) (by simp) ?_)))
   intro gg capg w4 hown4 hgrow4 _ _
   have HE4 := Lib.hid (HF.out w4 (.slice (some ⟨gg, 0, none⟩) (outs.length + 1) capg) (by
    have h := hown4
    have e : outs.flatMap strVal ++ [str x3] = (outs ++ [x3]).flatMap strVal := by simp [strVal]
    rw [e] at h
    rw [← hlast, ← HS.out]
    simpa using h) (Kp.row ((HK.out.trans hk8).alloc _) hgrow4 (fun q hq => (HO.out.lt q hq).1)))
   clear hown4 hgrow4
   go_wp2_with fail
   go_ret2
   exact HE4.out
  ·exact absurd (by omega) hlast

end
end Go.Proofs.YtnchipahdfbliaaGreatDoor
