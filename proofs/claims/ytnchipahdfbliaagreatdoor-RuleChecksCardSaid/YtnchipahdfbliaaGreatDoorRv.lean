/- The program's conditions: which are right, and their sizes, whole. Conditions: strings of at most 10^9 bytes, lists of at most 10^12 conditions.
  The sizes of conditions, by the program. Condition: at most 10^12 of them.
  Rules in memory: their cells; whether a name stood before. Conditions: lists of at most 10^12 rules. -/
import Derived.Test.YtnchipahdfbliaaGreatDoorRtw
import Derived.Deep.MidRow
import Derived.Deep.WholeRow

namespace Go.Proofs.YtnchipahdfbliaaGreatDoor
open Go.RowKit

/-- Strings and lists that a machine holds. -/
inductive Short : Ru.Cond → Prop
 | mk (op : Int) (t : List UInt8) (n : Int) (b : Ru.Box) (l : List Ru.Cond) : t.length ≤ 1000000000 → l.length ≤ 1000000000000 → (∀ c ∈ l, Short c) → Short (.mk op t n b l)
theorem Short.text {c : Ru.Cond} (h : Short c) : c.text.length ≤ 1000000000 := by cases h; assumption
theorem Short.len {c : Ru.Cond} (h : Short c) : c.l.length ≤ 1000000000000 := by cases h; assumption
theorem Short.sub {c d : Ru.Cond} (h : Short c) (hd : d ∈ c.l) : Short d := by cases h with | mk op t n b l h1 h2 h3 => exact h3 d hd

theorem cond_cells {w : World} {ao : Option Addr} {cap : Nat} {ps : List (Ru.Cond × Value)} (h : LiesAt 8 cC w ao cap ps) (k : Nat) (hk : k < ps.length) {p : Ru.Cond × Value} (hp : ps[k] = p) : ∃ b off, ao = some ⟨b, off, none⟩ ∧
  w.cell? ⟨b, off + k * 8, none⟩ = some (.int .i64 p.1.op) ∧ w.cell? ⟨b, off + k * 8 + 1, none⟩ = some (str p.1.text) ∧ w.cell? ⟨b, off + k * 8 + 2, none⟩ = some (.int .i64 p.1.n) ∧
  w.cell? ⟨b, off + k * 8 + 3, none⟩ = some (.int .i64 p.1.box.x0) ∧ w.cell? ⟨b, off + k * 8 + 4, none⟩ = some (.int .i64 p.1.box.y0) ∧ w.cell? ⟨b, off + k * 8 + 5, none⟩ = some (.int .i64 p.1.box.x1) ∧ w.cell? ⟨b, off + k * 8 + 6, none⟩ = some (.int .i64 p.1.box.y1) ∧
  w.cell? ⟨b, off + k * 8 + 7, none⟩ = some p.2 := by
 obtain ⟨b, off, e, _, _, hr⟩ := h k hk
 subst hp
 exact ⟨b, off, e, hr 0 (by simp [cC]), hr 1 (by simp [cC]), hr 2 (by simp [cC]), hr 3 (by simp [cC]), hr 4 (by simp [cC]), hr 5 (by simp [cC]), hr 6 (by simp [cC]), hr 7 (by simp [cC])⟩

/-- What right returns. -/
def RightIs (c : Ru.Cond) : Prop := ∀ (w : World) (v : Value), Env w → Tree w c v → Calls Tryz.prog 37 #[cA c v] w fun e w' => e = .returned (.bool (Ru.right c)) ∧ Kp w w' none
set_option maxHeartbeats 2000000 in
set_option maxRecDepth 100000 in
theorem right1_cond {c : Ru.Cond} (h : RightIs c) (w : World) (v : Value) (he : Env w) (ht : Tree w c v) : Calls Tryz.prog 62 #[cA c v] w fun e w' => e = .returned (.bool (!Ru.right c)) ∧ Kp w w' none := by
 have hk : Kp w (w.alloc (.cells (cC (c, v)).toArray 40)) none := (Kp.refl _ _).alloc _
 have c1 := h _ v (he.kp0 hk) (ht.keep hk)
 obtain ⟨r, hr⟩ : ∃ r, Ru.right c = r := ⟨_, rfl⟩
 rw [hr] at c1 ⊢
 have HK := Lib.hid hk
 clear hr h he ht hk
 obtain ⟨op, t, n, ⟨x0, y0, x1, y1⟩, l⟩ := c
 unfold cA cC at *
 simp only [Ru.Cond.op, Ru.Cond.text, Ru.Cond.n, Ru.Cond.box] at *
 go_enter Tryz.func62, Tryz.ntmps62
 go_wp2_with (go_at_call 37; refine c1.mono ?_; rintro e w1 ⟨rfl, hk1⟩)
 go_ret
 exact ⟨rfl, HK.out.trans hk1⟩
set_option maxHeartbeats 4000000 in
set_option maxRecDepth 100000 in
theorem indexFunc_any (ps : List (Ru.Cond × Value)) (ao : Option Addr) (cap : Nat) (w : World) (he : Env w) (hl : LiesAt 8 cC w ao cap ps) (ht : ∀ p ∈ ps, Tree w p.1 p.2) (hr : ∀ p ∈ ps, RightIs p.1) (hm : ps.length ≤ 1000000000000) :
  Calls Tryz.prog 88 #[.slice ao ps.length cap, .func (.func 62) #[] #[]] w fun e w' => (∃ n : Int, e = .returned (.int .i64 n) ∧ decide (0 ≤ n) = !(ps.all fun p => Ru.right p.1)) ∧ Kp w w' none := by
 have HL := Lib.hid hl
 have HT := Lib.hid ht
 have HR := Lib.hid hr
 have HE := Lib.hid he
 clear hl ht hr he
 go_enter Tryz.func88, Tryz.ntmps88
 go_wp2_with fail
 go_loopw [8] (fun i wr => ∃ k : Nat, k ≤ ps.length ∧ i = .int .i64 k ∧ Hid (∀ p ∈ ps.take k, Ru.right p.1 = true) ∧ Kp w wr none) (fun i _ => ps.length - (intOf i).toNat)
 case atStart => exact ⟨0, Nat.zero_le _, rfl, Lib.hid (fun _ h => (by cases h)), Kp.refl _ _⟩
 case round =>
  obtain ⟨k, hk, rfl, HC, hkp⟩ := hrel
  have HK := Lib.hid hkp
  clear hkp
  have hk0 : (0 : Int) ≤ (k : Int) := Int.natCast_nonneg _
  by_cases hlt : k < ps.length
  ·obtain ⟨p, hp⟩ : ∃ p, ps[k] = p := ⟨_, rfl⟩
   have hmem : p ∈ ps := by rw [← hp]; exact List.getElem_mem hlt
   obtain ⟨b, off, hao, c0, c1, c2, c3, c4, c5, c6, c7⟩ := cond_cells (HL.out.keep HK.out) k hlt hp
   have A := right1_cond (HR.out p hmem) wr p.2 (HE.out.kp0 HK.out) ((HT.out p hmem).keep HK.out)
   have HN : Hid (Ru.right p.1 = true → ∀ q ∈ ps.take (k + 1), Ru.right q.1 = true) := Lib.hid (fun h q hq => by
    rw [List.take_succ_eq_append_getElem hlt, List.mem_append] at hq
    rcases hq with hq | hq
    ·exact HC.out q hq
    ·rw [List.mem_singleton] at hq; rw [hq, hp]; exact h)
   have HY : Hid (Ru.right p.1 = false → decide ((0 : Int) ≤ (k : Int)) = !(ps.all fun p => Ru.right p.1)) := Lib.hid (fun h => by
    rw [decide_eq_true hk0]
    have : (ps.all fun p => Ru.right p.1) = false := List.all_eq_false.2 ⟨p, hmem, by simp [h]⟩
    rw [this]; rfl)
   have hk1 : (k : Int) < (ps.length : Int) := by omega
   subst hao
   clear hp hmem
   obtain ⟨rv, hrv⟩ : ∃ rv, Ru.right p.1 = rv := ⟨_, rfl⟩
   rw [hrv] at A HN HY
   clear hrv
   obtain ⟨⟨op, t, n, ⟨x0, y0, x1, y1⟩, l⟩, v⟩ := p
   unfold cA at A
   simp only [Ru.Cond.op, Ru.Cond.text, Ru.Cond.n, Ru.Cond.box] at *
   cases rv
   ·have HY1 := Lib.hid (HY.out rfl)
    clear HN HY
    go_wp2_with fail
    refine A.mono ?_
    rintro e w1 ⟨rfl, k1⟩
    go_wp2_with fail
    go_ret
    exact ⟨⟨k, rfl, HY1.out⟩, HK.out.trans k1⟩
   ·have HN1 := Lib.hid (HN.out rfl)
    clear HN HY
    go_wp2_with fail
    refine A.mono ?_
    rintro e w1 ⟨rfl, k1⟩
    have K1 := Lib.hid (HK.out.trans k1)
    clear k1
    go_wp2_with fail
    go_roundw
    case rel => exact ⟨k + 1, hlt, by go_num, HN1, K1.out⟩
    case measure => simp [intOf]; omega
  ·have HA : Hid ((ps.all fun p => Ru.right p.1) = true) := Lib.hid (List.all_eq_true.2 fun q hq => HC.out q (by rw [List.take_of_length_le (by omega)]; exact hq))
   have hkn1 : ¬ (k : Int) < (ps.length : Int) := by omega
   go_wp2_with fail
   go_ret
   exact ⟨⟨-1, rfl, by rw [HA.out]; rfl⟩, HK.out⟩
set_option maxHeartbeats 2000000 in
set_option maxRecDepth 100000 in
theorem containsFunc_any (ps : List (Ru.Cond × Value)) (ao : Option Addr) (cap : Nat) (w : World) (he : Env w) (hl : LiesAt 8 cC w ao cap ps) (ht : ∀ p ∈ ps, Tree w p.1 p.2) (hr : ∀ p ∈ ps, RightIs p.1) (hm : ps.length ≤ 1000000000000) :
  Calls Tryz.prog 61 #[.slice ao ps.length cap, .func (.func 62) #[] #[]] w fun e w' => e = .returned (.bool (!(ps.all fun p => Ru.right p.1))) ∧ Kp w w' none := by
 have A := indexFunc_any ps ao cap w he hl ht hr hm
 obtain ⟨r, hr2⟩ : ∃ r, (!(ps.all fun p => Ru.right p.1)) = r := ⟨_, rfl⟩
 rw [hr2] at A ⊢
 clear he hl ht hr hr2
 go_enter Tryz.func61, Tryz.ntmps61
 go_wp2_with (go_at_call 88; refine A.mono ?_; rintro e w1 ⟨⟨n, rfl, hn⟩, hk⟩; have HN := Lib.hid hn; clear hn)
 go_ret
 exact ⟨ret_b HN.out, hk⟩
theorem rightIs (c : Ru.Cond) : Short c → RightIs c := by
 refine Ru.Cond.ind (P := fun c => Short c → RightIs c) (fun op t n b l ih hs w v he ht => ?_) c
 obtain ⟨ps, hps, hl, hts⟩ := ht.open
 have hps : l = ps.map (·.1) := hps
 have hlen : ps.length = l.length := by rw [hps]; simp
 have h1 : l.length ≤ 1000000000000 := hs.len
 have h2 : t.length ≤ 1000000000 := hs.text
 obtain ⟨ao, cap, rfl, hx⟩ := hl.form
 have hg : Ru.rights l = ps.all fun p => Ru.right p.1 := by rw [Ru.rights_all, hps, List.all_map]; rfl
 have hc : ∀ u, Kp w u none → Calls Tryz.prog 61 #[.slice ao ps.length cap, .func (.func 62) #[] #[]] u fun e w' => e = .returned (.bool (!Ru.rights l)) ∧ Kp u w' none := fun u hu => by
  rw [hg]
  exact containsFunc_any ps ao cap u (he.kp0 hu) (hx.keep hu) (fun p hp => (hts p hp).keep hu) (fun p hp => ih p.1 (by rw [hps]; exact List.mem_map_of_mem hp) (hs.sub (by show p.1 ∈ l; rw [hps]; exact List.mem_map_of_mem hp))) (by omega)
 obtain ⟨x0, y0, x1, y1⟩ := b
 show Calls Tryz.prog 37 #[.agg #[.int .i64 op, str t, .int .i64 n, .int .i64 x0, .int .i64 y0, .int .i64 x1, .int .i64 y1, .slice ao ps.length cap]] w _
 by_cases o : op < 1 ∨ 10 < op
 ·exact right_op0 op o t n x0 y0 x1 y1 l w he h2 ao cap ps.length hlen.symm (by omega) hc
 ·have : op = 1 ∨ op = 2 ∨ op = 3 ∨ op = 4 ∨ op = 5 ∨ op = 6 ∨ op = 7 ∨ op = 8 ∨ op = 9 ∨ op = 10 := by omega
  rcases this with rfl | rfl | rfl | rfl | rfl | rfl | rfl | rfl | rfl | rfl
  ·exact right_op1 t n x0 y0 x1 y1 l w he h2 ao cap ps.length hlen.symm (by omega) hc
  ·exact right_op2 t n x0 y0 x1 y1 l w he h2 ao cap ps.length hlen.symm (by omega) hc
  ·exact right_op3 t n x0 y0 x1 y1 l w he h2 ao cap ps.length hlen.symm (by omega) hc
  ·exact right_op4 t n x0 y0 x1 y1 l w he h2 ao cap ps.length hlen.symm (by omega) hc
  ·exact right_op5 t n x0 y0 x1 y1 l w he h2 ao cap ps.length hlen.symm (by omega) hc
  ·exact right_op6 t n x0 y0 x1 y1 l w he h2 ao cap ps.length hlen.symm (by omega) hc
  ·exact right_op7 t n x0 y0 x1 y1 l w he h2 ao cap ps.length hlen.symm (by omega) hc
  ·exact right_op8 t n x0 y0 x1 y1 l w he h2 ao cap ps.length hlen.symm (by omega) hc
  ·exact right_op9 t n x0 y0 x1 y1 l w he h2 ao cap ps.length hlen.symm (by omega) hc
  ·exact right_op10 t n x0 y0 x1 y1 l w he h2 ao cap ps.length hlen.symm (by omega) hc
end Go.Proofs.YtnchipahdfbliaaGreatDoor

namespace Go.Proofs.YtnchipahdfbliaaGreatDoor
open Go.RowKit

theorem Tree.slice {w : World} {c : Ru.Cond} {v : Value} (h : Tree w c v) : ∃ ao n cap, v = .slice ao n cap := by
 obtain ⟨ps, _, hl, _⟩ := h.open
 obtain ⟨ao, cap, e, _⟩ := hl.form
 exact ⟨ao, _, cap, e⟩
theorem sizes_take {ps : List (Ru.Cond × Value)} {k : Nat} (hk : k < ps.length) : Ru.sizes ((ps.take (k + 1)).map (·.1)) = Ru.sizes ((ps.take k).map (·.1)) + Ru.size ps[k].1 := by
 rw [List.take_succ_eq_append_getElem hk, List.map_append, Ru.sizes_app]; simp [Ru.sizes]
theorem sizes_le_all {ps : List (Ru.Cond × Value)} (k : Nat) : Ru.sizes ((ps.take k).map (·.1)) ≤ Ru.sizes (ps.map (·.1)) := by
 have h := congrArg (fun x => Ru.sizes (x.map (·.1))) (List.take_append_drop k ps)
 simp only [List.map_append, Ru.sizes_app] at h
 omega
theorem sizes_len : ∀ (l : List Ru.Cond), l.length ≤ Ru.sizes l
 | [] => by simp
 | c :: l => by have := sizes_len l; have := Ru.size_pos c; rw [Ru.sizes, List.length_cons]; omega
def SizeIs (c : Ru.Cond) : Prop := ∀ (w : World) (v : Value), Tree w c v → Calls Tryz.prog 38 #[cA c v] w fun e w' => e = .returned (.int .i64 (Ru.size c)) ∧ Kp w w' none
set_option maxHeartbeats 4000000 in
set_option maxRecDepth 100000 in
theorem size_walk (op : Int) (t : List UInt8) (n x0 y0 x1 y1 : Int) (ps : List (Ru.Cond × Value)) (ao : Option Addr) (cap : Nat) (w : World) (hl : LiesAt 8 cC w ao cap ps) (ht : ∀ p ∈ ps, Tree w p.1 p.2) (hr : ∀ p ∈ ps, SizeIs p.1) (hm : Ru.sizes (ps.map (·.1)) + 1 ≤ 1000000000000) :
  Calls Tryz.prog 38 #[.agg #[.int .i64 op, str t, .int .i64 n, .int .i64 x0, .int .i64 y0, .int .i64 x1, .int .i64 y1, .slice ao ps.length cap]] w fun e w' => e = .returned (.int .i64 ((Ru.sizes (ps.map (·.1)) + 1 : Nat) : Int)) ∧ Kp w w' none := by
 obtain ⟨S, hS⟩ : ∃ S, Ru.sizes (ps.map (·.1)) + 1 = S := ⟨_, rfl⟩
 rw [hS] at hm ⊢
 have HL := Lib.hid hl
 have HT := Lib.hid ht
 have HR := Lib.hid hr
 have HS := Lib.hid hS
 have hlen : ps.length ≤ 1000000000000 := by have := sizes_len (ps.map (·.1)); simp at this; omega
 clear hl ht hr hS
 go_enter Tryz.func38, Tryz.ntmps38
 go_wp2_with fail
 have K1 : Hid (Kp w (w.alloc (.cells #[.int .i64 op, str t, .int .i64 n, .int .i64 x0, .int .i64 y0, .int .i64 x1, .int .i64 y1, .slice ao ps.length cap] 40)) none) := Lib.hid ((Kp.refl _ _).alloc _)
 go_loopw [3, 9] (fun m i wr => ∃ k : Nat, k ≤ ps.length ∧ i = .int .i64 k ∧ m = .int .i64 ((Ru.sizes ((ps.take k).map (·.1)) + 1 : Nat) : Int) ∧ Kp w wr none) (fun _ i _ => ps.length - (intOf i).toNat)
 case atStart => exact ⟨0, Nat.zero_le _, rfl, rfl, K1.out⟩
 case round =>
  obtain ⟨k, hk, rfl, rfl, hkp⟩ := hrel
  have HK := Lib.hid hkp
  clear hkp
  have hk0 : (0 : Int) ≤ (k : Int) := Int.natCast_nonneg _
  have hle := sizes_le_all (ps := ps) k
  obtain ⟨q, hq⟩ : ∃ q, Ru.sizes ((ps.take k).map (·.1)) + 1 = q := ⟨_, rfl⟩
  rw [hq]
  have hqb : q ≤ 1000000000000 := by have := HS.out; omega
  by_cases hlt : k < ps.length
  ·obtain ⟨p, hp⟩ : ∃ p, ps[k] = p := ⟨_, rfl⟩
   have hmem : p ∈ ps := by rw [← hp]; exact List.getElem_mem hlt
   obtain ⟨b, off, hao, c0, c1, c2, c3, c4, c5, c6, c7⟩ := cond_cells (HL.out.keep HK.out) k hlt hp
   have hst := sizes_take hlt
   have hle2 := sizes_le_all (ps := ps) (k + 1)
   rw [hp] at hst
   have hsz := Ru.size_pos p.1
   obtain ⟨z, hz⟩ : ∃ z, Ru.size p.1 = z := ⟨_, rfl⟩
   have A : ∀ u, Kp w u none → Calls Tryz.prog 38 #[cA p.1 p.2] u fun e w' => e = .returned (.int .i64 (z : Int)) ∧ Kp u w' none := fun u hu => by rw [← hz]; exact HR.out p hmem u p.2 ((HT.out p hmem).keep hu)
   rw [hz] at hst hsz
   have hqz : q + z ≤ 1000000000000 := by have := HS.out; omega
   have HQ : Hid (Ru.sizes ((ps.take (k + 1)).map (·.1)) + 1 = q + z) := Lib.hid (by omega)
   have hk1 : (k : Int) < (ps.length : Int) := by omega
   have hv2 := (HT.out p hmem).slice
   subst hao
   clear hp hmem hst hle hle2 hq hz
   obtain ⟨⟨op', t', n', ⟨a0, b0, a1, b1⟩, l'⟩, v'⟩ := p
   unfold cA at A
   simp only [Ru.Cond.op, Ru.Cond.text, Ru.Cond.n, Ru.Cond.box] at *
   obtain ⟨ao2, m2, cap2, rfl⟩ := hv2
   have KA : Hid (Kp w (wr.alloc (.cells #[.int .i64 op', str t', .int .i64 n', .int .i64 a0, .int .i64 b0, .int .i64 a1, .int .i64 b1, .slice ao2 m2 cap2] 40)) none) := Lib.hid (HK.out.alloc _)
   go_wp2_with (go_at_call 38; refine (A _ KA.out).mono ?_; rintro e w1 ⟨rfl, k1⟩; have K2 := Lib.hid (KA.out.trans k1); clear k1)
   go_roundw
   case rel => exact ⟨k + 1, hlt, by go_num, by rw [HQ.out]; go_num, K2.out⟩
   case measure => simp [intOf]; omega
  ·obtain rfl : k = ps.length := by omega
   have HE : Hid (q = S) := Lib.hid (by rw [← hq, ← HS.out, List.take_length])
   clear hle hq
   go_wp2_with fail
   go_ret
   exact ⟨by rw [HE.out]; rfl, HK.out⟩
theorem sizeIs (c : Ru.Cond) : Ru.size c ≤ 1000000000000 → SizeIs c := by
 refine Ru.Cond.ind (P := fun c => Ru.size c ≤ 1000000000000 → SizeIs c) (fun op t n b l ih hs w v ht => ?_) c
 obtain ⟨ps, hps, hl, hts⟩ := ht.open
 have hps : l = ps.map (·.1) := hps
 subst hps
 rw [Ru.size_mk] at hs ⊢
 obtain ⟨ao, cap, rfl, hx⟩ := hl.form
 exact size_walk op t n b.x0 b.y0 b.x1 b.y1 ps ao cap w hx hts (fun p hp => ih p.1 (List.mem_map_of_mem hp) (by have := Ru.size_le (List.mem_map_of_mem (f := (·.1)) hp); omega)) hs
end Go.Proofs.YtnchipahdfbliaaGreatDoor

namespace Go.Proofs.YtnchipahdfbliaaGreatDoor
open Go.RowKit

theorem LiesAt.range {α : Type} {m : Nat} {f : α → List Value} {w : World} {ao : Option Addr} {cap : Nat} {xs : List α} (h : LiesAt m f w ao cap xs) (k : Nat) (hk : k < xs.length) {p : α} (hp : xs[k] = p) : ∃ b off, ao = some ⟨b, off, none⟩ ∧ b < w.heap.size ∧ w.rangeAt b (off + k * m) (f p) := by
 obtain ⟨b, off, e, hb, _, hr⟩ := h k hk
 subst hp
 refine ⟨b, off, e, hb, fun j v hv => ?_⟩
 obtain ⟨hj, rfl⟩ := List.getElem?_eq_some_iff.1 hv
 exact hr j hj
theorem info42 : (Tryz.prog.info? 42).map (·.size) = some 20 := by kernel_rfl
/-- A whole struct stored into the block that was made last. -/
theorem wpList_store_new {P : Program} {ops : Array Oper} {rest : List Oper} {op : Oper} {a : Act} {w : World} {Q : Exit → Act → World → Prop} (hgd : op.guard = none) (ty : TypeId) (x y : Operand) (ho : op.op = .store ty x y)
  (c c' : Array Value) (t : TypeId) (hx : a.eval x = .pointer (some ⟨w.heap.size, 0, none⟩)) (hy : a.eval y = .agg c') (ht : ty = t) (hi : (P.info? ty).map (·.size) = some c'.size) (hs : c.size = c'.size) (h1 : ∀ v ∈ c'.toList, v.oneCell' = true)
  (h : wpList P ops Q rest (a.put op.dst undef) (w.alloc (.cells c' t))) : wpList P ops Q (op :: rest) a (w.alloc (.cells c t)) := by
 subst ht
 refine wpList_plain hgd fun K hK => ?_
 unfold Oper.wp execOp
 simp only [ho, hx, hy, Sem.run_bind, Result.andThen_ok, run_storeAt_new w ty c c' hi hs (Array.all_eq_true_iff_forall_mem.2 (fun v hv => h1 v (by simpa using hv)))]
 exact hK _ _ h
theorem LiesAt.take {α : Type} {m : Nat} {f : α → List Value} {w : World} {ao : Option Addr} {cap : Nat} {xs : List α} (h : LiesAt m f w ao cap xs) (k : Nat) : LiesAt m f w ao cap (xs.take k) := fun i hi => by
 have hi' : i < xs.length := by rw [List.length_take] at hi; omega
 obtain ⟨b, off, e, hb, hc, hr⟩ := h i hi'
 refine ⟨b, off, e, hb, by rw [List.length_take]; omega, fun j hj => ?_⟩
 have e2 : (xs.take k)[i] = xs[i] := List.getElem_take
 rw [e2] at hj
 rw [hr j hj]
 congr 1
 simp only [e2]
set_option maxHeartbeats 2000000 in
set_option maxRecDepth 100000 in
theorem twice1_any (p : RV) (x : List UInt8) (b : Nat) (w : World) (hc : w.cell? ⟨b, 0, none⟩ = some (str x)) (hb : b < w.heap.size) (ha : ∃ a1 a2 a3, p.a = .slice a1 a2 a3) (hb2 : ∃ a1 a2 a3, p.b = .slice a1 a2 a3) : Calls Tryz.prog 35 #[rA p, .pointer (some ⟨b, 0, none⟩)] w fun e w' => e = .returned (.bool (p.r.name == x)) ∧ Kp w w' none := by
 obtain ⟨⟨name, prio, what, value, ⟨o1, t1, n1, ⟨x10, y10, x11, y11⟩, l1⟩, ⟨o2, t2, n2, ⟨x20, y20, x21, y21⟩, l2⟩⟩, a, b2⟩ := p
 obtain ⟨a1, a2, a3, rfl⟩ := ha
 obtain ⟨b1, b4, b3, rfl⟩ := hb2
 obtain ⟨r, hr⟩ : ∃ r, (name == x) = r := ⟨_, rfl⟩
 have HR := Lib.hid hr
 unfold rA rC cC
 simp only [Ru.Cond.op, Ru.Cond.text, Ru.Cond.n, Ru.Cond.box, List.cons_append, List.nil_append]
 have hbne : b ≠ w.heap.size := by omega
 go_enter Tryz.func35, Tryz.ntmps35
 go_wp2_with fail
 go_ret
 exact ⟨ret_b (by first | rfl | (rw [HR.out])), (Kp.refl _ _).alloc _⟩
theorem RV.slices {w : World} {p : RV} (h : p.Tree w) : (∃ a1 a2 a3, p.a = .slice a1 a2 a3) ∧ ∃ a1 a2 a3, p.b = .slice a1 a2 a3 := ⟨h.1.slice, h.2.slice⟩
set_option maxHeartbeats 4000000 in
set_option maxRecDepth 100000 in
theorem indexRule_any (ps : List RV) (x : List UInt8) (bx : Nat) (ao : Option Addr) (cap : Nat) (w : World) (hc : w.cell? ⟨bx, 0, none⟩ = some (str x)) (hl : LiesAt 20 rC w ao cap ps) (ht : ∀ p ∈ ps, p.Tree w) (hm : ps.length ≤ 1000000000000) :
  Calls Tryz.prog 58 #[.slice ao ps.length cap, .func (.func 35) #[] #[.pointer (some ⟨bx, 0, none⟩)]] w fun e w' => (∃ n : Int, e = .returned (.int .i64 n) ∧ decide (0 ≤ n) = ps.any fun p => p.r.name == x) ∧ Kp w w' none := by
 have hbx := cell_lt hc
 have HL := Lib.hid hl
 have HT := Lib.hid ht
 have HX := Lib.hid hc
 clear hl ht hc
 go_enter Tryz.func58, Tryz.ntmps58
 go_wp2_with fail
 go_loopw [8] (fun i wr => ∃ k : Nat, k ≤ ps.length ∧ i = .int .i64 k ∧ Hid (∀ p ∈ ps.take k, (p.r.name == x) = false) ∧ Kp w wr none) (fun i _ => ps.length - (intOf i).toNat)
 case atStart => exact ⟨0, Nat.zero_le _, rfl, Lib.hid (fun _ h => (by cases h)), Kp.refl _ _⟩
 case round =>
  obtain ⟨k, hk, rfl, HC, hkp⟩ := hrel
  have HK := Lib.hid hkp
  have hbk := hkp.size
  clear hkp
  have hk0 : (0 : Int) ≤ (k : Int) := Int.natCast_nonneg _
  by_cases hlt : k < ps.length
  ·obtain ⟨p, hp⟩ : ∃ p, ps[k] = p := ⟨_, rfl⟩
   have hmem : p ∈ ps := by rw [← hp]; exact List.getElem_mem hlt
   obtain ⟨b, off, hao, _, hrg⟩ := (HL.out.keep HK.out).range k hlt hp
   have sl := RV.slices (HT.out p hmem)
   have A := twice1_any p x bx wr ((HK.out.below.cell (p := ⟨bx, 0, none⟩) hbx).trans HX.out) (by omega) sl.1 sl.2
   have HN : Hid ((p.r.name == x) = false → ∀ q ∈ ps.take (k + 1), (q.r.name == x) = false) := Lib.hid (fun h q hq => by
    rw [List.take_succ_eq_append_getElem hlt, List.mem_append] at hq
    rcases hq with hq | hq
    ·exact HC.out q hq
    ·rw [List.mem_singleton] at hq; rw [hq, hp]; exact h)
   have HY : Hid ((p.r.name == x) = true → decide ((0 : Int) ≤ (k : Int)) = ps.any fun p => p.r.name == x) := Lib.hid (fun h => by
    rw [decide_eq_true hk0, List.any_eq_true.2 ⟨p, hmem, h⟩])
   have hk1 : (k : Int) < (ps.length : Int) := by omega
   subst hao
   clear hp hmem
   obtain ⟨rv, hrv⟩ : ∃ rv, (p.r.name == x) = rv := ⟨_, rfl⟩
   rw [hrv] at A HN HY
   clear hrv
   clear sl
   unfold rA at A
   have HRG := Lib.hid hrg
   clear hrg
   cases rv
   ·have HN1 := Lib.hid (HN.out rfl)
    clear HN HY
    go_wp2_with (refine wpList_load_mid (by rfl) 42 _ (by rfl) b (off + k * 20) (by rfl) (rC p) _ HRG.out Tryz.underlying42 (by rfl) info42 ?_)
    refine A.mono ?_
    rintro e w1 ⟨rfl, k1⟩
    have K1 := Lib.hid (HK.out.trans k1)
    clear k1
    go_wp2_with fail
    go_roundw
    case rel => exact ⟨k + 1, hlt, by go_num, HN1, K1.out⟩
    case measure => simp [intOf]; omega
   ·have HY1 := Lib.hid (HY.out rfl)
    clear HN HY
    go_wp2_with (refine wpList_load_mid (by rfl) 42 _ (by rfl) b (off + k * 20) (by rfl) (rC p) _ HRG.out Tryz.underlying42 (by rfl) info42 ?_)
    refine A.mono ?_
    rintro e w1 ⟨rfl, k1⟩
    go_wp2_with fail
    go_ret
    exact ⟨⟨k, rfl, HY1.out⟩, HK.out.trans k1⟩
  ·have HA : Hid ((ps.any fun p => p.r.name == x) = false) := Lib.hid (List.any_eq_false.2 fun q hq h => by
    have h2 := HC.out q (by rw [List.take_of_length_le (by omega)]; exact hq)
    rw [h2] at h; cases h)
   have hkn1 : ¬ (k : Int) < (ps.length : Int) := by omega
   go_wp2_with fail
   go_ret
   exact ⟨⟨-1, rfl, by rw [HA.out]; rfl⟩, HK.out⟩
set_option maxHeartbeats 2000000 in
set_option maxRecDepth 100000 in
theorem containsRule_any (ps : List RV) (x : List UInt8) (bx : Nat) (ao : Option Addr) (cap : Nat) (w : World) (hc : w.cell? ⟨bx, 0, none⟩ = some (str x)) (hl : LiesAt 20 rC w ao cap ps) (ht : ∀ p ∈ ps, p.Tree w) (hm : ps.length ≤ 1000000000000) :
  Calls Tryz.prog 34 #[.slice ao ps.length cap, .func (.func 35) #[] #[.pointer (some ⟨bx, 0, none⟩)]] w fun e w' => e = .returned (.bool (ps.any fun p => p.r.name == x)) ∧ Kp w w' none := by
 have A := indexRule_any ps x bx ao cap w hc hl ht hm
 obtain ⟨r, hr2⟩ : ∃ r, (ps.any fun p => p.r.name == x) = r := ⟨_, rfl⟩
 rw [hr2] at A ⊢
 clear hl ht hc hr2
 go_enter Tryz.func34, Tryz.ntmps34
 go_wp2_with (go_at_call 58; refine A.mono ?_; rintro e w1 ⟨⟨n, rfl, hn⟩, hk⟩; have HN := Lib.hid hn; clear hn)
 go_ret
 exact ⟨ret_b HN.out, hk⟩
end Go.Proofs.YtnchipahdfbliaaGreatDoor
