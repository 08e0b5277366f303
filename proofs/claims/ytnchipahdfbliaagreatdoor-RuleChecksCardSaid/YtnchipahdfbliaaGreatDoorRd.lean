/- The program's reader of words: peek, next, must, number. Conditions: at most 10^12 words, each of at most 10^9 bytes. -/
import Derived.Test.YtnchipahdfbliaaGreatDoorCh
import Derived.Test.YtnchipahdfbliaaGreatDoorPlain
namespace Go.Proofs.YtnchipahdfbliaaGreatDoor
open Go.RowKit

theorem LiesAt.keepRow {α : Type} {m : Nat} {f : α → List Value} {w w' : World} {ao : Option Addr} {cap R : Nat} {xs : List α} (h : LiesAt m f w ao cap xs) (k : Kp w w' (some R)) (hR : ∀ p, ao = some p → p.block ≠ R) : LiesAt m f w' ao cap xs := fun i hi => by
 obtain ⟨b, off, e, hb, hc, hr⟩ := h i hi
 have hne := hR _ e
 exact ⟨b, off, e, Nat.lt_of_lt_of_le hb k.size, hc, fun j hj => by rw [World.grownBy.cell_far k ⟨b, off + i * m + j, none⟩ hb (fun q => hne (Option.some.inj q))]; exact hr j hj⟩
/-- What a line that cannot be read ends in. -/
def badP : List PanicEntry := [{ v := .iface 115 (.agg #[]), recovered := false }]
/-- Words that a machine holds. -/
def WsOk (ws : Ru.Ws) : Prop := ws.length ≤ 1000000000000 ∧ ∀ x ∈ ws, x.length ≤ 1000000000
/-- The reader in block R has these words ahead. -/
def RdAt (R : Nat) (w : World) (ws : Ru.Ws) : Prop := ∃ ao cap, w.heap[R]? = some (.cells #[.slice ao ws.length cap] 119 (0, 0)) ∧ LiesAt 1 strVal w ao cap ws ∧ (∀ p, ao = some p → p.block + 1 = R) ∧ WsOk ws
theorem RdAt.keep {R : Nat} {w w' : World} {ws : Ru.Ws} (h : RdAt R w ws) (k : Kp w w' none) : RdAt R w' ws := by
 obtain ⟨ao, cap, h1, h2, h3, h4⟩ := h
 exact ⟨ao, cap, res_kept h1 k (by simp), h2.keep k, h3, h4⟩
theorem RdAt.far {R r : Nat} {w w' : World} {ws : Ru.Ws} (h : RdAt R w ws) (k : Kp w w' (some r)) (hr : R < r) : RdAt R w' ws := by
 obtain ⟨ao, cap, h1, h2, h3, h4⟩ := h
 exact ⟨ao, cap, res_kept h1 k (by intro q hq; injection hq with hq; omega), h2.keepRow k (fun p hp => by have := h3 p hp; omega), h3, h4⟩
theorem RdAt.lt {R : Nat} {w : World} {ws : Ru.Ws} (h : RdAt R w ws) : R < w.heap.size := by
 obtain ⟨ao, cap, h1, _⟩ := h; exact lt_of_block h1
theorem WsOk.tail {x : List UInt8} {r : Ru.Ws} (h : WsOk (x :: r)) : WsOk r := ⟨by have := h.1; simp at this; omega, fun y hy => h.2 y (by simp [hy])⟩
/-- How a function of the reader ends. -/
def Out {α : Type} (x : Option (α × Ru.Ws)) (val : α → World → Value → Prop) (R : Nat) (w : World) (e : Ending) (w' : World) : Prop :=
 (match x with
 | some (a, r) => ∃ v, e = .returned v ∧ val a w' v ∧ RdAt R w' r
 | none => e = .panicked badP) ∧ Kp w w' (some R)

set_option maxHeartbeats 2000000 in
set_option maxRecDepth 100000 in
theorem peek_any (R : Nat) (w : World) (ws : Ru.Ws) (h : RdAt R w ws) : Calls Tryz.prog 99 #[.pointer (some ⟨R, 0, none⟩)] w fun e w' => e = .returned (str (ws.headD [])) ∧ w' = w := by
 obtain ⟨ao, cap, h1, h2, _, h4⟩ := h
 have c0 : w.cell? ⟨R, 0, none⟩ = some (.slice ao ws.length cap) := by have := Lib.cell_of_heap h1 0; simpa using this
 have hl := h4.1
 clear h4
 cases ws with
 | nil =>
  clear h1 h2
  simp only [List.length_nil] at c0
  go_enter Tryz.func99, Tryz.ntmps99
  go_wp2_with fail
  go_ret
  exact ⟨rfl, rfl⟩
 | cons x r =>
  obtain ⟨b, off, rfl, hb, hc, hcell⟩ := LiesAt.str h2 0 (by simp)
  have cx := hcell 0 (by simp)
  simp only [Nat.add_zero, List.getElem_cons_zero] at cx
  have hn : ((x :: r).length : Int) ≠ 0 := by rw [List.length_cons]; omega
  have hnb : (((x :: r).length : Int) == 0) = false := by simpa using hn
  have h0 : (0 : Int) < ((x :: r).length : Int) := by rw [List.length_cons]; omega
  obtain ⟨n, hn2⟩ : ∃ n, (x :: r).length = n := ⟨_, rfl⟩
  rw [hn2] at c0 hnb h0 hl
  clear h1 h2 hcell hn hn2 hc
  go_enter Tryz.func99, Tryz.ntmps99
  go_wp2_with fail
  go_ret
  exact ⟨rfl, rfl⟩
set_option maxHeartbeats 4000000 in
set_option maxRecDepth 100000 in
theorem next_any (R : Nat) (w : World) (ws : Ru.Ws) (h : RdAt R w ws) : Calls Tryz.prog 75 #[.pointer (some ⟨R, 0, none⟩)] w (Out (Ru.next ws) (fun a _ v => v = str a) R w) := by
 have cp := peek_any R w ws h
 have H := Lib.hid h
 obtain ⟨ao, cap, h1, h2, h3, h4⟩ := h
 have c0 : w.cell? ⟨R, 0, none⟩ = some (.slice ao ws.length cap) := by have := Lib.cell_of_heap h1 0; simpa using this
 have f0 : w.frozen? ⟨R, 0, none⟩ = false := Lib.frozen_of_heap h1 0
 cases ws with
 | nil =>
  have HO : Hid (Out (Ru.next []) (fun a _ v => v = str a) R w (.panicked badP) w) := Lib.hid ⟨rfl, Kp.refl _ _⟩
  clear h1 h2 h3 h4 c0 f0
  have cp2 : Calls Tryz.prog 99 #[.pointer (some ⟨R, 0, none⟩)] w fun e w' => e = .returned (str []) ∧ w' = w := cp
  clear cp
  go_enter Tryz.func75, Tryz.ntmps75
  go_wp2_with (go_at_call 99; refine cp2.mono ?_; rintro e w1 ⟨rfl, rfl⟩)
  exact ⟨rfl, HO.out⟩
 | cons x r =>
  by_cases hx : x = []
  ·subst hx
   have HO : Hid (Out (Ru.next ([] :: r)) (fun a _ v => v = str a) R w (.panicked badP) w) := Lib.hid ⟨rfl, Kp.refl _ _⟩
   clear h1 h2 h3 h4 c0 f0
   have cp2 : Calls Tryz.prog 99 #[.pointer (some ⟨R, 0, none⟩)] w fun e w' => e = .returned (str []) ∧ w' = w := cp
   clear cp
   go_enter Tryz.func75, Tryz.ntmps75
   go_wp2_with (go_at_call 99; refine cp2.mono ?_; rintro e w1 ⟨rfl, rfl⟩)
   exact ⟨rfl, HO.out⟩
  ·have hxe : x.isEmpty = false := by cases x with | nil => exact absurd rfl hx | cons _ _ => rfl
   have hxe2 : (x == []) = false := by simpa using hx
   have e0 : Ru.next (x :: r) = some (x, r) := Ru.next_cons hx
   rw [e0]
   have cp2 : Calls Tryz.prog 99 #[.pointer (some ⟨R, 0, none⟩)] w fun e w' => e = .returned (str x) ∧ w' = w := cp
   obtain ⟨b, off, hao, hb, hcp, hcell⟩ := LiesAt.str h2 0 (by simp)
   subst hao
   have hbR2 : b + 1 = R := h3 _ rfl
   have hbR : b ≠ R := by omega
   have hl := h4.1
   have hlen : (x :: r).length = r.length + 1 := rfl
   rw [hlen] at c0 hcp hl
   have H1 := Lib.hid h1
   have H2 := Lib.hid h2
   have H4 := Lib.hid h4
   have hcap0 : (1 : Int) ≤ (cap : Int) := by omega
   clear cp h1 h2 h3 h4 hcell hlen e0 hx
   by_cases hc1 : cap = 1
   ·have hr : r = [] := List.length_eq_zero_iff.1 (by omega)
    subst hr
    subst hc1
    have HO : Hid (∀ V, Kp w V (some R) → V.heap[R]? = some (.cells #[.slice (some ⟨b, off, none⟩) 0 0] 119 (0, 0)) → RdAt R V []) := Lib.hid (fun V hV hh => ⟨_, _, hh, fun k hk => absurd hk (Nat.not_lt_zero _), fun p hp => by injection hp with hp; subst hp; exact hbR2, H4.out.tail⟩)
    simp only [List.length_nil, Nat.zero_add] at c0
    go_enter Tryz.func75, Tryz.ntmps75
    go_wp2_with (go_at_call 99; refine cp2.mono ?_; rintro e w1 ⟨rfl, rfl⟩)
    go_ret
    have hk := (Kp.refl w1 (some R)).set (o := 0) (.slice (some ⟨b, off, none⟩) 0 0)
    exact ⟨⟨_, rfl, rfl, HO.out _ hk (by have := heap_set (o := 0) (v := .slice (some ⟨b, off, none⟩) 0 0) H1.out; simpa using this)⟩, hk⟩
   ·have HO : Hid (∀ V, Kp w V (some R) → V.heap[R]? = some (.cells #[.slice (some ⟨b, off + 1, none⟩) r.length (cap - 1)] 119 (0, 0)) → RdAt R V r) := Lib.hid (fun V hV hh => ⟨_, _, hh, fun k hk => by
     have hV2 : LiesAt 1 strVal V (some ⟨b, off, none⟩) cap (x :: r) := H2.out.keepRow hV (fun p hp => by injection hp with hp; subst hp; exact hbR)
     obtain ⟨b', off', e, hb', hc', hr'⟩ := hV2 (k + 1) (by simp; omega)
     injection e with e
     injection e with e1 e2
     subst e1; subst e2
     refine ⟨_, _, rfl, hb', by simp at hc'; omega, fun j hj => ?_⟩
     have := hr' j (by simpa using hj)
     rw [show off + 1 + k * 1 + j = off + (k + 1) * 1 + j by omega, this]
     simp, fun p hp => by injection hp with hp; subst hp; exact hbR2, H4.out.tail⟩)
    have hc2 : ¬ (cap : Int) = 1 := by omega
    go_enter Tryz.func75, Tryz.ntmps75
    go_wp2_with (go_at_call 99; refine cp2.mono ?_; rintro e w1 ⟨rfl, rfl⟩)
    go_ret
    have hk := (Kp.refl w1 (some R)).set (o := 0) (.slice (some ⟨b, off + 1, none⟩) r.length (cap - 1))
    exact ⟨⟨_, rfl, rfl, HO.out _ hk (by have := heap_set (o := 0) (v := .slice (some ⟨b, off + 1, none⟩) r.length (cap - 1)) H1.out; simpa using this)⟩, hk⟩
set_option maxHeartbeats 2000000 in
set_option maxRecDepth 100000 in
theorem must_any (k : List UInt8) (R : Nat) (w : World) (ws : Ru.Ws) (h : RdAt R w ws) : Calls Tryz.prog 74 #[.pointer (some ⟨R, 0, none⟩), str k] w (Out ((Ru.must k ws).map fun r => ((), r)) (fun _ _ v => v = .tuple #[]) R w) := by
 have cn := next_any R w ws h
 unfold Ru.must
 cases hn : Ru.next ws with
 | none =>
  rw [hn] at cn
  have cn2 : Calls Tryz.prog 75 #[.pointer (some ⟨R, 0, none⟩)] w fun e w' => e = .panicked badP ∧ Kp w w' (some R) := cn
  have HO : Hid (∀ V, Kp w V (some R) → Out ((none : Option Ru.Ws).map fun r => ((), r)) (fun _ _ v => v = .tuple #[]) R w (.panicked badP) V) := Lib.hid fun V hV => ⟨rfl, hV⟩
  clear cn hn h
  go_enter Tryz.func74, Tryz.ntmps74
  go_wp2_with (go_at_call 75; refine cn2.mono ?_; rintro e w1 ⟨rfl, hk⟩)
  exact ⟨rfl, HO.out _ hk⟩
 | some p =>
  obtain ⟨x, r⟩ := p
  rw [hn] at cn
  have cn2 : Calls Tryz.prog 75 #[.pointer (some ⟨R, 0, none⟩)] w fun e w' => e = .returned (str x) ∧ Hid (RdAt R w' r) ∧ Hid (Kp w w' (some R)) := cn.mono fun e w' ⟨⟨v, h1, h2, h3⟩, h4⟩ => ⟨by rw [h1, h2], Lib.hid h3, Lib.hid h4⟩
  clear cn hn h
  dsimp only
  by_cases hx : x = k
  ·subst hx
   rw [if_pos rfl]
   have hb : (x == x) = true := by simp
   have hb2 : (x != x) = false := by simp
   go_enter Tryz.func74, Tryz.ntmps74
   go_wp2_with (go_at_call 75; refine cn2.mono ?_; rintro e w1 ⟨rfl, hr, hk⟩)
   go_end0
   exact ⟨⟨_, rfl, rfl, hr.out⟩, hk.out⟩
  ·rw [if_neg hx]
   have hb : (x == k) = false := by simpa using hx
   have hb2 : (x != k) = true := by simp [bne, hb]
   have HO : Hid (∀ V, Kp w V (some R) → Out ((none : Option Ru.Ws).map fun r => ((), r)) (fun _ _ v => v = .tuple #[]) R w (.panicked badP) V) := Lib.hid fun V hV => ⟨rfl, hV⟩
   clear hx
   go_enter Tryz.func74, Tryz.ntmps74
   go_wp2_with (go_at_call 75; refine cn2.mono ?_; rintro e w1 ⟨rfl, hr, hk⟩)
   exact ⟨rfl, HO.out _ hk.out⟩

/-! ### Numbers -/
theorem nDig_lt : ∀ (k u : Nat), 1 ≤ k → u < 10 ^ k → Lib.nDigits u ≤ k
 | 0, _, h, _ => absurd h (by omega)
 | k + 1, u, _, hu => by
  by_cases h : u < 10
  ·rw [Lib.nDigits_small h]; omega
  ·rw [Lib.nDigits_big h]
   have hk : 1 ≤ k := by
    cases k with
    | zero => exact absurd hu (by simpa using h)
    | succ k => omega
   have := nDig_lt k (u / 10) hk (by rw [Nat.pow_succ] at hu; omega)
   omega
theorem nDig_ten (u : Nat) : Lib.nDigits u ≤ 10 ↔ u < 10000000000 := by
 constructor
 ·intro h
  have h1 := Lib.lt_pow_nDigits u
  have h2 : 10 ^ Lib.nDigits u ≤ 10 ^ 10 := Nat.pow_le_pow_right (by omega) h
  omega
 ·intro h; exact nDig_lt 10 u (by omega) (by omega)
theorem trim_itoa (n : Int) : (Lib.trimPrefix (Lib.itoa n) [45]).length = Lib.nDigits n.natAbs := by
 unfold Lib.trimPrefix Lib.itoa Lib.hasPrefix
 by_cases h : n < 0
 ·rw [if_pos h]
  have : List.isPrefixOf [45] (45 :: Lib.decDigits n.natAbs) = true := by simp [List.isPrefixOf]
  rw [if_pos this]
  simp [Lib.decDigits_length]
 ·rw [if_neg h]
  have hh := Wr.dec_head n.toNat
  have : List.isPrefixOf [45] (Lib.decDigits n.toNat) = false := by
   cases hd : Lib.decDigits n.toNat with
   | nil => rfl
   | cons c l =>
    rw [hd] at hh
    simp only [Wr.neg, List.head?_cons] at hh
    have hc : ¬ c = 45 := by intro e; subst e; simp at hh
    simp [List.isPrefixOf]
    exact fun e => hc e.symm
  rw [this]
  simp only [Bool.false_eq_true, if_false]
  rw [Lib.decDigits_length]
  congr 1
  omega
theorem num_none {s : List UInt8} (h : Wr.parse s = none) : Ru.num s = none := by unfold Ru.num; rw [h]
theorem num_of {s : List UInt8} {n : Int} (h : Wr.parse s = some n) : Ru.num s = if (Lib.trimPrefix s [45]).length ≤ 10 then some n else none := by
 unfold Ru.num
 rw [h]
 dsimp only
 obtain ⟨rfl, _⟩ := Wr.parse_some.1 h
 rw [trim_itoa]
 have := nDig_ten n.natAbs
 by_cases h1 : Lib.nDigits n.natAbs ≤ 10
 ·rw [if_pos h1, if_pos (by have := this.1 h1; omega)]
 ·rw [if_neg h1, if_neg (by intro h2; exact h1 (this.2 (by omega)))]
theorem next_mem {ws r : Ru.Ws} {x : List UInt8} (h : Ru.next ws = some (x, r)) : x ∈ ws := by
 cases ws with
 | nil => cases h
 | cons y t =>
  unfold Ru.next at h
  dsimp only at h
  split at h
  ·cases h
  ·injection h with h; injection h with h1 h2; subst h1; simp
set_option maxHeartbeats 4000000 in
set_option maxRecDepth 100000 in
theorem number_any (R : Nat) (hR : 8 ≤ R) (w : World) (he : Env w) (ws : Ru.Ws) (h : RdAt R w ws) : Calls Tryz.prog 76 #[.pointer (some ⟨R, 0, none⟩)] w (Out (Ru.number ws) (fun n _ v => v = .int .i64 n) R w) := by
 have cn := next_any R w ws h
 have HE := Lib.hid he
 unfold Ru.number
 have HO : Hid (∀ V, Kp w V (some R) → Out (none : Option (Int × Ru.Ws)) (fun n _ v => v = .int .i64 n) R w (.panicked badP) V) := Lib.hid fun V hV => ⟨rfl, hV⟩
 cases hn : Ru.next ws with
 | none =>
  rw [hn] at cn
  have cn2 : Calls Tryz.prog 75 #[.pointer (some ⟨R, 0, none⟩)] w fun e w' => e = .panicked badP ∧ Kp w w' (some R) := cn
  clear cn hn h he
  go_enter Tryz.func76, Tryz.ntmps76
  go_wp2_with (go_at_call 75; refine cn2.mono ?_; rintro e w1 ⟨rfl, hk⟩)
  exact ⟨rfl, HO.out _ hk⟩
 | some p =>
  obtain ⟨x, r⟩ := p
  have hxl : x.length ≤ 1000000000 := by obtain ⟨_, _, _, _, _, h4⟩ := h; exact h4.2 x (next_mem hn)
  rw [hn] at cn
  have cn2 : Calls Tryz.prog 75 #[.pointer (some ⟨R, 0, none⟩)] w fun e w' => e = .returned (str x) ∧ Hid (RdAt R w' r) ∧ Hid (Kp w w' (some R)) := cn.mono fun e w' ⟨⟨v, h1, h2, h3⟩, h4⟩ => ⟨by rw [h1, h2], Lib.hid h3, Lib.hid h4⟩
  have ca0 := fun u hu => atoi_any x u hu (by omega)
  clear cn hn h he
  dsimp only
  by_cases ho : ∃ v, Lib.atoiAll x = .ok v
  ·obtain ⟨v, hv⟩ := ho
   have HI := Lib.hid (Wr.atoi_range hv)
   have hp := parse_ok hv
   have ca : ∀ u, Env u → Calls Tryz.prog 100 #[str x] u fun e w' => e = .returned (.tuple #[.int .i64 v, .nilIface]) ∧ Kp u w' none := fun u hu => (ca0 u hu).mono fun e w' ⟨h, hk⟩ => by
    rcases h with ⟨v', h1, rfl⟩ | ⟨v', N, h1, _⟩
    ·rw [hv] at h1; injection h1 with h1; subst h1; exact ⟨rfl, hk⟩
    ·exact absurd hv (h1 v)
   have ci := fun u (hu : Env u) => itoa_any v u hu HI.out
   clear ca0 hv
   by_cases heq : Lib.itoa v = x
   ·rw [if_pos heq] at hp
    have hnum := num_of hp
    have ct := Tryz.strings_TrimPrefix ⟨x.toArray⟩ ⟨#[45]⟩
    obtain ⟨z, hz⟩ : ∃ z, Lib.trimPrefix x [45] = z := ⟨_, rfl⟩
    have ct : ∀ u, Calls Tryz.prog 101 #[str x, .string ⟨#[45]⟩] u fun e w' => e = .returned (str z) ∧ w' = u := fun u => by
     have h := ct u
     have e1 : (⟨#[45]⟩ : ByteArray).data.toList = [45] := rfl
     rw [data_str, e1, hz] at h; exact h
    rw [hz] at hnum
    have hb : (Lib.itoa v == x) = true := by simpa using heq
    have hb2 : (Lib.itoa v != x) = false := by simp [bne, hb]
    obtain ⟨t, ht⟩ : ∃ t, Lib.itoa v = t := ⟨_, rfl⟩
    rw [ht] at hb hb2
    simp only [ht] at ci
    clear heq ht hp hz
    by_cases hl : z.length ≤ 10
    ·rw [if_pos hl] at hnum
     rw [hnum]
     have hl2 : ¬ (10 : Int) < (z.length : Int) := by omega
     clear hnum
     go_enter Tryz.func76, Tryz.ntmps76
     go_wp2_with (first | (go_at_call 75; refine cn2.mono ?_; rintro e w1 ⟨rfl, hr, hk⟩; have hE1 := Lib.hid (HE.out.kp hk.out (by intro q hq; injection hq with hq; omega))) | (go_at_call 100; (with_reducible refine (ca w1 hE1.out).mono ?_); rintro e w2 ⟨rfl, hk2⟩; have hk2' := Lib.hid hk2; clear hk2) | (go_at_call 40; (with_reducible refine (ci w2 (hE1.out.kp0 hk2'.out)).mono ?_); rintro e w3 ⟨rfl, hk3⟩; have hk3' := Lib.hid hk3; clear hk3) | (go_at_call 101; refine (ct _).mono ?_; rintro e w4 ⟨rfl, rfl⟩))
     go_ret
     exact ⟨⟨_, rfl, rfl, (hr.out.keep hk2'.out).keep hk3'.out⟩, hk.out.trans ((hk2'.out.trans hk3'.out).weak _)⟩
    ·rw [if_neg hl] at hnum
     rw [hnum]
     have hl2 : (10 : Int) < (z.length : Int) := by omega
     clear hnum
     go_enter Tryz.func76, Tryz.ntmps76
     go_wp2_with (first | (go_at_call 75; refine cn2.mono ?_; rintro e w1 ⟨rfl, hr, hk⟩; have hE1 := Lib.hid (HE.out.kp hk.out (by intro q hq; injection hq with hq; omega))) | (go_at_call 100; (with_reducible refine (ca w1 hE1.out).mono ?_); rintro e w2 ⟨rfl, hk2⟩; have hk2' := Lib.hid hk2; clear hk2) | (go_at_call 40; (with_reducible refine (ci w2 (hE1.out.kp0 hk2'.out)).mono ?_); rintro e w3 ⟨rfl, hk3⟩; have hk3' := Lib.hid hk3; clear hk3) | (go_at_call 101; refine (ct _).mono ?_; rintro e w4 ⟨rfl, rfl⟩))
     exact ⟨rfl, HO.out _ (hk.out.trans ((hk2'.out.trans hk3'.out).weak _))⟩
   ·rw [if_neg heq] at hp
    rw [num_none hp]
    have hb : (Lib.itoa v == x) = false := by simpa using heq
    have hb2 : (Lib.itoa v != x) = true := by simp [bne, hb]
    obtain ⟨t, ht⟩ : ∃ t, Lib.itoa v = t := ⟨_, rfl⟩
    rw [ht] at hb hb2
    simp only [ht] at ci
    clear heq ht hp
    go_enter Tryz.func76, Tryz.ntmps76
    go_wp2_with (first | (go_at_call 75; refine cn2.mono ?_; rintro e w1 ⟨rfl, hr, hk⟩; have hE1 := Lib.hid (HE.out.kp hk.out (by intro q hq; injection hq with hq; omega))) | (go_at_call 100; (with_reducible refine (ca w1 hE1.out).mono ?_); rintro e w2 ⟨rfl, hk2⟩; have hk2' := Lib.hid hk2; clear hk2) | (go_at_call 40; (with_reducible refine (ci w2 (hE1.out.kp0 hk2'.out)).mono ?_); rintro e w3 ⟨rfl, hk3⟩; have hk3' := Lib.hid hk3; clear hk3))
    exact ⟨rfl, HO.out _ (hk.out.trans ((hk2'.out.trans hk3'.out).weak _))⟩
  ·have hno : ∀ v, Lib.atoiAll x ≠ .ok v := fun v hv => ho ⟨v, hv⟩
   have ca : ∀ u, Env u → Calls Tryz.prog 100 #[str x] u fun e w' => (∃ v N, e = .returned (.tuple #[.int .i64 v, .iface 168 (.pointer (some ⟨N, 0, none⟩))])) ∧ Kp u w' none := fun u hu => (ca0 u hu).mono fun e w' ⟨h, hk⟩ => by
    rcases h with ⟨v', h1, _⟩ | ⟨v', N, _, rfl⟩
    ·exact absurd h1 (hno v')
    ·exact ⟨⟨v', N, rfl⟩, hk⟩
   rw [num_none (parse_no hno)]
   clear ca0 ho hno
   go_enter Tryz.func76, Tryz.ntmps76
   go_wp2_with (first | (go_at_call 75; refine cn2.mono ?_; rintro e w1 ⟨rfl, hr, hk⟩; have hE1 := Lib.hid (HE.out.kp hk.out (by intro q hq; injection hq with hq; omega))) | (go_at_call 100; (with_reducible refine (ca w1 hE1.out).mono ?_); rintro e w2 ⟨⟨v, N, rfl⟩, hk2⟩; have hk2' := Lib.hid hk2; clear hk2))
   exact ⟨rfl, HO.out _ (hk.out.trans (hk2'.out.weak _))⟩
end Go.Proofs.YtnchipahdfbliaaGreatDoor
