/- The reference's reader: peek, word, must. Condition: at most 10^12 words.
  The reference's reader: numbers. Condition: at most 10^12 words, of at most 2^47 bytes. -/
import Derived.Test.YtnchipahdfbliaaGreatDoorRnj

namespace Go.Proofs.YtnchipahdfbliaaGreatDoor
open Go.RowKit

/-- The reference's reader in block R: the words ahead, or that something is not readable. -/
def RrAt (R : Nat) (w : World) (st : Option Ru.Ws) : Prop := ∃ (ao : Option Addr) (n cap k : Nat) (all : List (List UInt8)), w.heap[R]? = some (.cells #[.slice ao n cap, .int .i64 (k : Int), .bool st.isNone] 126 (0, 0)) ∧ all.length = n ∧ (n ≤ 1000000000000 ∧ ∀ x ∈ all, x.length ≤ 1000000000) ∧ LiesAt 1 strVal w ao cap all ∧ (∀ p, ao = some p → p.block < R) ∧ k ≤ n ∧ (∀ ws, st = some ws → ws = all.drop k)
theorem RrAt.lt {R : Nat} {w : World} {st : Option Ru.Ws} (h : RrAt R w st) : R < w.heap.size := by
 obtain ⟨_, _, _, _, _, h1, _⟩ := h; exact lt_of_block h1
theorem RrAt.keep {R : Nat} {w w' : World} {st : Option Ru.Ws} (h : RrAt R w st) (k : Kp w w' none) : RrAt R w' st := by
 obtain ⟨ao, n, cap, at_, all, h1, h2, h3, h4, h5, h6⟩ := h
 exact ⟨ao, n, cap, at_, all, res_kept h1 k (by simp), h2, h3, h4.keep k, h5, h6⟩
theorem RrAt.far {R r : Nat} {w w' : World} {st : Option Ru.Ws} (h : RrAt R w st) (k : Kp w w' (some r)) (hr : R < r) : RrAt R w' st := by
 obtain ⟨ao, n, cap, at_, all, h1, h2, h3, h4, h5, h6⟩ := h
 exact ⟨ao, n, cap, at_, all, res_kept h1 k (by intro q hq; injection hq with hq; omega), h2, h3, h4.keepRow k (fun p hp => by have := h5 p hp; omega), h5, h6⟩
/-- The word ahead. -/
def peekV (st : Option Ru.Ws) : List UInt8 := (st.getD []).headD []
set_option maxHeartbeats 4000000 in
set_option maxRecDepth 100000 in
theorem peekR_any (R : Nat) (w : World) (st : Option Ru.Ws) (h : RrAt R w st) : Calls Tryz.prog 105 #[.pointer (some ⟨R, 0, none⟩)] w fun e w' => e = .returned (str (peekV st)) ∧ Kp w w' none := by
 obtain ⟨ao, n, cap, k, all, h1, h2, h3, h4, h5, h6, h7⟩ := h
 obtain ⟨h3, _⟩ := h3
 have kD : Kp w w.drew none := (Kp.refl _ _).drew
 have c0 : w.cell? ⟨R, 0, none⟩ = some (.slice ao n cap) := hcell h1 0 rfl
 have c1 : w.cell? ⟨R, 1, none⟩ = some (.int .i64 (k : Int)) := hcell h1 1 rfl
 have c2 : w.cell? ⟨R, 2, none⟩ = some (.bool st.isNone) := hcell h1 2 rfl
 have hk0 : (0 : Int) ≤ (k : Int) := by omega
 have hn0 : (0 : Int) ≤ (n : Int) := by omega
 have H4 := Lib.hid h4
 have H2 := Lib.hid h2
 cases st with
 | none =>
  have c2 : w.cell? ⟨R, 2, none⟩ = some (.bool true) := c2
  clear h1 h2 h4 h7
  go_enter Tryz.func105, Tryz.ntmps105
  go_wp2_with fail
  go_quiet (fail)
  go_wp2_with fail
  go_ret
  exact ⟨rfl, (Kp.refl w none).drewN _⟩
 | some ws =>
  have c2 : w.cell? ⟨R, 2, none⟩ = some (.bool false) := c2
  have h7 := h7 ws rfl
  by_cases hlt : k < n
  ·have hi : ¬ (n : Int) ≤ (k : Int) := by omega
   have hi2 : (k : Int) < (n : Int) := by omega
   obtain ⟨b, off, hao, hb, hcap, hcc⟩ := LiesAt.str h4 k (by omega)
   have hc := hcc k (by omega)
   obtain ⟨x, hx⟩ : ∃ x, all[k]'(by omega) = x := ⟨_, rfl⟩
   rw [hx] at hc
   subst hao
   have hcap2 : n ≤ cap := by omega
   have HP : Hid (peekV (some ws) = x) := Lib.hid (by unfold peekV; rw [h7]; simp only [Option.getD_some]; rw [List.drop_eq_getElem_cons (by omega), hx]; rfl)
   clear h1 h2 h4 h7 hcc hx hcap
   go_enter Tryz.func105, Tryz.ntmps105
   go_wp2_with fail
   go_quiet (fail)
   go_wp2_with fail
   go_quiet (fail)
   go_wp2_with fail
   go_ret
   exact ⟨by rw [HP.out]; rfl, ((Kp.refl w none).drewN _).drewN _⟩
  ·have hi : (n : Int) ≤ (k : Int) := by omega
   have HP : Hid (peekV (some ws) = []) := Lib.hid (by unfold peekV; rw [h7]; simp only [Option.getD_some]; rw [List.drop_of_length_le (by omega)]; rfl)
   clear h1 h2 h4 h7
   go_enter Tryz.func105, Tryz.ntmps105
   go_wp2_with fail
   go_quiet (fail)
   go_wp2_with fail
   go_ret
   exact ⟨by rw [HP.out]; rfl, (Kp.refl w none).drewN _⟩
theorem peek_none {st : Option Ru.Ws} (h : peekV st = []) : st.bind Ru.next = none := by
 cases st with
 | none => rfl
 | some ws =>
  cases ws with
  | nil => rfl
  | cons x r =>
   have h : x = [] := h
   subst h
   rfl
theorem peek_some {st : Option Ru.Ws} (h : peekV st ≠ []) : ∃ r, st = some (peekV st :: r) ∧ st.bind Ru.next = some (peekV st, r) := by
 cases st with
 | none => exact absurd rfl h
 | some ws =>
  cases ws with
  | nil => exact absurd rfl h
  | cons x r =>
   have h : x ≠ [] := h
   exact ⟨r, rfl, Ru.next_cons h⟩
/-- Something is not readable. -/
theorem RrAt.bad {R : Nat} {w : World} {st : Option Ru.Ws} (h : RrAt R w st) : RrAt R (w.setCell ⟨R, 2, none⟩ (.bool true)) none := by
 obtain ⟨ao, n, cap, k, all, h1, h2, h3, h4, h5, h6, _⟩ := h
 exact ⟨ao, n, cap, k, all, heap_set (o := 2) (v := .bool true) h1, h2, h3, h4.keepRow ((Kp.refl w (some R)).set _) (fun p hp => by have := h5 p hp; omega), h5, h6, fun _ e => by cases e⟩
theorem RrAt.on {R k : Nat} {w : World} {x : List UInt8} {r : Ru.Ws} (h : RrAt R w (some (x :: r))) (hk : w.cell? ⟨R, 1, none⟩ = some (.int .i64 (k : Int))) : RrAt R (w.setCell ⟨R, 1, none⟩ (.int .i64 ((k : Int) + 1))) (some r) := by
 obtain ⟨ao, n, cap, k', all, h1, h2, h3, h4, h5, h6, h7⟩ := h
 have e := hcell h1 1 rfl
 rw [hk] at e
 have e : k = k' := by injection e with e; injection e with _ e; omega
 subst e
 have h8 := h7 _ rfl
 have hlt : k < all.length := by
  rcases Nat.lt_or_ge k all.length with h | h
  ·exact h
  ·rw [List.drop_of_length_le h] at h8; cases h8
 rw [List.drop_eq_getElem_cons hlt] at h8
 injection h8 with _ h8
 exact ⟨ao, n, cap, k + 1, all, heap_set (o := 1) (v := .int .i64 ((k : Int) + 1)) h1, h2, h3, h4.keepRow ((Kp.refl w (some R)).set _) (fun p hp => by have := h5 p hp; omega), h5, by omega, fun _ e => by injection e with e; rw [← e, h8]⟩
theorem RrAt.cells {R : Nat} {w : World} {st : Option Ru.Ws} (h : RrAt R w st) : (∃ k : Nat, w.cell? ⟨R, 1, none⟩ = some (.int .i64 (k : Int)) ∧ k ≤ 1000000000000) ∧ w.frozen? ⟨R, 1, none⟩ = false ∧ w.frozen? ⟨R, 2, none⟩ = false ∧ ∃ b, w.cell? ⟨R, 2, none⟩ = some (.bool b) := by
 obtain ⟨ao, n, cap, k, all, h1, h2, ⟨h3, _⟩, h4, h5, h6, h7⟩ := h
 exact ⟨⟨k, hcell h1 1 rfl, by omega⟩, Lib.frozen_of_heap h1 1, Lib.frozen_of_heap h1 2, _, hcell h1 2 rfl⟩
theorem RrAt.len {R : Nat} {w : World} {st : Option Ru.Ws} (h : RrAt R w st) : ∀ x r, st.bind Ru.next = some (x, r) → x.length ≤ 140737488355328 := by
 obtain ⟨ao, n, cap, k, all, h1, h2, ⟨_, h3⟩, h4, h5, h6, h7⟩ := h
 intro x r hx
 cases st with
 | none => cases hx
 | some ws =>
  have e := (Ru.next_len (show Ru.next ws = some (x, r) from hx)).1
  have h8 := h7 ws rfl
  have hm : x ∈ all := by
   apply List.mem_of_mem_drop (i := k)
   rw [← h8, e]; simp
  have := h3 x hm
  omega
/-- What the reader's functions leave behind. -/
def WordIs (st : Option Ru.Ws) (R : Nat) (w : World) (e : Ending) (w' : World) : Prop := e = .returned (str (((st.bind Ru.next).map (·.1)).getD [])) ∧ RrAt R w' ((st.bind Ru.next).map (·.2)) ∧ Kp w w' (some R)
set_option maxHeartbeats 4000000 in
set_option maxRecDepth 100000 in
theorem wordR_any (R : Nat) (w : World) (st : Option Ru.Ws) (h : RrAt R w st) : Calls Tryz.prog 81 #[.pointer (some ⟨R, 0, none⟩)] w (WordIs st R w) := by
 have cp := peekR_any R w st h
 have H := Lib.hid h
 clear h
 by_cases hx : peekV st = []
 ·rw [hx] at cp
  have HN := Lib.hid (peek_none hx)
  have hb : (([] : List UInt8) == []) = true := rfl
  clear hx
  go_enter Tryz.func81, Tryz.ntmps81
  go_wp2_with fail
  refine cp.mono ?_
  clear cp
  rintro e w1 ⟨rfl, hk1⟩
  have H1 := Lib.hid (H.out.keep hk1)
  obtain ⟨⟨k, d1, hk⟩, f1, f2, b2, d2⟩ := H1.out.cells
  have HK1 := Lib.hid hk1
  clear hk1
  go_wp2_with fail
  go_ret
  unfold WordIs
  rw [HN.out]
  exact ⟨rfl, H1.out.bad, (HK1.out.weak _).trans ((Kp.refl w1 (some R)).set _)⟩
 ·obtain ⟨r, hst, hnx⟩ := peek_some hx
  obtain ⟨x, hxx⟩ : ∃ x, peekV st = x := ⟨_, rfl⟩
  rw [hxx] at cp hx hst hnx
  have HN := Lib.hid hnx
  have HST := Lib.hid hst
  have hb : (x == []) = false := by simpa using hx
  clear hx hst hnx hxx
  go_enter Tryz.func81, Tryz.ntmps81
  go_wp2_with fail
  refine cp.mono ?_
  clear cp
  rintro e w1 ⟨rfl, hk1⟩
  have H1 := Lib.hid (H.out.keep hk1)
  obtain ⟨⟨k, d1, hk⟩, f1, f2, b2, d2⟩ := H1.out.cells
  have HD1 := Lib.hid d1
  have HK1 := Lib.hid hk1
  have hk0 : (0 : Int) ≤ (k : Int) := by omega
  have hw : wrap64 ((k : Int) + 1) = (k : Int) + 1 := by unfold wrap64; omega
  clear hk1
  go_wp2_with fail
  go_ret
  unfold WordIs
  rw [HN.out]
  exact ⟨rfl, (show RrAt R w1 (some (x :: r)) from HST.out ▸ H1.out).on HD1.out, (HK1.out.weak _).trans ((Kp.refl w1 (some R)).set _)⟩
def MustIs (k : List UInt8) (st : Option Ru.Ws) (R : Nat) (w : World) (e : Ending) (w' : World) : Prop := e = .returned (.tuple #[]) ∧ RrAt R w' (st.bind (Ru.must k)) ∧ Kp w w' (some R)
theorem must_bind (k : List UInt8) (st : Option Ru.Ws) : st.bind (Ru.must k) = (st.bind Ru.next).bind fun p => if p.1 = k then some p.2 else none := by
 cases st with
 | none => rfl
 | some ws =>
  show Ru.must k ws = (Ru.next ws).bind _
  unfold Ru.must
  cases Ru.next ws <;> rfl
set_option maxHeartbeats 4000000 in
set_option maxRecDepth 100000 in
theorem mustR_any (k : List UInt8) (hk : k ≠ []) (R : Nat) (w : World) (st : Option Ru.Ws) (h : RrAt R w st) : Calls Tryz.prog 80 #[.pointer (some ⟨R, 0, none⟩), str k] w (MustIs k st R w) := by
 have cw := wordR_any R w st h
 unfold WordIs at cw
 have HM := Lib.hid (must_bind k st)
 clear h
 cases hn : st.bind Ru.next with
 | none =>
  rw [hn] at cw HM
  have hb : (([] : List UInt8) == k) = false := by simpa using hk
  have cw : Calls Tryz.prog 81 #[.pointer (some ⟨R, 0, none⟩)] w fun e w' => e = .returned (str []) ∧ Hid (RrAt R w' none) ∧ Hid (Kp w w' (some R)) := cw.mono fun e w' ⟨h1, h2, h3⟩ => ⟨h1, Lib.hid h2, Lib.hid h3⟩
  clear hn hk
  go_enter Tryz.func80, Tryz.ntmps80
  go_wp2_with fail
  refine cw.mono ?_
  rintro e w1 ⟨rfl, H1, HK1⟩
  obtain ⟨⟨j, d1, hj⟩, f1, f2, b2, d2⟩ := H1.out.cells
  go_wp2_with fail
  go_end0
  exact ⟨rfl, by rw [HM.out]; exact H1.out.bad, HK1.out.trans ((Kp.refl w1 (some R)).set _)⟩
 | some p =>
  obtain ⟨x, r⟩ := p
  rw [hn] at cw HM
  have cw : Calls Tryz.prog 81 #[.pointer (some ⟨R, 0, none⟩)] w fun e w' => e = .returned (str x) ∧ Hid (RrAt R w' (some r)) ∧ Hid (Kp w w' (some R)) := cw.mono fun e w' ⟨h1, h2, h3⟩ => ⟨h1, Lib.hid h2, Lib.hid h3⟩
  clear hn hk
  by_cases hx : x = k
  ·have hb : (x == k) = true := by rw [hx]; simp
   have HM2 : Hid (st.bind (Ru.must k) = some r) := Lib.hid (by rw [HM.out]; simp [hx])
   clear hx
   go_enter Tryz.func80, Tryz.ntmps80
   go_wp2_with fail
   refine cw.mono ?_
   rintro e w1 ⟨rfl, H1, HK1⟩
   go_wp2_with fail
   go_end0
   exact ⟨rfl, by rw [HM2.out]; exact H1.out, HK1.out⟩
  ·have hb : (x == k) = false := by simpa using hx
   have HM2 : Hid (st.bind (Ru.must k) = none) := Lib.hid (by rw [HM.out]; simp [hx])
   clear hx
   go_enter Tryz.func80, Tryz.ntmps80
   go_wp2_with fail
   refine cw.mono ?_
   rintro e w1 ⟨rfl, H1, HK1⟩
   obtain ⟨⟨j, d1, hj⟩, f1, f2, b2, d2⟩ := H1.out.cells
   go_wp2_with fail
   go_end0
   exact ⟨rfl, by rw [HM2.out]; exact H1.out.bad, HK1.out.trans ((Kp.refl w1 (some R)).set _)⟩
end Go.Proofs.YtnchipahdfbliaaGreatDoor

namespace Go.Proofs.YtnchipahdfbliaaGreatDoor
open Go.RowKit

def NumIs (st : Option Ru.Ws) (R : Nat) (w : World) (e : Ending) (w' : World) : Prop := (∃ v : Int, e = .returned (.int .i64 v) ∧ ∀ n r, st.bind Ru.number = some (n, r) → v = n) ∧ RrAt R w' ((st.bind Ru.number).map (·.2)) ∧ Kp w w' (some R)
theorem number_bind (st : Option Ru.Ws) : st.bind Ru.number = (st.bind Ru.next).bind fun p => (Ru.num p.1).map fun n => (n, p.2) := by
 cases st with
 | none => rfl
 | some ws =>
  show Ru.number ws = (Ru.next ws).bind _
  unfold Ru.number
  cases Ru.next ws <;> rfl
set_option maxHeartbeats 8000000 in
set_option maxRecDepth 100000 in
theorem numberR_any (R : Nat) (w : World) (st : Option Ru.Ws) (h : RrAt R w st) (hln : ∀ x r, st.bind Ru.next = some (x, r) → x.length ≤ 140737488355328) : Calls Tryz.prog 82 #[.pointer (some ⟨R, 0, none⟩)] w (NumIs st R w) := by
 have cw := wordR_any R w st h
 unfold WordIs at cw
 have NB0 := Lib.hid (number_bind st)
 clear h
 cases hn : st.bind Ru.next with
 | none =>
  rw [hn] at cw NB0
  have HN0 : Hid (st.bind Ru.number = none) := Lib.hid (by rw [NB0.out]; rfl)
  have cw : Calls Tryz.prog 81 #[.pointer (some ⟨R, 0, none⟩)] w fun e w' => e = .returned (str []) ∧ Hid (RrAt R w' none) ∧ Hid (Kp w w' (some R)) := cw.mono fun e w' ⟨h1, h2, h3⟩ => ⟨h1, Lib.hid h2, Lib.hid h3⟩
  clear hn hln
  go_enter Tryz.func82, Tryz.ntmps82
  go_wp2_with fail
  refine cw.mono ?_
  rintro e w1 ⟨rfl, H1, HK1⟩
  obtain ⟨⟨j, d1, hj⟩, f1, f2, b2, d2⟩ := H1.out.cells
  go_wp2_with fail
  go_ret
  exact ⟨⟨0, rfl, fun n r h => by rw [HN0.out] at h; cases h⟩, by rw [HN0.out]; exact H1.out.bad, HK1.out.trans ((Kp.refl w1 (some R)).set _)⟩
 | some p =>
  obtain ⟨x, r⟩ := p
  have hxl := hln x r hn
  rw [hn] at cw NB0
  have NB : Hid (st.bind Ru.number = (Ru.num x).map fun n => (n, r)) := Lib.hid (by rw [NB0.out]; rfl)
  have cw : Calls Tryz.prog 81 #[.pointer (some ⟨R, 0, none⟩)] w fun e w' => e = .returned (str x) ∧ Hid (RrAt R w' (some r)) ∧ Hid (Kp w w' (some R)) := cw.mono fun e w' ⟨h1, h2, h3⟩ => ⟨h1, Lib.hid h2, Lib.hid h3⟩
  have hxne : x ≠ [] := by
   cases st with
   | none => cases hn
   | some ws => exact (Ru.next_len hn).2
  clear hn hln NB0
  obtain ⟨m, hm⟩ : ∃ m, Wr.mag x = m := ⟨_, rfl⟩
  have hml := Wr.mag_length x
  rw [hm] at hml
  have HM := Lib.hid hm
  obtain ⟨ng, hng⟩ : ∃ b, Wr.neg x = b := ⟨_, rfl⟩
  rw [hng] at hml
  have HNG := Lib.hid hng
  obtain ⟨c, hc⟩ : ∃ c, x[0]'(List.length_pos_iff.2 hxne) = c := ⟨_, rfl⟩
  have hx0 : ∀ h', (⟨x.toArray⟩ : ByteArray)[0]'h' = c := fun h' => (show x.toArray[0]'_ = x[0]'(List.length_pos_iff.2 hxne) by simp).trans hc
  have hpos : 0 < x.length := List.length_pos_iff.2 hxne
  have hpi : (0 : Int) < (x.length : Int) := by omega
  have hhd : x.head? = some c := by rw [List.head?_eq_getElem?, List.getElem?_eq_getElem hpos, hc]
  have hcn : ng = true ↔ c.toNat = 45 := by
   rw [← hng]
   unfold Wr.neg
   rw [hhd]
   constructor
   ·intro h
    have : c = 45 := by simpa using h
    rw [this]; rfl
   ·intro h
    have : c = 45 := UInt8.toNat_inj.1 h
    rw [this]; rfl
  have HCN := Lib.hid hcn
  have HML := Lib.hid hml
  have hdrop : ng = true → (⟨x.toArray⟩ : ByteArray).extract 1 x.length = ⟨m.toArray⟩ := fun h => by
   rw [ext_drop, ← hm]
   unfold Wr.mag
   rw [hng, h]
   simp
  have HDR := Lib.hid hdrop
  have HMX : Hid (ng = false → m = x) := Lib.hid fun h => by rw [← hm]; unfold Wr.mag; rw [hng, h]; rfl
  clear hm hng hc hhd hcn hdrop hml hxne
  go_enter Tryz.func82, Tryz.ntmps82
  go_wp2_with fail
  refine cw.mono ?_
  clear cw
  rintro e w1 ⟨rfl, H1, HK1⟩
  cases ng with
  | true =>
   have hc45 : c.toNat = 45 := HCN.out.1 rfl
   have e45 : ((c.toNat : Int) == 45) = true := by rw [hc45]; rfl
   have hx1 := HDR.out rfl
   have hx2 : (1 : Int) ≤ (x.length : Int) := by omega
   have hx3 : 1 ≤ x.length := by omega
   clear hc45
   obtain ⟨⟨j, d1, hj⟩, f1, f2, b2, d2⟩ := H1.out.cells
   have hml0 : (0 : Int) ≤ (m.length : Int) := by omega
   by_cases h0 : m.length = 0
   ·have hb0 : ((m.length : Int) == 0) = true := by rw [h0]; rfl
    have H0 := Lib.hid h0
    clear h0
    have HN0 : Hid (st.bind Ru.number = none) := Lib.hid (by rw [NB.out, Ru.num_ref, if_neg (fun h => by have := h.1; rw [HM.out, H0.out] at this; omega)]; rfl)
    go_wp2_with fail
    go_ret
    exact ⟨⟨0, rfl, fun n r h => by rw [HN0.out] at h; cases h⟩, by rw [HN0.out]; exact H1.out.bad, HK1.out.trans ((Kp.refl w1 (some R)).set _)⟩
   ·have hb0 : ((m.length : Int) == 0) = false := by simpa using h0
    by_cases h10 : 10 < m.length
    ·have hb1 : (10 : Int) < (m.length : Int) := by omega
     have H10 := Lib.hid h10
     clear h0 h10
     have HN0 : Hid (st.bind Ru.number = none) := Lib.hid (by rw [NB.out, Ru.num_ref, if_neg (fun h => by have := h.2.1; rw [HM.out] at this; have := H10.out; omega)]; rfl)
     go_wp2_with fail
     go_ret
     exact ⟨⟨0, rfl, fun n r h => by rw [HN0.out] at h; cases h⟩, by rw [HN0.out]; exact H1.out.bad, HK1.out.trans ((Kp.refl w1 (some R)).set _)⟩
    ·have hb1 : ¬ (10 : Int) < (m.length : Int) := by omega
     go_wp2_with fail
     go_loopw [4, 6] (fun v i wr => ∃ k : Nat, k ≤ m.length ∧ i = .int .i64 (k : Int) ∧ Hid (Ru.digits (m.take k)) ∧ (∃ z : Nat, z < 10000000000 ∧ v = .int .i64 (z : Int) ∧ Hid (Wr.dv (m.take k) = z)) ∧ wr = w1) (fun _ i _ => m.length - (intOf i).toNat)
     case atStart => exact ⟨0, Nat.zero_le _, rfl, Lib.hid (fun c hc => by simp at hc), ⟨0, by omega, rfl, Lib.hid (by simp [Wr.dv])⟩, rfl⟩
     case round =>
      obtain ⟨k, hk, rfl, HA, ⟨z, hz, rfl, HZ⟩, rfl⟩ := hrel
      have hk0 : (0 : Int) ≤ (k : Int) := by omega
      by_cases hlt : k < m.length
      ·obtain ⟨y, hy⟩ : ∃ c, m[k] = c := ⟨_, rfl⟩
       have hy0 : ∀ h', (⟨m.toArray⟩ : ByteArray)[k]'h' = y := fun h' => (show m.toArray[k]'_ = m[k] by simp).trans hy
       have HY := Lib.hid hy
       clear hy
       by_cases h48 : y.toNat < 48
       ·have hb48 : (y.toNat : Int) < 48 := by omega
        have H48 := Lib.hid h48
        clear h48
        have HN0 : Hid (st.bind Ru.number = none) := Lib.hid (by rw [NB.out, Ru.num_ref, if_neg (fun h => by have := h.2.2.1 m[k] (by rw [HM.out]; exact List.getElem_mem hlt); rw [HY.out] at this; have := H48.out; omega)]; rfl)
        go_wp2_with fail
        go_ret
        exact ⟨⟨0, rfl, fun n r h => by rw [HN0.out] at h; cases h⟩, by rw [HN0.out]; exact H1.out.bad, HK1.out.trans ((Kp.refl wr (some R)).set _)⟩
       ·have hb48 : ¬ (y.toNat : Int) < 48 := by omega
        by_cases h57 : 57 < y.toNat
        ·have hb57 : (57 : Int) < (y.toNat : Int) := by omega
         have H57 := Lib.hid h57
         clear h48 h57
         have HN0 : Hid (st.bind Ru.number = none) := Lib.hid (by rw [NB.out, Ru.num_ref, if_neg (fun h => by have := h.2.2.1 m[k] (by rw [HM.out]; exact List.getElem_mem hlt); rw [HY.out] at this; have := H57.out; omega)]; rfl)
         go_wp2_with fail
         go_ret
         exact ⟨⟨0, rfl, fun n r h => by rw [HN0.out] at h; cases h⟩, by rw [HN0.out]; exact H1.out.bad, HK1.out.trans ((Kp.refl wr (some R)).set _)⟩
        ·have hb57 : ¬ (57 : Int) < (y.toNat : Int) := by omega
         have HA2 : Hid (Ru.digits (m.take (k + 1))) := Lib.hid fun c hc => by
          rw [List.take_add_one, List.getElem?_eq_getElem hlt, List.mem_append] at hc
          rcases hc with hc | hc
          ·exact HA.out c hc
          ·rw [HY.out] at hc
           obtain rfl : c = y := by simpa using hc
           omega
         obtain ⟨u, hu⟩ : ∃ u : Nat, y.toNat - 48 = u := ⟨_, rfl⟩
         have hyu : (y.toNat : Int) - 48 = (u : Int) := by omega
         have hu9 : u ≤ 9 := by omega
         have hzz : 10 * z + u < 10000000000 := by
          have h1 := Ru.dv_all HA2.out
          have h2 : (m.take (k + 1)).length ≤ 10 := by rw [List.length_take]; omega
          have h3 : 10 ^ (m.take (k + 1)).length ≤ 10 ^ 10 := Nat.pow_le_pow_right (by omega) h2
          rw [Wr.dv_step m k hlt, HZ.out, HY.out] at h1
          omega
         have HZ2 : Hid (Wr.dv (m.take (k + 1)) = 10 * z + u) := Lib.hid (by rw [Wr.dv_step m k hlt, HZ.out, HY.out, hu])
         have hz0 : (0 : Int) ≤ (z : Int) := by omega
         have hz1 : (z : Int) < 10000000000 := by omega
         have hu0 : (0 : Int) ≤ (u : Int) := by omega
         have hu1 : (u : Int) ≤ 9 := by omega
         clear hu h48 h57
         go_wp2_with fail
         try rw [hyu]
         go_wp2_with fail
         go_roundw
         case rel => exact ⟨k + 1, hlt, by go_num, HA2, ⟨10 * z + u, hzz, by go_num, HZ2⟩, trivial⟩
         case measure => simp [intOf]; omega
      ·obtain rfl : k = m.length := by omega
       have hzz : Wr.dv m = z := by have := HZ.out; rwa [List.take_length] at this
       have hz0 : (0 : Int) ≤ (z : Int) := by omega
       have hlx : m.length + 1 = x.length := HML.out
       have hli : (m.length : Int) < (x.length : Int) := by omega
       have hneg : -(z : Int) ≤ 0 := by omega
       clear hlx
       have HV : Hid (Ru.valR x = -(z : Int)) := Lib.hid (by unfold Ru.valR; rw [HNG.out, HM.out, hzz]; rfl)
       have hb10 : -(z : Int) < 10000000000 ∧ -10000000000 < -(z : Int) := by omega
       have cD := dec46_any (-(z : Int)) (by unfold Wr.I64; omega) (by omega) wr
       have HDG : Hid (Ru.digits m) := Lib.hid (by have := HA.out; rwa [List.take_length] at this)
       obtain ⟨q, hq⟩ : ∃ q, Lib.itoa (-(z : Int)) = q := ⟨_, rfl⟩
       rw [hq] at cD
       have HQ := Lib.hid hq
       clear hq hb10
       by_cases he : q = x
       ·have hb : (q == x) = true := by rw [he]; simp
        have HN0 : Hid (st.bind Ru.number = some (-(z : Int), r)) := Lib.hid (by
         rw [NB.out, Ru.num_ref, if_pos ⟨by rw [HM.out]; omega, by rw [HM.out]; omega, by rw [HM.out]; exact HDG.out, by rw [HV.out, HQ.out, he]⟩, HV.out]; rfl)
        clear he hzz
        go_wp2_with fail
        refine cD.mono ?_
        clear cD
        rintro e w3 ⟨rfl, hk3⟩
        have HK3 := Lib.hid hk3
        clear hk3
        go_wp2_with fail
        go_ret
        exact ⟨⟨_, rfl, fun n' r' h => by rw [HN0.out] at h; injection h with h; injection h with h _⟩, by rw [HN0.out]; exact H1.out.keep HK3.out, HK1.out.trans (HK3.out.weak _)⟩
       ·have hb : (q == x) = false := by simpa using he
        have HN0 : Hid (st.bind Ru.number = none) := Lib.hid (by
         rw [NB.out, Ru.num_ref, if_neg (fun h => he (by rw [← HQ.out, ← HV.out]; exact h.2.2.2))]; rfl)
        clear he hzz
        go_wp2_with fail
        refine cD.mono ?_
        clear cD
        rintro e w3 ⟨rfl, hk3⟩
        have HK3 := Lib.hid hk3
        have H3 := Lib.hid (H1.out.keep hk3)
        obtain ⟨⟨j3, g1, hj3⟩, g2, g3, b3, g4⟩ := H3.out.cells
        clear hk3
        go_wp2_with fail
        go_ret
        exact ⟨⟨_, rfl, fun n' r' h => by rw [HN0.out] at h; cases h⟩, by rw [HN0.out]; exact H3.out.bad, (HK1.out.trans (HK3.out.weak _)).trans ((Kp.refl w3 (some R)).set _)⟩
  | false =>
   have hc45 : ¬ c.toNat = 45 := fun h => by have := HCN.out.2 h; cases this
   have e45 : ((c.toNat : Int) == 45) = false := by simp; omega
   have HME := Lib.hid (HMX.out rfl)
   have hmx := HMX.out rfl
   subst hmx
   clear hc45
   obtain ⟨⟨j, d1, hj⟩, f1, f2, b2, d2⟩ := H1.out.cells
   have hml0 : (0 : Int) ≤ (m.length : Int) := by omega
   by_cases h0 : m.length = 0
   ·have hb0 : ((m.length : Int) == 0) = true := by rw [h0]; rfl
    have H0 := Lib.hid h0
    clear h0
    have HN0 : Hid (st.bind Ru.number = none) := Lib.hid (by rw [NB.out, Ru.num_ref, if_neg (fun h => by have := h.1; rw [HM.out, H0.out] at this; omega)]; rfl)
    go_wp2_with fail
    go_ret
    exact ⟨⟨0, rfl, fun n r h => by rw [HN0.out] at h; cases h⟩, by rw [HN0.out]; exact H1.out.bad, HK1.out.trans ((Kp.refl w1 (some R)).set _)⟩
   ·have hb0 : ((m.length : Int) == 0) = false := by simpa using h0
    by_cases h10 : 10 < m.length
    ·have hb1 : (10 : Int) < (m.length : Int) := by omega
     have H10 := Lib.hid h10
     clear h0 h10
     have HN0 : Hid (st.bind Ru.number = none) := Lib.hid (by rw [NB.out, Ru.num_ref, if_neg (fun h => by have := h.2.1; rw [HM.out] at this; have := H10.out; omega)]; rfl)
     go_wp2_with fail
     go_ret
     exact ⟨⟨0, rfl, fun n r h => by rw [HN0.out] at h; cases h⟩, by rw [HN0.out]; exact H1.out.bad, HK1.out.trans ((Kp.refl w1 (some R)).set _)⟩
    ·have hb1 : ¬ (10 : Int) < (m.length : Int) := by omega
     go_wp2_with fail
     go_loopw [4, 6] (fun v i wr => ∃ k : Nat, k ≤ m.length ∧ i = .int .i64 (k : Int) ∧ Hid (Ru.digits (m.take k)) ∧ (∃ z : Nat, z < 10000000000 ∧ v = .int .i64 (z : Int) ∧ Hid (Wr.dv (m.take k) = z)) ∧ wr = w1) (fun _ i _ => m.length - (intOf i).toNat)
     case atStart => exact ⟨0, Nat.zero_le _, rfl, Lib.hid (fun c hc => by simp at hc), ⟨0, by omega, rfl, Lib.hid (by simp [Wr.dv])⟩, rfl⟩
     case round =>
      obtain ⟨k, hk, rfl, HA, ⟨z, hz, rfl, HZ⟩, rfl⟩ := hrel
      have hk0 : (0 : Int) ≤ (k : Int) := by omega
      by_cases hlt : k < m.length
      ·obtain ⟨y, hy⟩ : ∃ c, m[k] = c := ⟨_, rfl⟩
       have hy0 : ∀ h', (⟨m.toArray⟩ : ByteArray)[k]'h' = y := fun h' => (show m.toArray[k]'_ = m[k] by simp).trans hy
       have HY := Lib.hid hy
       clear hy
       by_cases h48 : y.toNat < 48
       ·have hb48 : (y.toNat : Int) < 48 := by omega
        have H48 := Lib.hid h48
        clear h48
        have HN0 : Hid (st.bind Ru.number = none) := Lib.hid (by rw [NB.out, Ru.num_ref, if_neg (fun h => by have := h.2.2.1 m[k] (by rw [HM.out]; exact List.getElem_mem hlt); rw [HY.out] at this; have := H48.out; omega)]; rfl)
        go_wp2_with fail
        go_ret
        exact ⟨⟨0, rfl, fun n r h => by rw [HN0.out] at h; cases h⟩, by rw [HN0.out]; exact H1.out.bad, HK1.out.trans ((Kp.refl wr (some R)).set _)⟩
       ·have hb48 : ¬ (y.toNat : Int) < 48 := by omega
        by_cases h57 : 57 < y.toNat
        ·have hb57 : (57 : Int) < (y.toNat : Int) := by omega
         have H57 := Lib.hid h57
         clear h48 h57
         have HN0 : Hid (st.bind Ru.number = none) := Lib.hid (by rw [NB.out, Ru.num_ref, if_neg (fun h => by have := h.2.2.1 m[k] (by rw [HM.out]; exact List.getElem_mem hlt); rw [HY.out] at this; have := H57.out; omega)]; rfl)
         go_wp2_with fail
         go_ret
         exact ⟨⟨0, rfl, fun n r h => by rw [HN0.out] at h; cases h⟩, by rw [HN0.out]; exact H1.out.bad, HK1.out.trans ((Kp.refl wr (some R)).set _)⟩
        ·have hb57 : ¬ (57 : Int) < (y.toNat : Int) := by omega
         have HA2 : Hid (Ru.digits (m.take (k + 1))) := Lib.hid fun c hc => by
          rw [List.take_add_one, List.getElem?_eq_getElem hlt, List.mem_append] at hc
          rcases hc with hc | hc
          ·exact HA.out c hc
          ·rw [HY.out] at hc
           obtain rfl : c = y := by simpa using hc
           omega
         obtain ⟨u, hu⟩ : ∃ u : Nat, y.toNat - 48 = u := ⟨_, rfl⟩
         have hyu : (y.toNat : Int) - 48 = (u : Int) := by omega
         have hu9 : u ≤ 9 := by omega
         have hzz : 10 * z + u < 10000000000 := by
          have h1 := Ru.dv_all HA2.out
          have h2 : (m.take (k + 1)).length ≤ 10 := by rw [List.length_take]; omega
          have h3 : 10 ^ (m.take (k + 1)).length ≤ 10 ^ 10 := Nat.pow_le_pow_right (by omega) h2
          rw [Wr.dv_step m k hlt, HZ.out, HY.out] at h1
          omega
         have HZ2 : Hid (Wr.dv (m.take (k + 1)) = 10 * z + u) := Lib.hid (by rw [Wr.dv_step m k hlt, HZ.out, HY.out, hu])
         have hz0 : (0 : Int) ≤ (z : Int) := by omega
         have hz1 : (z : Int) < 10000000000 := by omega
         have hu0 : (0 : Int) ≤ (u : Int) := by omega
         have hu1 : (u : Int) ≤ 9 := by omega
         clear hu h48 h57
         go_wp2_with fail
         try rw [hyu]
         go_wp2_with fail
         go_roundw
         case rel => exact ⟨k + 1, hlt, by go_num, HA2, ⟨10 * z + u, hzz, by go_num, HZ2⟩, trivial⟩
         case measure => simp [intOf]; omega
      ·obtain rfl : k = m.length := by omega
       have hzz : Wr.dv m = z := by have := HZ.out; rwa [List.take_length] at this
       have hz0 : (0 : Int) ≤ (z : Int) := by omega
       have hli : ¬ (m.length : Int) < (m.length : Int) := by omega
       have HV : Hid (Ru.valR m = (z : Int)) := Lib.hid (by unfold Ru.valR; rw [HNG.out, HM.out, hzz]; rfl)
       have hb10 : (z : Int) < 10000000000 ∧ -10000000000 < (z : Int) := by omega
       have cD := dec46_any ((z : Int)) (by unfold Wr.I64; omega) (by omega) wr
       have HDG : Hid (Ru.digits m) := Lib.hid (by have := HA.out; rwa [List.take_length] at this)
       obtain ⟨q, hq⟩ : ∃ q, Lib.itoa ((z : Int)) = q := ⟨_, rfl⟩
       rw [hq] at cD
       have HQ := Lib.hid hq
       clear hq hb10
       by_cases he : q = m
       ·have hb : (q == m) = true := by rw [he]; simp
        have HN0 : Hid (st.bind Ru.number = some ((z : Int), r)) := Lib.hid (by
         rw [NB.out, Ru.num_ref, if_pos ⟨by rw [HM.out]; omega, by rw [HM.out]; omega, by rw [HM.out]; exact HDG.out, by rw [HV.out, HQ.out, he]⟩, HV.out]; rfl)
        clear he hzz
        go_wp2_with fail
        refine cD.mono ?_
        clear cD
        rintro e w3 ⟨rfl, hk3⟩
        have HK3 := Lib.hid hk3
        clear hk3
        go_wp2_with fail
        go_ret
        exact ⟨⟨_, rfl, fun n' r' h => by rw [HN0.out] at h; injection h with h; injection h with h _⟩, by rw [HN0.out]; exact H1.out.keep HK3.out, HK1.out.trans (HK3.out.weak _)⟩
       ·have hb : (q == m) = false := by simpa using he
        have HN0 : Hid (st.bind Ru.number = none) := Lib.hid (by
         rw [NB.out, Ru.num_ref, if_neg (fun h => he (by rw [← HQ.out, ← HV.out]; exact h.2.2.2))]; rfl)
        clear he hzz
        go_wp2_with fail
        refine cD.mono ?_
        clear cD
        rintro e w3 ⟨rfl, hk3⟩
        have HK3 := Lib.hid hk3
        have H3 := Lib.hid (H1.out.keep hk3)
        obtain ⟨⟨j3, g1, hj3⟩, g2, g3, b3, g4⟩ := H3.out.cells
        clear hk3
        go_wp2_with fail
        go_ret
        exact ⟨⟨_, rfl, fun n' r' h => by rw [HN0.out] at h; cases h⟩, by rw [HN0.out]; exact H3.out.bad, (HK1.out.trans (HK3.out.weak _)).trans ((Kp.refl w3 (some R)).set _)⟩
end Go.Proofs.YtnchipahdfbliaaGreatDoor
