/- The wire reader's methods, walked: each in terms of the plain decoders. Conditions: the string that is read is shorter than 4294967281 bytes. -/
import Derived.Test.YtfcbogoahangoaaDoorBld
namespace Go.Proofs.YtfcbogoahangoaaDoor
open Go.RowKit

/-- Block r is a reader of the package wire: none: a bad one; some l: l is left. -/
def RdIs (w : World) (r : Nat) (st : Option (List UInt8)) : Prop := w.heap[r]? = some (.cells #[.string ⟨(st.getD []).toArray⟩, .bool st.isNone] 53 (0, 0))

theorem RdIs.c0 {w : World} {r : Nat} {st : Option (List UInt8)} (h : RdIs w r st) : w.cell? ⟨r, 0, none⟩ = some (.string ⟨(st.getD []).toArray⟩) := by
  unfold RdIs at h; simp [World.cell?, h]
theorem RdIs.c1 {w : World} {r : Nat} {st : Option (List UInt8)} (h : RdIs w r st) : w.cell? ⟨r, 1, none⟩ = some (.bool st.isNone) := by
  unfold RdIs at h; simp [World.cell?, h]
theorem RdIs.fz {w : World} {r : Nat} {st : Option (List UInt8)} (h : RdIs w r st) (o : Nat) : w.frozen? ⟨r, o, none⟩ = false := by
  unfold RdIs at h; simp [World.frozen?, h]
theorem RdIs.lt {w : World} {r : Nat} {st : Option (List UInt8)} (h : RdIs w r st) : r < w.heap.size := lt_of_block h
theorem RdIs.keep {w w' : World} {r : Nat} {st : Option (List UInt8)} (h : RdIs w r st) {row : Option Nat} (k : Kp w w' row) (hr : row ≠ some r) : RdIs w' r st :=
  (k.block r h.lt (fun e => hr e.symm)).trans h
theorem RdIs.drewN {w : World} {r : Nat} {st : Option (List UInt8)} (h : RdIs w r st) (n : Nat) : RdIs (w.drewN n) r st := h

theorem heap_set {w : World} {r o : Nat} {cs : Array Value} {T : TypeId} {v : Value} (h : w.heap[r]? = some (.cells cs T (0, 0))) : (w.setCell ⟨r, o, none⟩ v).heap[r]? = some (.cells (cs.setIfInBounds o v) T (0, 0)) := by
  have hlt := lt_of_block h
  have h' : w.heap[r] = .cells cs T (0, 0) := by simpa [Array.getElem?_eq_getElem hlt] using h
  show (w.heap.modify r _)[r]? = _
  rw [Array.getElem?_eq_getElem (by simpa using hlt), Array.getElem_modify_self, h']
  rfl

theorem bad_nil (w : World) : Calls Tryd.prog 34 #[.pointer none] w fun e w' => e = .returned (.bool true) ∧ w = w' := by
  go_enter Tryd.func34, Tryd.ntmps34
  go_wp2
  go_ret
  exact ⟨rfl, rfl⟩

theorem bad_any (r : Nat) (st : Option (List UInt8)) (w : World) (h : RdIs w r st) : Calls Tryd.prog 34 #[.pointer (some ⟨r, 0, none⟩)] w fun e w' => e = .returned (.bool st.isNone) ∧ w = w' := by
  have c1 := h.c1
  clear h
  cases st <;> (
    go_enter Tryd.func34, Tryd.ntmps34
    go_wp2
    go_ret
    exact ⟨rfl, rfl⟩)

theorem new_any (l : List UInt8) (w : World) : Calls Tryd.prog 20 #[.string ⟨l.toArray⟩] w fun e w' => e = .returned (.pointer (some ⟨w.heap.size, 0, none⟩)) ∧ RdIs w' w.heap.size (some l) ∧ Kp w w' none := by
  go_enter Tryd.func20, Tryd.ntmps20
  go_wp2
  go_ret
  exact ⟨rfl, heap_alloc_new w _, (Kp.refl _ _).alloc _⟩

theorem left_nil (w : World) : Calls Tryd.prog 32 #[.pointer none] w fun e w' => e = .returned (.int .i64 0) ∧ w = w' := by
  go_enter Tryd.func32, Tryd.ntmps32
  go_wp2_with (go_at_call 34; refine (bad_nil _).mono ?_; rintro e w' ⟨rfl, rfl⟩)
  go_ret
  exact ⟨rfl, rfl⟩

theorem left_any (r : Nat) (st : Option (List UInt8)) (w : World) (h : RdIs w r st) : Calls Tryd.prog 32 #[.pointer (some ⟨r, 0, none⟩)] w fun e w' => e = .returned (.int .i64 ((st.getD []).length : Nat)) ∧ w = w' := by
  have c0 := h.c0
  have H := Lib.hid h
  clear h
  cases st <;> (
    go_enter Tryd.func32, Tryd.ntmps32
    go_wp2_with (go_at_call 34; refine (bad_any _ _ _ H.out).mono ?_; rintro e w' ⟨rfl, rfl⟩)
    go_ret
    exact ⟨rfl, rfl⟩)

theorem fail_nil (w : World) : Calls Tryd.prog 45 #[.pointer none] w fun e w' => e = .returned (.tuple #[]) ∧ w = w' := by
  go_enter Tryd.func45, Tryd.ntmps45
  go_wp2
  go_end0
  exact ⟨rfl, rfl⟩

theorem fail_any (r : Nat) (st : Option (List UInt8)) (w : World) (h : RdIs w r st) : Calls Tryd.prog 45 #[.pointer (some ⟨r, 0, none⟩)] w fun e w' => e = .returned (.tuple #[]) ∧ RdIs w' r none ∧ Kp w w' (some r) := by
  have c0 := h.c0
  have c1 := h.c1
  have f0 := h.fz 0
  have f1 := h.fz 1
  have H := Lib.hid h
  clear h
  go_enter Tryd.func45, Tryd.ntmps45
  go_wp2
  go_end0
  refine ⟨rfl, ?_, (((Kp.refl _ _).set _).set _)⟩
  have h := H.out
  unfold RdIs at h ⊢
  rw [heap_set (heap_set h)]
  rfl

/-- How number ends. -/
def NumEnds (r : Nat) (w : World) (o : Option (Int × List UInt8)) (E : Ending) (w' : World) : Prop :=
  (match o with
  | some (n, l) => E = .returned (.tuple #[.int .i64 n, .bool true]) ∧ RdIs w' r (some l)
  | none => E = .returned (.tuple #[.int .i64 0, .bool false]) ∧ RdIs w' r none) ∧ Kp w w' (some r)

/-- A scope out of whose body the run jumps forward to one label, at most once. -/
theorem wp_scope_fwd {P : Program} {a : Act} {w : World} {Q : Exit → Act → World → Prop} {c rest : Code} (l : Nat) (hf : findLabel c l = some rest)
    (first : c.wp P (Exit.jump l (fun a w => rest.wp P (Exit.noGoto Q) a w) Q) a w) : (Code.scope c).wp P Q a w :=
  wp_scope_jumps l _ (fun _ _ => 0) hf first fun a w h => Go.wp_mono h fun e a w hq => by
    cases e with
    | goto l' => exact hq.elim
    | _ => exact hq

theorem cut_no (l : List UInt8) (e : UInt8) (w : World) (he : Env w) (hs : l.length < 4294967281) (h : Wr.cut1 e l = none) :
    Calls Tryd.prog 53 #[.string ⟨l.toArray⟩, .string ⟨#[e]⟩] w fun E w' => E = .returned (.tuple #[.string ⟨l.toArray⟩, .string ⟨#[]⟩, .bool false]) ∧ ∃ n, w.drewN n = w' := by
  obtain ⟨m, hm⟩ := he.mx
  refine (Tryd.strings_Cut ⟨l.toArray⟩ ⟨#[e]⟩ m w (by show l.toArray.size < _; simpa using hs) hm).mono ?_
  rintro E w' ⟨rfl, n, rfl⟩
  have := Wr.cut_eq l e
  rw [h] at this
  simp only at this
  refine ⟨?_, n, rfl⟩
  simp only [this]
theorem cut_yes (l d t : List UInt8) (e : UInt8) (w : World) (he : Env w) (hs : l.length < 4294967281) (h : Wr.cut1 e l = some (d, t)) :
    Calls Tryd.prog 53 #[.string ⟨l.toArray⟩, .string ⟨#[e]⟩] w fun E w' => E = .returned (.tuple #[.string ⟨d.toArray⟩, .string ⟨t.toArray⟩, .bool true]) ∧ ∃ n, w.drewN n = w' := by
  obtain ⟨m, hm⟩ := he.mx
  refine (Tryd.strings_Cut ⟨l.toArray⟩ ⟨#[e]⟩ m w (by show l.toArray.size < _; simpa using hs) hm).mono ?_
  rintro E w' ⟨rfl, n, rfl⟩
  have := Wr.cut_eq l e
  rw [h] at this
  simp only at this
  refine ⟨?_, n, rfl⟩
  simp only [this]

set_option maxHeartbeats 1000000 in
theorem number_bad (r : Nat) (e : UInt8) (w : World) (h : RdIs w r none) : Calls Tryd.prog 42 #[.pointer (some ⟨r, 0, none⟩), .string ⟨#[e]⟩] w (NumEnds r w none) := by
  have H := Lib.hid h
  clear h
  go_enter Tryd.func42, Tryd.ntmps42
  go_wp2
  refine wp_scope_fwd 0 rfl ?_
  go_wp2_with (go_at_call 34; refine (bad_any _ _ _ H.out).mono ?_; rintro e w' ⟨rfl, rfl⟩)
  go_step3
  refine ⟨rfl, ?_⟩
  go_wp2_with (go_at_call 45; refine (fail_any _ _ _ H.out).mono ?_; rintro e w' ⟨rfl, h1, k1⟩; have H1 := Lib.hid h1; clear h1)
  rw [Exit.noGoto_ret]
  go_ret2
  exact ⟨⟨rfl, H1.out⟩, k1⟩

theorem RdIs.set {w : World} {r : Nat} {st : Option (List UInt8)} (h : RdIs w r st) (l : List UInt8) (hs : st.isNone = false) : RdIs (w.setCell ⟨r, 0, none⟩ (.string ⟨l.toArray⟩)) r (some l) := by
  unfold RdIs at *
  rw [heap_set h, hs]
  rfl

set_option maxHeartbeats 1000000 in
theorem number_nocut (r : Nat) (e : UInt8) (l : List UInt8) (w : World) (he : Env w) (hs : l.length < 4294967281) (h : RdIs w r (some l)) (hc : Wr.cut1 e l = none) : Calls Tryd.prog 42 #[.pointer (some ⟨r, 0, none⟩), .string ⟨#[e]⟩] w (NumEnds r w none) := by
  have H := Lib.hid h
  have HC := Lib.hid hc
  have c0 := h.c0
  have f0 := h.fz 0
  clear h hc
  go_enter Tryd.func42, Tryd.ntmps42
  go_wp2
  refine wp_scope_fwd 0 rfl ?_
  go_wp2_with (first | (go_at_call 34; refine (bad_any _ _ _ H.out).mono ?_; rintro e w' ⟨rfl, rfl⟩) | (go_at_call 53; refine (cut_no _ _ _ he hs HC.out).mono ?_; rintro e w' ⟨rfl, n, rfl⟩))
  go_step3
  refine ⟨rfl, ?_⟩
  go_wp2_with (go_at_call 45; refine (fail_any _ _ _ ((H.out.drewN n).set [] rfl)).mono ?_; rintro e w' ⟨rfl, h1, k1⟩; have H1 := Lib.hid h1; clear h1)
  rw [Exit.noGoto_ret]
  go_ret2
  exact ⟨⟨rfl, H1.out⟩, (((Kp.refl _ _).drewN n).set _).trans k1⟩

theorem atoi_ok (l : List UInt8) (v : Int) (w : World) (he : Env w) (hs : l.length < 4294967281) (h : Lib.atoiAll l = .ok v) :
    Calls Tryd.prog 54 #[.string ⟨l.toArray⟩] w fun E w' => E = .returned (.tuple #[.int .i64 v, .nilIface]) ∧ Kp w w' none := by
  refine (atoi_any ⟨l.toArray⟩ w he (by show l.toArray.size ≤ _; simp; omega)).mono ?_
  rintro E w' ⟨h1, k⟩
  refine ⟨?_, k⟩
  rcases h1 with ⟨v', h', rfl⟩ | ⟨_, _, h', _⟩
  · have : Lib.NumEnd.ok v = Lib.NumEnd.ok v' := h.symm.trans h'
    injection this with this
    rw [this]
  · exact absurd h (h' v)
theorem atoi_bad (l : List UInt8) (w : World) (he : Env w) (hs : l.length < 4294967281) (h : ∀ v, Lib.atoiAll l ≠ .ok v) :
    Calls Tryd.prog 54 #[.string ⟨l.toArray⟩] w fun E w' => ∃ v N, E = .returned (.tuple #[.int .i64 v, .iface 90 (.pointer (some ⟨N, 0, none⟩))]) ∧ Kp w w' none := by
  refine (atoi_any ⟨l.toArray⟩ w he (by show l.toArray.size ≤ _; simp; omega)).mono ?_
  rintro E w' ⟨h1, k⟩
  rcases h1 with ⟨v', h', rfl⟩ | ⟨v, N, _, rfl⟩
  · exact absurd h' (h v')
  · exact ⟨v, N, rfl, k⟩

set_option maxHeartbeats 1000000 in
theorem number_noparse (r : Nat) (e : UInt8) (l d t : List UInt8) (w : World) (he : Env w) (hr : 6 ≤ r) (hs : l.length < 4294967281) (hd : d.length < 4294967281) (h : RdIs w r (some l)) (hc : Wr.cut1 e l = some (d, t)) (ha : ∀ v, Lib.atoiAll d ≠ .ok v) : Calls Tryd.prog 42 #[.pointer (some ⟨r, 0, none⟩), .string ⟨#[e]⟩] w (NumEnds r w none) := by
  have H := Lib.hid h
  have HC := Lib.hid hc
  have HA := Lib.hid ha
  have c0 := h.c0
  have f0 := h.fz 0
  clear h hc ha
  go_enter Tryd.func42, Tryd.ntmps42
  go_wp2
  refine wp_scope_fwd 0 rfl ?_
  go_wp2_with (first | (go_at_call 34; refine (bad_any _ _ _ H.out).mono ?_; rintro e w' ⟨rfl, rfl⟩) | (go_at_call 53; refine (cut_yes _ _ _ _ _ he hs HC.out).mono ?_; rintro e w' ⟨rfl, n, rfl⟩) | (go_at_call 54; refine (atoi_bad _ _ (he.kp (((Kp.refl _ _).drewN n).set (r := r) _) (by intro x hx; injection hx; omega)) hd HA.out).mono ?_; rintro e w1 ⟨v, N, rfl, k1⟩; have K1 := Lib.hid k1; clear k1))
  go_step3
  refine ⟨rfl, ?_⟩
  go_wp2_with (go_at_call 45; refine (fail_any _ _ _ (((H.out.drewN n).set t rfl).keep K1.out (by simp))).mono ?_; rintro e w' ⟨rfl, h1, k1⟩; have H1 := Lib.hid h1; clear h1)
  rw [Exit.noGoto_ret]
  go_ret2
  exact ⟨⟨rfl, H1.out⟩, ((((Kp.refl _ _).drewN n).set _).trans (Kp.weak K1.out _)).trans k1⟩

set_option maxHeartbeats 1000000 in
theorem number_other (r : Nat) (e : UInt8) (l d t : List UInt8) (v : Int) (w : World) (he : Env w) (hr : 6 ≤ r) (hs : l.length < 4294967281) (hd : d.length < 4294967281) (h : RdIs w r (some l)) (hc : Wr.cut1 e l = some (d, t)) (ha : Lib.atoiAll d = .ok v) (hI : Wr.I64 v) (hn : ((Lib.itoa v) == d) = false) : Calls Tryd.prog 42 #[.pointer (some ⟨r, 0, none⟩), .string ⟨#[e]⟩] w (NumEnds r w none) := by
  have H := Lib.hid h
  have HC := Lib.hid hc
  have HA := Lib.hid ha
  have c0 := h.c0
  have f0 := h.fz 0
  clear h hc ha
  go_enter Tryd.func42, Tryd.ntmps42
  go_wp2
  refine wp_scope_fwd 0 rfl ?_
  go_wp2_with (first | (go_at_call 34; refine (bad_any _ _ _ H.out).mono ?_; rintro e w' ⟨rfl, rfl⟩) | (go_at_call 53; refine (cut_yes _ _ _ _ _ he hs HC.out).mono ?_; rintro e w' ⟨rfl, n, rfl⟩) | (go_at_call 54; refine (atoi_ok _ _ _ (he.kp (((Kp.refl _ _).drewN n).set (r := r) _) (by intro x hx; injection hx; omega)) hd HA.out).mono ?_; rintro e w1 ⟨rfl, k1⟩; have K1 := Lib.hid k1; clear k1) | (go_at_call 38; refine (itoa_any _ _ ((he.kp (((Kp.refl _ _).drewN n).set (r := r) _) (by intro x hx; injection hx; omega)).kp0 K1.out) hI).mono ?_; rintro e w2 ⟨rfl, k2⟩; have K2 := Lib.hid k2; clear k2))
  go_step3
  refine ⟨rfl, ?_⟩
  go_wp2_with (go_at_call 45; refine (fail_any _ _ _ ((((H.out.drewN n).set t rfl).keep K1.out (by simp)).keep K2.out (by simp))).mono ?_; rintro e w' ⟨rfl, h1, k1⟩; have H1 := Lib.hid h1; clear h1)
  rw [Exit.noGoto_ret]
  go_ret2
  exact ⟨⟨rfl, H1.out⟩, (((((Kp.refl _ _).drewN n).set _).trans (Kp.weak K1.out _)).trans (Kp.weak K2.out _)).trans k1⟩

set_option maxHeartbeats 1000000 in
theorem number_parse (r : Nat) (e : UInt8) (l d t : List UInt8) (v : Int) (w : World) (he : Env w) (hr : 6 ≤ r) (hs : l.length < 4294967281) (hd : d.length < 4294967281) (h : RdIs w r (some l)) (hc : Wr.cut1 e l = some (d, t)) (ha : Lib.atoiAll d = .ok v) (hI : Wr.I64 v) (hn : ((Lib.itoa v) == d) = true) : Calls Tryd.prog 42 #[.pointer (some ⟨r, 0, none⟩), .string ⟨#[e]⟩] w (NumEnds r w (some (v, t))) := by
  have H := Lib.hid h
  have HC := Lib.hid hc
  have HA := Lib.hid ha
  have c0 := h.c0
  have f0 := h.fz 0
  clear h hc ha
  go_enter Tryd.func42, Tryd.ntmps42
  go_wp2
  refine wp_scope_fwd 0 rfl ?_
  go_wp2_with (first | (go_at_call 34; refine (bad_any _ _ _ H.out).mono ?_; rintro e w' ⟨rfl, rfl⟩) | (go_at_call 53; refine (cut_yes _ _ _ _ _ he hs HC.out).mono ?_; rintro e w' ⟨rfl, n, rfl⟩) | (go_at_call 54; refine (atoi_ok _ _ _ (he.kp (((Kp.refl _ _).drewN n).set (r := r) _) (by intro x hx; injection hx; omega)) hd HA.out).mono ?_; rintro e w1 ⟨rfl, k1⟩; have K1 := Lib.hid k1; clear k1) | (go_at_call 38; refine (itoa_any _ _ ((he.kp (((Kp.refl _ _).drewN n).set (r := r) _) (by intro x hx; injection hx; omega)).kp0 K1.out) hI).mono ?_; rintro e w2 ⟨rfl, k2⟩; have K2 := Lib.hid k2; clear k2))
  simp only [Exit.jump]
  go_ret2
  exact ⟨⟨rfl, ((((H.out.drewN n).set t rfl).keep K1.out (by simp)).keep K2.out (by simp))⟩, ((((Kp.refl _ _).drewN n).set _).trans (Kp.weak K1.out _)).trans (Kp.weak K2.out _)⟩

theorem number_any (r : Nat) (e : UInt8) (st : Option (List UInt8)) (w : World) (he : Env w) (hr : 6 ≤ r) (hs : (st.getD []).length < 4294967281) (h : RdIs w r st) : Calls Tryd.prog 42 #[.pointer (some ⟨r, 0, none⟩), .string ⟨#[e]⟩] w (NumEnds r w (st.bind (Wr.pNum e))) := by
  cases st with
  | none => exact number_bad r e w h
  | some l =>
    simp only [Option.getD_some] at hs
    simp only [Option.bind_some, Wr.pNum]
    cases hc : Wr.cut1 e l with
    | none => exact number_nocut r e l w he hs h hc
    | some p =>
      obtain ⟨d, t⟩ := p
      have hd : d.length ≤ l.length := by have := (Wr.cut1_some hc).1; rw [this]; simp
      simp only [Option.bind_some]
      unfold Wr.parse
      cases ha : Lib.atoiAll d
      · rename_i v
        simp only
        by_cases hv : Lib.itoa v = d
        · rw [if_pos hv]
          exact number_parse r e l d t v w he hr hs (by omega) h hc ha (Wr.atoi_range ha) (by simpa using hv)
        · rw [if_neg hv]
          exact number_other r e l d t v w he hr hs (by omega) h hc ha (Wr.atoi_range ha) (by simpa using hv)
      · exact number_noparse r e l d t w he hr hs (by omega) h hc (by rw [ha]; intro v e; cases e)
      · exact number_noparse r e l d t w he hr hs (by omega) h hc (by rw [ha]; intro v e; cases e)

/-- What a decoding call leaves: its value (none: the zero value) and the reader. -/
def IntEnds (r : Nat) (w : World) (o : Option (Int × List UInt8)) (E : Ending) (w' : World) : Prop :=
  (match o with
  | some (n, l) => E = .returned (.int .i64 n) ∧ RdIs w' r (some l)
  | none => E = .returned (.int .i64 0) ∧ RdIs w' r none) ∧ Kp w w' (some r)

theorem int_any (r : Nat) (st : Option (List UInt8)) (w : World) (he : Env w) (hr : 6 ≤ r) (hs : (st.getD []).length < 4294967281) (h : RdIs w r st) : Calls Tryd.prog 22 #[.pointer (some ⟨r, 0, none⟩)] w (IntEnds r w (st.bind Wr.pInt)) := by
  have hq := number_any r 59 st w he hr hs h
  unfold Wr.pInt
  have HQ := Lib.hid hq
  clear hq he h
  cases ho : st.bind (Wr.pNum 59) with
  | none =>
    rw [ho] at HQ
    clear ho
    go_enter Tryd.func22, Tryd.ntmps22
    go_wp2_with (go_at_call 42; refine (HQ.out).mono ?_; rintro e w' ⟨⟨rfl, h1⟩, k1⟩; have H1 := Lib.hid h1; clear h1)
    go_ret
    exact ⟨⟨rfl, H1.out⟩, k1⟩
  | some p =>
    obtain ⟨n, t⟩ := p
    rw [ho] at HQ
    clear ho
    go_enter Tryd.func22, Tryd.ntmps22
    go_wp2_with (go_at_call 42; refine (HQ.out).mono ?_; rintro e w' ⟨⟨rfl, h1⟩, k1⟩; have H1 := Lib.hid h1; clear h1)
    go_ret
    exact ⟨⟨rfl, H1.out⟩, k1⟩

def TextEnds (r : Nat) (w : World) (o : Option (List UInt8 × List UInt8)) (E : Ending) (w' : World) : Prop :=
  (match o with
  | some (s, l) => E = .returned (.string ⟨s.toArray⟩) ∧ RdIs w' r (some l)
  | none => E = .returned (.string ⟨#[]⟩) ∧ RdIs w' r none) ∧ Kp w w' (some r)

theorem ext_take (t : List UInt8) (n : Nat) : (⟨t.toArray⟩ : ByteArray).extract 0 n = ⟨(t.take n).toArray⟩ := by
  apply ByteArray.ext; rw [ByteArray.data_extract]; simp
theorem ext_mid (t : List UInt8) (a b : Nat) : (⟨t.toArray⟩ : ByteArray).extract a b = ⟨((t.take b).drop a).toArray⟩ := by
  apply ByteArray.ext; rw [ByteArray.data_extract]; simp [List.drop_take]
theorem ext_drop (t : List UInt8) (n : Nat) : (⟨t.toArray⟩ : ByteArray).extract n t.length = ⟨(t.drop n).toArray⟩ := by
  rw [ext_mid, List.take_length]
theorem ret_str {a b : ByteArray} (h : a = b) : Ending.returned (.string a) = .returned (.string b) := by rw [h]

set_option maxHeartbeats 1000000 in
theorem text_none (r : Nat) (w : World) (HQ : Hid (Calls Tryd.prog 42 #[.pointer (some ⟨r, 0, none⟩), .string ⟨#[58]⟩] w (NumEnds r w none))) : Calls Tryd.prog 24 #[.pointer (some ⟨r, 0, none⟩)] w (TextEnds r w none) := by
  go_enter Tryd.func24, Tryd.ntmps24
  go_wp2_with (first | (go_at_call 42; refine (HQ.out).mono ?_; rintro e w' ⟨⟨rfl, h1⟩, k1⟩; have H1 := Lib.hid h1; clear h1; have K1 := Lib.hid k1; clear k1) | (go_at_call 45; refine (fail_any _ _ _ H1.out).mono ?_; rintro e w2 ⟨rfl, h2, k2⟩; have H2 := Lib.hid h2; clear h2; have K2 := Lib.hid k2; clear k2))
  go_ret
  exact ⟨⟨rfl, H2.out⟩, K1.out.trans K2.out⟩

set_option maxHeartbeats 1000000 in
theorem text_some (r : Nat) (w : World) (n : Int) (t : List UInt8) (hI : Wr.I64 n) (_ht : t.length < 4294967281) (HQ : Hid (Calls Tryd.prog 42 #[.pointer (some ⟨r, 0, none⟩), .string ⟨#[58]⟩] w (NumEnds r w (some (n, t))))) (h0 : 0 ≤ n) (h1 : n ≤ t.length) : Calls Tryd.prog 24 #[.pointer (some ⟨r, 0, none⟩)] w (TextEnds r w (some (t.take n.toNat, t.drop n.toNat))) := by
  obtain ⟨n, rfl⟩ := Int.eq_ofNat_of_zero_le h0
  go_enter Tryd.func24, Tryd.ntmps24
  go_wp2_with (first | (go_at_call 42; refine (HQ.out).mono ?_; rintro e w' ⟨⟨rfl, h1⟩, k1⟩; have c0 := h1.c0; have f0 := h1.fz 0; have H1 := Lib.hid h1; clear h1; have K1 := Lib.hid k1; clear k1))
  go_ret
  refine ⟨⟨ret_str (by rw [Int.toNat_natCast, ext_take]), ?_⟩, K1.out.set _⟩
  rw [ext_drop, Int.toNat_natCast]
  exact H1.out.set _ rfl

set_option maxHeartbeats 1000000 in
theorem text_neg (r : Nat) (w : World) (n : Int) (t : List UInt8) (_ht : t.length < 4294967281) (HQ : Hid (Calls Tryd.prog 42 #[.pointer (some ⟨r, 0, none⟩), .string ⟨#[58]⟩] w (NumEnds r w (some (n, t))))) (h0 : n < 0) : Calls Tryd.prog 24 #[.pointer (some ⟨r, 0, none⟩)] w (TextEnds r w none) := by
  go_enter Tryd.func24, Tryd.ntmps24
  go_wp2_with (first | (go_at_call 42; refine (HQ.out).mono ?_; rintro e w' ⟨⟨rfl, h1⟩, k1⟩; have c0 := h1.c0; have H1 := Lib.hid h1; clear h1; have K1 := Lib.hid k1; clear k1) | (go_at_call 45; refine (fail_any _ _ _ H1.out).mono ?_; rintro e w2 ⟨rfl, h2, k2⟩; have H2 := Lib.hid h2; clear h2; have K2 := Lib.hid k2; clear k2))
  go_ret
  exact ⟨⟨rfl, H2.out⟩, K1.out.trans K2.out⟩

set_option maxHeartbeats 1000000 in
theorem text_big (r : Nat) (w : World) (n : Int) (t : List UInt8) (_ht : t.length < 4294967281) (HQ : Hid (Calls Tryd.prog 42 #[.pointer (some ⟨r, 0, none⟩), .string ⟨#[58]⟩] w (NumEnds r w (some (n, t))))) (h0 : 0 ≤ n) (hb : t.length < n) : Calls Tryd.prog 24 #[.pointer (some ⟨r, 0, none⟩)] w (TextEnds r w none) := by
  go_enter Tryd.func24, Tryd.ntmps24
  go_wp2_with (first | (go_at_call 42; refine (HQ.out).mono ?_; rintro e w' ⟨⟨rfl, h1⟩, k1⟩; have c0 := h1.c0; have H1 := Lib.hid h1; clear h1; have K1 := Lib.hid k1; clear k1) | (go_at_call 45; refine (fail_any _ _ _ H1.out).mono ?_; rintro e w2 ⟨rfl, h2, k2⟩; have H2 := Lib.hid h2; clear h2; have K2 := Lib.hid k2; clear k2))
  go_ret
  exact ⟨⟨rfl, H2.out⟩, K1.out.trans K2.out⟩

theorem text_any (r : Nat) (st : Option (List UInt8)) (w : World) (he : Env w) (hr : 6 ≤ r) (hs : (st.getD []).length < 4294967281) (h : RdIs w r st) : Calls Tryd.prog 24 #[.pointer (some ⟨r, 0, none⟩)] w (TextEnds r w (st.bind Wr.pText)) := by
  have hq := number_any r 58 st w he hr hs h
  cases ho : st.bind (Wr.pNum 58) with
  | none =>
    rw [ho] at hq
    have : st.bind Wr.pText = none := by
      cases st with
      | none => rfl
      | some l => simp only [Option.bind_some] at ho ⊢; simp [Wr.pText, ho]
    rw [this]
    exact text_none r w hq
  | some p =>
    obtain ⟨n, t⟩ := p
    rw [ho] at hq
    obtain ⟨l, rfl, hl⟩ : ∃ l, st = some l ∧ Wr.pNum 58 l = some (n, t) := by
      cases st with
      | none => cases ho
      | some l => exact ⟨l, rfl, ho⟩
    obtain ⟨e1, hI⟩ := Wr.num_can hl
    have ht : t.length < 4294967281 := by
      have := congrArg List.length e1
      simp only [Option.getD_some] at hs
      simp at this; omega
    simp only [Option.bind_some, Wr.pText, hl]
    by_cases h0 : 0 ≤ n
    · by_cases h1 : n ≤ t.length
      · rw [if_pos ⟨h0, h1⟩]
        exact text_some r w n t hI ht hq h0 h1
      · rw [if_neg (fun h => h1 h.2)]
        exact text_big r w n t ht hq h0 (by omega)
    · rw [if_neg (fun h => h0 h.1)]
      exact text_neg r w n t ht hq (by omega)
end Go.Proofs.YtfcbogoahangoaaDoor
