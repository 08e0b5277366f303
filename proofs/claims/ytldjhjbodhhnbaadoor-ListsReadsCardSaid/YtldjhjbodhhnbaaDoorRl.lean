/- The reference's line: a row. Condition: the line is shorter than 2^20 bytes. -/
import Derived.Test.YtldjhjbodhhnbaaDoorWo
import Derived.Test.YtldjhjbodhhnbaaDoorNp
import Derived.Test.YtldjhjbodhhnbaaDoorWf
namespace Go.Proofs.YtldjhjbodhhnbaaDoor
open Go.RowKit

/-- Behind a piece of a line: what is left, and whether it is bad; P is what a piece gives. -/
def Piece (X : Nat) (S : List UInt8) (b : Bool) (P : List UInt8 → Prop) (N : Prop) (w w' : World) : Prop :=
  ∃ (S2 : List UInt8) (b2 : Bool), LnIs w' X S2 b2 ∧ S2.length ≤ S.length ∧ (b2 = false → b = false ∧ P S2) ∧ (b2 = true → b = true ∨ N) ∧ Kp w w' (some X)
theorem rtext (X : Nat) (S t : List UInt8) (b : Bool) (w : World) (h : LnIs w X S b) : Calls Tryd.prog 43 #[.pointer (some ⟨X, 0, none⟩), .string ⟨t.toArray⟩] w fun E w' => E = .returned (.tuple #[]) ∧ Piece X S b (fun S2 => Li.textF t S = some S2) (Li.textF t S = none) w w' := by
  refine (text_any X S t b w h).mono ?_
  rintro E w' ⟨rfl, hm, k⟩
  refine ⟨rfl, ?_⟩
  cases ht : Li.textF t S with
  | none => rw [ht] at hm; exact ⟨S, true, hm, Nat.le_refl _, fun e => (by cases e), fun _ => .inr rfl, k⟩
  | some r => rw [ht] at hm; exact ⟨r, b, hm, by rw [Li.textF_some.1 ht, List.length_append]; omega, fun e => ⟨e, rfl⟩, fun e => .inl e, k⟩
theorem rnumber (X : Nat) (S : List UInt8) (b : Bool) (w : World) (h : LnIs w X S b) (hS : S.length < 1048576) : Calls Tryd.prog 45 #[.pointer (some ⟨X, 0, none⟩)] w fun E w' => ∃ n : Int, E = .returned (.int .i64 n) ∧ Piece X S b (fun S2 => Li.numF S = some (n, S2)) (Li.numF S = none) w w' := by
  refine (number_any X S b w h (by omega)).mono ?_
  rintro E w' ⟨hm, k⟩
  cases ht : Li.numF S with
  | none => rw [ht] at hm; obtain ⟨v, S', rfl, h1, hl⟩ := hm; exact ⟨v, rfl, S', true, h1, hl, fun e => (by cases e), fun _ => .inr rfl, k⟩
  | some p => rw [ht] at hm; obtain ⟨rfl, h1⟩ := hm; exact ⟨p.1, rfl, p.2, b, h1, by rw [(Li.numF_iff.1 ht).eq, List.length_append]; omega, fun e => ⟨e, rfl⟩, fun e => .inl e, k⟩
theorem rword (X : Nat) (S : List UInt8) (b : Bool) (w : World) (h : LnIs w X S b) (hS : S.length < 1048576) : Calls Tryd.prog 44 #[.pointer (some ⟨X, 0, none⟩)] w fun E w' => ∃ d : List UInt8, E = .returned (.string ⟨d.toArray⟩) ∧ Piece X S b (fun S2 => Li.quoted S = some (d, S2)) (Li.quoted S = none) w w' := by
  cases b
  · refine (rline_word X S w h hS).mono ?_
    rintro E w' ⟨hm, k⟩
    cases ht : Li.quoted S with
    | none => rw [ht] at hm; obtain ⟨v, S', rfl, _, h1, hl⟩ := hm; exact ⟨v, rfl, S', true, h1, hl, fun e => (by cases e), fun _ => .inr rfl, k⟩
    | some p => rw [ht] at hm; obtain ⟨rfl, h1⟩ := hm; exact ⟨p.1, rfl, p.2, false, h1, by have := Li.quoted_some ht; rw [this, List.length_append]; omega, fun e => ⟨e, rfl⟩, fun e => .inl e, k⟩
  · refine (rline_word_bad X S w h hS).mono ?_
    rintro E w' ⟨⟨v, S', rfl, _, h1, hl⟩, k⟩
    exact ⟨v, rfl, S', true, h1, hl, fun e => (by cases e), fun _ => .inl rfl, k⟩
/-- How the reading of a line stands. -/
def Stand (F : Option (List Li.Fld)) (K : List UInt8 → Option (List Li.Fld)) (S : List UInt8) (b : Bool) : Prop := (b = false → F = K S) ∧ (b = true → F = none)
theorem Stand.step {F : Option (List Li.Fld)} {α : Type} {f : List UInt8 → Option (α × List UInt8)} {K : α × List UInt8 → Option (List Li.Fld)} {S S2 : List UInt8} {b b2 : Bool} {x : α} (h : Stand F (fun S => (f S).bind K) S b)
    (h1 : b2 = false → b = false ∧ f S = some (x, S2)) (h2 : b2 = true → b = true ∨ f S = none) : Stand F (fun S => K (x, S)) S2 b2 := by
  refine ⟨fun e => ?_, fun e => ?_⟩
  · obtain ⟨e1, e2⟩ := h1 e
    rw [h.1 e1]; show (f S).bind K = _; rw [e2]; rfl
  · cases hb : b
    · rcases h2 e with e1 | e1
      · rw [hb] at e1; cases e1
      · rw [h.1 hb]; show (f S).bind K = _; rw [e1]; rfl
    · exact h.2 hb
theorem Stand.text {F : Option (List Li.Fld)} {f : List UInt8 → Option (List UInt8)} {K : List UInt8 → Option (List Li.Fld)} {S S2 : List UInt8} {b b2 : Bool} (h : Stand F (fun S => (f S).bind K) S b)
    (h1 : b2 = false → b = false ∧ f S = some S2) (h2 : b2 = true → b = true ∨ f S = none) : Stand F K S2 b2 := by
  refine ⟨fun e => ?_, fun e => ?_⟩
  · obtain ⟨e1, e2⟩ := h1 e
    rw [h.1 e1]; show (f S).bind K = _; rw [e2]; rfl
  · cases hb : b
    · rcases h2 e with e1 | e1
      · rw [hb] at e1; cases e1
      · rw [h.1 hb]; show (f S).bind K = _; rw [e1]; rfl
    · exact h.2 hb
theorem set6 {w : World} {r : Nat} {E : TypeId} {z0 z1 z2 z3 z4 z5 : Value} (h : w.heap[r]? = some (.cells #[z0, z1, z2, z3, z4, z5] E (0, 0))) (v0 v1 v2 v3 v4 v5 : Value) :
    ((((((w.setCell ⟨r, 0, none⟩ v0).setCell ⟨r, 1, none⟩ v1).setCell ⟨r, 2, none⟩ v2).setCell ⟨r, 3, none⟩ v3).setCell ⟨r, 4, none⟩ v4).setCell ⟨r, 5, none⟩ v5).heap[r]? = some (.cells #[v0, v1, v2, v3, v4, v5] E (0, 0)) :=
  heap_set (heap_set (heap_set (heap_set (heap_set (heap_set h)))))
theorem beq_dc (a b : List UInt8) : (a == b) = decide (a = b) := by
  by_cases e : a = b
  · rw [e]; simp
  · rw [beq_eq_false_iff_ne.2 e, decide_eq_false e]
theorem side_no {F : Option (List Li.Fld)} {a b S S2 : List UInt8} {x y t : Int} {bd b2 : Bool} (h : Stand F (fun S => (Li.sideF S).map fun u => [.s a, .s b, .i x, .i y, .i t, .b u]) S bd) (hu : ¬ S = 32 :: Li.side true ++ [10])
    (h1 : b2 = false → bd = false ∧ Li.textF [32, 116, 111, 112, 10] S = some S2) (h2 : b2 = true → bd = true ∨ Li.textF [32, 116, 111, 112, 10] S = none) : match F with | some fs => fs = [.s a, .s b, .i x, .i y, .i t, .b false] ∧ S2 = [] ∧ b2 = false | none => b2 = true ∨ S2 ≠ [] := by
  cases hb : b2
  · obtain ⟨e1, e2⟩ := h1 hb
    have hS := Li.textF_some.1 e2
    have e0 : F = (Li.sideF S).map fun u => [.s a, .s b, .i x, .i y, .i t, .b u] := h.1 e1
    rw [e0]
    cases S2 with
    | nil =>
      have : Li.sideF S = some false := Li.sideF_some.2 (by rw [hS]; rfl)
      rw [this]; exact ⟨rfl, rfl, rfl⟩
    | cons c r =>
      have : Li.sideF S = none := by
        cases e : Li.sideF S with
        | none => rfl
        | some u =>
          have he := Li.sideF_some.1 e
          cases u
          · rw [hS] at he; simp [Li.side] at he
          · exact absurd he hu
      rw [this]; exact .inr (by simp)
  · have : F = none := by
      cases hbd : bd
      · rcases h2 hb with e | e
        · rw [hbd] at e; cases e
        · rw [show F = (Li.sideF S).map fun u => [.s a, .s b, .i x, .i y, .i t, .b u] from h.1 hbd]
          cases e3 : Li.sideF S with
          | none => rfl
          | some u =>
            have he := Li.sideF_some.1 e3
            cases u
            · rw [he] at e; simp [Li.textF, Li.side] at e
            · exact absurd he hu
      · exact h.2 hbd
    rw [this]; exact .inl rfl
theorem side_yes {F : Option (List Li.Fld)} {a b S S2 : List UInt8} {x y t : Int} {bd b2 : Bool} (h : Stand F (fun S => (Li.sideF S).map fun u => [.s a, .s b, .i x, .i y, .i t, .b u]) S bd) (hu : S = 32 :: Li.side true ++ [10])
    (h1 : b2 = false → bd = false ∧ Li.textF [32, 98, 111, 116, 116, 111, 109, 10] S = some S2) (h2 : b2 = true → bd = true ∨ Li.textF [32, 98, 111, 116, 116, 111, 109, 10] S = none) : match F with | some fs => fs = [.s a, .s b, .i x, .i y, .i t, .b true] ∧ S2 = [] ∧ b2 = false | none => b2 = true ∨ S2 ≠ [] := by
  have ht : Li.textF [32, 98, 111, 116, 116, 111, 109, 10] S = some [] := Li.textF_some.2 (by rw [hu]; rfl)
  cases hb : b2
  · obtain ⟨e1, e2⟩ := h1 hb
    rw [ht] at e2; injection e2 with e2
    rw [show F = (Li.sideF S).map fun u => [.s a, .s b, .i x, .i y, .i t, .b u] from h.1 e1, Li.sideF_some.2 hu]; exact ⟨rfl, e2.symm, rfl⟩
  · rcases h2 hb with e | e
    · rw [h.2 e]; exact .inl rfl
    · rw [ht] at e; cases e
theorem heap_newB (w : World) (o p : Obj) : ((w.alloc o).alloc p).heap[w.heap.size + 1]? = some p := by
  have h := heap_alloc_new (w.alloc o) p
  rw [show (w.alloc o).heap.size = w.heap.size + 1 by simp] at h
  exact h
theorem alloc_keepsB {w : World} {b : Nat} {x o : Obj} (h : w.heap[b]? = some x) : (w.alloc o).heap[b]? = some x := (((Kp.refl w none).alloc o).block b (lt_of_block h) (by simp)).trans h
def RowEnds (w : World) (X : Nat) (F : Option (List Li.Fld)) (E : Ending) (w' : World) : Prop :=
  ∃ (a b : List UInt8) (x y t : Int) (u : Bool) (S' : List UInt8) (bd : Bool), E = .returned (.agg #[.string ⟨a.toArray⟩, .string ⟨b.toArray⟩, .int .i64 x, .int .i64 y, .int .i64 t, .bool u]) ∧ LnIs w' X S' bd ∧ S'.length < 1048576 ∧
    (match F with | some fs => fs = [.s a, .s b, .i x, .i y, .i t, .b u] ∧ S' = [] ∧ bd = false | none => bd = true ∨ S' ≠ []) ∧ Kp w w' (some X)
set_option maxHeartbeats 8000000 in
set_option maxRecDepth 100000 in
theorem rrow_any (X : Nat) (S : List UInt8) (w : World) (h : LnIs w X S false) (hS : S.length < 1048576) : Calls Tryd.prog 32 #[.pointer (some ⟨X, 0, none⟩)] w (RowEnds w X (Li.rowF S)) := by
  have H0 := Lib.hid (h.keep (((Kp.refl w none).alloc (.cells #[.string ⟨#[]⟩, .string ⟨#[]⟩, .int .i64 0, .int .i64 0, .int .i64 0, .bool false] 33)).alloc (.cells #[.string ⟨#[]⟩, .string ⟨#[]⟩, .int .i64 0, .int .i64 0, .int .i64 0, .bool false] 33)) (by simp))
  have HR0 : Hid (((w.alloc (.cells #[.string ⟨#[]⟩, .string ⟨#[]⟩, .int .i64 0, .int .i64 0, .int .i64 0, .bool false] 33)).alloc (.cells #[.string ⟨#[]⟩, .string ⟨#[]⟩, .int .i64 0, .int .i64 0, .int .i64 0, .bool false] 33)).heap[w.heap.size + 1]? = some (.cells #[.string ⟨#[]⟩, .string ⟨#[]⟩, .int .i64 0, .int .i64 0, .int .i64 0, .bool false] 33 (0, 0))) := Lib.hid (heap_newB w _ _)
  have HA0 : Hid (((w.alloc (.cells #[.string ⟨#[]⟩, .string ⟨#[]⟩, .int .i64 0, .int .i64 0, .int .i64 0, .bool false] 33)).alloc (.cells #[.string ⟨#[]⟩, .string ⟨#[]⟩, .int .i64 0, .int .i64 0, .int .i64 0, .bool false] 33)).heap[w.heap.size]? = some (.cells #[.string ⟨#[]⟩, .string ⟨#[]⟩, .int .i64 0, .int .i64 0, .int .i64 0, .bool false] 33 (0, 0))) := Lib.hid (alloc_keepsB (heap_alloc_new w _))
  have K0 : Hid (Kp w ((w.alloc (.cells #[.string ⟨#[]⟩, .string ⟨#[]⟩, .int .i64 0, .int .i64 0, .int .i64 0, .bool false] 33)).alloc (.cells #[.string ⟨#[]⟩, .string ⟨#[]⟩, .int .i64 0, .int .i64 0, .int .i64 0, .bool false] 33)) (some X)) := Lib.hid ((((Kp.refl w none).alloc _).alloc _).weak _)
  have ST0 : Hid (Stand (Li.rowF S) Li.rowF S false) := Lib.hid ⟨fun _ => rfl, fun e => by cases e⟩
  have hXl : X < w.heap.size := lt_of_block h
  have hl0 : S.length ≤ S.length := Nat.le_refl _
  clear h
  go_enter Tryd.func32, Tryd.ntmps32
  go_wp2_with fail
  refine (rtext X S [112, 108, 97, 99, 101, 32] false _ H0.out).mono ?_
  rintro e w1 ⟨rfl, S1, b1, hL1, hl1, hh1, hh2, kk⟩
  have H1 := Lib.hid hL1
  have HR1 := Lib.hid ((kk.block _ (lt_of_block HR0.out) (by simp; omega)).trans HR0.out)
  have HA1 := Lib.hid ((kk.block _ (lt_of_block HA0.out) (by simp; omega)).trans HA0.out)
  have K1 := Lib.hid (K0.out.trans kk)
  have ST1 := Lib.hid (ST0.out.text hh1 hh2)
  clear hL1 kk hh1 hh2
  go_wp2_with fail
  refine (rword X S1 b1 _ H1.out (by omega)).mono ?_
  rintro e w2 ⟨a, rfl, S2, b2, hL2, hl2, hh1, hh2, kk⟩
  have HQ2 := Lib.hid (ST1.out.step (x := a) hh1 hh2)
  have h02 := Lib.hid hL2
  have hr0 := (kk.block _ (lt_of_block HR1.out) (by simp; omega)).trans HR1.out
  have ha0 := (kk.block _ (lt_of_block HA1.out) (by simp; omega)).trans HA1.out
  have k0 := K1.out.trans kk
  have cR : w2.cell? ⟨w.heap.size + 1, 0, none⟩ = some (.string ⟨#[]⟩) := by rw [Lib.cell_of_heap hr0]; rfl
  have fR : w2.frozen? ⟨w.heap.size + 1, 0, none⟩ = false := Lib.frozen_of_heap hr0 _
  have H2 : Hid (LnIs (w2.setCell ⟨w.heap.size + 1, 0, none⟩ (.string ⟨a.toArray⟩)) X S2 b2) := Lib.hid (by unfold LnIs; rw [Below.heap_setCell _ _ _ _ (show X ≠ w.heap.size + 1 by omega)]; exact hL2)
  have HR2 : Hid ((w2.setCell ⟨w.heap.size + 1, 0, none⟩ (.string ⟨a.toArray⟩)).heap[w.heap.size + 1]? = some (.cells #[.string ⟨a.toArray⟩, .string ⟨#[]⟩, .int .i64 0, .int .i64 0, .int .i64 0, .bool false] 33 (0, 0))) := Lib.hid (heap_set hr0)
  have HA2 : Hid ((w2.setCell ⟨w.heap.size + 1, 0, none⟩ (.string ⟨a.toArray⟩)).heap[w.heap.size]? = some (.cells #[.string ⟨#[]⟩, .string ⟨#[]⟩, .int .i64 0, .int .i64 0, .int .i64 0, .bool false] 33 (0, 0))) := Lib.hid (by rw [Below.heap_setCell _ _ _ _ (show w.heap.size ≠ w.heap.size + 1 by omega)]; exact ha0)
  have K2 : Hid (Kp w (w2.setCell ⟨w.heap.size + 1, 0, none⟩ (.string ⟨a.toArray⟩)) (some X)) := Lib.hid (Kp.of_own k0 ((Kp.refl _ (some (w.heap.size + 1))).set _) (by omega))
  have ST2 := HQ2
  clear hr0 ha0 k0 hL2 kk hh1 hh2 HQ2 h02
  go_wp2_with fail
  clear cR fR
  refine (rtext X S2 [32] b2 _ H2.out).mono ?_
  rintro e w3 ⟨rfl, S3, b3, hL3, hl3, hh1, hh2, kk⟩
  have H3 := Lib.hid hL3
  have HR3 := Lib.hid ((kk.block _ (lt_of_block HR2.out) (by simp; omega)).trans HR2.out)
  have HA3 := Lib.hid ((kk.block _ (lt_of_block HA2.out) (by simp; omega)).trans HA2.out)
  have K3 := Lib.hid (K2.out.trans kk)
  have ST3 := Lib.hid (ST2.out.text hh1 hh2)
  clear hL3 kk hh1 hh2
  go_wp2_with fail
  refine (rword X S3 b3 _ H3.out (by omega)).mono ?_
  rintro e w4 ⟨b, rfl, S4, b4, hL4, hl4, hh1, hh2, kk⟩
  have HQ4 := Lib.hid (ST3.out.step (x := b) hh1 hh2)
  have h04 := Lib.hid hL4
  have hr0 := (kk.block _ (lt_of_block HR3.out) (by simp; omega)).trans HR3.out
  have ha0 := (kk.block _ (lt_of_block HA3.out) (by simp; omega)).trans HA3.out
  have k0 := K3.out.trans kk
  have cR : w4.cell? ⟨w.heap.size + 1, 1, none⟩ = some (.string ⟨#[]⟩) := by rw [Lib.cell_of_heap hr0]; rfl
  have fR : w4.frozen? ⟨w.heap.size + 1, 1, none⟩ = false := Lib.frozen_of_heap hr0 _
  have H4 : Hid (LnIs (w4.setCell ⟨w.heap.size + 1, 1, none⟩ (.string ⟨b.toArray⟩)) X S4 b4) := Lib.hid (by unfold LnIs; rw [Below.heap_setCell _ _ _ _ (show X ≠ w.heap.size + 1 by omega)]; exact hL4)
  have HR4 : Hid ((w4.setCell ⟨w.heap.size + 1, 1, none⟩ (.string ⟨b.toArray⟩)).heap[w.heap.size + 1]? = some (.cells #[.string ⟨a.toArray⟩, .string ⟨b.toArray⟩, .int .i64 0, .int .i64 0, .int .i64 0, .bool false] 33 (0, 0))) := Lib.hid (heap_set hr0)
  have HA4 : Hid ((w4.setCell ⟨w.heap.size + 1, 1, none⟩ (.string ⟨b.toArray⟩)).heap[w.heap.size]? = some (.cells #[.string ⟨#[]⟩, .string ⟨#[]⟩, .int .i64 0, .int .i64 0, .int .i64 0, .bool false] 33 (0, 0))) := Lib.hid (by rw [Below.heap_setCell _ _ _ _ (show w.heap.size ≠ w.heap.size + 1 by omega)]; exact ha0)
  have K4 : Hid (Kp w (w4.setCell ⟨w.heap.size + 1, 1, none⟩ (.string ⟨b.toArray⟩)) (some X)) := Lib.hid (Kp.of_own k0 ((Kp.refl _ (some (w.heap.size + 1))).set _) (by omega))
  have ST4 := HQ4
  clear hr0 ha0 k0 hL4 kk hh1 hh2 HQ4 h04
  go_wp2_with fail
  clear cR fR
  refine (rtext X S4 [32] b4 _ H4.out).mono ?_
  rintro e w5 ⟨rfl, S5, b5, hL5, hl5, hh1, hh2, kk⟩
  have H5 := Lib.hid hL5
  have HR5 := Lib.hid ((kk.block _ (lt_of_block HR4.out) (by simp; omega)).trans HR4.out)
  have HA5 := Lib.hid ((kk.block _ (lt_of_block HA4.out) (by simp; omega)).trans HA4.out)
  have K5 := Lib.hid (K4.out.trans kk)
  have ST5 := Lib.hid (ST4.out.text hh1 hh2)
  clear hL5 kk hh1 hh2
  go_wp2_with fail
  refine (rnumber X S5 b5 _ H5.out (by omega)).mono ?_
  rintro e w6 ⟨x, rfl, S6, b6, hL6, hl6, hh1, hh2, kk⟩
  have HQ6 := Lib.hid (ST5.out.step (x := x) hh1 hh2)
  have h06 := Lib.hid hL6
  have hr0 := (kk.block _ (lt_of_block HR5.out) (by simp; omega)).trans HR5.out
  have ha0 := (kk.block _ (lt_of_block HA5.out) (by simp; omega)).trans HA5.out
  have k0 := K5.out.trans kk
  have cR : w6.cell? ⟨w.heap.size + 1, 2, none⟩ = some (.int .i64 0) := by rw [Lib.cell_of_heap hr0]; rfl
  have fR : w6.frozen? ⟨w.heap.size + 1, 2, none⟩ = false := Lib.frozen_of_heap hr0 _
  have H6 : Hid (LnIs (w6.setCell ⟨w.heap.size + 1, 2, none⟩ (.int .i64 x)) X S6 b6) := Lib.hid (by unfold LnIs; rw [Below.heap_setCell _ _ _ _ (show X ≠ w.heap.size + 1 by omega)]; exact hL6)
  have HR6 : Hid ((w6.setCell ⟨w.heap.size + 1, 2, none⟩ (.int .i64 x)).heap[w.heap.size + 1]? = some (.cells #[.string ⟨a.toArray⟩, .string ⟨b.toArray⟩, .int .i64 x, .int .i64 0, .int .i64 0, .bool false] 33 (0, 0))) := Lib.hid (heap_set hr0)
  have HA6 : Hid ((w6.setCell ⟨w.heap.size + 1, 2, none⟩ (.int .i64 x)).heap[w.heap.size]? = some (.cells #[.string ⟨#[]⟩, .string ⟨#[]⟩, .int .i64 0, .int .i64 0, .int .i64 0, .bool false] 33 (0, 0))) := Lib.hid (by rw [Below.heap_setCell _ _ _ _ (show w.heap.size ≠ w.heap.size + 1 by omega)]; exact ha0)
  have K6 : Hid (Kp w (w6.setCell ⟨w.heap.size + 1, 2, none⟩ (.int .i64 x)) (some X)) := Lib.hid (Kp.of_own k0 ((Kp.refl _ (some (w.heap.size + 1))).set _) (by omega))
  have ST6 := HQ6
  clear hr0 ha0 k0 hL6 kk hh1 hh2 HQ6 h06
  go_wp2_with fail
  clear cR fR
  refine (rtext X S6 [32] b6 _ H6.out).mono ?_
  rintro e w7 ⟨rfl, S7, b7, hL7, hl7, hh1, hh2, kk⟩
  have H7 := Lib.hid hL7
  have HR7 := Lib.hid ((kk.block _ (lt_of_block HR6.out) (by simp; omega)).trans HR6.out)
  have HA7 := Lib.hid ((kk.block _ (lt_of_block HA6.out) (by simp; omega)).trans HA6.out)
  have K7 := Lib.hid (K6.out.trans kk)
  have ST7 := Lib.hid (ST6.out.text hh1 hh2)
  clear hL7 kk hh1 hh2
  go_wp2_with fail
  refine (rnumber X S7 b7 _ H7.out (by omega)).mono ?_
  rintro e w8 ⟨y, rfl, S8, b8, hL8, hl8, hh1, hh2, kk⟩
  have HQ8 := Lib.hid (ST7.out.step (x := y) hh1 hh2)
  have h08 := Lib.hid hL8
  have hr0 := (kk.block _ (lt_of_block HR7.out) (by simp; omega)).trans HR7.out
  have ha0 := (kk.block _ (lt_of_block HA7.out) (by simp; omega)).trans HA7.out
  have k0 := K7.out.trans kk
  have cR : w8.cell? ⟨w.heap.size + 1, 3, none⟩ = some (.int .i64 0) := by rw [Lib.cell_of_heap hr0]; rfl
  have fR : w8.frozen? ⟨w.heap.size + 1, 3, none⟩ = false := Lib.frozen_of_heap hr0 _
  have H8 : Hid (LnIs (w8.setCell ⟨w.heap.size + 1, 3, none⟩ (.int .i64 y)) X S8 b8) := Lib.hid (by unfold LnIs; rw [Below.heap_setCell _ _ _ _ (show X ≠ w.heap.size + 1 by omega)]; exact hL8)
  have HR8 : Hid ((w8.setCell ⟨w.heap.size + 1, 3, none⟩ (.int .i64 y)).heap[w.heap.size + 1]? = some (.cells #[.string ⟨a.toArray⟩, .string ⟨b.toArray⟩, .int .i64 x, .int .i64 y, .int .i64 0, .bool false] 33 (0, 0))) := Lib.hid (heap_set hr0)
  have HA8 : Hid ((w8.setCell ⟨w.heap.size + 1, 3, none⟩ (.int .i64 y)).heap[w.heap.size]? = some (.cells #[.string ⟨#[]⟩, .string ⟨#[]⟩, .int .i64 0, .int .i64 0, .int .i64 0, .bool false] 33 (0, 0))) := Lib.hid (by rw [Below.heap_setCell _ _ _ _ (show w.heap.size ≠ w.heap.size + 1 by omega)]; exact ha0)
  have K8 : Hid (Kp w (w8.setCell ⟨w.heap.size + 1, 3, none⟩ (.int .i64 y)) (some X)) := Lib.hid (Kp.of_own k0 ((Kp.refl _ (some (w.heap.size + 1))).set _) (by omega))
  have ST8 := HQ8
  clear hr0 ha0 k0 hL8 kk hh1 hh2 HQ8 h08
  go_wp2_with fail
  clear cR fR
  refine (rtext X S8 [32] b8 _ H8.out).mono ?_
  rintro e w9 ⟨rfl, S9, b9, hL9, hl9, hh1, hh2, kk⟩
  have H9 := Lib.hid hL9
  have HR9 := Lib.hid ((kk.block _ (lt_of_block HR8.out) (by simp; omega)).trans HR8.out)
  have HA9 := Lib.hid ((kk.block _ (lt_of_block HA8.out) (by simp; omega)).trans HA8.out)
  have K9 := Lib.hid (K8.out.trans kk)
  have ST9 := Lib.hid (ST8.out.text hh1 hh2)
  clear hL9 kk hh1 hh2
  go_wp2_with fail
  refine (rnumber X S9 b9 _ H9.out (by omega)).mono ?_
  rintro e w10 ⟨t, rfl, S10, b10, hL10, hl10, hh1, hh2, kk⟩
  have HQ10 := Lib.hid (ST9.out.step (x := t) hh1 hh2)
  have h010 := Lib.hid hL10
  have hr0 := (kk.block _ (lt_of_block HR9.out) (by simp; omega)).trans HR9.out
  have ha0 := (kk.block _ (lt_of_block HA9.out) (by simp; omega)).trans HA9.out
  have k0 := K9.out.trans kk
  have cR : w10.cell? ⟨w.heap.size + 1, 4, none⟩ = some (.int .i64 0) := by rw [Lib.cell_of_heap hr0]; rfl
  have fR : w10.frozen? ⟨w.heap.size + 1, 4, none⟩ = false := Lib.frozen_of_heap hr0 _
  have H10 : Hid (LnIs (w10.setCell ⟨w.heap.size + 1, 4, none⟩ (.int .i64 t)) X S10 b10) := Lib.hid (by unfold LnIs; rw [Below.heap_setCell _ _ _ _ (show X ≠ w.heap.size + 1 by omega)]; exact hL10)
  have HR10 : Hid ((w10.setCell ⟨w.heap.size + 1, 4, none⟩ (.int .i64 t)).heap[w.heap.size + 1]? = some (.cells #[.string ⟨a.toArray⟩, .string ⟨b.toArray⟩, .int .i64 x, .int .i64 y, .int .i64 t, .bool false] 33 (0, 0))) := Lib.hid (heap_set hr0)
  have HA10 : Hid ((w10.setCell ⟨w.heap.size + 1, 4, none⟩ (.int .i64 t)).heap[w.heap.size]? = some (.cells #[.string ⟨#[]⟩, .string ⟨#[]⟩, .int .i64 0, .int .i64 0, .int .i64 0, .bool false] 33 (0, 0))) := Lib.hid (by rw [Below.heap_setCell _ _ _ _ (show w.heap.size ≠ w.heap.size + 1 by omega)]; exact ha0)
  have K10 : Hid (Kp w (w10.setCell ⟨w.heap.size + 1, 4, none⟩ (.int .i64 t)) (some X)) := Lib.hid (Kp.of_own k0 ((Kp.refl _ (some (w.heap.size + 1))).set _) (by omega))
  have ST10 := HQ10
  clear hr0 ha0 k0 hL10 kk hh1 hh2 HQ10 h010
  have d0 := H10.out.c0
  obtain ⟨u, hu⟩ : ∃ u, decide (S10 = 32 :: Li.side true ++ [10]) = u := ⟨_, rfl⟩
  have hbu : (S10 == [32, 98, 111, 116, 116, 111, 109, 10]) = u := by rw [← hu]; exact beq_dc _ _
  have HU := Lib.hid hu
  clear hu
  have cQ : (w10.setCell ⟨w.heap.size + 1, 4, none⟩ (.int .i64 t)).cell? ⟨w.heap.size + 1, 5, none⟩ = some (.bool false) := by rw [Lib.cell_of_heap HR10.out]; rfl
  have fQ : (w10.setCell ⟨w.heap.size + 1, 4, none⟩ (.int .i64 t)).frozen? ⟨w.heap.size + 1, 5, none⟩ = false := Lib.frozen_of_heap HR10.out _
  have HA11 : Hid (((w10.setCell ⟨w.heap.size + 1, 4, none⟩ (.int .i64 t)).setCell ⟨w.heap.size + 1, 5, none⟩ (.bool u)).heap[w.heap.size]? = some (.cells #[.string ⟨#[]⟩, .string ⟨#[]⟩, .int .i64 0, .int .i64 0, .int .i64 0, .bool false] 33 (0, 0))) := Lib.hid (by rw [Below.heap_setCell _ _ _ _ (show w.heap.size ≠ w.heap.size + 1 by omega)]; exact HA10.out)
  have HR11 : Hid (((w10.setCell ⟨w.heap.size + 1, 4, none⟩ (.int .i64 t)).setCell ⟨w.heap.size + 1, 5, none⟩ (.bool u)).heap[w.heap.size + 1]? = some (.cells #[.string ⟨a.toArray⟩, .string ⟨b.toArray⟩, .int .i64 x, .int .i64 y, .int .i64 t, .bool u] 33 (0, 0))) := Lib.hid (heap_set HR10.out)
  have cU : ((w10.setCell ⟨w.heap.size + 1, 4, none⟩ (.int .i64 t)).setCell ⟨w.heap.size + 1, 5, none⟩ (.bool u)).cell? ⟨w.heap.size + 1, 5, none⟩ = some (.bool u) := by rw [Lib.cell_of_heap HR11.out]; rfl
  have H11 : Hid (LnIs ((w10.setCell ⟨w.heap.size + 1, 4, none⟩ (.int .i64 t)).setCell ⟨w.heap.size + 1, 5, none⟩ (.bool u)) X S10 b10) := Lib.hid (by unfold LnIs; rw [Below.heap_setCell _ _ _ _ (show X ≠ w.heap.size + 1 by omega)]; exact H10.out)
  have K11 : Hid (Kp w ((w10.setCell ⟨w.heap.size + 1, 4, none⟩ (.int .i64 t)).setCell ⟨w.heap.size + 1, 5, none⟩ (.bool u)) (some X)) := Lib.hid (Kp.of_own K10.out ((Kp.refl _ (some (w.heap.size + 1))).set _) (by omega))
  cases u
  · go_wp2_with fail
    clear cQ fQ cU hbu d0
    refine (rtext X S10 [32, 116, 111, 112, 10] b10 _ H11.out).mono ?_
    rintro e w12 ⟨rfl, S12, b12, hL12, hl12, hh1, hh2, kk⟩
    have H12 := Lib.hid hL12
    have HR12 := Lib.hid ((kk.block _ (lt_of_block HR11.out) (by simp; omega)).trans HR11.out)
    have HA12 := Lib.hid ((kk.block _ (lt_of_block HA11.out) (by simp; omega)).trans HA11.out)
    have K12 := Lib.hid (K11.out.trans kk)
    have HF : Hid (match Li.rowF S with | some fs => fs = [.s a, .s b, .i x, .i y, .i t, .b false] ∧ S12 = [] ∧ b12 = false | none => b12 = true ∨ S12 ≠ []) := Lib.hid (side_no ST10.out (of_decide_eq_false HU.out) hh1 hh2)
    clear hL12 kk hh1 hh2
    have e0 : w12.cell? ⟨w.heap.size + 1, 0, none⟩ = some (.string ⟨a.toArray⟩) := by rw [Lib.cell_of_heap HR12.out]; rfl
    have e1 : w12.cell? ⟨w.heap.size + 1, 1, none⟩ = some (.string ⟨b.toArray⟩) := by rw [Lib.cell_of_heap HR12.out]; rfl
    have e2 : w12.cell? ⟨w.heap.size + 1, 2, none⟩ = some (.int .i64 x) := by rw [Lib.cell_of_heap HR12.out]; rfl
    have e3 : w12.cell? ⟨w.heap.size + 1, 3, none⟩ = some (.int .i64 y) := by rw [Lib.cell_of_heap HR12.out]; rfl
    have e4 : w12.cell? ⟨w.heap.size + 1, 4, none⟩ = some (.int .i64 t) := by rw [Lib.cell_of_heap HR12.out]; rfl
    have e5 : w12.cell? ⟨w.heap.size + 1, 5, none⟩ = some (.bool false) := by rw [Lib.cell_of_heap HR12.out]; rfl
    have z0 : w12.cell? ⟨w.heap.size, 0, none⟩ = some (.string ⟨#[]⟩) := by rw [Lib.cell_of_heap HA12.out]; rfl
    have z1 : w12.cell? ⟨w.heap.size, 1, none⟩ = some (.string ⟨#[]⟩) := by rw [Lib.cell_of_heap HA12.out]; rfl
    have z2 : w12.cell? ⟨w.heap.size, 2, none⟩ = some (.int .i64 0) := by rw [Lib.cell_of_heap HA12.out]; rfl
    have z3 : w12.cell? ⟨w.heap.size, 3, none⟩ = some (.int .i64 0) := by rw [Lib.cell_of_heap HA12.out]; rfl
    have z4 : w12.cell? ⟨w.heap.size, 4, none⟩ = some (.int .i64 0) := by rw [Lib.cell_of_heap HA12.out]; rfl
    have z5 : w12.cell? ⟨w.heap.size, 5, none⟩ = some (.bool false) := by rw [Lib.cell_of_heap HA12.out]; rfl
    have f0 : w12.frozen? ⟨w.heap.size, 0, none⟩ = false := Lib.frozen_of_heap HA12.out _
    have f1 : w12.frozen? ⟨w.heap.size, 1, none⟩ = false := Lib.frozen_of_heap HA12.out _
    have f2 : w12.frozen? ⟨w.heap.size, 2, none⟩ = false := Lib.frozen_of_heap HA12.out _
    have f3 : w12.frozen? ⟨w.heap.size, 3, none⟩ = false := Lib.frozen_of_heap HA12.out _
    have f4 : w12.frozen? ⟨w.heap.size, 4, none⟩ = false := Lib.frozen_of_heap HA12.out _
    have f5 : w12.frozen? ⟨w.heap.size, 5, none⟩ = false := Lib.frozen_of_heap HA12.out _
    go_wp2_with fail
    have hF := set6 HA12.out (.string ⟨a.toArray⟩) (.string ⟨b.toArray⟩) (.int .i64 x) (.int .i64 y) (.int .i64 t) (.bool false)
    have k6 : Kp w12 ((((((w12.setCell ⟨w.heap.size, 0, none⟩ (.string ⟨a.toArray⟩)).setCell ⟨w.heap.size, 1, none⟩ (.string ⟨b.toArray⟩)).setCell ⟨w.heap.size, 2, none⟩ (.int .i64 x)).setCell ⟨w.heap.size, 3, none⟩ (.int .i64 y)).setCell ⟨w.heap.size, 4, none⟩ (.int .i64 t)).setCell ⟨w.heap.size, 5, none⟩ (.bool false)) (some w.heap.size) := ((((((Kp.refl _ (some w.heap.size)).set _).set _).set _).set _).set _).set _
    have q0 : ((((((w12.setCell ⟨w.heap.size, 0, none⟩ (.string ⟨a.toArray⟩)).setCell ⟨w.heap.size, 1, none⟩ (.string ⟨b.toArray⟩)).setCell ⟨w.heap.size, 2, none⟩ (.int .i64 x)).setCell ⟨w.heap.size, 3, none⟩ (.int .i64 y)).setCell ⟨w.heap.size, 4, none⟩ (.int .i64 t)).setCell ⟨w.heap.size, 5, none⟩ (.bool false)).cell? ⟨w.heap.size, 0, none⟩ = some (.string ⟨a.toArray⟩) := by rw [Lib.cell_of_heap hF]; rfl
    have q1 : ((((((w12.setCell ⟨w.heap.size, 0, none⟩ (.string ⟨a.toArray⟩)).setCell ⟨w.heap.size, 1, none⟩ (.string ⟨b.toArray⟩)).setCell ⟨w.heap.size, 2, none⟩ (.int .i64 x)).setCell ⟨w.heap.size, 3, none⟩ (.int .i64 y)).setCell ⟨w.heap.size, 4, none⟩ (.int .i64 t)).setCell ⟨w.heap.size, 5, none⟩ (.bool false)).cell? ⟨w.heap.size, 1, none⟩ = some (.string ⟨b.toArray⟩) := by rw [Lib.cell_of_heap hF]; rfl
    have q2 : ((((((w12.setCell ⟨w.heap.size, 0, none⟩ (.string ⟨a.toArray⟩)).setCell ⟨w.heap.size, 1, none⟩ (.string ⟨b.toArray⟩)).setCell ⟨w.heap.size, 2, none⟩ (.int .i64 x)).setCell ⟨w.heap.size, 3, none⟩ (.int .i64 y)).setCell ⟨w.heap.size, 4, none⟩ (.int .i64 t)).setCell ⟨w.heap.size, 5, none⟩ (.bool false)).cell? ⟨w.heap.size, 2, none⟩ = some (.int .i64 x) := by rw [Lib.cell_of_heap hF]; rfl
    have q3 : ((((((w12.setCell ⟨w.heap.size, 0, none⟩ (.string ⟨a.toArray⟩)).setCell ⟨w.heap.size, 1, none⟩ (.string ⟨b.toArray⟩)).setCell ⟨w.heap.size, 2, none⟩ (.int .i64 x)).setCell ⟨w.heap.size, 3, none⟩ (.int .i64 y)).setCell ⟨w.heap.size, 4, none⟩ (.int .i64 t)).setCell ⟨w.heap.size, 5, none⟩ (.bool false)).cell? ⟨w.heap.size, 3, none⟩ = some (.int .i64 y) := by rw [Lib.cell_of_heap hF]; rfl
    have q4 : ((((((w12.setCell ⟨w.heap.size, 0, none⟩ (.string ⟨a.toArray⟩)).setCell ⟨w.heap.size, 1, none⟩ (.string ⟨b.toArray⟩)).setCell ⟨w.heap.size, 2, none⟩ (.int .i64 x)).setCell ⟨w.heap.size, 3, none⟩ (.int .i64 y)).setCell ⟨w.heap.size, 4, none⟩ (.int .i64 t)).setCell ⟨w.heap.size, 5, none⟩ (.bool false)).cell? ⟨w.heap.size, 4, none⟩ = some (.int .i64 t) := by rw [Lib.cell_of_heap hF]; rfl
    have q5 : ((((((w12.setCell ⟨w.heap.size, 0, none⟩ (.string ⟨a.toArray⟩)).setCell ⟨w.heap.size, 1, none⟩ (.string ⟨b.toArray⟩)).setCell ⟨w.heap.size, 2, none⟩ (.int .i64 x)).setCell ⟨w.heap.size, 3, none⟩ (.int .i64 y)).setCell ⟨w.heap.size, 4, none⟩ (.int .i64 t)).setCell ⟨w.heap.size, 5, none⟩ (.bool false)).cell? ⟨w.heap.size, 5, none⟩ = some (.bool false) := by rw [Lib.cell_of_heap hF]; rfl
    refine bodyPost_ret (v := .agg #[.string ⟨a.toArray⟩, .string ⟨b.toArray⟩, .int .i64 x, .int .i64 y, .int .i64 t, .bool false]) ?_ rfl ⟨a, b, x, y, t, false, S12, b12, rfl, H12.out.keep k6 (by simp; omega), by omega, HF.out, Kp.of_own K12.out k6 (Nat.le_refl _)⟩
    simp [results, Tryd.results32, go_sem, q0, q1, q2, q3, q4, q5]
  · go_wp2_with fail
    clear cQ fQ cU hbu d0
    refine (rtext X S10 [32, 98, 111, 116, 116, 111, 109, 10] b10 _ H11.out).mono ?_
    rintro e w12 ⟨rfl, S12, b12, hL12, hl12, hh1, hh2, kk⟩
    have H12 := Lib.hid hL12
    have HR12 := Lib.hid ((kk.block _ (lt_of_block HR11.out) (by simp; omega)).trans HR11.out)
    have HA12 := Lib.hid ((kk.block _ (lt_of_block HA11.out) (by simp; omega)).trans HA11.out)
    have K12 := Lib.hid (K11.out.trans kk)
    have HF : Hid (match Li.rowF S with | some fs => fs = [.s a, .s b, .i x, .i y, .i t, .b true] ∧ S12 = [] ∧ b12 = false | none => b12 = true ∨ S12 ≠ []) := Lib.hid (side_yes ST10.out (of_decide_eq_true HU.out) hh1 hh2)
    clear hL12 kk hh1 hh2
    have e0 : w12.cell? ⟨w.heap.size + 1, 0, none⟩ = some (.string ⟨a.toArray⟩) := by rw [Lib.cell_of_heap HR12.out]; rfl
    have e1 : w12.cell? ⟨w.heap.size + 1, 1, none⟩ = some (.string ⟨b.toArray⟩) := by rw [Lib.cell_of_heap HR12.out]; rfl
    have e2 : w12.cell? ⟨w.heap.size + 1, 2, none⟩ = some (.int .i64 x) := by rw [Lib.cell_of_heap HR12.out]; rfl
    have e3 : w12.cell? ⟨w.heap.size + 1, 3, none⟩ = some (.int .i64 y) := by rw [Lib.cell_of_heap HR12.out]; rfl
    have e4 : w12.cell? ⟨w.heap.size + 1, 4, none⟩ = some (.int .i64 t) := by rw [Lib.cell_of_heap HR12.out]; rfl
    have e5 : w12.cell? ⟨w.heap.size + 1, 5, none⟩ = some (.bool true) := by rw [Lib.cell_of_heap HR12.out]; rfl
    have z0 : w12.cell? ⟨w.heap.size, 0, none⟩ = some (.string ⟨#[]⟩) := by rw [Lib.cell_of_heap HA12.out]; rfl
    have z1 : w12.cell? ⟨w.heap.size, 1, none⟩ = some (.string ⟨#[]⟩) := by rw [Lib.cell_of_heap HA12.out]; rfl
    have z2 : w12.cell? ⟨w.heap.size, 2, none⟩ = some (.int .i64 0) := by rw [Lib.cell_of_heap HA12.out]; rfl
    have z3 : w12.cell? ⟨w.heap.size, 3, none⟩ = some (.int .i64 0) := by rw [Lib.cell_of_heap HA12.out]; rfl
    have z4 : w12.cell? ⟨w.heap.size, 4, none⟩ = some (.int .i64 0) := by rw [Lib.cell_of_heap HA12.out]; rfl
    have z5 : w12.cell? ⟨w.heap.size, 5, none⟩ = some (.bool false) := by rw [Lib.cell_of_heap HA12.out]; rfl
    have f0 : w12.frozen? ⟨w.heap.size, 0, none⟩ = false := Lib.frozen_of_heap HA12.out _
    have f1 : w12.frozen? ⟨w.heap.size, 1, none⟩ = false := Lib.frozen_of_heap HA12.out _
    have f2 : w12.frozen? ⟨w.heap.size, 2, none⟩ = false := Lib.frozen_of_heap HA12.out _
    have f3 : w12.frozen? ⟨w.heap.size, 3, none⟩ = false := Lib.frozen_of_heap HA12.out _
    have f4 : w12.frozen? ⟨w.heap.size, 4, none⟩ = false := Lib.frozen_of_heap HA12.out _
    have f5 : w12.frozen? ⟨w.heap.size, 5, none⟩ = false := Lib.frozen_of_heap HA12.out _
    go_wp2_with fail
    have hF := set6 HA12.out (.string ⟨a.toArray⟩) (.string ⟨b.toArray⟩) (.int .i64 x) (.int .i64 y) (.int .i64 t) (.bool true)
    have k6 : Kp w12 ((((((w12.setCell ⟨w.heap.size, 0, none⟩ (.string ⟨a.toArray⟩)).setCell ⟨w.heap.size, 1, none⟩ (.string ⟨b.toArray⟩)).setCell ⟨w.heap.size, 2, none⟩ (.int .i64 x)).setCell ⟨w.heap.size, 3, none⟩ (.int .i64 y)).setCell ⟨w.heap.size, 4, none⟩ (.int .i64 t)).setCell ⟨w.heap.size, 5, none⟩ (.bool true)) (some w.heap.size) := ((((((Kp.refl _ (some w.heap.size)).set _).set _).set _).set _).set _).set _
    have q0 : ((((((w12.setCell ⟨w.heap.size, 0, none⟩ (.string ⟨a.toArray⟩)).setCell ⟨w.heap.size, 1, none⟩ (.string ⟨b.toArray⟩)).setCell ⟨w.heap.size, 2, none⟩ (.int .i64 x)).setCell ⟨w.heap.size, 3, none⟩ (.int .i64 y)).setCell ⟨w.heap.size, 4, none⟩ (.int .i64 t)).setCell ⟨w.heap.size, 5, none⟩ (.bool true)).cell? ⟨w.heap.size, 0, none⟩ = some (.string ⟨a.toArray⟩) := by rw [Lib.cell_of_heap hF]; rfl
    have q1 : ((((((w12.setCell ⟨w.heap.size, 0, none⟩ (.string ⟨a.toArray⟩)).setCell ⟨w.heap.size, 1, none⟩ (.string ⟨b.toArray⟩)).setCell ⟨w.heap.size, 2, none⟩ (.int .i64 x)).setCell ⟨w.heap.size, 3, none⟩ (.int .i64 y)).setCell ⟨w.heap.size, 4, none⟩ (.int .i64 t)).setCell ⟨w.heap.size, 5, none⟩ (.bool true)).cell? ⟨w.heap.size, 1, none⟩ = some (.string ⟨b.toArray⟩) := by rw [Lib.cell_of_heap hF]; rfl
    have q2 : ((((((w12.setCell ⟨w.heap.size, 0, none⟩ (.string ⟨a.toArray⟩)).setCell ⟨w.heap.size, 1, none⟩ (.string ⟨b.toArray⟩)).setCell ⟨w.heap.size, 2, none⟩ (.int .i64 x)).setCell ⟨w.heap.size, 3, none⟩ (.int .i64 y)).setCell ⟨w.heap.size, 4, none⟩ (.int .i64 t)).setCell ⟨w.heap.size, 5, none⟩ (.bool true)).cell? ⟨w.heap.size, 2, none⟩ = some (.int .i64 x) := by rw [Lib.cell_of_heap hF]; rfl
    have q3 : ((((((w12.setCell ⟨w.heap.size, 0, none⟩ (.string ⟨a.toArray⟩)).setCell ⟨w.heap.size, 1, none⟩ (.string ⟨b.toArray⟩)).setCell ⟨w.heap.size, 2, none⟩ (.int .i64 x)).setCell ⟨w.heap.size, 3, none⟩ (.int .i64 y)).setCell ⟨w.heap.size, 4, none⟩ (.int .i64 t)).setCell ⟨w.heap.size, 5, none⟩ (.bool true)).cell? ⟨w.heap.size, 3, none⟩ = some (.int .i64 y) := by rw [Lib.cell_of_heap hF]; rfl
    have q4 : ((((((w12.setCell ⟨w.heap.size, 0, none⟩ (.string ⟨a.toArray⟩)).setCell ⟨w.heap.size, 1, none⟩ (.string ⟨b.toArray⟩)).setCell ⟨w.heap.size, 2, none⟩ (.int .i64 x)).setCell ⟨w.heap.size, 3, none⟩ (.int .i64 y)).setCell ⟨w.heap.size, 4, none⟩ (.int .i64 t)).setCell ⟨w.heap.size, 5, none⟩ (.bool true)).cell? ⟨w.heap.size, 4, none⟩ = some (.int .i64 t) := by rw [Lib.cell_of_heap hF]; rfl
    have q5 : ((((((w12.setCell ⟨w.heap.size, 0, none⟩ (.string ⟨a.toArray⟩)).setCell ⟨w.heap.size, 1, none⟩ (.string ⟨b.toArray⟩)).setCell ⟨w.heap.size, 2, none⟩ (.int .i64 x)).setCell ⟨w.heap.size, 3, none⟩ (.int .i64 y)).setCell ⟨w.heap.size, 4, none⟩ (.int .i64 t)).setCell ⟨w.heap.size, 5, none⟩ (.bool true)).cell? ⟨w.heap.size, 5, none⟩ = some (.bool true) := by rw [Lib.cell_of_heap hF]; rfl
    refine bodyPost_ret (v := .agg #[.string ⟨a.toArray⟩, .string ⟨b.toArray⟩, .int .i64 x, .int .i64 y, .int .i64 t, .bool true]) ?_ rfl ⟨a, b, x, y, t, true, S12, b12, rfl, H12.out.keep k6 (by simp; omega), by omega, HF.out, Kp.of_own K12.out k6 (Nat.le_refl _)⟩
    simp [results, Tryd.results32, go_sem, q0, q1, q2, q3, q4, q5]

end Go.Proofs.YtldjhjbodhhnbaaDoor
