/- The reference's line: a test point. Condition: the line is shorter than 2^20 bytes. -/
import Derived.Test.YtldjhjbodhhnbaaDoorRl
namespace Go.Proofs.YtldjhjbodhhnbaaDoor
open Go.RowKit

def FinIs (F : Option (List Li.Fld)) (fs : List Li.Fld) (S' : List UInt8) (bd : Bool) : Prop := match F with | some fs' => fs' = fs ∧ S' = [] ∧ bd = false | none => bd = true ∨ S' ≠ []
theorem lf_end {F : Option (List Li.Fld)} {fs : List Li.Fld} {S S2 : List UInt8} {bd b2 : Bool} (h : Stand F (fun S => if S = [10] then some fs else none) S bd)
    (h1 : b2 = false → bd = false ∧ Li.textF [10] S = some S2) (h2 : b2 = true → bd = true ∨ Li.textF [10] S = none) : FinIs F fs S2 b2 := by
  cases hb : b2
  · obtain ⟨e1, e2⟩ := h1 hb
    have hS := Li.textF_some.1 e2
    rw [show F = (if S = [10] then some fs else none) from h.1 e1]
    cases S2 with
    | nil => rw [if_pos (by rw [hS]; rfl)]; exact ⟨rfl, rfl, rfl⟩
    | cons c r => rw [if_neg (by rw [hS]; simp)]; exact .inr (by simp)
  · have : F = none := by
      cases hbd : bd
      · rcases h2 hb with e | e
        · rw [hbd] at e; cases e
        · rw [show F = (if S = [10] then some fs else none) from h.1 hbd]
          exact if_neg (fun e3 => by rw [e3] at e; simp [Li.textF] at e)
      · exact h.2 hbd
    rw [this]; exact .inl rfl
def ProbeEnds (w : World) (X : Nat) (F : Option (List Li.Fld)) (E : Ending) (w' : World) : Prop :=
  ∃ (c : Int) (a b : List UInt8) (x y t : Int) (S' : List UInt8) (bd : Bool), E = .returned (.agg #[.int .i64 c, .string ⟨a.toArray⟩, .string ⟨b.toArray⟩, .int .i64 x, .int .i64 y, .int .i64 t]) ∧ LnIs w' X S' bd ∧ S'.length < 1048576 ∧
    FinIs F [.i c, .s a, .s b, .i x, .i y, .i t] S' bd ∧ Kp w w' (some X)
set_option maxHeartbeats 8000000 in
set_option maxRecDepth 100000 in
theorem rprobe_any (X : Nat) (S : List UInt8) (w : World) (h : LnIs w X S false) (hS : S.length < 1048576) : Calls Tryd.prog 34 #[.pointer (some ⟨X, 0, none⟩)] w (ProbeEnds w X (Li.probeF S)) := by
  have H0 := Lib.hid (h.keep (((Kp.refl w none).alloc (.cells #[.int .i64 0, .string ⟨#[]⟩, .string ⟨#[]⟩, .int .i64 0, .int .i64 0, .int .i64 0] 54)).alloc (.cells #[.int .i64 0, .string ⟨#[]⟩, .string ⟨#[]⟩, .int .i64 0, .int .i64 0, .int .i64 0] 54)) (by simp))
  have HR0 : Hid (((w.alloc (.cells #[.int .i64 0, .string ⟨#[]⟩, .string ⟨#[]⟩, .int .i64 0, .int .i64 0, .int .i64 0] 54)).alloc (.cells #[.int .i64 0, .string ⟨#[]⟩, .string ⟨#[]⟩, .int .i64 0, .int .i64 0, .int .i64 0] 54)).heap[w.heap.size + 1]? = some (.cells #[.int .i64 0, .string ⟨#[]⟩, .string ⟨#[]⟩, .int .i64 0, .int .i64 0, .int .i64 0] 54 (0, 0))) := Lib.hid (heap_newB w _ _)
  have HA0 : Hid (((w.alloc (.cells #[.int .i64 0, .string ⟨#[]⟩, .string ⟨#[]⟩, .int .i64 0, .int .i64 0, .int .i64 0] 54)).alloc (.cells #[.int .i64 0, .string ⟨#[]⟩, .string ⟨#[]⟩, .int .i64 0, .int .i64 0, .int .i64 0] 54)).heap[w.heap.size]? = some (.cells #[.int .i64 0, .string ⟨#[]⟩, .string ⟨#[]⟩, .int .i64 0, .int .i64 0, .int .i64 0] 54 (0, 0))) := Lib.hid (alloc_keepsB (heap_alloc_new w _))
  have K0 : Hid (Kp w ((w.alloc (.cells #[.int .i64 0, .string ⟨#[]⟩, .string ⟨#[]⟩, .int .i64 0, .int .i64 0, .int .i64 0] 54)).alloc (.cells #[.int .i64 0, .string ⟨#[]⟩, .string ⟨#[]⟩, .int .i64 0, .int .i64 0, .int .i64 0] 54)) (some X)) := Lib.hid ((((Kp.refl w none).alloc _).alloc _).weak _)
  have ST0 : Hid (Stand (Li.probeF S) Li.probeF S false) := Lib.hid ⟨fun _ => rfl, fun e => by cases e⟩
  have hXl : X < w.heap.size := lt_of_block h
  have hl0 : S.length ≤ S.length := Nat.le_refl _
  clear h
  go_enter Tryd.func34, Tryd.ntmps34
  go_wp2_with fail
  refine (rtext X S [112, 114, 111, 98, 101, 32] false _ H0.out).mono ?_
  rintro e w1 ⟨rfl, S1, b1, hL1, hl1, hh1, hh2, kk⟩
  have H1 := Lib.hid hL1
  have HR1 := Lib.hid ((kk.block _ (lt_of_block HR0.out) (by simp; omega)).trans HR0.out)
  have HA1 := Lib.hid ((kk.block _ (lt_of_block HA0.out) (by simp; omega)).trans HA0.out)
  have K1 := Lib.hid (K0.out.trans kk)
  have ST1 := Lib.hid (ST0.out.text hh1 hh2)
  clear hL1 kk hh1 hh2
  go_wp2_with fail
  refine (rnumber X S1 b1 _ H1.out (by omega)).mono ?_
  rintro e w2 ⟨c, rfl, S2, b2, hL2, hl2, hh1, hh2, kk⟩
  have HQ2 := Lib.hid (ST1.out.step (x := c) hh1 hh2)
  have h02 := Lib.hid hL2
  have hr0 := (kk.block _ (lt_of_block HR1.out) (by simp; omega)).trans HR1.out
  have ha0 := (kk.block _ (lt_of_block HA1.out) (by simp; omega)).trans HA1.out
  have k0 := K1.out.trans kk
  have cR : w2.cell? ⟨w.heap.size + 1, 0, none⟩ = some (.int .i64 0) := by rw [Lib.cell_of_heap hr0]; rfl
  have fR : w2.frozen? ⟨w.heap.size + 1, 0, none⟩ = false := Lib.frozen_of_heap hr0 _
  have H2 : Hid (LnIs (w2.setCell ⟨w.heap.size + 1, 0, none⟩ (.int .i64 c)) X S2 b2) := Lib.hid (by unfold LnIs; rw [Below.heap_setCell _ _ _ _ (show X ≠ w.heap.size + 1 by omega)]; exact hL2)
  have HR2 : Hid ((w2.setCell ⟨w.heap.size + 1, 0, none⟩ (.int .i64 c)).heap[w.heap.size + 1]? = some (.cells #[.int .i64 c, .string ⟨#[]⟩, .string ⟨#[]⟩, .int .i64 0, .int .i64 0, .int .i64 0] 54 (0, 0))) := Lib.hid (heap_set hr0)
  have HA2 : Hid ((w2.setCell ⟨w.heap.size + 1, 0, none⟩ (.int .i64 c)).heap[w.heap.size]? = some (.cells #[.int .i64 0, .string ⟨#[]⟩, .string ⟨#[]⟩, .int .i64 0, .int .i64 0, .int .i64 0] 54 (0, 0))) := Lib.hid (by rw [Below.heap_setCell _ _ _ _ (show w.heap.size ≠ w.heap.size + 1 by omega)]; exact ha0)
  have K2 : Hid (Kp w (w2.setCell ⟨w.heap.size + 1, 0, none⟩ (.int .i64 c)) (some X)) := Lib.hid (Kp.of_own k0 ((Kp.refl _ (some (w.heap.size + 1))).set _) (by omega))
  have ST2 := HQ2
  clear hr0 ha0 k0 hL2 kk hh1 hh2 HQ2 h02
  go_wp2_with fail
  clear cR fR
  refine (rtext X S2 [32] b2 _ H2.out).mono ?_
  rintro e w3 ⟨rfl, S3, b3, hL3, hl3, hh1, hh2, kk⟩
  have H3 := Lib.hid hL3
  have HR3 := Lib.hid ((kk.block _ (lt_of_block HR2.out) (by simp; omega)).trans HR2.out)
  have HA3 := Lib.hid ((kk.block _ (lt_of_block HA2.out) (by simp; omega)).trans HA2.out)
  have K3 := Lib.hid (K2.out.trans kk)
  have ST3 := Lib.hid (ST2.out.text hh1 hh2)
  clear hL3 kk hh1 hh2
  go_wp2_with fail
  refine (rword X S3 b3 _ H3.out (by omega)).mono ?_
  rintro e w4 ⟨a, rfl, S4, b4, hL4, hl4, hh1, hh2, kk⟩
  have HQ4 := Lib.hid (ST3.out.step (x := a) hh1 hh2)
  have h04 := Lib.hid hL4
  have hr0 := (kk.block _ (lt_of_block HR3.out) (by simp; omega)).trans HR3.out
  have ha0 := (kk.block _ (lt_of_block HA3.out) (by simp; omega)).trans HA3.out
  have k0 := K3.out.trans kk
  have cR : w4.cell? ⟨w.heap.size + 1, 1, none⟩ = some (.string ⟨#[]⟩) := by rw [Lib.cell_of_heap hr0]; rfl
  have fR : w4.frozen? ⟨w.heap.size + 1, 1, none⟩ = false := Lib.frozen_of_heap hr0 _
  have H4 : Hid (LnIs (w4.setCell ⟨w.heap.size + 1, 1, none⟩ (.string ⟨a.toArray⟩)) X S4 b4) := Lib.hid (by unfold LnIs; rw [Below.heap_setCell _ _ _ _ (show X ≠ w.heap.size + 1 by omega)]; exact hL4)
  have HR4 : Hid ((w4.setCell ⟨w.heap.size + 1, 1, none⟩ (.string ⟨a.toArray⟩)).heap[w.heap.size + 1]? = some (.cells #[.int .i64 c, .string ⟨a.toArray⟩, .string ⟨#[]⟩, .int .i64 0, .int .i64 0, .int .i64 0] 54 (0, 0))) := Lib.hid (heap_set hr0)
  have HA4 : Hid ((w4.setCell ⟨w.heap.size + 1, 1, none⟩ (.string ⟨a.toArray⟩)).heap[w.heap.size]? = some (.cells #[.int .i64 0, .string ⟨#[]⟩, .string ⟨#[]⟩, .int .i64 0, .int .i64 0, .int .i64 0] 54 (0, 0))) := Lib.hid (by rw [Below.heap_setCell _ _ _ _ (show w.heap.size ≠ w.heap.size + 1 by omega)]; exact ha0)
  have K4 : Hid (Kp w (w4.setCell ⟨w.heap.size + 1, 1, none⟩ (.string ⟨a.toArray⟩)) (some X)) := Lib.hid (Kp.of_own k0 ((Kp.refl _ (some (w.heap.size + 1))).set _) (by omega))
  have ST4 := HQ4
  clear hr0 ha0 k0 hL4 kk hh1 hh2 HQ4 h04
  go_wp2_with fail
  clear cR fR
  refine (rtext X S4 [32] b4 _ H4.out).mono ?_
  rintro e w5 ⟨rfl, S5, b5, hL5, hl5, hh1, hh2, kk⟩
  have H5 := Lib.hid hL5
  have HR5 := Lib.hid ((kk.block _ (lt_of_block HR4.out) (by simp; omega)).trans HR4.out)
  have HA5 := Lib.hid ((kk.block _ (lt_of_block HA4.out) (by simp; omega)).trans HA4.out)
  have K5 := Lib.hid (K4.out.trans kk)
  have ST5 := Lib.hid (ST4.out.text hh1 hh2)
  clear hL5 kk hh1 hh2
  go_wp2_with fail
  refine (rword X S5 b5 _ H5.out (by omega)).mono ?_
  rintro e w6 ⟨b, rfl, S6, b6, hL6, hl6, hh1, hh2, kk⟩
  have HQ6 := Lib.hid (ST5.out.step (x := b) hh1 hh2)
  have h06 := Lib.hid hL6
  have hr0 := (kk.block _ (lt_of_block HR5.out) (by simp; omega)).trans HR5.out
  have ha0 := (kk.block _ (lt_of_block HA5.out) (by simp; omega)).trans HA5.out
  have k0 := K5.out.trans kk
  have cR : w6.cell? ⟨w.heap.size + 1, 2, none⟩ = some (.string ⟨#[]⟩) := by rw [Lib.cell_of_heap hr0]; rfl
  have fR : w6.frozen? ⟨w.heap.size + 1, 2, none⟩ = false := Lib.frozen_of_heap hr0 _
  have H6 : Hid (LnIs (w6.setCell ⟨w.heap.size + 1, 2, none⟩ (.string ⟨b.toArray⟩)) X S6 b6) := Lib.hid (by unfold LnIs; rw [Below.heap_setCell _ _ _ _ (show X ≠ w.heap.size + 1 by omega)]; exact hL6)
  have HR6 : Hid ((w6.setCell ⟨w.heap.size + 1, 2, none⟩ (.string ⟨b.toArray⟩)).heap[w.heap.size + 1]? = some (.cells #[.int .i64 c, .string ⟨a.toArray⟩, .string ⟨b.toArray⟩, .int .i64 0, .int .i64 0, .int .i64 0] 54 (0, 0))) := Lib.hid (heap_set hr0)
  have HA6 : Hid ((w6.setCell ⟨w.heap.size + 1, 2, none⟩ (.string ⟨b.toArray⟩)).heap[w.heap.size]? = some (.cells #[.int .i64 0, .string ⟨#[]⟩, .string ⟨#[]⟩, .int .i64 0, .int .i64 0, .int .i64 0] 54 (0, 0))) := Lib.hid (by rw [Below.heap_setCell _ _ _ _ (show w.heap.size ≠ w.heap.size + 1 by omega)]; exact ha0)
  have K6 : Hid (Kp w (w6.setCell ⟨w.heap.size + 1, 2, none⟩ (.string ⟨b.toArray⟩)) (some X)) := Lib.hid (Kp.of_own k0 ((Kp.refl _ (some (w.heap.size + 1))).set _) (by omega))
  have ST6 := HQ6
  clear hr0 ha0 k0 hL6 kk hh1 hh2 HQ6 h06
  go_wp2_with fail
  clear cR fR
  refine (rtext X S6 [32] b6 _ H6.out).mono ?_
  rintro e w7 ⟨rfl, S7, b7, hL7, hl7, hh1, hh2, kk⟩
  have H7 := Lib.hid hL7
  have HR7 := Lib.hid ((kk.block _ (lt_of_block HR6.out) (by simp; omega)).trans HR6.out)
  have HA7 := Lib.hid ((kk.block _ (lt_of_block HA6.out) (by simp; omega)).trans HA6.out)
  have K7 := Lib.hid (K6.out.trans kk)
  have ST7 := Lib.hid (ST6.out.text hh1 hh2)
  clear hL7 kk hh1 hh2
  go_wp2_with fail
  refine (rnumber X S7 b7 _ H7.out (by omega)).mono ?_
  rintro e w8 ⟨x, rfl, S8, b8, hL8, hl8, hh1, hh2, kk⟩
  have HQ8 := Lib.hid (ST7.out.step (x := x) hh1 hh2)
  have h08 := Lib.hid hL8
  have hr0 := (kk.block _ (lt_of_block HR7.out) (by simp; omega)).trans HR7.out
  have ha0 := (kk.block _ (lt_of_block HA7.out) (by simp; omega)).trans HA7.out
  have k0 := K7.out.trans kk
  have cR : w8.cell? ⟨w.heap.size + 1, 3, none⟩ = some (.int .i64 0) := by rw [Lib.cell_of_heap hr0]; rfl
  have fR : w8.frozen? ⟨w.heap.size + 1, 3, none⟩ = false := Lib.frozen_of_heap hr0 _
  have H8 : Hid (LnIs (w8.setCell ⟨w.heap.size + 1, 3, none⟩ (.int .i64 x)) X S8 b8) := Lib.hid (by unfold LnIs; rw [Below.heap_setCell _ _ _ _ (show X ≠ w.heap.size + 1 by omega)]; exact hL8)
  have HR8 : Hid ((w8.setCell ⟨w.heap.size + 1, 3, none⟩ (.int .i64 x)).heap[w.heap.size + 1]? = some (.cells #[.int .i64 c, .string ⟨a.toArray⟩, .string ⟨b.toArray⟩, .int .i64 x, .int .i64 0, .int .i64 0] 54 (0, 0))) := Lib.hid (heap_set hr0)
  have HA8 : Hid ((w8.setCell ⟨w.heap.size + 1, 3, none⟩ (.int .i64 x)).heap[w.heap.size]? = some (.cells #[.int .i64 0, .string ⟨#[]⟩, .string ⟨#[]⟩, .int .i64 0, .int .i64 0, .int .i64 0] 54 (0, 0))) := Lib.hid (by rw [Below.heap_setCell _ _ _ _ (show w.heap.size ≠ w.heap.size + 1 by omega)]; exact ha0)
  have K8 : Hid (Kp w (w8.setCell ⟨w.heap.size + 1, 3, none⟩ (.int .i64 x)) (some X)) := Lib.hid (Kp.of_own k0 ((Kp.refl _ (some (w.heap.size + 1))).set _) (by omega))
  have ST8 := HQ8
  clear hr0 ha0 k0 hL8 kk hh1 hh2 HQ8 h08
  go_wp2_with fail
  clear cR fR
  refine (rtext X S8 [32] b8 _ H8.out).mono ?_
  rintro e w9 ⟨rfl, S9, b9, hL9, hl9, hh1, hh2, kk⟩
  have H9 := Lib.hid hL9
  have HR9 := Lib.hid ((kk.block _ (lt_of_block HR8.out) (by simp; omega)).trans HR8.out)
  have HA9 := Lib.hid ((kk.block _ (lt_of_block HA8.out) (by simp; omega)).trans HA8.out)
  have K9 := Lib.hid (K8.out.trans kk)
  have ST9 := Lib.hid (ST8.out.text hh1 hh2)
  clear hL9 kk hh1 hh2
  go_wp2_with fail
  refine (rnumber X S9 b9 _ H9.out (by omega)).mono ?_
  rintro e w10 ⟨y, rfl, S10, b10, hL10, hl10, hh1, hh2, kk⟩
  have HQ10 := Lib.hid (ST9.out.step (x := y) hh1 hh2)
  have h010 := Lib.hid hL10
  have hr0 := (kk.block _ (lt_of_block HR9.out) (by simp; omega)).trans HR9.out
  have ha0 := (kk.block _ (lt_of_block HA9.out) (by simp; omega)).trans HA9.out
  have k0 := K9.out.trans kk
  have cR : w10.cell? ⟨w.heap.size + 1, 4, none⟩ = some (.int .i64 0) := by rw [Lib.cell_of_heap hr0]; rfl
  have fR : w10.frozen? ⟨w.heap.size + 1, 4, none⟩ = false := Lib.frozen_of_heap hr0 _
  have H10 : Hid (LnIs (w10.setCell ⟨w.heap.size + 1, 4, none⟩ (.int .i64 y)) X S10 b10) := Lib.hid (by unfold LnIs; rw [Below.heap_setCell _ _ _ _ (show X ≠ w.heap.size + 1 by omega)]; exact hL10)
  have HR10 : Hid ((w10.setCell ⟨w.heap.size + 1, 4, none⟩ (.int .i64 y)).heap[w.heap.size + 1]? = some (.cells #[.int .i64 c, .string ⟨a.toArray⟩, .string ⟨b.toArray⟩, .int .i64 x, .int .i64 y, .int .i64 0] 54 (0, 0))) := Lib.hid (heap_set hr0)
  have HA10 : Hid ((w10.setCell ⟨w.heap.size + 1, 4, none⟩ (.int .i64 y)).heap[w.heap.size]? = some (.cells #[.int .i64 0, .string ⟨#[]⟩, .string ⟨#[]⟩, .int .i64 0, .int .i64 0, .int .i64 0] 54 (0, 0))) := Lib.hid (by rw [Below.heap_setCell _ _ _ _ (show w.heap.size ≠ w.heap.size + 1 by omega)]; exact ha0)
  have K10 : Hid (Kp w (w10.setCell ⟨w.heap.size + 1, 4, none⟩ (.int .i64 y)) (some X)) := Lib.hid (Kp.of_own k0 ((Kp.refl _ (some (w.heap.size + 1))).set _) (by omega))
  have ST10 := HQ10
  clear hr0 ha0 k0 hL10 kk hh1 hh2 HQ10 h010
  go_wp2_with fail
  clear cR fR
  refine (rtext X S10 [32] b10 _ H10.out).mono ?_
  rintro e w11 ⟨rfl, S11, b11, hL11, hl11, hh1, hh2, kk⟩
  have H11 := Lib.hid hL11
  have HR11 := Lib.hid ((kk.block _ (lt_of_block HR10.out) (by simp; omega)).trans HR10.out)
  have HA11 := Lib.hid ((kk.block _ (lt_of_block HA10.out) (by simp; omega)).trans HA10.out)
  have K11 := Lib.hid (K10.out.trans kk)
  have ST11 := Lib.hid (ST10.out.text hh1 hh2)
  clear hL11 kk hh1 hh2
  go_wp2_with fail
  refine (rnumber X S11 b11 _ H11.out (by omega)).mono ?_
  rintro e w12 ⟨t, rfl, S12, b12, hL12, hl12, hh1, hh2, kk⟩
  have HQ12 := Lib.hid (ST11.out.step (x := t) hh1 hh2)
  have h012 := Lib.hid hL12
  have hr0 := (kk.block _ (lt_of_block HR11.out) (by simp; omega)).trans HR11.out
  have ha0 := (kk.block _ (lt_of_block HA11.out) (by simp; omega)).trans HA11.out
  have k0 := K11.out.trans kk
  have cR : w12.cell? ⟨w.heap.size + 1, 5, none⟩ = some (.int .i64 0) := by rw [Lib.cell_of_heap hr0]; rfl
  have fR : w12.frozen? ⟨w.heap.size + 1, 5, none⟩ = false := Lib.frozen_of_heap hr0 _
  have H12 : Hid (LnIs (w12.setCell ⟨w.heap.size + 1, 5, none⟩ (.int .i64 t)) X S12 b12) := Lib.hid (by unfold LnIs; rw [Below.heap_setCell _ _ _ _ (show X ≠ w.heap.size + 1 by omega)]; exact hL12)
  have HR12 : Hid ((w12.setCell ⟨w.heap.size + 1, 5, none⟩ (.int .i64 t)).heap[w.heap.size + 1]? = some (.cells #[.int .i64 c, .string ⟨a.toArray⟩, .string ⟨b.toArray⟩, .int .i64 x, .int .i64 y, .int .i64 t] 54 (0, 0))) := Lib.hid (heap_set hr0)
  have HA12 : Hid ((w12.setCell ⟨w.heap.size + 1, 5, none⟩ (.int .i64 t)).heap[w.heap.size]? = some (.cells #[.int .i64 0, .string ⟨#[]⟩, .string ⟨#[]⟩, .int .i64 0, .int .i64 0, .int .i64 0] 54 (0, 0))) := Lib.hid (by rw [Below.heap_setCell _ _ _ _ (show w.heap.size ≠ w.heap.size + 1 by omega)]; exact ha0)
  have K12 : Hid (Kp w (w12.setCell ⟨w.heap.size + 1, 5, none⟩ (.int .i64 t)) (some X)) := Lib.hid (Kp.of_own k0 ((Kp.refl _ (some (w.heap.size + 1))).set _) (by omega))
  have ST12 := HQ12
  clear hr0 ha0 k0 hL12 kk hh1 hh2 HQ12 h012
  go_wp2_with fail
  clear cR fR
  refine (rtext X S12 [10] b12 _ H12.out).mono ?_
  rintro e w13 ⟨rfl, S13, b13, hL13, hl13, hh1, hh2, kk⟩
  have H13 := Lib.hid hL13
  have HR13 := Lib.hid ((kk.block _ (lt_of_block HR12.out) (by simp; omega)).trans HR12.out)
  have HA13 := Lib.hid ((kk.block _ (lt_of_block HA12.out) (by simp; omega)).trans HA12.out)
  have K13 := Lib.hid (K12.out.trans kk)
  have HF : Hid (FinIs (Li.probeF S) [.i c, .s a, .s b, .i x, .i y, .i t] S13 b13) := Lib.hid (lf_end ST12.out hh1 hh2)
  clear hL13 kk hh1 hh2
  have e0 : w13.cell? ⟨w.heap.size + 1, 0, none⟩ = some (.int .i64 c) := by rw [Lib.cell_of_heap HR13.out]; rfl
  have e1 : w13.cell? ⟨w.heap.size + 1, 1, none⟩ = some (.string ⟨a.toArray⟩) := by rw [Lib.cell_of_heap HR13.out]; rfl
  have e2 : w13.cell? ⟨w.heap.size + 1, 2, none⟩ = some (.string ⟨b.toArray⟩) := by rw [Lib.cell_of_heap HR13.out]; rfl
  have e3 : w13.cell? ⟨w.heap.size + 1, 3, none⟩ = some (.int .i64 x) := by rw [Lib.cell_of_heap HR13.out]; rfl
  have e4 : w13.cell? ⟨w.heap.size + 1, 4, none⟩ = some (.int .i64 y) := by rw [Lib.cell_of_heap HR13.out]; rfl
  have e5 : w13.cell? ⟨w.heap.size + 1, 5, none⟩ = some (.int .i64 t) := by rw [Lib.cell_of_heap HR13.out]; rfl
  have z0 : w13.cell? ⟨w.heap.size, 0, none⟩ = some (.int .i64 0) := by rw [Lib.cell_of_heap HA13.out]; rfl
  have z1 : w13.cell? ⟨w.heap.size, 1, none⟩ = some (.string ⟨#[]⟩) := by rw [Lib.cell_of_heap HA13.out]; rfl
  have z2 : w13.cell? ⟨w.heap.size, 2, none⟩ = some (.string ⟨#[]⟩) := by rw [Lib.cell_of_heap HA13.out]; rfl
  have z3 : w13.cell? ⟨w.heap.size, 3, none⟩ = some (.int .i64 0) := by rw [Lib.cell_of_heap HA13.out]; rfl
  have z4 : w13.cell? ⟨w.heap.size, 4, none⟩ = some (.int .i64 0) := by rw [Lib.cell_of_heap HA13.out]; rfl
  have z5 : w13.cell? ⟨w.heap.size, 5, none⟩ = some (.int .i64 0) := by rw [Lib.cell_of_heap HA13.out]; rfl
  have f0 : w13.frozen? ⟨w.heap.size, 0, none⟩ = false := Lib.frozen_of_heap HA13.out _
  have f1 : w13.frozen? ⟨w.heap.size, 1, none⟩ = false := Lib.frozen_of_heap HA13.out _
  have f2 : w13.frozen? ⟨w.heap.size, 2, none⟩ = false := Lib.frozen_of_heap HA13.out _
  have f3 : w13.frozen? ⟨w.heap.size, 3, none⟩ = false := Lib.frozen_of_heap HA13.out _
  have f4 : w13.frozen? ⟨w.heap.size, 4, none⟩ = false := Lib.frozen_of_heap HA13.out _
  have f5 : w13.frozen? ⟨w.heap.size, 5, none⟩ = false := Lib.frozen_of_heap HA13.out _
  go_wp2_with fail
  have hF := set6 HA13.out (.int .i64 c) (.string ⟨a.toArray⟩) (.string ⟨b.toArray⟩) (.int .i64 x) (.int .i64 y) (.int .i64 t)
  have k6 : Kp w13 ((((((w13.setCell ⟨w.heap.size, 0, none⟩ (.int .i64 c)).setCell ⟨w.heap.size, 1, none⟩ (.string ⟨a.toArray⟩)).setCell ⟨w.heap.size, 2, none⟩ (.string ⟨b.toArray⟩)).setCell ⟨w.heap.size, 3, none⟩ (.int .i64 x)).setCell ⟨w.heap.size, 4, none⟩ (.int .i64 y)).setCell ⟨w.heap.size, 5, none⟩ (.int .i64 t)) (some w.heap.size) := ((((((Kp.refl _ (some w.heap.size)).set _).set _).set _).set _).set _).set _
  have q0 : ((((((w13.setCell ⟨w.heap.size, 0, none⟩ (.int .i64 c)).setCell ⟨w.heap.size, 1, none⟩ (.string ⟨a.toArray⟩)).setCell ⟨w.heap.size, 2, none⟩ (.string ⟨b.toArray⟩)).setCell ⟨w.heap.size, 3, none⟩ (.int .i64 x)).setCell ⟨w.heap.size, 4, none⟩ (.int .i64 y)).setCell ⟨w.heap.size, 5, none⟩ (.int .i64 t)).cell? ⟨w.heap.size, 0, none⟩ = some (.int .i64 c) := by rw [Lib.cell_of_heap hF]; rfl
  have q1 : ((((((w13.setCell ⟨w.heap.size, 0, none⟩ (.int .i64 c)).setCell ⟨w.heap.size, 1, none⟩ (.string ⟨a.toArray⟩)).setCell ⟨w.heap.size, 2, none⟩ (.string ⟨b.toArray⟩)).setCell ⟨w.heap.size, 3, none⟩ (.int .i64 x)).setCell ⟨w.heap.size, 4, none⟩ (.int .i64 y)).setCell ⟨w.heap.size, 5, none⟩ (.int .i64 t)).cell? ⟨w.heap.size, 1, none⟩ = some (.string ⟨a.toArray⟩) := by rw [Lib.cell_of_heap hF]; rfl
  have q2 : ((((((w13.setCell ⟨w.heap.size, 0, none⟩ (.int .i64 c)).setCell ⟨w.heap.size, 1, none⟩ (.string ⟨a.toArray⟩)).setCell ⟨w.heap.size, 2, none⟩ (.string ⟨b.toArray⟩)).setCell ⟨w.heap.size, 3, none⟩ (.int .i64 x)).setCell ⟨w.heap.size, 4, none⟩ (.int .i64 y)).setCell ⟨w.heap.size, 5, none⟩ (.int .i64 t)).cell? ⟨w.heap.size, 2, none⟩ = some (.string ⟨b.toArray⟩) := by rw [Lib.cell_of_heap hF]; rfl
  have q3 : ((((((w13.setCell ⟨w.heap.size, 0, none⟩ (.int .i64 c)).setCell ⟨w.heap.size, 1, none⟩ (.string ⟨a.toArray⟩)).setCell ⟨w.heap.size, 2, none⟩ (.string ⟨b.toArray⟩)).setCell ⟨w.heap.size, 3, none⟩ (.int .i64 x)).setCell ⟨w.heap.size, 4, none⟩ (.int .i64 y)).setCell ⟨w.heap.size, 5, none⟩ (.int .i64 t)).cell? ⟨w.heap.size, 3, none⟩ = some (.int .i64 x) := by rw [Lib.cell_of_heap hF]; rfl
  have q4 : ((((((w13.setCell ⟨w.heap.size, 0, none⟩ (.int .i64 c)).setCell ⟨w.heap.size, 1, none⟩ (.string ⟨a.toArray⟩)).setCell ⟨w.heap.size, 2, none⟩ (.string ⟨b.toArray⟩)).setCell ⟨w.heap.size, 3, none⟩ (.int .i64 x)).setCell ⟨w.heap.size, 4, none⟩ (.int .i64 y)).setCell ⟨w.heap.size, 5, none⟩ (.int .i64 t)).cell? ⟨w.heap.size, 4, none⟩ = some (.int .i64 y) := by rw [Lib.cell_of_heap hF]; rfl
  have q5 : ((((((w13.setCell ⟨w.heap.size, 0, none⟩ (.int .i64 c)).setCell ⟨w.heap.size, 1, none⟩ (.string ⟨a.toArray⟩)).setCell ⟨w.heap.size, 2, none⟩ (.string ⟨b.toArray⟩)).setCell ⟨w.heap.size, 3, none⟩ (.int .i64 x)).setCell ⟨w.heap.size, 4, none⟩ (.int .i64 y)).setCell ⟨w.heap.size, 5, none⟩ (.int .i64 t)).cell? ⟨w.heap.size, 5, none⟩ = some (.int .i64 t) := by rw [Lib.cell_of_heap hF]; rfl
  refine bodyPost_ret (v := .agg #[.int .i64 c, .string ⟨a.toArray⟩, .string ⟨b.toArray⟩, .int .i64 x, .int .i64 y, .int .i64 t]) ?_ rfl ⟨c, a, b, x, y, t, S13, b13, rfl, H13.out.keep k6 (by simp; omega), by omega, HF.out, Kp.of_own K13.out k6 (Nat.le_refl _)⟩
  simp [results, Tryd.results34, go_sem, q0, q1, q2, q3, q4, q5]

end Go.Proofs.YtldjhjbodhhnbaaDoor
