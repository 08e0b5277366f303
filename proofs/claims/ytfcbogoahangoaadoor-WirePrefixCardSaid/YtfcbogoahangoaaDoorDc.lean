/- What the laws call: a nil reader, the first call by its number. Conditions: the string that is read is shorter than 2^31 bytes. -/
import Derived.Test.YtfcbogoahangoaaDoorEl
import Derived.Test.YtfcbogoahangoaaDoorWt
namespace Go.Proofs.YtfcbogoahangoaaDoor
open Go.RowKit

theorem Kp.mk {w w' : World} {E : Ending} {e : Ending} {row : Option Nat} (h : E = e) (k : Kp w w' row) : E = e ∧ Kp w w' row := ⟨h, k⟩

theorem number_nil (e : UInt8) (w : World) : Calls Tryd.prog 42 #[.pointer none, .string ⟨#[e]⟩] w fun E w' => E = .returned (.tuple #[.int .i64 0, .bool false]) ∧ w = w' := by
  go_enter Tryd.func42, Tryd.ntmps42
  go_wp2
  refine wp_scope_fwd 0 rfl ?_
  go_wp2_with (go_at_call 34; refine (bad_nil _).mono ?_; rintro e w' ⟨rfl, rfl⟩)
  go_step3
  refine ⟨rfl, ?_⟩
  go_wp2_with (go_at_call 45; refine (fail_nil _).mono ?_; rintro e w' ⟨rfl, rfl⟩)
  rw [Exit.noGoto_ret]
  go_ret2
  exact ⟨rfl, rfl⟩
theorem int_nil (w : World) : Calls Tryd.prog 22 #[.pointer none] w fun E w' => E = .returned (.int .i64 0) ∧ w = w' := by
  go_enter Tryd.func22, Tryd.ntmps22
  go_wp2_with (go_at_call 42; refine (number_nil _ _).mono ?_; rintro e w' ⟨rfl, rfl⟩)
  go_ret
  exact ⟨rfl, rfl⟩
theorem text_nil (w : World) : Calls Tryd.prog 24 #[.pointer none] w fun E w' => E = .returned (.string ⟨#[]⟩) ∧ w = w' := by
  go_enter Tryd.func24, Tryd.ntmps24
  go_wp2_with (first | (go_at_call 42; refine (number_nil _ _).mono ?_; rintro e w' ⟨rfl, rfl⟩) | (go_at_call 45; refine (fail_nil _).mono ?_; rintro e w' ⟨rfl, rfl⟩))
  go_ret
  exact ⟨rfl, rfl⟩
theorem elsI_nil (f : Value) (w : World) : Calls Tryd.prog 46 #[.pointer none, f] w fun E w' => E = .returned (.slice none 0 0) ∧ w = w' := by
  go_enter Tryd.func46, Tryd.ntmps46
  go_wp2_with (first | (go_at_call 32; refine (left_nil _).mono ?_; rintro e w' ⟨rfl, rfl⟩) | (go_at_call 45; refine (fail_nil _).mono ?_; rintro e w' ⟨rfl, rfl⟩))
  go_ret
  exact ⟨rfl, rfl⟩
theorem elsT_nil (f : Value) (w : World) : Calls Tryd.prog 48 #[.pointer none, f] w fun E w' => E = .returned (.slice none 0 0) ∧ w = w' := by
  go_enter Tryd.func48, Tryd.ntmps48
  go_wp2_with (first | (go_at_call 32; refine (left_nil _).mono ?_; rintro e w' ⟨rfl, rfl⟩) | (go_at_call 45; refine (fail_nil _).mono ?_; rintro e w' ⟨rfl, rfl⟩))
  go_ret
  exact ⟨rfl, rfl⟩
theorem ints_nil (w : World) : Calls Tryd.prog 27 #[.pointer none] w fun E w' => E = .returned (.slice none 0 0) ∧ w = w' := by
  go_enter Tryd.func27, Tryd.ntmps27
  go_wp2_with (go_at_call 46; refine (elsI_nil _ _).mono ?_; rintro e w' ⟨rfl, rfl⟩)
  go_ret
  exact ⟨rfl, rfl⟩
theorem texts_nil (w : World) : Calls Tryd.prog 30 #[.pointer none] w fun E w' => E = .returned (.slice none 0 0) ∧ w = w' := by
  go_enter Tryd.func30, Tryd.ntmps30
  go_wp2_with (go_at_call 48; refine (elsT_nil _ _).mono ?_; rintro e w' ⟨rfl, rfl⟩)
  go_ret
  exact ⟨rfl, rfl⟩

/-- The call of this number decodes nothing. -/
def Undec (k : Nat) (st : Option (List UInt8)) : Prop := match k with
  | 0 => st.bind Wr.pInt = none
  | 1 => st.bind Wr.pText = none
  | 2 => st.bind Wr.pInts = none
  | _ => st.bind Wr.pTexts = none
theorem undec_none (k : Nat) : Undec k none := by unfold Undec; split <;> rfl


theorem decodes0 (r : Nat) (st : Option (List UInt8)) (w : World) (he : Env w) (hr : 6 ≤ r) (hs : (st.getD []).length < 2147483648) (h : RdIs w r st) (hu : Undec 0 st) : Calls Tryd.prog 36 #[.pointer (some ⟨r, 0, none⟩), .int .i64 0] w fun E w' => E = .returned (.bool true) ∧ RdIs w' r none ∧ Kp w w' (some r) := by
  have hq := int_any r st w he hr (by omega) h
  rw [show st.bind _ = none from hu] at hq
  have HQ := Lib.hid hq
  clear hq he h hu
  go_enter Tryd.func36, Tryd.ntmps36
  go_wp2_with (go_at_call 22; refine HQ.out.mono ?_; rintro e w' ⟨⟨rfl, h1⟩, k1⟩; have H1 := Lib.hid h1; have K1 := Lib.hid k1; clear h1 k1)
  go_ret
  exact ⟨rfl, H1.out, K1.out⟩
theorem decodes0n (w : World) : Calls Tryd.prog 36 #[.pointer none, .int .i64 0] w fun E w' => E = .returned (.bool true) ∧ w = w' := by
  go_enter Tryd.func36, Tryd.ntmps36
  go_wp2_with (go_at_call 22; refine (int_nil _).mono ?_; rintro e w' ⟨rfl, rfl⟩)
  go_ret
  exact ⟨rfl, rfl⟩

theorem decodes1 (r : Nat) (st : Option (List UInt8)) (w : World) (he : Env w) (hr : 6 ≤ r) (hs : (st.getD []).length < 2147483648) (h : RdIs w r st) (hu : Undec 1 st) : Calls Tryd.prog 36 #[.pointer (some ⟨r, 0, none⟩), .int .i64 1] w fun E w' => E = .returned (.bool true) ∧ RdIs w' r none ∧ Kp w w' (some r) := by
  have hq := text_any r st w he hr (by omega) h
  rw [show st.bind _ = none from hu] at hq
  have HQ := Lib.hid hq
  clear hq he h hu
  go_enter Tryd.func36, Tryd.ntmps36
  go_wp2_with (go_at_call 24; refine HQ.out.mono ?_; rintro e w' ⟨⟨rfl, h1⟩, k1⟩; have H1 := Lib.hid h1; have K1 := Lib.hid k1; clear h1 k1)
  go_ret
  exact ⟨rfl, H1.out, K1.out⟩
theorem decodes1n (w : World) : Calls Tryd.prog 36 #[.pointer none, .int .i64 1] w fun E w' => E = .returned (.bool true) ∧ w = w' := by
  go_enter Tryd.func36, Tryd.ntmps36
  go_wp2_with (go_at_call 24; refine (text_nil _).mono ?_; rintro e w' ⟨rfl, rfl⟩)
  go_ret
  exact ⟨rfl, rfl⟩

theorem decodes2 (r : Nat) (st : Option (List UInt8)) (w : World) (he : Env w) (hr : 6 ≤ r) (hs : (st.getD []).length < 2147483648) (h : RdIs w r st) (hu : Undec 2 st) : Calls Tryd.prog 36 #[.pointer (some ⟨r, 0, none⟩), .int .i64 2] w fun E w' => E = .returned (.bool true) ∧ RdIs w' r none ∧ Kp w w' (some r) := by
  have hq := ints_any r st w he hr (by omega) h
  rw [show st.bind _ = none from hu] at hq
  have HQ := Lib.hid hq
  clear hq he h hu
  go_enter Tryd.func36, Tryd.ntmps36
  go_wp2_with (go_at_call 27; refine HQ.out.mono ?_; rintro e w' ⟨⟨rfl, h1⟩, k1⟩; have H1 := Lib.hid h1; have K1 := Lib.hid k1; clear h1 k1)
  go_ret
  exact ⟨rfl, H1.out, K1.out⟩
theorem decodes2n (w : World) : Calls Tryd.prog 36 #[.pointer none, .int .i64 2] w fun E w' => E = .returned (.bool true) ∧ w = w' := by
  go_enter Tryd.func36, Tryd.ntmps36
  go_wp2_with (go_at_call 27; refine (ints_nil _).mono ?_; rintro e w' ⟨rfl, rfl⟩)
  go_ret
  exact ⟨rfl, rfl⟩

theorem decodes3 (r : Nat) (st : Option (List UInt8)) (w : World) (he : Env w) (hr : 6 ≤ r) (hs : (st.getD []).length < 2147483648) (h : RdIs w r st) (hu : Undec 3 st) : Calls Tryd.prog 36 #[.pointer (some ⟨r, 0, none⟩), .int .i64 3] w fun E w' => E = .returned (.bool true) ∧ RdIs w' r none ∧ Kp w w' (some r) := by
  have hq := texts_any r st w he hr (by omega) h
  rw [show st.bind _ = none from hu] at hq
  have HQ := Lib.hid hq
  clear hq he h hu
  go_enter Tryd.func36, Tryd.ntmps36
  go_wp2_with (go_at_call 30; refine HQ.out.mono ?_; rintro e w' ⟨⟨rfl, h1⟩, k1⟩; have H1 := Lib.hid h1; have K1 := Lib.hid k1; clear h1 k1)
  go_ret
  exact ⟨rfl, H1.out, K1.out⟩
theorem decodes3n (w : World) : Calls Tryd.prog 36 #[.pointer none, .int .i64 3] w fun E w' => E = .returned (.bool true) ∧ w = w' := by
  go_enter Tryd.func36, Tryd.ntmps36
  go_wp2_with (go_at_call 30; refine (texts_nil _).mono ?_; rintro e w' ⟨rfl, rfl⟩)
  go_ret
  exact ⟨rfl, rfl⟩

theorem decodes_any (k : Nat) (hk : k < 4) (r : Nat) (st : Option (List UInt8)) (w : World) (he : Env w) (hr : 6 ≤ r) (hs : (st.getD []).length < 2147483648) (h : RdIs w r st) (hu : Undec k st) : Calls Tryd.prog 36 #[.pointer (some ⟨r, 0, none⟩), .int .i64 k] w fun E w' => E = .returned (.bool true) ∧ RdIs w' r none ∧ Kp w w' (some r) := by
  match k, hk with
  | 0, _ => exact decodes0 r st w he hr hs h hu
  | 1, _ => exact decodes1 r st w he hr hs h hu
  | 2, _ => exact decodes2 r st w he hr hs h hu
  | 3, _ => exact decodes3 r st w he hr hs h hu
theorem decodes_nil (k : Nat) (hk : k < 4) (w : World) : Calls Tryd.prog 36 #[.pointer none, .int .i64 k] w fun E w' => E = .returned (.bool true) ∧ w = w' := by
  match k, hk with
  | 0, _ => exact decodes0n w
  | 1, _ => exact decodes1n w
  | 2, _ => exact decodes2n w
  | 3, _ => exact decodes3n w

set_option maxHeartbeats 1000000 in
theorem malformed_any (l : List UInt8) (w : World) (he : Env w) (hl : l.length < 2147483648) (hu : ∀ k, k < 4 → Undec k (some l)) : Calls Tryd.prog 37 #[.string ⟨l.toArray⟩] w fun E w' => E = .returned (.bool true) ∧ Kp w w' none := by
  have HE := Lib.hid he
  have HU := Lib.hid hu
  clear he hu
  go_enter Tryd.func37, Tryd.ntmps37
  go_wp2
  go_loopw [3] (fun i wr => ∃ k : Nat, k ≤ 4 ∧ i = .int .i64 k ∧ Kp w wr none) (fun i _ => 4 - (intOf i).toNat)
  case atStart => exact ⟨0, by omega, rfl, Kp.refl _ _⟩
  case round =>
    obtain ⟨k, hk, rfl, hK⟩ := hrel
    have HK := Lib.hid hK
    clear hK
    by_cases hlt : k < 4
    · go_wp2_with (first | (go_at_call 20; refine (new_any _ _).mono ?_; rintro e w1 ⟨rfl, h1, k1⟩; have H1 := Lib.hid h1; have K1 := Lib.hid k1; clear h1 k1) | (go_at_call 36; go_loud (refine (decodes_any k hlt _ _ _ ((HE.out.kp0 HK.out).kp0 K1.out) (by have := HE.out.big; have := HK.out.size; omega) (by simpa using hl) H1.out (HU.out k hlt)).mono ?_); rintro e w2 ⟨rfl, h2, k2⟩; have H2 := Lib.hid h2; have K2 := Lib.hid k2; clear h2 k2) | (go_at_call 34; refine (bad_any _ _ _ H2.out).mono ?_; rintro e w3 ⟨rfl, rfl⟩) | (go_at_call 32; refine (left_any _ _ _ H2.out).mono ?_; rintro e w3 ⟨rfl, rfl⟩))
      go_roundw
      case rel => exact ⟨k + 1, by omega, by go_num, HK.out.trans (Kp.of_own K1.out K2.out (Nat.le_refl _))⟩
      case measure => simp [intOf]; omega
    · go_wp2
      go_ret
      exact ⟨rfl, HK.out⟩

end Go.Proofs.YtfcbogoahangoaaDoor
