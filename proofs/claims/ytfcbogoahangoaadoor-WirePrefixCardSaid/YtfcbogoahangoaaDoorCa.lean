/- WireCanonical, walked. No condition but what a string can be. -/
import Derived.Test.YtfcbogoahangoaaDoorSn
namespace Go.Proofs.YtfcbogoahangoaaDoor
open Go.RowKit

theorem Kp.chain {a b c : World} {r : Nat} (h : Kp a b none) (k : Kp b c (some r)) (hr : a.heap.size ≤ r) : Kp a c none := Kp.of_own h k hr
theorem flat_ge {α : Type} (f : α → List UInt8) (hf : ∀ x, 1 ≤ (f x).length) : ∀ l : List α, l.length ≤ (l.flatMap f).length
  | [] => by simp
  | x :: l => by have := flat_ge f hf l; have := hf x; rw [List.flatMap_cons, List.length_append, List.length_cons]; omega
theorem flat_mem {α : Type} (f : α → List UInt8) : ∀ (l : List α) (x : α), x ∈ l → (f x).length ≤ (l.flatMap f).length
  | y :: l, x, h => by
    rw [List.flatMap_cons, List.length_append]
    rcases List.mem_cons.1 h with rfl | h
    · omega
    · have := flat_mem f l x h; omega
theorem wInts_len (xs : List Int) : xs.length ≤ (Wr.wInts xs).length := by
  have := flat_ge Wr.wInt (fun x => by simp [Wr.wInt]) xs
  simp only [Wr.wInts, List.length_append, List.length_cons]; omega
theorem wTexts_len (xs : List (List UInt8)) : xs.length ≤ (Wr.wTexts xs).length := by
  have := flat_ge Wr.wText (fun x => by simp [Wr.wText]; omega) xs
  simp only [Wr.wTexts, List.length_append, List.length_cons]; omega
theorem wTexts_mem (xs : List (List UInt8)) (x : List UInt8) (h : x ∈ xs) : x.length ≤ (Wr.wTexts xs).length := by
  have := flat_mem Wr.wText xs x h
  have h2 : x.length ≤ (Wr.wText x).length := by simp [Wr.wText]; omega
  simp only [Wr.wTexts, List.length_append, List.length_cons]; omega

def CanRel (w : World) (i : Value) (wr : World) : Prop := ∃ k : Nat, k ≤ 4 ∧ i = .int .i64 k ∧ Kp w wr none


set_option maxHeartbeats 4000000 in
set_option maxRecDepth 100000 in
theorem canonical_any (l : List UInt8) (hl : l.length ≤ 9223372036854775807) (w : World) (he : Env w) : Calls Tryd.prog 6 #[.string ⟨l.toArray⟩] w fun E w' => E = .returned (.bool true) ∧ Kp w w' none := by
  have HE := Lib.hid he
  clear he
  have hcut : ∃ d : List UInt8, d.length ≤ 200 ∧ Hid (d = l.take 200) := ⟨_, by simp; omega, Lib.hid rfl⟩
  obtain ⟨d, hd, HD⟩ := hcut
  have hx : (⟨l.toArray⟩ : ByteArray).extract 0 (min (l.length : Int) 200).toNat = ⟨d.toArray⟩ := by
    rw [ext_take, HD.out]; congr 2
    by_cases h : l.length ≤ 200
    · rw [List.take_of_length_le (by omega), List.take_of_length_le h]
    · congr 1; omega
  have HX := Lib.hid hx
  clear hx
  go_enter Tryd.func6, Tryd.ntmps6
  go_wp2_with fail
  refine (sanity_any _ HE.out).mono ?_
  rintro e w1 ⟨rfl, k⟩
  have K1 := Lib.hid k
  clear k
  go_wp2_with fail
  rw [HX.out]
  go_loopw [4] (fun i wr => CanRel w i wr) (fun i _ => 4 - (intOf i).toNat)
  case atStart => exact ⟨0, by omega, rfl, K1.out⟩
  case round =>
    obtain ⟨k, hk, rfl, hK⟩ := hrel
    have HK := Lib.hid hK
    have hr : 6 ≤ wr.heap.size := by have := HE.out.big; have := hK.size; omega
    clear hK
    match k, hk with
    | 0, _ =>
      cases hp : Wr.pInt d with
      | none =>
        have HP := Lib.hid hp
        clear hp
        go_wp2_with (first | (go_at_call 20; refine (new_any d _).mono ?_; rintro e w1' ⟨rfl, h1, k1⟩; have H1 := Lib.hid h1; have K1' := Lib.hid k1; clear h1 k1) | (go_at_call 22; have hq := int_any wr.heap.size (some d) _ ((HE.out.kp0 HK.out).kp0 K1'.out) hr (by simp; omega) H1.out; rw [Option.bind_some, HP.out] at hq; refine hq.mono ?_; clear hq; rintro e w2' ⟨⟨rfl, h2⟩, k2⟩; have H2 := Lib.hid h2; have K2 := Lib.hid (HK.out.trans (K1'.out.chain k2 (Nat.le_refl _))); clear h2 k2; skip) | (go_at_call 12; refine (wint_any 0 _ (HE.out.kp0 K2.out) (by unfold Wr.I64; omega)).mono ?_; rintro e w3' ⟨rfl, k3⟩; have H3 := Lib.hid (H2.out.keep k3 (by simp)); have K3 := Lib.hid (K2.out.trans k3); clear k3) | (go_at_call 34; refine (bad_any _ _ _ H3.out).mono ?_; rintro e w' ⟨rfl, rfl⟩) | (go_at_call 32; refine (left_any _ _ _ H3.out).mono ?_; rintro e w' ⟨rfl, rfl⟩))
        go_roundw
        case rel => exact ⟨1, by omega, rfl, K3.out⟩
        case measure => simp [intOf]
      | some xt =>
        obtain ⟨x, t⟩ := xt
        obtain ⟨hcan, hok⟩ := Wr.int_codec.can _ _ _ hp
        have HOK := Lib.hid hok
        obtain ⟨a, ha⟩ : ∃ a, Wr.wInt x = a := ⟨_, rfl⟩
        rw [ha] at hcan
        have hlen : d.length = a.length + t.length := by rw [hcan]; simp
        have hne : ((a.length : Int) != (d.length : Int) - (t.length : Int)) = false := by simp; omega
        have hla : a.length ≤ d.length := by omega
        have hlt : t.length ≤ d.length := by omega
        have hex : (⟨d.toArray⟩ : ByteArray).extract 0 a.length = ⟨a.toArray⟩ := by rw [ext_take, hcan]; simp
        have HP := Lib.hid hp
        have HA := Lib.hid ha
        clear hp ha hcan hlen hok
        go_wp2_with (first | (go_at_call 20; refine (new_any d _).mono ?_; rintro e w1' ⟨rfl, h1, k1⟩; have H1 := Lib.hid h1; have K1' := Lib.hid k1; clear h1 k1) | (go_at_call 22; have hq := int_any wr.heap.size (some d) _ ((HE.out.kp0 HK.out).kp0 K1'.out) hr (by simp; omega) H1.out; rw [Option.bind_some, HP.out] at hq; refine hq.mono ?_; clear hq; rintro e w2' ⟨⟨rfl, h2⟩, k2⟩; have H2 := Lib.hid h2; have K2 := Lib.hid (HK.out.trans (K1'.out.chain k2 (Nat.le_refl _))); clear h2 k2; skip) | (go_at_call 12; have hq := wint_any x _ (HE.out.kp0 K2.out) HOK.out; rw [HA.out] at hq; refine hq.mono ?_; clear hq; rintro e w3' ⟨rfl, k3⟩; have H3 := Lib.hid (H2.out.keep k3 (by simp)); have K3 := Lib.hid (K2.out.trans k3); clear k3) | (go_at_call 34; refine (bad_any _ _ _ H3.out).mono ?_; rintro e w' ⟨rfl, rfl⟩) | (go_at_call 32; refine (left_any _ _ _ H3.out).mono ?_; rintro e w' ⟨rfl, rfl⟩))
        go_roundw
        case rel => exact ⟨1, by omega, rfl, K3.out⟩
        case measure => simp [intOf]
    | 1, _ =>
      cases hp : Wr.pText d with
      | none =>
        have HP := Lib.hid hp
        clear hp
        go_wp2_with (first | (go_at_call 20; refine (new_any d _).mono ?_; rintro e w1' ⟨rfl, h1, k1⟩; have H1 := Lib.hid h1; have K1' := Lib.hid k1; clear h1 k1) | (go_at_call 24; have hq := text_any wr.heap.size (some d) _ ((HE.out.kp0 HK.out).kp0 K1'.out) hr (by simp; omega) H1.out; rw [Option.bind_some, HP.out] at hq; refine hq.mono ?_; clear hq; rintro e w2' ⟨⟨rfl, h2⟩, k2⟩; have H2 := Lib.hid h2; have K2 := Lib.hid (HK.out.trans (K1'.out.chain k2 (Nat.le_refl _))); clear h2 k2; skip) | (go_at_call 14; refine (wtext_any [] _ (HE.out.kp0 K2.out) (by simp)).mono ?_; rintro e w3' ⟨rfl, k3⟩; have H3 := Lib.hid (H2.out.keep k3 (by simp)); have K3 := Lib.hid (K2.out.trans k3); clear k3) | (go_at_call 34; refine (bad_any _ _ _ H3.out).mono ?_; rintro e w' ⟨rfl, rfl⟩) | (go_at_call 32; refine (left_any _ _ _ H3.out).mono ?_; rintro e w' ⟨rfl, rfl⟩))
        go_roundw
        case rel => exact ⟨2, by omega, rfl, K3.out⟩
        case measure => simp [intOf]
      | some xt =>
        obtain ⟨x, t⟩ := xt
        obtain ⟨hcan, hok⟩ := Wr.text_codec.can _ _ _ hp
        have HOK : Hid (x.length ≤ 200) := Lib.hid (by have := congrArg List.length hcan; simp [Wr.wText] at this; omega)
        obtain ⟨a, ha⟩ : ∃ a, Wr.wText x = a := ⟨_, rfl⟩
        rw [ha] at hcan
        have hlen : d.length = a.length + t.length := by rw [hcan]; simp
        have hne : ((a.length : Int) != (d.length : Int) - (t.length : Int)) = false := by simp; omega
        have hla : a.length ≤ d.length := by omega
        have hlt : t.length ≤ d.length := by omega
        have hex : (⟨d.toArray⟩ : ByteArray).extract 0 a.length = ⟨a.toArray⟩ := by rw [ext_take, hcan]; simp
        have HP := Lib.hid hp
        have HA := Lib.hid ha
        clear hp ha hcan hlen hok
        go_wp2_with (first | (go_at_call 20; refine (new_any d _).mono ?_; rintro e w1' ⟨rfl, h1, k1⟩; have H1 := Lib.hid h1; have K1' := Lib.hid k1; clear h1 k1) | (go_at_call 24; have hq := text_any wr.heap.size (some d) _ ((HE.out.kp0 HK.out).kp0 K1'.out) hr (by simp; omega) H1.out; rw [Option.bind_some, HP.out] at hq; refine hq.mono ?_; clear hq; rintro e w2' ⟨⟨rfl, h2⟩, k2⟩; have H2 := Lib.hid h2; have K2 := Lib.hid (HK.out.trans (K1'.out.chain k2 (Nat.le_refl _))); clear h2 k2; skip) | (go_at_call 14; have hq := wtext_any x _ (HE.out.kp0 K2.out) (by have := HOK.out; omega); rw [HA.out] at hq; refine hq.mono ?_; clear hq; rintro e w3' ⟨rfl, k3⟩; have H3 := Lib.hid (H2.out.keep k3 (by simp)); have K3 := Lib.hid (K2.out.trans k3); clear k3) | (go_at_call 34; refine (bad_any _ _ _ H3.out).mono ?_; rintro e w' ⟨rfl, rfl⟩) | (go_at_call 32; refine (left_any _ _ _ H3.out).mono ?_; rintro e w' ⟨rfl, rfl⟩))
        go_roundw
        case rel => exact ⟨2, by omega, rfl, K3.out⟩
        case measure => simp [intOf]
    | 2, _ =>
      cases hp : Wr.pInts d with
      | none =>
        have HP := Lib.hid hp
        clear hp
        go_wp2_with (first | (go_at_call 20; refine (new_any d _).mono ?_; rintro e w1' ⟨rfl, h1, k1⟩; have H1 := Lib.hid h1; have K1' := Lib.hid k1; clear h1 k1) | (go_at_call 27; have hq := ints_any wr.heap.size (some d) _ ((HE.out.kp0 HK.out).kp0 K1'.out) hr (by simp; omega) H1.out; rw [Option.bind_some, HP.out] at hq; refine hq.mono ?_; clear hq; rintro e w2' ⟨⟨rfl, h2⟩, k2⟩; have H2 := Lib.hid h2; have K2 := Lib.hid (HK.out.trans (K1'.out.chain k2 (Nat.le_refl _))); clear h2 k2; skip) | (go_at_call 16; refine (wints_any _ [] _ (HE.out.kp0 K2.out) (.inl ⟨_, _, rfl, rfl⟩) (by simp) (by simp)).mono ?_; rintro e w3' ⟨rfl, k3⟩; have H3 := Lib.hid (H2.out.keep k3 (by simp)); have K3 := Lib.hid (K2.out.trans k3); clear k3) | (go_at_call 34; refine (bad_any _ _ _ H3.out).mono ?_; rintro e w' ⟨rfl, rfl⟩) | (go_at_call 32; refine (left_any _ _ _ H3.out).mono ?_; rintro e w' ⟨rfl, rfl⟩))
        go_roundw
        case rel => exact ⟨3, by omega, rfl, K3.out⟩
        case measure => simp [intOf]
      | some xt =>
        obtain ⟨x, t⟩ := xt
        obtain ⟨hcan, hok⟩ := Wr.ints_codec.can _ _ _ hp
        have HOK : Hid ((∀ y ∈ x, Wr.I64 y) ∧ x.length ≤ 200) := Lib.hid ⟨hok, by have := congrArg List.length hcan; have := wInts_len x; simp at *; omega⟩
        obtain ⟨a, ha⟩ : ∃ a, Wr.wInts x = a := ⟨_, rfl⟩
        rw [ha] at hcan
        have hlen : d.length = a.length + t.length := by rw [hcan]; simp
        have hne : ((a.length : Int) != (d.length : Int) - (t.length : Int)) = false := by simp; omega
        have hla : a.length ≤ d.length := by omega
        have hlt : t.length ≤ d.length := by omega
        have hex : (⟨d.toArray⟩ : ByteArray).extract 0 a.length = ⟨a.toArray⟩ := by rw [ext_take, hcan]; simp
        have HP := Lib.hid hp
        have HA := Lib.hid ha
        clear hp ha hcan hlen hok
        go_wp2_with (first | (go_at_call 20; refine (new_any d _).mono ?_; rintro e w1' ⟨rfl, h1, k1⟩; have H1 := Lib.hid h1; have K1' := Lib.hid k1; clear h1 k1) | (go_at_call 27; have hq := ints_any wr.heap.size (some d) _ ((HE.out.kp0 HK.out).kp0 K1'.out) hr (by simp; omega) H1.out; rw [Option.bind_some, HP.out] at hq; refine hq.mono ?_; clear hq; rintro e w2' ⟨⟨⟨v, rfl, hv⟩, h2⟩, k2⟩; have H2 := Lib.hid h2; have K2 := Lib.hid (HK.out.trans (K1'.out.chain k2 (Nat.le_refl _))); clear h2 k2; have HV := Lib.hid (own_isRow hv); clear hv; skip) | (go_at_call 16; have hq := wints_any v x _ (HE.out.kp0 K2.out) HV.out HOK.out.1 (by have := HOK.out.2; omega); rw [HA.out] at hq; refine hq.mono ?_; clear hq; rintro e w3' ⟨rfl, k3⟩; have H3 := Lib.hid (H2.out.keep k3 (by simp)); have K3 := Lib.hid (K2.out.trans k3); clear k3) | (go_at_call 34; refine (bad_any _ _ _ H3.out).mono ?_; rintro e w' ⟨rfl, rfl⟩) | (go_at_call 32; refine (left_any _ _ _ H3.out).mono ?_; rintro e w' ⟨rfl, rfl⟩))
        go_roundw
        case rel => exact ⟨3, by omega, rfl, K3.out⟩
        case measure => simp [intOf]
    | 3, _ =>
      cases hp : Wr.pTexts d with
      | none =>
        have HP := Lib.hid hp
        clear hp
        go_wp2_with (first | (go_at_call 20; refine (new_any d _).mono ?_; rintro e w1' ⟨rfl, h1, k1⟩; have H1 := Lib.hid h1; have K1' := Lib.hid k1; clear h1 k1) | (go_at_call 30; have hq := texts_any wr.heap.size (some d) _ ((HE.out.kp0 HK.out).kp0 K1'.out) hr (by simp; omega) H1.out; rw [Option.bind_some, HP.out] at hq; refine hq.mono ?_; clear hq; rintro e w2' ⟨⟨rfl, h2⟩, k2⟩; have H2 := Lib.hid h2; have K2 := Lib.hid (HK.out.trans (K1'.out.chain k2 (Nat.le_refl _))); clear h2 k2; skip) | (go_at_call 18; refine (wtexts_any _ [] _ (HE.out.kp0 K2.out) (.inl ⟨_, _, rfl, rfl⟩) (by simp) (by simp)).mono ?_; rintro e w3' ⟨rfl, k3⟩; have H3 := Lib.hid (H2.out.keep k3 (by simp)); have K3 := Lib.hid (K2.out.trans k3); clear k3) | (go_at_call 34; refine (bad_any _ _ _ H3.out).mono ?_; rintro e w' ⟨rfl, rfl⟩) | (go_at_call 32; refine (left_any _ _ _ H3.out).mono ?_; rintro e w' ⟨rfl, rfl⟩))
        go_roundw
        case rel => exact ⟨4, by omega, rfl, K3.out⟩
        case measure => simp [intOf]
      | some xt =>
        obtain ⟨x, t⟩ := xt
        obtain ⟨hcan, hok⟩ := Wr.texts_codec.can _ _ _ hp
        have HOK : Hid ((∀ y ∈ x, y.length ≤ 200) ∧ x.length ≤ 200) := Lib.hid ⟨fun y hy => by have := congrArg List.length hcan; have := wTexts_mem x y hy; simp at *; omega, by have := congrArg List.length hcan; have := wTexts_len x; simp at *; omega⟩
        obtain ⟨a, ha⟩ : ∃ a, Wr.wTexts x = a := ⟨_, rfl⟩
        rw [ha] at hcan
        have hlen : d.length = a.length + t.length := by rw [hcan]; simp
        have hne : ((a.length : Int) != (d.length : Int) - (t.length : Int)) = false := by simp; omega
        have hla : a.length ≤ d.length := by omega
        have hlt : t.length ≤ d.length := by omega
        have hex : (⟨d.toArray⟩ : ByteArray).extract 0 a.length = ⟨a.toArray⟩ := by rw [ext_take, hcan]; simp
        have HP := Lib.hid hp
        have HA := Lib.hid ha
        clear hp ha hcan hlen hok
        go_wp2_with (first | (go_at_call 20; refine (new_any d _).mono ?_; rintro e w1' ⟨rfl, h1, k1⟩; have H1 := Lib.hid h1; have K1' := Lib.hid k1; clear h1 k1) | (go_at_call 30; have hq := texts_any wr.heap.size (some d) _ ((HE.out.kp0 HK.out).kp0 K1'.out) hr (by simp; omega) H1.out; rw [Option.bind_some, HP.out] at hq; refine hq.mono ?_; clear hq; rintro e w2' ⟨⟨⟨v, rfl, hv⟩, h2⟩, k2⟩; have H2 := Lib.hid h2; have K2 := Lib.hid (HK.out.trans (K1'.out.chain k2 (Nat.le_refl _))); clear h2 k2; have HV := Lib.hid (own_isRow hv); clear hv; skip) | (go_at_call 18; have hq := wtexts_any v x _ (HE.out.kp0 K2.out) HV.out (fun y hy => by have := HOK.out.1 y hy; omega) (by have := HOK.out.2; omega); rw [HA.out] at hq; refine hq.mono ?_; clear hq; rintro e w3' ⟨rfl, k3⟩; have H3 := Lib.hid (H2.out.keep k3 (by simp)); have K3 := Lib.hid (K2.out.trans k3); clear k3) | (go_at_call 34; refine (bad_any _ _ _ H3.out).mono ?_; rintro e w' ⟨rfl, rfl⟩) | (go_at_call 32; refine (left_any _ _ _ H3.out).mono ?_; rintro e w' ⟨rfl, rfl⟩))
        go_roundw
        case rel => exact ⟨4, by omega, rfl, K3.out⟩
        case measure => simp [intOf]
    | 4, _ =>
      go_wp2
      go_ret
      exact ⟨rfl, HK.out⟩

end Go.Proofs.YtfcbogoahangoaaDoor
