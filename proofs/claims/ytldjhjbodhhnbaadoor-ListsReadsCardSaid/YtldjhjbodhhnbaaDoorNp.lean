/- The reference's line: taking a number that has no sign, and any. Condition: what is read is shorter than 2^31 bytes. -/
import Derived.Test.YtldjhjbodhhnbaaDoorNb
namespace Go.Proofs.YtldjhjbodhhnbaaDoor
open Go.RowKit
set_option maxHeartbeats 2000000 in
set_option maxRecDepth 100000 in
theorem number_nil (X : Nat) (bad : Bool) (w : World) (h : LnIs w X [] bad) : Calls Tryd.prog 45 #[.pointer (some ⟨X, 0, none⟩)] w (NumEnds w X [] bad (Li.numF [])) := by
  have c0 := h.c0
  have c1 := h.c1
  have H := Lib.hid h
  have HT : Hid (Li.textF (Lib.itoa 0) [] = none) := Lib.hid (by rw [itoa_digit (n := 0) (by omega) (by omega)]; rfl)
  clear h
  go_enter Tryd.func45, Tryd.ntmps45
  go_wp2_with fail
  go_loop [3, 4] (fun n k => n = .int .i64 0 ∧ k = .int .i64 0) (fun _ _ => 0)
  case atStart => exact ⟨rfl, rfl⟩
  case round =>
    obtain ⟨rfl, rfl⟩ := hrel
    go_wp2_with fail
    refine (dec_any 0 (by unfold Wr.I64; omega) _).mono ?_
    rintro e w1 ⟨rfl, k1⟩
    have H1 := Lib.hid (H.out.keep k1 (by simp))
    have K1 := Lib.hid (k1.weak (some X))
    clear k1
    go_wp2_with fail
    refine (text_any X [] (Lib.itoa 0) bad _ H1.out).mono ?_
    rintro e w2 ⟨rfl, h2, k2⟩
    rw [HT.out] at h2
    have H2 := Lib.hid h2
    have K2 := Lib.hid (K1.out.trans k2)
    clear h2 k2
    have d0 := H2.out.c0
    go_wp2_with fail
    go_ret
    exact NumEnds.no (fun m r hm => by have := congrArg List.length hm.eq; have := List.length_pos_iff.2 (Wr.itoa_ne m); simp at *; omega) H2.out (Nat.le_refl _) K2.out
set_option maxHeartbeats 16000000 in
set_option maxRecDepth 100000 in
theorem number_pos (X : Nat) (S : List UInt8) (bad : Bool) (w : World) (h : LnIs w X S bad) (hS : S.length < 2147483648) (hn : Wr.neg S = false) (hne : S ≠ []) : Calls Tryd.prog 45 #[.pointer (some ⟨X, 0, none⟩)] w (NumEnds w X S bad (Li.numF S)) := by
  have c0 := h.c0
  have c1 := h.c1
  have f1 : w.frozen? ⟨X, 1, none⟩ = false := Lib.frozen_of_heap h 1
  have H := Lib.hid h
  have HN := Lib.hid hn
  clear h hn
  have hs1 : Li.sgn S = 0 := by unfold Li.sgn; rw [HN.out]; rfl
  obtain ⟨hlp, cz, hcz, hcz45⟩ : 0 < S.length ∧ ∃ c, (∀ h', (⟨S.toArray⟩ : ByteArray)[0]'h' = c) ∧ ((c.toNat : Int) == 45) = false := by
    cases S with
    | nil => exact absurd rfl hne
    | cons c t => exact ⟨by simp, c, fun _ => rfl, beq_eq_false_iff_ne.2 (fun e => by have := HN.out; simp [Wr.neg] at this; exact this (UInt8.toNat.inj (by show c.toNat = 45; omega)))⟩
  clear hne
  have HS1 := Lib.hid hs1
  clear hs1
  go_enter Tryd.func45, Tryd.ntmps45
  have hlp2 : (0 : Int) < (S.length : Int) := by omega
  go_wp2_with fail
  clear hcz hcz45
  go_loop [3, 4] (fun n k => ∃ j v : Nat, Hid (Li.Digs S j) ∧ j ≤ S.length ∧ j ≤ 21 ∧ k = .int .i64 j ∧ n = .int .i64 (-(v : Int)) ∧ v ≤ 9223372036854775808 ∧ Hid (Li.val S j = v)) (fun _ k => S.length - (intOf k).toNat)
  case atStart => exact ⟨0, 0, Lib.hid (by have := Li.Digs.start (S := S); rw [HS1.out] at this; exact this), by have := (Li.Digs.start (S := S)).hi; rw [HS1.out] at this; exact this, by omega, rfl, rfl, by omega, Lib.hid (by have := Li.val_start S; rw [HS1.out] at this; exact this)⟩
  case round =>
    obtain ⟨j, v, HD, hjl, hj21, rfl, rfl, hv63, HV⟩ := hrel
    by_cases hlt : j < S.length
    · obtain ⟨c, hcS⟩ : ∃ c, S[j] = c := ⟨_, rfl⟩
      have hx2 : ∀ h', (⟨S.toArray⟩ : ByteArray)[j]'h' = c := fun h' => (show S.toArray[j]'_ = S[j] by simp).trans hcS
      have HC : Hid (S[j]? = some c) := Lib.hid (by rw [List.getElem?_eq_getElem hlt, hcS])
      have hc255 : c.toNat < 256 := c.toNat_lt
      clear hcS
      by_cases h21 : j < 21
      · by_cases h48 : c.toNat < 48
        · have hst : ∀ m r, Li.IsNum S m r → m = (v : Int) := fun m r hm => by
            have h1 := (hm.stop_ HD.out (.inr (.inr ⟨c, HC.out, fun hd => by have := hd.1; omega⟩))).1
            rw [HV.out, HN.out] at h1
            simpa using h1
          have HO : Hid (Only S ((v : Int))) := Lib.hid hst
          clear hst
          by_cases hvb' : v ≤ 9223372036854775807
          · have HI : Hid (Wr.I64 (v : Int)) := Lib.hid (by unfold Wr.I64; omega)
            by_cases hv0 : v = 0
            · have hb0 : ((-(v : Int)) == (v : Int)) = true := by rw [hv0]; rfl
              have hb1 : ((-(v : Int)) != 0) = false := by rw [hv0]; rfl
              have HV0 := Lib.hid hv0
              clear hv0
              cases ht : Li.textF (Lib.itoa (v : Int)) S with
              | none =>
                have HT := Lib.hid ht
                clear ht
                go_wp2_with fail
                refine (dec_any (v : Int) HI.out _).mono ?_
                rintro e w1 ⟨rfl, k1⟩
                have H1 := Lib.hid (H.out.keep k1 (by simp))
                have K1 := Lib.hid (k1.weak (some X))
                clear k1
                go_wp2_with fail
                refine (text_any X S (Lib.itoa (v : Int)) bad _ H1.out).mono ?_
                rintro e w2 ⟨rfl, h2, k2⟩
                rw [HT.out] at h2
                have H2 := Lib.hid h2
                have K2 := Lib.hid (K1.out.trans k2)
                clear h2 k2
                have d0 := H2.out.c0
                have d1 := H2.out.c1
                have g1 : w2.frozen? ⟨X, 1, none⟩ = false := Lib.frozen_of_heap H2.out 1
                obtain ⟨cz, hy0⟩ : ∃ c, ∀ h', (⟨S.toArray⟩ : ByteArray)[0]'h' = c := ⟨S[0]'hlp, fun _ => rfl⟩
                by_cases h48 : cz.toNat < 48
                · go_wp2_with fail
                  go_ret
                  exact NumEnds.no (HO.out.text HT.out) H2.out (Nat.le_refl _) K2.out
                · by_cases h57 : 57 < cz.toNat
                  · go_wp2_with fail
                    go_ret
                    exact NumEnds.no (HO.out.text HT.out) H2.out (Nat.le_refl _) K2.out
                  · have hl58 : cz.toNat < 58 := by omega
                    go_wp2_with fail
                    go_ret
                    exact NumEnds.no (HO.out.text HT.out) (heap_set H2.out) (Nat.le_refl _) (K2.out.set _)
              | some r =>
                have HT := Lib.hid ht
                have hrl := text_len ht
                clear ht
                go_wp2_with fail
                refine (dec_any (v : Int) HI.out _).mono ?_
                rintro e w1 ⟨rfl, k1⟩
                have H1 := Lib.hid (H.out.keep k1 (by simp))
                have K1 := Lib.hid (k1.weak (some X))
                clear k1
                go_wp2_with fail
                refine (text_any X S (Lib.itoa (v : Int)) bad _ H1.out).mono ?_
                rintro e w2 ⟨rfl, h2, k2⟩
                rw [HT.out] at h2
                have H2 := Lib.hid h2
                have K2 := Lib.hid (K1.out.trans k2)
                clear h2 k2
                have d0 := H2.out.c0
                have d1 := H2.out.c1
                have g1 : w2.frozen? ⟨X, 1, none⟩ = false := Lib.frozen_of_heap H2.out 1
                cases r with
                | nil =>
                  go_wp2_with fail
                  go_ret
                  exact NumEnds.yes (Only.is HI.out HT.out (by simp)) H2.out K2.out
                | cons c t =>
                  have hy0 : ∀ h', (⟨(c :: t).toArray⟩ : ByteArray)[0]'h' = c := fun _ => rfl
                  by_cases h48 : c.toNat < 48
                  · go_wp2_with fail
                    go_ret
                    exact NumEnds.yes (Only.is HI.out HT.out (by intro x hx hd; injection hx with hx; subst hx; have := hd.1; omega)) H2.out K2.out
                  · by_cases h57 : 57 < c.toNat
                    · go_wp2_with fail
                      go_ret
                      exact NumEnds.yes (Only.is HI.out HT.out (by intro x hx hd; injection hx with hx; subst hx; have := hd.2; omega)) H2.out K2.out
                    · have hl58 : c.toNat < 58 := by omega
                      go_wp2_with fail
                      go_ret
                      exact NumEnds.no (HO.out.digit HT.out rfl ⟨by omega, by omega⟩) (heap_set H2.out) hrl (K2.out.set _)
            · have hb0 : ((-(v : Int)) == (v : Int)) = false := by simp; omega
              cases ht : Li.textF (Lib.itoa (v : Int)) S with
              | none =>
                have HT := Lib.hid ht
                clear ht
                go_wp2_with fail
                refine (dec_any (v : Int) HI.out _).mono ?_
                rintro e w1 ⟨rfl, k1⟩
                have H1 := Lib.hid (H.out.keep k1 (by simp))
                have K1 := Lib.hid (k1.weak (some X))
                clear k1
                go_wp2_with fail
                refine (text_any X S (Lib.itoa (v : Int)) bad _ H1.out).mono ?_
                rintro e w2 ⟨rfl, h2, k2⟩
                rw [HT.out] at h2
                have H2 := Lib.hid h2
                have K2 := Lib.hid (K1.out.trans k2)
                clear h2 k2
                have d0 := H2.out.c0
                have d1 := H2.out.c1
                have g1 : w2.frozen? ⟨X, 1, none⟩ = false := Lib.frozen_of_heap H2.out 1
                obtain ⟨cz, hy0⟩ : ∃ c, ∀ h', (⟨S.toArray⟩ : ByteArray)[0]'h' = c := ⟨S[0]'hlp, fun _ => rfl⟩
                by_cases h48 : cz.toNat < 48
                · go_wp2_with fail
                  go_ret
                  exact NumEnds.no (HO.out.text HT.out) H2.out (Nat.le_refl _) K2.out
                · by_cases h57 : 57 < cz.toNat
                  · go_wp2_with fail
                    go_ret
                    exact NumEnds.no (HO.out.text HT.out) H2.out (Nat.le_refl _) K2.out
                  · have hl58 : cz.toNat < 58 := by omega
                    go_wp2_with fail
                    go_ret
                    exact NumEnds.no (HO.out.text HT.out) (heap_set H2.out) (Nat.le_refl _) (K2.out.set _)
              | some r =>
                have HT := Lib.hid ht
                have hrl := text_len ht
                clear ht
                go_wp2_with fail
                refine (dec_any (v : Int) HI.out _).mono ?_
                rintro e w1 ⟨rfl, k1⟩
                have H1 := Lib.hid (H.out.keep k1 (by simp))
                have K1 := Lib.hid (k1.weak (some X))
                clear k1
                go_wp2_with fail
                refine (text_any X S (Lib.itoa (v : Int)) bad _ H1.out).mono ?_
                rintro e w2 ⟨rfl, h2, k2⟩
                rw [HT.out] at h2
                have H2 := Lib.hid h2
                have K2 := Lib.hid (K1.out.trans k2)
                clear h2 k2
                have d0 := H2.out.c0
                have d1 := H2.out.c1
                have g1 : w2.frozen? ⟨X, 1, none⟩ = false := Lib.frozen_of_heap H2.out 1
                cases r with
                | nil =>
                  go_wp2_with fail
                  go_ret
                  exact NumEnds.yes (Only.is HI.out HT.out (by simp)) H2.out K2.out
                | cons c t =>
                  have hy0 : ∀ h', (⟨(c :: t).toArray⟩ : ByteArray)[0]'h' = c := fun _ => rfl
                  by_cases h48 : c.toNat < 48
                  · go_wp2_with fail
                    go_ret
                    exact NumEnds.yes (Only.is HI.out HT.out (by intro x hx hd; injection hx with hx; subst hx; have := hd.1; omega)) H2.out K2.out
                  · by_cases h57 : 57 < c.toNat
                    · go_wp2_with fail
                      go_ret
                      exact NumEnds.yes (Only.is HI.out HT.out (by intro x hx hd; injection hx with hx; subst hx; have := hd.2; omega)) H2.out K2.out
                    · have hl58 : c.toNat < 58 := by omega
                      go_wp2_with fail
                      go_ret
                      exact NumEnds.no (HO.out.digit HT.out rfl ⟨by omega, by omega⟩) (heap_set H2.out) hrl (K2.out.set _)
          · have hvb : v = 9223372036854775808 := by omega
            obtain ⟨hb0, hb1, hb2⟩ := wrap_min v hvb
            have HVB := Lib.hid hvb
            have HV63 := Lib.hid hv63
            clear hvb hvb' hv63
            go_wp2
            go_ret
            exact NumEnds.no (fun m r hm => by have h1 := HO.out m r hm; have h2 := hm.i; have h3 := HVB.out; unfold Wr.I64 at h2; omega) (heap_set H.out) (Nat.le_refl _) ((Kp.refl _ _).set _)
        · by_cases h57 : 57 < c.toNat
          · have hst : ∀ m r, Li.IsNum S m r → m = (v : Int) := fun m r hm => by
              have h1 := (hm.stop_ HD.out (.inr (.inr ⟨c, HC.out, fun hd => by have := hd.2; omega⟩))).1
              rw [HV.out, HN.out] at h1
              simpa using h1
            have HO : Hid (Only S ((v : Int))) := Lib.hid hst
            clear hst
            by_cases hvb' : v ≤ 9223372036854775807
            · have HI : Hid (Wr.I64 (v : Int)) := Lib.hid (by unfold Wr.I64; omega)
              by_cases hv0 : v = 0
              · have hb0 : ((-(v : Int)) == (v : Int)) = true := by rw [hv0]; rfl
                have hb1 : ((-(v : Int)) != 0) = false := by rw [hv0]; rfl
                have HV0 := Lib.hid hv0
                clear hv0
                cases ht : Li.textF (Lib.itoa (v : Int)) S with
                | none =>
                  have HT := Lib.hid ht
                  clear ht
                  go_wp2_with fail
                  refine (dec_any (v : Int) HI.out _).mono ?_
                  rintro e w1 ⟨rfl, k1⟩
                  have H1 := Lib.hid (H.out.keep k1 (by simp))
                  have K1 := Lib.hid (k1.weak (some X))
                  clear k1
                  go_wp2_with fail
                  refine (text_any X S (Lib.itoa (v : Int)) bad _ H1.out).mono ?_
                  rintro e w2 ⟨rfl, h2, k2⟩
                  rw [HT.out] at h2
                  have H2 := Lib.hid h2
                  have K2 := Lib.hid (K1.out.trans k2)
                  clear h2 k2
                  have d0 := H2.out.c0
                  have d1 := H2.out.c1
                  have g1 : w2.frozen? ⟨X, 1, none⟩ = false := Lib.frozen_of_heap H2.out 1
                  obtain ⟨cz, hy0⟩ : ∃ c, ∀ h', (⟨S.toArray⟩ : ByteArray)[0]'h' = c := ⟨S[0]'hlp, fun _ => rfl⟩
                  by_cases h48 : cz.toNat < 48
                  · go_wp2_with fail
                    go_ret
                    exact NumEnds.no (HO.out.text HT.out) H2.out (Nat.le_refl _) K2.out
                  · by_cases h57 : 57 < cz.toNat
                    · go_wp2_with fail
                      go_ret
                      exact NumEnds.no (HO.out.text HT.out) H2.out (Nat.le_refl _) K2.out
                    · have hl58 : cz.toNat < 58 := by omega
                      go_wp2_with fail
                      go_ret
                      exact NumEnds.no (HO.out.text HT.out) (heap_set H2.out) (Nat.le_refl _) (K2.out.set _)
                | some r =>
                  have HT := Lib.hid ht
                  have hrl := text_len ht
                  clear ht
                  go_wp2_with fail
                  refine (dec_any (v : Int) HI.out _).mono ?_
                  rintro e w1 ⟨rfl, k1⟩
                  have H1 := Lib.hid (H.out.keep k1 (by simp))
                  have K1 := Lib.hid (k1.weak (some X))
                  clear k1
                  go_wp2_with fail
                  refine (text_any X S (Lib.itoa (v : Int)) bad _ H1.out).mono ?_
                  rintro e w2 ⟨rfl, h2, k2⟩
                  rw [HT.out] at h2
                  have H2 := Lib.hid h2
                  have K2 := Lib.hid (K1.out.trans k2)
                  clear h2 k2
                  have d0 := H2.out.c0
                  have d1 := H2.out.c1
                  have g1 : w2.frozen? ⟨X, 1, none⟩ = false := Lib.frozen_of_heap H2.out 1
                  cases r with
                  | nil =>
                    go_wp2_with fail
                    go_ret
                    exact NumEnds.yes (Only.is HI.out HT.out (by simp)) H2.out K2.out
                  | cons c t =>
                    have hy0 : ∀ h', (⟨(c :: t).toArray⟩ : ByteArray)[0]'h' = c := fun _ => rfl
                    by_cases h48 : c.toNat < 48
                    · go_wp2_with fail
                      go_ret
                      exact NumEnds.yes (Only.is HI.out HT.out (by intro x hx hd; injection hx with hx; subst hx; have := hd.1; omega)) H2.out K2.out
                    · by_cases h57 : 57 < c.toNat
                      · go_wp2_with fail
                        go_ret
                        exact NumEnds.yes (Only.is HI.out HT.out (by intro x hx hd; injection hx with hx; subst hx; have := hd.2; omega)) H2.out K2.out
                      · have hl58 : c.toNat < 58 := by omega
                        go_wp2_with fail
                        go_ret
                        exact NumEnds.no (HO.out.digit HT.out rfl ⟨by omega, by omega⟩) (heap_set H2.out) hrl (K2.out.set _)
              · have hb0 : ((-(v : Int)) == (v : Int)) = false := by simp; omega
                cases ht : Li.textF (Lib.itoa (v : Int)) S with
                | none =>
                  have HT := Lib.hid ht
                  clear ht
                  go_wp2_with fail
                  refine (dec_any (v : Int) HI.out _).mono ?_
                  rintro e w1 ⟨rfl, k1⟩
                  have H1 := Lib.hid (H.out.keep k1 (by simp))
                  have K1 := Lib.hid (k1.weak (some X))
                  clear k1
                  go_wp2_with fail
                  refine (text_any X S (Lib.itoa (v : Int)) bad _ H1.out).mono ?_
                  rintro e w2 ⟨rfl, h2, k2⟩
                  rw [HT.out] at h2
                  have H2 := Lib.hid h2
                  have K2 := Lib.hid (K1.out.trans k2)
                  clear h2 k2
                  have d0 := H2.out.c0
                  have d1 := H2.out.c1
                  have g1 : w2.frozen? ⟨X, 1, none⟩ = false := Lib.frozen_of_heap H2.out 1
                  obtain ⟨cz, hy0⟩ : ∃ c, ∀ h', (⟨S.toArray⟩ : ByteArray)[0]'h' = c := ⟨S[0]'hlp, fun _ => rfl⟩
                  by_cases h48 : cz.toNat < 48
                  · go_wp2_with fail
                    go_ret
                    exact NumEnds.no (HO.out.text HT.out) H2.out (Nat.le_refl _) K2.out
                  · by_cases h57 : 57 < cz.toNat
                    · go_wp2_with fail
                      go_ret
                      exact NumEnds.no (HO.out.text HT.out) H2.out (Nat.le_refl _) K2.out
                    · have hl58 : cz.toNat < 58 := by omega
                      go_wp2_with fail
                      go_ret
                      exact NumEnds.no (HO.out.text HT.out) (heap_set H2.out) (Nat.le_refl _) (K2.out.set _)
                | some r =>
                  have HT := Lib.hid ht
                  have hrl := text_len ht
                  clear ht
                  go_wp2_with fail
                  refine (dec_any (v : Int) HI.out _).mono ?_
                  rintro e w1 ⟨rfl, k1⟩
                  have H1 := Lib.hid (H.out.keep k1 (by simp))
                  have K1 := Lib.hid (k1.weak (some X))
                  clear k1
                  go_wp2_with fail
                  refine (text_any X S (Lib.itoa (v : Int)) bad _ H1.out).mono ?_
                  rintro e w2 ⟨rfl, h2, k2⟩
                  rw [HT.out] at h2
                  have H2 := Lib.hid h2
                  have K2 := Lib.hid (K1.out.trans k2)
                  clear h2 k2
                  have d0 := H2.out.c0
                  have d1 := H2.out.c1
                  have g1 : w2.frozen? ⟨X, 1, none⟩ = false := Lib.frozen_of_heap H2.out 1
                  cases r with
                  | nil =>
                    go_wp2_with fail
                    go_ret
                    exact NumEnds.yes (Only.is HI.out HT.out (by simp)) H2.out K2.out
                  | cons c t =>
                    have hy0 : ∀ h', (⟨(c :: t).toArray⟩ : ByteArray)[0]'h' = c := fun _ => rfl
                    by_cases h48 : c.toNat < 48
                    · go_wp2_with fail
                      go_ret
                      exact NumEnds.yes (Only.is HI.out HT.out (by intro x hx hd; injection hx with hx; subst hx; have := hd.1; omega)) H2.out K2.out
                    · by_cases h57 : 57 < c.toNat
                      · go_wp2_with fail
                        go_ret
                        exact NumEnds.yes (Only.is HI.out HT.out (by intro x hx hd; injection hx with hx; subst hx; have := hd.2; omega)) H2.out K2.out
                      · have hl58 : c.toNat < 58 := by omega
                        go_wp2_with fail
                        go_ret
                        exact NumEnds.no (HO.out.digit HT.out rfl ⟨by omega, by omega⟩) (heap_set H2.out) hrl (K2.out.set _)
            · have hvb : v = 9223372036854775808 := by omega
              obtain ⟨hb0, hb1, hb2⟩ := wrap_min v hvb
              have HVB := Lib.hid hvb
              have HV63 := Lib.hid hv63
              clear hvb hvb' hv63
              go_wp2
              go_ret
              exact NumEnds.no (fun m r hm => by have h1 := HO.out m r hm; have h2 := hm.i; have h3 := HVB.out; unfold Wr.I64 at h2; omega) (heap_set H.out) (Nat.le_refl _) ((Kp.refl _ _).set _)
          · have hc48 : (48 : Int) ≤ (c.toNat : Int) := by omega
            have hc57 : (c.toNat : Int) ≤ 57 := by omega
            have hl58 : c.toNat < 58 := by omega
            by_cases hv1 : 922337203685477580 < v
            · go_wp2_with fail
              go_ret
              exact NumEnds.no (fun m r hm => by have := hm.go HD.out HC.out ⟨by omega, by omega⟩; rw [HV.out] at this; omega) (heap_set H.out) (Nat.le_refl _) ((Kp.refl _ _).set _)
            · by_cases hv2 : v = 922337203685477580
              · have hb : (-(v : Int) == -922337203685477580) = true := by rw [hv2]; rfl
                have hv3 : 922337203685477580 ≤ v := by omega
                clear hv2
                by_cases hc8 : c.toNat ≤ 56
                · go_wp2_with fail
                  go_round
                  case rel => exact ⟨j + 1, 10 * v + (c.toNat - 48), Lib.hid (HD.out.step h21 HC.out ⟨by omega, by omega⟩), by omega, by omega, by go_num, by go_num, by omega, Lib.hid (by rw [Li.val_step HD.out.lo HC.out, HV.out])⟩
                  case measure => simp [intOf]; omega
                · go_wp2_with fail
                  go_ret
                  exact NumEnds.no (fun m r hm => by have := hm.go HD.out HC.out ⟨by omega, by omega⟩; rw [HV.out] at this; omega) (heap_set H.out) (Nat.le_refl _) ((Kp.refl _ _).set _)
              · have hb : (-(v : Int) == -922337203685477580) = false := by simp; omega
                go_wp2_with fail
                go_round
                case rel => exact ⟨j + 1, 10 * v + (c.toNat - 48), Lib.hid (HD.out.step h21 HC.out ⟨by omega, by omega⟩), by omega, by omega, by go_num, by go_num, by omega, Lib.hid (by rw [Li.val_step HD.out.lo HC.out, HV.out])⟩
                case measure => simp [intOf]; omega
      · obtain rfl : j = 21 := by omega
        have hst : ∀ m r, Li.IsNum S m r → m = (v : Int) := fun m r hm => by
          have h1 := (hm.stop_ HD.out (.inr (.inl rfl))).1
          rw [HV.out, HN.out] at h1
          simpa using h1
        have HO : Hid (Only S ((v : Int))) := Lib.hid hst
        clear hst
        by_cases hvb' : v ≤ 9223372036854775807
        · have HI : Hid (Wr.I64 (v : Int)) := Lib.hid (by unfold Wr.I64; omega)
          by_cases hv0 : v = 0
          · have hb0 : ((-(v : Int)) == (v : Int)) = true := by rw [hv0]; rfl
            have hb1 : ((-(v : Int)) != 0) = false := by rw [hv0]; rfl
            have HV0 := Lib.hid hv0
            clear hv0
            cases ht : Li.textF (Lib.itoa (v : Int)) S with
            | none =>
              have HT := Lib.hid ht
              clear ht
              go_wp2_with fail
              refine (dec_any (v : Int) HI.out _).mono ?_
              rintro e w1 ⟨rfl, k1⟩
              have H1 := Lib.hid (H.out.keep k1 (by simp))
              have K1 := Lib.hid (k1.weak (some X))
              clear k1
              go_wp2_with fail
              refine (text_any X S (Lib.itoa (v : Int)) bad _ H1.out).mono ?_
              rintro e w2 ⟨rfl, h2, k2⟩
              rw [HT.out] at h2
              have H2 := Lib.hid h2
              have K2 := Lib.hid (K1.out.trans k2)
              clear h2 k2
              have d0 := H2.out.c0
              have d1 := H2.out.c1
              have g1 : w2.frozen? ⟨X, 1, none⟩ = false := Lib.frozen_of_heap H2.out 1
              obtain ⟨cz, hy0⟩ : ∃ c, ∀ h', (⟨S.toArray⟩ : ByteArray)[0]'h' = c := ⟨S[0]'hlp, fun _ => rfl⟩
              by_cases h48 : cz.toNat < 48
              · go_wp2_with fail
                go_ret
                exact NumEnds.no (HO.out.text HT.out) H2.out (Nat.le_refl _) K2.out
              · by_cases h57 : 57 < cz.toNat
                · go_wp2_with fail
                  go_ret
                  exact NumEnds.no (HO.out.text HT.out) H2.out (Nat.le_refl _) K2.out
                · have hl58 : cz.toNat < 58 := by omega
                  go_wp2_with fail
                  go_ret
                  exact NumEnds.no (HO.out.text HT.out) (heap_set H2.out) (Nat.le_refl _) (K2.out.set _)
            | some r =>
              have HT := Lib.hid ht
              have hrl := text_len ht
              clear ht
              go_wp2_with fail
              refine (dec_any (v : Int) HI.out _).mono ?_
              rintro e w1 ⟨rfl, k1⟩
              have H1 := Lib.hid (H.out.keep k1 (by simp))
              have K1 := Lib.hid (k1.weak (some X))
              clear k1
              go_wp2_with fail
              refine (text_any X S (Lib.itoa (v : Int)) bad _ H1.out).mono ?_
              rintro e w2 ⟨rfl, h2, k2⟩
              rw [HT.out] at h2
              have H2 := Lib.hid h2
              have K2 := Lib.hid (K1.out.trans k2)
              clear h2 k2
              have d0 := H2.out.c0
              have d1 := H2.out.c1
              have g1 : w2.frozen? ⟨X, 1, none⟩ = false := Lib.frozen_of_heap H2.out 1
              cases r with
              | nil =>
                go_wp2_with fail
                go_ret
                exact NumEnds.yes (Only.is HI.out HT.out (by simp)) H2.out K2.out
              | cons c t =>
                have hy0 : ∀ h', (⟨(c :: t).toArray⟩ : ByteArray)[0]'h' = c := fun _ => rfl
                by_cases h48 : c.toNat < 48
                · go_wp2_with fail
                  go_ret
                  exact NumEnds.yes (Only.is HI.out HT.out (by intro x hx hd; injection hx with hx; subst hx; have := hd.1; omega)) H2.out K2.out
                · by_cases h57 : 57 < c.toNat
                  · go_wp2_with fail
                    go_ret
                    exact NumEnds.yes (Only.is HI.out HT.out (by intro x hx hd; injection hx with hx; subst hx; have := hd.2; omega)) H2.out K2.out
                  · have hl58 : c.toNat < 58 := by omega
                    go_wp2_with fail
                    go_ret
                    exact NumEnds.no (HO.out.digit HT.out rfl ⟨by omega, by omega⟩) (heap_set H2.out) hrl (K2.out.set _)
          · have hb0 : ((-(v : Int)) == (v : Int)) = false := by simp; omega
            cases ht : Li.textF (Lib.itoa (v : Int)) S with
            | none =>
              have HT := Lib.hid ht
              clear ht
              go_wp2_with fail
              refine (dec_any (v : Int) HI.out _).mono ?_
              rintro e w1 ⟨rfl, k1⟩
              have H1 := Lib.hid (H.out.keep k1 (by simp))
              have K1 := Lib.hid (k1.weak (some X))
              clear k1
              go_wp2_with fail
              refine (text_any X S (Lib.itoa (v : Int)) bad _ H1.out).mono ?_
              rintro e w2 ⟨rfl, h2, k2⟩
              rw [HT.out] at h2
              have H2 := Lib.hid h2
              have K2 := Lib.hid (K1.out.trans k2)
              clear h2 k2
              have d0 := H2.out.c0
              have d1 := H2.out.c1
              have g1 : w2.frozen? ⟨X, 1, none⟩ = false := Lib.frozen_of_heap H2.out 1
              obtain ⟨cz, hy0⟩ : ∃ c, ∀ h', (⟨S.toArray⟩ : ByteArray)[0]'h' = c := ⟨S[0]'hlp, fun _ => rfl⟩
              by_cases h48 : cz.toNat < 48
              · go_wp2_with fail
                go_ret
                exact NumEnds.no (HO.out.text HT.out) H2.out (Nat.le_refl _) K2.out
              · by_cases h57 : 57 < cz.toNat
                · go_wp2_with fail
                  go_ret
                  exact NumEnds.no (HO.out.text HT.out) H2.out (Nat.le_refl _) K2.out
                · have hl58 : cz.toNat < 58 := by omega
                  go_wp2_with fail
                  go_ret
                  exact NumEnds.no (HO.out.text HT.out) (heap_set H2.out) (Nat.le_refl _) (K2.out.set _)
            | some r =>
              have HT := Lib.hid ht
              have hrl := text_len ht
              clear ht
              go_wp2_with fail
              refine (dec_any (v : Int) HI.out _).mono ?_
              rintro e w1 ⟨rfl, k1⟩
              have H1 := Lib.hid (H.out.keep k1 (by simp))
              have K1 := Lib.hid (k1.weak (some X))
              clear k1
              go_wp2_with fail
              refine (text_any X S (Lib.itoa (v : Int)) bad _ H1.out).mono ?_
              rintro e w2 ⟨rfl, h2, k2⟩
              rw [HT.out] at h2
              have H2 := Lib.hid h2
              have K2 := Lib.hid (K1.out.trans k2)
              clear h2 k2
              have d0 := H2.out.c0
              have d1 := H2.out.c1
              have g1 : w2.frozen? ⟨X, 1, none⟩ = false := Lib.frozen_of_heap H2.out 1
              cases r with
              | nil =>
                go_wp2_with fail
                go_ret
                exact NumEnds.yes (Only.is HI.out HT.out (by simp)) H2.out K2.out
              | cons c t =>
                have hy0 : ∀ h', (⟨(c :: t).toArray⟩ : ByteArray)[0]'h' = c := fun _ => rfl
                by_cases h48 : c.toNat < 48
                · go_wp2_with fail
                  go_ret
                  exact NumEnds.yes (Only.is HI.out HT.out (by intro x hx hd; injection hx with hx; subst hx; have := hd.1; omega)) H2.out K2.out
                · by_cases h57 : 57 < c.toNat
                  · go_wp2_with fail
                    go_ret
                    exact NumEnds.yes (Only.is HI.out HT.out (by intro x hx hd; injection hx with hx; subst hx; have := hd.2; omega)) H2.out K2.out
                  · have hl58 : c.toNat < 58 := by omega
                    go_wp2_with fail
                    go_ret
                    exact NumEnds.no (HO.out.digit HT.out rfl ⟨by omega, by omega⟩) (heap_set H2.out) hrl (K2.out.set _)
        · have hvb : v = 9223372036854775808 := by omega
          obtain ⟨hb0, hb1, hb2⟩ := wrap_min v hvb
          have HVB := Lib.hid hvb
          have HV63 := Lib.hid hv63
          clear hvb hvb' hv63
          go_wp2
          go_ret
          exact NumEnds.no (fun m r hm => by have h1 := HO.out m r hm; have h2 := hm.i; have h3 := HVB.out; unfold Wr.I64 at h2; omega) (heap_set H.out) (Nat.le_refl _) ((Kp.refl _ _).set _)
    · obtain rfl : j = S.length := by omega
      have hst : ∀ m r, Li.IsNum S m r → m = (v : Int) := fun m r hm => by
        have h1 := (hm.stop_ HD.out (.inl rfl)).1
        rw [HV.out, HN.out] at h1
        simpa using h1
      have HO : Hid (Only S ((v : Int))) := Lib.hid hst
      clear hst
      by_cases hvb' : v ≤ 9223372036854775807
      · have HI : Hid (Wr.I64 (v : Int)) := Lib.hid (by unfold Wr.I64; omega)
        by_cases hv0 : v = 0
        · have hb0 : ((-(v : Int)) == (v : Int)) = true := by rw [hv0]; rfl
          have hb1 : ((-(v : Int)) != 0) = false := by rw [hv0]; rfl
          have HV0 := Lib.hid hv0
          clear hv0
          cases ht : Li.textF (Lib.itoa (v : Int)) S with
          | none =>
            have HT := Lib.hid ht
            clear ht
            go_wp2_with fail
            refine (dec_any (v : Int) HI.out _).mono ?_
            rintro e w1 ⟨rfl, k1⟩
            have H1 := Lib.hid (H.out.keep k1 (by simp))
            have K1 := Lib.hid (k1.weak (some X))
            clear k1
            go_wp2_with fail
            refine (text_any X S (Lib.itoa (v : Int)) bad _ H1.out).mono ?_
            rintro e w2 ⟨rfl, h2, k2⟩
            rw [HT.out] at h2
            have H2 := Lib.hid h2
            have K2 := Lib.hid (K1.out.trans k2)
            clear h2 k2
            have d0 := H2.out.c0
            have d1 := H2.out.c1
            have g1 : w2.frozen? ⟨X, 1, none⟩ = false := Lib.frozen_of_heap H2.out 1
            obtain ⟨cz, hy0⟩ : ∃ c, ∀ h', (⟨S.toArray⟩ : ByteArray)[0]'h' = c := ⟨S[0]'hlp, fun _ => rfl⟩
            by_cases h48 : cz.toNat < 48
            · go_wp2_with fail
              go_ret
              exact NumEnds.no (HO.out.text HT.out) H2.out (Nat.le_refl _) K2.out
            · by_cases h57 : 57 < cz.toNat
              · go_wp2_with fail
                go_ret
                exact NumEnds.no (HO.out.text HT.out) H2.out (Nat.le_refl _) K2.out
              · have hl58 : cz.toNat < 58 := by omega
                go_wp2_with fail
                go_ret
                exact NumEnds.no (HO.out.text HT.out) (heap_set H2.out) (Nat.le_refl _) (K2.out.set _)
          | some r =>
            have HT := Lib.hid ht
            have hrl := text_len ht
            clear ht
            go_wp2_with fail
            refine (dec_any (v : Int) HI.out _).mono ?_
            rintro e w1 ⟨rfl, k1⟩
            have H1 := Lib.hid (H.out.keep k1 (by simp))
            have K1 := Lib.hid (k1.weak (some X))
            clear k1
            go_wp2_with fail
            refine (text_any X S (Lib.itoa (v : Int)) bad _ H1.out).mono ?_
            rintro e w2 ⟨rfl, h2, k2⟩
            rw [HT.out] at h2
            have H2 := Lib.hid h2
            have K2 := Lib.hid (K1.out.trans k2)
            clear h2 k2
            have d0 := H2.out.c0
            have d1 := H2.out.c1
            have g1 : w2.frozen? ⟨X, 1, none⟩ = false := Lib.frozen_of_heap H2.out 1
            cases r with
            | nil =>
              go_wp2_with fail
              go_ret
              exact NumEnds.yes (Only.is HI.out HT.out (by simp)) H2.out K2.out
            | cons c t =>
              have hy0 : ∀ h', (⟨(c :: t).toArray⟩ : ByteArray)[0]'h' = c := fun _ => rfl
              by_cases h48 : c.toNat < 48
              · go_wp2_with fail
                go_ret
                exact NumEnds.yes (Only.is HI.out HT.out (by intro x hx hd; injection hx with hx; subst hx; have := hd.1; omega)) H2.out K2.out
              · by_cases h57 : 57 < c.toNat
                · go_wp2_with fail
                  go_ret
                  exact NumEnds.yes (Only.is HI.out HT.out (by intro x hx hd; injection hx with hx; subst hx; have := hd.2; omega)) H2.out K2.out
                · have hl58 : c.toNat < 58 := by omega
                  go_wp2_with fail
                  go_ret
                  exact NumEnds.no (HO.out.digit HT.out rfl ⟨by omega, by omega⟩) (heap_set H2.out) hrl (K2.out.set _)
        · have hb0 : ((-(v : Int)) == (v : Int)) = false := by simp; omega
          cases ht : Li.textF (Lib.itoa (v : Int)) S with
          | none =>
            have HT := Lib.hid ht
            clear ht
            go_wp2_with fail
            refine (dec_any (v : Int) HI.out _).mono ?_
            rintro e w1 ⟨rfl, k1⟩
            have H1 := Lib.hid (H.out.keep k1 (by simp))
            have K1 := Lib.hid (k1.weak (some X))
            clear k1
            go_wp2_with fail
            refine (text_any X S (Lib.itoa (v : Int)) bad _ H1.out).mono ?_
            rintro e w2 ⟨rfl, h2, k2⟩
            rw [HT.out] at h2
            have H2 := Lib.hid h2
            have K2 := Lib.hid (K1.out.trans k2)
            clear h2 k2
            have d0 := H2.out.c0
            have d1 := H2.out.c1
            have g1 : w2.frozen? ⟨X, 1, none⟩ = false := Lib.frozen_of_heap H2.out 1
            obtain ⟨cz, hy0⟩ : ∃ c, ∀ h', (⟨S.toArray⟩ : ByteArray)[0]'h' = c := ⟨S[0]'hlp, fun _ => rfl⟩
            by_cases h48 : cz.toNat < 48
            · go_wp2_with fail
              go_ret
              exact NumEnds.no (HO.out.text HT.out) H2.out (Nat.le_refl _) K2.out
            · by_cases h57 : 57 < cz.toNat
              · go_wp2_with fail
                go_ret
                exact NumEnds.no (HO.out.text HT.out) H2.out (Nat.le_refl _) K2.out
              · have hl58 : cz.toNat < 58 := by omega
                go_wp2_with fail
                go_ret
                exact NumEnds.no (HO.out.text HT.out) (heap_set H2.out) (Nat.le_refl _) (K2.out.set _)
          | some r =>
            have HT := Lib.hid ht
            have hrl := text_len ht
            clear ht
            go_wp2_with fail
            refine (dec_any (v : Int) HI.out _).mono ?_
            rintro e w1 ⟨rfl, k1⟩
            have H1 := Lib.hid (H.out.keep k1 (by simp))
            have K1 := Lib.hid (k1.weak (some X))
            clear k1
            go_wp2_with fail
            refine (text_any X S (Lib.itoa (v : Int)) bad _ H1.out).mono ?_
            rintro e w2 ⟨rfl, h2, k2⟩
            rw [HT.out] at h2
            have H2 := Lib.hid h2
            have K2 := Lib.hid (K1.out.trans k2)
            clear h2 k2
            have d0 := H2.out.c0
            have d1 := H2.out.c1
            have g1 : w2.frozen? ⟨X, 1, none⟩ = false := Lib.frozen_of_heap H2.out 1
            cases r with
            | nil =>
              go_wp2_with fail
              go_ret
              exact NumEnds.yes (Only.is HI.out HT.out (by simp)) H2.out K2.out
            | cons c t =>
              have hy0 : ∀ h', (⟨(c :: t).toArray⟩ : ByteArray)[0]'h' = c := fun _ => rfl
              by_cases h48 : c.toNat < 48
              · go_wp2_with fail
                go_ret
                exact NumEnds.yes (Only.is HI.out HT.out (by intro x hx hd; injection hx with hx; subst hx; have := hd.1; omega)) H2.out K2.out
              · by_cases h57 : 57 < c.toNat
                · go_wp2_with fail
                  go_ret
                  exact NumEnds.yes (Only.is HI.out HT.out (by intro x hx hd; injection hx with hx; subst hx; have := hd.2; omega)) H2.out K2.out
                · have hl58 : c.toNat < 58 := by omega
                  go_wp2_with fail
                  go_ret
                  exact NumEnds.no (HO.out.digit HT.out rfl ⟨by omega, by omega⟩) (heap_set H2.out) hrl (K2.out.set _)
      · have hvb : v = 9223372036854775808 := by omega
        obtain ⟨hb0, hb1, hb2⟩ := wrap_min v hvb
        have HVB := Lib.hid hvb
        have HV63 := Lib.hid hv63
        clear hvb hvb' hv63
        go_wp2
        go_ret
        exact NumEnds.no (fun m r hm => by have h1 := HO.out m r hm; have h2 := hm.i; have h3 := HVB.out; unfold Wr.I64 at h2; omega) (heap_set H.out) (Nat.le_refl _) ((Kp.refl _ _).set _)
theorem number_any (X : Nat) (S : List UInt8) (bad : Bool) (w : World) (h : LnIs w X S bad) (hS : S.length < 2147483648) : Calls Tryd.prog 45 #[.pointer (some ⟨X, 0, none⟩)] w (NumEnds w X S bad (Li.numF S)) := by
  by_cases hn : Wr.neg S = true
  · obtain ⟨t, rfl⟩ : ∃ t, S = 45 :: t := by
      cases S with
      | nil => simp [Wr.neg] at hn
      | cons c t => simp [Wr.neg] at hn; exact ⟨t, by rw [hn]⟩
    exact number_neg X _ bad w h hS hn t rfl
  · by_cases hne : S = []
    · subst hne; exact number_nil X bad w h
    · exact number_pos X S bad w h hS (by simpa using hn) hne

end Go.Proofs.YtldjhjbodhhnbaaDoor
