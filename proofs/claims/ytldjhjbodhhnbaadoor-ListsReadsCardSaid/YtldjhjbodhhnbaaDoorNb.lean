/- The reference's line: taking a number. Condition: what is read is shorter than 2^31 bytes. -/
import Derived.Test.YtldjhjbodhhnbaaDoorTx
import Derived.Test.YtldjhjbodhhnbaaDoorLiF
import Derived.Test.YtldjhjbodhhnbaaDoorRn
namespace Go.Proofs.YtldjhjbodhhnbaaDoor
open Go.RowKit

theorem wrap_min : ∀ v : Nat, v = 9223372036854775808 → (-(v : Int) == wrap64 (v : Int)) = true ∧ (wrap64 (v : Int) != 0) = true ∧ (-(v : Int) != 0) = true := by
  intro v h; subst h; exact ⟨by decide +kernel, by decide +kernel, by decide +kernel⟩
def NumEnds (w : World) (X : Nat) (S : List UInt8) (bad : Bool) (o : Option (Int × List UInt8)) (E : Ending) (w' : World) : Prop :=
  (match o with
  | some (n, r) => E = .returned (.int .i64 n) ∧ LnIs w' X r bad
  | none => ∃ (v : Int) (S' : List UInt8), E = .returned (.int .i64 v) ∧ LnIs w' X S' true ∧ S'.length ≤ S.length) ∧ Kp w w' (some X)
theorem num_none {S : List UInt8} (h : ∀ m r, Li.IsNum S m r → False) : Li.numF S = none := by
  cases e : Li.numF S with
  | none => rfl
  | some p => exact (h p.1 p.2 (Li.numF_iff.1 e)).elim
theorem NumEnds.no {w w' : World} {X : Nat} {S S' : List UInt8} {bad : Bool} {v : Int} (h : ∀ m r, Li.IsNum S m r → False) (h1 : LnIs w' X S' true) (hl : S'.length ≤ S.length) (k : Kp w w' (some X)) : NumEnds w X S bad (Li.numF S) (.returned (.int .i64 v)) w' := by
  rw [num_none h]; exact ⟨⟨v, S', rfl, h1, hl⟩, k⟩
theorem NumEnds.yes {w w' : World} {X : Nat} {S r : List UInt8} {bad : Bool} {n : Int} (h : Li.IsNum S n r) (h1 : LnIs w' X r bad) (k : Kp w w' (some X)) : NumEnds w X S bad (Li.numF S) (.returned (.int .i64 n)) w' := by
  rw [Li.numF_iff.2 h]; exact ⟨⟨rfl, h1⟩, k⟩
/-- What the loop has found: if a number stands here at all, it is n. -/
def Only (S : List UInt8) (n : Int) : Prop := ∀ m r, Li.IsNum S m r → m = n
theorem Only.text {S : List UInt8} {n : Int} (h : Only S n) (ht : Li.textF (Lib.itoa n) S = none) : ∀ m r, Li.IsNum S m r → False := fun m r hm => by
  obtain rfl := h m r hm
  rw [Li.textF_some.2 hm.eq] at ht; cases ht
theorem Only.digit {S r : List UInt8} {n : Int} (h : Only S n) (ht : Li.textF (Lib.itoa n) S = some r) {c : UInt8} {t : List UInt8} (hr : r = c :: t) (hc : Li.dg c) : ∀ m r, Li.IsNum S m r → False := fun m r' hm => by
  obtain rfl := h m r' hm
  have h1 := Li.textF_some.1 ht
  rw [hm.eq] at h1
  have h2 := List.append_cancel_left h1
  exact hm.stop c (by rw [h2, hr]; rfl) hc
theorem Only.is {S r : List UInt8} {n : Int} (hI : Wr.I64 n) (ht : Li.textF (Lib.itoa n) S = some r) (hr : ∀ c, r.head? = some c → ¬ Li.dg c) : Li.IsNum S n r := ⟨Li.textF_some.1 ht, hI, hr⟩
theorem text_len {t S r : List UInt8} (h : Li.textF t S = some r) : r.length ≤ S.length := by
  rw [Li.textF_some.1 h, List.length_append]; omega
set_option maxHeartbeats 16000000 in
set_option maxRecDepth 100000 in
theorem number_neg (X : Nat) (S : List UInt8) (bad : Bool) (w : World) (h : LnIs w X S bad) (hS : S.length < 2147483648) (hn : Wr.neg S = true) (t0 : List UInt8) (hs : S = 45 :: t0) : Calls Tryd.prog 45 #[.pointer (some ⟨X, 0, none⟩)] w (NumEnds w X S bad (Li.numF S)) := by
  have c0 := h.c0
  have c1 := h.c1
  have f1 : w.frozen? ⟨X, 1, none⟩ = false := Lib.frozen_of_heap h 1
  have H := Lib.hid h
  have HN := Lib.hid hn
  clear h hn
  have hx0 : ∀ h', (⟨S.toArray⟩ : ByteArray)[0]'h' = 45 := by subst hs; exact fun _ => rfl
  have hl0 : (0 : Int) < (S.length : Int) := by subst hs; simp
  have hs1 : Li.sgn S = 1 := by subst hs; rfl
  clear hs
  have HS1 := Lib.hid hs1
  clear hs1
  go_enter Tryd.func45, Tryd.ntmps45
  go_wp2_with fail
  go_loop [3, 4] (fun n k => ∃ j v : Nat, Hid (Li.Digs S j) ∧ j ≤ S.length ∧ j ≤ 21 ∧ k = .int .i64 j ∧ n = .int .i64 (-(v : Int)) ∧ v ≤ 9223372036854775808 ∧ Hid (Li.val S j = v)) (fun _ k => S.length - (intOf k).toNat)
  case atStart => exact ⟨1, 0, Lib.hid (by have := Li.Digs.start (S := S); rw [HS1.out] at this; exact this), by have := (Li.Digs.start (S := S)).hi; rw [HS1.out] at this; exact this, by omega, rfl, rfl, by omega, Lib.hid (by have := Li.val_start S; rw [HS1.out] at this; exact this)⟩
  case round =>
    obtain ⟨j, v, HD, hjl, hj21, rfl, rfl, hv63, HV⟩ := hrel
    by_cases hlt : j < S.length
    · obtain ⟨c, hcS⟩ : ∃ c, S[j] = c := ⟨_, rfl⟩
      have hx2 : ∀ h', (⟨S.toArray⟩ : ByteArray)[j]'h' = c := fun h' => (show S.toArray[j]'_ = S[j] by simp).trans hcS
      have HC : Hid (S[j]? = some c) := Lib.hid (by rw [List.getElem?_eq_getElem hlt, hcS])
      have hc255 : c.toNat < 256 := c.toNat_lt
      clear hcS
      by_cases h21 : j < 21
      · by_cases h48 : c.toNat < 48
        · have hst : ∀ m r, Li.IsNum S m r → m = -(v : Int) := fun m r hm => by
            have h1 := (hm.stop_ HD.out (.inr (.inr ⟨c, HC.out, fun hd => by have := hd.1; omega⟩))).1
            rw [HV.out, HN.out] at h1
            simpa using h1
          have HO : Hid (Only S (-(v : Int))) := Lib.hid hst
          clear hst
          have HI : Hid (Wr.I64 (-(v : Int))) := Lib.hid (by unfold Wr.I64; omega)
          cases ht : Li.textF (Lib.itoa (-(v : Int))) S with
          | none =>
            have HT := Lib.hid ht
            clear ht
            go_wp2_with fail
            refine (dec_any (-(v : Int)) HI.out _).mono ?_
            rintro e w1 ⟨rfl, k1⟩
            have H1 := Lib.hid (H.out.keep k1 (by simp))
            have K1 := Lib.hid (k1.weak (some X))
            clear k1
            go_wp2_with fail
            refine (text_any X S (Lib.itoa (-(v : Int))) bad _ H1.out).mono ?_
            rintro e w2 ⟨rfl, h2, k2⟩
            rw [HT.out] at h2
            have H2 := Lib.hid h2
            have K2 := Lib.hid (K1.out.trans k2)
            clear h2 k2
            have d0 := H2.out.c0
            have d1 := H2.out.c1
            have g1 : w2.frozen? ⟨X, 1, none⟩ = false := Lib.frozen_of_heap H2.out 1
            go_wp2_with fail
            go_ret
            exact NumEnds.no (HO.out.text HT.out) H2.out (Nat.le_refl _) K2.out
          | some r =>
            have HT := Lib.hid ht
            have hrl := text_len ht
            clear ht
            go_wp2_with fail
            refine (dec_any (-(v : Int)) HI.out _).mono ?_
            rintro e w1 ⟨rfl, k1⟩
            have H1 := Lib.hid (H.out.keep k1 (by simp))
            have K1 := Lib.hid (k1.weak (some X))
            clear k1
            go_wp2_with fail
            refine (text_any X S (Lib.itoa (-(v : Int))) bad _ H1.out).mono ?_
            rintro e w2 ⟨rfl, h2, k2⟩
            rw [HT.out] at h2
            have H2 := Lib.hid h2
            have K2 := Lib.hid (K1.out.trans k2)
            clear h2 k2
            have d0 := H2.out.c0
            have d1 := H2.out.c1
            have g1 : w2.frozen? ⟨X, 1, none⟩ = false := Lib.frozen_of_heap H2.out 1
            cases r with
            | nil =>
              go_wp2_with fail
              go_ret
              exact NumEnds.yes (Only.is HI.out HT.out (by simp)) H2.out K2.out
            | cons c t =>
              have hy0 : ∀ h', (⟨(c :: t).toArray⟩ : ByteArray)[0]'h' = c := fun _ => rfl
              by_cases h48 : c.toNat < 48
              · go_wp2_with fail
                go_ret
                exact NumEnds.yes (Only.is HI.out HT.out (by intro x hx hd; injection hx with hx; subst hx; have := hd.1; omega)) H2.out K2.out
              · by_cases h57 : 57 < c.toNat
                · go_wp2_with fail
                  go_ret
                  exact NumEnds.yes (Only.is HI.out HT.out (by intro x hx hd; injection hx with hx; subst hx; have := hd.2; omega)) H2.out K2.out
                · have hl58 : c.toNat < 58 := by omega
                  go_wp2_with fail
                  go_ret
                  exact NumEnds.no (HO.out.digit HT.out rfl ⟨by omega, by omega⟩) (heap_set H2.out) hrl (K2.out.set _)
        · by_cases h57 : 57 < c.toNat
          · have hst : ∀ m r, Li.IsNum S m r → m = -(v : Int) := fun m r hm => by
              have h1 := (hm.stop_ HD.out (.inr (.inr ⟨c, HC.out, fun hd => by have := hd.2; omega⟩))).1
              rw [HV.out, HN.out] at h1
              simpa using h1
            have HO : Hid (Only S (-(v : Int))) := Lib.hid hst
            clear hst
            have HI : Hid (Wr.I64 (-(v : Int))) := Lib.hid (by unfold Wr.I64; omega)
            cases ht : Li.textF (Lib.itoa (-(v : Int))) S with
            | none =>
              have HT := Lib.hid ht
              clear ht
              go_wp2_with fail
              refine (dec_any (-(v : Int)) HI.out _).mono ?_
              rintro e w1 ⟨rfl, k1⟩
              have H1 := Lib.hid (H.out.keep k1 (by simp))
              have K1 := Lib.hid (k1.weak (some X))
              clear k1
              go_wp2_with fail
              refine (text_any X S (Lib.itoa (-(v : Int))) bad _ H1.out).mono ?_
              rintro e w2 ⟨rfl, h2, k2⟩
              rw [HT.out] at h2
              have H2 := Lib.hid h2
              have K2 := Lib.hid (K1.out.trans k2)
              clear h2 k2
              have d0 := H2.out.c0
              have d1 := H2.out.c1
              have g1 : w2.frozen? ⟨X, 1, none⟩ = false := Lib.frozen_of_heap H2.out 1
              go_wp2_with fail
              go_ret
              exact NumEnds.no (HO.out.text HT.out) H2.out (Nat.le_refl _) K2.out
            | some r =>
              have HT := Lib.hid ht
              have hrl := text_len ht
              clear ht
              go_wp2_with fail
              refine (dec_any (-(v : Int)) HI.out _).mono ?_
              rintro e w1 ⟨rfl, k1⟩
              have H1 := Lib.hid (H.out.keep k1 (by simp))
              have K1 := Lib.hid (k1.weak (some X))
              clear k1
              go_wp2_with fail
              refine (text_any X S (Lib.itoa (-(v : Int))) bad _ H1.out).mono ?_
              rintro e w2 ⟨rfl, h2, k2⟩
              rw [HT.out] at h2
              have H2 := Lib.hid h2
              have K2 := Lib.hid (K1.out.trans k2)
              clear h2 k2
              have d0 := H2.out.c0
              have d1 := H2.out.c1
              have g1 : w2.frozen? ⟨X, 1, none⟩ = false := Lib.frozen_of_heap H2.out 1
              cases r with
              | nil =>
                go_wp2_with fail
                go_ret
                exact NumEnds.yes (Only.is HI.out HT.out (by simp)) H2.out K2.out
              | cons c t =>
                have hy0 : ∀ h', (⟨(c :: t).toArray⟩ : ByteArray)[0]'h' = c := fun _ => rfl
                by_cases h48 : c.toNat < 48
                · go_wp2_with fail
                  go_ret
                  exact NumEnds.yes (Only.is HI.out HT.out (by intro x hx hd; injection hx with hx; subst hx; have := hd.1; omega)) H2.out K2.out
                · by_cases h57 : 57 < c.toNat
                  · go_wp2_with fail
                    go_ret
                    exact NumEnds.yes (Only.is HI.out HT.out (by intro x hx hd; injection hx with hx; subst hx; have := hd.2; omega)) H2.out K2.out
                  · have hl58 : c.toNat < 58 := by omega
                    go_wp2_with fail
                    go_ret
                    exact NumEnds.no (HO.out.digit HT.out rfl ⟨by omega, by omega⟩) (heap_set H2.out) hrl (K2.out.set _)
          · have hc48 : (48 : Int) ≤ (c.toNat : Int) := by omega
            have hc57 : (c.toNat : Int) ≤ 57 := by omega
            have hl58 : c.toNat < 58 := by omega
            by_cases hv1 : 922337203685477580 < v
            · go_wp2_with fail
              go_ret
              exact NumEnds.no (fun m r hm => by have := hm.go HD.out HC.out ⟨by omega, by omega⟩; rw [HV.out] at this; omega) (heap_set H.out) (Nat.le_refl _) ((Kp.refl _ _).set _)
            · by_cases hv2 : v = 922337203685477580
              · have hb : (-(v : Int) == -922337203685477580) = true := by rw [hv2]; rfl
                have hv3 : 922337203685477580 ≤ v := by omega
                clear hv2
                by_cases hc8 : c.toNat ≤ 56
                · go_wp2_with fail
                  go_round
                  case rel => exact ⟨j + 1, 10 * v + (c.toNat - 48), Lib.hid (HD.out.step h21 HC.out ⟨by omega, by omega⟩), by omega, by omega, by go_num, by go_num, by omega, Lib.hid (by rw [Li.val_step HD.out.lo HC.out, HV.out])⟩
                  case measure => simp [intOf]; omega
                · go_wp2_with fail
                  go_ret
                  exact NumEnds.no (fun m r hm => by have := hm.go HD.out HC.out ⟨by omega, by omega⟩; rw [HV.out] at this; omega) (heap_set H.out) (Nat.le_refl _) ((Kp.refl _ _).set _)
              · have hb : (-(v : Int) == -922337203685477580) = false := by simp; omega
                go_wp2_with fail
                go_round
                case rel => exact ⟨j + 1, 10 * v + (c.toNat - 48), Lib.hid (HD.out.step h21 HC.out ⟨by omega, by omega⟩), by omega, by omega, by go_num, by go_num, by omega, Lib.hid (by rw [Li.val_step HD.out.lo HC.out, HV.out])⟩
                case measure => simp [intOf]; omega
      · obtain rfl : j = 21 := by omega
        have hst : ∀ m r, Li.IsNum S m r → m = -(v : Int) := fun m r hm => by
          have h1 := (hm.stop_ HD.out (.inr (.inl rfl))).1
          rw [HV.out, HN.out] at h1
          simpa using h1
        have HO : Hid (Only S (-(v : Int))) := Lib.hid hst
        clear hst
        have HI : Hid (Wr.I64 (-(v : Int))) := Lib.hid (by unfold Wr.I64; omega)
        cases ht : Li.textF (Lib.itoa (-(v : Int))) S with
        | none =>
          have HT := Lib.hid ht
          clear ht
          go_wp2_with fail
          refine (dec_any (-(v : Int)) HI.out _).mono ?_
          rintro e w1 ⟨rfl, k1⟩
          have H1 := Lib.hid (H.out.keep k1 (by simp))
          have K1 := Lib.hid (k1.weak (some X))
          clear k1
          go_wp2_with fail
          refine (text_any X S (Lib.itoa (-(v : Int))) bad _ H1.out).mono ?_
          rintro e w2 ⟨rfl, h2, k2⟩
          rw [HT.out] at h2
          have H2 := Lib.hid h2
          have K2 := Lib.hid (K1.out.trans k2)
          clear h2 k2
          have d0 := H2.out.c0
          have d1 := H2.out.c1
          have g1 : w2.frozen? ⟨X, 1, none⟩ = false := Lib.frozen_of_heap H2.out 1
          go_wp2_with fail
          go_ret
          exact NumEnds.no (HO.out.text HT.out) H2.out (Nat.le_refl _) K2.out
        | some r =>
          have HT := Lib.hid ht
          have hrl := text_len ht
          clear ht
          go_wp2_with fail
          refine (dec_any (-(v : Int)) HI.out _).mono ?_
          rintro e w1 ⟨rfl, k1⟩
          have H1 := Lib.hid (H.out.keep k1 (by simp))
          have K1 := Lib.hid (k1.weak (some X))
          clear k1
          go_wp2_with fail
          refine (text_any X S (Lib.itoa (-(v : Int))) bad _ H1.out).mono ?_
          rintro e w2 ⟨rfl, h2, k2⟩
          rw [HT.out] at h2
          have H2 := Lib.hid h2
          have K2 := Lib.hid (K1.out.trans k2)
          clear h2 k2
          have d0 := H2.out.c0
          have d1 := H2.out.c1
          have g1 : w2.frozen? ⟨X, 1, none⟩ = false := Lib.frozen_of_heap H2.out 1
          cases r with
          | nil =>
            go_wp2_with fail
            go_ret
            exact NumEnds.yes (Only.is HI.out HT.out (by simp)) H2.out K2.out
          | cons c t =>
            have hy0 : ∀ h', (⟨(c :: t).toArray⟩ : ByteArray)[0]'h' = c := fun _ => rfl
            by_cases h48 : c.toNat < 48
            · go_wp2_with fail
              go_ret
              exact NumEnds.yes (Only.is HI.out HT.out (by intro x hx hd; injection hx with hx; subst hx; have := hd.1; omega)) H2.out K2.out
            · by_cases h57 : 57 < c.toNat
              · go_wp2_with fail
                go_ret
                exact NumEnds.yes (Only.is HI.out HT.out (by intro x hx hd; injection hx with hx; subst hx; have := hd.2; omega)) H2.out K2.out
              · have hl58 : c.toNat < 58 := by omega
                go_wp2_with fail
                go_ret
                exact NumEnds.no (HO.out.digit HT.out rfl ⟨by omega, by omega⟩) (heap_set H2.out) hrl (K2.out.set _)
    · obtain rfl : j = S.length := by omega
      have hst : ∀ m r, Li.IsNum S m r → m = -(v : Int) := fun m r hm => by
        have h1 := (hm.stop_ HD.out (.inl rfl)).1
        rw [HV.out, HN.out] at h1
        simpa using h1
      have HO : Hid (Only S (-(v : Int))) := Lib.hid hst
      clear hst
      have HI : Hid (Wr.I64 (-(v : Int))) := Lib.hid (by unfold Wr.I64; omega)
      cases ht : Li.textF (Lib.itoa (-(v : Int))) S with
      | none =>
        have HT := Lib.hid ht
        clear ht
        go_wp2_with fail
        refine (dec_any (-(v : Int)) HI.out _).mono ?_
        rintro e w1 ⟨rfl, k1⟩
        have H1 := Lib.hid (H.out.keep k1 (by simp))
        have K1 := Lib.hid (k1.weak (some X))
        clear k1
        go_wp2_with fail
        refine (text_any X S (Lib.itoa (-(v : Int))) bad _ H1.out).mono ?_
        rintro e w2 ⟨rfl, h2, k2⟩
        rw [HT.out] at h2
        have H2 := Lib.hid h2
        have K2 := Lib.hid (K1.out.trans k2)
        clear h2 k2
        have d0 := H2.out.c0
        have d1 := H2.out.c1
        have g1 : w2.frozen? ⟨X, 1, none⟩ = false := Lib.frozen_of_heap H2.out 1
        go_wp2_with fail
        go_ret
        exact NumEnds.no (HO.out.text HT.out) H2.out (Nat.le_refl _) K2.out
      | some r =>
        have HT := Lib.hid ht
        have hrl := text_len ht
        clear ht
        go_wp2_with fail
        refine (dec_any (-(v : Int)) HI.out _).mono ?_
        rintro e w1 ⟨rfl, k1⟩
        have H1 := Lib.hid (H.out.keep k1 (by simp))
        have K1 := Lib.hid (k1.weak (some X))
        clear k1
        go_wp2_with fail
        refine (text_any X S (Lib.itoa (-(v : Int))) bad _ H1.out).mono ?_
        rintro e w2 ⟨rfl, h2, k2⟩
        rw [HT.out] at h2
        have H2 := Lib.hid h2
        have K2 := Lib.hid (K1.out.trans k2)
        clear h2 k2
        have d0 := H2.out.c0
        have d1 := H2.out.c1
        have g1 : w2.frozen? ⟨X, 1, none⟩ = false := Lib.frozen_of_heap H2.out 1
        cases r with
        | nil =>
          go_wp2_with fail
          go_ret
          exact NumEnds.yes (Only.is HI.out HT.out (by simp)) H2.out K2.out
        | cons c t =>
          have hy0 : ∀ h', (⟨(c :: t).toArray⟩ : ByteArray)[0]'h' = c := fun _ => rfl
          by_cases h48 : c.toNat < 48
          · go_wp2_with fail
            go_ret
            exact NumEnds.yes (Only.is HI.out HT.out (by intro x hx hd; injection hx with hx; subst hx; have := hd.1; omega)) H2.out K2.out
          · by_cases h57 : 57 < c.toNat
            · go_wp2_with fail
              go_ret
              exact NumEnds.yes (Only.is HI.out HT.out (by intro x hx hd; injection hx with hx; subst hx; have := hd.2; omega)) H2.out K2.out
            · have hl58 : c.toNat < 58 := by omega
              go_wp2_with fail
              go_ret
              exact NumEnds.no (HO.out.digit HT.out rfl ⟨by omega, by omega⟩) (heap_set H2.out) hrl (K2.out.set _)

end Go.Proofs.YtldjhjbodhhnbaaDoor
