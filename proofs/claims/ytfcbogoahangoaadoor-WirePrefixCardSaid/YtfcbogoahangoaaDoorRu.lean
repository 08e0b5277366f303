/- The reference's reader: numbers, integers, strings, single bytes. Conditions: the string that is read is shorter than 2^31 bytes. -/
import Derived.Test.YtfcbogoahangoaaDoorRw
namespace Go.Proofs.YtfcbogoahangoaaDoor
open Go.RowKit

/-- What a decoding call of the reference leaves. -/
def RIntEnds (q : Nat) (S : List UInt8) (w : World) (o : Option (Int × List UInt8)) (E : Ending) (w' : World) : Prop :=
  (match o with
  | some (n, l) => E = .returned (.int .i64 n) ∧ RfIs w' q S (some l)
  | none => E = .returned (.int .i64 0) ∧ RfIs w' q S none) ∧ Kp w w' (some q)

set_option maxHeartbeats 1000000 in
theorem rfint_any (q : Nat) (S : List UInt8) (st : Option (List UInt8)) (w : World) (hS : S.length < 2147483648) (h : RfIs w q S st) : Calls Tryd.prog 23 #[.pointer (some ⟨q, 0, none⟩)] w (RIntEnds q S w (st.bind Wr.pInt)) := by
  have hq := rnum_any q S st 59 59 w rfl hS h
  unfold Wr.pInt
  have HQ := Lib.hid hq
  have H := Lib.hid h
  clear hq h
  cases ho : st.bind (Wr.pNum 59) with
  | none =>
    rw [ho] at HQ
    clear ho
    go_enter Tryd.func23, Tryd.ntmps23
    go_wp2_with (first | (go_at_call 43; refine (HQ.out).mono ?_; rintro e w' ⟨rfl, k1⟩; have K1 := Lib.hid k1; clear k1) | (go_at_call 44; refine (rffail_any _ _ _ _ (H.out.keep K1.out (by simp))).mono ?_; rintro e w2 ⟨rfl, h2, k2⟩; have H2 := Lib.hid h2; clear h2; have K2 := Lib.hid k2; clear k2))
    go_ret
    exact ⟨⟨rfl, H2.out⟩, (K1.out.weak _).trans K2.out⟩
  | some p =>
    obtain ⟨n, t⟩ := p
    rw [ho] at HQ
    clear ho
    go_enter Tryd.func23, Tryd.ntmps23
    go_wp2_with (go_at_call 43; refine (HQ.out).mono ?_; rintro e w' ⟨rfl, h1, k1⟩; have H1 := Lib.hid h1; clear h1; have K1 := Lib.hid k1; clear k1)
    go_ret
    exact ⟨⟨rfl, H1.out⟩, K1.out⟩

def RTextEnds (q : Nat) (S : List UInt8) (w : World) (o : Option (List UInt8 × List UInt8)) (E : Ending) (w' : World) : Prop :=
  (match o with
  | some (s, l) => E = .returned (.string ⟨s.toArray⟩) ∧ RfIs w' q S (some l)
  | none => E = .returned (.string ⟨#[]⟩) ∧ RfIs w' q S none) ∧ Kp w w' (some q)

set_option maxHeartbeats 1000000 in
theorem rftext_none (q : Nat) (S : List UInt8) (st : Option (List UInt8)) (w : World) (H : Hid (RfIs w q S st)) (HQ : Hid (Calls Tryd.prog 43 #[.pointer (some ⟨q, 0, none⟩), .int .u8 58] w (RNumEnds q S w none))) : Calls Tryd.prog 25 #[.pointer (some ⟨q, 0, none⟩)] w (RTextEnds q S w none) := by
  go_enter Tryd.func25, Tryd.ntmps25
  go_wp2_with (first | (go_at_call 43; refine (HQ.out).mono ?_; rintro e w' ⟨rfl, k1⟩; have K1 := Lib.hid k1; clear k1) | (go_at_call 44; refine (rffail_any _ _ _ _ (H.out.keep K1.out (by simp))).mono ?_; rintro e w2 ⟨rfl, h2, k2⟩; have H2 := Lib.hid h2; clear h2; have K2 := Lib.hid k2; clear k2))
  go_ret
  exact ⟨⟨rfl, H2.out⟩, (K1.out.weak _).trans K2.out⟩

set_option maxHeartbeats 1000000 in
theorem rftext_neg (q : Nat) (S : List UInt8) (w : World) (n : Int) (t : List UInt8) (h0 : n < 0) (HQ : Hid (Calls Tryd.prog 43 #[.pointer (some ⟨q, 0, none⟩), .int .u8 58] w (RNumEnds q S w (some (n, t))))) : Calls Tryd.prog 25 #[.pointer (some ⟨q, 0, none⟩)] w (RTextEnds q S w none) := by
  go_enter Tryd.func25, Tryd.ntmps25
  go_wp2_with (first | (go_at_call 43; refine (HQ.out).mono ?_; rintro e w' ⟨rfl, h1, k1⟩; have H1 := Lib.hid h1; clear h1; have K1 := Lib.hid k1; clear k1) | (go_at_call 44; refine (rffail_any _ _ _ _ H1.out).mono ?_; rintro e w2 ⟨rfl, h2, k2⟩; have H2 := Lib.hid h2; clear h2; have K2 := Lib.hid k2; clear k2))
  go_ret
  exact ⟨⟨rfl, H2.out⟩, K1.out.trans K2.out⟩

theorem dd_eq (w : World) (n m : Nat) : w.drewN (n + m) = (w.drewN n).drewN m := by
  show ({ w with drawn := w.drawn + (n + m) } : World) = { w with drawn := w.drawn + n + m }
  rw [Nat.add_assoc]
theorem RfIs.drewN {w : World} {q : Nat} {S : List UInt8} {st : Option (List UInt8)} (h : RfIs w q S st) (n : Nat) : RfIs (w.drewN n) q S st := h

set_option maxHeartbeats 1000000 in
theorem rftext_big (q : Nat) (S : List UInt8) (w : World) (n : Int) (t : List UInt8) (hS : S.length < 2147483648) (hb : (t.length : Int) < n) (HQ : Hid (Calls Tryd.prog 43 #[.pointer (some ⟨q, 0, none⟩), .int .u8 58] w (RNumEnds q S w (some (n, t))))) : Calls Tryd.prog 25 #[.pointer (some ⟨q, 0, none⟩)] w (RTextEnds q S w none) := by
  have h0 : 0 ≤ n := by omega
  go_enter Tryd.func25, Tryd.ntmps25
  go_wp2_with (first | (go_at_call 43; refine (HQ.out).mono ?_; rintro e w' ⟨rfl, h1, k1⟩; have H1 := Lib.hid h1; clear h1; have K1 := Lib.hid k1; clear k1) | (go_at_call 33; refine (rfleft_any _ _ _ _ hS H1.out).mono ?_; rintro e w2 ⟨rfl, n2, rfl⟩) | (go_at_call 44; refine (rffail_any _ _ _ _ (H1.out.drewN n2)).mono ?_; rintro e w3 ⟨rfl, h2, k2⟩; have H2 := Lib.hid h2; clear h2; have K2 := Lib.hid k2; clear k2))
  go_ret
  exact ⟨⟨rfl, H2.out⟩, (K1.out.drewN n2).trans K2.out⟩

set_option maxHeartbeats 1000000 in
theorem rftext_some (q : Nat) (S : List UInt8) (w : World) (n : Nat) (t : List UInt8) (hS : S.length < 2147483648) (hb : n ≤ t.length) (HQ : Hid (Calls Tryd.prog 43 #[.pointer (some ⟨q, 0, none⟩), .int .u8 58] w (RNumEnds q S w (some ((n : Int), t))))) : Calls Tryd.prog 25 #[.pointer (some ⟨q, 0, none⟩)] w (RTextEnds q S w (some (t.take n, t.drop n))) := by
  go_enter Tryd.func25, Tryd.ntmps25
  go_wp2_with fail
  refine (HQ.out).mono ?_
  rintro e w1 ⟨rfl, h1, k1⟩
  have H1 := Lib.hid h1
  have K1 := Lib.hid k1
  obtain ⟨p, hp, hl, hh⟩ := h1
  obtain rfl := hl t rfl
  rw [List.length_drop] at hb
  have c0 : w1.cell? ⟨q, 0, none⟩ = some (.string ⟨S.toArray⟩) := by simp [World.cell?, hh]
  have c1 : w1.cell? ⟨q, 1, none⟩ = some (.int .i64 p) := by simp [World.cell?, hh]
  have f1 : w1.frozen? ⟨q, 1, none⟩ = false := by simp [World.frozen?, hh]
  have HH := Lib.hid hh
  have hpn : p + n ≤ S.length := by omega
  clear k1 hl hh HQ
  go_wp2_with (go_at_call 33; refine (rfleft_any _ _ _ _ hS H1.out).mono ?_; rintro e w2 ⟨rfl, n2, rfl⟩)
  go_quiet (fail)
  go_wp2
  go_ret
  refine ⟨⟨ret_str ?_, ⟨p + n, by omega, ?_, ?_⟩⟩, ?_⟩
  · rw [ext_mid, List.drop_take]; congr 3; omega
  · intro l h; injection h with h; rw [← h, List.drop_drop]
  · rw [heap_set (show (w1.drewN _).heap[q]? = _ from HH.out)]; rfl
  · exact (K1.out.drewN _).set _

theorem rftext_any (q : Nat) (S : List UInt8) (st : Option (List UInt8)) (w : World) (hS : S.length < 2147483648) (h : RfIs w q S st) : Calls Tryd.prog 25 #[.pointer (some ⟨q, 0, none⟩)] w (RTextEnds q S w (st.bind Wr.pText)) := by
  have hq := rnum_any q S st 58 58 w rfl hS h
  cases ho : st.bind (Wr.pNum 58) with
  | none =>
    rw [ho] at hq
    have : st.bind Wr.pText = none := by
      cases st with
      | none => rfl
      | some l => simp only [Option.bind_some] at ho ⊢; simp [Wr.pText, ho]
    rw [this]
    exact rftext_none q S st w h hq
  | some p =>
    obtain ⟨n, t⟩ := p
    rw [ho] at hq
    obtain ⟨l, rfl, hl⟩ : ∃ l, st = some l ∧ Wr.pNum 58 l = some (n, t) := by
      cases st with
      | none => cases ho
      | some l => exact ⟨l, rfl, ho⟩
    simp only [Option.bind_some, Wr.pText, hl]
    by_cases h0 : 0 ≤ n
    · obtain ⟨n, rfl⟩ := Int.eq_ofNat_of_zero_le h0
      by_cases h1 : n ≤ t.length
      · rw [if_pos ⟨h0, by omega⟩]
        exact rftext_some q S w n t hS h1 hq
      · rw [if_neg (fun h => h1 (by have := h.2; omega))]
        exact rftext_big q S w n t hS (by omega) hq
    · rw [if_neg (fun h => h0 h.1)]
      exact rftext_neg q S w n t (by omega) hq

set_option maxHeartbeats 1000000 in
theorem rfbyte_none (q : Nat) (S : List UInt8) (b : Int) (st : Option (List UInt8)) (w : World) (hS : S.length < 2147483648) (h : RfIs w q S st) (hst : (st.getD []).length = 0) : Calls Tryd.prog 47 #[.pointer (some ⟨q, 0, none⟩), .int .u8 b] w fun E w' => E = .returned (.bool false) ∧ ∃ n, w.drewN n = w' := by
  have hq := rfleft_any q S st w hS h
  rw [hst] at hq
  have HQ := Lib.hid hq
  clear hq h hst
  go_enter Tryd.func47, Tryd.ntmps47
  go_wp2_with (go_at_call 33; refine HQ.out.mono ?_; rintro e w2 ⟨rfl, n2, rfl⟩)
  go_quiet (fail)
  go_wp2
  go_ret
  exact ⟨rfl, _, dd_eq _ _ _⟩

set_option maxHeartbeats 1000000 in
theorem rfbyte_no (q : Nat) (S : List UInt8) (b : Int) (c : UInt8) (l : List UInt8) (w : World) (hS : S.length < 2147483648) (h : RfIs w q S (some (c :: l))) (hb : ((c.toNat : Int) != b) = true) : Calls Tryd.prog 47 #[.pointer (some ⟨q, 0, none⟩), .int .u8 b] w fun E w' => E = .returned (.bool false) ∧ ∃ n, w.drewN n = w' := by
  have hq := rfleft_any q S _ w hS h
  simp only [Option.getD_some, List.length_cons] at hq
  have HQ := Lib.hid hq
  obtain ⟨p, hp, hl, hh⟩ := h
  have c0 : w.cell? ⟨q, 0, none⟩ = some (.string ⟨S.toArray⟩) := by simp [World.cell?, hh]
  have c1 : w.cell? ⟨q, 1, none⟩ = some (.int .i64 p) := by simp [World.cell?, hh]
  have hcl := hl _ rfl
  have hlt : p < S.length := by have := congrArg List.length hcl; simp at this; omega
  have hsp : S[p] = c := by
    have := congrArg (fun l => l[0]?) hcl
    simp only [List.getElem?_cons_zero, List.getElem?_drop, Nat.add_zero] at this
    rw [List.getElem?_eq_getElem hlt] at this; injection this with this; exact this.symm
  have hx : ∀ h', (⟨S.toArray⟩ : ByteArray)[p]'h' = c := fun h' => (byte_at S p hlt h').trans hsp
  have hll : l.length < 2147483648 := by have := congrArg List.length hcl; simp at this; omega
  clear hq hl hh hcl hsp
  go_enter Tryd.func47, Tryd.ntmps47
  go_wp2_with (go_at_call 33; refine HQ.out.mono ?_; rintro e w2 ⟨rfl, n2, rfl⟩)
  go_quiet (fail)
  go_wp2
  go_ret
  exact ⟨rfl, _, dd_eq _ _ _⟩

set_option maxHeartbeats 1000000 in
theorem rfbyte_yes (q : Nat) (S : List UInt8) (b : Int) (c : UInt8) (l : List UInt8) (w : World) (hS : S.length < 2147483648) (h : RfIs w q S (some (c :: l))) (hb : ((c.toNat : Int) != b) = false) : Calls Tryd.prog 47 #[.pointer (some ⟨q, 0, none⟩), .int .u8 b] w fun E w' => E = .returned (.bool true) ∧ RfIs w' q S (some l) ∧ Kp w w' (some q) := by
  have hq := rfleft_any q S _ w hS h
  simp only [Option.getD_some, List.length_cons] at hq
  have HQ := Lib.hid hq
  obtain ⟨p, hp, hl, hh⟩ := h
  have HH := Lib.hid hh
  have c0 : w.cell? ⟨q, 0, none⟩ = some (.string ⟨S.toArray⟩) := by simp [World.cell?, hh]
  have c1 : w.cell? ⟨q, 1, none⟩ = some (.int .i64 p) := by simp [World.cell?, hh]
  have f1 : w.frozen? ⟨q, 1, none⟩ = false := by simp [World.frozen?, hh]
  have hcl := hl _ rfl
  have HCL := Lib.hid hcl
  have hlt : p < S.length := by have := congrArg List.length hcl; simp at this; omega
  have hsp : S[p] = c := by
    have := congrArg (fun l => l[0]?) hcl
    simp only [List.getElem?_cons_zero, List.getElem?_drop, Nat.add_zero] at this
    rw [List.getElem?_eq_getElem hlt] at this; injection this with this; exact this.symm
  have hx : ∀ h', (⟨S.toArray⟩ : ByteArray)[p]'h' = c := fun h' => (byte_at S p hlt h').trans hsp
  have hll : l.length < 2147483648 := by have := congrArg List.length hcl; simp at this; omega
  clear hq hl hh hcl hsp
  go_enter Tryd.func47, Tryd.ntmps47
  go_wp2_with (go_at_call 33; refine HQ.out.mono ?_; rintro e w2 ⟨rfl, n2, rfl⟩)
  go_quiet (fail)
  go_wp2
  go_ret
  refine ⟨rfl, ⟨p + 1, by omega, ?_, ?_⟩, ?_⟩
  · intro l' h; injection h with h; rw [← h, ← List.drop_drop, ← HCL.out]; rfl
  · rw [heap_set (show (w.drewN _).heap[q]? = _ from HH.out)]; rfl
  · exact ((Kp.refl _ _).drewN _).set _

end Go.Proofs.YtfcbogoahangoaaDoor
