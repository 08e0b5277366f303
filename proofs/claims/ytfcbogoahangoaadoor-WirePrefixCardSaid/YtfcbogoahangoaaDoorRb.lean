/- The reference's lists, and its comparisons of lists. Conditions: the string that is read is shorter than 2^31 bytes, a list that is compared shorter than 2^31. -/
import Derived.Test.YtfcbogoahangoaaDoorRu
namespace Go.Proofs.YtfcbogoahangoaaDoor
open Go.RowKit

def rfLen (q : Nat) (w : World) : Nat := match w.cell? ⟨q, 0, none⟩, w.cell? ⟨q, 1, none⟩ with | some (.string s), some (.int _ p) => s.size - p.toNat | _, _ => 0
theorem rfLen_of {w : World} {q : Nat} {S l : List UInt8} (h : RfIs w q S (some l)) : rfLen q w = l.length := by
  obtain ⟨p, hp, hl, hh⟩ := h
  have c0 : w.cell? ⟨q, 0, none⟩ = some (.string ⟨S.toArray⟩) := by simp [World.cell?, hh]
  have c1 : w.cell? ⟨q, 1, none⟩ = some (.int .i64 p) := by simp [World.cell?, hh]
  rw [hl l rfl]
  unfold rfLen; rw [c0, c1]
  show S.toArray.size - _ = _
  simp

/-- How a list's decoding by the reference ends. -/
def RListEnds {α : Type} (e : TypeId) (V : α → Value) (q : Nat) (S : List UInt8) (w : World) (o : Option (List α × List UInt8)) (E : Ending) (w' : World) : Prop :=
  (match o with
  | some (xs, l) => (∃ v, E = .returned v ∧ w'.ownsRow w.heap.size e 1 v xs.length (xs.map V)) ∧ RfIs w' q S (some l)
  | none => E = .returned (.slice none 0 0) ∧ RfIs w' q S none) ∧ Kp w w' (some q)
theorem RListEnds.bad {α : Type} {e : TypeId} {V : α → Value} {q : Nat} {S : List UInt8} {w w' : World} {o : Option (List α × List UInt8)} (ho : o = none) (h : RfIs w' q S none) (k : Kp w w' (some q)) : RListEnds e V q S w o (.returned (.slice none 0 0)) w' := by
  subst ho; exact ⟨⟨rfl, h⟩, k⟩
theorem RListEnds.good {α : Type} {e : TypeId} {V : α → Value} {q : Nat} {S : List UInt8} {w w' : World} {o : Option (List α × List UInt8)} {xs : List α} {l : List UInt8} {v : Value} (ho : o = some (xs, l)) (hv : w'.ownsRow w.heap.size e 1 v xs.length (xs.map V)) (h : RfIs w' q S (some l)) (k : Kp w w' (some q)) : RListEnds e V q S w o (.returned v) w' := by
  subst ho; exact ⟨⟨⟨v, rfl, hv⟩, h⟩, k⟩
def RElsRel {α : Type} (e : TypeId) (V : α → Value) (p : List UInt8 → Option (α × List UInt8)) (q : Nat) (S : List UInt8) (w : World) (t : List UInt8) (v : Value) (wr : World) : Prop :=
  ∃ l xs, RfIs wr q S (some l) ∧ wr.ownsRow w.heap.size e 1 v xs.length (xs.map V) ∧ Kp w wr (some q) ∧ Wr.pRest p t [] = Wr.pRest p l xs ∧ xs.length + l.length ≤ t.length + 1
theorem u8_ne_of {c : UInt8} {n : Nat} (hn : n < 256) (h : c ≠ UInt8.ofNat n) : ((c.toNat : Int) != (n : Int)) = true := by
  rw [bne_iff_ne]; intro e; exact h (UInt8.toNat_inj.1 (by simp [UInt8.toNat_ofNat']; omega))

set_option maxHeartbeats 1000000 in
theorem rfints_not (q : Nat) (S : List UInt8) (st : Option (List UInt8)) (w : World) (h : RfIs w q S st)
    (hb : Calls Tryd.prog 47 #[.pointer (some ⟨q, 0, none⟩), .int .u8 91] w fun E w' => E = .returned (.bool false) ∧ ∃ n, w.drewN n = w') : Calls Tryd.prog 28 #[.pointer (some ⟨q, 0, none⟩)] w (RListEnds 3 vInt q S w none) := by
  have HB := Lib.hid hb
  have H := Lib.hid h
  clear hb h
  go_enter Tryd.func28, Tryd.ntmps28
  go_wp2_with (first | (go_at_call 47; refine HB.out.mono ?_; rintro e w2 ⟨rfl, n2, rfl⟩) | (go_at_call 44; refine (rffail_any _ _ _ _ (H.out.drewN n2)).mono ?_; rintro e w3 ⟨rfl, h2, k2⟩; have H2 := Lib.hid h2; clear h2; have K2 := Lib.hid k2; clear k2))
  go_ret
  exact RListEnds.bad rfl H2.out (((Kp.refl _ _).drewN n2).trans K2.out)

set_option maxHeartbeats 2000000 in
set_option maxRecDepth 100000 in
theorem rfints_list (q : Nat) (S t : List UInt8) (w : World) (hS : S.length < 2147483648) (ht : t.length < 2147483648) (h : RfIs w q S (some (91 :: t))) : Calls Tryd.prog 28 #[.pointer (some ⟨q, 0, none⟩)] w (RListEnds 3 vInt q S w (Wr.pRest Wr.pInt t [])) := by
  have HB := Lib.hid (rfbyte_yes q S 91 91 t w hS h rfl)
  have HQ := h.lt
  clear h
  go_enter Tryd.func28, Tryd.ntmps28
  go_wp2_with (first | (go_at_call 47; refine HB.out.mono ?_; rintro e w2 ⟨rfl, h2, k2⟩; have H2 := Lib.hid h2; clear h2; have K2 := Lib.hid k2; clear k2))
  go_loopw [3] (fun v wr => RElsRel 3 vInt Wr.pInt q S w t v wr) (fun _ wr => rfLen q wr)
  case atStart => exact ⟨t, [], H2.out, World.ownsRow_nil _ _ _ _, K2.out, rfl, by simp⟩
  case round =>
    obtain ⟨l, xs, hR, hown, hk, hres, hlen⟩ := hrel
    have hrl := rfLen_of hR
    have hcase : (∃ l', l = 93 :: l') ∨ (Calls Tryd.prog 47 #[.pointer (some ⟨q, 0, none⟩), .int .u8 93] wr (fun E w' => E = .returned (.bool false) ∧ ∃ n, wr.drewN n = w') ∧ (match Wr.pInt l with | some (x, l'') => Wr.pRest Wr.pInt l xs = Wr.pRest Wr.pInt l'' (xs ++ [x]) ∧ l''.length < l.length | none => Wr.pRest Wr.pInt l xs = none)) := by
      cases l with
      | nil => exact .inr ⟨rfbyte_none q S 93 _ wr hS hR rfl, by rw [show Wr.pInt [] = none from rfl]; rfl⟩
      | cons c l' =>
        by_cases hc : c = 93
        · exact .inl ⟨l', by rw [hc]⟩
        · refine .inr ⟨rfbyte_no q S 93 c l' wr hS hR (u8_ne_of (n := 93) (by omega) hc), ?_⟩
          cases hp : Wr.pInt (c :: l') with
          | none => exact Wr.rest_bad xs hc hp
          | some x => exact ⟨Wr.rest_step Wr.int_codec xs hc hp, Wr.int_codec.lt hp⟩
    rcases hcase with ⟨l', rfl⟩ | ⟨hbyte, hstep⟩
    · have hn : Wr.pRest Wr.pInt t [] = some (xs, l') := by rw [hres]; exact Wr.rest_end l' xs
      have HN := Lib.hid hn
      have HB := Lib.hid (rfbyte_yes q S 93 93 l' wr hS hR rfl)
      have HK := Lib.hid hk
      have HO := Lib.hid hown
      clear hR hk hres hlen hrl hn hown H2 K2
      go_wp2_with (first | (go_at_call 47; refine HB.out.mono ?_; rintro e w3 ⟨rfl, h3, k3⟩; have H3 := Lib.hid h3; clear h3; have K3 := Lib.hid k3; clear k3))
      go_ret
      exact RListEnds.good HN.out (HO.out.kept K3.out (.inr (own_ne HO.out HQ))) H3.out (HK.out.trans K3.out)
    · have hq := rfint_any q S (some l) wr hS hR
      simp only [Option.bind_some] at hq
      have hxl : xs.length ≤ t.length + 1 := by omega
      have HK := Lib.hid hk
      have HO := Lib.hid hown
      have HB := Lib.hid hbyte
      have HR := Lib.hid hR
      have HRL := Lib.hid hrl
      have HQL : q < w.heap.size := HQ
      obtain ⟨i0, hi, hz0, hz1, hz2⟩ := info_parts info3
      cases hp : Wr.pInt l with
      | none =>
        rw [hp] at hq hstep
        have HN := Lib.hid (hres.trans hstep)
        have HC : Hid (∀ n, Calls Tryd.prog 23 #[.pointer (some ⟨q, 0, none⟩)] (wr.drewN n) (RIntEnds q S (wr.drewN n) none)) := fun n => by
          have := rfint_any q S (some l) (wr.drewN n) hS (hR.drewN n)
          simp only [Option.bind_some, hp] at this; exact this
        clear hR hk hres hlen hrl hown H2 K2 hq hstep hbyte hp
        go_wp2_with (first | (go_at_call 47; refine HB.out.mono ?_; rintro e w3 ⟨rfl, n3, rfl⟩) | (go_at_call 23; refine (HC.out n3).mono ?_; rintro e w1 ⟨⟨rfl, h1⟩, k1⟩; have H1 := Lib.hid h1; clear h1; have K1 := Lib.hid k1; clear k1; have HO1 := Lib.hid ((HO.out.kept ((Kp.refl wr (some q)).drewN n3) (.inr (own_ne HO.out HQ))).kept K1.out (.inr (own_ne HO.out HQ)))) | (at_builtin; refine wpList_append_own _ rfl _ _ 22 rfl w.heap.size 3 i0 (.int .i64 0) 1 8 Tryd.underlying22 hi hz0 hz1 hz2 rfl (by decide) _ _ _ rfl (HO1.out.alloc _) ⟨w1.heap.size, 0, none⟩ 1 1 [.int .i64 0] rfl rfl ?c1 ?c2 ?c3 ?c4 ?c5 ?_))
        case c1 => intro j u hj; match j, hj with | 0, hj => simp at hj; subst hj; simp [Addr.add]
        case c2 => intro u hu; simp at hu; subst hu; rfl
        case c3 => unfold maxLen; omega
        case c4 => omega
        case c5 => have := HK.out.size; have := K1.out.size; simp at this ⊢; omega
        intro v' w2' hown' hgrow _
        have HG := Lib.hid hgrow
        have H5 := Lib.hid (((H1.out.keep ((Kp.refl _ (some w1.heap.size)).alloc _) (by have := H1.out.lt; simp; omega)).keep hgrow (own_ne HO1.out HQ)))
        have HGK : Hid (Kp w w2' (some q)) := Kp.row (((HK.out.drewN n3).trans K1.out).alloc _) hgrow (fun k hk => (HO1.out.lt k hk).1)
        clear hown' hgrow
        go_wp2_with (go_at_call 35; refine (rfbad_any _ _ _ _ H5.out).mono ?_; rintro e w6 ⟨rfl, rfl⟩)
        go_ret
        exact RListEnds.bad HN.out H5.out HGK.out
      | some x =>
        obtain ⟨n, l''⟩ := x
        rw [hp] at hq hstep
        have HN := Lib.hid (hres.trans hstep.1)
        have HLT := Lib.hid hstep.2
        have hll : xs.length + 1 + l''.length ≤ t.length + 1 := by have := hstep.2; omega
        have HC : Hid (∀ m, Calls Tryd.prog 23 #[.pointer (some ⟨q, 0, none⟩)] (wr.drewN m) (RIntEnds q S (wr.drewN m) (some (n, l'')))) := fun m => by
          have := rfint_any q S (some l) (wr.drewN m) hS (hR.drewN m)
          simp only [Option.bind_some, hp] at this; exact this
        clear hR hk hres hlen hrl hown H2 K2 hq hstep hbyte hp
        go_wp2_with (first | (go_at_call 47; refine HB.out.mono ?_; rintro e w3 ⟨rfl, n3, rfl⟩) | (go_at_call 23; refine (HC.out n3).mono ?_; rintro e w1 ⟨⟨rfl, h1⟩, k1⟩; have H1 := Lib.hid h1; clear h1; have K1 := Lib.hid k1; clear k1; have HO1 := Lib.hid ((HO.out.kept ((Kp.refl wr (some q)).drewN n3) (.inr (own_ne HO.out HQ))).kept K1.out (.inr (own_ne HO.out HQ)))) | (at_builtin; refine wpList_append_own _ rfl _ _ 22 rfl w.heap.size 3 i0 (.int .i64 0) 1 8 Tryd.underlying22 hi hz0 hz1 hz2 rfl (by decide) _ _ _ rfl (HO1.out.alloc _) ⟨w1.heap.size, 0, none⟩ 1 1 [.int .i64 n] rfl rfl ?c1 ?c2 ?c3 ?c4 ?c5 ?_))
        case c1 => intro j u hj; match j, hj with | 0, hj => simp at hj; subst hj; simp [Addr.add]
        case c2 => intro u hu; simp at hu; subst hu; rfl
        case c3 => unfold maxLen; omega
        case c4 => omega
        case c5 => have := HK.out.size; have := K1.out.size; simp at this ⊢; omega
        intro v' w2' hown' hgrow _
        have HO2 := Lib.hid hown'
        have HG := Lib.hid hgrow
        have H5 := Lib.hid (((H1.out.keep ((Kp.refl _ (some w1.heap.size)).alloc _) (by have := H1.out.lt; simp; omega)).keep hgrow (own_ne HO1.out HQ)))
        have HGK : Hid (Kp w w2' (some q)) := Kp.row (((HK.out.drewN n3).trans K1.out).alloc _) hgrow (fun k hk => (HO1.out.lt k hk).1)
        clear hown' hgrow
        go_wp2_with (go_at_call 35; refine (rfbad_any _ _ _ _ H5.out).mono ?_; rintro e w6 ⟨rfl, rfl⟩)
        go_roundw
        case rel =>
          have hrel : RElsRel 3 vInt Wr.pInt q S w t v' w2' := ⟨l'', xs ++ [n], H5.out, by simpa [vInt] using HO2.out, HGK.out, HN.out, by simpa using hll⟩
          first | exact hrel | ((repeat apply Exists.intro); exact ⟨hrel, rfl⟩)
        case measure =>
          rw [rfLen_of H5.out, HRL.out]
          exact HLT.out

theorem rfints_any (q : Nat) (S : List UInt8) (st : Option (List UInt8)) (w : World) (hS : S.length < 2147483648) (h : RfIs w q S st) : Calls Tryd.prog 28 #[.pointer (some ⟨q, 0, none⟩)] w (RListEnds 3 vInt q S w (st.bind Wr.pInts)) := by
  match st, h with
  | none, h => exact rfints_not q S none w h (rfbyte_none q S 91 none w hS h rfl)
  | some [], h => exact rfints_not q S _ w h (rfbyte_none q S 91 _ w hS h rfl)
  | some (c :: t), h =>
    simp only [Option.bind_some, Wr.pInts, Wr.pList]
    by_cases hc : c = 91
    · subst hc
      rw [if_pos rfl]
      refine rfints_list q S t w hS ?_ h
      obtain ⟨p, _, hl, _⟩ := h
      have := congrArg List.length (hl _ rfl); simp at this; omega
    · rw [if_neg hc]
      exact rfints_not q S _ w h (rfbyte_no q S 91 c t w hS h (u8_ne_of (n := 91) (by omega) hc))

set_option maxHeartbeats 1000000 in
theorem rftexts_not (q : Nat) (S : List UInt8) (st : Option (List UInt8)) (w : World) (h : RfIs w q S st)
    (hb : Calls Tryd.prog 47 #[.pointer (some ⟨q, 0, none⟩), .int .u8 91] w fun E w' => E = .returned (.bool false) ∧ ∃ n, w.drewN n = w') : Calls Tryd.prog 31 #[.pointer (some ⟨q, 0, none⟩)] w (RListEnds 9 vStr q S w none) := by
  have HB := Lib.hid hb
  have H := Lib.hid h
  clear hb h
  go_enter Tryd.func31, Tryd.ntmps31
  go_wp2_with (first | (go_at_call 47; refine HB.out.mono ?_; rintro e w2 ⟨rfl, n2, rfl⟩) | (go_at_call 44; refine (rffail_any _ _ _ _ (H.out.drewN n2)).mono ?_; rintro e w3 ⟨rfl, h2, k2⟩; have H2 := Lib.hid h2; clear h2; have K2 := Lib.hid k2; clear k2))
  go_ret
  exact RListEnds.bad rfl H2.out (((Kp.refl _ _).drewN n2).trans K2.out)

set_option maxHeartbeats 2000000 in
set_option maxRecDepth 100000 in
theorem rftexts_list (q : Nat) (S t : List UInt8) (w : World) (hS : S.length < 2147483648) (ht : t.length < 2147483648) (h : RfIs w q S (some (91 :: t))) : Calls Tryd.prog 31 #[.pointer (some ⟨q, 0, none⟩)] w (RListEnds 9 vStr q S w (Wr.pRest Wr.pText t [])) := by
  have HB := Lib.hid (rfbyte_yes q S 91 91 t w hS h rfl)
  have HQ := h.lt
  clear h
  go_enter Tryd.func31, Tryd.ntmps31
  go_wp2_with (first | (go_at_call 47; refine HB.out.mono ?_; rintro e w2 ⟨rfl, h2, k2⟩; have H2 := Lib.hid h2; clear h2; have K2 := Lib.hid k2; clear k2))
  go_loopw [3] (fun v wr => RElsRel 9 vStr Wr.pText q S w t v wr) (fun _ wr => rfLen q wr)
  case atStart => exact ⟨t, [], H2.out, World.ownsRow_nil _ _ _ _, K2.out, rfl, by simp⟩
  case round =>
    obtain ⟨l, xs, hR, hown, hk, hres, hlen⟩ := hrel
    have hrl := rfLen_of hR
    have hcase : (∃ l', l = 93 :: l') ∨ (Calls Tryd.prog 47 #[.pointer (some ⟨q, 0, none⟩), .int .u8 93] wr (fun E w' => E = .returned (.bool false) ∧ ∃ n, wr.drewN n = w') ∧ (match Wr.pText l with | some (x, l'') => Wr.pRest Wr.pText l xs = Wr.pRest Wr.pText l'' (xs ++ [x]) ∧ l''.length < l.length | none => Wr.pRest Wr.pText l xs = none)) := by
      cases l with
      | nil => exact .inr ⟨rfbyte_none q S 93 _ wr hS hR rfl, by rw [show Wr.pText [] = none from rfl]; rfl⟩
      | cons c l' =>
        by_cases hc : c = 93
        · exact .inl ⟨l', by rw [hc]⟩
        · refine .inr ⟨rfbyte_no q S 93 c l' wr hS hR (u8_ne_of (n := 93) (by omega) hc), ?_⟩
          cases hp : Wr.pText (c :: l') with
          | none => exact Wr.rest_bad xs hc hp
          | some x => exact ⟨Wr.rest_step Wr.text_codec xs hc hp, Wr.text_codec.lt hp⟩
    rcases hcase with ⟨l', rfl⟩ | ⟨hbyte, hstep⟩
    · have hn : Wr.pRest Wr.pText t [] = some (xs, l') := by rw [hres]; exact Wr.rest_end l' xs
      have HN := Lib.hid hn
      have HB := Lib.hid (rfbyte_yes q S 93 93 l' wr hS hR rfl)
      have HK := Lib.hid hk
      have HO := Lib.hid hown
      clear hR hk hres hlen hrl hn hown H2 K2
      go_wp2_with (first | (go_at_call 47; refine HB.out.mono ?_; rintro e w3 ⟨rfl, h3, k3⟩; have H3 := Lib.hid h3; clear h3; have K3 := Lib.hid k3; clear k3))
      go_ret
      exact RListEnds.good HN.out (HO.out.kept K3.out (.inr (own_ne HO.out HQ))) H3.out (HK.out.trans K3.out)
    · have hq := rftext_any q S (some l) wr hS hR
      simp only [Option.bind_some] at hq
      have hxl : xs.length ≤ t.length + 1 := by omega
      have HK := Lib.hid hk
      have HO := Lib.hid hown
      have HB := Lib.hid hbyte
      have HR := Lib.hid hR
      have HRL := Lib.hid hrl
      have HQL : q < w.heap.size := HQ
      obtain ⟨i0, hi, hz0, hz1, hz2⟩ := info_parts info9
      cases hp : Wr.pText l with
      | none =>
        rw [hp] at hq hstep
        have HN := Lib.hid (hres.trans hstep)
        have HC : Hid (∀ n, Calls Tryd.prog 25 #[.pointer (some ⟨q, 0, none⟩)] (wr.drewN n) (RTextEnds q S (wr.drewN n) none)) := fun n => by
          have := rftext_any q S (some l) (wr.drewN n) hS (hR.drewN n)
          simp only [Option.bind_some, hp] at this; exact this
        clear hR hk hres hlen hrl hown H2 K2 hq hstep hbyte hp
        go_wp2_with (first | (go_at_call 47; refine HB.out.mono ?_; rintro e w3 ⟨rfl, n3, rfl⟩) | (go_at_call 25; refine (HC.out n3).mono ?_; rintro e w1 ⟨⟨rfl, h1⟩, k1⟩; have H1 := Lib.hid h1; clear h1; have K1 := Lib.hid k1; clear k1; have HO1 := Lib.hid ((HO.out.kept ((Kp.refl wr (some q)).drewN n3) (.inr (own_ne HO.out HQ))).kept K1.out (.inr (own_ne HO.out HQ)))) | (at_builtin; refine wpList_append_own _ rfl _ _ 23 rfl w.heap.size 9 i0 (.string ⟨#[]⟩) 1 16 Tryd.underlying23 hi hz0 hz1 hz2 rfl (by decide) _ _ _ rfl (HO1.out.alloc _) ⟨w1.heap.size, 0, none⟩ 1 1 [.string ⟨#[]⟩] rfl rfl ?c1 ?c2 ?c3 ?c4 ?c5 ?_))
        case c1 => intro j u hj; match j, hj with | 0, hj => simp at hj; subst hj; simp [Addr.add]
        case c2 => intro u hu; simp at hu; subst hu; rfl
        case c3 => unfold maxLen; omega
        case c4 => omega
        case c5 => have := HK.out.size; have := K1.out.size; simp at this ⊢; omega
        intro v' w2' hown' hgrow _
        have HG := Lib.hid hgrow
        have H5 := Lib.hid (((H1.out.keep ((Kp.refl _ (some w1.heap.size)).alloc _) (by have := H1.out.lt; simp; omega)).keep hgrow (own_ne HO1.out HQ)))
        have HGK : Hid (Kp w w2' (some q)) := Kp.row (((HK.out.drewN n3).trans K1.out).alloc _) hgrow (fun k hk => (HO1.out.lt k hk).1)
        clear hown' hgrow
        go_wp2_with (go_at_call 35; refine (rfbad_any _ _ _ _ H5.out).mono ?_; rintro e w6 ⟨rfl, rfl⟩)
        go_ret
        exact RListEnds.bad HN.out H5.out HGK.out
      | some x =>
        obtain ⟨n, l''⟩ := x
        rw [hp] at hq hstep
        have HN := Lib.hid (hres.trans hstep.1)
        have HLT := Lib.hid hstep.2
        have hll : xs.length + 1 + l''.length ≤ t.length + 1 := by have := hstep.2; omega
        have HC : Hid (∀ m, Calls Tryd.prog 25 #[.pointer (some ⟨q, 0, none⟩)] (wr.drewN m) (RTextEnds q S (wr.drewN m) (some (n, l'')))) := fun m => by
          have := rftext_any q S (some l) (wr.drewN m) hS (hR.drewN m)
          simp only [Option.bind_some, hp] at this; exact this
        clear hR hk hres hlen hrl hown H2 K2 hq hstep hbyte hp
        go_wp2_with (first | (go_at_call 47; refine HB.out.mono ?_; rintro e w3 ⟨rfl, n3, rfl⟩) | (go_at_call 25; refine (HC.out n3).mono ?_; rintro e w1 ⟨⟨rfl, h1⟩, k1⟩; have H1 := Lib.hid h1; clear h1; have K1 := Lib.hid k1; clear k1; have HO1 := Lib.hid ((HO.out.kept ((Kp.refl wr (some q)).drewN n3) (.inr (own_ne HO.out HQ))).kept K1.out (.inr (own_ne HO.out HQ)))) | (at_builtin; refine wpList_append_own _ rfl _ _ 23 rfl w.heap.size 9 i0 (.string ⟨#[]⟩) 1 16 Tryd.underlying23 hi hz0 hz1 hz2 rfl (by decide) _ _ _ rfl (HO1.out.alloc _) ⟨w1.heap.size, 0, none⟩ 1 1 [.string ⟨n.toArray⟩] rfl rfl ?c1 ?c2 ?c3 ?c4 ?c5 ?_))
        case c1 => intro j u hj; match j, hj with | 0, hj => simp at hj; subst hj; simp [Addr.add]
        case c2 => intro u hu; simp at hu; subst hu; rfl
        case c3 => unfold maxLen; omega
        case c4 => omega
        case c5 => have := HK.out.size; have := K1.out.size; simp at this ⊢; omega
        intro v' w2' hown' hgrow _
        have HO2 := Lib.hid hown'
        have HG := Lib.hid hgrow
        have H5 := Lib.hid (((H1.out.keep ((Kp.refl _ (some w1.heap.size)).alloc _) (by have := H1.out.lt; simp; omega)).keep hgrow (own_ne HO1.out HQ)))
        have HGK : Hid (Kp w w2' (some q)) := Kp.row (((HK.out.drewN n3).trans K1.out).alloc _) hgrow (fun k hk => (HO1.out.lt k hk).1)
        clear hown' hgrow
        go_wp2_with (go_at_call 35; refine (rfbad_any _ _ _ _ H5.out).mono ?_; rintro e w6 ⟨rfl, rfl⟩)
        go_roundw
        case rel =>
          have hrel : RElsRel 9 vStr Wr.pText q S w t v' w2' := ⟨l'', xs ++ [n], H5.out, by simpa [vStr] using HO2.out, HGK.out, HN.out, by simpa using hll⟩
          first | exact hrel | ((repeat apply Exists.intro); exact ⟨hrel, rfl⟩)
        case measure =>
          rw [rfLen_of H5.out, HRL.out]
          exact HLT.out

theorem rftexts_any (q : Nat) (S : List UInt8) (st : Option (List UInt8)) (w : World) (hS : S.length < 2147483648) (h : RfIs w q S st) : Calls Tryd.prog 31 #[.pointer (some ⟨q, 0, none⟩)] w (RListEnds 9 vStr q S w (st.bind Wr.pTexts)) := by
  match st, h with
  | none, h => exact rftexts_not q S none w h (rfbyte_none q S 91 none w hS h rfl)
  | some [], h => exact rftexts_not q S _ w h (rfbyte_none q S 91 _ w hS h rfl)
  | some (c :: t), h =>
    simp only [Option.bind_some, Wr.pTexts, Wr.pList]
    by_cases hc : c = 91
    · subst hc
      rw [if_pos rfl]
      refine rftexts_list q S t w hS ?_ h
      obtain ⟨p, _, hl, _⟩ := h
      have := congrArg List.length (hl _ rfl); simp at this; omega
    · rw [if_neg hc]
      exact rftexts_not q S _ w h (rfbyte_no q S 91 c t w hS h (u8_ne_of (n := 91) (by omega) hc))

end Go.Proofs.YtfcbogoahangoaaDoor
