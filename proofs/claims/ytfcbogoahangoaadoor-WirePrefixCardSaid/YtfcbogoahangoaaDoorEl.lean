/- The wire reader's lists, walked. Conditions: the string that is read is shorter than 2^31 bytes. -/
import Derived.Test.YtfcbogoahangoaaDoorRd
namespace Go.Proofs.YtfcbogoahangoaaDoor
open Go.RowKit

/-- How many bytes a reader has left: for a loop's measure. -/
def restLen (r : Nat) (w : World) : Nat := match w.cell? ⟨r, 0, none⟩ with | some (.string s) => s.size | _ => 0
theorem restLen_of {w : World} {r : Nat} {st : Option (List UInt8)} (h : RdIs w r st) : restLen r w = (st.getD []).length := by
  unfold restLen; rw [h.c0]; show (st.getD []).toArray.size = _; simp

theorem info3 : (Tryd.prog.info? 3).map (fun i => (i.zero, i.size, i.bytes)) = some (some (.int .i64 0), 1, 8) := by kernel_rfl
theorem info9 : (Tryd.prog.info? 9).map (fun i => (i.zero, i.size, i.bytes)) = some (some (.string ⟨#[]⟩), 1, 16) := by kernel_rfl

def vInt (n : Int) : Value := .int .i64 n
def vStr (s : List UInt8) : Value := .string ⟨s.toArray⟩

/-- How a list's decoding ends. -/
def ListEnds {α : Type} (e : TypeId) (V : α → Value) (r : Nat) (w : World) (o : Option (List α × List UInt8)) (E : Ending) (w' : World) : Prop :=
  (match o with
  | some (xs, l) => (∃ v, E = .returned v ∧ w'.ownsRow w.heap.size e 1 v xs.length (xs.map V)) ∧ RdIs w' r (some l)
  | none => E = .returned (.slice none 0 0) ∧ RdIs w' r none) ∧ Kp w w' (some r)

theorem own_ne {w : World} {base : Nat} {e : TypeId} {size : Nat} {v : Value} {n : Nat} {xs : List Value} (h : w.ownsRow base e size v n xs) {r : Nat} (hr : r < base) : v.ownBlock ≠ some r := fun hv => by
  have := (h.lt r hv).1; omega

theorem Kp.row {W w w' : World} {row rb : Option Nat} (h0 : Kp W w row) (h : Kp w w' rb) (hr : ∀ k, rb = some k → W.heap.size ≤ k) : Kp W w' row :=
  ⟨h.os.trans h0.os, h.tape.trans h0.tape, h.output.trans h0.output, Nat.le_trans h0.size h.size, fun k hk hx =>
    (h.block k (Nat.lt_of_lt_of_le hk h0.size) (by intro e; have := hr k e.symm; omega)).trans (h0.block k hk hx)⟩

theorem ListEnds.bad {α : Type} {e : TypeId} {V : α → Value} {r : Nat} {w w' : World} {o : Option (List α × List UInt8)} (ho : o = none) (h : RdIs w' r none) (k : Kp w w' (some r)) : ListEnds e V r w o (.returned (.slice none 0 0)) w' := by
  subst ho; exact ⟨⟨rfl, h⟩, k⟩
theorem ListEnds.good {α : Type} {e : TypeId} {V : α → Value} {r : Nat} {w w' : World} {o : Option (List α × List UInt8)} {xs : List α} {l : List UInt8} {v : Value} (ho : o = some (xs, l)) (hv : w'.ownsRow w.heap.size e 1 v xs.length (xs.map V)) (h : RdIs w' r (some l)) (k : Kp w w' (some r)) : ListEnds e V r w o (.returned v) w' := by
  subst ho; exact ⟨⟨⟨v, rfl, hv⟩, h⟩, k⟩

theorem ListEnds.ret {α : Type} {e : TypeId} {V : α → Value} {r : Nat} {w w' : World} {o : Option (List α × List UInt8)} {E : Ending} (h : ListEnds e V r w o E w') : ∃ v, E = .returned v := by
  obtain ⟨h, _⟩ := h
  cases o with
  | none => exact ⟨_, h.1⟩
  | some q => obtain ⟨⟨v, hv, _⟩, _⟩ := h; exact ⟨v, hv⟩

/-- At the head of the loop over a list's elements. -/
def ElsRel {α : Type} (e : TypeId) (V : α → Value) (p : List UInt8 → Option (α × List UInt8)) (r : Nat) (w : World) (t : List UInt8) (v : Value) (wr : World) : Prop :=
  ∃ st xs, RdIs wr r st ∧ wr.ownsRow w.heap.size e 1 v xs.length (xs.map V) ∧ Kp w wr (some r) ∧ Wr.pRest p t [] = st.bind (fun l => Wr.pRest p l xs) ∧ xs.length + (st.getD []).length ≤ t.length + 1

theorem els_case (st : Option (List UInt8)) : ((st = none ∨ st = some []) ∧ (st.getD []).length = 0) ∨ (∃ l, st = some (93 :: l)) ∨ (∃ c l, c ≠ 93 ∧ st = some (c :: l)) := by
  match st with
  | none => exact .inl ⟨.inl rfl, rfl⟩
  | some [] => exact .inl ⟨.inr rfl, rfl⟩
  | some (c :: l) =>
    by_cases h : c = 93
    · subst h; exact .inr (.inl ⟨l, rfl⟩)
    · exact .inr (.inr ⟨c, l, h, rfl⟩)

set_option maxHeartbeats 1000000 in
theorem elsI_none (r : Nat) (f : Value) (w : World) (st : Option (List UInt8)) (hst : st = none ∨ st = some []) (h : RdIs w r st) : Calls Tryd.prog 46 #[.pointer (some ⟨r, 0, none⟩), f] w (ListEnds 3 vInt r w none) := by
  have HL := Lib.hid (left_any r st w h)
  have e : (st.getD []).length = 0 := by rcases hst with rfl | rfl <;> rfl
  rw [e] at HL
  have H := Lib.hid h
  clear h e hst
  go_enter Tryd.func46, Tryd.ntmps46
  go_wp2_with (first | (go_at_call 32; refine HL.out.mono ?_; rintro e w' ⟨rfl, rfl⟩) | (go_at_call 45; refine (fail_any _ _ _ H.out).mono ?_; rintro e w2 ⟨rfl, h2, k2⟩; have H2 := Lib.hid h2; clear h2; have K2 := Lib.hid k2; clear k2))
  go_ret
  exact ⟨⟨rfl, H2.out⟩, K2.out⟩

set_option maxHeartbeats 1000000 in
theorem elsI_open (r : Nat) (f : Value) (w : World) (c : UInt8) (t : List UInt8) (ht : t.length < 2147483648) (hc : ((c.toNat : Int) != 91) = true) (h : RdIs w r (some (c :: t))) : Calls Tryd.prog 46 #[.pointer (some ⟨r, 0, none⟩), f] w (ListEnds 3 vInt r w none) := by
  have HL := Lib.hid (left_any r _ w h)
  have c0 := h.c0
  simp only [Option.getD_some, List.length_cons] at HL c0
  have H := Lib.hid h
  clear h
  have hx : ∀ h, (⟨(c :: t).toArray⟩ : ByteArray)[0]'h = c := fun _ => rfl
  go_enter Tryd.func46, Tryd.ntmps46
  go_wp2_with (first | (go_at_call 32; refine HL.out.mono ?_; rintro e w' ⟨rfl, rfl⟩) | (go_at_call 45; refine (fail_any _ _ _ H.out).mono ?_; rintro e w2 ⟨rfl, h2, k2⟩; have H2 := Lib.hid h2; clear h2; have K2 := Lib.hid k2; clear k2))
  go_ret
  exact ⟨⟨rfl, H2.out⟩, K2.out⟩

set_option maxHeartbeats 1000000 in
set_option maxRecDepth 100000 in
theorem elsI_list (r : Nat) (w : World) (t : List UInt8) (ht : t.length < 2147483648) (he : Env w) (hr : 6 ≤ r) (h : RdIs w r (some (91 :: t))) : Calls Tryd.prog 46 #[.pointer (some ⟨r, 0, none⟩), .func (.func 22) #[.pointer (some ⟨r, 0, none⟩)] #[]] w (ListEnds 3 vInt r w (Wr.pRest Wr.pInt t [])) := by
  have HL := Lib.hid (left_any r _ w h)
  have c0 := h.c0
  have f0 := h.fz 0
  simp only [Option.getD_some, List.length_cons] at HL c0
  have H := Lib.hid h
  have H' := Lib.hid h
  clear h
  have hx : ∀ h, (⟨(91 :: t).toArray⟩ : ByteArray)[0]'h = 91 := fun _ => rfl
  go_enter Tryd.func46, Tryd.ntmps46
  go_wp2_with (first | (go_at_call 32; refine HL.out.mono ?_; rintro e w' ⟨rfl, rfl⟩))
  have hP0 : RdIs (w.setCell ⟨r, 0, none⟩ (.string ((⟨(91 :: t).toArray⟩ : ByteArray).extract 1 (t.length + 1)))) r (some t) := by
    rw [show t.length + 1 = (91 :: t).length from rfl, ext_drop]
    exact H.out.set _ rfl
  have P0 := Lib.hid hP0
  clear hP0
  go_loopw [5] (fun v wr => ElsRel 3 vInt Wr.pInt r w t v wr) (fun _ wr => restLen r wr)
  case atStart => exact ⟨some t, [], P0.out, World.ownsRow_nil _ _ _ _, (Kp.refl _ _).set _, rfl, by simp⟩
  case round =>
    obtain ⟨st, xs, hR, hown, hk, hres, hlen⟩ := hrel
    have hrl := restLen_of hR
    rcases els_case st with ⟨hst, hl0⟩ | ⟨l, rfl⟩ | ⟨c, l, hcv, rfl⟩
    · have HL := Lib.hid (left_any r st wr hR)
      rw [hl0] at HL
      have hn : Wr.pRest Wr.pInt t [] = none := by rw [hres]; rcases hst with rfl | rfl <;> rfl
      have HN := Lib.hid hn
      have HR := Lib.hid hR
      have HK := Lib.hid hk
      clear hR hk hres hlen hrl hn P0 H hst hl0 hown
      go_wp2_with (first | (go_at_call 32; refine HL.out.mono ?_; rintro e w' ⟨rfl, rfl⟩) | (go_at_call 45; refine (fail_any _ _ _ HR.out).mono ?_; rintro e w2 ⟨rfl, h2, k2⟩; have H2 := Lib.hid h2; clear h2; have K2 := Lib.hid k2; clear k2))
      go_ret
      exact ListEnds.bad HN.out H2.out (HK.out.trans K2.out)
    · have hn : Wr.pRest Wr.pInt t [] = some (xs, l) := by rw [hres]; exact Wr.rest_end l xs
      have HN := Lib.hid hn
      have HL := Lib.hid (left_any r _ wr hR)
      have c0 := hR.c0
      have f0 := hR.fz 0
      have hll : l.length ≤ t.length + 1 := by simp at hlen; omega
      simp only [Option.getD_some, List.length_cons] at HL c0
      have HR := Lib.hid hR
      have HK := Lib.hid hk
      have HO := Lib.hid hown
      have hx : ∀ h, (⟨(93 :: l).toArray⟩ : ByteArray)[0]'h = 93 := fun _ => rfl
      clear hR hk hres hlen hrl hn P0 H hown
      go_wp2_with (first | (go_at_call 32; refine HL.out.mono ?_; rintro e w' ⟨rfl, rfl⟩))
      go_ret
      refine ListEnds.good HN.out (ownsRow_setCell_other HO.out ?_ _) ?_ (HK.out.set _)
      · exact own_ne HO.out H'.out.lt
      · rw [show l.length + 1 = (93 :: l).length from rfl, ext_drop]
        exact HR.out.set _ rfl
    · obtain ⟨n, st', hcall, hres', hlen', hless⟩ : ∃ n st', Calls Tryd.prog 22 #[.pointer (some ⟨r, 0, none⟩)] wr (fun E w' => E = .returned (.int .i64 n) ∧ RdIs w' r st' ∧ Kp wr w' (some r)) ∧
          Wr.pRest Wr.pInt t [] = st'.bind (fun l => Wr.pRest Wr.pInt l (xs ++ [n])) ∧ xs.length + 1 + (st'.getD []).length ≤ t.length + 1 ∧ (st'.getD []).length < l.length + 1 := by
        have hq := int_any r (some (c :: l)) wr (he.kp hk (by intro x hx; injection hx; omega)) hr (by simp at hlen ⊢; omega) hR
        simp only [Option.bind_some] at hq hres
        cases hp : Wr.pInt (c :: l) with
        | none =>
          rw [hp] at hq
          refine ⟨0, none, hq.mono fun E w' h => ⟨h.1.1, h.1.2, h.2⟩, by rw [hres, Wr.rest_bad xs hcv hp]; rfl, by simp at hlen ⊢; omega, by simp⟩
        | some q =>
          obtain ⟨n, l'⟩ := q
          rw [hp] at hq
          have hlt := Wr.int_codec.lt hp
          refine ⟨n, some l', hq.mono fun E w' h => ⟨h.1.1, h.1.2, h.2⟩, by rw [hres, Wr.rest_step Wr.int_codec xs hcv hp]; rfl, by simp at hlen hlt ⊢; omega, by simpa using hlt⟩
      have HL := Lib.hid (left_any r _ wr hR)
      have c0 := hR.c0
      have hll : l.length ≤ t.length + 1 := by simp at hlen; omega
      have hxl : xs.length ≤ t.length + 1 := by omega
      simp only [Option.getD_some, List.length_cons] at HL c0 hrl
      have HR := Lib.hid hR
      have HK := Lib.hid hk
      have HO := Lib.hid hown
      have HC := Lib.hid hcall
      have HRL := Lib.hid hrl
      have HN := Lib.hid hres'
      have hx : ∀ h, (⟨(c :: l).toArray⟩ : ByteArray)[0]'h = c := fun _ => rfl
      have hc93 : ((c.toNat : Int) != 93) = true := by
        rw [bne_iff_ne]
        intro h
        exact hcv (UInt8.toNat_inj.1 (by simpa using (by omega : c.toNat = 93)))
      clear hR hk hres hres' hlen hrl P0 H hown hcall hcv
      obtain ⟨i0, hi, hz0, hz1, hz2⟩ := info_parts info3
      go_wp2_with (first | (go_at_call 32; refine HL.out.mono ?_; rintro e w' ⟨rfl, rfl⟩) | (go_at_call 22; refine HC.out.mono ?_; rintro e w1 ⟨rfl, h1, k1⟩; have H1 := Lib.hid h1; clear h1; have K1 := Lib.hid k1; clear k1; have HO1 := Lib.hid (HO.out.kept K1.out (.inr (own_ne HO.out H'.out.lt)))) | (at_builtin; refine wpList_append_own _ rfl _ _ 22 rfl w.heap.size 3 i0 (.int .i64 0) 1 8 Tryd.underlying22 hi hz0 hz1 hz2 rfl (by decide) _ _ _ rfl (HO1.out.alloc _) ⟨w1.heap.size, 0, none⟩ 1 1 [.int .i64 n] rfl rfl ?c1 ?c2 ?c3 ?c4 ?c5 ?_))
      case c1 => intro j u hj; match j, hj with | 0, hj => simp at hj; subst hj; simp [Addr.add]
      case c2 => intro u hu; simp at hu; subst hu; rfl
      case c3 => unfold maxLen; omega
      case c4 => omega
      case c5 => have := HK.out.size; have := K1.out.size; simp; omega
      intro v' w2 hown' hgrow _
      have HO2 := Lib.hid hown'
      have HG := Lib.hid hgrow
      clear hown' hgrow
      go_wp2
      go_roundw
      case rel =>
        have hrel : ElsRel 3 vInt Wr.pInt r w t v' w2 := ⟨st', xs ++ [n], (H1.out.keep ((Kp.refl _ (some w1.heap.size)).alloc _) (by have := H1.out.lt; simp; omega)).keep HG.out (own_ne HO1.out H'.out.lt), by simpa [vInt] using HO2.out, Kp.row ((HK.out.trans K1.out).alloc _) HG.out (fun k hk => (HO1.out.lt k hk).1), HN.out, by simpa using hlen'⟩
        first | exact hrel | ((repeat apply Exists.intro); exact ⟨hrel, rfl⟩)
      case measure =>
        rw [restLen_of ((H1.out.keep ((Kp.refl _ (some w1.heap.size)).alloc _) (by have := H1.out.lt; simp; omega)).keep HG.out (own_ne HO1.out H'.out.lt)), HRL.out]
        exact hless

set_option maxHeartbeats 1000000 in
theorem elsT_none (r : Nat) (f : Value) (w : World) (st : Option (List UInt8)) (hst : st = none ∨ st = some []) (h : RdIs w r st) : Calls Tryd.prog 48 #[.pointer (some ⟨r, 0, none⟩), f] w (ListEnds 9 vStr r w none) := by
  have HL := Lib.hid (left_any r st w h)
  have e : (st.getD []).length = 0 := by rcases hst with rfl | rfl <;> rfl
  rw [e] at HL
  have H := Lib.hid h
  clear h e hst
  go_enter Tryd.func48, Tryd.ntmps48
  go_wp2_with (first | (go_at_call 32; refine HL.out.mono ?_; rintro e w' ⟨rfl, rfl⟩) | (go_at_call 45; refine (fail_any _ _ _ H.out).mono ?_; rintro e w2 ⟨rfl, h2, k2⟩; have H2 := Lib.hid h2; clear h2; have K2 := Lib.hid k2; clear k2))
  go_ret
  exact ⟨⟨rfl, H2.out⟩, K2.out⟩

set_option maxHeartbeats 1000000 in
theorem elsT_open (r : Nat) (f : Value) (w : World) (c : UInt8) (t : List UInt8) (ht : t.length < 2147483648) (hc : ((c.toNat : Int) != 91) = true) (h : RdIs w r (some (c :: t))) : Calls Tryd.prog 48 #[.pointer (some ⟨r, 0, none⟩), f] w (ListEnds 9 vStr r w none) := by
  have HL := Lib.hid (left_any r _ w h)
  have c0 := h.c0
  simp only [Option.getD_some, List.length_cons] at HL c0
  have H := Lib.hid h
  clear h
  have hx : ∀ h, (⟨(c :: t).toArray⟩ : ByteArray)[0]'h = c := fun _ => rfl
  go_enter Tryd.func48, Tryd.ntmps48
  go_wp2_with (first | (go_at_call 32; refine HL.out.mono ?_; rintro e w' ⟨rfl, rfl⟩) | (go_at_call 45; refine (fail_any _ _ _ H.out).mono ?_; rintro e w2 ⟨rfl, h2, k2⟩; have H2 := Lib.hid h2; clear h2; have K2 := Lib.hid k2; clear k2))
  go_ret
  exact ⟨⟨rfl, H2.out⟩, K2.out⟩

set_option maxHeartbeats 1000000 in
set_option maxRecDepth 100000 in
theorem elsT_list (r : Nat) (w : World) (t : List UInt8) (ht : t.length < 2147483648) (he : Env w) (hr : 6 ≤ r) (h : RdIs w r (some (91 :: t))) : Calls Tryd.prog 48 #[.pointer (some ⟨r, 0, none⟩), .func (.func 24) #[.pointer (some ⟨r, 0, none⟩)] #[]] w (ListEnds 9 vStr r w (Wr.pRest Wr.pText t [])) := by
  have HL := Lib.hid (left_any r _ w h)
  have c0 := h.c0
  have f0 := h.fz 0
  simp only [Option.getD_some, List.length_cons] at HL c0
  have H := Lib.hid h
  have H' := Lib.hid h
  clear h
  have hx : ∀ h, (⟨(91 :: t).toArray⟩ : ByteArray)[0]'h = 91 := fun _ => rfl
  go_enter Tryd.func48, Tryd.ntmps48
  go_wp2_with (first | (go_at_call 32; refine HL.out.mono ?_; rintro e w' ⟨rfl, rfl⟩))
  have hP0 : RdIs (w.setCell ⟨r, 0, none⟩ (.string ((⟨(91 :: t).toArray⟩ : ByteArray).extract 1 (t.length + 1)))) r (some t) := by
    rw [show t.length + 1 = (91 :: t).length from rfl, ext_drop]
    exact H.out.set _ rfl
  have P0 := Lib.hid hP0
  clear hP0
  go_loopw [5] (fun v wr => ElsRel 9 vStr Wr.pText r w t v wr) (fun _ wr => restLen r wr)
  case atStart => exact ⟨some t, [], P0.out, World.ownsRow_nil _ _ _ _, (Kp.refl _ _).set _, rfl, by simp⟩
  case round =>
    obtain ⟨st, xs, hR, hown, hk, hres, hlen⟩ := hrel
    have hrl := restLen_of hR
    rcases els_case st with ⟨hst, hl0⟩ | ⟨l, rfl⟩ | ⟨c, l, hcv, rfl⟩
    · have HL := Lib.hid (left_any r st wr hR)
      rw [hl0] at HL
      have hn : Wr.pRest Wr.pText t [] = none := by rw [hres]; rcases hst with rfl | rfl <;> rfl
      have HN := Lib.hid hn
      have HR := Lib.hid hR
      have HK := Lib.hid hk
      clear hR hk hres hlen hrl hn P0 H hst hl0 hown
      go_wp2_with (first | (go_at_call 32; refine HL.out.mono ?_; rintro e w' ⟨rfl, rfl⟩) | (go_at_call 45; refine (fail_any _ _ _ HR.out).mono ?_; rintro e w2 ⟨rfl, h2, k2⟩; have H2 := Lib.hid h2; clear h2; have K2 := Lib.hid k2; clear k2))
      go_ret
      exact ListEnds.bad HN.out H2.out (HK.out.trans K2.out)
    · have hn : Wr.pRest Wr.pText t [] = some (xs, l) := by rw [hres]; exact Wr.rest_end l xs
      have HN := Lib.hid hn
      have HL := Lib.hid (left_any r _ wr hR)
      have c0 := hR.c0
      have f0 := hR.fz 0
      have hll : l.length ≤ t.length + 1 := by simp at hlen; omega
      simp only [Option.getD_some, List.length_cons] at HL c0
      have HR := Lib.hid hR
      have HK := Lib.hid hk
      have HO := Lib.hid hown
      have hx : ∀ h, (⟨(93 :: l).toArray⟩ : ByteArray)[0]'h = 93 := fun _ => rfl
      clear hR hk hres hlen hrl hn P0 H hown
      go_wp2_with (first | (go_at_call 32; refine HL.out.mono ?_; rintro e w' ⟨rfl, rfl⟩))
      go_ret
      refine ListEnds.good HN.out (ownsRow_setCell_other HO.out ?_ _) ?_ (HK.out.set _)
      · exact own_ne HO.out H'.out.lt
      · rw [show l.length + 1 = (93 :: l).length from rfl, ext_drop]
        exact HR.out.set _ rfl
    · obtain ⟨n, st', hcall, hres', hlen', hless⟩ : ∃ n st', Calls Tryd.prog 24 #[.pointer (some ⟨r, 0, none⟩)] wr (fun E w' => E = .returned (.string ⟨n.toArray⟩) ∧ RdIs w' r st' ∧ Kp wr w' (some r)) ∧
          Wr.pRest Wr.pText t [] = st'.bind (fun l => Wr.pRest Wr.pText l (xs ++ [n])) ∧ xs.length + 1 + (st'.getD []).length ≤ t.length + 1 ∧ (st'.getD []).length < l.length + 1 := by
        have hq := text_any r (some (c :: l)) wr (he.kp hk (by intro x hx; injection hx; omega)) hr (by simp at hlen ⊢; omega) hR
        simp only [Option.bind_some] at hq hres
        cases hp : Wr.pText (c :: l) with
        | none =>
          rw [hp] at hq
          refine ⟨[], none, hq.mono fun E w' h => ⟨h.1.1, h.1.2, h.2⟩, by rw [hres, Wr.rest_bad xs hcv hp]; rfl, by simp at hlen ⊢; omega, by simp⟩
        | some q =>
          obtain ⟨n, l'⟩ := q
          rw [hp] at hq
          have hlt := Wr.text_codec.lt hp
          refine ⟨n, some l', hq.mono fun E w' h => ⟨h.1.1, h.1.2, h.2⟩, by rw [hres, Wr.rest_step Wr.text_codec xs hcv hp]; rfl, by simp at hlen hlt ⊢; omega, by simpa using hlt⟩
      have HL := Lib.hid (left_any r _ wr hR)
      have c0 := hR.c0
      have hll : l.length ≤ t.length + 1 := by simp at hlen; omega
      have hxl : xs.length ≤ t.length + 1 := by omega
      simp only [Option.getD_some, List.length_cons] at HL c0 hrl
      have HR := Lib.hid hR
      have HK := Lib.hid hk
      have HO := Lib.hid hown
      have HC := Lib.hid hcall
      have HRL := Lib.hid hrl
      have HN := Lib.hid hres'
      have hx : ∀ h, (⟨(c :: l).toArray⟩ : ByteArray)[0]'h = c := fun _ => rfl
      have hc93 : ((c.toNat : Int) != 93) = true := by
        rw [bne_iff_ne]
        intro h
        exact hcv (UInt8.toNat_inj.1 (by simpa using (by omega : c.toNat = 93)))
      clear hR hk hres hres' hlen hrl P0 H hown hcall hcv
      obtain ⟨i0, hi, hz0, hz1, hz2⟩ := info_parts info9
      go_wp2_with (first | (go_at_call 32; refine HL.out.mono ?_; rintro e w' ⟨rfl, rfl⟩) | (go_at_call 24; refine HC.out.mono ?_; rintro e w1 ⟨rfl, h1, k1⟩; have H1 := Lib.hid h1; clear h1; have K1 := Lib.hid k1; clear k1; have HO1 := Lib.hid (HO.out.kept K1.out (.inr (own_ne HO.out H'.out.lt)))) | (at_builtin; refine wpList_append_own _ rfl _ _ 23 rfl w.heap.size 9 i0 (.string ⟨#[]⟩) 1 16 Tryd.underlying23 hi hz0 hz1 hz2 rfl (by decide) _ _ _ rfl (HO1.out.alloc _) ⟨w1.heap.size, 0, none⟩ 1 1 [.string ⟨n.toArray⟩] rfl rfl ?c1 ?c2 ?c3 ?c4 ?c5 ?_))
      case c1 => intro j u hj; match j, hj with | 0, hj => simp at hj; subst hj; simp [Addr.add]
      case c2 => intro u hu; simp at hu; subst hu; rfl
      case c3 => unfold maxLen; omega
      case c4 => omega
      case c5 => have := HK.out.size; have := K1.out.size; simp; omega
      intro v' w2 hown' hgrow _
      have HO2 := Lib.hid hown'
      have HG := Lib.hid hgrow
      clear hown' hgrow
      go_wp2
      go_roundw
      case rel =>
        have hrel : ElsRel 9 vStr Wr.pText r w t v' w2 := ⟨st', xs ++ [n], (H1.out.keep ((Kp.refl _ (some w1.heap.size)).alloc _) (by have := H1.out.lt; simp; omega)).keep HG.out (own_ne HO1.out H'.out.lt), by simpa [vStr] using HO2.out, Kp.row ((HK.out.trans K1.out).alloc _) HG.out (fun k hk => (HO1.out.lt k hk).1), HN.out, by simpa using hlen'⟩
        first | exact hrel | ((repeat apply Exists.intro); exact ⟨hrel, rfl⟩)
      case measure =>
        rw [restLen_of ((H1.out.keep ((Kp.refl _ (some w1.heap.size)).alloc _) (by have := H1.out.lt; simp; omega)).keep HG.out (own_ne HO1.out H'.out.lt)), HRL.out]
        exact hless


theorem els_any {α : Type} {e : TypeId} {V : α → Value} {p : List UInt8 → Option (α × List UInt8)} {f : Nat} {g : Value} (r : Nat) (st : Option (List UInt8)) (w : World) (hs : (st.getD []).length < 2147483648) (h : RdIs w r st)
    (hnone : (st = none ∨ st = some []) → Calls Tryd.prog f #[.pointer (some ⟨r, 0, none⟩), g] w (ListEnds e V r w none))
    (hopen : ∀ c t, st = some (c :: t) → ((c.toNat : Int) != 91) = true → Calls Tryd.prog f #[.pointer (some ⟨r, 0, none⟩), g] w (ListEnds e V r w none))
    (hlist : ∀ t, st = some (91 :: t) → Calls Tryd.prog f #[.pointer (some ⟨r, 0, none⟩), g] w (ListEnds e V r w (Wr.pRest p t []))) :
    Calls Tryd.prog f #[.pointer (some ⟨r, 0, none⟩), g] w (ListEnds e V r w (st.bind (Wr.pList p))) := by
  match st, h, hs with
  | none, _, _ => exact hnone (.inl rfl)
  | some [], _, _ => exact hnone (.inr rfl)
  | some (c :: t), h, hs =>
    simp only [Option.bind_some, Wr.pList]
    by_cases hc : c = 91
    · subst hc
      rw [if_pos rfl]
      exact hlist t rfl
    · rw [if_neg hc]
      refine hopen c t rfl ?_
      rw [bne_iff_ne]
      intro h
      exact hc (UInt8.toNat_inj.1 (by simpa using (by omega : c.toNat = 91)))

theorem elsI_any (r : Nat) (st : Option (List UInt8)) (w : World) (he : Env w) (hr : 6 ≤ r) (hs : (st.getD []).length < 2147483648) (h : RdIs w r st) :
    Calls Tryd.prog 46 #[.pointer (some ⟨r, 0, none⟩), .func (.func 22) #[.pointer (some ⟨r, 0, none⟩)] #[]] w (ListEnds 3 vInt r w (st.bind Wr.pInts)) :=
  els_any r st w hs h (fun h' => elsI_none r _ w st h' h) (fun c t e hc => elsI_open r _ w c t (by rw [e] at hs; simp at hs; omega) hc (e ▸ h)) (fun t e => elsI_list r w t (by rw [e] at hs; simp at hs; omega) he hr (e ▸ h))
theorem elsT_any (r : Nat) (st : Option (List UInt8)) (w : World) (he : Env w) (hr : 6 ≤ r) (hs : (st.getD []).length < 2147483648) (h : RdIs w r st) :
    Calls Tryd.prog 48 #[.pointer (some ⟨r, 0, none⟩), .func (.func 24) #[.pointer (some ⟨r, 0, none⟩)] #[]] w (ListEnds 9 vStr r w (st.bind Wr.pTexts)) :=
  els_any r st w hs h (fun h' => elsT_none r _ w st h' h) (fun c t e hc => elsT_open r _ w c t (by rw [e] at hs; simp at hs; omega) hc (e ▸ h)) (fun t e => elsT_list r w t (by rw [e] at hs; simp at hs; omega) he hr (e ▸ h))

theorem ints_any (r : Nat) (st : Option (List UInt8)) (w : World) (he : Env w) (hr : 6 ≤ r) (hs : (st.getD []).length < 2147483648) (h : RdIs w r st) :
    Calls Tryd.prog 27 #[.pointer (some ⟨r, 0, none⟩)] w (ListEnds 3 vInt r w (st.bind Wr.pInts)) := by
  have H := Lib.hid (elsI_any r st w he hr hs h)
  clear h he
  go_enter Tryd.func27, Tryd.ntmps27
  go_wp2_with (go_at_call 46; refine H.out.mono ?_; intro e w' h; have HH := Lib.hid h; clear h; obtain ⟨v, rfl⟩ := ListEnds.ret HH.out)
  go_ret
  exact HH.out
theorem texts_any (r : Nat) (st : Option (List UInt8)) (w : World) (he : Env w) (hr : 6 ≤ r) (hs : (st.getD []).length < 2147483648) (h : RdIs w r st) :
    Calls Tryd.prog 30 #[.pointer (some ⟨r, 0, none⟩)] w (ListEnds 9 vStr r w (st.bind Wr.pTexts)) := by
  have H := Lib.hid (elsT_any r st w he hr hs h)
  clear h he
  go_enter Tryd.func30, Tryd.ntmps30
  go_wp2_with (go_at_call 48; refine H.out.mono ?_; intro e w' h; have HH := Lib.hid h; clear h; obtain ⟨v, rfl⟩ := ListEnds.ret HH.out)
  go_ret
  exact HH.out

end Go.Proofs.YtfcbogoahangoaaDoor
