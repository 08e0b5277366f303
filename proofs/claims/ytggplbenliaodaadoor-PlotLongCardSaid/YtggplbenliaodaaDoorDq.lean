/- One drawing, as the program writes it, whatever it is. Conditions: a valid shape, whose radius the map of apertures knows; what is written takes at most 2^47 bytes. -/
import Derived.Test.YtggplbenliaodaaDoorDr
namespace Go.Proofs.YtggplbenliaodaaDoor
open Go.RowKit Go.Lib Go.Maps

theorem wf64 {n : Int} (h1 : -9223372036854775808 ≤ n) (h2 : n ≤ 9223372036854775807) : (Lit.int .i64 n).wf = true := by
  have h3 : IntKind.i64.min = -9223372036854775808 := rfl
  have h4 : IntKind.i64.max = 9223372036854775807 := rfl
  simp only [Lit.wf, Bool.and_eq_true, decide_eq_true_eq]
  omega
theorem Wr.to {B b : Nat} {l l' : List UInt8} {m : Nat} {ap ap' : Int} {c : Bool} {w : World} (h : Wr B b l m ap c w) (e : l = l') (e2 : ap = ap') : Wr B b l' m ap' c w := e ▸ e2 ▸ h
theorem flash_one {s : Pl.Sh} {e : Pl.Ed} (h : s.es = [e]) : Pl.flash s = if e.k = 1 ∧ e.a = e.b then some e.a else none := by
  unfold Pl.flash; rw [h]
theorem flash_more {s : Pl.Sh} (h : s.es.length ≠ 1) : Pl.flash s = none := by
  unfold Pl.flash
  split
  · rename_i e he; rw [he] at h; simp at h
  · rfl

theorem draw_any (b : Nat) (l : List UInt8) (s : Pl.Sh) (rs : List Int) (m ap : Nat) (c : Bool) (D : DataW Unit) (nn : Nat) (ao : Option Addr) (N cap : Nat) (hN : s.es.length = N) (W w : World) (h : Wr W.heap.size b l m ap c w) (hK : Kp W w none) (he : Env w) (hes : LiesAt 7 edC W ao cap s.es) (hs : Pl.chk s = 0) (hlen : l.length ≤ 140737488200000) (hW1 : 1 ≤ W.heap.size)
    (hm : MapAt w m nn D) (hat : s.k = 1 → D.atKey (.int .i64 s.r) (.lit (.int .i64 0)) = .lit (.int .i64 (Pl.num rs s.r : Nat))) (hnum : Pl.num rs s.r ≤ 1000000) :
    Calls Tryd.prog 16 #[.pointer (some ⟨b, 0, none⟩), .agg #[.int .i64 s.k, .slice ao N cap, .int .i64 s.r]] w fun e w' => e = .returned (.tuple #[]) ∧ Wr W.heap.size b (l ++ (Pl.selT rs ap s ++ Pl.shapeT s)) m (Pl.apOf rs ap s : Nat) c w' ∧ Kw b w w' := by
  obtain ⟨hk, h0, h2, h40, hv, _, _, _, hr0, hr1⟩ := chk_zero hs
  rcases hk with hk | hk
  · have hwf : (Lit.int .i64 s.r).wf = true := wf64 (by omega) (by omega)
    have hnm : Mid (Pl.num rs s.r : Nat) := by unfold Mid; omega
    have hap : Pl.apOf rs ap s = Pl.num rs s.r := by unfold Pl.apOf; rw [if_neg (by omega)]
    have hsT : Pl.shapeT s = Pl.pathT s := by unfold Pl.shapeT; rw [if_neg (by omega)]
    have hat' := hat hk
    rw [hk, hap, hsT]
    obtain ⟨e, hx⟩ : ∃ e, s.es[0]? = some e := ⟨s.es[0], List.getElem?_eq_getElem h0⟩
    obtain ⟨ek, ⟨ax, ay⟩, ⟨bx, bY⟩, ⟨cx, cy⟩⟩ := e
    by_cases hsel : Pl.num rs s.r = ap
    · have hse : Pl.selT rs ap s = [] := by unfold Pl.selT; rw [if_pos (.inr hsel)]
      rw [hse, List.nil_append]
      have hq : ((Pl.num rs s.r : Nat) : Int) = (ap : Int) := by rw [hsel]
      by_cases hl : N = 1
      · obtain ⟨e, hes1⟩ : ∃ e, s.es = [e] := List.length_eq_one_iff.1 (hN.trans hl)
        have he1 : e = ⟨ek, ⟨ax, ay⟩, ⟨bx, bY⟩, ⟨cx, cy⟩⟩ := by rw [hes1] at hx; simpa using hx
        by_cases hek : ek = 1
        · subst hek
          by_cases hab : ax = bx
          · subst hab
            by_cases hab2 : ay = bY
            · subst hab2
              refine (draw_same_flash b l s.r s.es m ap (Pl.num rs s.r : Nat) c D nn ao N cap hN W w h hK he hes hv (by omega) (by omega) hlen hW1 hm hwf hat' hq ax ay cx cy hl hx).mono ?_
              rintro e w' ⟨h1, h2, h3⟩
              exact ⟨h1, h2.to (by unfold Pl.pathT; rw [flash_one hes1, he1, if_pos ⟨rfl, rfl⟩]) hq.symm, h3⟩
            · refine (draw_same_liney b l s.r s.es m ap (Pl.num rs s.r : Nat) c D nn ao N cap hN W w h hK he hes hv (by omega) (by omega) hlen hW1 hm hwf hat' hq ax ay bY cx cy hl hx hab2).mono ?_
              rintro e w' ⟨h1, h2, h3⟩
              exact ⟨h1, h2.to (by unfold Pl.pathT; rw [flash_one hes1, he1, if_neg (by simp [hab2])]) hq.symm, h3⟩
          · refine (draw_same_linex b l s.r s.es m ap (Pl.num rs s.r : Nat) c D nn ao N cap hN W w h hK he hes hv (by omega) (by omega) hlen hW1 hm hwf hat' hq ax ay bx bY cx cy hl hx hab).mono ?_
            rintro e w' ⟨h1, h2, h3⟩
            exact ⟨h1, h2.to (by unfold Pl.pathT; rw [flash_one hes1, he1, if_neg (by simp [hab])]) hq.symm, h3⟩
        · refine (draw_same_arc b l s.r s.es m ap (Pl.num rs s.r : Nat) c D nn ao N cap hN W w h hK he hes hv (by omega) (by omega) hlen hW1 hm hwf hat' hq ek ax ay bx bY cx cy hl hx hek).mono ?_
          rintro e w' ⟨h1, h2, h3⟩
          exact ⟨h1, h2.to (by unfold Pl.pathT; rw [flash_one hes1, he1, if_neg (by simp [hek])]) hq.symm, h3⟩
      · refine (draw_same_more b l s.r s.es m ap (Pl.num rs s.r : Nat) c D nn ao N cap hN W w h hK he hes hv (by omega) (by omega) hlen hW1 hm hwf hat' hq ek ax ay bx bY cx cy hl hx).mono ?_
        rintro e w' ⟨h1, h2, h3⟩
        exact ⟨h1, h2.to (by unfold Pl.pathT; rw [flash_more (by omega)]) hq.symm, h3⟩
    · have hse : Pl.selT rs ap s = 68 :: (Lib.itoa (Pl.num rs s.r : Nat) ++ [42, 10]) := by unfold Pl.selT; rw [if_neg (by omega)]
      rw [hse]
      have hq : ((Pl.num rs s.r : Nat) : Int) ≠ (ap : Int) := by omega
      by_cases hl : N = 1
      · obtain ⟨e, hes1⟩ : ∃ e, s.es = [e] := List.length_eq_one_iff.1 (hN.trans hl)
        have he1 : e = ⟨ek, ⟨ax, ay⟩, ⟨bx, bY⟩, ⟨cx, cy⟩⟩ := by rw [hes1] at hx; simpa using hx
        by_cases hek : ek = 1
        · subst hek
          by_cases hab : ax = bx
          · subst hab
            by_cases hab2 : ay = bY
            · subst hab2
              refine (draw_sel_flash b l s.r s.es m ap (Pl.num rs s.r : Nat) c D nn ao N cap hN W w h hK he hes hv (by omega) (by omega) hlen hW1 hm hwf hat' hq hnm ax ay cx cy hl hx).mono ?_
              rintro e w' ⟨h1, h2, h3⟩
              exact ⟨h1, h2.to (by unfold Pl.pathT; rw [flash_one hes1, he1, if_pos ⟨rfl, rfl⟩]) rfl, h3⟩
            · refine (draw_sel_liney b l s.r s.es m ap (Pl.num rs s.r : Nat) c D nn ao N cap hN W w h hK he hes hv (by omega) (by omega) hlen hW1 hm hwf hat' hq hnm ax ay bY cx cy hl hx hab2).mono ?_
              rintro e w' ⟨h1, h2, h3⟩
              exact ⟨h1, h2.to (by unfold Pl.pathT; rw [flash_one hes1, he1, if_neg (by simp [hab2])]) rfl, h3⟩
          · refine (draw_sel_linex b l s.r s.es m ap (Pl.num rs s.r : Nat) c D nn ao N cap hN W w h hK he hes hv (by omega) (by omega) hlen hW1 hm hwf hat' hq hnm ax ay bx bY cx cy hl hx hab).mono ?_
            rintro e w' ⟨h1, h2, h3⟩
            exact ⟨h1, h2.to (by unfold Pl.pathT; rw [flash_one hes1, he1, if_neg (by simp [hab])]) rfl, h3⟩
        · refine (draw_sel_arc b l s.r s.es m ap (Pl.num rs s.r : Nat) c D nn ao N cap hN W w h hK he hes hv (by omega) (by omega) hlen hW1 hm hwf hat' hq hnm ek ax ay bx bY cx cy hl hx hek).mono ?_
          rintro e w' ⟨h1, h2, h3⟩
          exact ⟨h1, h2.to (by unfold Pl.pathT; rw [flash_one hes1, he1, if_neg (by simp [hek])]) rfl, h3⟩
      · refine (draw_sel_more b l s.r s.es m ap (Pl.num rs s.r : Nat) c D nn ao N cap hN W w h hK he hes hv (by omega) (by omega) hlen hW1 hm hwf hat' hq hnm ek ax ay bx bY cx cy hl hx).mono ?_
        rintro e w' ⟨h1, h2, h3⟩
        exact ⟨h1, h2.to (by unfold Pl.pathT; rw [flash_more (by omega)]) rfl, h3⟩
  · have hap : Pl.apOf rs ap s = ap := by unfold Pl.apOf; rw [if_pos hk]
    have hsT : Pl.shapeT s = [71, 51, 54, 42, 10] ++ Pl.edgesT s.es ++ [71, 51, 55, 42, 10] := by unfold Pl.shapeT; rw [if_pos hk]
    have hse : Pl.selT rs ap s = [] := by unfold Pl.selT; rw [if_pos (.inl hk)]
    rw [hap, hsT, hse, List.nil_append, hk]
    subst hN
    exact draw_area b l s.r s.es m ap c ao cap W w h hK he hes hv h0 h40 hlen hW1

end Go.Proofs.YtggplbenliaodaaDoor
