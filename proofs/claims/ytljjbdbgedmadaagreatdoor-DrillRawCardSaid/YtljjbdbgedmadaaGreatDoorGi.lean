/- The reference's reader of a span. Condition: a line of at most 10^9 bytes.
   The reference's reader of a line ahead of %. Conditions: a line of at most 10^9 bytes; at most 10^6 tools. -/
import Derived.Test.YtljjbdbgedmadaaGreatDoorGe
import Derived.Test.YtljjbdbgedmadaaGreatDoorGa
import Derived.Test.YtljjbdbgedmadaaGreatDoorQh

namespace Go.Proofs.YtljjbdbgedmadaaGreatDoor
open Go.RowKit Go.Lib

/-- What the reader of a span comes to. -/
def SpanRIs (W : World) (R : Nat) (st : Dl.St) (s : List UInt8) (w : World) (E : Ending) (w' : World) : Prop := match Dl.spanOf s with
  | none => E = .returned (.tuple #[.int .i64 0, .bool false]) ∧ Kp w w' none
  | some (f, t, p) => if Dl.spanR f t = true then E = .returned (.tuple #[.int .i64 0, .bool true]) ∧ RfAt W R { st with f := f, t := t, pl := p } w' else E = .returned (.tuple #[.int .i64 72, .bool true]) ∧ Kp W w' none
theorem rhole_set {R : Nat} {st : Dl.St} {tv eu ov : Value} {w : World} (h : w.heap[R]? = some (.cells (RFC st tv eu ov) 181 (0, 0))) (f t : Int) (pl : Bool) :
    ((((((w.setCell ⟨R, 3, none⟩ (.int .i64 0)).setCell ⟨R, 4, none⟩ (.slice none 0 0)).setCell ⟨R, 5, none⟩ (.int .i64 0)).setCell ⟨R, 6, none⟩ (.int .i64 f)).setCell ⟨R, 7, none⟩ (.int .i64 t)).setCell ⟨R, 8, none⟩ (.bool pl)).heap[R]? = some (.cells (RFC { st with f := f, t := t, pl := pl } tv eu ov) 181 (0, 0)) ∧
    Kp w ((((((w.setCell ⟨R, 3, none⟩ (.int .i64 0)).setCell ⟨R, 4, none⟩ (.slice none 0 0)).setCell ⟨R, 5, none⟩ (.int .i64 0)).setCell ⟨R, 6, none⟩ (.int .i64 f)).setCell ⟨R, 7, none⟩ (.int .i64 t)).setCell ⟨R, 8, none⟩ (.bool pl)) (some R) := by
  have h1 := heap_set (o := 8) (v := .bool pl) (heap_set (o := 7) (v := .int .i64 t) (heap_set (o := 6) (v := .int .i64 f) (heap_set (o := 5) (v := .int .i64 0) (heap_set (o := 4) (v := .slice none 0 0) (heap_set (o := 3) (v := .int .i64 0) h)))))
  exact ⟨h1, ((((((Kp.refl w (some R)).set _).set _).set _).set _).set _).set _⟩
set_option maxHeartbeats 8000000 in
set_option maxRecDepth 100000 in
theorem rspan139_any (W : World) (R : Nat) (st : Dl.St) (s : List UInt8) (w : World) (h : RfAt W R st w) (hs : s.length ≤ 1000000000) : Calls Tryz.prog 139 #[.pointer (some ⟨R, 0, none⟩), str s] w (SpanRIs W R st s w) := by
  obtain ⟨ph, tools, sel, f, t, pl, at_, es, out⟩ := st
  have KW0 := Lib.hid h.kp
  have H0 := Lib.hid h
  have HSL := Lib.hid hs
  clear h hs
  cases hsc : Dl.scan Dl.kSpan [[32], 32 :: Dl.kPlated] s with
  | some ns =>
    obtain ⟨a, b, rfl⟩ := len2 (Dl.scan_some hsc).1 rfl
    have HC := Lib.hid (fun V => nums_yes rpat_plated HSL.out hsc V)
    have HX : Hid (Dl.spanOf s = some (a, b, true)) := Lib.hid (by unfold Dl.spanOf; rw [hsc])
    clear hsc
    go_enter Tryz.func139, Tryz.ntmps139
    go_upto_region 8 with (go_at_call 140; refine (HC.out _).mono ?_; rintro e wl ⟨⟨ao, cap, rfl, hla, _⟩, k1⟩; have HLA := Lib.hid hla; have KW := Lib.hid k1; clear hla k1)
    obtain ⟨g, off, rfl, hg, hcap, ca, cb⟩ := two_at HLA.out
    obtain ⟨tv, eu, ov, ts, hts, hb, hr⟩ := H0.out.keep KW.out
    dsimp only at hts hb hr
    have HT := Lib.hid hts
    have HB := Lib.hid hb
    have HRR := Lib.hid hr
    have HRT := Lib.hid (fun V => rspan_any a b V)
    obtain ⟨sr, hsr⟩ : ∃ x, Dl.spanR a b = x := ⟨_, rfl⟩
    rw [hsr] at HRT
    have HSR := Lib.hid hsr
    have HCA : Hid (∀ V, Kp wl V none → V.cell? ⟨g, off, none⟩ = some (.int .i64 a) ∧ V.cell? ⟨g, off + 1, none⟩ = some (.int .i64 b)) := Lib.hid fun V k => ⟨(k.below.cell (p := ⟨g, off, none⟩) hg).trans ca, (k.below.cell (p := ⟨g, off + 1, none⟩) hg).trans cb⟩
    have HX2 : Hid (Dl.spanOf s = some (a, b, true)) := Lib.hid HX.out
    clear hts hb hr hsr
    go_quiet ((refine (HRT.out _).mono ?_; rintro e wz ⟨rfl, rfl⟩; exact ⟨rfl, _, rfl⟩))
    clear ca cb
    cases sr with
    | false =>
      go_wp2_with fail
      go_ret2
      unfold SpanRIs
      rw [HX2.out]
      dsimp only
      rw [if_neg (by rw [HSR.out]; simp)]
      exact ⟨rfl, KW0.out.trans (KW.out.drewN nq)⟩
    | true =>
      go_upto_region 10 with fail
      have KD : Hid (Kp wl (wl.drewN nq).drew none) := Lib.hid ((Kp.refl _ _).drewN nq).drew
      have HB2 := Lib.hid (blk HB.out KD.out)
      have HRR2 := Lib.hid (HRR.out.keep KD.out)
      refine wp_region_last (fun V => V.cell? ⟨g, off, none⟩ = some (.int .i64 a) ∧ V.cell? ⟨g, off + 1, none⟩ = some (.int .i64 b)) 11 (by kernel_rfl) ?_ (fun hHeld => ?_)
      · exact HCA.out _ KD.out
      generalize (wl.drewN nq).drew = Y at *
      refine tkL 0 rfl ?_
      try simp only [Act.put, sm]
      refine tkL 1 rfl ?_
      try simp only [Act.put, sm]
      refine tkL 2 rfl ?_
      try simp only [Act.put, sm]
      refine tkL 3 rfl ?_
      try simp only [Act.put, sm]
      refine tkL 4 rfl ?_
      try simp only [Act.put, sm]
      refine tkL 5 rfl ?_
      try simp only [Act.put, sm]
      refine tkL 6 rfl ?_
      try simp only [Act.put, sm]
      refine tkL 7 rfl ?_
      try simp only [Act.put, sm]
      refine tkL 8 rfl ?_
      try simp only [Act.put, sm]
      refine wpAnyL_ready (rs := [9]) (by kernel_rfl) (by simp) ?_
      refine AllReadyL.cons (o := _) rfl (fun K hK => ?_) AllReadyL.nil
      have gS := hHeld
      clear hHeld
      go_simp
      try go_wp2_with fail
      refine hK.out _ _ (gS) (fun hHeld => ?_)
      clear hK K gS
      try simp only [Act.put, sm]
      refine wpAnyL_ready (rs := [10]) (by kernel_rfl) (by simp) ?_
      refine AllReadyL.cons (o := _) rfl (fun K hK => ?_) AllReadyL.nil
      have gS := hHeld
      clear hHeld
      go_simp
      try go_wp2_with fail
      refine hK.out _ _ (gS) (fun hHeld => ?_)
      clear hK K gS
      try simp only [Act.put, sm]
      refine wpAnyL_ready (rs := [11]) (by kernel_rfl) (by simp) ?_
      refine AllReadyL.last (o := _) rfl (fun K hK => ?_)
      have f3 := Lib.frozen_of_heap HB2.out 3
      have f4 := Lib.frozen_of_heap HB2.out 4
      have f5 := Lib.frozen_of_heap HB2.out 5
      have f6 := Lib.frozen_of_heap HB2.out 6
      have f7 := Lib.frozen_of_heap HB2.out 7
      have f8 := Lib.frozen_of_heap HB2.out 8
      have c3 : Y.cell? ⟨R, 3, none⟩ = some (.int .i64 0) := hcell HB2.out 3 rfl
      have c4 : Y.cell? ⟨R, 4, none⟩ = some (.slice none 0 0) := hcell HB2.out 4 rfl
      have c5 : Y.cell? ⟨R, 5, none⟩ = some (.int .i64 0) := hcell HB2.out 5 rfl
      have c6 : Y.cell? ⟨R, 6, none⟩ = some (.int .i64 f) := hcell HB2.out 6 rfl
      have c7 : Y.cell? ⟨R, 7, none⟩ = some (.int .i64 t) := hcell HB2.out 7 rfl
      have c8 : Y.cell? ⟨R, 8, none⟩ = some (.bool pl) := hcell HB2.out 8 rfl
      clear hHeld
      go_simp
      try go_wp2_with fail
      refine hK.out _ _ ?_
      clear hK K f3 f4 f5 f6 f7 f8 c3 c4 c5 c6 c7 c8
      try simp only [Act.put, sm]
      refine wpAnyL_done (by kernel_rfl) ?_ _
      have hs6 := rhole_set HB2.out a b true
      have HF := Lib.hid hs6
      clear hs6
      go_wp2_with fail
      go_ret2
      unfold SpanRIs
      rw [HX2.out]
      dsimp only
      rw [if_pos HSR.out]
      exact ⟨rfl, tv, eu, ov, ts, HT.out, HF.out.1, HRR2.out.set HF.out.2 HF.out.1⟩
  | none =>
    have HC := Lib.hid (fun V => nums_not rpat_plated HSL.out hsc V)
    cases hsd : Dl.scan Dl.kSpan [[32], 32 :: Dl.kPlain] s with
    | none =>
      have HC2 := Lib.hid (fun V => nums_not rpat_plain HSL.out hsd V)
      have HX : Hid (Dl.spanOf s = none) := Lib.hid (by unfold Dl.spanOf; rw [hsc, hsd])
      clear hsc hsd
      go_enter Tryz.func139, Tryz.ntmps139
      go_wp2_with fail
      refine (HC.out _).mono ?_
      rintro e w1 ⟨⟨ao, n, cap, rfl⟩, k1⟩
      have K1 := Lib.hid k1
      clear k1
      go_wp2_with fail
      refine (HC2.out _).mono ?_
      rintro e w2 ⟨⟨ao2, n2, cap2, rfl⟩, k2⟩
      have K2 := Lib.hid (K1.out.trans k2)
      clear k2
      go_wp2_with fail
      go_ret2
      unfold SpanRIs
      rw [HX.out]
      exact ⟨rfl, K2.out⟩
    | some ns =>
      obtain ⟨a, b, rfl⟩ := len2 (Dl.scan_some hsd).1 rfl
      have HC2 := Lib.hid (fun V => nums_yes rpat_plain HSL.out hsd V)
      have HX : Hid (Dl.spanOf s = some (a, b, false)) := Lib.hid (by unfold Dl.spanOf; rw [hsc, hsd])
      clear hsc hsd
      go_enter Tryz.func139, Tryz.ntmps139
      go_wp2_with fail
      refine (HC.out _).mono ?_
      rintro e w1 ⟨⟨ao0, n0, cap0, rfl⟩, k1⟩
      have K1 := Lib.hid k1
      clear k1
      go_wp2_with fail
      refine (HC2.out _).mono ?_
      rintro e wl ⟨⟨ao, cap, rfl, hla, _⟩, k2⟩
      have HLA := Lib.hid hla
      have KW := Lib.hid (K1.out.trans k2)
      clear k2 hla
      go_upto_region 8 with fail
      obtain ⟨g, off, rfl, hg, hcap, ca, cb⟩ := two_at HLA.out
      obtain ⟨tv, eu, ov, ts, hts, hb, hr⟩ := H0.out.keep KW.out
      dsimp only at hts hb hr
      have HT := Lib.hid hts
      have HB := Lib.hid hb
      have HRR := Lib.hid hr
      have HRT := Lib.hid (fun V => rspan_any a b V)
      obtain ⟨sr, hsr⟩ : ∃ x, Dl.spanR a b = x := ⟨_, rfl⟩
      rw [hsr] at HRT
      have HSR := Lib.hid hsr
      have HCA : Hid (∀ V, Kp wl V none → V.cell? ⟨g, off, none⟩ = some (.int .i64 a) ∧ V.cell? ⟨g, off + 1, none⟩ = some (.int .i64 b)) := Lib.hid fun V k => ⟨(k.below.cell (p := ⟨g, off, none⟩) hg).trans ca, (k.below.cell (p := ⟨g, off + 1, none⟩) hg).trans cb⟩
      have HX2 : Hid (Dl.spanOf s = some (a, b, false)) := Lib.hid HX.out
      clear hts hb hr hsr
      go_quiet ((refine (HRT.out _).mono ?_; rintro e wz ⟨rfl, rfl⟩; exact ⟨rfl, _, rfl⟩))
      clear ca cb
      cases sr with
      | false =>
        go_wp2_with fail
        go_ret2
        unfold SpanRIs
        rw [HX2.out]
        dsimp only
        rw [if_neg (by rw [HSR.out]; simp)]
        exact ⟨rfl, KW0.out.trans (KW.out.drewN nq)⟩
      | true =>
        go_upto_region 10 with fail
        have KD : Hid (Kp wl (wl.drewN nq).drew none) := Lib.hid ((Kp.refl _ _).drewN nq).drew
        have HB2 := Lib.hid (blk HB.out KD.out)
        have HRR2 := Lib.hid (HRR.out.keep KD.out)
        refine wp_region_last (fun V => V.cell? ⟨g, off, none⟩ = some (.int .i64 a) ∧ V.cell? ⟨g, off + 1, none⟩ = some (.int .i64 b)) 11 (by kernel_rfl) ?_ (fun hHeld => ?_)
        · exact HCA.out _ KD.out
        generalize (wl.drewN nq).drew = Y at *
        refine tkL 0 rfl ?_
        try simp only [Act.put, sm]
        refine tkL 1 rfl ?_
        try simp only [Act.put, sm]
        refine tkL 2 rfl ?_
        try simp only [Act.put, sm]
        refine tkL 3 rfl ?_
        try simp only [Act.put, sm]
        refine tkL 4 rfl ?_
        try simp only [Act.put, sm]
        refine tkL 5 rfl ?_
        try simp only [Act.put, sm]
        refine tkL 6 rfl ?_
        try simp only [Act.put, sm]
        refine tkL 7 rfl ?_
        try simp only [Act.put, sm]
        refine tkL 8 rfl ?_
        try simp only [Act.put, sm]
        refine wpAnyL_ready (rs := [9]) (by kernel_rfl) (by simp) ?_
        refine AllReadyL.cons (o := _) rfl (fun K hK => ?_) AllReadyL.nil
        have gS := hHeld
        clear hHeld
        go_simp
        try go_wp2_with fail
        refine hK.out _ _ (gS) (fun hHeld => ?_)
        clear hK K gS
        try simp only [Act.put, sm]
        refine wpAnyL_ready (rs := [10]) (by kernel_rfl) (by simp) ?_
        refine AllReadyL.cons (o := _) rfl (fun K hK => ?_) AllReadyL.nil
        have gS := hHeld
        clear hHeld
        go_simp
        try go_wp2_with fail
        refine hK.out _ _ (gS) (fun hHeld => ?_)
        clear hK K gS
        try simp only [Act.put, sm]
        refine wpAnyL_ready (rs := [11]) (by kernel_rfl) (by simp) ?_
        refine AllReadyL.last (o := _) rfl (fun K hK => ?_)
        have f3 := Lib.frozen_of_heap HB2.out 3
        have f4 := Lib.frozen_of_heap HB2.out 4
        have f5 := Lib.frozen_of_heap HB2.out 5
        have f6 := Lib.frozen_of_heap HB2.out 6
        have f7 := Lib.frozen_of_heap HB2.out 7
        have f8 := Lib.frozen_of_heap HB2.out 8
        have c3 : Y.cell? ⟨R, 3, none⟩ = some (.int .i64 0) := hcell HB2.out 3 rfl
        have c4 : Y.cell? ⟨R, 4, none⟩ = some (.slice none 0 0) := hcell HB2.out 4 rfl
        have c5 : Y.cell? ⟨R, 5, none⟩ = some (.int .i64 0) := hcell HB2.out 5 rfl
        have c6 : Y.cell? ⟨R, 6, none⟩ = some (.int .i64 f) := hcell HB2.out 6 rfl
        have c7 : Y.cell? ⟨R, 7, none⟩ = some (.int .i64 t) := hcell HB2.out 7 rfl
        have c8 : Y.cell? ⟨R, 8, none⟩ = some (.bool pl) := hcell HB2.out 8 rfl
        clear hHeld
        go_simp
        try go_wp2_with fail
        refine hK.out _ _ ?_
        clear hK K f3 f4 f5 f6 f7 f8 c3 c4 c5 c6 c7 c8
        try simp only [Act.put, sm]
        refine wpAnyL_done (by kernel_rfl) ?_ _
        have hs6 := rhole_set HB2.out a b false
        have HF := Lib.hid hs6
        clear hs6
        go_wp2_with fail
        go_ret2
        unfold SpanRIs
        rw [HX2.out]
        dsimp only
        rw [if_pos HSR.out]
        exact ⟨rfl, tv, eu, ov, ts, HT.out, HF.out.1, HRR2.out.set HF.out.2 HF.out.1⟩
end Go.Proofs.YtljjbdbgedmadaaGreatDoor

namespace Go.Proofs.YtljjbdbgedmadaaGreatDoor
open Go.RowKit Go.Lib

theorem rf_inl {W : World} {R : Nat} {x : Dl.St ⊕ Int} {u : Dl.St} {w' : World} (h : x = .inl u) (hr : RfAt W R u w') : RfIs W R x (.returned (.int .i64 0)) w' := by subst h; exact ⟨rfl, hr⟩
theorem rf_inr {W : World} {R : Nat} {x : Dl.St ⊕ Int} {e : Int} {w' : World} (h : x = .inr e) (hr : Kp W w' none) : RfIs W R x (.returned (.int .i64 e)) w' := by subst h; exact ⟨rfl, hr⟩
theorem infoTool : (Tryz.prog.info? 254).map (fun i => (i.zero, i.size, i.bytes)) = some (some (.agg #[.int .i64 0, .int .i64 0]), 2, 16) := by kernel_rfl
theorem toC_one : ∀ x, ∀ u ∈ toC x, u.oneCell' = true := by
  intro x u hu
  simp [toC] at hu
  rcases hu with rfl | rfl <;> rfl
theorem tool_list {w : World} (a b : Int) : IsList 2 toC (w.alloc (Obj.cells #[.int .i64 a, .int .i64 b] 254)) (.slice (some ⟨w.heap.size, 0, none⟩) 1 1) [(a, b)] := by
  refine .inr ⟨w.heap.size, 0, 1, rfl, by simp, by simp, fun k hk j hj => ?_⟩
  simp at hk; subst hk
  have hj' : j < 2 := by simpa [toC] using hj
  have : j = 0 ∨ j = 1 := by omega
  rcases this with rfl | rfl <;> exact hcell (heap_alloc_new w _) _ rfl
set_option maxHeartbeats 8000000 in
set_option maxRecDepth 100000 in
theorem rhead_1 (W : World) (R : Nat) (st : Dl.St) (s : List UInt8) (w : World) (h : RfAt W R st w) (hp : st.ph = 0) : Calls Tryz.prog 137 #[.pointer (some ⟨R, 0, none⟩), .int .i64 1, str s] w (RfIs W R (Dl.step st s)) := by
  obtain ⟨ph, tools, sel, f, t, pl, at_, es, out⟩ := st
  dsimp only at hp
  subst hp
  obtain ⟨tv, eu, ov, ts, hts, hb, hr⟩ := h
  have H0 : Hid (∀ V, Kp w V none → RfAt W R ⟨1, tools, sel, f, t, pl, at_, es, out⟩ V) := Lib.hid fun V k => ⟨tv, eu, ov, ts, hts, blk hb k, hr.keep k⟩
  have HK := Lib.hid hr.kp
  clear hts hb hr
  by_cases hk : s = [77, 52, 56]
  · have e1 : (s == [77, 52, 56]) = true := by simpa using hk
    have HX : Hid (Dl.step ⟨0, tools, sel, f, t, pl, at_, es, out⟩ s = .inl ⟨1, tools, sel, f, t, pl, at_, es, out⟩) := Lib.hid (by subst hk; rfl)
    clear hk
    go_enter Tryz.func137, Tryz.ntmps137
    go_wp2_with fail
    go_ret
    exact rf_inl HX.out (H0.out _ ((Kp.refl w none).alloc _))
  · have e1 : (s == [77, 52, 56]) = false := by simpa using hk
    have HX : Hid (Dl.step ⟨0, tools, sel, f, t, pl, at_, es, out⟩ s = .inr 4) := Lib.hid (by unfold Dl.step; rw [if_pos rfl, if_neg (show ¬ s = Dl.kM48 from hk)])
    clear hk
    go_enter Tryz.func137, Tryz.ntmps137
    go_wp2_with fail
    go_ret
    exact rf_inr HX.out (HK.out.alloc _)
set_option maxHeartbeats 8000000 in
set_option maxRecDepth 100000 in
theorem rhead_2 (W : World) (R : Nat) (st : Dl.St) (s : List UInt8) (w : World) (h : RfAt W R st w) (hp : st.ph = 1) : Calls Tryz.prog 137 #[.pointer (some ⟨R, 0, none⟩), .int .i64 2, str s] w (RfIs W R (Dl.step st s)) := by
  obtain ⟨ph, tools, sel, f, t, pl, at_, es, out⟩ := st
  dsimp only at hp
  subst hp
  obtain ⟨tv, eu, ov, ts, hts, hb, hr⟩ := h
  have H0 : Hid (∀ V, Kp w V none → RfAt W R ⟨2, tools, sel, f, t, pl, at_, es, out⟩ V) := Lib.hid fun V k => ⟨tv, eu, ov, ts, hts, blk hb k, hr.keep k⟩
  have HK := Lib.hid hr.kp
  clear hts hb hr
  by_cases hk : s = [59, 101, 116, 99, 104, 97, 110, 116]
  · have e1 : (s == [59, 101, 116, 99, 104, 97, 110, 116]) = true := by simpa using hk
    have HX : Hid (Dl.step ⟨1, tools, sel, f, t, pl, at_, es, out⟩ s = .inl ⟨2, tools, sel, f, t, pl, at_, es, out⟩) := Lib.hid (by subst hk; rfl)
    clear hk
    go_enter Tryz.func137, Tryz.ntmps137
    go_wp2_with fail
    go_ret
    exact rf_inl HX.out (H0.out _ ((Kp.refl w none).alloc _))
  · have e1 : (s == [59, 101, 116, 99, 104, 97, 110, 116]) = false := by simpa using hk
    have HX : Hid (Dl.step ⟨1, tools, sel, f, t, pl, at_, es, out⟩ s = .inr 4) := Lib.hid (by unfold Dl.step; rw [if_neg (show ¬ (1 : Nat) = 0 by decide), if_pos rfl, if_neg (show ¬ s = Dl.kEt from hk)])
    clear hk
    go_enter Tryz.func137, Tryz.ntmps137
    go_wp2_with fail
    go_ret
    exact rf_inr HX.out (HK.out.alloc _)
set_option maxHeartbeats 8000000 in
set_option maxRecDepth 100000 in
theorem rhead_any (W : World) (R : Nat) (st : Dl.St) (s : List UInt8) (n : Int) (hn : 3 ≤ n) (w : World) (h : RfAt W R st w) (hs : s.length ≤ 1000000000) (hp : st.ph = 2) (htl : st.tools.length ≤ 1000000) (hok : ∀ p ∈ st.tools, 2 ≤ p.2) : Calls Tryz.prog 137 #[.pointer (some ⟨R, 0, none⟩), .int .i64 n, str s] w (RfIs W R (Dl.head st s)) := by
  have H0 := Lib.hid h
  have HSL := Lib.hid hs
  have HTL := Lib.hid htl
  have HFD : Hid (∀ n d, Dl.find st.tools n = some d → 2 ≤ d) := Lib.hid fun n d hf => hok _ (Dl.find_mem hf)
  obtain ⟨ph, tools, sel, f, t, pl, at_, es, out⟩ := st
  dsimp only at hp htl HTL HFD
  subst hp
  have hn2 : ¬ n ≤ 2 := by omega
  clear h hs hok
  by_cases hk : s = [37]
  · have HST : Hid (Dl.head ⟨2, tools, sel, f, t, pl, at_, es, out⟩ s = .inl ⟨3, tools, sel, f, t, pl, at_, es, out⟩) := Lib.hid (by subst hk; rfl)
    have e1 : (s == [37]) = true := by simpa using hk
    clear hk
    obtain ⟨tv, eu, ov, ts, hts, hb, hr⟩ := H0.out
    dsimp only at hts hb hr
    have HB := Lib.hid hb
    have HR := Lib.hid hr
    have HT := Lib.hid hts
    have c0 : w.cell? ⟨R, 0, none⟩ = some (.bool false) := hcell hb 0 rfl
    have f0 : w.frozen? ⟨R, 0, none⟩ = false := Lib.frozen_of_heap hb 0
    clear hb hr hts
    go_enter Tryz.func137, Tryz.ntmps137
    go_wp2_with fail
    go_ret
    have hb2 : (w.setCell ⟨R, 0, none⟩ (.bool true)).heap[R]? = some (.cells (RFC ⟨3, tools, sel, f, t, pl, at_, es, out⟩ tv eu ov) 181 (0, 0)) := heap_set HB.out
    exact rf_inl HST.out ⟨tv, eu, ov, ts, HT.out, hb2, HR.out.set ((Kp.refl w (some R)).set _) hb2⟩
  · have hk1 : (s == [37]) = false := by simpa using hk
    cases hsc : Dl.scan [84] [[67], []] s with
    | none =>
      have HC := Lib.hid (fun V => nums_not rpat_head HSL.out hsc V)
      have HST : Hid (Dl.head ⟨2, tools, sel, f, t, pl, at_, es, out⟩ s = .inr 4) := Lib.hid (by unfold Dl.head; rw [if_neg (show ¬ s = Dl.kPc from hk), hsc])
      clear hsc hk
      go_enter Tryz.func137, Tryz.ntmps137
      go_wp2_with (go_at_call 140; refine (HC.out _).mono ?_; rintro e w1 ⟨⟨ao, n, cap, rfl⟩, k1⟩; have K1 := Lib.hid k1; clear k1)
      go_ret
      exact rf_inr HST.out (H0.out.kp.trans K1.out)
    | some ns =>
      obtain ⟨a, b, rfl⟩ := len2 (Dl.scan_some hsc).1 rfl
      have hnb := (Dl.scan_some hsc).2 a (by simp)
      have hnb2 := (Dl.scan_some hsc).2 b (by simp)
      unfold Dl.NumB at hnb hnb2
      have HC := Lib.hid (fun V => nums_yes rpat_head HSL.out hsc V)
      have HST := Lib.hid (head_of (st := ⟨2, tools, sel, f, t, pl, at_, es, out⟩) (s := s) hk hsc)
      clear hsc hk
      by_cases hbad : a < 1 ∨ 990 < a ∨ b < 2 ∨ 8388608 < b ∨ b % 2 ≠ 0
      · have HST2 : Hid (Dl.head ⟨2, tools, sel, f, t, pl, at_, es, out⟩ s = .inr 3) := Lib.hid (by rw [HST.out, if_pos hbad])
        clear HST
        by_cases h1 : a < 1
        · clear hbad
          go_enter Tryz.func137, Tryz.ntmps137
          go_wp2_with fail
          refine (HC.out _).mono ?_
          rintro e w1 ⟨⟨ao, cap, rfl, hla, _⟩, k1⟩
          have HLA := Lib.hid hla
          have K1 := Lib.hid k1
          clear k1 hla
          obtain ⟨g, off, rfl, hg, hcap, ca, cb⟩ := two_at HLA.out
          go_wp2_with fail
          go_ret
          exact rf_inr HST2.out (H0.out.kp.trans K1.out)
        · by_cases h2 : 990 < a
          · clear hbad
            go_enter Tryz.func137, Tryz.ntmps137
            go_wp2_with fail
            refine (HC.out _).mono ?_
            rintro e w1 ⟨⟨ao, cap, rfl, hla, _⟩, k1⟩
            have HLA := Lib.hid hla
            have K1 := Lib.hid k1
            clear k1 hla
            obtain ⟨g, off, rfl, hg, hcap, ca, cb⟩ := two_at HLA.out
            go_wp2_with fail
            go_ret
            exact rf_inr HST2.out (H0.out.kp.trans K1.out)
          · by_cases h3 : b < 2
            · clear hbad
              go_enter Tryz.func137, Tryz.ntmps137
              go_wp2_with fail
              refine (HC.out _).mono ?_
              rintro e w1 ⟨⟨ao, cap, rfl, hla, _⟩, k1⟩
              have HLA := Lib.hid hla
              have K1 := Lib.hid k1
              clear k1 hla
              obtain ⟨g, off, rfl, hg, hcap, ca, cb⟩ := two_at HLA.out
              go_wp2_with fail
              go_ret
              exact rf_inr HST2.out (H0.out.kp.trans K1.out)
            · by_cases h4 : 8388608 < b
              · clear hbad
                go_enter Tryz.func137, Tryz.ntmps137
                go_wp2_with fail
                refine (HC.out _).mono ?_
                rintro e w1 ⟨⟨ao, cap, rfl, hla, _⟩, k1⟩
                have HLA := Lib.hid hla
                have K1 := Lib.hid k1
                clear k1 hla
                obtain ⟨g, off, rfl, hg, hcap, ca, cb⟩ := two_at HLA.out
                go_wp2_with fail
                go_ret
                exact rf_inr HST2.out (H0.out.kp.trans K1.out)
              · have h5 : (b % 2 != 0) = true := by simp; omega
                have hq : b.tmod 2 = b % 2 := Int.tmod_eq_emod_of_nonneg (by omega)
                clear hbad
                go_enter Tryz.func137, Tryz.ntmps137
                go_wp2_with fail
                refine (HC.out _).mono ?_
                rintro e w1 ⟨⟨ao, cap, rfl, hla, _⟩, k1⟩
                have HLA := Lib.hid hla
                have K1 := Lib.hid k1
                clear k1 hla
                obtain ⟨g, off, rfl, hg, hcap, ca, cb⟩ := two_at HLA.out
                go_wp2_with fail
                go_ret
                exact rf_inr HST2.out (H0.out.kp.trans K1.out)
      · have h1 : ¬ a < 1 := by omega
        have h2 : ¬ 990 < a := by omega
        have h3 : ¬ b < 2 := by omega
        have h4 : ¬ 8388608 < b := by omega
        have h5 : (b % 2 != 0) = false := by simp; omega
        have hq : b.tmod 2 = b % 2 := Int.tmod_eq_emod_of_nonneg (by omega)
        have HST2 : Hid (Dl.head ⟨2, tools, sel, f, t, pl, at_, es, out⟩ s = if (Dl.find tools a).isSome then .inr 70 else .inl ⟨2, tools ++ [(a, b)], sel, f, t, pl, at_, es, out⟩) := Lib.hid (by rw [HST.out, if_neg hbad])
        have HFN := Lib.hid (fun V (k : Kp w V none) => rfind_any W R ⟨2, tools, sel, f, t, pl, at_, es, out⟩ a V (H0.out.keep k) HTL.out)
        dsimp only at HFN
        have HWB : Hid (∀ q, ∀ tv eu ov ts, RfRest W R tools es ts tv eu ov w → tv.ownBlock = some q → q < w.heap.size) := Lib.hid fun q tv eu ov ts hr hq => (hr.tl.lt q hq).2
        obtain ⟨i0, hi, hz0, hz1, hz2⟩ := info_parts infoTool
        clear HST hbad
        cases hf : Dl.find tools a with
        | some d =>
          have hd := HFD.out a d hf
          have HST3 : Hid (Dl.head ⟨2, tools, sel, f, t, pl, at_, es, out⟩ s = .inr 70) := Lib.hid (by rw [HST2.out, hf]; rfl)
          rw [hf] at HFN
          have HFN2 : Hid (∀ V, Kp w V none → Calls Tryz.prog 141 #[.pointer (some ⟨R, 0, none⟩), .int .i64 a] V fun E w' => E = .returned (.int .i64 d) ∧ V = w') := Lib.hid HFN.out
          have hd0 : 0 < d := by omega
          clear hf HST2 HFN
          go_enter Tryz.func137, Tryz.ntmps137
          go_wp2_with fail
          refine (HC.out _).mono ?_
          rintro e w1 ⟨⟨ao, cap, rfl, hla, _⟩, k1⟩
          have HLA := Lib.hid hla
          have K1 := Lib.hid k1
          clear k1 hla
          obtain ⟨g, off, rfl, hg, hcap, ca, cb⟩ := two_at HLA.out
          go_wp2_with (go_at_call 141; refine (HFN2.out _ K1.out).mono ?_; rintro e w2 ⟨rfl, rfl⟩)
          go_ret
          exact rf_inr HST3.out (H0.out.kp.trans K1.out)
        | none =>
          have HST3 : Hid (Dl.head ⟨2, tools, sel, f, t, pl, at_, es, out⟩ s = .inl ⟨2, tools ++ [(a, b)], sel, f, t, pl, at_, es, out⟩) := Lib.hid (by rw [HST2.out, hf]; rfl)
          rw [hf] at HFN
          have HFN2 : Hid (∀ V, Kp w V none → Calls Tryz.prog 141 #[.pointer (some ⟨R, 0, none⟩), .int .i64 a] V fun E w' => E = .returned (.int .i64 0) ∧ V = w') := Lib.hid HFN.out
          clear hf HST2 HFN
          go_enter Tryz.func137, Tryz.ntmps137
          go_wp2_with fail
          refine (HC.out _).mono ?_
          rintro e w1 ⟨⟨ao, cap, rfl, hla, hab⟩, k1⟩
          have HLA := Lib.hid hla
          have K1 := Lib.hid k1
          obtain ⟨g, off, rfl, hg, hcap, ca, cb⟩ := two_at HLA.out
          have HGB : Hid (w.heap.size ≤ g) := Lib.hid (hab _ rfl)
          clear k1 hla hab
          obtain ⟨tv, eu, ov, ts, hts, hb, hr⟩ := H0.out
          dsimp only at hts hb hr
          have HOB : Hid (∀ q, tv.ownBlock = some q → q < w.heap.size) := Lib.hid fun q hq => HWB.out q tv eu ov ts hr hq
          have HT := Lib.hid hts
          have HB := Lib.hid (blk hb K1.out)
          have HRR := Lib.hid (hr.keep K1.out)
          have HCA : Hid (∀ V, Kp w1 V none → V.cell? ⟨g, off, none⟩ = some (.int .i64 a) ∧ V.cell? ⟨g, off + 1, none⟩ = some (.int .i64 b)) := Lib.hid fun V k => ⟨(k.below.cell (p := ⟨g, off, none⟩) hg).trans ca, (k.below.cell (p := ⟨g, off + 1, none⟩) hg).trans cb⟩
          clear hts hb hr
          go_upto_region 15 with (go_at_call 141; refine (HFN2.out _ K1.out).mono ?_; rintro e w2 ⟨rfl, rfl⟩)
          clear ca cb
          have KD : Hid (Kp w1 w1.drew none) := Lib.hid (Kp.refl _ _).drew
          have HR0 := Lib.hid (blk HB.out KD.out)
          have HRR0 := Lib.hid (HRR.out.keep KD.out)
          have HC0 := HCA.out _ KD.out
          refine wp_region_last (fun V => V.cell? ⟨R, 1, none⟩ = some tv ∧ V.cell? ⟨g, off, none⟩ = some (.int .i64 a) ∧ V.cell? ⟨g, off + 1, none⟩ = some (.int .i64 b)) 16 (by kernel_rfl) ?_ (fun hHeld => ?_)
          · exact ⟨hcell HR0.out 1 rfl, HC0⟩
          generalize w1.drew = Y at *
          clear HC0
          refine tkL 0 rfl ?_
          try simp only [Act.put, sm]
          refine tkL 1 rfl ?_
          try simp only [Act.put, sm]
          refine tkL 2 rfl ?_
          try simp only [Act.put, sm]
          refine tkL 3 rfl ?_
          try simp only [Act.put, sm]
          refine tkL 4 rfl ?_
          try simp only [Act.put, sm]
          refine tkL 5 rfl ?_
          try simp only [Act.put, sm]
          refine tkL 6 rfl ?_
          try simp only [Act.put, sm]
          refine tkL 7 rfl ?_
          try simp only [Act.put, sm]
          refine tkL 8 rfl ?_
          try simp only [Act.put, sm]
          refine tkL 9 rfl ?_
          try simp only [Act.put, sm]
          refine tkL 10 rfl ?_
          try simp only [Act.put, sm]
          refine tkL 11 rfl ?_
          try simp only [Act.put, sm]
          refine wpAnyL_ready (rs := [12]) (by kernel_rfl) (by simp) ?_
          refine AllReadyL.cons (o := _) rfl (fun K hK => ?_) AllReadyL.nil
          clear hHeld
          go_simp
          try go_wp2_with fail
          have ka := (Kp.refl Y none).alloc (.cells #[.int .i64 a, .int .i64 b] 254)
          have KD1 := Lib.hid (KD.out.trans ka)
          have HR1 := Lib.hid (blk HR0.out ka)
          have HRR1 := Lib.hid (HRR0.out.keep ka)
          have HLS := Lib.hid (tool_list (w := Y) a b)
          have HSB : Hid (W.heap.size ≤ (Y.alloc (.cells #[.int .i64 a, .int .i64 b] 254)).heap.size) := Lib.hid HRR1.out.kp.size
          refine hK.out _ _ ?_ (fun hHeld => ?_)
          · exact ⟨hcell HR1.out 1 rfl, HCA.out _ KD1.out⟩
          clear hK K ka HR0 HRR0 KD
          try simp only [Act.put, sm]
          generalize Y.alloc (.cells #[.int .i64 a, .int .i64 b] 254) = Z at *
          refine wpAnyL_ready (rs := [13]) (by kernel_rfl) (by simp) ?_
          refine AllReadyL.cons (o := _) rfl (fun K hK => ?_) AllReadyL.nil
          clear hHeld
          refine step_app (f := toC) rfl (.tmp 69) (.tmp 77) W.heap.size 179 254 rfl i0 _ 2 16 Tryz.underlying179 hi hz0 hz1 hz2 rfl (by omega) (fun _ => rfl) toC_one tv tools.length _ rfl HRR1.out.tl _ [(a, b)] rfl HLS.out (by unfold maxLen; simp; omega) (by simp; omega) HSB.out ?_
          intro v3 w3 ho hgr _
          obtain ⟨ea3, ec3, rfl⟩ := own_slice ho
          have HO3 := Lib.hid ho
          have HG3 := Lib.hid hgr
          have HR2 := Lib.hid (res_kept HR1.out hgr (fun q hq e => own_not HRR1.out.tl HR1.out (by decide) (by rw [hq, e])))
          have HC2 : Hid (w3.cell? ⟨g, off, none⟩ = some (.int .i64 a) ∧ w3.cell? ⟨g, off + 1, none⟩ = some (.int .i64 b)) := Lib.hid (by
            have hgz : g < Z.heap.size := Nat.lt_of_lt_of_le hg KD1.out.size
            have hne : tv.ownBlock ≠ some g := fun e => by have := HOB.out g e; have := HGB.out; omega
            have h1 := HCA.out _ KD1.out
            have kk : Kp Z w3 tv.ownBlock := hgr
            exact ⟨(kk.cell_far ⟨g, off, none⟩ hgz (fun e => hne e.symm)).trans h1.1, (kk.cell_far ⟨g, off + 1, none⟩ hgz (fun e => hne e.symm)).trans h1.2⟩)
          clear ho hgr
          try simp only [Act.put, sm]
          refine hK _ _ ?_ (fun hHeld => ?_)
          · exact ⟨hcell HR2.out 1 rfl, HC2.out⟩
          clear hK K
          try simp only [Act.put, sm]
          refine wpAnyL_ready (rs := [14]) (by kernel_rfl) (by simp) ?_
          refine AllReadyL.cons (o := _) rfl (fun K hK => ?_) AllReadyL.nil
          have gS := hHeld
          clear hHeld
          go_simp
          try go_wp2_with fail
          refine hK.out _ _ (gS) (fun hHeld => ?_)
          clear hK K gS
          try simp only [Act.put, sm]
          refine tkL 15 rfl ?_
          try simp only [Act.put, sm]
          refine wpAnyL_ready (rs := [16]) (by kernel_rfl) (by simp) ?_
          refine AllReadyL.last (o := _) rfl (fun K hK => ?_)
          have f1 := Lib.frozen_of_heap HR2.out 1
          have c1 : w3.cell? ⟨R, 1, none⟩ = some tv := hcell HR2.out 1 rfl
          clear hHeld
          go_simp
          try go_wp2_with fail
          refine hK.out _ _ ?_
          clear hK K f1 c1
          try simp only [Act.put, sm]
          refine wpAnyL_done (by kernel_rfl) ?_ _
          have HRH : Hid (RfRest W R (tools ++ [(a, b)]) es ts (.slice ea3 (tools.length + [(a, b)].length) ec3) eu ov w3) := Lib.hid (HRR1.out.tool HG3.out (by rw [List.length_append, List.flatMap_append]; exact HO3.out))
          have hb4 : (w3.setCell ⟨R, 1, none⟩ (.slice ea3 (tools.length + [(a, b)].length) ec3)).heap[R]? = some (.cells (RFC ⟨2, tools ++ [(a, b)], sel, f, t, pl, at_, es, out⟩ (.slice ea3 (tools.length + [(a, b)].length) ec3) eu ov) 181 (0, 0)) := heap_set HR2.out
          have HF := Lib.hid (HRH.out.set ((Kp.refl w3 (some R)).set _) hb4)
          have HB4 := Lib.hid hb4
          clear hb4 HRH HO3 HG3 HR2 HR1 HRR1 HLS
          generalize w3.setCell ⟨R, 1, none⟩ (.slice ea3 (tools.length + [(a, b)].length) ec3) = wF at *
          go_wp2_with fail
          go_ret
          exact rf_inl HST3.out ⟨_, eu, ov, ts, HT.out, HB4.out, HF.out⟩
end Go.Proofs.YtljjbdbgedmadaaGreatDoor
