/- One drawing, as the program writes it. Conditions: a valid shape, whose radius the map of apertures knows; what is written takes at most 2^47 bytes. -/
import Derived.Test.YtggplbenliaodaaDoorEd
import Derived.Maps.OwnOps
namespace Go.Proofs.YtggplbenliaodaaDoor
open Go.RowKit Go.Lib Go.Maps

theorem chk_zero {s : Pl.Sh} (h : Pl.chk s = 0) : (s.k = 1 ∨ s.k = 2) ∧ 0 < s.es.length ∧ (s.k = 2 → 2 ≤ s.es.length) ∧ s.es.length ≤ 40 ∧ (∀ e ∈ s.es, Pl.chkE e = 0) ∧ Pl.chain s.es = true ∧ (s.k = 2 → Pl.closes s.es = true) ∧ (s.k = 2 → s.r = 0) ∧ 0 ≤ s.r ∧ s.r ≤ 4194304 := by
  unfold Pl.chk at h
  split at h
  · cases h
  · rename_i h1
    split at h
    · cases h
    · rename_i h2
      split at h
      · rename_i h3; exact absurd h h3
      · rename_i h3
        split at h
        · cases h
        · rename_i h4
          split at h
          · cases h
          · rename_i h5
            refine ⟨by omega, by omega, by omega, by omega, Pl.firstErr_zero.1 (Classical.not_not.1 h3), ?_, fun hk => ?_, by omega, by omega, by omega⟩
            · cases hc : Pl.chain s.es
              · exact absurd (.inl hc) h4
              · rfl
            · cases hc : Pl.closes s.es
              · exact absurd (.inr ⟨hk, hc⟩) h4
              · rfl
theorem law3 : Keyed Tryd.prog 3 := int_keyed Tryd.underlying3
theorem zero3 (w : World) : (zeroValue 3).run Tryd.prog w = .ok (.int .i64 0) w := by kernel_rfl
abbrev MapAt (w : World) (m n : Nat) (D : DataW Unit) : Prop := w.ownsMap Tryd.prog 3 (plainElem (H := Unit) Tryd.prog 3) m n D
theorem MapAt.keep {w w' : World} {m n : Nat} {D : DataW Unit} (h : MapAt w m n D) (e : w'.heap[m]? = w.heap[m]?) : MapAt w' m n D := by
  obtain ⟨es, clock, hb, F, hs, hD⟩ := h
  exact ⟨es, clock, e.trans hb, F, hs, hD⟩
set_option maxRecDepth 100000 in
theorem MapAt.look {w : World} {m n : Nat} {D : DataW Unit} (h : MapAt w m n D) {r v : Int} (hr : (Lit.int .i64 r).wf = true) (hv : D.atKey (.int .i64 r) (.lit (.int .i64 0)) = .lit (.int .i64 v)) : (Instr.lookup 44 (.map (some m)) (.int .i64 r) false).run Tryd.prog w = .ok (.int .i64 v) w := by
  obtain ⟨c, hrun, hat, hwc⟩ := World.ownsMap.lookup_int h law3 Tryd.underlying44 Tryd.underlying3 (zero3 w) (keyOf_int_mk Tryd.underlying3 hr)
  rw [hv] at hat
  injection hat with hat
  injection hat with _ hat
  rw [hrun, hat]
set_option maxRecDepth 100000 in
theorem shapeT_length {s : Pl.Sh} (h : Pl.chk s = 0) : (Pl.shapeT s).length ≤ 4000 := by
  obtain ⟨hk, h0, _, h40, hv, _⟩ := chk_zero h
  have he := edgesT_length s.es hv
  unfold Pl.shapeT
  split
  · simp only [List.length_append, List.length_cons, List.length_nil]; omega
  · unfold Pl.pathT
    split
    · rename_i p hp
      unfold Pl.flash at hp
      split at hp
      · rename_i e hes
        split at hp
        · injection hp with hp
          obtain ⟨_, ha, _⟩ := chkE_zero (hv e (by rw [hes]; simp))
          have := pnt_length 88 e.a 89 (In.mid ha.1) (In.mid ha.2)
          rw [← hp]
          simp only [List.length_append, List.length_cons, List.length_nil]; omega
        · cases hp
      · cases hp
    · omega

set_option maxHeartbeats 8000000 in
set_option maxRecDepth 100000 in
theorem draw_area (b : Nat) (l : List UInt8) (r : Int) (es : List Pl.Ed) (m : Nat) (ap : Int) (c : Bool) (ao : Option Addr) (cap : Nat) (W w : World) (h : Wr W.heap.size b l m ap c w) (hK : Kp W w none) (he : Env w) (hes : LiesAt 7 edC W ao cap es) (hv : ∀ e ∈ es, Pl.chkE e = 0) (h0 : 0 < es.length) (hn : es.length ≤ 40) (hlen : l.length ≤ 140737488200000) (hW1 : 1 ≤ W.heap.size) :
    Calls Tryd.prog 16 #[.pointer (some ⟨b, 0, none⟩), .agg #[.int .i64 2, .slice ao es.length cap, .int .i64 r]] w fun e w' => e = .returned (.tuple #[]) ∧ Wr W.heap.size b (l ++ ([71, 51, 54, 42, 10] ++ Pl.edgesT es ++ [71, 51, 55, 42, 10])) m ap c w' ∧ Kw b w w' := by
  have H0 := Lib.hid h
  have HK0 := Lib.hid hK
  have HE := Lib.hid he
  have FE := Lib.hid hes
  have HV := Lib.hid hv
  have HEL := Lib.hid (edgesT_length es hv)
  have hBw : W.heap.size ≤ w.heap.size := hK.size
  have HBX := Lib.hid (heap_alloc_new w (Obj.cells #[.int .i64 2, .slice ao es.length cap, .int .i64 r] 26))
  have HKX : Hid (Kp w (w.alloc (Obj.cells #[.int .i64 2, .slice ao es.length cap, .int .i64 r] 26)) none) := Lib.hid ((Kp.refl w none).alloc _)
  have HOF : Hid (Off b (w.alloc (Obj.cells #[.int .i64 2, .slice ao es.length cap, .int .i64 r] 26)) w.heap.size) := Lib.hid (Off.new h _)
  have HX := Lib.hid (h.kp HKX.out)
  have HXB : Hid (W.heap.size ≤ (w.alloc (Obj.cells #[.int .i64 2, .slice ao es.length cap, .int .i64 r] 26)).heap.size) := Lib.hid (by simp; omega)
  clear h hK he hes hv
  go_enter Tryd.func16, Tryd.ntmps16
  go_wp2_with fail
  refine (cmd_at HX.out [[71, 51, 54, 42]] _ _ _ (by simp) rfl rfl (by simp) [71, 51, 54, 42, 10] rfl (by simp only [List.length_cons, List.length_nil]; omega) HXB.out).mono ?_
  rintro e w1 ⟨rfl, h1, k1⟩
  have H1 := Lib.hid h1
  have K1 := Lib.hid ((Kw.of_kp HKX.out H0.out.lt).trans k1)
  have z1 : w1.cell? ⟨w.heap.size, 1, none⟩ = some (.slice ao es.length cap) := by rw [Lib.cell_of_heap ((HOF.out.same k1).trans HBX.out)]; rfl
  clear h1 k1
  go_wp2_with fail
  refine (edges_any b _ es m ap c ao cap W w1 H1.out (H0.out.kpw HK0.out K1.out) (HE.out.keep0 HK0.out (H0.out.kpw HK0.out K1.out) hW1) FE.out HV.out h0 hn (by rw [List.length_append]; simp only [List.length_cons, List.length_nil]; omega) hW1).mono ?_
  rintro e w2 ⟨rfl, h2, k2⟩
  have H2 := Lib.hid h2
  have K2 := Lib.hid (K1.out.trans k2)
  clear h2 k2
  go_wp2_with fail
  refine (cmd_at H2.out [[71, 51, 55, 42]] _ _ _ (by simp) rfl rfl (by simp) [71, 51, 55, 42, 10] rfl (by have := HEL.out; simp only [List.length_append, List.length_cons, List.length_nil]; omega) (Nat.le_trans hBw K2.out.size)).mono ?_
  rintro e w3 ⟨rfl, h3, k3⟩
  have H3 := Lib.hid h3
  have K3 := Lib.hid (K2.out.trans k3)
  clear h3 k3
  go_wp2_with fail
  go_returns
  exact ⟨rfl, by have := H3.out; simp only [List.append_assoc] at this ⊢; exact this, K3.out⟩

set_option maxHeartbeats 8000000 in
set_option maxRecDepth 100000 in
theorem draw_sel_flash (b : Nat) (l : List UInt8) (r : Int) (es : List Pl.Ed) (m : Nat) (ap n : Int) (c : Bool) (D : DataW Unit) (nn : Nat) (ao : Option Addr) (N cap : Nat) (hN : es.length = N) (W w : World) (h : Wr W.heap.size b l m ap c w) (hK : Kp W w none) (he : Env w) (hes : LiesAt 7 edC W ao cap es) (hv : ∀ e ∈ es, Pl.chkE e = 0) (h0 : 0 < N) (hn : N ≤ 40) (hlen : l.length ≤ 140737488200000) (hW1 : 1 ≤ W.heap.size)
    (hm : MapAt w m nn D) (hr : (Lit.int .i64 r).wf = true) (hat : D.atKey (.int .i64 r) (.lit (.int .i64 0)) = .lit (.int .i64 n)) (hne : n ≠ ap) (hnm : Mid n) (ax ay cx cy : Int) (hl : N = 1) (hx : es[0]? = some ⟨1, ⟨ax, ay⟩, ⟨ax, ay⟩, ⟨cx, cy⟩⟩) :
    Calls Tryd.prog 16 #[.pointer (some ⟨b, 0, none⟩), .agg #[.int .i64 1, .slice ao N cap, .int .i64 r]] w fun e w' => e = .returned (.tuple #[]) ∧ Wr W.heap.size b (l ++ ((68 :: (Lib.itoa n ++ [42, 10])) ++ (Pl.pnt 88 ⟨ax, ay⟩ 89 ++ [68, 48, 51, 42, 10]))) m n c w' ∧ Kw b w w' := by
  have HENV : Hid (∀ V, Kp W V none → Env V) := Lib.hid fun V k => he.keep0 hK k hW1
  have hlk : ∀ k, (Instr.lookup 44 (.map (some m)) (.int .i64 r) false).run Tryd.prog ((w.alloc (Obj.cells #[.int .i64 1, .slice ao N cap, .int .i64 r] 26)).drewN k) = .ok (.int .i64 n) ((w.alloc (Obj.cells #[.int .i64 1, .slice ao N cap, .int .i64 r] 26)).drewN k) := fun k => MapAt.look (hm.keep (((Kp.refl w none).alloc _).drewN k |>.block m hm.lt (by simp))) hr hat
  have c2a : (w.alloc (Obj.cells #[.int .i64 1, .slice ao N cap, .int .i64 r] 26)).cell? ⟨b, 2, none⟩ = some (.map (some m)) := ((Kp.refl w none).alloc _).below.cell (p := ⟨b, 2, none⟩) h.lt |>.trans h.cells.1
  have hBw : W.heap.size ≤ w.heap.size := hK.size
  have H0 := Lib.hid h
  have HK0 := Lib.hid hK
  have FE := Lib.hid hes
  have HV := Lib.hid hv
  have HX := Lib.hid hx
  have HN := Lib.hid hN
  have HL := Lib.hid hl
  have hn0 : (0 : Int) < (N : Int) := by omega
  have t1 : ((N : Int) == 1) = true := by simp; omega
  have hq : (n == ap) = false := by simpa using hne
  clear h hK hes hv hx hm hat he hN hl  
  go_enter Tryd.func16, Tryd.ntmps16
  go_wp2_with fail
  go_quiet (fail)
  clear hlk c2a
  have KQ : Hid (Kp w ((w.alloc (Obj.cells #[.int .i64 1, .slice ao N cap, .int .i64 r] 26)).drewN nq) none) := Lib.hid (((Kp.refl w none).alloc _).drewN nq)
  have HOF : Hid (Off b ((w.alloc (Obj.cells #[.int .i64 1, .slice ao N cap, .int .i64 r] 26)).drewN nq) w.heap.size ∧ ((w.alloc (Obj.cells #[.int .i64 1, .slice ao N cap, .int .i64 r] 26)).drewN nq).heap[w.heap.size]? = some (Obj.cells #[.int .i64 1, .slice ao N cap, .int .i64 r] 26)) := Lib.hid ⟨(Off.new H0.out _).kp ((Kp.refl _ none).drewN nq) (by simp; have := H0.out.lt; omega), heap_alloc_new w _⟩
  generalize (w.alloc (Obj.cells #[.int .i64 1, .slice ao N cap, .int .i64 r] 26)).drewN nq = wz at *
  have HZ := Lib.hid (H0.out.kp KQ.out)
  obtain ⟨_, c3, _, f3, _⟩ := HZ.out.cells
  have HS := Lib.hid (HZ.out.set (o := 3) (u := .int .i64 n) (ap' := n) (c' := c) (.inl ⟨rfl, rfl, rfl⟩))
  have HY : Hid (Kp W (wz.setCell ⟨b, 3, none⟩ (.int .i64 n)) none) := Lib.hid (H0.out.kpw HK0.out ((Kw.of_kp KQ.out H0.out.lt).trans HS.out.2))
  go_wp2_with fail
  refine (itoa_any n _ (HENV.out _ HY.out) hnm).mono ?_
  rintro e w1 ⟨rfl, k1⟩
  have H1 := Lib.hid (HS.out.1.kp k1)
  have K1 := Lib.hid ((Kw.of_kp KQ.out H0.out.lt).trans (HS.out.2.trans (Kw.of_kp k1 HS.out.1.lt)))
  have KP1 := Lib.hid (HY.out.trans k1)
  have HO1 : Hid (Off b w1 w.heap.size ∧ w1.heap[w.heap.size]? = some (Obj.cells #[.int .i64 1, .slice ao N cap, .int .i64 r] 26)) := Lib.hid ⟨(HOF.out.1.kw HS.out.2).kw (Kw.of_kp k1 HS.out.1.lt), ((HOF.out.1.kw HS.out.2).same (Kw.of_kp k1 HS.out.1.lt)).trans ((HOF.out.1.same HS.out.2).trans HOF.out.2)⟩
  clear k1 c3 f3
  go_wp2_with fail
  refine (cmd_at H1.out [[68], Lib.itoa n, [42]] _ _ _ rfl rfl rfl (by simp) (68 :: (Lib.itoa n ++ [42, 10])) (by simp) (by have := itoa_length n hnm; simp only [List.length_cons, List.length_append, List.length_nil]; omega) (Nat.le_trans hBw K1.out.size)).mono ?_
  rintro e w2 ⟨rfl, h2, k2⟩
  have H2 := Lib.hid h2
  have K2 := Lib.hid (K1.out.trans k2)
  have KP2 := Lib.hid (H0.out.kpw HK0.out K2.out)
  have z1 : w2.cell? ⟨w.heap.size, 1, none⟩ = some (.slice ao N cap) := by rw [Lib.cell_of_heap ((HO1.out.1.same k2).trans HO1.out.2)]; rfl
  clear h2 k2
  have HLN : Hid (((l ++ 68 :: (Lib.itoa n ++ [42, 10])).length) ≤ 140737488200030) := Lib.hid (by have := itoa_length n hnm; simp only [List.length_append, List.length_cons, List.length_nil]; omega)
  obtain ⟨bo, off, rfl, hcap, hbo, hcells⟩ := FE.out.ed (k := 0) (by have := HN.out; omega)
  have hc0 := hcells _ KP2.out
  rw [show es[0]'(by have := HN.out; omega) = _ from Option.some.inj ((List.getElem?_eq_getElem (by have := HN.out; omega)).symm.trans HX.out)] at hc0
  dsimp only at hc0
  simp only [Nat.zero_mul, Nat.add_zero] at hc0
  obtain ⟨d0, d1, d2, d3, d4, d5, d6⟩ := hc0
  have HVE : Hid (Pl.chkE ⟨1, ⟨ax, ay⟩, ⟨ax, ay⟩, ⟨cx, cy⟩⟩ = 0) := Lib.hid (HV.out _ (List.mem_of_getElem? HX.out))
  clear hcells
  have KE : Hid (Kp w2 (w2.alloc (Obj.cells #[.int .i64 1, .int .i64 ax, .int .i64 ay, .int .i64 ax, .int .i64 ay, .int .i64 cx, .int .i64 cy] 42)) none) := Lib.hid ((Kp.refl _ none).alloc _)
  have HB2 : Hid ((w2.alloc (Obj.cells #[.int .i64 1, .int .i64 ax, .int .i64 ay, .int .i64 ax, .int .i64 ay, .int .i64 cx, .int .i64 cy] 42)).heap[w2.heap.size]? = some (Obj.cells #[.int .i64 1, .int .i64 ax, .int .i64 ay, .int .i64 ax, .int .i64 ay, .int .i64 cx, .int .i64 cy] 42)) := Lib.hid (heap_alloc_new _ _)
  have HSZ : Hid (W.heap.size ≤ w2.heap.size) := Lib.hid KP2.out.size
  have z1b : (w2.alloc (Obj.cells #[.int .i64 1, .int .i64 ax, .int .i64 ay, .int .i64 ax, .int .i64 ay, .int .i64 cx, .int .i64 cy] 42)).cell? ⟨w.heap.size, 1, none⟩ = some (.slice (some ⟨bo, off, none⟩) N cap) := (KE.out.below.cell (p := ⟨w.heap.size, 1, none⟩) (World.block_lt_of_cell? _ _ z1)).trans z1
  go_wp2_with fail
  refine (point_any 88 89 ax ay _ (HENV.out _ (KP2.out.trans KE.out)) (In.mid (chkE_zero HVE.out).2.1.1) (In.mid (chkE_zero HVE.out).2.1.2)).mono ?_
  rintro e w3 ⟨rfl, k3⟩
  have K3 := Lib.hid (KE.out.trans k3)
  have H3 := Lib.hid (H2.out.kp K3.out)
  clear k3
  go_wp2_with fail
  refine (cmd_at H3.out [Pl.pnt 88 ⟨ax, ay⟩ 89, [68, 48, 51, 42]] _ _ _ rfl rfl rfl (by simp) (Pl.pnt 88 ⟨ax, ay⟩ 89 ++ [68, 48, 51, 42, 10]) (by simp) (by have := HLN.out; have := pnt_length 88 ⟨ax, ay⟩ 89 (In.mid (chkE_zero HVE.out).2.1.1) (In.mid (chkE_zero HVE.out).2.1.2); have e := HLN.out; simp only [List.length_append, List.length_cons, List.length_nil] at e ⊢; omega) (Nat.le_trans HSZ.out K3.out.size)).mono ?_
  rintro e w4 ⟨rfl, h4, k4⟩
  have H4 := Lib.hid h4
  have K4 := Lib.hid (K2.out.trans ((Kw.of_kp K3.out H2.out.lt).trans k4))
  clear h4 k4
  go_wp2_with fail
  go_returns
  exact ⟨rfl, H4.out.len (by simp only [List.append_assoc, List.cons_append, List.nil_append]), K4.out⟩

set_option maxHeartbeats 8000000 in
set_option maxRecDepth 100000 in
theorem draw_sel_linex (b : Nat) (l : List UInt8) (r : Int) (es : List Pl.Ed) (m : Nat) (ap n : Int) (c : Bool) (D : DataW Unit) (nn : Nat) (ao : Option Addr) (N cap : Nat) (hN : es.length = N) (W w : World) (h : Wr W.heap.size b l m ap c w) (hK : Kp W w none) (he : Env w) (hes : LiesAt 7 edC W ao cap es) (hv : ∀ e ∈ es, Pl.chkE e = 0) (h0 : 0 < N) (hn : N ≤ 40) (hlen : l.length ≤ 140737488200000) (hW1 : 1 ≤ W.heap.size)
    (hm : MapAt w m nn D) (hr : (Lit.int .i64 r).wf = true) (hat : D.atKey (.int .i64 r) (.lit (.int .i64 0)) = .lit (.int .i64 n)) (hne : n ≠ ap) (hnm : Mid n) (ax ay bx bY cx cy : Int) (hl : N = 1) (hx : es[0]? = some ⟨1, ⟨ax, ay⟩, ⟨bx, bY⟩, ⟨cx, cy⟩⟩) (hab : ¬ ax = bx) :
    Calls Tryd.prog 16 #[.pointer (some ⟨b, 0, none⟩), .agg #[.int .i64 1, .slice ao N cap, .int .i64 r]] w fun e w' => e = .returned (.tuple #[]) ∧ Wr W.heap.size b (l ++ ((68 :: (Lib.itoa n ++ [42, 10])) ++ (Pl.edgesT es))) m n c w' ∧ Kw b w w' := by
  have HENV : Hid (∀ V, Kp W V none → Env V) := Lib.hid fun V k => he.keep0 hK k hW1
  have hlk : ∀ k, (Instr.lookup 44 (.map (some m)) (.int .i64 r) false).run Tryd.prog ((w.alloc (Obj.cells #[.int .i64 1, .slice ao N cap, .int .i64 r] 26)).drewN k) = .ok (.int .i64 n) ((w.alloc (Obj.cells #[.int .i64 1, .slice ao N cap, .int .i64 r] 26)).drewN k) := fun k => MapAt.look (hm.keep (((Kp.refl w none).alloc _).drewN k |>.block m hm.lt (by simp))) hr hat
  have c2a : (w.alloc (Obj.cells #[.int .i64 1, .slice ao N cap, .int .i64 r] 26)).cell? ⟨b, 2, none⟩ = some (.map (some m)) := ((Kp.refl w none).alloc _).below.cell (p := ⟨b, 2, none⟩) h.lt |>.trans h.cells.1
  have hBw : W.heap.size ≤ w.heap.size := hK.size
  have H0 := Lib.hid h
  have HK0 := Lib.hid hK
  have FE := Lib.hid hes
  have HV := Lib.hid hv
  have HX := Lib.hid hx
  have HN := Lib.hid hN
  have HL := Lib.hid hl
  have hn0 : (0 : Int) < (N : Int) := by omega
  have t1 : ((N : Int) == 1) = true := by simp; omega
  have hq : (n == ap) = false := by simpa using hne
  have hab1 : (ax == bx) = false := by simpa using hab
  clear h hK hes hv hx hm hat he hN hl  
  go_enter Tryd.func16, Tryd.ntmps16
  go_wp2_with fail
  go_quiet (fail)
  clear hlk c2a
  have KQ : Hid (Kp w ((w.alloc (Obj.cells #[.int .i64 1, .slice ao N cap, .int .i64 r] 26)).drewN nq) none) := Lib.hid (((Kp.refl w none).alloc _).drewN nq)
  have HOF : Hid (Off b ((w.alloc (Obj.cells #[.int .i64 1, .slice ao N cap, .int .i64 r] 26)).drewN nq) w.heap.size ∧ ((w.alloc (Obj.cells #[.int .i64 1, .slice ao N cap, .int .i64 r] 26)).drewN nq).heap[w.heap.size]? = some (Obj.cells #[.int .i64 1, .slice ao N cap, .int .i64 r] 26)) := Lib.hid ⟨(Off.new H0.out _).kp ((Kp.refl _ none).drewN nq) (by simp; have := H0.out.lt; omega), heap_alloc_new w _⟩
  generalize (w.alloc (Obj.cells #[.int .i64 1, .slice ao N cap, .int .i64 r] 26)).drewN nq = wz at *
  have HZ := Lib.hid (H0.out.kp KQ.out)
  obtain ⟨_, c3, _, f3, _⟩ := HZ.out.cells
  have HS := Lib.hid (HZ.out.set (o := 3) (u := .int .i64 n) (ap' := n) (c' := c) (.inl ⟨rfl, rfl, rfl⟩))
  have HY : Hid (Kp W (wz.setCell ⟨b, 3, none⟩ (.int .i64 n)) none) := Lib.hid (H0.out.kpw HK0.out ((Kw.of_kp KQ.out H0.out.lt).trans HS.out.2))
  go_wp2_with fail
  refine (itoa_any n _ (HENV.out _ HY.out) hnm).mono ?_
  rintro e w1 ⟨rfl, k1⟩
  have H1 := Lib.hid (HS.out.1.kp k1)
  have K1 := Lib.hid ((Kw.of_kp KQ.out H0.out.lt).trans (HS.out.2.trans (Kw.of_kp k1 HS.out.1.lt)))
  have KP1 := Lib.hid (HY.out.trans k1)
  have HO1 : Hid (Off b w1 w.heap.size ∧ w1.heap[w.heap.size]? = some (Obj.cells #[.int .i64 1, .slice ao N cap, .int .i64 r] 26)) := Lib.hid ⟨(HOF.out.1.kw HS.out.2).kw (Kw.of_kp k1 HS.out.1.lt), ((HOF.out.1.kw HS.out.2).same (Kw.of_kp k1 HS.out.1.lt)).trans ((HOF.out.1.same HS.out.2).trans HOF.out.2)⟩
  clear k1 c3 f3
  go_wp2_with fail
  refine (cmd_at H1.out [[68], Lib.itoa n, [42]] _ _ _ rfl rfl rfl (by simp) (68 :: (Lib.itoa n ++ [42, 10])) (by simp) (by have := itoa_length n hnm; simp only [List.length_cons, List.length_append, List.length_nil]; omega) (Nat.le_trans hBw K1.out.size)).mono ?_
  rintro e w2 ⟨rfl, h2, k2⟩
  have H2 := Lib.hid h2
  have K2 := Lib.hid (K1.out.trans k2)
  have KP2 := Lib.hid (H0.out.kpw HK0.out K2.out)
  have z1 : w2.cell? ⟨w.heap.size, 1, none⟩ = some (.slice ao N cap) := by rw [Lib.cell_of_heap ((HO1.out.1.same k2).trans HO1.out.2)]; rfl
  clear h2 k2
  have HLN : Hid (((l ++ 68 :: (Lib.itoa n ++ [42, 10])).length) ≤ 140737488200030) := Lib.hid (by have := itoa_length n hnm; simp only [List.length_append, List.length_cons, List.length_nil]; omega)
  obtain ⟨bo, off, rfl, hcap, hbo, hcells⟩ := FE.out.ed (k := 0) (by have := HN.out; omega)
  have hc0 := hcells _ KP2.out
  rw [show es[0]'(by have := HN.out; omega) = _ from Option.some.inj ((List.getElem?_eq_getElem (by have := HN.out; omega)).symm.trans HX.out)] at hc0
  dsimp only at hc0
  simp only [Nat.zero_mul, Nat.add_zero] at hc0
  obtain ⟨d0, d1, d2, d3, d4, d5, d6⟩ := hc0
  have HVE : Hid (Pl.chkE ⟨1, ⟨ax, ay⟩, ⟨bx, bY⟩, ⟨cx, cy⟩⟩ = 0) := Lib.hid (HV.out _ (List.mem_of_getElem? HX.out))
  clear hcells
  have KE : Hid (Kp w2 (w2.alloc (Obj.cells #[.int .i64 1, .int .i64 ax, .int .i64 ay, .int .i64 bx, .int .i64 bY, .int .i64 cx, .int .i64 cy] 42)) none) := Lib.hid ((Kp.refl _ none).alloc _)
  have HB2 : Hid ((w2.alloc (Obj.cells #[.int .i64 1, .int .i64 ax, .int .i64 ay, .int .i64 bx, .int .i64 bY, .int .i64 cx, .int .i64 cy] 42)).heap[w2.heap.size]? = some (Obj.cells #[.int .i64 1, .int .i64 ax, .int .i64 ay, .int .i64 bx, .int .i64 bY, .int .i64 cx, .int .i64 cy] 42)) := Lib.hid (heap_alloc_new _ _)
  have HSZ : Hid (W.heap.size ≤ w2.heap.size) := Lib.hid KP2.out.size
  have z1b : (w2.alloc (Obj.cells #[.int .i64 1, .int .i64 ax, .int .i64 ay, .int .i64 bx, .int .i64 bY, .int .i64 cx, .int .i64 cy] 42)).cell? ⟨w.heap.size, 1, none⟩ = some (.slice (some ⟨bo, off, none⟩) N cap) := (KE.out.below.cell (p := ⟨w.heap.size, 1, none⟩) (World.block_lt_of_cell? _ _ z1)).trans z1
  go_wp2_with fail
  have HN2 := HN
  have e0 := HN.out
  subst e0
  refine (edges_any b _ es m _ c _ cap W _ (H2.out.kp KE.out) (KP2.out.trans KE.out) (HENV.out _ (KP2.out.trans KE.out)) FE.out HV.out h0 hn (by have := HLN.out; omega) hW1).mono ?_
  rintro e w4 ⟨rfl, h4, k4⟩
  have H4 := Lib.hid h4
  have K4 := Lib.hid (K2.out.trans ((Kw.of_kp KE.out H2.out.lt).trans k4))
  clear h4 k4
  go_wp2_with fail
  go_returns
  exact ⟨rfl, H4.out.len (by simp only [List.append_assoc, List.cons_append, List.nil_append]), K4.out⟩

set_option maxHeartbeats 8000000 in
set_option maxRecDepth 100000 in
theorem draw_sel_liney (b : Nat) (l : List UInt8) (r : Int) (es : List Pl.Ed) (m : Nat) (ap n : Int) (c : Bool) (D : DataW Unit) (nn : Nat) (ao : Option Addr) (N cap : Nat) (hN : es.length = N) (W w : World) (h : Wr W.heap.size b l m ap c w) (hK : Kp W w none) (he : Env w) (hes : LiesAt 7 edC W ao cap es) (hv : ∀ e ∈ es, Pl.chkE e = 0) (h0 : 0 < N) (hn : N ≤ 40) (hlen : l.length ≤ 140737488200000) (hW1 : 1 ≤ W.heap.size)
    (hm : MapAt w m nn D) (hr : (Lit.int .i64 r).wf = true) (hat : D.atKey (.int .i64 r) (.lit (.int .i64 0)) = .lit (.int .i64 n)) (hne : n ≠ ap) (hnm : Mid n) (ax ay bY cx cy : Int) (hl : N = 1) (hx : es[0]? = some ⟨1, ⟨ax, ay⟩, ⟨ax, bY⟩, ⟨cx, cy⟩⟩) (hab : ¬ ay = bY) :
    Calls Tryd.prog 16 #[.pointer (some ⟨b, 0, none⟩), .agg #[.int .i64 1, .slice ao N cap, .int .i64 r]] w fun e w' => e = .returned (.tuple #[]) ∧ Wr W.heap.size b (l ++ ((68 :: (Lib.itoa n ++ [42, 10])) ++ (Pl.edgesT es))) m n c w' ∧ Kw b w w' := by
  have HENV : Hid (∀ V, Kp W V none → Env V) := Lib.hid fun V k => he.keep0 hK k hW1
  have hlk : ∀ k, (Instr.lookup 44 (.map (some m)) (.int .i64 r) false).run Tryd.prog ((w.alloc (Obj.cells #[.int .i64 1, .slice ao N cap, .int .i64 r] 26)).drewN k) = .ok (.int .i64 n) ((w.alloc (Obj.cells #[.int .i64 1, .slice ao N cap, .int .i64 r] 26)).drewN k) := fun k => MapAt.look (hm.keep (((Kp.refl w none).alloc _).drewN k |>.block m hm.lt (by simp))) hr hat
  have c2a : (w.alloc (Obj.cells #[.int .i64 1, .slice ao N cap, .int .i64 r] 26)).cell? ⟨b, 2, none⟩ = some (.map (some m)) := ((Kp.refl w none).alloc _).below.cell (p := ⟨b, 2, none⟩) h.lt |>.trans h.cells.1
  have hBw : W.heap.size ≤ w.heap.size := hK.size
  have H0 := Lib.hid h
  have HK0 := Lib.hid hK
  have FE := Lib.hid hes
  have HV := Lib.hid hv
  have HX := Lib.hid hx
  have HN := Lib.hid hN
  have HL := Lib.hid hl
  have hn0 : (0 : Int) < (N : Int) := by omega
  have t1 : ((N : Int) == 1) = true := by simp; omega
  have hq : (n == ap) = false := by simpa using hne
  have hab1 : (ay == bY) = false := by simpa using hab
  clear h hK hes hv hx hm hat he hN hl  
  go_enter Tryd.func16, Tryd.ntmps16
  go_wp2_with fail
  go_quiet (fail)
  clear hlk c2a
  have KQ : Hid (Kp w ((w.alloc (Obj.cells #[.int .i64 1, .slice ao N cap, .int .i64 r] 26)).drewN nq) none) := Lib.hid (((Kp.refl w none).alloc _).drewN nq)
  have HOF : Hid (Off b ((w.alloc (Obj.cells #[.int .i64 1, .slice ao N cap, .int .i64 r] 26)).drewN nq) w.heap.size ∧ ((w.alloc (Obj.cells #[.int .i64 1, .slice ao N cap, .int .i64 r] 26)).drewN nq).heap[w.heap.size]? = some (Obj.cells #[.int .i64 1, .slice ao N cap, .int .i64 r] 26)) := Lib.hid ⟨(Off.new H0.out _).kp ((Kp.refl _ none).drewN nq) (by simp; have := H0.out.lt; omega), heap_alloc_new w _⟩
  generalize (w.alloc (Obj.cells #[.int .i64 1, .slice ao N cap, .int .i64 r] 26)).drewN nq = wz at *
  have HZ := Lib.hid (H0.out.kp KQ.out)
  obtain ⟨_, c3, _, f3, _⟩ := HZ.out.cells
  have HS := Lib.hid (HZ.out.set (o := 3) (u := .int .i64 n) (ap' := n) (c' := c) (.inl ⟨rfl, rfl, rfl⟩))
  have HY : Hid (Kp W (wz.setCell ⟨b, 3, none⟩ (.int .i64 n)) none) := Lib.hid (H0.out.kpw HK0.out ((Kw.of_kp KQ.out H0.out.lt).trans HS.out.2))
  go_wp2_with fail
  refine (itoa_any n _ (HENV.out _ HY.out) hnm).mono ?_
  rintro e w1 ⟨rfl, k1⟩
  have H1 := Lib.hid (HS.out.1.kp k1)
  have K1 := Lib.hid ((Kw.of_kp KQ.out H0.out.lt).trans (HS.out.2.trans (Kw.of_kp k1 HS.out.1.lt)))
  have KP1 := Lib.hid (HY.out.trans k1)
  have HO1 : Hid (Off b w1 w.heap.size ∧ w1.heap[w.heap.size]? = some (Obj.cells #[.int .i64 1, .slice ao N cap, .int .i64 r] 26)) := Lib.hid ⟨(HOF.out.1.kw HS.out.2).kw (Kw.of_kp k1 HS.out.1.lt), ((HOF.out.1.kw HS.out.2).same (Kw.of_kp k1 HS.out.1.lt)).trans ((HOF.out.1.same HS.out.2).trans HOF.out.2)⟩
  clear k1 c3 f3
  go_wp2_with fail
  refine (cmd_at H1.out [[68], Lib.itoa n, [42]] _ _ _ rfl rfl rfl (by simp) (68 :: (Lib.itoa n ++ [42, 10])) (by simp) (by have := itoa_length n hnm; simp only [List.length_cons, List.length_append, List.length_nil]; omega) (Nat.le_trans hBw K1.out.size)).mono ?_
  rintro e w2 ⟨rfl, h2, k2⟩
  have H2 := Lib.hid h2
  have K2 := Lib.hid (K1.out.trans k2)
  have KP2 := Lib.hid (H0.out.kpw HK0.out K2.out)
  have z1 : w2.cell? ⟨w.heap.size, 1, none⟩ = some (.slice ao N cap) := by rw [Lib.cell_of_heap ((HO1.out.1.same k2).trans HO1.out.2)]; rfl
  clear h2 k2
  have HLN : Hid (((l ++ 68 :: (Lib.itoa n ++ [42, 10])).length) ≤ 140737488200030) := Lib.hid (by have := itoa_length n hnm; simp only [List.length_append, List.length_cons, List.length_nil]; omega)
  obtain ⟨bo, off, rfl, hcap, hbo, hcells⟩ := FE.out.ed (k := 0) (by have := HN.out; omega)
  have hc0 := hcells _ KP2.out
  rw [show es[0]'(by have := HN.out; omega) = _ from Option.some.inj ((List.getElem?_eq_getElem (by have := HN.out; omega)).symm.trans HX.out)] at hc0
  dsimp only at hc0
  simp only [Nat.zero_mul, Nat.add_zero] at hc0
  obtain ⟨d0, d1, d2, d3, d4, d5, d6⟩ := hc0
  have HVE : Hid (Pl.chkE ⟨1, ⟨ax, ay⟩, ⟨ax, bY⟩, ⟨cx, cy⟩⟩ = 0) := Lib.hid (HV.out _ (List.mem_of_getElem? HX.out))
  clear hcells
  have KE : Hid (Kp w2 (w2.alloc (Obj.cells #[.int .i64 1, .int .i64 ax, .int .i64 ay, .int .i64 ax, .int .i64 bY, .int .i64 cx, .int .i64 cy] 42)) none) := Lib.hid ((Kp.refl _ none).alloc _)
  have HB2 : Hid ((w2.alloc (Obj.cells #[.int .i64 1, .int .i64 ax, .int .i64 ay, .int .i64 ax, .int .i64 bY, .int .i64 cx, .int .i64 cy] 42)).heap[w2.heap.size]? = some (Obj.cells #[.int .i64 1, .int .i64 ax, .int .i64 ay, .int .i64 ax, .int .i64 bY, .int .i64 cx, .int .i64 cy] 42)) := Lib.hid (heap_alloc_new _ _)
  have HSZ : Hid (W.heap.size ≤ w2.heap.size) := Lib.hid KP2.out.size
  have z1b : (w2.alloc (Obj.cells #[.int .i64 1, .int .i64 ax, .int .i64 ay, .int .i64 ax, .int .i64 bY, .int .i64 cx, .int .i64 cy] 42)).cell? ⟨w.heap.size, 1, none⟩ = some (.slice (some ⟨bo, off, none⟩) N cap) := (KE.out.below.cell (p := ⟨w.heap.size, 1, none⟩) (World.block_lt_of_cell? _ _ z1)).trans z1
  go_wp2_with fail
  have HN2 := HN
  have e0 := HN.out
  subst e0
  refine (edges_any b _ es m _ c _ cap W _ (H2.out.kp KE.out) (KP2.out.trans KE.out) (HENV.out _ (KP2.out.trans KE.out)) FE.out HV.out h0 hn (by have := HLN.out; omega) hW1).mono ?_
  rintro e w4 ⟨rfl, h4, k4⟩
  have H4 := Lib.hid h4
  have K4 := Lib.hid (K2.out.trans ((Kw.of_kp KE.out H2.out.lt).trans k4))
  clear h4 k4
  go_wp2_with fail
  go_returns
  exact ⟨rfl, H4.out.len (by simp only [List.append_assoc, List.cons_append, List.nil_append]), K4.out⟩

set_option maxHeartbeats 8000000 in
set_option maxRecDepth 100000 in
theorem draw_sel_arc (b : Nat) (l : List UInt8) (r : Int) (es : List Pl.Ed) (m : Nat) (ap n : Int) (c : Bool) (D : DataW Unit) (nn : Nat) (ao : Option Addr) (N cap : Nat) (hN : es.length = N) (W w : World) (h : Wr W.heap.size b l m ap c w) (hK : Kp W w none) (he : Env w) (hes : LiesAt 7 edC W ao cap es) (hv : ∀ e ∈ es, Pl.chkE e = 0) (h0 : 0 < N) (hn : N ≤ 40) (hlen : l.length ≤ 140737488200000) (hW1 : 1 ≤ W.heap.size)
    (hm : MapAt w m nn D) (hr : (Lit.int .i64 r).wf = true) (hat : D.atKey (.int .i64 r) (.lit (.int .i64 0)) = .lit (.int .i64 n)) (hne : n ≠ ap) (hnm : Mid n) (ek ax ay bx bY cx cy : Int) (hl : N = 1) (hx : es[0]? = some ⟨ek, ⟨ax, ay⟩, ⟨bx, bY⟩, ⟨cx, cy⟩⟩) (hab : ek ≠ 1) :
    Calls Tryd.prog 16 #[.pointer (some ⟨b, 0, none⟩), .agg #[.int .i64 1, .slice ao N cap, .int .i64 r]] w fun e w' => e = .returned (.tuple #[]) ∧ Wr W.heap.size b (l ++ ((68 :: (Lib.itoa n ++ [42, 10])) ++ (Pl.edgesT es))) m n c w' ∧ Kw b w w' := by
  have HENV : Hid (∀ V, Kp W V none → Env V) := Lib.hid fun V k => he.keep0 hK k hW1
  have hlk : ∀ k, (Instr.lookup 44 (.map (some m)) (.int .i64 r) false).run Tryd.prog ((w.alloc (Obj.cells #[.int .i64 1, .slice ao N cap, .int .i64 r] 26)).drewN k) = .ok (.int .i64 n) ((w.alloc (Obj.cells #[.int .i64 1, .slice ao N cap, .int .i64 r] 26)).drewN k) := fun k => MapAt.look (hm.keep (((Kp.refl w none).alloc _).drewN k |>.block m hm.lt (by simp))) hr hat
  have c2a : (w.alloc (Obj.cells #[.int .i64 1, .slice ao N cap, .int .i64 r] 26)).cell? ⟨b, 2, none⟩ = some (.map (some m)) := ((Kp.refl w none).alloc _).below.cell (p := ⟨b, 2, none⟩) h.lt |>.trans h.cells.1
  have hBw : W.heap.size ≤ w.heap.size := hK.size
  have H0 := Lib.hid h
  have HK0 := Lib.hid hK
  have FE := Lib.hid hes
  have HV := Lib.hid hv
  have HX := Lib.hid hx
  have HN := Lib.hid hN
  have HL := Lib.hid hl
  have hn0 : (0 : Int) < (N : Int) := by omega
  have t1 : ((N : Int) == 1) = true := by simp; omega
  have hq : (n == ap) = false := by simpa using hne
  have hab1 : (ek == 1) = false := by simpa using hab
  clear h hK hes hv hx hm hat he hN hl hab 
  go_enter Tryd.func16, Tryd.ntmps16
  go_wp2_with fail
  go_quiet (fail)
  clear hlk c2a
  have KQ : Hid (Kp w ((w.alloc (Obj.cells #[.int .i64 1, .slice ao N cap, .int .i64 r] 26)).drewN nq) none) := Lib.hid (((Kp.refl w none).alloc _).drewN nq)
  have HOF : Hid (Off b ((w.alloc (Obj.cells #[.int .i64 1, .slice ao N cap, .int .i64 r] 26)).drewN nq) w.heap.size ∧ ((w.alloc (Obj.cells #[.int .i64 1, .slice ao N cap, .int .i64 r] 26)).drewN nq).heap[w.heap.size]? = some (Obj.cells #[.int .i64 1, .slice ao N cap, .int .i64 r] 26)) := Lib.hid ⟨(Off.new H0.out _).kp ((Kp.refl _ none).drewN nq) (by simp; have := H0.out.lt; omega), heap_alloc_new w _⟩
  generalize (w.alloc (Obj.cells #[.int .i64 1, .slice ao N cap, .int .i64 r] 26)).drewN nq = wz at *
  have HZ := Lib.hid (H0.out.kp KQ.out)
  obtain ⟨_, c3, _, f3, _⟩ := HZ.out.cells
  have HS := Lib.hid (HZ.out.set (o := 3) (u := .int .i64 n) (ap' := n) (c' := c) (.inl ⟨rfl, rfl, rfl⟩))
  have HY : Hid (Kp W (wz.setCell ⟨b, 3, none⟩ (.int .i64 n)) none) := Lib.hid (H0.out.kpw HK0.out ((Kw.of_kp KQ.out H0.out.lt).trans HS.out.2))
  go_wp2_with fail
  refine (itoa_any n _ (HENV.out _ HY.out) hnm).mono ?_
  rintro e w1 ⟨rfl, k1⟩
  have H1 := Lib.hid (HS.out.1.kp k1)
  have K1 := Lib.hid ((Kw.of_kp KQ.out H0.out.lt).trans (HS.out.2.trans (Kw.of_kp k1 HS.out.1.lt)))
  have KP1 := Lib.hid (HY.out.trans k1)
  have HO1 : Hid (Off b w1 w.heap.size ∧ w1.heap[w.heap.size]? = some (Obj.cells #[.int .i64 1, .slice ao N cap, .int .i64 r] 26)) := Lib.hid ⟨(HOF.out.1.kw HS.out.2).kw (Kw.of_kp k1 HS.out.1.lt), ((HOF.out.1.kw HS.out.2).same (Kw.of_kp k1 HS.out.1.lt)).trans ((HOF.out.1.same HS.out.2).trans HOF.out.2)⟩
  clear k1 c3 f3
  go_wp2_with fail
  refine (cmd_at H1.out [[68], Lib.itoa n, [42]] _ _ _ rfl rfl rfl (by simp) (68 :: (Lib.itoa n ++ [42, 10])) (by simp) (by have := itoa_length n hnm; simp only [List.length_cons, List.length_append, List.length_nil]; omega) (Nat.le_trans hBw K1.out.size)).mono ?_
  rintro e w2 ⟨rfl, h2, k2⟩
  have H2 := Lib.hid h2
  have K2 := Lib.hid (K1.out.trans k2)
  have KP2 := Lib.hid (H0.out.kpw HK0.out K2.out)
  have z1 : w2.cell? ⟨w.heap.size, 1, none⟩ = some (.slice ao N cap) := by rw [Lib.cell_of_heap ((HO1.out.1.same k2).trans HO1.out.2)]; rfl
  clear h2 k2
  have HLN : Hid (((l ++ 68 :: (Lib.itoa n ++ [42, 10])).length) ≤ 140737488200030) := Lib.hid (by have := itoa_length n hnm; simp only [List.length_append, List.length_cons, List.length_nil]; omega)
  obtain ⟨bo, off, rfl, hcap, hbo, hcells⟩ := FE.out.ed (k := 0) (by have := HN.out; omega)
  have hc0 := hcells _ KP2.out
  rw [show es[0]'(by have := HN.out; omega) = _ from Option.some.inj ((List.getElem?_eq_getElem (by have := HN.out; omega)).symm.trans HX.out)] at hc0
  dsimp only at hc0
  simp only [Nat.zero_mul, Nat.add_zero] at hc0
  obtain ⟨d0, d1, d2, d3, d4, d5, d6⟩ := hc0
  have HVE : Hid (Pl.chkE ⟨ek, ⟨ax, ay⟩, ⟨bx, bY⟩, ⟨cx, cy⟩⟩ = 0) := Lib.hid (HV.out _ (List.mem_of_getElem? HX.out))
  clear hcells
  have KE : Hid (Kp w2 (w2.alloc (Obj.cells #[.int .i64 ek, .int .i64 ax, .int .i64 ay, .int .i64 bx, .int .i64 bY, .int .i64 cx, .int .i64 cy] 42)) none) := Lib.hid ((Kp.refl _ none).alloc _)
  have HB2 : Hid ((w2.alloc (Obj.cells #[.int .i64 ek, .int .i64 ax, .int .i64 ay, .int .i64 bx, .int .i64 bY, .int .i64 cx, .int .i64 cy] 42)).heap[w2.heap.size]? = some (Obj.cells #[.int .i64 ek, .int .i64 ax, .int .i64 ay, .int .i64 bx, .int .i64 bY, .int .i64 cx, .int .i64 cy] 42)) := Lib.hid (heap_alloc_new _ _)
  have HSZ : Hid (W.heap.size ≤ w2.heap.size) := Lib.hid KP2.out.size
  have z1b : (w2.alloc (Obj.cells #[.int .i64 ek, .int .i64 ax, .int .i64 ay, .int .i64 bx, .int .i64 bY, .int .i64 cx, .int .i64 cy] 42)).cell? ⟨w.heap.size, 1, none⟩ = some (.slice (some ⟨bo, off, none⟩) N cap) := (KE.out.below.cell (p := ⟨w.heap.size, 1, none⟩) (World.block_lt_of_cell? _ _ z1)).trans z1
  go_wp2_with fail
  have HN2 := HN
  have e0 := HN.out
  subst e0
  refine (edges_any b _ es m _ c _ cap W _ (H2.out.kp KE.out) (KP2.out.trans KE.out) (HENV.out _ (KP2.out.trans KE.out)) FE.out HV.out h0 hn (by have := HLN.out; omega) hW1).mono ?_
  rintro e w4 ⟨rfl, h4, k4⟩
  have H4 := Lib.hid h4
  have K4 := Lib.hid (K2.out.trans ((Kw.of_kp KE.out H2.out.lt).trans k4))
  clear h4 k4
  go_wp2_with fail
  go_returns
  exact ⟨rfl, H4.out.len (by simp only [List.append_assoc, List.cons_append, List.nil_append]), K4.out⟩

set_option maxHeartbeats 8000000 in
set_option maxRecDepth 100000 in
theorem draw_sel_more (b : Nat) (l : List UInt8) (r : Int) (es : List Pl.Ed) (m : Nat) (ap n : Int) (c : Bool) (D : DataW Unit) (nn : Nat) (ao : Option Addr) (N cap : Nat) (hN : es.length = N) (W w : World) (h : Wr W.heap.size b l m ap c w) (hK : Kp W w none) (he : Env w) (hes : LiesAt 7 edC W ao cap es) (hv : ∀ e ∈ es, Pl.chkE e = 0) (h0 : 0 < N) (hn : N ≤ 40) (hlen : l.length ≤ 140737488200000) (hW1 : 1 ≤ W.heap.size)
    (hm : MapAt w m nn D) (hr : (Lit.int .i64 r).wf = true) (hat : D.atKey (.int .i64 r) (.lit (.int .i64 0)) = .lit (.int .i64 n)) (hne : n ≠ ap) (hnm : Mid n) (ek ax ay bx bY cx cy : Int) (hl : N ≠ 1) (hx : es[0]? = some ⟨ek, ⟨ax, ay⟩, ⟨bx, bY⟩, ⟨cx, cy⟩⟩) :
    Calls Tryd.prog 16 #[.pointer (some ⟨b, 0, none⟩), .agg #[.int .i64 1, .slice ao N cap, .int .i64 r]] w fun e w' => e = .returned (.tuple #[]) ∧ Wr W.heap.size b (l ++ ((68 :: (Lib.itoa n ++ [42, 10])) ++ (Pl.edgesT es))) m n c w' ∧ Kw b w w' := by
  have HENV : Hid (∀ V, Kp W V none → Env V) := Lib.hid fun V k => he.keep0 hK k hW1
  have hlk : ∀ k, (Instr.lookup 44 (.map (some m)) (.int .i64 r) false).run Tryd.prog ((w.alloc (Obj.cells #[.int .i64 1, .slice ao N cap, .int .i64 r] 26)).drewN k) = .ok (.int .i64 n) ((w.alloc (Obj.cells #[.int .i64 1, .slice ao N cap, .int .i64 r] 26)).drewN k) := fun k => MapAt.look (hm.keep (((Kp.refl w none).alloc _).drewN k |>.block m hm.lt (by simp))) hr hat
  have c2a : (w.alloc (Obj.cells #[.int .i64 1, .slice ao N cap, .int .i64 r] 26)).cell? ⟨b, 2, none⟩ = some (.map (some m)) := ((Kp.refl w none).alloc _).below.cell (p := ⟨b, 2, none⟩) h.lt |>.trans h.cells.1
  have hBw : W.heap.size ≤ w.heap.size := hK.size
  have H0 := Lib.hid h
  have HK0 := Lib.hid hK
  have FE := Lib.hid hes
  have HV := Lib.hid hv
  have HX := Lib.hid hx
  have HN := Lib.hid hN
  have HL := Lib.hid hl
  have hn0 : (0 : Int) < (N : Int) := by omega
  have t1 : ((N : Int) == 1) = false := by simp; omega
  have hq : (n == ap) = false := by simpa using hne
  clear h hK hes hv hx hm hat he hN hl  
  go_enter Tryd.func16, Tryd.ntmps16
  go_wp2_with fail
  go_quiet (fail)
  clear hlk c2a
  have KQ : Hid (Kp w ((w.alloc (Obj.cells #[.int .i64 1, .slice ao N cap, .int .i64 r] 26)).drewN nq) none) := Lib.hid (((Kp.refl w none).alloc _).drewN nq)
  have HOF : Hid (Off b ((w.alloc (Obj.cells #[.int .i64 1, .slice ao N cap, .int .i64 r] 26)).drewN nq) w.heap.size ∧ ((w.alloc (Obj.cells #[.int .i64 1, .slice ao N cap, .int .i64 r] 26)).drewN nq).heap[w.heap.size]? = some (Obj.cells #[.int .i64 1, .slice ao N cap, .int .i64 r] 26)) := Lib.hid ⟨(Off.new H0.out _).kp ((Kp.refl _ none).drewN nq) (by simp; have := H0.out.lt; omega), heap_alloc_new w _⟩
  generalize (w.alloc (Obj.cells #[.int .i64 1, .slice ao N cap, .int .i64 r] 26)).drewN nq = wz at *
  have HZ := Lib.hid (H0.out.kp KQ.out)
  obtain ⟨_, c3, _, f3, _⟩ := HZ.out.cells
  have HS := Lib.hid (HZ.out.set (o := 3) (u := .int .i64 n) (ap' := n) (c' := c) (.inl ⟨rfl, rfl, rfl⟩))
  have HY : Hid (Kp W (wz.setCell ⟨b, 3, none⟩ (.int .i64 n)) none) := Lib.hid (H0.out.kpw HK0.out ((Kw.of_kp KQ.out H0.out.lt).trans HS.out.2))
  go_wp2_with fail
  refine (itoa_any n _ (HENV.out _ HY.out) hnm).mono ?_
  rintro e w1 ⟨rfl, k1⟩
  have H1 := Lib.hid (HS.out.1.kp k1)
  have K1 := Lib.hid ((Kw.of_kp KQ.out H0.out.lt).trans (HS.out.2.trans (Kw.of_kp k1 HS.out.1.lt)))
  have KP1 := Lib.hid (HY.out.trans k1)
  have HO1 : Hid (Off b w1 w.heap.size ∧ w1.heap[w.heap.size]? = some (Obj.cells #[.int .i64 1, .slice ao N cap, .int .i64 r] 26)) := Lib.hid ⟨(HOF.out.1.kw HS.out.2).kw (Kw.of_kp k1 HS.out.1.lt), ((HOF.out.1.kw HS.out.2).same (Kw.of_kp k1 HS.out.1.lt)).trans ((HOF.out.1.same HS.out.2).trans HOF.out.2)⟩
  clear k1 c3 f3
  go_wp2_with fail
  refine (cmd_at H1.out [[68], Lib.itoa n, [42]] _ _ _ rfl rfl rfl (by simp) (68 :: (Lib.itoa n ++ [42, 10])) (by simp) (by have := itoa_length n hnm; simp only [List.length_cons, List.length_append, List.length_nil]; omega) (Nat.le_trans hBw K1.out.size)).mono ?_
  rintro e w2 ⟨rfl, h2, k2⟩
  have H2 := Lib.hid h2
  have K2 := Lib.hid (K1.out.trans k2)
  have KP2 := Lib.hid (H0.out.kpw HK0.out K2.out)
  have z1 : w2.cell? ⟨w.heap.size, 1, none⟩ = some (.slice ao N cap) := by rw [Lib.cell_of_heap ((HO1.out.1.same k2).trans HO1.out.2)]; rfl
  clear h2 k2
  have HLN : Hid (((l ++ 68 :: (Lib.itoa n ++ [42, 10])).length) ≤ 140737488200030) := Lib.hid (by have := itoa_length n hnm; simp only [List.length_append, List.length_cons, List.length_nil]; omega)
  obtain ⟨bo, off, rfl, hcap, hbo, hcells⟩ := FE.out.ed (k := 0) (by have := HN.out; omega)
  have hc0 := hcells _ KP2.out
  rw [show es[0]'(by have := HN.out; omega) = _ from Option.some.inj ((List.getElem?_eq_getElem (by have := HN.out; omega)).symm.trans HX.out)] at hc0
  dsimp only at hc0
  simp only [Nat.zero_mul, Nat.add_zero] at hc0
  obtain ⟨d0, d1, d2, d3, d4, d5, d6⟩ := hc0
  have HVE : Hid (Pl.chkE ⟨ek, ⟨ax, ay⟩, ⟨bx, bY⟩, ⟨cx, cy⟩⟩ = 0) := Lib.hid (HV.out _ (List.mem_of_getElem? HX.out))
  clear hcells
  have KE : Hid (Kp w2 (w2.alloc (Obj.cells #[.int .i64 ek, .int .i64 ax, .int .i64 ay, .int .i64 bx, .int .i64 bY, .int .i64 cx, .int .i64 cy] 42)) none) := Lib.hid ((Kp.refl _ none).alloc _)
  have HB2 : Hid ((w2.alloc (Obj.cells #[.int .i64 ek, .int .i64 ax, .int .i64 ay, .int .i64 bx, .int .i64 bY, .int .i64 cx, .int .i64 cy] 42)).heap[w2.heap.size]? = some (Obj.cells #[.int .i64 ek, .int .i64 ax, .int .i64 ay, .int .i64 bx, .int .i64 bY, .int .i64 cx, .int .i64 cy] 42)) := Lib.hid (heap_alloc_new _ _)
  have HSZ : Hid (W.heap.size ≤ w2.heap.size) := Lib.hid KP2.out.size
  have z1b : (w2.alloc (Obj.cells #[.int .i64 ek, .int .i64 ax, .int .i64 ay, .int .i64 bx, .int .i64 bY, .int .i64 cx, .int .i64 cy] 42)).cell? ⟨w.heap.size, 1, none⟩ = some (.slice (some ⟨bo, off, none⟩) N cap) := (KE.out.below.cell (p := ⟨w.heap.size, 1, none⟩) (World.block_lt_of_cell? _ _ z1)).trans z1
  go_wp2_with fail
  have HN2 := HN
  have e0 := HN.out
  subst e0
  refine (edges_any b _ es m _ c _ cap W _ (H2.out.kp KE.out) (KP2.out.trans KE.out) (HENV.out _ (KP2.out.trans KE.out)) FE.out HV.out h0 hn (by have := HLN.out; omega) hW1).mono ?_
  rintro e w4 ⟨rfl, h4, k4⟩
  have H4 := Lib.hid h4
  have K4 := Lib.hid (K2.out.trans ((Kw.of_kp KE.out H2.out.lt).trans k4))
  clear h4 k4
  go_wp2_with fail
  go_returns
  exact ⟨rfl, H4.out.len (by simp only [List.append_assoc, List.cons_append, List.nil_append]), K4.out⟩

set_option maxHeartbeats 8000000 in
set_option maxRecDepth 100000 in
theorem draw_same_flash (b : Nat) (l : List UInt8) (r : Int) (es : List Pl.Ed) (m : Nat) (ap n : Int) (c : Bool) (D : DataW Unit) (nn : Nat) (ao : Option Addr) (N cap : Nat) (hN : es.length = N) (W w : World) (h : Wr W.heap.size b l m ap c w) (hK : Kp W w none) (he : Env w) (hes : LiesAt 7 edC W ao cap es) (hv : ∀ e ∈ es, Pl.chkE e = 0) (h0 : 0 < N) (hn : N ≤ 40) (hlen : l.length ≤ 140737488200000) (hW1 : 1 ≤ W.heap.size)
    (hm : MapAt w m nn D) (hr : (Lit.int .i64 r).wf = true) (hat : D.atKey (.int .i64 r) (.lit (.int .i64 0)) = .lit (.int .i64 n)) (hne : n = ap) (ax ay cx cy : Int) (hl : N = 1) (hx : es[0]? = some ⟨1, ⟨ax, ay⟩, ⟨ax, ay⟩, ⟨cx, cy⟩⟩) :
    Calls Tryd.prog 16 #[.pointer (some ⟨b, 0, none⟩), .agg #[.int .i64 1, .slice ao N cap, .int .i64 r]] w fun e w' => e = .returned (.tuple #[]) ∧ Wr W.heap.size b (l ++ (Pl.pnt 88 ⟨ax, ay⟩ 89 ++ [68, 48, 51, 42, 10])) m ap c w' ∧ Kw b w w' := by
  have HENV : Hid (∀ V, Kp W V none → Env V) := Lib.hid fun V k => he.keep0 hK k hW1
  have hlk : ∀ k, (Instr.lookup 44 (.map (some m)) (.int .i64 r) false).run Tryd.prog ((w.alloc (Obj.cells #[.int .i64 1, .slice ao N cap, .int .i64 r] 26)).drewN k) = .ok (.int .i64 n) ((w.alloc (Obj.cells #[.int .i64 1, .slice ao N cap, .int .i64 r] 26)).drewN k) := fun k => MapAt.look (hm.keep (((Kp.refl w none).alloc _).drewN k |>.block m hm.lt (by simp))) hr hat
  have c2a : (w.alloc (Obj.cells #[.int .i64 1, .slice ao N cap, .int .i64 r] 26)).cell? ⟨b, 2, none⟩ = some (.map (some m)) := ((Kp.refl w none).alloc _).below.cell (p := ⟨b, 2, none⟩) h.lt |>.trans h.cells.1
  have hBw : W.heap.size ≤ w.heap.size := hK.size
  have H0 := Lib.hid h
  have HK0 := Lib.hid hK
  have FE := Lib.hid hes
  have HV := Lib.hid hv
  have HX := Lib.hid hx
  have HN := Lib.hid hN
  have HL := Lib.hid hl
  have hn0 : (0 : Int) < (N : Int) := by omega
  have t1 : ((N : Int) == 1) = true := by simp; omega
  have hq : (n == ap) = true := by simpa using hne
  clear h hK hes hv hx hm hat he hN hl  hne
  go_enter Tryd.func16, Tryd.ntmps16
  go_wp2_with fail
  go_quiet (fail)
  clear hlk c2a
  have KQ : Hid (Kp w ((w.alloc (Obj.cells #[.int .i64 1, .slice ao N cap, .int .i64 r] 26)).drewN nq) none) := Lib.hid (((Kp.refl w none).alloc _).drewN nq)
  have HOF : Hid (Off b ((w.alloc (Obj.cells #[.int .i64 1, .slice ao N cap, .int .i64 r] 26)).drewN nq) w.heap.size ∧ ((w.alloc (Obj.cells #[.int .i64 1, .slice ao N cap, .int .i64 r] 26)).drewN nq).heap[w.heap.size]? = some (Obj.cells #[.int .i64 1, .slice ao N cap, .int .i64 r] 26)) := Lib.hid ⟨(Off.new H0.out _).kp ((Kp.refl _ none).drewN nq) (by simp; have := H0.out.lt; omega), heap_alloc_new w _⟩
  generalize (w.alloc (Obj.cells #[.int .i64 1, .slice ao N cap, .int .i64 r] 26)).drewN nq = wz at *
  have HZ := Lib.hid (H0.out.kp KQ.out)
  obtain ⟨_, c3, _, f3, _⟩ := HZ.out.cells
  have H2 := HZ
  have K2 := Lib.hid (Kw.of_kp KQ.out H0.out.lt)
  have KP2 := Lib.hid (HK0.out.trans KQ.out)
  have z1 : wz.cell? ⟨w.heap.size, 1, none⟩ = some (.slice ao N cap) := by rw [Lib.cell_of_heap HOF.out.2]; rfl
  have HLN : Hid (l.length ≤ 140737488200030) := Lib.hid (by omega)
  obtain ⟨bo, off, rfl, hcap, hbo, hcells⟩ := FE.out.ed (k := 0) (by have := HN.out; omega)
  have hc0 := hcells _ KP2.out
  rw [show es[0]'(by have := HN.out; omega) = _ from Option.some.inj ((List.getElem?_eq_getElem (by have := HN.out; omega)).symm.trans HX.out)] at hc0
  dsimp only at hc0
  simp only [Nat.zero_mul, Nat.add_zero] at hc0
  obtain ⟨d0, d1, d2, d3, d4, d5, d6⟩ := hc0
  have HVE : Hid (Pl.chkE ⟨1, ⟨ax, ay⟩, ⟨ax, ay⟩, ⟨cx, cy⟩⟩ = 0) := Lib.hid (HV.out _ (List.mem_of_getElem? HX.out))
  clear hcells
  have KE : Hid (Kp wz (wz.alloc (Obj.cells #[.int .i64 1, .int .i64 ax, .int .i64 ay, .int .i64 ax, .int .i64 ay, .int .i64 cx, .int .i64 cy] 42)) none) := Lib.hid ((Kp.refl _ none).alloc _)
  have HB2 : Hid ((wz.alloc (Obj.cells #[.int .i64 1, .int .i64 ax, .int .i64 ay, .int .i64 ax, .int .i64 ay, .int .i64 cx, .int .i64 cy] 42)).heap[wz.heap.size]? = some (Obj.cells #[.int .i64 1, .int .i64 ax, .int .i64 ay, .int .i64 ax, .int .i64 ay, .int .i64 cx, .int .i64 cy] 42)) := Lib.hid (heap_alloc_new _ _)
  have HSZ : Hid (W.heap.size ≤ wz.heap.size) := Lib.hid KP2.out.size
  have z1b : (wz.alloc (Obj.cells #[.int .i64 1, .int .i64 ax, .int .i64 ay, .int .i64 ax, .int .i64 ay, .int .i64 cx, .int .i64 cy] 42)).cell? ⟨w.heap.size, 1, none⟩ = some (.slice (some ⟨bo, off, none⟩) N cap) := (KE.out.below.cell (p := ⟨w.heap.size, 1, none⟩) (World.block_lt_of_cell? _ _ z1)).trans z1
  go_wp2_with fail
  refine (point_any 88 89 ax ay _ (HENV.out _ (KP2.out.trans KE.out)) (In.mid (chkE_zero HVE.out).2.1.1) (In.mid (chkE_zero HVE.out).2.1.2)).mono ?_
  rintro e w3 ⟨rfl, k3⟩
  have K3 := Lib.hid (KE.out.trans k3)
  have H3 := Lib.hid (H2.out.kp K3.out)
  clear k3
  go_wp2_with fail
  refine (cmd_at H3.out [Pl.pnt 88 ⟨ax, ay⟩ 89, [68, 48, 51, 42]] _ _ _ rfl rfl rfl (by simp) (Pl.pnt 88 ⟨ax, ay⟩ 89 ++ [68, 48, 51, 42, 10]) (by simp) (by have := HLN.out; have := pnt_length 88 ⟨ax, ay⟩ 89 (In.mid (chkE_zero HVE.out).2.1.1) (In.mid (chkE_zero HVE.out).2.1.2); have e := HLN.out; simp only [List.length_append, List.length_cons, List.length_nil] at e ⊢; omega) (Nat.le_trans HSZ.out K3.out.size)).mono ?_
  rintro e w4 ⟨rfl, h4, k4⟩
  have H4 := Lib.hid h4
  have K4 := Lib.hid (K2.out.trans ((Kw.of_kp K3.out H2.out.lt).trans k4))
  clear h4 k4
  go_wp2_with fail
  go_returns
  exact ⟨rfl, H4.out, K4.out⟩

set_option maxHeartbeats 8000000 in
set_option maxRecDepth 100000 in
theorem draw_same_linex (b : Nat) (l : List UInt8) (r : Int) (es : List Pl.Ed) (m : Nat) (ap n : Int) (c : Bool) (D : DataW Unit) (nn : Nat) (ao : Option Addr) (N cap : Nat) (hN : es.length = N) (W w : World) (h : Wr W.heap.size b l m ap c w) (hK : Kp W w none) (he : Env w) (hes : LiesAt 7 edC W ao cap es) (hv : ∀ e ∈ es, Pl.chkE e = 0) (h0 : 0 < N) (hn : N ≤ 40) (hlen : l.length ≤ 140737488200000) (hW1 : 1 ≤ W.heap.size)
    (hm : MapAt w m nn D) (hr : (Lit.int .i64 r).wf = true) (hat : D.atKey (.int .i64 r) (.lit (.int .i64 0)) = .lit (.int .i64 n)) (hne : n = ap) (ax ay bx bY cx cy : Int) (hl : N = 1) (hx : es[0]? = some ⟨1, ⟨ax, ay⟩, ⟨bx, bY⟩, ⟨cx, cy⟩⟩) (hab : ¬ ax = bx) :
    Calls Tryd.prog 16 #[.pointer (some ⟨b, 0, none⟩), .agg #[.int .i64 1, .slice ao N cap, .int .i64 r]] w fun e w' => e = .returned (.tuple #[]) ∧ Wr W.heap.size b (l ++ (Pl.edgesT es)) m ap c w' ∧ Kw b w w' := by
  have HENV : Hid (∀ V, Kp W V none → Env V) := Lib.hid fun V k => he.keep0 hK k hW1
  have hlk : ∀ k, (Instr.lookup 44 (.map (some m)) (.int .i64 r) false).run Tryd.prog ((w.alloc (Obj.cells #[.int .i64 1, .slice ao N cap, .int .i64 r] 26)).drewN k) = .ok (.int .i64 n) ((w.alloc (Obj.cells #[.int .i64 1, .slice ao N cap, .int .i64 r] 26)).drewN k) := fun k => MapAt.look (hm.keep (((Kp.refl w none).alloc _).drewN k |>.block m hm.lt (by simp))) hr hat
  have c2a : (w.alloc (Obj.cells #[.int .i64 1, .slice ao N cap, .int .i64 r] 26)).cell? ⟨b, 2, none⟩ = some (.map (some m)) := ((Kp.refl w none).alloc _).below.cell (p := ⟨b, 2, none⟩) h.lt |>.trans h.cells.1
  have hBw : W.heap.size ≤ w.heap.size := hK.size
  have H0 := Lib.hid h
  have HK0 := Lib.hid hK
  have FE := Lib.hid hes
  have HV := Lib.hid hv
  have HX := Lib.hid hx
  have HN := Lib.hid hN
  have HL := Lib.hid hl
  have hn0 : (0 : Int) < (N : Int) := by omega
  have t1 : ((N : Int) == 1) = true := by simp; omega
  have hq : (n == ap) = true := by simpa using hne
  have hab1 : (ax == bx) = false := by simpa using hab
  clear h hK hes hv hx hm hat he hN hl  hne
  go_enter Tryd.func16, Tryd.ntmps16
  go_wp2_with fail
  go_quiet (fail)
  clear hlk c2a
  have KQ : Hid (Kp w ((w.alloc (Obj.cells #[.int .i64 1, .slice ao N cap, .int .i64 r] 26)).drewN nq) none) := Lib.hid (((Kp.refl w none).alloc _).drewN nq)
  have HOF : Hid (Off b ((w.alloc (Obj.cells #[.int .i64 1, .slice ao N cap, .int .i64 r] 26)).drewN nq) w.heap.size ∧ ((w.alloc (Obj.cells #[.int .i64 1, .slice ao N cap, .int .i64 r] 26)).drewN nq).heap[w.heap.size]? = some (Obj.cells #[.int .i64 1, .slice ao N cap, .int .i64 r] 26)) := Lib.hid ⟨(Off.new H0.out _).kp ((Kp.refl _ none).drewN nq) (by simp; have := H0.out.lt; omega), heap_alloc_new w _⟩
  generalize (w.alloc (Obj.cells #[.int .i64 1, .slice ao N cap, .int .i64 r] 26)).drewN nq = wz at *
  have HZ := Lib.hid (H0.out.kp KQ.out)
  obtain ⟨_, c3, _, f3, _⟩ := HZ.out.cells
  have H2 := HZ
  have K2 := Lib.hid (Kw.of_kp KQ.out H0.out.lt)
  have KP2 := Lib.hid (HK0.out.trans KQ.out)
  have z1 : wz.cell? ⟨w.heap.size, 1, none⟩ = some (.slice ao N cap) := by rw [Lib.cell_of_heap HOF.out.2]; rfl
  have HLN : Hid (l.length ≤ 140737488200030) := Lib.hid (by omega)
  obtain ⟨bo, off, rfl, hcap, hbo, hcells⟩ := FE.out.ed (k := 0) (by have := HN.out; omega)
  have hc0 := hcells _ KP2.out
  rw [show es[0]'(by have := HN.out; omega) = _ from Option.some.inj ((List.getElem?_eq_getElem (by have := HN.out; omega)).symm.trans HX.out)] at hc0
  dsimp only at hc0
  simp only [Nat.zero_mul, Nat.add_zero] at hc0
  obtain ⟨d0, d1, d2, d3, d4, d5, d6⟩ := hc0
  have HVE : Hid (Pl.chkE ⟨1, ⟨ax, ay⟩, ⟨bx, bY⟩, ⟨cx, cy⟩⟩ = 0) := Lib.hid (HV.out _ (List.mem_of_getElem? HX.out))
  clear hcells
  have KE : Hid (Kp wz (wz.alloc (Obj.cells #[.int .i64 1, .int .i64 ax, .int .i64 ay, .int .i64 bx, .int .i64 bY, .int .i64 cx, .int .i64 cy] 42)) none) := Lib.hid ((Kp.refl _ none).alloc _)
  have HB2 : Hid ((wz.alloc (Obj.cells #[.int .i64 1, .int .i64 ax, .int .i64 ay, .int .i64 bx, .int .i64 bY, .int .i64 cx, .int .i64 cy] 42)).heap[wz.heap.size]? = some (Obj.cells #[.int .i64 1, .int .i64 ax, .int .i64 ay, .int .i64 bx, .int .i64 bY, .int .i64 cx, .int .i64 cy] 42)) := Lib.hid (heap_alloc_new _ _)
  have HSZ : Hid (W.heap.size ≤ wz.heap.size) := Lib.hid KP2.out.size
  have z1b : (wz.alloc (Obj.cells #[.int .i64 1, .int .i64 ax, .int .i64 ay, .int .i64 bx, .int .i64 bY, .int .i64 cx, .int .i64 cy] 42)).cell? ⟨w.heap.size, 1, none⟩ = some (.slice (some ⟨bo, off, none⟩) N cap) := (KE.out.below.cell (p := ⟨w.heap.size, 1, none⟩) (World.block_lt_of_cell? _ _ z1)).trans z1
  go_wp2_with fail
  have HN2 := HN
  have e0 := HN.out
  subst e0
  refine (edges_any b _ es m _ c _ cap W _ (H2.out.kp KE.out) (KP2.out.trans KE.out) (HENV.out _ (KP2.out.trans KE.out)) FE.out HV.out h0 hn (by have := HLN.out; omega) hW1).mono ?_
  rintro e w4 ⟨rfl, h4, k4⟩
  have H4 := Lib.hid h4
  have K4 := Lib.hid (K2.out.trans ((Kw.of_kp KE.out H2.out.lt).trans k4))
  clear h4 k4
  go_wp2_with fail
  go_returns
  exact ⟨rfl, H4.out, K4.out⟩

set_option maxHeartbeats 8000000 in
set_option maxRecDepth 100000 in
theorem draw_same_liney (b : Nat) (l : List UInt8) (r : Int) (es : List Pl.Ed) (m : Nat) (ap n : Int) (c : Bool) (D : DataW Unit) (nn : Nat) (ao : Option Addr) (N cap : Nat) (hN : es.length = N) (W w : World) (h : Wr W.heap.size b l m ap c w) (hK : Kp W w none) (he : Env w) (hes : LiesAt 7 edC W ao cap es) (hv : ∀ e ∈ es, Pl.chkE e = 0) (h0 : 0 < N) (hn : N ≤ 40) (hlen : l.length ≤ 140737488200000) (hW1 : 1 ≤ W.heap.size)
    (hm : MapAt w m nn D) (hr : (Lit.int .i64 r).wf = true) (hat : D.atKey (.int .i64 r) (.lit (.int .i64 0)) = .lit (.int .i64 n)) (hne : n = ap) (ax ay bY cx cy : Int) (hl : N = 1) (hx : es[0]? = some ⟨1, ⟨ax, ay⟩, ⟨ax, bY⟩, ⟨cx, cy⟩⟩) (hab : ¬ ay = bY) :
    Calls Tryd.prog 16 #[.pointer (some ⟨b, 0, none⟩), .agg #[.int .i64 1, .slice ao N cap, .int .i64 r]] w fun e w' => e = .returned (.tuple #[]) ∧ Wr W.heap.size b (l ++ (Pl.edgesT es)) m ap c w' ∧ Kw b w w' := by
  have HENV : Hid (∀ V, Kp W V none → Env V) := Lib.hid fun V k => he.keep0 hK k hW1
  have hlk : ∀ k, (Instr.lookup 44 (.map (some m)) (.int .i64 r) false).run Tryd.prog ((w.alloc (Obj.cells #[.int .i64 1, .slice ao N cap, .int .i64 r] 26)).drewN k) = .ok (.int .i64 n) ((w.alloc (Obj.cells #[.int .i64 1, .slice ao N cap, .int .i64 r] 26)).drewN k) := fun k => MapAt.look (hm.keep (((Kp.refl w none).alloc _).drewN k |>.block m hm.lt (by simp))) hr hat
  have c2a : (w.alloc (Obj.cells #[.int .i64 1, .slice ao N cap, .int .i64 r] 26)).cell? ⟨b, 2, none⟩ = some (.map (some m)) := ((Kp.refl w none).alloc _).below.cell (p := ⟨b, 2, none⟩) h.lt |>.trans h.cells.1
  have hBw : W.heap.size ≤ w.heap.size := hK.size
  have H0 := Lib.hid h
  have HK0 := Lib.hid hK
  have FE := Lib.hid hes
  have HV := Lib.hid hv
  have HX := Lib.hid hx
  have HN := Lib.hid hN
  have HL := Lib.hid hl
  have hn0 : (0 : Int) < (N : Int) := by omega
  have t1 : ((N : Int) == 1) = true := by simp; omega
  have hq : (n == ap) = true := by simpa using hne
  have hab1 : (ay == bY) = false := by simpa using hab
  clear h hK hes hv hx hm hat he hN hl  hne
  go_enter Tryd.func16, Tryd.ntmps16
  go_wp2_with fail
  go_quiet (fail)
  clear hlk c2a
  have KQ : Hid (Kp w ((w.alloc (Obj.cells #[.int .i64 1, .slice ao N cap, .int .i64 r] 26)).drewN nq) none) := Lib.hid (((Kp.refl w none).alloc _).drewN nq)
  have HOF : Hid (Off b ((w.alloc (Obj.cells #[.int .i64 1, .slice ao N cap, .int .i64 r] 26)).drewN nq) w.heap.size ∧ ((w.alloc (Obj.cells #[.int .i64 1, .slice ao N cap, .int .i64 r] 26)).drewN nq).heap[w.heap.size]? = some (Obj.cells #[.int .i64 1, .slice ao N cap, .int .i64 r] 26)) := Lib.hid ⟨(Off.new H0.out _).kp ((Kp.refl _ none).drewN nq) (by simp; have := H0.out.lt; omega), heap_alloc_new w _⟩
  generalize (w.alloc (Obj.cells #[.int .i64 1, .slice ao N cap, .int .i64 r] 26)).drewN nq = wz at *
  have HZ := Lib.hid (H0.out.kp KQ.out)
  obtain ⟨_, c3, _, f3, _⟩ := HZ.out.cells
  have H2 := HZ
  have K2 := Lib.hid (Kw.of_kp KQ.out H0.out.lt)
  have KP2 := Lib.hid (HK0.out.trans KQ.out)
  have z1 : wz.cell? ⟨w.heap.size, 1, none⟩ = some (.slice ao N cap) := by rw [Lib.cell_of_heap HOF.out.2]; rfl
  have HLN : Hid (l.length ≤ 140737488200030) := Lib.hid (by omega)
  obtain ⟨bo, off, rfl, hcap, hbo, hcells⟩ := FE.out.ed (k := 0) (by have := HN.out; omega)
  have hc0 := hcells _ KP2.out
  rw [show es[0]'(by have := HN.out; omega) = _ from Option.some.inj ((List.getElem?_eq_getElem (by have := HN.out; omega)).symm.trans HX.out)] at hc0
  dsimp only at hc0
  simp only [Nat.zero_mul, Nat.add_zero] at hc0
  obtain ⟨d0, d1, d2, d3, d4, d5, d6⟩ := hc0
  have HVE : Hid (Pl.chkE ⟨1, ⟨ax, ay⟩, ⟨ax, bY⟩, ⟨cx, cy⟩⟩ = 0) := Lib.hid (HV.out _ (List.mem_of_getElem? HX.out))
  clear hcells
  have KE : Hid (Kp wz (wz.alloc (Obj.cells #[.int .i64 1, .int .i64 ax, .int .i64 ay, .int .i64 ax, .int .i64 bY, .int .i64 cx, .int .i64 cy] 42)) none) := Lib.hid ((Kp.refl _ none).alloc _)
  have HB2 : Hid ((wz.alloc (Obj.cells #[.int .i64 1, .int .i64 ax, .int .i64 ay, .int .i64 ax, .int .i64 bY, .int .i64 cx, .int .i64 cy] 42)).heap[wz.heap.size]? = some (Obj.cells #[.int .i64 1, .int .i64 ax, .int .i64 ay, .int .i64 ax, .int .i64 bY, .int .i64 cx, .int .i64 cy] 42)) := Lib.hid (heap_alloc_new _ _)
  have HSZ : Hid (W.heap.size ≤ wz.heap.size) := Lib.hid KP2.out.size
  have z1b : (wz.alloc (Obj.cells #[.int .i64 1, .int .i64 ax, .int .i64 ay, .int .i64 ax, .int .i64 bY, .int .i64 cx, .int .i64 cy] 42)).cell? ⟨w.heap.size, 1, none⟩ = some (.slice (some ⟨bo, off, none⟩) N cap) := (KE.out.below.cell (p := ⟨w.heap.size, 1, none⟩) (World.block_lt_of_cell? _ _ z1)).trans z1
  go_wp2_with fail
  have HN2 := HN
  have e0 := HN.out
  subst e0
  refine (edges_any b _ es m _ c _ cap W _ (H2.out.kp KE.out) (KP2.out.trans KE.out) (HENV.out _ (KP2.out.trans KE.out)) FE.out HV.out h0 hn (by have := HLN.out; omega) hW1).mono ?_
  rintro e w4 ⟨rfl, h4, k4⟩
  have H4 := Lib.hid h4
  have K4 := Lib.hid (K2.out.trans ((Kw.of_kp KE.out H2.out.lt).trans k4))
  clear h4 k4
  go_wp2_with fail
  go_returns
  exact ⟨rfl, H4.out, K4.out⟩

set_option maxHeartbeats 8000000 in
set_option maxRecDepth 100000 in
theorem draw_same_arc (b : Nat) (l : List UInt8) (r : Int) (es : List Pl.Ed) (m : Nat) (ap n : Int) (c : Bool) (D : DataW Unit) (nn : Nat) (ao : Option Addr) (N cap : Nat) (hN : es.length = N) (W w : World) (h : Wr W.heap.size b l m ap c w) (hK : Kp W w none) (he : Env w) (hes : LiesAt 7 edC W ao cap es) (hv : ∀ e ∈ es, Pl.chkE e = 0) (h0 : 0 < N) (hn : N ≤ 40) (hlen : l.length ≤ 140737488200000) (hW1 : 1 ≤ W.heap.size)
    (hm : MapAt w m nn D) (hr : (Lit.int .i64 r).wf = true) (hat : D.atKey (.int .i64 r) (.lit (.int .i64 0)) = .lit (.int .i64 n)) (hne : n = ap) (ek ax ay bx bY cx cy : Int) (hl : N = 1) (hx : es[0]? = some ⟨ek, ⟨ax, ay⟩, ⟨bx, bY⟩, ⟨cx, cy⟩⟩) (hab : ek ≠ 1) :
    Calls Tryd.prog 16 #[.pointer (some ⟨b, 0, none⟩), .agg #[.int .i64 1, .slice ao N cap, .int .i64 r]] w fun e w' => e = .returned (.tuple #[]) ∧ Wr W.heap.size b (l ++ (Pl.edgesT es)) m ap c w' ∧ Kw b w w' := by
  have HENV : Hid (∀ V, Kp W V none → Env V) := Lib.hid fun V k => he.keep0 hK k hW1
  have hlk : ∀ k, (Instr.lookup 44 (.map (some m)) (.int .i64 r) false).run Tryd.prog ((w.alloc (Obj.cells #[.int .i64 1, .slice ao N cap, .int .i64 r] 26)).drewN k) = .ok (.int .i64 n) ((w.alloc (Obj.cells #[.int .i64 1, .slice ao N cap, .int .i64 r] 26)).drewN k) := fun k => MapAt.look (hm.keep (((Kp.refl w none).alloc _).drewN k |>.block m hm.lt (by simp))) hr hat
  have c2a : (w.alloc (Obj.cells #[.int .i64 1, .slice ao N cap, .int .i64 r] 26)).cell? ⟨b, 2, none⟩ = some (.map (some m)) := ((Kp.refl w none).alloc _).below.cell (p := ⟨b, 2, none⟩) h.lt |>.trans h.cells.1
  have hBw : W.heap.size ≤ w.heap.size := hK.size
  have H0 := Lib.hid h
  have HK0 := Lib.hid hK
  have FE := Lib.hid hes
  have HV := Lib.hid hv
  have HX := Lib.hid hx
  have HN := Lib.hid hN
  have HL := Lib.hid hl
  have hn0 : (0 : Int) < (N : Int) := by omega
  have t1 : ((N : Int) == 1) = true := by simp; omega
  have hq : (n == ap) = true := by simpa using hne
  have hab1 : (ek == 1) = false := by simpa using hab
  clear h hK hes hv hx hm hat he hN hl hab hne
  go_enter Tryd.func16, Tryd.ntmps16
  go_wp2_with fail
  go_quiet (fail)
  clear hlk c2a
  have KQ : Hid (Kp w ((w.alloc (Obj.cells #[.int .i64 1, .slice ao N cap, .int .i64 r] 26)).drewN nq) none) := Lib.hid (((Kp.refl w none).alloc _).drewN nq)
  have HOF : Hid (Off b ((w.alloc (Obj.cells #[.int .i64 1, .slice ao N cap, .int .i64 r] 26)).drewN nq) w.heap.size ∧ ((w.alloc (Obj.cells #[.int .i64 1, .slice ao N cap, .int .i64 r] 26)).drewN nq).heap[w.heap.size]? = some (Obj.cells #[.int .i64 1, .slice ao N cap, .int .i64 r] 26)) := Lib.hid ⟨(Off.new H0.out _).kp ((Kp.refl _ none).drewN nq) (by simp; have := H0.out.lt; omega), heap_alloc_new w _⟩
  generalize (w.alloc (Obj.cells #[.int .i64 1, .slice ao N cap, .int .i64 r] 26)).drewN nq = wz at *
  have HZ := Lib.hid (H0.out.kp KQ.out)
  obtain ⟨_, c3, _, f3, _⟩ := HZ.out.cells
  have H2 := HZ
  have K2 := Lib.hid (Kw.of_kp KQ.out H0.out.lt)
  have KP2 := Lib.hid (HK0.out.trans KQ.out)
  have z1 : wz.cell? ⟨w.heap.size, 1, none⟩ = some (.slice ao N cap) := by rw [Lib.cell_of_heap HOF.out.2]; rfl
  have HLN : Hid (l.length ≤ 140737488200030) := Lib.hid (by omega)
  obtain ⟨bo, off, rfl, hcap, hbo, hcells⟩ := FE.out.ed (k := 0) (by have := HN.out; omega)
  have hc0 := hcells _ KP2.out
  rw [show es[0]'(by have := HN.out; omega) = _ from Option.some.inj ((List.getElem?_eq_getElem (by have := HN.out; omega)).symm.trans HX.out)] at hc0
  dsimp only at hc0
  simp only [Nat.zero_mul, Nat.add_zero] at hc0
  obtain ⟨d0, d1, d2, d3, d4, d5, d6⟩ := hc0
  have HVE : Hid (Pl.chkE ⟨ek, ⟨ax, ay⟩, ⟨bx, bY⟩, ⟨cx, cy⟩⟩ = 0) := Lib.hid (HV.out _ (List.mem_of_getElem? HX.out))
  clear hcells
  have KE : Hid (Kp wz (wz.alloc (Obj.cells #[.int .i64 ek, .int .i64 ax, .int .i64 ay, .int .i64 bx, .int .i64 bY, .int .i64 cx, .int .i64 cy] 42)) none) := Lib.hid ((Kp.refl _ none).alloc _)
  have HB2 : Hid ((wz.alloc (Obj.cells #[.int .i64 ek, .int .i64 ax, .int .i64 ay, .int .i64 bx, .int .i64 bY, .int .i64 cx, .int .i64 cy] 42)).heap[wz.heap.size]? = some (Obj.cells #[.int .i64 ek, .int .i64 ax, .int .i64 ay, .int .i64 bx, .int .i64 bY, .int .i64 cx, .int .i64 cy] 42)) := Lib.hid (heap_alloc_new _ _)
  have HSZ : Hid (W.heap.size ≤ wz.heap.size) := Lib.hid KP2.out.size
  have z1b : (wz.alloc (Obj.cells #[.int .i64 ek, .int .i64 ax, .int .i64 ay, .int .i64 bx, .int .i64 bY, .int .i64 cx, .int .i64 cy] 42)).cell? ⟨w.heap.size, 1, none⟩ = some (.slice (some ⟨bo, off, none⟩) N cap) := (KE.out.below.cell (p := ⟨w.heap.size, 1, none⟩) (World.block_lt_of_cell? _ _ z1)).trans z1
  go_wp2_with fail
  have HN2 := HN
  have e0 := HN.out
  subst e0
  refine (edges_any b _ es m _ c _ cap W _ (H2.out.kp KE.out) (KP2.out.trans KE.out) (HENV.out _ (KP2.out.trans KE.out)) FE.out HV.out h0 hn (by have := HLN.out; omega) hW1).mono ?_
  rintro e w4 ⟨rfl, h4, k4⟩
  have H4 := Lib.hid h4
  have K4 := Lib.hid (K2.out.trans ((Kw.of_kp KE.out H2.out.lt).trans k4))
  clear h4 k4
  go_wp2_with fail
  go_returns
  exact ⟨rfl, H4.out, K4.out⟩

set_option maxHeartbeats 8000000 in
set_option maxRecDepth 100000 in
theorem draw_same_more (b : Nat) (l : List UInt8) (r : Int) (es : List Pl.Ed) (m : Nat) (ap n : Int) (c : Bool) (D : DataW Unit) (nn : Nat) (ao : Option Addr) (N cap : Nat) (hN : es.length = N) (W w : World) (h : Wr W.heap.size b l m ap c w) (hK : Kp W w none) (he : Env w) (hes : LiesAt 7 edC W ao cap es) (hv : ∀ e ∈ es, Pl.chkE e = 0) (h0 : 0 < N) (hn : N ≤ 40) (hlen : l.length ≤ 140737488200000) (hW1 : 1 ≤ W.heap.size)
    (hm : MapAt w m nn D) (hr : (Lit.int .i64 r).wf = true) (hat : D.atKey (.int .i64 r) (.lit (.int .i64 0)) = .lit (.int .i64 n)) (hne : n = ap) (ek ax ay bx bY cx cy : Int) (hl : N ≠ 1) (hx : es[0]? = some ⟨ek, ⟨ax, ay⟩, ⟨bx, bY⟩, ⟨cx, cy⟩⟩) :
    Calls Tryd.prog 16 #[.pointer (some ⟨b, 0, none⟩), .agg #[.int .i64 1, .slice ao N cap, .int .i64 r]] w fun e w' => e = .returned (.tuple #[]) ∧ Wr W.heap.size b (l ++ (Pl.edgesT es)) m ap c w' ∧ Kw b w w' := by
  have HENV : Hid (∀ V, Kp W V none → Env V) := Lib.hid fun V k => he.keep0 hK k hW1
  have hlk : ∀ k, (Instr.lookup 44 (.map (some m)) (.int .i64 r) false).run Tryd.prog ((w.alloc (Obj.cells #[.int .i64 1, .slice ao N cap, .int .i64 r] 26)).drewN k) = .ok (.int .i64 n) ((w.alloc (Obj.cells #[.int .i64 1, .slice ao N cap, .int .i64 r] 26)).drewN k) := fun k => MapAt.look (hm.keep (((Kp.refl w none).alloc _).drewN k |>.block m hm.lt (by simp))) hr hat
  have c2a : (w.alloc (Obj.cells #[.int .i64 1, .slice ao N cap, .int .i64 r] 26)).cell? ⟨b, 2, none⟩ = some (.map (some m)) := ((Kp.refl w none).alloc _).below.cell (p := ⟨b, 2, none⟩) h.lt |>.trans h.cells.1
  have hBw : W.heap.size ≤ w.heap.size := hK.size
  have H0 := Lib.hid h
  have HK0 := Lib.hid hK
  have FE := Lib.hid hes
  have HV := Lib.hid hv
  have HX := Lib.hid hx
  have HN := Lib.hid hN
  have HL := Lib.hid hl
  have hn0 : (0 : Int) < (N : Int) := by omega
  have t1 : ((N : Int) == 1) = false := by simp; omega
  have hq : (n == ap) = true := by simpa using hne
  clear h hK hes hv hx hm hat he hN hl  hne
  go_enter Tryd.func16, Tryd.ntmps16
  go_wp2_with fail
  go_quiet (fail)
  clear hlk c2a
  have KQ : Hid (Kp w ((w.alloc (Obj.cells #[.int .i64 1, .slice ao N cap, .int .i64 r] 26)).drewN nq) none) := Lib.hid (((Kp.refl w none).alloc _).drewN nq)
  have HOF : Hid (Off b ((w.alloc (Obj.cells #[.int .i64 1, .slice ao N cap, .int .i64 r] 26)).drewN nq) w.heap.size ∧ ((w.alloc (Obj.cells #[.int .i64 1, .slice ao N cap, .int .i64 r] 26)).drewN nq).heap[w.heap.size]? = some (Obj.cells #[.int .i64 1, .slice ao N cap, .int .i64 r] 26)) := Lib.hid ⟨(Off.new H0.out _).kp ((Kp.refl _ none).drewN nq) (by simp; have := H0.out.lt; omega), heap_alloc_new w _⟩
  generalize (w.alloc (Obj.cells #[.int .i64 1, .slice ao N cap, .int .i64 r] 26)).drewN nq = wz at *
  have HZ := Lib.hid (H0.out.kp KQ.out)
  obtain ⟨_, c3, _, f3, _⟩ := HZ.out.cells
  have H2 := HZ
  have K2 := Lib.hid (Kw.of_kp KQ.out H0.out.lt)
  have KP2 := Lib.hid (HK0.out.trans KQ.out)
  have z1 : wz.cell? ⟨w.heap.size, 1, none⟩ = some (.slice ao N cap) := by rw [Lib.cell_of_heap HOF.out.2]; rfl
  have HLN : Hid (l.length ≤ 140737488200030) := Lib.hid (by omega)
  obtain ⟨bo, off, rfl, hcap, hbo, hcells⟩ := FE.out.ed (k := 0) (by have := HN.out; omega)
  have hc0 := hcells _ KP2.out
  rw [show es[0]'(by have := HN.out; omega) = _ from Option.some.inj ((List.getElem?_eq_getElem (by have := HN.out; omega)).symm.trans HX.out)] at hc0
  dsimp only at hc0
  simp only [Nat.zero_mul, Nat.add_zero] at hc0
  obtain ⟨d0, d1, d2, d3, d4, d5, d6⟩ := hc0
  have HVE : Hid (Pl.chkE ⟨ek, ⟨ax, ay⟩, ⟨bx, bY⟩, ⟨cx, cy⟩⟩ = 0) := Lib.hid (HV.out _ (List.mem_of_getElem? HX.out))
  clear hcells
  have KE : Hid (Kp wz (wz.alloc (Obj.cells #[.int .i64 ek, .int .i64 ax, .int .i64 ay, .int .i64 bx, .int .i64 bY, .int .i64 cx, .int .i64 cy] 42)) none) := Lib.hid ((Kp.refl _ none).alloc _)
  have HB2 : Hid ((wz.alloc (Obj.cells #[.int .i64 ek, .int .i64 ax, .int .i64 ay, .int .i64 bx, .int .i64 bY, .int .i64 cx, .int .i64 cy] 42)).heap[wz.heap.size]? = some (Obj.cells #[.int .i64 ek, .int .i64 ax, .int .i64 ay, .int .i64 bx, .int .i64 bY, .int .i64 cx, .int .i64 cy] 42)) := Lib.hid (heap_alloc_new _ _)
  have HSZ : Hid (W.heap.size ≤ wz.heap.size) := Lib.hid KP2.out.size
  have z1b : (wz.alloc (Obj.cells #[.int .i64 ek, .int .i64 ax, .int .i64 ay, .int .i64 bx, .int .i64 bY, .int .i64 cx, .int .i64 cy] 42)).cell? ⟨w.heap.size, 1, none⟩ = some (.slice (some ⟨bo, off, none⟩) N cap) := (KE.out.below.cell (p := ⟨w.heap.size, 1, none⟩) (World.block_lt_of_cell? _ _ z1)).trans z1
  go_wp2_with fail
  have HN2 := HN
  have e0 := HN.out
  subst e0
  refine (edges_any b _ es m _ c _ cap W _ (H2.out.kp KE.out) (KP2.out.trans KE.out) (HENV.out _ (KP2.out.trans KE.out)) FE.out HV.out h0 hn (by have := HLN.out; omega) hW1).mono ?_
  rintro e w4 ⟨rfl, h4, k4⟩
  have H4 := Lib.hid h4
  have K4 := Lib.hid (K2.out.trans ((Kw.of_kp KE.out H2.out.lt).trans k4))
  clear h4 k4
  go_wp2_with fail
  go_returns
  exact ⟨rfl, H4.out, K4.out⟩

end Go.Proofs.YtggplbenliaodaaDoor
