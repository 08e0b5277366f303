/- A line read. -/
import Derived.Test.YtnchipahdfbliaaGreatDoorLe
namespace Go.Proofs.YtnchipahdfbliaaGreatDoor
open Go.RowKit

theorem RdAt.near {R r : Nat} {w w' : World} {ws : Ru.Ws} (h : RdAt R w ws) (k : Kp w w' (some r)) (hr : r + 1 < R) : RdAt R w' ws := by
 obtain ⟨ao, cap, h1, h2, h3, h4⟩ := h
 exact ⟨ao, cap, res_kept h1 k (by intro q hq; injection hq with hq; omega), h2.keepRow k (fun p hp => by have := h3 p hp; omega), h3, h4⟩
theorem wpList_store_to {ops : Array Oper} {rest : List Oper} {op : Oper} {a : Act} {w : World} {Q : Exit → Act → World → Prop} (hgd : op.guard = none) (ty : TypeId) (x y : Operand) (ho : op.op = .store ty x y)
  (g o : Nat) (old : Array Value) (t : TypeId) (hg : w.heap[g]? = some (.cells old t (0, 0))) (c' : Array Value) (hx : a.eval x = .pointer (some ⟨g, o, none⟩)) (hy : a.eval y = .agg c') (hi : (Tryz.prog.info? ty).map (·.size) = some c'.size) (hs : o + c'.size ≤ old.size) (h1 : ∀ v ∈ c'.toList, v.oneCell' = true) (new : Array Value) (hn : putAll old o c'.toList = new)
  (h : ∀ V, V.heap[g]? = some (.cells new t (0, 0)) → Kp w V (some g) → wpList Tryz.prog ops Q rest (a.put op.dst undef) V) : wpList Tryz.prog ops Q (op :: rest) a w :=
 wpList_store_at hgd ty x y ho g o old t hg c' hx hy hi hs h1 (fun V hV => h V (hn ▸ hV))
theorem put_a (a0 a1 a2 a3 a4 a5 a6 a7 a8 a9 a10 a11 a12 a13 a14 a15 a16 a17 a18 a19 b0 b1 b2 b3 b4 b5 b6 b7 : Value) : putAll #[a0, a1, a2, a3, a4, a5, a6, a7, a8, a9, a10, a11, a12, a13, a14, a15, a16, a17, a18, a19] 3 #[b0, b1, b2, b3, b4, b5, b6, b7].toList = #[a0, a1, a2, b0, b1, b2, b3, b4, b5, b6, b7, a11, a12, a13, a14, a15, a16, a17, a18, a19] := by simp [putAll]
theorem put_b (a0 a1 a2 a3 a4 a5 a6 a7 a8 a9 a10 a11 a12 a13 a14 a15 a16 a17 a18 a19 b0 b1 b2 b3 b4 b5 b6 b7 : Value) : putAll #[a0, a1, a2, a3, a4, a5, a6, a7, a8, a9, a10, a11, a12, a13, a14, a15, a16, a17, a18, a19] 11 #[b0, b1, b2, b3, b4, b5, b6, b7].toList = #[a0, a1, a2, a3, a4, a5, a6, a7, a8, a9, a10, b0, b1, b2, b3, b4, b5, b6, b7, a19] := by simp [putAll]
theorem range_blk {w : World} {b : Nat} {cs : Array Value} {T : TypeId} (h : w.heap[b]? = some (.cells cs T (0, 0))) : w.rangeAt b 0 cs.toList := fun j v hv => by rw [Nat.zero_add]; exact hcell h j (by simpa using hv)
theorem leaves_tmps {fn : Func} {t t' : Array Value} {R : Ending → World → Prop} (h : results fn t = results fn t') : ∀ (ds : List Deferred) (u : FrameMode) (w : World), Leaves Tryz.prog fn t R ds u w → Leaves Tryz.prog fn t' R ds u w
 | [], .returning, w, ⟨v, hr, hR⟩ => ⟨v, by rw [← h]; exact hr, hR⟩
 | [], .panicking chain, w, hR => hR
 | [], .run, w, hR => hR
 | d :: ds, u, w, ⟨h1, fv, cap, f, args, h2, h3, h4⟩ => ⟨h1, fv, cap, f, args, h2, h3, h4.mono fun e u' w' hh => by
   cases e with
   | returned v => exact leaves_tmps h ds _ _ hh
   | panicked chain => exact leaves_tmps h ds _ _ hh
   | outgrown => exact hh⟩
/-- A panic's way out reads no slot but the result's. -/
theorem put52 {R : Ending → World → Prop} (a : Act) (d : Option Nat) (v : Value) (c : List PanicEntry) (w : World) (hd : d ≠ some 2) (hd3 : d ≠ some 3) (h : bodyPostD Tryz.prog Tryz.f52 R (.panic c) (a.put d v) w) : bodyPostD Tryz.prog Tryz.f52 R (.panic c) a w := by
 cases d with
 | none => exact h
 | some k =>
  have hk : k ≠ 2 := fun e => hd (by rw [e])
  have hk3 : k ≠ 3 := fun e => hd3 (by rw [e])
  refine leaves_tmps ?_ _ _ _ h
  show results Tryz.f52 (a.tmps.setIfInBounds k v) = results Tryz.f52 a.tmps
  simp [results, Tryz.results52, Array.getD_eq_getD_getElem?, Array.getElem?_setIfInBounds_ne hk, Array.getElem?_setIfInBounds_ne hk3]
theorem wp_store_blk {op : Oper} {a : Act} {w : World} {K : Act → World → Prop} {Q : Exit → Act → World → Prop} (ty : TypeId) (x y : Operand) (ho : op.op = .store ty x y)
  (g : Nat) (old : Array Value) (t : TypeId) (hg : w.heap[g]? = some (.cells old t (0, 0))) (c' : Array Value) (hx : a.eval x = .pointer (some ⟨g, 0, none⟩)) (hy : a.eval y = .agg c') (hi : (Tryz.prog.info? ty).map (·.size) = some c'.size) (hs : old.size = c'.size) (h1 : ∀ v ∈ c'.toList, v.oneCell' = true)
  (h : ∀ V, V.heap[g]? = some (.cells c' t (0, 0)) → Kp w V (some g) → K (a.put op.dst undef) V) : op.wp Tryz.prog a w K Q := by
 unfold Oper.wp execOp
 simp only [ho, hx, hy, Instr.storeAt, Instr.sureAddr, Sem.run_bind, Sem.run_pure, Result.andThen_ok, run_storeVar_row w g t ty old c' hg hi hs (Array.all_eq_true_iff_forall_mem.2 (fun v hv => h1 v (by simpa using hv)))]
 have hlt := lt_of_block hg
 refine h _ ?_ ⟨rfl, rfl, rfl, by simp [World.setRow], fun k _ hr => ?_⟩
 ·have h' : w.heap[g] = .cells old t (0, 0) := by simpa [Array.getElem?_eq_getElem hlt] using hg
  show (w.heap.modify g _)[g]? = _
  rw [Array.getElem?_eq_getElem (by simpa using hlt), Array.getElem_modify_self, h']
 ·show (w.heap.modify g _)[k]? = _
  rw [Array.getElem?_modify, if_neg (fun e => hr (by rw [e]))]
theorem what_range (x : List UInt8) : 0 ≤ Ru.whatOf x ∧ Ru.whatOf x ≤ 4 := by
 unfold Ru.whatOf
 cases h : Ru.whats.idxOf? x with
 | none => simp
 | some k =>
  have hk : k < 4 := by
   rw [List.idxOf?_eq_some_iff] at h
   obtain ⟨hlt, _⟩ := h
   exact hlt
  simp only; omega
theorem what_wrap (x : List UInt8) : wrap64 (Ru.whatOf x) = Ru.whatOf x := by
 obtain ⟨h1, h2⟩ := what_range x
 unfold wrap64; omega
set_option maxHeartbeats 4000000 in
set_option maxRecDepth 100000 in
theorem line_any (s : List UInt8) (w : World) (he : Env w) (hs : s.length ≤ 1000000000) : Calls Tryz.prog 52 #[str s] w (LineIs (Ru.line s) w) := by
 obtain ⟨ws, hws⟩ : ∃ ws, Ru.pieces 32 s = ws := ⟨_, rfl⟩
 have k0 : Kp w ((w.alloc (.cells rZ 42)).alloc (.cells #[.bool false] 4)) none := ((Kp.refl _ _).alloc _).alloc _
 have cs := split_any 32 s hs _ (he.kp0 k0)
 have hwl : WsOk ws := ⟨by have := piece_num 32 s; rw [hws] at this; omega, fun p hp => by have := piece_len 32 s p (by rw [hws]; exact hp); omega⟩
 have hline : Ru.line s = Ru.lineW ws := by unfold Ru.line; rw [hws]
 rw [hws] at cs
 rw [hline]
 have K0 := Lib.hid k0
 have HE := Lib.hid he
 clear hline k0 he
 have hmf : ∀ (fn : Fn) (first cap : Array Value) (w : World), (Instr.makeFunc fn first cap).run Tryz.prog w = .ok (.func fn first cap) w := fun _ _ _ _ => rfl
 have hB0 : ((w.alloc (.cells rZ 42)).alloc (.cells #[.bool false] 4)).heap[w.heap.size]? = some (.cells rZ 42 (0, 0)) := res_kept (heap_alloc_new w _) ((Kp.refl (w.alloc (.cells rZ 42)) none).alloc (.cells #[.bool false] 4)) (by simp)
 have hX0 : ((w.alloc (.cells rZ 42)).alloc (.cells #[.bool false] 4)).heap[w.heap.size + 1]? = some (.cells #[.bool false] 4 (0, 0)) := heap_alloc2_new w _ _
 have k1 : Kp ((w.alloc (.cells rZ 42)).alloc (.cells #[.bool false] 4)) ((((w.alloc (.cells rZ 42)).alloc (.cells #[.bool false] 4)).alloc (.cells (ws.map str).toArray 9)).alloc (.cells #[.slice (some ⟨w.heap.size + 2, 0, none⟩) ws.length ws.length] 119)) none := ((Kp.refl _ _).alloc _).alloc _
 have hr1 : RdAt (w.heap.size + 3) ((((w.alloc (.cells rZ 42)).alloc (.cells #[.bool false] 4)).alloc (.cells (ws.map str).toArray 9)).alloc (.cells #[.slice (some ⟨w.heap.size + 2, 0, none⟩) ws.length ws.length] 119)) ws := by
  refine ⟨some ⟨w.heap.size + 2, 0, none⟩, ws.length, ?_, ?_, ?_, hwl⟩
  ·have e : (((w.alloc (.cells rZ 42)).alloc (.cells #[.bool false] 4)).alloc (.cells (ws.map str).toArray 9)).heap.size = w.heap.size + 3 := by simp
   rw [← e]; exact heap_alloc_new _ _
  ·have e : ((w.alloc (.cells rZ 42)).alloc (.cells #[.bool false] 4)).heap.size = w.heap.size + 2 := by simp
   obtain ⟨ao, cap, e1, hl⟩ := (strs_list (w := ((w.alloc (.cells rZ 42)).alloc (.cells #[.bool false] 4))) ws 9).form
   rw [e] at e1
   injection e1 with e1 _ e3
   subst e1; subst e3
   exact hl.keep ((Kp.refl _ none).alloc _)
  ·intro p hp; injection hp with hp; subst hp; rfl
 have c1 := must_any Ru.kwRule _ _ ws hr1
 have HB1 := Lib.hid (res_kept hB0 k1 (by simp))
 have HX1 := Lib.hid (res_kept hX0 k1 (by simp))
 have HK1 := Lib.hid (K0.out.trans k1)
 clear k1 hB0 hX0 K0
 unfold rZ at cs c1 HB1 HX1 HK1
 go_enter_defers Tryz.func52, Tryz.ntmps52
 go_wp2_with (go_at_call 51; refine cs.mono ?_; rintro e w1 ⟨rfl, rfl⟩)
 cases hm : Ru.must Ru.kwRule ws with
 | none =>
  rw [hm] at c1
  refine c1.mono ?_
  rintro e w2 ⟨rfl, hk⟩
  exact door_none _ rfl rfl (res_kept HB1.out hk (by intro q hq; injection hq with hq; omega)) rfl (res_kept HX1.out hk (by intro q hq; injection hq with hq; omega)) (Kp.row HK1.out hk (by intro q hq; injection hq with hq; omega)) (by unfold Ru.lineW; rw [hm]; rfl)
 | some r =>
  rw [hm] at c1
  refine c1.mono ?_
  rintro e w2 ⟨⟨_, rfl, rfl, hr⟩, hk⟩
  have HB2 := Lib.hid (res_kept HB1.out hk (by intro q hq; injection hq with hq; omega))
  have HX2 := Lib.hid (res_kept HX1.out hk (by intro q hq; injection hq with hq; omega))
  have HK2 := Lib.hid (Kp.row HK1.out hk (by intro q hq; injection hq with hq; omega))
  have c2 := next_any _ _ r hr
  clear c1 hk HB1 HX1 HK1 cs
  cases hn : Ru.next r with
  | none =>
   rw [hn] at c2
   go_wp2_with (go_at_call 75; refine c2.mono ?_; rintro e w3 ⟨rfl, hk⟩)
   exact door_none _ rfl rfl (res_kept HB2.out hk (by intro q hq; injection hq with hq; omega)) rfl (res_kept HX2.out hk (by intro q hq; injection hq with hq; omega)) (Kp.row HK2.out hk (by intro q hq; injection hq with hq; omega)) (by unfold Ru.lineW; simp [hm, hn])
  | some p =>
   obtain ⟨nm, r3⟩ := p
   rw [hn] at c2
   go_wp2_with (first | (go_at_call 75; refine c2.mono ?_; rintro e w3 ⟨⟨_, rfl, rfl, hr3⟩, hk3⟩; have HB3 := Lib.hid (res_kept HB2.out hk3 (by intro q hq; injection hq with hq; omega))) | (refine wpList_store_blk (by rfl) 42 _ _ (by rfl) w.heap.size _ 42 HB3.out #[str nm, .int .i64 0, .int .i64 0, .int .i64 0, .string ⟨#[]⟩, .int .i64 0, .int .i64 0, .int .i64 0, .int .i64 0, .int .i64 0, .slice none 0 0, .int .i64 1, .string ⟨#[]⟩, .int .i64 0, .int .i64 0, .int .i64 0, .int .i64 0, .int .i64 0, .slice none 0 0, .int .i64 0] (by rfl) (by rfl) info42 (by rfl) (by simp [Value.oneCell']) (fun V hV hkV => ?_); have HV := Lib.hid hV; have HKV := Lib.hid hkV; clear hV hkV))
   have HX4 := Lib.hid (res_kept (res_kept HX2.out hk3 (by intro q hq; injection hq with hq; omega)) HKV.out (by intro q hq; injection hq with hq; omega))
   have HK4 := Lib.hid (Kp.row (Kp.row HK2.out hk3 (by intro q hq; injection hq with hq; omega)) HKV.out (by intro q hq; injection hq with hq; omega))
   have hr4 : RdAt (w.heap.size + 3) V r3 := hr3.near HKV.out (by omega)
   have c4 := number_any _ (by have := HE.out.big; omega) V (HE.out.kp0 HK4.out) r3 hr4
   clear c2 hk3 hr3 hr HB3 HB2 HX2 HK2 HKV hr4
   cases hnu : Ru.number r3 with
   | none =>
    rw [hnu] at c4
    go_wp2_with (go_at_call 76; refine c4.mono ?_; rintro e w3 ⟨rfl, hk⟩)
    exact door_none _ rfl rfl (res_kept HV.out hk (by intro q hq; injection hq with hq; omega)) rfl (res_kept HX4.out hk (by intro q hq; injection hq with hq; omega)) (Kp.row HK4.out hk (by intro q hq; injection hq with hq; omega)) (by unfold Ru.lineW; simp [hm, hn, hnu])
   | some p =>
    obtain ⟨prio, r5⟩ := p
    rw [hnu] at c4
    go_wp2_with (go_at_call 76; refine c4.mono ?_; rintro e w5 ⟨⟨_, rfl, rfl, hr5⟩, hk5⟩; have HB5 := Lib.hid (res_kept HV.out hk5 (by intro q hq; injection hq with hq; omega)); have HX5 := Lib.hid (res_kept HX4.out hk5 (by intro q hq; injection hq with hq; omega)); have HK5 := Lib.hid (Kp.row HK4.out hk5 (by intro q hq; injection hq with hq; omega)); have hc5 := hcell HB5.out 1 rfl; have hz5 := Lib.frozen_of_heap HB5.out 1)
    obtain ⟨V6, hV6⟩ : ∃ V, w5.setCell ⟨w.heap.size, 1, none⟩ (.int .i64 prio) = V := ⟨_, rfl⟩
    have k56 : Kp w5 V6 (some w.heap.size) := by rw [← hV6]; exact (Kp.refl _ _).set _
    have hB6 : V6.heap[w.heap.size]? = some (.cells #[str nm, .int .i64 prio, .int .i64 0, .int .i64 0, .string ⟨#[]⟩, .int .i64 0, .int .i64 0, .int .i64 0, .int .i64 0, .int .i64 0, .slice none 0 0, .int .i64 1, .string ⟨#[]⟩, .int .i64 0, .int .i64 0, .int .i64 0, .int .i64 0, .int .i64 0, .slice none 0 0, .int .i64 0] 42 (0, 0)) := by rw [← hV6]; exact heap_set HB5.out
    have k67 : Kp V6 (V6.alloc (.cells (Ru.whats.map str).toArray 9)) none := (Kp.refl _ _).alloc _
    have HB7 := Lib.hid (res_kept hB6 k67 (by simp))
    have HX7 := Lib.hid (res_kept (res_kept HX5.out k56 (by intro q hq; injection hq with hq; omega)) k67 (by simp))
    have HK7 := Lib.hid ((Kp.row HK5.out k56 (by intro q hq; injection hq with hq; omega)).trans k67)
    have c6 := whats_any V6
    have c7 := next_any _ _ r5 ((hr5.near k56 (by omega)).keep k67)
    have hWB : (V6.alloc (.cells (Ru.whats.map str).toArray 9)).heap[V6.heap.size]? = some (.cells (Ru.whats.map str).toArray 9 (0, 0)) := heap_alloc_new _ _
    have HWB := Lib.hid hWB
    have HV6 := Lib.hid (by have := (hr5.near k56 (by omega)).lt; exact this : w.heap.size + 3 < V6.heap.size)
    rw [hV6]
    clear c4 hk5 HB5 HX5 HK5 hr5 HV HX4 HK4 hV6 k56 hB6 k67 hWB hc5 hz5
    cases hwh : Ru.next r5 with
    | none =>
     rw [hwh] at c7
     go_wp2_with (first | (go_at_call 41; refine c6.mono ?_; rintro e w3 ⟨rfl, rfl⟩) | (go_at_call 75; refine c7.mono ?_; rintro e w3 ⟨rfl, hk⟩))
     exact door_none _ rfl rfl (res_kept HB7.out hk (by intro q hq; injection hq with hq; omega)) rfl (res_kept HX7.out hk (by intro q hq; injection hq with hq; omega)) (Kp.row HK7.out hk (by intro q hq; injection hq with hq; omega)) (by unfold Ru.lineW; simp [hm, hn, hnu, hwh])
    | some p =>
     obtain ⟨wh, r8⟩ := p
     rw [hwh] at c7
     go_wp2_with (first | (go_at_call 41; refine c6.mono ?_; rintro e w3 ⟨rfl, rfl⟩) | (go_at_call 75; refine c7.mono ?_; rintro e w8 ⟨⟨_, rfl, rfl, hr8⟩, hk8⟩; have HB8 := Lib.hid (res_kept HB7.out hk8 (by intro q hq; injection hq with hq; omega)); have HX8 := Lib.hid (res_kept HX7.out hk8 (by intro q hq; injection hq with hq; omega)); have HK8 := Lib.hid (Kp.row HK7.out hk8 (by intro q hq; injection hq with hq; omega)); have hc8 := hcell HB8.out 2 rfl; have hz8 := Lib.frozen_of_heap HB8.out 2; have c8 := index_what V6.heap.size wh w8 (res_kept HWB.out hk8 (by intro q hq; injection hq with hq; have := HV6.out; omega))) | (go_at_call 77; refine c8.mono ?_; rintro e w9 ⟨rfl, rfl⟩))
     rw [what_wrap]
     obtain ⟨V9, hV9⟩ : ∃ V, w9.setCell ⟨w.heap.size, 2, none⟩ (.int .i64 (Ru.whatOf wh)) = V := ⟨_, rfl⟩
     have k89 : Kp w9 V9 (some w.heap.size) := by rw [← hV9]; exact (Kp.refl _ _).set _
     have hB9 : V9.heap[w.heap.size]? = some (.cells #[str nm, .int .i64 prio, .int .i64 (Ru.whatOf wh), .int .i64 0, .string ⟨#[]⟩, .int .i64 0, .int .i64 0, .int .i64 0, .int .i64 0, .int .i64 0, .slice none 0 0, .int .i64 1, .string ⟨#[]⟩, .int .i64 0, .int .i64 0, .int .i64 0, .int .i64 0, .int .i64 0, .slice none 0 0, .int .i64 0] 42 (0, 0)) := by rw [← hV9]; exact heap_set HB8.out
     have HB9 := Lib.hid hB9
     have HX9 := Lib.hid (res_kept HX8.out k89 (by intro q hq; injection hq with hq; omega))
     have HK9 := Lib.hid (Kp.row HK8.out k89 (by intro q hq; injection hq with hq; omega))
     have c9 := number_any _ (by have := HE.out.big; omega) V9 (HE.out.kp0 HK9.out) r8 (hr8.near k89 (by omega))
     rw [hV9]
     clear c6 c7 c8 hk8 HB7 HX7 HK7 HB8 HX8 HK8 hr8 hV9 k89 hB9 hc8 hz8
     cases hva : Ru.number r8 with
     | none =>
      rw [hva] at c9
      go_wp2_with (go_at_call 76; refine c9.mono ?_; rintro e w3 ⟨rfl, hk⟩)
      exact door_none _ rfl rfl (res_kept HB9.out hk (by intro q hq; injection hq with hq; omega)) rfl (res_kept HX9.out hk (by intro q hq; injection hq with hq; omega)) (Kp.row HK9.out hk (by intro q hq; injection hq with hq; omega)) (by unfold Ru.lineW; simp [hm, hn, hnu, hwh, hva])
     | some p =>
      obtain ⟨va, r10⟩ := p
      rw [hva] at c9
      go_wp2_with (go_at_call 76; refine c9.mono ?_; rintro e w10 ⟨⟨_, rfl, rfl, hr10⟩, hk10⟩; have HB10 := Lib.hid (res_kept HB9.out hk10 (by intro q hq; injection hq with hq; omega)); have HX10 := Lib.hid (res_kept HX9.out hk10 (by intro q hq; injection hq with hq; omega)); have HK10 := Lib.hid (Kp.row HK9.out hk10 (by intro q hq; injection hq with hq; omega)); have hc10 := hcell HB10.out 19 rfl; have hz10 := Lib.frozen_of_heap HB10.out 19)
      obtain ⟨V11, hV11⟩ : ∃ V, w10.setCell ⟨w.heap.size, 19, none⟩ (.int .i64 va) = V := ⟨_, rfl⟩
      have k11 : Kp w10 V11 (some w.heap.size) := by rw [← hV11]; exact (Kp.refl _ _).set _
      have hB11 : V11.heap[w.heap.size]? = some (.cells #[str nm, .int .i64 prio, .int .i64 (Ru.whatOf wh), .int .i64 0, .string ⟨#[]⟩, .int .i64 0, .int .i64 0, .int .i64 0, .int .i64 0, .int .i64 0, .slice none 0 0, .int .i64 1, .string ⟨#[]⟩, .int .i64 0, .int .i64 0, .int .i64 0, .int .i64 0, .int .i64 0, .slice none 0 0, .int .i64 va] 42 (0, 0)) := by rw [← hV11]; exact heap_set HB10.out
      have HB11 := Lib.hid hB11
      have HX11 := Lib.hid (res_kept HX10.out k11 (by intro q hq; injection hq with hq; omega))
      have HK11 := Lib.hid (Kp.row HK10.out k11 (by intro q hq; injection hq with hq; omega))
      have c11 := must_any Ru.kwWhen _ V11 r10 (hr10.near k11 (by omega))
      rw [hV11]
      clear c9 hk10 HB9 HX9 HK9 HB10 HX10 HK10 hr10 hV11 k11 hB11 hc10 hz10 HWB HV6
      cases hwn : Ru.must Ru.kwWhen r10 with
      | none =>
       rw [hwn] at c11
       go_wp2_with (go_at_call 74; refine c11.mono ?_; rintro e w3 ⟨rfl, hk⟩)
       exact door_none _ rfl rfl (res_kept HB11.out hk (by intro q hq; injection hq with hq; omega)) rfl (res_kept HX11.out hk (by intro q hq; injection hq with hq; omega)) (Kp.row HK11.out hk (by intro q hq; injection hq with hq; omega)) (by unfold Ru.lineW; simp [hm, hn, hnu, hwh, hva, hwn])
      | some r12 =>
       rw [hwn] at c11
       go_wp2_with (go_at_call 74; refine c11.mono ?_; rintro e w12 ⟨⟨_, rfl, rfl, hr12⟩, hk12⟩; have HB12 := Lib.hid (res_kept HB11.out hk12 (by intro q hq; injection hq with hq; omega)); have HX12 := Lib.hid (res_kept HX11.out hk12 (by intro q hq; injection hq with hq; omega)); have HK12 := Lib.hid (Kp.row HK11.out hk12 (by intro q hq; injection hq with hq; omega)))
       have c12 := orc_any _ (by have := HE.out.big; omega) w12 (HE.out.kp0 HK12.out) r12 hr12
       have hz12 := hr12.lt
       clear c11 hk12 HB11 HX11 HK11 hr12
       cases hoa : Ru.orc (Ru.fac r12.length) r12 with
       | none =>
        rw [hoa] at c12
        go_wp2_with (go_at_call 78; refine c12.mono ?_; rintro e w3 ⟨rfl, hk⟩)
        exact door_none _ rfl rfl (res_kept HB12.out hk (by intro q hq; injection hq with hq; omega)) rfl (res_kept HX12.out hk (by intro q hq; injection hq with hq; omega)) (Kp.row HK12.out hk (by intro q hq; injection hq with hq; omega)) (by unfold Ru.lineW; simp [hm, hn, hnu, hwh, hva, hwn, hoa])
       | some p =>
        obtain ⟨ca, r13⟩ := p
        rw [hoa] at c12
        obtain ⟨wo, hwo⟩ : ∃ x, Ru.whatOf wh = x := ⟨_, rfl⟩
        have HWO := Lib.hid hwo
        rw [hwo] at HB12
        clear hwo
        go_upto_if 35 with (first | (go_at_call 78; refine c12.mono ?_; rintro e w13 ⟨⟨_, rfl, ⟨a1, m1, p1, rfl, ht13⟩, hr13⟩, hk13⟩; have HB13 := Lib.hid (res_kept HB12.out hk13 (by intro q hq; injection hq with hq; omega)); have HX13 := Lib.hid (res_kept HX12.out hk13 (by intro q hq; injection hq with hq; omega)); have HK13 := Lib.hid (Kp.row HK12.out hk13 (by intro q hq; injection hq with hq; omega))) | (refine wpList_store_to (by rfl) 40 _ _ (by rfl) w.heap.size 3 _ 42 HB13.out #[.int .i64 ca.op, str ca.text, .int .i64 ca.n, .int .i64 ca.box.x0, .int .i64 ca.box.y0, .int .i64 ca.box.x1, .int .i64 ca.box.y1, .slice a1 m1 p1] (by rfl) (by rfl) info40s (by show 3 + 8 ≤ 20; omega) (by simp [Value.oneCell']) _ (put_a ..) (fun V hV hkV => ?_); have HV := Lib.hid hV; have HKV := Lib.hid hkV; have hc14 := hcell HV.out 2 rfl; clear hV hkV))
        have HX14 := Lib.hid (res_kept HX13.out HKV.out (by intro q hq; injection hq with hq; omega))
        have HK14 := Lib.hid (Kp.row HK13.out HKV.out (by intro q hq; injection hq with hq; omega))
        have hr14 : Hid (RdAt (w.heap.size + 3) V r13) := Lib.hid (hr13.near HKV.out (by omega))
        have hRlt := hr14.out.lt
        have ht14 : Hid (TreeP (fun b => w.heap.size + 4 ≤ b) V ca (.slice a1 m1 p1)) := Lib.hid ((ht13.row HKV.out (fun q hq hs => by injection hq with hq; omega)).mono (fun b _ hb => by omega))
        have HLN : Hid (Ru.lineW ws = if wo = 1 then (Ru.must Ru.kwTo r13).bind fun r => (Ru.orc (Ru.fac r.length) r).bind fun (b, r) => if r = [] then some ⟨nm, prio, 1, va, ca, b⟩ else none else if 0 < wo ∧ r13 = [] then some ⟨nm, prio, wo, va, ca, Ru.cAny⟩ else none) := Lib.hid (by unfold Ru.lineW; simp [hm, hn, hnu, hwh, hva, hwn, hoa, HWO.out])
        clear c12 hk13 HB12 HX12 HK12 ht13 hr13 HB13 HX13 HK13 HKV
        go_cut [35] from 36 to 40 (fun _ wx => ∃ (cb : Ru.Cond) (a2 : Option Addr) (m2 p2 : Nat) (r : Ru.Ws), wx.heap[w.heap.size]? = some (.cells #[str nm, .int .i64 prio, .int .i64 wo, .int .i64 ca.op, str ca.text, .int .i64 ca.n, .int .i64 ca.box.x0, .int .i64 ca.box.y0, .int .i64 ca.box.x1, .int .i64 ca.box.y1, .slice a1 m1 p1, .int .i64 cb.op, str cb.text, .int .i64 cb.n, .int .i64 cb.box.x0, .int .i64 cb.box.y0, .int .i64 cb.box.x1, .int .i64 cb.box.y1, .slice a2 m2 p2, .int .i64 va] 42 (0, 0)) ∧ Hid (TreeB (w.heap.size + 4) wx ca (.slice a1 m1 p1)) ∧ Hid (TreeB (w.heap.size + 4) wx cb (.slice a2 m2 p2)) ∧ Hid (RdAt (w.heap.size + 3) wx r) ∧ Hid (wx.heap[w.heap.size + 1]? = some (.cells #[.bool false] 4 (0, 0))) ∧ Hid (Kp w wx none) ∧ Hid (Ru.lineW ws = if 0 < wo ∧ r = [] then some ⟨nm, prio, wo, va, ca, cb⟩ else none))
        case first =>
         by_cases hw1 : wo = 1
         ·have hwb : (wo == 1) = true := by simp [hw1]
          have c14 := must_any Ru.kwTo _ V r13 hr14.out
          have hL1 := HLN.out
          rw [if_pos hw1] at hL1
          have HL1 := Lib.hid hL1
          have HW1 := Lib.hid hw1
          clear hL1 hw1
          cases hto : Ru.must Ru.kwTo r13 with
          | none =>
           rw [hto] at c14
           go_wp2_with (go_at_call 74; refine c14.mono ?_; rintro e w3 ⟨rfl, hk⟩)
           exact door_none _ rfl rfl (res_kept HV.out hk (by intro q hq; injection hq with hq; omega)) rfl (res_kept HX14.out hk (by intro q hq; injection hq with hq; omega)) (Kp.row HK14.out hk (by intro q hq; injection hq with hq; omega)) (by rw [HL1.out, hto]; rfl)
          | some r14 =>
           rw [hto] at c14
           go_wp2_with (go_at_call 74; refine c14.mono ?_; rintro e w15 ⟨⟨_, rfl, rfl, hr15⟩, hk15⟩; have HB15 := Lib.hid (res_kept HV.out hk15 (by intro q hq; injection hq with hq; omega)); have HX15 := Lib.hid (res_kept HX14.out hk15 (by intro q hq; injection hq with hq; omega)); have HK15 := Lib.hid (Kp.row HK14.out hk15 (by intro q hq; injection hq with hq; omega)); have HT15 := Lib.hid (ht14.out.row hk15 (fun q hq hs => by injection hq with hq; omega)))
           have c15 := orc_any _ (by have := HE.out.big; omega) w15 (HE.out.kp0 HK15.out) r14 hr15
           have hz15 := hr15.lt
           clear c14 hk15 hr15
           cases hob : Ru.orc (Ru.fac r14.length) r14 with
           | none =>
            rw [hob] at c15
            go_wp2_with (go_at_call 78; refine c15.mono ?_; rintro e w3 ⟨rfl, hk⟩)
            exact door_none _ rfl rfl (res_kept HB15.out hk (by intro q hq; injection hq with hq; omega)) rfl (res_kept HX15.out hk (by intro q hq; injection hq with hq; omega)) (Kp.row HK15.out hk (by intro q hq; injection hq with hq; omega)) (by rw [HL1.out, hto]; simp [hob])
           | some p =>
            obtain ⟨cb, r16⟩ := p
            rw [hob] at c15
            have HLB : Hid (Ru.lineW ws = if 0 < wo ∧ r16 = [] then some ⟨nm, prio, wo, va, ca, cb⟩ else none) := Lib.hid (by rw [HL1.out, hto]; simp [hob, HW1.out])
            go_wp2_with (first | (go_at_call 78; refine c15.mono ?_; rintro e w16 ⟨⟨_, rfl, ⟨a2, m2, p2, rfl, ht16⟩, hr16⟩, hk16⟩; have HB16 := Lib.hid (res_kept HB15.out hk16 (by intro q hq; injection hq with hq; omega)); have HX16 := Lib.hid (res_kept HX15.out hk16 (by intro q hq; injection hq with hq; omega)); have HK16 := Lib.hid (Kp.row HK15.out hk16 (by intro q hq; injection hq with hq; omega)); have HT16 := Lib.hid (HT15.out.row hk16 (fun q hq hs => by injection hq with hq; omega))) | (refine wpList_store_to (by rfl) 40 _ _ (by rfl) w.heap.size 11 _ 42 HB16.out #[.int .i64 cb.op, str cb.text, .int .i64 cb.n, .int .i64 cb.box.x0, .int .i64 cb.box.y0, .int .i64 cb.box.x1, .int .i64 cb.box.y1, .slice a2 m2 p2] (by rfl) (by rfl) info40s (by show 11 + 8 ≤ 20; omega) (by simp [Value.oneCell']) _ (put_b ..) (fun U hU hkU => ?_); have HU := Lib.hid hU; have HKU := Lib.hid hkU; clear hU hkU))
            go_meet
            exact ⟨cb, a2, m2, p2, r16, HU.out, Lib.hid ((HT16.out.row HKU.out (fun q hq hs => by injection hq with hq; omega)).mono (fun b _ hb => by omega)), Lib.hid ((ht16.row HKU.out (fun q hq hs => by injection hq with hq; omega)).mono (fun b _ hb => by omega)), Lib.hid (hr16.near HKU.out (by omega)), Lib.hid (res_kept HX16.out HKU.out (by intro q hq; injection hq with hq; omega)), Lib.hid (Kp.row HK16.out HKU.out (by intro q hq; injection hq with hq; omega)), HLB⟩
         ·have hwb : (wo == 1) = false := by simp [hw1]
          have hL1 := HLN.out
          rw [if_neg hw1] at hL1
          have HL1 := Lib.hid hL1
          clear hL1
          go_wp2_with fail
          go_meet
          exact ⟨Ru.cAny, none, 0, 0, r13, HV.out, Lib.hid (ht14.out.mono (fun b _ hb => by omega)), Lib.hid (TreeP.leaf rfl), hr14, HX14, HK14, HL1⟩
        case rest =>
         obtain ⟨cb, a2, m2, p2, r, hb, hta, htb, hrd, hx, hk, hl⟩ := hcut
         have HB := Lib.hid hb
         obtain ⟨ao, cap, hrb, _, _, _⟩ := hrd.out
         have HRB := Lib.hid hrb
         obtain ⟨n, hn⟩ : ∃ n, r.length = n := ⟨_, rfl⟩
         rw [hn] at HRB
         have HRN : Hid (r = [] ↔ n = 0) := Lib.hid (by rw [← hn]; exact List.length_eq_zero_iff.symm)
         clear hb hrb hn hr14 HV HX14 HK14 ht14 HLN hc14
         by_cases h0 : 0 < wo
         case neg =>
          skip
          go_upto_region 13 with fail
          refine wp_region_held_drew (S := fun V => V.cell? ⟨w.heap.size, 2, none⟩ = some (.int .i64 wo) ∧ V.cell? ⟨w.heap.size + 1 + 1 + 1, 0, none⟩ = some (.slice ao n cap) ∧ V.rangeAt w.heap.size 0 #[str nm, .int .i64 prio, .int .i64 wo, .int .i64 ca.op, str ca.text, .int .i64 ca.n, .int .i64 ca.box.x0, .int .i64 ca.box.y0, .int .i64 ca.box.x1, .int .i64 ca.box.y1, .slice a1 m1 p1, .int .i64 cb.op, str cb.text, .int .i64 cb.n, .int .i64 cb.box.x0, .int .i64 cb.box.y0, .int .i64 cb.box.x1, .int .i64 cb.box.y1, .slice a2 m2 p2, .int .i64 va].toList ∧ Hid (V.heap[w.heap.size]? = some (.cells #[str nm, .int .i64 prio, .int .i64 wo, .int .i64 ca.op, str ca.text, .int .i64 ca.n, .int .i64 ca.box.x0, .int .i64 ca.box.y0, .int .i64 ca.box.x1, .int .i64 ca.box.y1, .slice a1 m1 p1, .int .i64 cb.op, str cb.text, .int .i64 cb.n, .int .i64 cb.box.x0, .int .i64 cb.box.y0, .int .i64 cb.box.x1, .int .i64 cb.box.y1, .slice a2 m2 p2, .int .i64 va] 42 (0, 0))) ∧ Hid (∃ y, V.heap[w.heap.size + 1]? = some (.cells #[.bool y] 4 (0, 0))) ∧ Hid (Kp w V none) ∧ Hid (TreeB (w.heap.size + 4) V ca (.slice a1 m1 p1)) ∧ Hid (TreeB (w.heap.size + 4) V cb (.slice a2 m2 p2)) ∧ Hid (V.heap[w.heap.size + 1 + 1 + 1]? = some (.cells #[.slice ao n cap] 119 (0, 0)))) (by kernel_rfl) ?_ (fun hHeld => ?_)
          ·exact ⟨ckr HB.out ((Kp.refl wc none).drew) (by simp) 2 rfl, ckr HRB.out ((Kp.refl wc none).drew) (by simp) 0 rfl, range_blk (res_kept HB.out ((Kp.refl wc none).drew) (by simp)), Lib.hid (res_kept HB.out ((Kp.refl wc none).drew) (by simp)), Lib.hid ⟨false, res_kept hx.out ((Kp.refl wc none).drew) (by simp)⟩, Lib.hid (hk.out.trans ((Kp.refl wc none).drew)), Lib.hid (hta.out.keep ((Kp.refl wc none).drew)), Lib.hid (htb.out.keep ((Kp.refl wc none).drew)), Lib.hid (res_kept HRB.out ((Kp.refl wc none).drew) (by simp))⟩
          refine wpAnyH_take (i := 0) rfl (by kernel_rfl) (by kernel_rfl) (by kernel_rfl) (fun c a w h => put52 a _ _ c w (by decide) (by decide) h) (yieldsIf_load_mid (by rfl) _ _ rfl w.heap.size 0 rfl #[str nm, .int .i64 prio, .int .i64 wo, .int .i64 ca.op, str ca.text, .int .i64 ca.n, .int .i64 ca.box.x0, .int .i64 ca.box.y0, .int .i64 ca.box.x1, .int .i64 ca.box.y1, .slice a1 m1 p1, .int .i64 cb.op, str cb.text, .int .i64 cb.n, .int .i64 cb.box.x0, .int .i64 cb.box.y0, .int .i64 cb.box.x1, .int .i64 cb.box.y1, .slice a2 m2 p2, .int .i64 va].toList _ (fun _ h => h.2.2.1) Tryz.underlying42 rfl info42) (by assumption) ?_
          try simp only [Act.put, sm]
          refine tkH 1 rfl ?_ (hQ := fun c a w h => put52 a _ _ c w (by decide) (by decide) h)
          try simp only [Act.put, sm]
          refine tkH 2 rfl ?_ (hQ := fun c a w h => put52 a _ _ c w (by decide) (by decide) h)
          try simp only [Act.put, sm]
          refine tkH 3 rfl ?_ (hQ := fun c a w h => put52 a _ _ c w (by decide) (by decide) h)
          try simp only [Act.put, sm]
          refine tkH 4 rfl ?_ (hQ := fun c a w h => put52 a _ _ c w (by decide) (by decide) h)
          try simp only [Act.put, sm]
          refine tkU 5 rfl ?_ (hQ := fun c a w h => put52 a _ _ c w (by decide) (by decide) h)
          try simp only [Act.put, sm]
          refine tkU 6 rfl ?_ (hQ := fun c a w h => put52 a _ _ c w (by decide) (by decide) h)
          try simp only [Act.put, sm]
          refine tkU 7 rfl ?_ (hQ := fun c a w h => put52 a _ _ c w (by decide) (by decide) h)
          try simp only [Act.put, sm]
          refine tkU 8 rfl ?_ (hQ := fun c a w h => put52 a _ _ c w (by decide) (by decide) h)
          try simp only [Act.put, sm]
          refine tkU 9 rfl ?_ (hQ := fun c a w h => put52 a _ _ c w (by decide) (by decide) h)
          try simp only [Act.put, sm]
          refine tkU 10 rfl ?_ (hQ := fun c a w h => put52 a _ _ c w (by decide) (by decide) h)
          try simp only [Act.put, sm]
          refine tkH 11 rfl ?_ (hQ := fun c a w h => put52 a _ _ c w (by decide) (by decide) h)
          try simp only [Act.put, sm]
          refine wpAnyH_ready (rs := [12]) (by kernel_rfl) (by simp) ?_
          refine AllReadyH.cons (o := _) rfl (fun K hK => ?_) AllReadyH.nil
          refine Eq.mpr (if_pos (by rfl)) ?_
          refine wp_store_blk 42 _ _ rfl w.heap.size _ 42 hHeld.2.2.2.1.out #[str nm, .int .i64 prio, .int .i64 wo, .int .i64 ca.op, str ca.text, .int .i64 ca.n, .int .i64 ca.box.x0, .int .i64 ca.box.y0, .int .i64 ca.box.x1, .int .i64 ca.box.y1, .slice a1 m1 p1, .int .i64 cb.op, str cb.text, .int .i64 cb.n, .int .i64 cb.box.x0, .int .i64 cb.box.y0, .int .i64 cb.box.x1, .int .i64 cb.box.y1, .slice a2 m2 p2, .int .i64 va] rfl rfl info42 rfl (by simp [Value.oneCell']) (fun V hV hkV => ?_)
          obtain ⟨_, _, _, _, hY, hKV, hA, hB, hRB⟩ := hHeld
          refine hK.out _ _ ?_ (fun hHeld => ?_)
          ·obtain ⟨y, hY⟩ := hY.out
           have hRB2 := res_kept hRB.out hkV (by intro q hq; injection hq with hq; omega)
           exact ⟨hcell hV 2 rfl, hcell hRB2 0 rfl, range_blk hV, Lib.hid hV, Lib.hid ⟨y, res_kept hY hkV (by intro q hq; injection hq with hq; omega)⟩, Lib.hid (Kp.row hKV.out hkV (by intro q hq; injection hq with hq; omega)), Lib.hid (hA.out.row hkV (fun q hq hs => by injection hq with hq; omega)), Lib.hid (hB.out.row hkV (fun q hq hs => by injection hq with hq; omega)), Lib.hid hRB2⟩
          clear hV hkV hY hKV hA hB hRB hK K
          try simp only [Act.put, sm]
          refine wpAnyH_ready (rs := [13]) (by kernel_rfl) (by simp) ?_
          refine AllReadyH.cons (o := _) rfl (fun K hK => ?_) AllReadyH.nil
          obtain ⟨_, _, _, hBB, hY, hKV, hA, hB, hRB⟩ := hHeld
          obtain ⟨y, hY⟩ := hY.out
          have HY := Lib.hid hY
          have hcy : V.cell? ⟨w.heap.size + 1, 0, none⟩ = some (.bool y) := hcell hY 0 rfl
          have hfy := Lib.frozen_of_heap hY 0
          clear hY
          go_simp
          have kk : Kp V (V.setCell ⟨w.heap.size + 1, 0, none⟩ (.bool false)) (some (w.heap.size + 1)) := (Kp.refl V _).set _
          have hBX := res_kept hBB.out kk (by intro q hq; injection hq with hq; omega)
          have hRX := res_kept hRB.out kk (by intro q hq; injection hq with hq; omega)
          have hYX := heap_set (o := 0) (v := .bool false) HY.out
          have hKX := Kp.row hKV.out kk (by intro q hq; injection hq with hq; omega)
          have hAX := hA.out.row kk (fun q hq hs => by injection hq with hq; omega)
          have hBX2 := hB.out.row kk (fun q hq hs => by injection hq with hq; omega)
          refine hK.out _ _ ⟨hcell hBX 2 rfl, hcell hRX 0 rfl, range_blk hBX, Lib.hid hBX, Lib.hid ⟨_, hYX⟩, Lib.hid hKX, Lib.hid hAX, Lib.hid hBX2, Lib.hid hRX⟩ (fun hHeld => ?_)
          clear hHeld hK K
          refine wpAnyH_done (by kernel_rfl) ?_ _
          go_wp2_with fail
          exact door_some (q := ⟨nm, prio, wo, va, ca, cb⟩) (a1 := a1) (m1 := m1) (p1 := p1) (a2 := a2) (m2 := m2) (p2 := p2) _ rfl rfl hBX hYX hKX (by rw [hl.out]; rw [if_neg (fun h => by omega)]; rfl) (fun _ => ⟨hAX.mono (fun b _ hb => by omega), hBX2.mono (fun b _ hb => by omega)⟩)
         by_cases hn0 : n = 0
         case neg =>
          have hnb : ((n : Int) == 0) = false := by simpa using hn0
          go_upto_region 13 with fail
          refine wp_region_held_drew (S := fun V => V.cell? ⟨w.heap.size, 2, none⟩ = some (.int .i64 wo) ∧ V.cell? ⟨w.heap.size + 1 + 1 + 1, 0, none⟩ = some (.slice ao n cap) ∧ V.rangeAt w.heap.size 0 #[str nm, .int .i64 prio, .int .i64 wo, .int .i64 ca.op, str ca.text, .int .i64 ca.n, .int .i64 ca.box.x0, .int .i64 ca.box.y0, .int .i64 ca.box.x1, .int .i64 ca.box.y1, .slice a1 m1 p1, .int .i64 cb.op, str cb.text, .int .i64 cb.n, .int .i64 cb.box.x0, .int .i64 cb.box.y0, .int .i64 cb.box.x1, .int .i64 cb.box.y1, .slice a2 m2 p2, .int .i64 va].toList ∧ Hid (V.heap[w.heap.size]? = some (.cells #[str nm, .int .i64 prio, .int .i64 wo, .int .i64 ca.op, str ca.text, .int .i64 ca.n, .int .i64 ca.box.x0, .int .i64 ca.box.y0, .int .i64 ca.box.x1, .int .i64 ca.box.y1, .slice a1 m1 p1, .int .i64 cb.op, str cb.text, .int .i64 cb.n, .int .i64 cb.box.x0, .int .i64 cb.box.y0, .int .i64 cb.box.x1, .int .i64 cb.box.y1, .slice a2 m2 p2, .int .i64 va] 42 (0, 0))) ∧ Hid (∃ y, V.heap[w.heap.size + 1]? = some (.cells #[.bool y] 4 (0, 0))) ∧ Hid (Kp w V none) ∧ Hid (TreeB (w.heap.size + 4) V ca (.slice a1 m1 p1)) ∧ Hid (TreeB (w.heap.size + 4) V cb (.slice a2 m2 p2)) ∧ Hid (V.heap[w.heap.size + 1 + 1 + 1]? = some (.cells #[.slice ao n cap] 119 (0, 0)))) (by kernel_rfl) ?_ (fun hHeld => ?_)
          ·exact ⟨ckr HB.out ((Kp.refl wc none).drew) (by simp) 2 rfl, ckr HRB.out ((Kp.refl wc none).drew) (by simp) 0 rfl, range_blk (res_kept HB.out ((Kp.refl wc none).drew) (by simp)), Lib.hid (res_kept HB.out ((Kp.refl wc none).drew) (by simp)), Lib.hid ⟨false, res_kept hx.out ((Kp.refl wc none).drew) (by simp)⟩, Lib.hid (hk.out.trans ((Kp.refl wc none).drew)), Lib.hid (hta.out.keep ((Kp.refl wc none).drew)), Lib.hid (htb.out.keep ((Kp.refl wc none).drew)), Lib.hid (res_kept HRB.out ((Kp.refl wc none).drew) (by simp))⟩
          refine wpAnyH_take (i := 0) rfl (by kernel_rfl) (by kernel_rfl) (by kernel_rfl) (fun c a w h => put52 a _ _ c w (by decide) (by decide) h) (yieldsIf_load_mid (by rfl) _ _ rfl w.heap.size 0 rfl #[str nm, .int .i64 prio, .int .i64 wo, .int .i64 ca.op, str ca.text, .int .i64 ca.n, .int .i64 ca.box.x0, .int .i64 ca.box.y0, .int .i64 ca.box.x1, .int .i64 ca.box.y1, .slice a1 m1 p1, .int .i64 cb.op, str cb.text, .int .i64 cb.n, .int .i64 cb.box.x0, .int .i64 cb.box.y0, .int .i64 cb.box.x1, .int .i64 cb.box.y1, .slice a2 m2 p2, .int .i64 va].toList _ (fun _ h => h.2.2.1) Tryz.underlying42 rfl info42) (by assumption) ?_
          try simp only [Act.put, sm]
          refine tkH 1 rfl ?_ (hQ := fun c a w h => put52 a _ _ c w (by decide) (by decide) h)
          try simp only [Act.put, sm]
          refine tkH 2 rfl ?_ (hQ := fun c a w h => put52 a _ _ c w (by decide) (by decide) h)
          try simp only [Act.put, sm]
          refine tkH 3 rfl ?_ (hQ := fun c a w h => put52 a _ _ c w (by decide) (by decide) h)
          try simp only [Act.put, sm]
          refine tkH 4 rfl ?_ (hQ := fun c a w h => put52 a _ _ c w (by decide) (by decide) h)
          try simp only [Act.put, sm]
          refine tkH 5 rfl ?_ (hQ := fun c a w h => put52 a _ _ c w (by decide) (by decide) h)
          try simp only [Act.put, sm]
          refine tkH 6 rfl ?_ (hQ := fun c a w h => put52 a _ _ c w (by decide) (by decide) h)
          try simp only [Act.put, sm]
          refine tkH 7 rfl ?_ (hQ := fun c a w h => put52 a _ _ c w (by decide) (by decide) h)
          try simp only [Act.put, sm]
          refine tkH 8 rfl ?_ (hQ := fun c a w h => put52 a _ _ c w (by decide) (by decide) h)
          try simp only [Act.put, sm]
          refine tkH 9 rfl ?_ (hQ := fun c a w h => put52 a _ _ c w (by decide) (by decide) h)
          try simp only [Act.put, sm]
          refine tkH 10 rfl ?_ (hQ := fun c a w h => put52 a _ _ c w (by decide) (by decide) h)
          try simp only [Act.put, sm]
          refine tkH 11 rfl ?_ (hQ := fun c a w h => put52 a _ _ c w (by decide) (by decide) h)
          try simp only [Act.put, sm]
          refine wpAnyH_ready (rs := [12]) (by kernel_rfl) (by simp) ?_
          refine AllReadyH.cons (o := _) rfl (fun K hK => ?_) AllReadyH.nil
          refine Eq.mpr (if_pos (by rfl)) ?_
          refine wp_store_blk 42 _ _ rfl w.heap.size _ 42 hHeld.2.2.2.1.out #[str nm, .int .i64 prio, .int .i64 wo, .int .i64 ca.op, str ca.text, .int .i64 ca.n, .int .i64 ca.box.x0, .int .i64 ca.box.y0, .int .i64 ca.box.x1, .int .i64 ca.box.y1, .slice a1 m1 p1, .int .i64 cb.op, str cb.text, .int .i64 cb.n, .int .i64 cb.box.x0, .int .i64 cb.box.y0, .int .i64 cb.box.x1, .int .i64 cb.box.y1, .slice a2 m2 p2, .int .i64 va] rfl rfl info42 rfl (by simp [Value.oneCell']) (fun V hV hkV => ?_)
          obtain ⟨_, _, _, _, hY, hKV, hA, hB, hRB⟩ := hHeld
          refine hK.out _ _ ?_ (fun hHeld => ?_)
          ·obtain ⟨y, hY⟩ := hY.out
           have hRB2 := res_kept hRB.out hkV (by intro q hq; injection hq with hq; omega)
           exact ⟨hcell hV 2 rfl, hcell hRB2 0 rfl, range_blk hV, Lib.hid hV, Lib.hid ⟨y, res_kept hY hkV (by intro q hq; injection hq with hq; omega)⟩, Lib.hid (Kp.row hKV.out hkV (by intro q hq; injection hq with hq; omega)), Lib.hid (hA.out.row hkV (fun q hq hs => by injection hq with hq; omega)), Lib.hid (hB.out.row hkV (fun q hq hs => by injection hq with hq; omega)), Lib.hid hRB2⟩
          clear hV hkV hY hKV hA hB hRB hK K
          try simp only [Act.put, sm]
          refine wpAnyH_ready (rs := [13]) (by kernel_rfl) (by simp) ?_
          refine AllReadyH.cons (o := _) rfl (fun K hK => ?_) AllReadyH.nil
          obtain ⟨_, _, _, hBB, hY, hKV, hA, hB, hRB⟩ := hHeld
          obtain ⟨y, hY⟩ := hY.out
          have HY := Lib.hid hY
          have hcy : V.cell? ⟨w.heap.size + 1, 0, none⟩ = some (.bool y) := hcell hY 0 rfl
          have hfy := Lib.frozen_of_heap hY 0
          clear hY
          go_simp
          have kk : Kp V (V.setCell ⟨w.heap.size + 1, 0, none⟩ (.bool false)) (some (w.heap.size + 1)) := (Kp.refl V _).set _
          have hBX := res_kept hBB.out kk (by intro q hq; injection hq with hq; omega)
          have hRX := res_kept hRB.out kk (by intro q hq; injection hq with hq; omega)
          have hYX := heap_set (o := 0) (v := .bool false) HY.out
          have hKX := Kp.row hKV.out kk (by intro q hq; injection hq with hq; omega)
          have hAX := hA.out.row kk (fun q hq hs => by injection hq with hq; omega)
          have hBX2 := hB.out.row kk (fun q hq hs => by injection hq with hq; omega)
          refine hK.out _ _ ⟨hcell hBX 2 rfl, hcell hRX 0 rfl, range_blk hBX, Lib.hid hBX, Lib.hid ⟨_, hYX⟩, Lib.hid hKX, Lib.hid hAX, Lib.hid hBX2, Lib.hid hRX⟩ (fun hHeld => ?_)
          clear hHeld hK K
          refine wpAnyH_done (by kernel_rfl) ?_ _
          go_wp2_with fail
          exact door_some (q := ⟨nm, prio, wo, va, ca, cb⟩) (a1 := a1) (m1 := m1) (p1 := p1) (a2 := a2) (m2 := m2) (p2 := p2) _ rfl rfl hBX hYX hKX (by rw [hl.out]; rw [if_neg (fun h => hn0 (HRN.out.1 h.2))]; rfl) (fun _ => ⟨hAX.mono (fun b _ hb => by omega), hBX2.mono (fun b _ hb => by omega)⟩)
         case pos =>
          subst hn0
          go_upto_region 13 with fail
          refine wp_region_held_drew (S := fun V => V.cell? ⟨w.heap.size, 2, none⟩ = some (.int .i64 wo) ∧ V.cell? ⟨w.heap.size + 1 + 1 + 1, 0, none⟩ = some (.slice ao 0 cap) ∧ V.rangeAt w.heap.size 0 #[str nm, .int .i64 prio, .int .i64 wo, .int .i64 ca.op, str ca.text, .int .i64 ca.n, .int .i64 ca.box.x0, .int .i64 ca.box.y0, .int .i64 ca.box.x1, .int .i64 ca.box.y1, .slice a1 m1 p1, .int .i64 cb.op, str cb.text, .int .i64 cb.n, .int .i64 cb.box.x0, .int .i64 cb.box.y0, .int .i64 cb.box.x1, .int .i64 cb.box.y1, .slice a2 m2 p2, .int .i64 va].toList ∧ Hid (V.heap[w.heap.size]? = some (.cells #[str nm, .int .i64 prio, .int .i64 wo, .int .i64 ca.op, str ca.text, .int .i64 ca.n, .int .i64 ca.box.x0, .int .i64 ca.box.y0, .int .i64 ca.box.x1, .int .i64 ca.box.y1, .slice a1 m1 p1, .int .i64 cb.op, str cb.text, .int .i64 cb.n, .int .i64 cb.box.x0, .int .i64 cb.box.y0, .int .i64 cb.box.x1, .int .i64 cb.box.y1, .slice a2 m2 p2, .int .i64 va] 42 (0, 0))) ∧ Hid (∃ y, V.heap[w.heap.size + 1]? = some (.cells #[.bool y] 4 (0, 0))) ∧ Hid (Kp w V none) ∧ Hid (TreeB (w.heap.size + 4) V ca (.slice a1 m1 p1)) ∧ Hid (TreeB (w.heap.size + 4) V cb (.slice a2 m2 p2)) ∧ Hid (V.heap[w.heap.size + 1 + 1 + 1]? = some (.cells #[.slice ao 0 cap] 119 (0, 0)))) (by kernel_rfl) ?_ (fun hHeld => ?_)
          ·exact ⟨ckr HB.out ((Kp.refl wc none).drew) (by simp) 2 rfl, ckr HRB.out ((Kp.refl wc none).drew) (by simp) 0 rfl, range_blk (res_kept HB.out ((Kp.refl wc none).drew) (by simp)), Lib.hid (res_kept HB.out ((Kp.refl wc none).drew) (by simp)), Lib.hid ⟨false, res_kept hx.out ((Kp.refl wc none).drew) (by simp)⟩, Lib.hid (hk.out.trans ((Kp.refl wc none).drew)), Lib.hid (hta.out.keep ((Kp.refl wc none).drew)), Lib.hid (htb.out.keep ((Kp.refl wc none).drew)), Lib.hid (res_kept HRB.out ((Kp.refl wc none).drew) (by simp))⟩
          refine wpAnyH_take (i := 0) rfl (by kernel_rfl) (by kernel_rfl) (by kernel_rfl) (fun c a w h => put52 a _ _ c w (by decide) (by decide) h) (yieldsIf_load_mid (by rfl) _ _ rfl w.heap.size 0 rfl #[str nm, .int .i64 prio, .int .i64 wo, .int .i64 ca.op, str ca.text, .int .i64 ca.n, .int .i64 ca.box.x0, .int .i64 ca.box.y0, .int .i64 ca.box.x1, .int .i64 ca.box.y1, .slice a1 m1 p1, .int .i64 cb.op, str cb.text, .int .i64 cb.n, .int .i64 cb.box.x0, .int .i64 cb.box.y0, .int .i64 cb.box.x1, .int .i64 cb.box.y1, .slice a2 m2 p2, .int .i64 va].toList _ (fun _ h => h.2.2.1) Tryz.underlying42 rfl info42) (by assumption) ?_
          try simp only [Act.put, sm]
          refine tkH 1 rfl ?_ (hQ := fun c a w h => put52 a _ _ c w (by decide) (by decide) h)
          try simp only [Act.put, sm]
          refine tkH 2 rfl ?_ (hQ := fun c a w h => put52 a _ _ c w (by decide) (by decide) h)
          try simp only [Act.put, sm]
          refine tkH 3 rfl ?_ (hQ := fun c a w h => put52 a _ _ c w (by decide) (by decide) h)
          try simp only [Act.put, sm]
          refine tkH 4 rfl ?_ (hQ := fun c a w h => put52 a _ _ c w (by decide) (by decide) h)
          try simp only [Act.put, sm]
          refine tkH 5 rfl ?_ (hQ := fun c a w h => put52 a _ _ c w (by decide) (by decide) h)
          try simp only [Act.put, sm]
          refine tkH 6 rfl ?_ (hQ := fun c a w h => put52 a _ _ c w (by decide) (by decide) h)
          try simp only [Act.put, sm]
          refine tkH 7 rfl ?_ (hQ := fun c a w h => put52 a _ _ c w (by decide) (by decide) h)
          try simp only [Act.put, sm]
          refine tkH 8 rfl ?_ (hQ := fun c a w h => put52 a _ _ c w (by decide) (by decide) h)
          try simp only [Act.put, sm]
          refine tkH 9 rfl ?_ (hQ := fun c a w h => put52 a _ _ c w (by decide) (by decide) h)
          try simp only [Act.put, sm]
          refine tkH 10 rfl ?_ (hQ := fun c a w h => put52 a _ _ c w (by decide) (by decide) h)
          try simp only [Act.put, sm]
          refine tkH 11 rfl ?_ (hQ := fun c a w h => put52 a _ _ c w (by decide) (by decide) h)
          try simp only [Act.put, sm]
          refine wpAnyH_ready (rs := [12]) (by kernel_rfl) (by simp) ?_
          refine AllReadyH.cons (o := _) rfl (fun K hK => ?_) AllReadyH.nil
          refine Eq.mpr (if_pos (by rfl)) ?_
          refine wp_store_blk 42 _ _ rfl w.heap.size _ 42 hHeld.2.2.2.1.out #[str nm, .int .i64 prio, .int .i64 wo, .int .i64 ca.op, str ca.text, .int .i64 ca.n, .int .i64 ca.box.x0, .int .i64 ca.box.y0, .int .i64 ca.box.x1, .int .i64 ca.box.y1, .slice a1 m1 p1, .int .i64 cb.op, str cb.text, .int .i64 cb.n, .int .i64 cb.box.x0, .int .i64 cb.box.y0, .int .i64 cb.box.x1, .int .i64 cb.box.y1, .slice a2 m2 p2, .int .i64 va] rfl rfl info42 rfl (by simp [Value.oneCell']) (fun V hV hkV => ?_)
          obtain ⟨_, _, _, _, hY, hKV, hA, hB, hRB⟩ := hHeld
          refine hK.out _ _ ?_ (fun hHeld => ?_)
          ·obtain ⟨y, hY⟩ := hY.out
           have hRB2 := res_kept hRB.out hkV (by intro q hq; injection hq with hq; omega)
           exact ⟨hcell hV 2 rfl, hcell hRB2 0 rfl, range_blk hV, Lib.hid hV, Lib.hid ⟨y, res_kept hY hkV (by intro q hq; injection hq with hq; omega)⟩, Lib.hid (Kp.row hKV.out hkV (by intro q hq; injection hq with hq; omega)), Lib.hid (hA.out.row hkV (fun q hq hs => by injection hq with hq; omega)), Lib.hid (hB.out.row hkV (fun q hq hs => by injection hq with hq; omega)), Lib.hid hRB2⟩
          clear hV hkV hY hKV hA hB hRB hK K
          try simp only [Act.put, sm]
          refine wpAnyH_ready (rs := [13]) (by kernel_rfl) (by simp) ?_
          refine AllReadyH.cons (o := _) rfl (fun K hK => ?_) AllReadyH.nil
          obtain ⟨_, _, _, hBB, hY, hKV, hA, hB, hRB⟩ := hHeld
          obtain ⟨y, hY⟩ := hY.out
          have HY := Lib.hid hY
          have hcy : V.cell? ⟨w.heap.size + 1, 0, none⟩ = some (.bool y) := hcell hY 0 rfl
          have hfy := Lib.frozen_of_heap hY 0
          clear hY
          go_simp
          have kk : Kp V (V.setCell ⟨w.heap.size + 1, 0, none⟩ (.bool true)) (some (w.heap.size + 1)) := (Kp.refl V _).set _
          have hBX := res_kept hBB.out kk (by intro q hq; injection hq with hq; omega)
          have hRX := res_kept hRB.out kk (by intro q hq; injection hq with hq; omega)
          have hYX := heap_set (o := 0) (v := .bool true) HY.out
          have hKX := Kp.row hKV.out kk (by intro q hq; injection hq with hq; omega)
          have hAX := hA.out.row kk (fun q hq hs => by injection hq with hq; omega)
          have hBX2 := hB.out.row kk (fun q hq hs => by injection hq with hq; omega)
          refine hK.out _ _ ⟨hcell hBX 2 rfl, hcell hRX 0 rfl, range_blk hBX, Lib.hid hBX, Lib.hid ⟨_, hYX⟩, Lib.hid hKX, Lib.hid hAX, Lib.hid hBX2, Lib.hid hRX⟩ (fun hHeld => ?_)
          clear hHeld hK K
          refine wpAnyH_done (by kernel_rfl) ?_ _
          go_wp2_with fail
          exact door_some (q := ⟨nm, prio, wo, va, ca, cb⟩) (a1 := a1) (m1 := m1) (p1 := p1) (a2 := a2) (m2 := m2) (p2 := p2) _ rfl rfl hBX hYX hKX (by rw [hl.out]; rw [if_pos ⟨h0, by have := HRN.out; simpa using this⟩]; rfl) (fun _ => ⟨hAX.mono (fun b _ hb => by omega), hBX2.mono (fun b _ hb => by omega)⟩)
end Go.Proofs.YtnchipahdfbliaaGreatDoor
