/- The program's reader of conditions: cond and what stands under 'or'. Conditions: those of the reader.
  The two maps of factor: literals with strings for keys, and what is looked up in them. No condition. -/
import Derived.Test.YtnchipahdfbliaaGreatDoorFa
import Derived.MapKept

namespace Go.Proofs.YtnchipahdfbliaaGreatDoor
open Go.RowKit

section
variable (rd : Ru.Ws → Option (Ru.Cond × Ru.Ws)) (hless : Ru.Less rd) (N R : Nat) (hR : 8 ≤ R) (hN9 : N ≤ 1000000000000)
  (hrd : ∀ (u : World) (vs : Ru.Ws), Env u → RdAt R u vs → vs.length ≤ N → Calls Tryz.prog 104 #[.pointer (some ⟨R, 0, none⟩)] u (Out (rd vs) (fun c w' v => CondV u.heap.size c w' v) R u))
include hless hR hN9 hrd
set_option maxHeartbeats 4000000 in
set_option maxRecDepth 100000 in
theorem cond1_any (B : Nat) (w : World) (he : Env w) (ws : Ru.Ws) (h : RdAt R w ws) (hN : ws.length ≤ N) (hexB : BoxAt B R w) :
  Calls Tryz.prog 103 #[.pointer (some ⟨B, 0, none⟩)] w (Out (Ru.lst Ru.kwAnd 9 rd ws) (fun c w' v => CondV w.heap.size c w' v) R w) := by
 have hRw := h.lt
 have hK1 : Kp w (w.alloc (.cells #[.int .i64 0, .string ⟨#[]⟩, .int .i64 0, .int .i64 0, .int .i64 0, .int .i64 0, .int .i64 0, .slice none 0 0] 40)) none := (Kp.refl _ _).alloc _
 have A1 := list_104 Ru.kwAnd (by decide) 9 rd hless N R hR hN9 _ (he.kp0 hK1) ws (h.keep hK1) hN hrd
 have hb := hexB.1
 have hbl := lt_of_block hb
 have cb : w.cell? ⟨B, 0, none⟩ = some (.pointer (some ⟨R, 0, none⟩)) := by have := Lib.cell_of_heap hb 0; simpa using this
 have HB0 := Lib.hid (heap_alloc_new w (.cells #[.int .i64 0, .string ⟨#[]⟩, .int .i64 0, .int .i64 0, .int .i64 0, .int .i64 0, .int .i64 0, .slice none 0 0] 40))
 have HK1 := Lib.hid hK1
 obtain ⟨res, hres⟩ : ∃ res, Ru.lst Ru.kwAnd 9 rd ws = res := ⟨_, rfl⟩
 rw [hres] at A1 ⊢
 clear he h hexB hb hK1 hrd hless hres
 cases res with
 | none =>
  have A2 : Calls Tryz.prog 102 #[.pointer (some ⟨R, 0, none⟩), .string ⟨#[97, 110, 100]⟩, .int .i64 9, .func (.func 104) #[.pointer (some ⟨R, 0, none⟩)] #[]] (w.alloc (.cells #[.int .i64 0, .string ⟨#[]⟩, .int .i64 0, .int .i64 0, .int .i64 0, .int .i64 0, .int .i64 0, .slice none 0 0] 40)) fun e w' => e = .panicked badP ∧ Kp (w.alloc (.cells #[.int .i64 0, .string ⟨#[]⟩, .int .i64 0, .int .i64 0, .int .i64 0, .int .i64 0, .int .i64 0, .slice none 0 0] 40)) w' (some R) := A1
  clear A1
  go_enter Tryz.func103, Tryz.ntmps103
  go_wp2_with (go_at_call 102; refine A2.mono ?_; rintro e w1 ⟨rfl, hk⟩)
  exact ⟨rfl, rfl, (HK1.out.weak _).trans hk⟩
 | some q =>
  obtain ⟨c, r⟩ := q
  have A2 : Calls Tryz.prog 102 #[.pointer (some ⟨R, 0, none⟩), .string ⟨#[97, 110, 100]⟩, .int .i64 9, .func (.func 104) #[.pointer (some ⟨R, 0, none⟩)] #[]] (w.alloc (.cells #[.int .i64 0, .string ⟨#[]⟩, .int .i64 0, .int .i64 0, .int .i64 0, .int .i64 0, .int .i64 0, .slice none 0 0] 40)) fun e w' => (∃ a1 m1 p1, e = .returned (.agg #[.int .i64 c.op, str c.text, .int .i64 c.n, .int .i64 c.box.x0, .int .i64 c.box.y0, .int .i64 c.box.x1, .int .i64 c.box.y1, .slice a1 m1 p1]) ∧ Hid (TreeB (w.heap.size + 1) w' c (.slice a1 m1 p1))) ∧ Hid (RdAt R w' r) ∧ Hid (Kp (w.alloc (.cells #[.int .i64 0, .string ⟨#[]⟩, .int .i64 0, .int .i64 0, .int .i64 0, .int .i64 0, .int .i64 0, .slice none 0 0] 40)) w' (some R)) := A1.mono fun e w' ⟨⟨v, e1, ⟨a, m, p, e2, h3⟩, h4⟩, h5⟩ => ⟨⟨a, m, p, by rw [e1, e2], Lib.hid (by simpa using h3)⟩, Lib.hid h4, Lib.hid h5⟩
  clear A1
  go_enter Tryz.func103, Tryz.ntmps103
  go_wp2_with (first | (go_at_call 102; refine A2.mono ?_; rintro e w1 ⟨⟨a1, m1, p1, rfl, ht⟩, hr, hk⟩; have HBV := Lib.hid (res_kept HB0.out hk.out (by intro q hq; injection hq with hq; omega))) | (refine wpList_store_blk (by rfl) 40 _ _ (by rfl) w.heap.size _ 40 HBV.out #[.int .i64 c.op, str c.text, .int .i64 c.n, .int .i64 c.box.x0, .int .i64 c.box.y0, .int .i64 c.box.x1, .int .i64 c.box.y1, .slice a1 m1 p1] (by rfl) (by rfl) info40s (by rfl) (by simp [Value.oneCell']) (fun V hV hkV => ?_); have HV := Lib.hid hV; have HKV := Lib.hid hkV; clear hV hkV))
  refine bodyPost_ret (results_cell_row (p := 1) (ty := 40) (by rfl) _ V w.heap.size 40 #[.int .i64 c.op, str c.text, .int .i64 c.n, .int .i64 c.box.x0, .int .i64 c.box.y0, .int .i64 c.box.x1, .int .i64 c.box.y1, .slice a1 m1 p1] (0, 0) _ (by rfl) HV.out Tryz.underlying40 (by rfl) info40s) (by rfl) ?_
  exact ⟨⟨_, rfl, ⟨a1, m1, p1, rfl, (ht.out.row HKV.out (fun r hr hs => by injection hr with hr; omega)).mono (fun b _ hb => by omega)⟩, hr.out.far HKV.out hRw⟩, Kp.of_own ((HK1.out.weak _).trans hk.out) HKV.out (Nat.le_refl _)⟩
set_option maxHeartbeats 4000000 in
set_option maxRecDepth 100000 in
theorem cond_any (w : World) (he : Env w) (ws : Ru.Ws) (h : RdAt R w ws) (hN : ws.length ≤ N) :
  Calls Tryz.prog 78 #[.pointer (some ⟨R, 0, none⟩)] w (Out (Ru.orc rd ws) (fun c w' v => CondV w.heap.size c w' v) R w) := by
 have hRw := h.lt
 have hK0 : Kp w (w.alloc (.cells #[.pointer (some ⟨R, 0, none⟩)] 117)) none := (Kp.refl _ _).alloc _
 have hK1 : Kp w ((w.alloc (.cells #[.pointer (some ⟨R, 0, none⟩)] 117)).alloc (.cells #[.int .i64 0, .string ⟨#[]⟩, .int .i64 0, .int .i64 0, .int .i64 0, .int .i64 0, .int .i64 0, .slice none 0 0] 40)) none := hK0.alloc _
 have hexB : BoxAt w.heap.size R ((w.alloc (.cells #[.pointer (some ⟨R, 0, none⟩)] 117)).alloc (.cells #[.int .i64 0, .string ⟨#[]⟩, .int .i64 0, .int .i64 0, .int .i64 0, .int .i64 0, .int .i64 0, .slice none 0 0] 40)) := ⟨res_kept (heap_alloc_new w _) ((Kp.refl _ none).alloc _) (by simp), by omega⟩
 have A1 := list_103 Ru.kwOr (by decide) 10 (Ru.lst Ru.kwAnd 9 rd) (Ru.lst_less hless) N R hR hN9 _ (he.kp0 hK1) ws (h.keep hK1) hN w.heap.size hexB (fun u vs hu hru hvN hbu => cond1_any rd hless N R hR hN9 hrd w.heap.size u hu vs hru hvN hbu)
 have HB0 : Hid (((w.alloc (.cells #[.pointer (some ⟨R, 0, none⟩)] 117)).alloc (.cells #[.int .i64 0, .string ⟨#[]⟩, .int .i64 0, .int .i64 0, .int .i64 0, .int .i64 0, .int .i64 0, .slice none 0 0] 40)).heap[w.heap.size + 1]? = some (.cells #[.int .i64 0, .string ⟨#[]⟩, .int .i64 0, .int .i64 0, .int .i64 0, .int .i64 0, .int .i64 0, .slice none 0 0] 40 (0, 0))) := Lib.hid (by have := heap_alloc_new (w.alloc (.cells #[.pointer (some ⟨R, 0, none⟩)] 117)) (.cells #[.int .i64 0, .string ⟨#[]⟩, .int .i64 0, .int .i64 0, .int .i64 0, .int .i64 0, .int .i64 0, .slice none 0 0] 40); simpa using this)
 have HK1 := Lib.hid hK1
 unfold Ru.orc
 obtain ⟨res, hres⟩ : ∃ res, Ru.lst Ru.kwOr 10 (Ru.lst Ru.kwAnd 9 rd) ws = res := ⟨_, rfl⟩
 rw [hres] at A1 ⊢
 clear he h hexB hK1 hK0 hrd hless hres
 cases res with
 | none =>
  have A2 : Calls Tryz.prog 102 #[.pointer (some ⟨R, 0, none⟩), .string ⟨#[111, 114]⟩, .int .i64 10, .func (.func 103) #[] #[.pointer (some ⟨w.heap.size, 0, none⟩)]] ((w.alloc (.cells #[.pointer (some ⟨R, 0, none⟩)] 117)).alloc (.cells #[.int .i64 0, .string ⟨#[]⟩, .int .i64 0, .int .i64 0, .int .i64 0, .int .i64 0, .int .i64 0, .slice none 0 0] 40)) fun e w' => e = .panicked badP ∧ Kp ((w.alloc (.cells #[.pointer (some ⟨R, 0, none⟩)] 117)).alloc (.cells #[.int .i64 0, .string ⟨#[]⟩, .int .i64 0, .int .i64 0, .int .i64 0, .int .i64 0, .int .i64 0, .slice none 0 0] 40)) w' (some R) := A1
  clear A1
  go_enter Tryz.func78, Tryz.ntmps78
  go_wp2_with (go_at_call 102; refine A2.mono ?_; rintro e w1 ⟨rfl, hk⟩)
  exact ⟨rfl, rfl, (HK1.out.weak _).trans hk⟩
 | some q =>
  obtain ⟨c, r⟩ := q
  have A2 : Calls Tryz.prog 102 #[.pointer (some ⟨R, 0, none⟩), .string ⟨#[111, 114]⟩, .int .i64 10, .func (.func 103) #[] #[.pointer (some ⟨w.heap.size, 0, none⟩)]] ((w.alloc (.cells #[.pointer (some ⟨R, 0, none⟩)] 117)).alloc (.cells #[.int .i64 0, .string ⟨#[]⟩, .int .i64 0, .int .i64 0, .int .i64 0, .int .i64 0, .int .i64 0, .slice none 0 0] 40)) fun e w' => (∃ a1 m1 p1, e = .returned (.agg #[.int .i64 c.op, str c.text, .int .i64 c.n, .int .i64 c.box.x0, .int .i64 c.box.y0, .int .i64 c.box.x1, .int .i64 c.box.y1, .slice a1 m1 p1]) ∧ Hid (TreeB (w.heap.size + 1 + 1) w' c (.slice a1 m1 p1))) ∧ Hid (RdAt R w' r) ∧ Hid (Kp ((w.alloc (.cells #[.pointer (some ⟨R, 0, none⟩)] 117)).alloc (.cells #[.int .i64 0, .string ⟨#[]⟩, .int .i64 0, .int .i64 0, .int .i64 0, .int .i64 0, .int .i64 0, .slice none 0 0] 40)) w' (some R)) := A1.mono fun e w' ⟨⟨v, e1, ⟨a, m, p, e2, h3⟩, h4⟩, h5⟩ => ⟨⟨a, m, p, by rw [e1, e2], Lib.hid (by simpa using h3)⟩, Lib.hid h4, Lib.hid h5⟩
  clear A1
  go_enter Tryz.func78, Tryz.ntmps78
  go_wp2_with (first | (go_at_call 102; refine A2.mono ?_; rintro e w1 ⟨⟨a1, m1, p1, rfl, ht⟩, hr, hk⟩; have HBV := Lib.hid (res_kept HB0.out hk.out (by intro q hq; injection hq with hq; omega))) | (refine wpList_store_blk (by rfl) 40 _ _ (by rfl) (w.heap.size + 1) _ 40 HBV.out #[.int .i64 c.op, str c.text, .int .i64 c.n, .int .i64 c.box.x0, .int .i64 c.box.y0, .int .i64 c.box.x1, .int .i64 c.box.y1, .slice a1 m1 p1] (by rfl) (by rfl) info40s (by rfl) (by simp [Value.oneCell']) (fun V hV hkV => ?_); have HV := Lib.hid hV; have HKV := Lib.hid hkV; clear hV hkV))
  refine bodyPost_ret (results_cell_row (p := 2) (ty := 40) (by rfl) _ V (w.heap.size + 1) 40 #[.int .i64 c.op, str c.text, .int .i64 c.n, .int .i64 c.box.x0, .int .i64 c.box.y0, .int .i64 c.box.x1, .int .i64 c.box.y1, .slice a1 m1 p1] (0, 0) _ (by rfl) HV.out Tryz.underlying40 (by rfl) info40s) (by rfl) ?_
  exact ⟨⟨_, rfl, ⟨a1, m1, p1, rfl, (ht.out.row HKV.out (fun r hr hs => by injection hr with hr; omega)).mono (fun b _ hb => by omega)⟩, hr.out.far HKV.out (by omega)⟩, Kp.of_own ((HK1.out.weak _).trans hk.out) HKV.out (by omega)⟩
end
end Go.Proofs.YtnchipahdfbliaaGreatDoor

namespace Go.Proofs.YtnchipahdfbliaaGreatDoor
open Go.RowKit

/-- An entry. -/
def ent (k : List UInt8) (v : Int) (n : Nat) : MapEntry := { key := str k, val := .int .i64 v, born := n }
theorem set_last (w : World) (o o' : Obj) : ({ w.alloc o with heap := (w.alloc o).heap.setIfInBounds w.heap.size o' } : World) = w.alloc o' := by
 show ({ w with heap := (w.heap.push o).setIfInBounds w.heap.size o' } : World) = { w with heap := w.heap.push o' }
 congr 1
 apply Array.ext_getElem?
 intro i
 rw [Array.getElem?_setIfInBounds, Array.getElem?_push, Array.getElem?_push]
 by_cases h : w.heap.size = i
 ·subst h; simp
 ·have h' : ¬ i = w.heap.size := fun e => h e.symm
  simp [h, h']
theorem run_insert {t kt et : TypeId} (ht : Tryz.prog.underlying t = some (.map kt et)) (hk : Tryz.prog.underlying kt = some .string) (w : World) (es : Array MapEntry) (n : Nat) (k : List UInt8) (v : Int) (hf : Instr.findNow .string (str k) es.toList 0 = some none) :
  (Instr.mapUpdate t (.map (some w.heap.size)) (str k) (.int .i64 v)).run Tryz.prog (w.alloc (.map es n)) = .ok () (w.alloc (.map (es.push (ent k v n)) (n + 1))) := by
 have hb := heap_alloc_new w (.map es n)
 have hc : (Instr.checkKey false 10000 kt (str k)).run Tryz.prog (w.alloc (.map es n)) = .ok () (w.alloc (.map es n)) := MapKept.run_checkKey (k := str k) hk (by simp [MapKept.IsKey]) false 9999
 simp only [Instr.mapUpdate, Sem.run_bind, run_underlying ht, MapKept.run_getObj_map hb, hc, MapKept.run_findKey hk hf, Result.andThen]
 rw [MapKept.run_setObj_map _ hb, set_last]
 rfl
theorem run_look {t kt et : TypeId} (ht : Tryz.prog.underlying t = some (.map kt et)) (hk : Tryz.prog.underlying kt = some .string) (hz : ∀ w, (zeroValue et).run Tryz.prog w = .ok (.int .i64 0) w) (w : World) (r : Nat) (es : Array MapEntry) (n : Nat) (x : List UInt8) (hb : w.heap[r]? = some (.map es n)) (a : Option (Nat × Value)) (hf : Instr.findNow .string (str x) es.toList 0 = some a) :
  (Instr.lookup t (.map (some r)) (str x) true).run Tryz.prog w = .ok (.tuple (match a with | some p => #[p.2, .bool true] | none => #[.int .i64 0, .bool false])) w := by
 have hc : ∀ e, (Instr.checkKey e 10000 kt (str x)).run Tryz.prog w = .ok () w := fun e => MapKept.run_checkKey (k := str x) hk (by simp [MapKept.IsKey]) e 9999
 cases a with
 | none => simp [Instr.lookup, Sem.run_bind, run_underlying ht, MapKept.run_getObj_map hb, hc, MapKept.run_findKey hk hf, Result.andThen, hz]
 | some p => simp [Instr.lookup, Sem.run_bind, run_underlying ht, MapKept.run_getObj_map hb, hc, MapKept.run_findKey hk hf, Result.andThen]
theorem find_cons (x k : List UInt8) (v : Int) (n i : Nat) (es : List MapEntry) : Instr.findNow .string (str x) (ent k v n :: es) i = if x = k then some (some (i, .int .i64 v)) else Instr.findNow .string (str x) es (i + 1) := by
 have h : Instr.sameNow .string (str x) (str k) = some (decide (x = k)) := by
  simp only [Instr.sameNow]
  congr 1
  show (x.toArray == k.toArray) = _
  rw [Bool.eq_iff_iff, beq_iff_eq, decide_eq_true_iff]
  exact ⟨fun e => by simpa using e, fun e => by rw [e]⟩
 rw [Instr.findNow, show (ent k v n).key = str k from rfl, h]
 by_cases e : x = k
 ·rw [decide_eq_true e, if_pos e]; rfl
 ·rw [decide_eq_false e, if_neg e]
theorem und158 : Tryz.prog.underlying 158 = some (.map 9 3) := by kernel_rfl
end Go.Proofs.YtnchipahdfbliaaGreatDoor
