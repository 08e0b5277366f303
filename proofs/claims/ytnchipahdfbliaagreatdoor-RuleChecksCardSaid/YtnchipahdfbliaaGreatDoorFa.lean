/- The program's lists of conditions with a word between them: (*reader).list, at a method value and at a closure. Conditions: those of the reader. -/
import Derived.Test.YtnchipahdfbliaaGreatDoorTb
import Derived.Deep.LoopGhost
import Derived.Outline
namespace Go.Proofs.YtnchipahdfbliaaGreatDoor
open Go.RowKit

theorem info40 : (Tryz.prog.info? 40).map (fun i => (i.zero, i.size, i.bytes)) = some (some (.agg #[.int .i64 0, .string ⟨#[]⟩, .int .i64 0, .int .i64 0, .int .i64 0, .int .i64 0, .int .i64 0, .slice none 0 0]), 8, 88) := by kernel_rfl
theorem info40s : (Tryz.prog.info? 40).map (·.size) = some 8 := by kernel_rfl
/-- Block B holds a pointer to the reader in block R. -/
def BoxAt (B R : Nat) (w : World) : Prop := w.heap[B]? = some (.cells #[.pointer (some ⟨R, 0, none⟩)] 117 (0, 0)) ∧ B ≠ R
theorem BoxAt.keep {B R : Nat} {w w' : World} (h : BoxAt B R w) (k : Kp w w' (some R)) : BoxAt B R w' := ⟨res_kept h.1 k (by intro q hq; injection hq with hq; subst hq; exact fun e => h.2 e.symm), h.2⟩
/-- A condition that a function of the reader returns. -/
def CondV (base : Nat) (c : Ru.Cond) (w : World) (v : Value) : Prop := ∃ a m p, v = .agg #[.int .i64 c.op, str c.text, .int .i64 c.n, .int .i64 c.box.x0, .int .i64 c.box.y0, .int .i64 c.box.x1, .int .i64 c.box.y1, .slice a m p] ∧ TreeB base w c (.slice a m p)
theorem wpList_store_blk {P : Program} {ops : Array Oper} {rest : List Oper} {op : Oper} {a : Act} {w : World} {Q : Exit → Act → World → Prop} (hgd : op.guard = none) (ty : TypeId) (x y : Operand) (ho : op.op = .store ty x y)
  (g : Nat) (old : Array Value) (t : TypeId) (hg : w.heap[g]? = some (.cells old t (0, 0))) (c' : Array Value) (hx : a.eval x = .pointer (some ⟨g, 0, none⟩)) (hy : a.eval y = .agg c') (hi : (P.info? ty).map (·.size) = some c'.size) (hs : old.size = c'.size) (h1 : ∀ v ∈ c'.toList, v.oneCell' = true)
  (h : ∀ V, V.heap[g]? = some (.cells c' t (0, 0)) → Kp w V (some g) → wpList P ops Q rest (a.put op.dst undef) V) : wpList P ops Q (op :: rest) a w := by
 refine wpList_plain hgd fun K hK => ?_
 unfold Oper.wp execOp
 simp only [ho, hx, hy, Instr.storeAt, Instr.sureAddr, Sem.run_bind, Sem.run_pure, Result.andThen_ok, run_storeVar_row w g t ty old c' hg hi hs (Array.all_eq_true_iff_forall_mem.2 (fun v hv => h1 v (by simpa using hv)))]
 have hlt := lt_of_block hg
 refine hK _ _ (h _ ?_ ⟨rfl, rfl, rfl, by simp [World.setRow], fun k _ hr => ?_⟩)
 ·have h' : w.heap[g] = .cells old t (0, 0) := by simpa [Array.getElem?_eq_getElem hlt] using hg
  show (w.heap.modify g _)[g]? = _
  rw [Array.getElem?_eq_getElem (by simpa using hlt), Array.getElem_modify_self, h']
 ·show (w.heap.modify g _)[k]? = _
  rw [Array.getElem?_modify, if_neg (fun e => hr (by rw [e]))]
theorem own_one {w : World} {base : Nat} {c : Ru.Cond} {v : Value} (hb : base ≤ w.heap.size) : (w.alloc (.cells (cC (c, v)).toArray 40)).ownsRow base 40 8 (.slice (some ⟨w.heap.size, 0, none⟩) 1 1) [(c, v)].length ([(c, v)].flatMap cC) :=
 ⟨rfl, .inr ⟨w.heap.size, 1, (cC (c, v)).toArray, rfl, hb, heap_alloc_new w _, Nat.le_refl _, by unfold maxLen; omega, rfl, rfl⟩⟩
theorem own_base {w : World} {base n : Nat} {v : Value} (ps : List (Ru.Cond × Value)) {row : List Value} (h : w.ownsRow base 40 8 v n row) : ∀ a m c, v = .slice (some a) m c → ps ≠ [] → base ≤ a.block := fun a m c e _ => (h.lt a.block (by rw [e]; rfl)).1
theorem own_row {w w' : World} {base size n r : Nat} {e : TypeId} {v : Value} {xs : List Value} (h : w.ownsRow base e size v n xs) (k : Kp w w' (some r)) (hr : r < base) : w'.ownsRow base e size v n xs := h.kept k (by
 cases q : v.ownBlock with
 | none => exact .inl rfl
 | some b => exact .inr (by have := (h.lt b q).1; intro e2; injection e2 with e2; omega))

set_option maxHeartbeats 16000000 in
set_option maxRecDepth 100000 in
theorem list_104 (word : List UInt8) (hwne : word ≠ []) (op : Int) (rd : Ru.Ws → Option (Ru.Cond × Ru.Ws)) (hless : Ru.Less rd) (N R : Nat) (hR : 8 ≤ R) (hN9 : N ≤ 1000000000000) (w : World) (he : Env w) (ws : Ru.Ws) (h : RdAt R w ws) (hN : ws.length ≤ N)
  (hrd : ∀ (u : World) (vs : Ru.Ws), Env u → RdAt R u vs → vs.length ≤ N → Calls Tryz.prog 104 #[.pointer (some ⟨R, 0, none⟩)] u (Out (rd vs) (fun c w' v => CondV u.heap.size c w' v) R u)) :
  Calls Tryz.prog 102 #[.pointer (some ⟨R, 0, none⟩), str word, .int .i64 op, .func (.func 104) #[.pointer (some ⟨R, 0, none⟩)] #[]] w (Out (Ru.lst word op rd ws) (fun c w' v => CondV w.heap.size c w' v) R w) := by
 have hRw := h.lt
 have HE := Lib.hid he
 have HRD := Lib.hid hrd
 have HLS := Lib.hid hless
 have HWN := Lib.hid hwne
 have hK1 : Kp w (w.alloc (.cells #[.int .i64 0, .string ⟨#[]⟩, .int .i64 0, .int .i64 0, .int .i64 0, .int .i64 0, .int .i64 0, .slice none 0 0] 40)) none := (Kp.refl _ _).alloc _
 have HO : Hid (Ru.lst word op rd ws = none → ∀ V, Kp w V (some R) → Out (Ru.lst word op rd ws) (fun c w' v => CondV w.heap.size c w' v) R w (.panicked badP) V) := Lib.hid fun h0 V hV => by rw [h0]; exact ⟨rfl, hV⟩
 obtain ⟨res, hres⟩ : ∃ res, Ru.lst word op rd ws = res := ⟨_, rfl⟩
 rw [hres] at HO
 rw [hres]
 have HRES := Lib.hid hres
 have h1 := h.keep hK1
 have HE1 := Lib.hid (he.kp0 hK1)
 have A1 := hrd _ ws HE1.out h1 hN
 have HK1 := Lib.hid hK1
 clear he hrd hless hwne hK1 h h1 hres
 cases hd : rd ws with
 | none =>
  rw [hd] at A1
  have A2 : Calls Tryz.prog 104 #[.pointer (some ⟨R, 0, none⟩)] (w.alloc (.cells #[.int .i64 0, .string ⟨#[]⟩, .int .i64 0, .int .i64 0, .int .i64 0, .int .i64 0, .int .i64 0, .slice none 0 0] 40)) fun e w' => e = .panicked badP ∧ Kp (w.alloc (.cells #[.int .i64 0, .string ⟨#[]⟩, .int .i64 0, .int .i64 0, .int .i64 0, .int .i64 0, .int .i64 0, .slice none 0 0] 40)) w' (some R) := A1
  have HN0 : Hid (res = none) := Lib.hid (by rw [← HRES.out]; unfold Ru.lst; rw [hd])
  clear A1 hd
  go_enter Tryz.func102, Tryz.ntmps102
  go_wp2_with fail
  refine A2.mono ?_
  rintro e w1 ⟨rfl, hk⟩
  exact ⟨rfl, HO.out HN0.out _ ((HK1.out.weak _).trans hk)⟩
 | some q =>
  obtain ⟨c1, r1⟩ := q
  rw [hd] at A1
  have A2 : Calls Tryz.prog 104 #[.pointer (some ⟨R, 0, none⟩)] (w.alloc (.cells #[.int .i64 0, .string ⟨#[]⟩, .int .i64 0, .int .i64 0, .int .i64 0, .int .i64 0, .int .i64 0, .slice none 0 0] 40)) fun e w' => (∃ a1 m1 p1, e = .returned (.agg #[.int .i64 c1.op, str c1.text, .int .i64 c1.n, .int .i64 c1.box.x0, .int .i64 c1.box.y0, .int .i64 c1.box.x1, .int .i64 c1.box.y1, .slice a1 m1 p1]) ∧ Hid (TreeB (w.heap.size + 1) w' c1 (.slice a1 m1 p1))) ∧ Hid (RdAt R w' r1) ∧ Hid (Kp (w.alloc (.cells #[.int .i64 0, .string ⟨#[]⟩, .int .i64 0, .int .i64 0, .int .i64 0, .int .i64 0, .int .i64 0, .slice none 0 0] 40)) w' (some R)) := A1.mono fun e w' ⟨⟨v, e1, ⟨a, m, p, e2, h3⟩, h4⟩, h5⟩ => ⟨⟨a, m, p, by rw [e1, e2], Lib.hid (by simpa using h3)⟩, Lib.hid h4, Lib.hid h5⟩
  have HLS0 : Hid (res = Ru.more word op rd r1.length [c1] r1) := Lib.hid (by rw [← HRES.out]; unfold Ru.lst; rw [hd])
  have hrl : r1.length ≤ N := Nat.le_trans (HLS.out _ _ _ hd) hN
  clear A1 hd
  go_enter Tryz.func102, Tryz.ntmps102
  go_wp2_with fail
  refine A2.mono ?_
  rintro e w1 ⟨⟨a1, m1, p1, rfl, ht1⟩, hr1, hk1⟩
  have hz1 : w.heap.size + 1 ≤ w1.heap.size := (by have := hk1.out.size; simpa using this)
  go_wp2_with fail
  have HB0 : Hid (∀ V, Kp (w.alloc (.cells #[.int .i64 0, .string ⟨#[]⟩, .int .i64 0, .int .i64 0, .int .i64 0, .int .i64 0, .int .i64 0, .slice none 0 0] 40)) V (some R) → V.heap[w.heap.size]? = some (.cells #[.int .i64 0, .string ⟨#[]⟩, .int .i64 0, .int .i64 0, .int .i64 0, .int .i64 0, .int .i64 0, .slice none 0 0] 40 (0, 0))) := Lib.hid fun V hV => res_kept (heap_alloc_new w _) hV (by intro q hq; injection hq with hq; omega)
  have HKA : Hid (Kp (w.alloc (.cells #[.int .i64 0, .string ⟨#[]⟩, .int .i64 0, .int .i64 0, .int .i64 0, .int .i64 0, .int .i64 0, .slice none 0 0] 40)) (w1.alloc (.cells #[.int .i64 c1.op, str c1.text, .int .i64 c1.n, .int .i64 c1.box.x0, .int .i64 c1.box.y0, .int .i64 c1.box.x1, .int .i64 c1.box.y1, .slice a1 m1 p1] 40)) (some R)) := Lib.hid (hk1.out.alloc _)
  have HOA : Hid ((w1.alloc (.cells #[.int .i64 c1.op, str c1.text, .int .i64 c1.n, .int .i64 c1.box.x0, .int .i64 c1.box.y0, .int .i64 c1.box.x1, .int .i64 c1.box.y1, .slice a1 m1 p1] 40)).ownsRow (w.heap.size + 1) 40 8 (.slice (some ⟨w1.heap.size, 0, none⟩) 1 1) [(c1, Value.slice a1 m1 p1)].length ([(c1, Value.slice a1 m1 p1)].flatMap cC)) := Lib.hid (own_one hz1)
  have HTA : Hid (TreeP (fun b => w.heap.size + 1 ≤ b ∧ some w1.heap.size ≠ some b) (w1.alloc (.cells #[.int .i64 c1.op, str c1.text, .int .i64 c1.n, .int .i64 c1.box.x0, .int .i64 c1.box.y0, .int .i64 c1.box.x1, .int .i64 c1.box.y1, .slice a1 m1 p1] 40)) c1 (.slice a1 m1 p1)) := Lib.hid ((ht1.out.mono (fun b hb h => ⟨h, fun e => by injection e with e; omega⟩)).keep ((Kp.refl w1 none).alloc _))
  have HRA : Hid (RdAt R (w1.alloc (.cells #[.int .i64 c1.op, str c1.text, .int .i64 c1.n, .int .i64 c1.box.x0, .int .i64 c1.box.y0, .int .i64 c1.box.x1, .int .i64 c1.box.y1, .slice a1 m1 p1] 40)) r1) := Lib.hid (hr1.out.keep ((Kp.refl w1 none).alloc _))
  go_loopg [9] r1.length (fun gf lv wr => ∃ (ps : List (Ru.Cond × Value)) (vs : Ru.Ws), ps ≠ [] ∧ ps.length + vs.length ≤ N + 1 ∧ wr.ownsRow (w.heap.size + 1) 40 8 lv ps.length (ps.flatMap cC) ∧ Hid (∀ p ∈ ps, TreeP (fun b => w.heap.size + 1 ≤ b ∧ lv.ownBlock ≠ some b) wr p.1 p.2) ∧ Hid (RdAt R wr vs) ∧ vs.length ≤ N ∧ vs.length ≤ gf ∧ Hid (res = Ru.more word op rd gf (ps.map (·.1)) vs) ∧ Hid (Kp (w.alloc (.cells #[.int .i64 0, .string ⟨#[]⟩, .int .i64 0, .int .i64 0, .int .i64 0, .int .i64 0, .int .i64 0, .slice none 0 0] 40)) wr (some R)))
  case atStart => exact ⟨[(c1, .slice a1 m1 p1)], r1, by simp, by simp; omega, HOA.out, Lib.hid (fun p hp => by rw [List.mem_singleton] at hp; subst hp; exact HTA.out), HRA, hrl, Nat.le_refl _, HLS0, HKA⟩
  case round =>
   obtain ⟨ps, vs, hne, hsum, hown, HT, HR, hvN, hvg, HM, HK⟩ := hrel
   have HOW := Lib.hid hown
   clear hown
   have hzr : w.heap.size + 1 ≤ wr.heap.size := (by have := HK.out.size; simpa using this)
   have HEr : Hid (Env wr) := Lib.hid (HE1.out.kp HK.out (by intro q hq; injection hq with hq; omega))
   have cp := peek_any R wr vs HR.out
   by_cases hhd : vs.head? = some word
   ·obtain ⟨t, rfl⟩ : ∃ t, vs = word :: t := by
     cases vs with
     | nil => cases hhd
     | cons x t => exact ⟨t, by simp at hhd; rw [hhd]⟩
    obtain ⟨g', rfl⟩ : ∃ g', gk = g' + 1 := ⟨gk - 1, by simp at hvg; omega⟩
    have hb : (word == word) = true := by simp
    have cp2 : Calls Tryz.prog 99 #[.pointer (some ⟨R, 0, none⟩)] wr fun e w' => e = .returned (str word) ∧ w' = wr := cp
    have cn := next_any R wr (word :: t) HR.out
    rw [Ru.next_cons HWN.out] at cn
    have cn2 : Calls Tryz.prog 75 #[.pointer (some ⟨R, 0, none⟩)] wr fun e w' => e = .returned (str word) ∧ Hid (RdAt R w' t) ∧ Hid (Kp wr w' (some R)) := cn.mono fun e w' ⟨⟨v, h1, h2, h3⟩, h4⟩ => ⟨by rw [h1, h2], Lib.hid h3, Lib.hid h4⟩
    have htN : t.length ≤ N := by simp at hvN; omega
    have A3 := fun u hu hr (hkx : Kp wr u (some R)) => HRD.out u t hu hr htN
    have hRs : ∀ q, some R = some q → 8 ≤ q := by intro q hq; injection hq with hq; omega
    have hRs2 := Lib.hid hRs
    clear cp cn hhd hRs
    cases hd : rd t with
    | none =>
     rw [hd] at A3
     have A4 : ∀ u, Env u → RdAt R u t → Kp wr u (some R) → Calls Tryz.prog 104 #[.pointer (some ⟨R, 0, none⟩)] u fun e w' => e = .panicked badP ∧ Kp u w' (some R) := A3
     have HN0 : Hid (res = none) := Lib.hid (by rw [HM.out, Ru.more_some rfl, List.tail_cons, hd])
     clear A3 hd
     go_wp2_with (first | (go_at_call 99; refine cp2.mono ?_; rintro e w2 ⟨rfl, rfl⟩) | (go_at_call 75; refine cn2.mono ?_; rintro e w3 ⟨rfl, hr3, hk3⟩))
     refine (A4 _ (HEr.out.kp hk3.out hRs2.out) hr3.out hk3.out).mono ?_
     rintro e w4 ⟨rfl, hk4⟩
     exact ⟨rfl, HO.out HN0.out _ (((HK1.out.weak _).trans HK.out).trans (hk3.out.trans hk4))⟩
    | some q2 =>
     obtain ⟨c2, r2⟩ := q2
     rw [hd] at A3
     have A4 : ∀ u, Env u → RdAt R u t → Kp wr u (some R) → Calls Tryz.prog 104 #[.pointer (some ⟨R, 0, none⟩)] u fun e w' => (∃ a2 m2 p2, e = .returned (.agg #[.int .i64 c2.op, str c2.text, .int .i64 c2.n, .int .i64 c2.box.x0, .int .i64 c2.box.y0, .int .i64 c2.box.x1, .int .i64 c2.box.y1, .slice a2 m2 p2]) ∧ Hid (TreeB u.heap.size w' c2 (.slice a2 m2 p2))) ∧ Hid (RdAt R w' r2) ∧ Hid (Kp u w' (some R)) := fun u hu hr hkx => (A3 u hu hr hkx).mono fun e w' ⟨⟨v, e1, ⟨a, m, p, e2, h3⟩, h4⟩, h5⟩ => ⟨⟨a, m, p, by rw [e1, e2], Lib.hid h3⟩, Lib.hid h4, Lib.hid h5⟩
     have HM2 : Hid (res = Ru.more word op rd g' ((ps ++ [(c2, Value.slice none 0 0)]).map (·.1)) r2) := Lib.hid (by rw [HM.out, Ru.more_some rfl, List.tail_cons, hd, List.map_append]; rfl)
     have hlt2 := HLS.out _ _ _ hd
     have hcm : ps.length + 1 ≤ maxLen := by unfold maxLen; simp at hsum; omega
     have hcb : (ps.length + 1) * 88 ≤ 140737488355328 := by simp at hsum; omega
     obtain ⟨i0, hi, hz0, hz1', hz2⟩ := info_parts info40
     clear A3 hd
     go_wp2_with (first | (go_at_call 99; refine cp2.mono ?_; rintro e w2 ⟨rfl, rfl⟩) | (go_at_call 75; refine cn2.mono ?_; rintro e w3 ⟨rfl, hr3, hk3⟩))
     refine (A4 _ (HEr.out.kp hk3.out hRs2.out) hr3.out hk3.out).mono ?_
     rintro e w4 ⟨⟨a2, m2, p2, rfl, ht4⟩, hr4, hk4⟩
     have hz3 := hk3.out.size
     have hz4 := hk4.out.size
     go_wp2_with (at_builtin; go_must (refine wpList_append_lies _ (by rfl) _ _ _ (by rfl) (w.heap.size + 1) 40 i0 _ 8 88 Tryz.underlying38 hi hz0 hz1' hz2 rfl (by omega) u9 ps.length (ps.flatMap cC) (by rfl) ((own_row (own_row HOW.out hk3.out (by omega)) hk4.out (by omega)).alloc _) ⟨w4.heap.size, 0, none⟩ 1 1 #[.int .i64 c2.op, str c2.text, .int .i64 c2.n, .int .i64 c2.box.x0, .int .i64 c2.box.y0, .int .i64 c2.box.x1, .int .i64 c2.box.y1, .slice a2 m2 p2].toList (by rfl) (by rfl) (World.news_of_block (cs := #[.int .i64 c2.op, str c2.text, .int .i64 c2.n, .int .i64 c2.box.x0, .int .i64 c2.box.y0, .int .i64 c2.box.x1, .int .i64 c2.box.y1, .slice a2 m2 p2]) (t := 40) (fr := (0, 0)) (heap_alloc_new w4 _)) (by simp [Value.oneCell']) (by omega) hcm hcb (by simp; omega) (w4.heap.size + 1) (by simp) ?_))
     intro gg capg w5 hown5 hgrow5 hor5 _
     have HOW5 : Hid (w5.ownsRow (w.heap.size + 1) 40 8 (.slice (some ⟨gg, 0, none⟩) (ps.length + 1) capg) (ps ++ [(c2, Value.slice a2 m2 p2)]).length ((ps ++ [(c2, Value.slice a2 m2 p2)]).flatMap cC)) := Lib.hid (by rw [List.flatMap_append, List.length_append]; exact hown5)
     have hog : ∀ b, u9.ownBlock = some b → b < w2.heap.size := fun b hb => (HOW.out.lt b hb).2
     have hgw : ∀ b, b < w4.heap.size → u9.ownBlock ≠ some b → gg ≠ b := fun b hb hne2 e => by
      rcases hor5 with h | h
      ·exact hne2 (by rw [h, e])
      ·omega
     have HT5 : Hid (∀ p ∈ ps ++ [(c2, Value.slice a2 m2 p2)], TreeP (fun b => w.heap.size + 1 ≤ b ∧ (Value.slice (some ⟨gg, 0, none⟩) (ps.length + 1) capg).ownBlock ≠ some b) w5 p.1 p.2) := Lib.hid (by
      have hrow : ∀ {S : Nat → Prop} {c : Ru.Cond} {v : Value}, (∀ b, S b → u9.ownBlock ≠ some b) → TreeP S w4 c v → TreeP S w5 c v := fun hS h => (h.keep ((Kp.refl w4 none).alloc _)).row hgrow5 (fun r hr hs => hS r hs hr)
      intro p hp
      rcases List.mem_append.1 hp with hp | hp
      ·have h0 := HT.out p hp
       have h1 := (h0.row hk3.out (fun r hr hs => by injection hr with hr; omega)).row hk4.out (fun r hr hs => by injection hr with hr; omega)
       have h2 := h1.mono (T := fun b => (w.heap.size + 1 ≤ b ∧ u9.ownBlock ≠ some b) ∧ b < w4.heap.size) (fun b hb h => ⟨h, hb⟩)
       have h3 := hrow (fun b hb => hb.1.2) h2
       exact h3.mono fun b _ h => ⟨h.1.1, fun e => hgw b h.2 h.1.2 (by injection e)⟩
      ·rw [List.mem_singleton] at hp
       subst hp
       have h2 := ht4.out.mono (T := fun b => (w3.heap.size ≤ b ∧ u9.ownBlock ≠ some b) ∧ b < w4.heap.size) (fun b hb h => ⟨⟨h, fun e => by have := hog b e; omega⟩, hb⟩)
       have h3 := hrow (fun b hb => hb.1.2) h2
       exact h3.mono fun b _ h => ⟨by omega, fun e => hgw b h.2 h.1.2 (by injection e)⟩)
     have HR5 : Hid (RdAt R w5 r2) := Lib.hid (by
      have h1 := hr4.out.keep ((Kp.refl w4 none).alloc (.cells #[.int .i64 c2.op, str c2.text, .int .i64 c2.n, .int .i64 c2.box.x0, .int .i64 c2.box.y0, .int .i64 c2.box.x1, .int .i64 c2.box.y1, .slice a2 m2 p2] 40))
      cases hq : u9.ownBlock with
      | none => rw [hq] at hgrow5; exact h1.keep hgrow5
      | some r => rw [hq] at hgrow5; exact h1.far hgrow5 (by have := (HOW.out.lt r hq).1; omega))
     have HK5 : Hid (Kp (w.alloc (.cells #[.int .i64 0, .string ⟨#[]⟩, .int .i64 0, .int .i64 0, .int .i64 0, .int .i64 0, .int .i64 0, .slice none 0 0] 40)) w5 (some R)) := Lib.hid (Kp.row ((HK.out.trans (hk3.out.trans hk4.out)).alloc _) hgrow5 (fun q hq => by have := (HOW.out.lt q hq).1; simp; omega))
     have HM3 : Hid (res = Ru.more word op rd g' ((ps ++ [(c2, Value.slice a2 m2 p2)]).map (·.1)) r2) := Lib.hid (by rw [HM2.out, List.map_append, List.map_append]; rfl)
     clear hown5 hgrow5 hor5 hgw hog
     go_wp2_with fail
     go_roundg g'
     case measure => omega
     case rel => exact ⟨ps ++ [(c2, .slice a2 m2 p2)], r2, by simp, by simp at hsum ⊢; omega, HOW5.out, HT5, HR5, by omega, by simp at hvg; omega, HM3, HK5⟩
   ·have HMs : Hid (res = some (Ru.mk1 op (ps.map (·.1)), vs)) := Lib.hid (by rw [HM.out, Ru.more_stop hhd])
    have hb : (vs.headD [] == word) = false := by
     cases vs with
     | nil => simpa using HWN.out
     | cons x t => simpa using hhd
    obtain ⟨x0, hx0⟩ : ∃ x, vs.headD [] = x := ⟨_, rfl⟩
    rw [hx0] at cp hb
    have HRET : Hid (∀ V c v, c = Ru.mk1 op (ps.map (·.1)) → CondV w.heap.size c V v → RdAt R V vs → Kp w V (some R) → Out res (fun c w' v => CondV w.heap.size c w' v) R w (.returned v) V) := Lib.hid (fun V c v hc h1 h2 h3 => by rw [HMs.out, ← hc]; exact ⟨⟨v, rfl, h1, h2⟩, h3⟩)
    have hlv := own_slice HOW.out
    obtain ⟨ao, cap, hlv⟩ := hlv
    subst hlv
    have hla := (own_lies (m := 8) (f := cC) (fun _ => rfl) HOW.out).2
    have hob : ∀ b, (Value.slice ao ps.length cap).ownBlock = some b → w.heap.size + 1 ≤ b := fun b hb => (HOW.out.lt b hb).1
    have hbase := own_base ps HOW.out
    have HB := Lib.hid (HB0.out wr HK.out)
    clear hx0 hhd
    by_cases h1 : ps.length = 1
    ·obtain ⟨p, rfl⟩ := List.length_eq_one_iff.1 h1
     have ht := HT.out p (by simp)
     obtain ⟨a3, m3, p3, hv3⟩ := ht.slice
     obtain ⟨bb, off, hao, _, hrg⟩ := hla.range 0 (by simp) (p := p) rfl
     subst hao
     have HRG : Hid (wr.rangeAt bb (off + 0 * 8) #[.int .i64 p.1.op, str p.1.text, .int .i64 p.1.n, .int .i64 p.1.box.x0, .int .i64 p.1.box.y0, .int .i64 p.1.box.x1, .int .i64 p.1.box.y1, .slice a3 m3 p3].toList) := Lib.hid (by have e : cC p = #[.int .i64 p.1.op, str p.1.text, .int .i64 p.1.n, .int .i64 p.1.box.x0, .int .i64 p.1.box.y0, .int .i64 p.1.box.x1, .int .i64 p.1.box.y1, .slice a3 m3 p3].toList := (by unfold cC; rw [hv3]); rw [← e]; exact hrg)
     rw [Nat.zero_mul, Nat.add_zero] at HRG
     have HTP := Lib.hid ht
     have HV3 := Lib.hid hv3
     clear hrg ht hv3 hla h1 hbase
     go_wp2_with (first | (go_at_call 99; refine cp.mono ?_; rintro e w2 ⟨rfl, rfl⟩) | (refine wpList_load_mid (by rfl) 40 _ (by rfl) bb off (by rfl) #[.int .i64 p.1.op, str p.1.text, .int .i64 p.1.n, .int .i64 p.1.box.x0, .int .i64 p.1.box.y0, .int .i64 p.1.box.x1, .int .i64 p.1.box.y1, .slice a3 m3 p3].toList _ HRG.out Tryz.underlying40 (by rfl) info40s ?_) | (refine wpList_store_blk (by rfl) 40 _ _ (by rfl) w.heap.size _ 40 HB.out #[.int .i64 p.1.op, str p.1.text, .int .i64 p.1.n, .int .i64 p.1.box.x0, .int .i64 p.1.box.y0, .int .i64 p.1.box.x1, .int .i64 p.1.box.y1, .slice a3 m3 p3] (by rfl) (by rfl) info40s (by rfl) (by simp [Value.oneCell']) (fun V hV hkV => ?_); have HV := Lib.hid hV; have HKV := Lib.hid hkV; clear hV hkV))
     refine bodyPost_ret (results_cell_row (p := 8) (ty := 40) (by rfl) _ V w.heap.size 40 #[.int .i64 p.1.op, str p.1.text, .int .i64 p.1.n, .int .i64 p.1.box.x0, .int .i64 p.1.box.y0, .int .i64 p.1.box.x1, .int .i64 p.1.box.y1, .slice a3 m3 p3] (0, 0) _ (by rfl) HV.out Tryz.underlying40 (by rfl) info40s) (by rfl) ?_
     exact HRET.out V p.1 _ rfl ⟨a3, m3, p3, rfl, by
      have h := HTP.out
      rw [HV3.out] at h
      exact (h.row HKV.out (fun r hr hs => by injection hr with hr; omega)).mono (fun b _ hb => by omega)⟩ (HR.out.far HKV.out hRw) (Kp.of_own ((HK1.out.weak _).trans HK.out) HKV.out (Nat.le_refl _))
    ·have h1' : ¬ (ps.length : Int) = 1 := by omega
     have hmk : Ru.mk1 op (ps.map (·.1)) = .mk op [] 0 .none (ps.map (·.1)) := by
      unfold Ru.mk1
      split
      ·rename_i c hc
       have := congrArg List.length hc
       simp at this; omega
      ·rfl
     have HMK := Lib.hid hmk
     have HLA := Lib.hid hla
     have hpl : ps.length ≤ 9223372036854775807 := by omega
     clear hmk hla h1 hbase
     go_wp2_with (first | (go_at_call 99; refine cp.mono ?_; rintro e w2 ⟨rfl, rfl⟩) | (refine wpList_store_blk (by rfl) 40 _ _ (by rfl) w.heap.size _ 40 HB.out #[.int .i64 op, .string ⟨#[]⟩, .int .i64 0, .int .i64 0, .int .i64 0, .int .i64 0, .int .i64 0, .slice ao ps.length cap] (by rfl) (by rfl) info40s (by rfl) (by simp [Value.oneCell']) (fun V hV hkV => ?_); have HV := Lib.hid hV; have HKV := Lib.hid hkV; clear hV hkV))
     refine bodyPost_ret (results_cell_row (p := 8) (ty := 40) (by rfl) _ V w.heap.size 40 #[.int .i64 op, .string ⟨#[]⟩, .int .i64 0, .int .i64 0, .int .i64 0, .int .i64 0, .int .i64 0, .slice ao ps.length cap] (0, 0) _ (by rfl) HV.out Tryz.underlying40 (by rfl) info40s) (by rfl) ?_
     have hrow : ∀ r, some w.heap.size = some r → ¬ (w.heap.size + 1 ≤ r) := fun r hr hs => by injection hr with hr; omega
     have hbs := own_base ps HOW.out
     refine HRET.out V (.mk op [] 0 .none (ps.map (·.1))) _ HMK.out.symm ⟨ao, ps.length, cap, rfl, ?_⟩ (HR.out.far HKV.out hRw) (Kp.of_own ((HK1.out.weak _).trans HK.out) HKV.out (Nat.le_refl _))
     refine TreeP.of (S := fun b => w.heap.size ≤ b) (ps := ps) rfl (isConds_row (S := fun b => w.heap.size + 1 ≤ b) HLA.out.list hbs HKV.out hrow) (fun a m c e h0 => by have := hbs a m c e h0; omega) (fun p hp => ?_)
     exact ((HT.out p hp).row HKV.out (fun r hr hs => hrow r hr hs.1)).mono (fun b _ hb => by omega)

set_option maxHeartbeats 16000000 in
set_option maxRecDepth 100000 in
theorem list_103 (word : List UInt8) (hwne : word ≠ []) (op : Int) (rd : Ru.Ws → Option (Ru.Cond × Ru.Ws)) (hless : Ru.Less rd) (N R : Nat) (hR : 8 ≤ R) (hN9 : N ≤ 1000000000000) (w : World) (he : Env w) (ws : Ru.Ws) (h : RdAt R w ws) (hN : ws.length ≤ N) (B : Nat) (hexB : BoxAt B R w)
  (hrd : ∀ (u : World) (vs : Ru.Ws), Env u → RdAt R u vs → vs.length ≤ N → BoxAt B R u → Calls Tryz.prog 103 #[.pointer (some ⟨B, 0, none⟩)] u (Out (rd vs) (fun c w' v => CondV u.heap.size c w' v) R u)) :
  Calls Tryz.prog 102 #[.pointer (some ⟨R, 0, none⟩), str word, .int .i64 op, .func (.func 103) #[] #[.pointer (some ⟨B, 0, none⟩)]] w (Out (Ru.lst word op rd ws) (fun c w' v => CondV w.heap.size c w' v) R w) := by
 have hRw := h.lt
 have HXB := Lib.hid hexB
 clear hexB
 have HE := Lib.hid he
 have HRD := Lib.hid hrd
 have HLS := Lib.hid hless
 have HWN := Lib.hid hwne
 have hK1 : Kp w (w.alloc (.cells #[.int .i64 0, .string ⟨#[]⟩, .int .i64 0, .int .i64 0, .int .i64 0, .int .i64 0, .int .i64 0, .slice none 0 0] 40)) none := (Kp.refl _ _).alloc _
 have HO : Hid (Ru.lst word op rd ws = none → ∀ V, Kp w V (some R) → Out (Ru.lst word op rd ws) (fun c w' v => CondV w.heap.size c w' v) R w (.panicked badP) V) := Lib.hid fun h0 V hV => by rw [h0]; exact ⟨rfl, hV⟩
 obtain ⟨res, hres⟩ : ∃ res, Ru.lst word op rd ws = res := ⟨_, rfl⟩
 rw [hres] at HO
 rw [hres]
 have HRES := Lib.hid hres
 have h1 := h.keep hK1
 have HE1 := Lib.hid (he.kp0 hK1)
 have A1 := hrd _ ws HE1.out h1 hN (HXB.out.keep (hK1.weak _))
 have HK1 := Lib.hid hK1
 clear he hrd hless hwne hK1 h h1 hres
 cases hd : rd ws with
 | none =>
  rw [hd] at A1
  have A2 : Calls Tryz.prog 103 #[.pointer (some ⟨B, 0, none⟩)] (w.alloc (.cells #[.int .i64 0, .string ⟨#[]⟩, .int .i64 0, .int .i64 0, .int .i64 0, .int .i64 0, .int .i64 0, .slice none 0 0] 40)) fun e w' => e = .panicked badP ∧ Kp (w.alloc (.cells #[.int .i64 0, .string ⟨#[]⟩, .int .i64 0, .int .i64 0, .int .i64 0, .int .i64 0, .int .i64 0, .slice none 0 0] 40)) w' (some R) := A1
  have HN0 : Hid (res = none) := Lib.hid (by rw [← HRES.out]; unfold Ru.lst; rw [hd])
  clear A1 hd
  go_enter Tryz.func102, Tryz.ntmps102
  go_wp2_with fail
  refine A2.mono ?_
  rintro e w1 ⟨rfl, hk⟩
  exact ⟨rfl, HO.out HN0.out _ ((HK1.out.weak _).trans hk)⟩
 | some q =>
  obtain ⟨c1, r1⟩ := q
  rw [hd] at A1
  have A2 : Calls Tryz.prog 103 #[.pointer (some ⟨B, 0, none⟩)] (w.alloc (.cells #[.int .i64 0, .string ⟨#[]⟩, .int .i64 0, .int .i64 0, .int .i64 0, .int .i64 0, .int .i64 0, .slice none 0 0] 40)) fun e w' => (∃ a1 m1 p1, e = .returned (.agg #[.int .i64 c1.op, str c1.text, .int .i64 c1.n, .int .i64 c1.box.x0, .int .i64 c1.box.y0, .int .i64 c1.box.x1, .int .i64 c1.box.y1, .slice a1 m1 p1]) ∧ Hid (TreeB (w.heap.size + 1) w' c1 (.slice a1 m1 p1))) ∧ Hid (RdAt R w' r1) ∧ Hid (Kp (w.alloc (.cells #[.int .i64 0, .string ⟨#[]⟩, .int .i64 0, .int .i64 0, .int .i64 0, .int .i64 0, .int .i64 0, .slice none 0 0] 40)) w' (some R)) := A1.mono fun e w' ⟨⟨v, e1, ⟨a, m, p, e2, h3⟩, h4⟩, h5⟩ => ⟨⟨a, m, p, by rw [e1, e2], Lib.hid (by simpa using h3)⟩, Lib.hid h4, Lib.hid h5⟩
  have HLS0 : Hid (res = Ru.more word op rd r1.length [c1] r1) := Lib.hid (by rw [← HRES.out]; unfold Ru.lst; rw [hd])
  have hrl : r1.length ≤ N := Nat.le_trans (HLS.out _ _ _ hd) hN
  clear A1 hd
  go_enter Tryz.func102, Tryz.ntmps102
  go_wp2_with fail
  refine A2.mono ?_
  rintro e w1 ⟨⟨a1, m1, p1, rfl, ht1⟩, hr1, hk1⟩
  have hz1 : w.heap.size + 1 ≤ w1.heap.size := (by have := hk1.out.size; simpa using this)
  go_wp2_with fail
  have HB0 : Hid (∀ V, Kp (w.alloc (.cells #[.int .i64 0, .string ⟨#[]⟩, .int .i64 0, .int .i64 0, .int .i64 0, .int .i64 0, .int .i64 0, .slice none 0 0] 40)) V (some R) → V.heap[w.heap.size]? = some (.cells #[.int .i64 0, .string ⟨#[]⟩, .int .i64 0, .int .i64 0, .int .i64 0, .int .i64 0, .int .i64 0, .slice none 0 0] 40 (0, 0))) := Lib.hid fun V hV => res_kept (heap_alloc_new w _) hV (by intro q hq; injection hq with hq; omega)
  have HKA : Hid (Kp (w.alloc (.cells #[.int .i64 0, .string ⟨#[]⟩, .int .i64 0, .int .i64 0, .int .i64 0, .int .i64 0, .int .i64 0, .slice none 0 0] 40)) (w1.alloc (.cells #[.int .i64 c1.op, str c1.text, .int .i64 c1.n, .int .i64 c1.box.x0, .int .i64 c1.box.y0, .int .i64 c1.box.x1, .int .i64 c1.box.y1, .slice a1 m1 p1] 40)) (some R)) := Lib.hid (hk1.out.alloc _)
  have HOA : Hid ((w1.alloc (.cells #[.int .i64 c1.op, str c1.text, .int .i64 c1.n, .int .i64 c1.box.x0, .int .i64 c1.box.y0, .int .i64 c1.box.x1, .int .i64 c1.box.y1, .slice a1 m1 p1] 40)).ownsRow (w.heap.size + 1) 40 8 (.slice (some ⟨w1.heap.size, 0, none⟩) 1 1) [(c1, Value.slice a1 m1 p1)].length ([(c1, Value.slice a1 m1 p1)].flatMap cC)) := Lib.hid (own_one hz1)
  have HTA : Hid (TreeP (fun b => w.heap.size + 1 ≤ b ∧ some w1.heap.size ≠ some b) (w1.alloc (.cells #[.int .i64 c1.op, str c1.text, .int .i64 c1.n, .int .i64 c1.box.x0, .int .i64 c1.box.y0, .int .i64 c1.box.x1, .int .i64 c1.box.y1, .slice a1 m1 p1] 40)) c1 (.slice a1 m1 p1)) := Lib.hid ((ht1.out.mono (fun b hb h => ⟨h, fun e => by injection e with e; omega⟩)).keep ((Kp.refl w1 none).alloc _))
  have HRA : Hid (RdAt R (w1.alloc (.cells #[.int .i64 c1.op, str c1.text, .int .i64 c1.n, .int .i64 c1.box.x0, .int .i64 c1.box.y0, .int .i64 c1.box.x1, .int .i64 c1.box.y1, .slice a1 m1 p1] 40)) r1) := Lib.hid (hr1.out.keep ((Kp.refl w1 none).alloc _))
  go_loopg [9] r1.length (fun gf lv wr => ∃ (ps : List (Ru.Cond × Value)) (vs : Ru.Ws), ps ≠ [] ∧ ps.length + vs.length ≤ N + 1 ∧ wr.ownsRow (w.heap.size + 1) 40 8 lv ps.length (ps.flatMap cC) ∧ Hid (∀ p ∈ ps, TreeP (fun b => w.heap.size + 1 ≤ b ∧ lv.ownBlock ≠ some b) wr p.1 p.2) ∧ Hid (RdAt R wr vs) ∧ vs.length ≤ N ∧ vs.length ≤ gf ∧ Hid (res = Ru.more word op rd gf (ps.map (·.1)) vs) ∧ Hid (Kp (w.alloc (.cells #[.int .i64 0, .string ⟨#[]⟩, .int .i64 0, .int .i64 0, .int .i64 0, .int .i64 0, .int .i64 0, .slice none 0 0] 40)) wr (some R)))
  case atStart => exact ⟨[(c1, .slice a1 m1 p1)], r1, by simp, by simp; omega, HOA.out, Lib.hid (fun p hp => by rw [List.mem_singleton] at hp; subst hp; exact HTA.out), HRA, hrl, Nat.le_refl _, HLS0, HKA⟩
  case round =>
   obtain ⟨ps, vs, hne, hsum, hown, HT, HR, hvN, hvg, HM, HK⟩ := hrel
   have HOW := Lib.hid hown
   clear hown
   have hzr : w.heap.size + 1 ≤ wr.heap.size := (by have := HK.out.size; simpa using this)
   have HEr : Hid (Env wr) := Lib.hid (HE1.out.kp HK.out (by intro q hq; injection hq with hq; omega))
   have cp := peek_any R wr vs HR.out
   by_cases hhd : vs.head? = some word
   ·obtain ⟨t, rfl⟩ : ∃ t, vs = word :: t := by
     cases vs with
     | nil => cases hhd
     | cons x t => exact ⟨t, by simp at hhd; rw [hhd]⟩
    obtain ⟨g', rfl⟩ : ∃ g', gk = g' + 1 := ⟨gk - 1, by simp at hvg; omega⟩
    have hb : (word == word) = true := by simp
    have cp2 : Calls Tryz.prog 99 #[.pointer (some ⟨R, 0, none⟩)] wr fun e w' => e = .returned (str word) ∧ w' = wr := cp
    have cn := next_any R wr (word :: t) HR.out
    rw [Ru.next_cons HWN.out] at cn
    have cn2 : Calls Tryz.prog 75 #[.pointer (some ⟨R, 0, none⟩)] wr fun e w' => e = .returned (str word) ∧ Hid (RdAt R w' t) ∧ Hid (Kp wr w' (some R)) := cn.mono fun e w' ⟨⟨v, h1, h2, h3⟩, h4⟩ => ⟨by rw [h1, h2], Lib.hid h3, Lib.hid h4⟩
    have htN : t.length ≤ N := by simp at hvN; omega
    have A3 := fun u hu hr (hkx : Kp wr u (some R)) => HRD.out u t hu hr htN (HXB.out.keep (((HK1.out.weak _).trans HK.out).trans hkx))
    have hRs : ∀ q, some R = some q → 8 ≤ q := by intro q hq; injection hq with hq; omega
    have hRs2 := Lib.hid hRs
    clear cp cn hhd hRs
    cases hd : rd t with
    | none =>
     rw [hd] at A3
     have A4 : ∀ u, Env u → RdAt R u t → Kp wr u (some R) → Calls Tryz.prog 103 #[.pointer (some ⟨B, 0, none⟩)] u fun e w' => e = .panicked badP ∧ Kp u w' (some R) := A3
     have HN0 : Hid (res = none) := Lib.hid (by rw [HM.out, Ru.more_some rfl, List.tail_cons, hd])
     clear A3 hd
     go_wp2_with (first | (go_at_call 99; refine cp2.mono ?_; rintro e w2 ⟨rfl, rfl⟩) | (go_at_call 75; refine cn2.mono ?_; rintro e w3 ⟨rfl, hr3, hk3⟩))
     refine (A4 _ (HEr.out.kp hk3.out hRs2.out) hr3.out hk3.out).mono ?_
     rintro e w4 ⟨rfl, hk4⟩
     exact ⟨rfl, HO.out HN0.out _ (((HK1.out.weak _).trans HK.out).trans (hk3.out.trans hk4))⟩
    | some q2 =>
     obtain ⟨c2, r2⟩ := q2
     rw [hd] at A3
     have A4 : ∀ u, Env u → RdAt R u t → Kp wr u (some R) → Calls Tryz.prog 103 #[.pointer (some ⟨B, 0, none⟩)] u fun e w' => (∃ a2 m2 p2, e = .returned (.agg #[.int .i64 c2.op, str c2.text, .int .i64 c2.n, .int .i64 c2.box.x0, .int .i64 c2.box.y0, .int .i64 c2.box.x1, .int .i64 c2.box.y1, .slice a2 m2 p2]) ∧ Hid (TreeB u.heap.size w' c2 (.slice a2 m2 p2))) ∧ Hid (RdAt R w' r2) ∧ Hid (Kp u w' (some R)) := fun u hu hr hkx => (A3 u hu hr hkx).mono fun e w' ⟨⟨v, e1, ⟨a, m, p, e2, h3⟩, h4⟩, h5⟩ => ⟨⟨a, m, p, by rw [e1, e2], Lib.hid h3⟩, Lib.hid h4, Lib.hid h5⟩
     have HM2 : Hid (res = Ru.more word op rd g' ((ps ++ [(c2, Value.slice none 0 0)]).map (·.1)) r2) := Lib.hid (by rw [HM.out, Ru.more_some rfl, List.tail_cons, hd, List.map_append]; rfl)
     have hlt2 := HLS.out _ _ _ hd
     have hcm : ps.length + 1 ≤ maxLen := by unfold maxLen; simp at hsum; omega
     have hcb : (ps.length + 1) * 88 ≤ 140737488355328 := by simp at hsum; omega
     obtain ⟨i0, hi, hz0, hz1', hz2⟩ := info_parts info40
     clear A3 hd
     go_wp2_with (first | (go_at_call 99; refine cp2.mono ?_; rintro e w2 ⟨rfl, rfl⟩) | (go_at_call 75; refine cn2.mono ?_; rintro e w3 ⟨rfl, hr3, hk3⟩))
     refine (A4 _ (HEr.out.kp hk3.out hRs2.out) hr3.out hk3.out).mono ?_
     rintro e w4 ⟨⟨a2, m2, p2, rfl, ht4⟩, hr4, hk4⟩
     have hz3 := hk3.out.size
     have hz4 := hk4.out.size
     go_wp2_with (at_builtin; go_must (refine wpList_append_lies _ (by rfl) _ _ _ (by rfl) (w.heap.size + 1) 40 i0 _ 8 88 Tryz.underlying38 hi hz0 hz1' hz2 rfl (by omega) u9 ps.length (ps.flatMap cC) (by rfl) ((own_row (own_row HOW.out hk3.out (by omega)) hk4.out (by omega)).alloc _) ⟨w4.heap.size, 0, none⟩ 1 1 #[.int .i64 c2.op, str c2.text, .int .i64 c2.n, .int .i64 c2.box.x0, .int .i64 c2.box.y0, .int .i64 c2.box.x1, .int .i64 c2.box.y1, .slice a2 m2 p2].toList (by rfl) (by rfl) (World.news_of_block (cs := #[.int .i64 c2.op, str c2.text, .int .i64 c2.n, .int .i64 c2.box.x0, .int .i64 c2.box.y0, .int .i64 c2.box.x1, .int .i64 c2.box.y1, .slice a2 m2 p2]) (t := 40) (fr := (0, 0)) (heap_alloc_new w4 _)) (by simp [Value.oneCell']) (by omega) hcm hcb (by simp; omega) (w4.heap.size + 1) (by simp) ?_))
     intro gg capg w5 hown5 hgrow5 hor5 _
     have HOW5 : Hid (w5.ownsRow (w.heap.size + 1) 40 8 (.slice (some ⟨gg, 0, none⟩) (ps.length + 1) capg) (ps ++ [(c2, Value.slice a2 m2 p2)]).length ((ps ++ [(c2, Value.slice a2 m2 p2)]).flatMap cC)) := Lib.hid (by rw [List.flatMap_append, List.length_append]; exact hown5)
     have hog : ∀ b, u9.ownBlock = some b → b < w2.heap.size := fun b hb => (HOW.out.lt b hb).2
     have hgw : ∀ b, b < w4.heap.size → u9.ownBlock ≠ some b → gg ≠ b := fun b hb hne2 e => by
      rcases hor5 with h | h
      ·exact hne2 (by rw [h, e])
      ·omega
     have HT5 : Hid (∀ p ∈ ps ++ [(c2, Value.slice a2 m2 p2)], TreeP (fun b => w.heap.size + 1 ≤ b ∧ (Value.slice (some ⟨gg, 0, none⟩) (ps.length + 1) capg).ownBlock ≠ some b) w5 p.1 p.2) := Lib.hid (by
      have hrow : ∀ {S : Nat → Prop} {c : Ru.Cond} {v : Value}, (∀ b, S b → u9.ownBlock ≠ some b) → TreeP S w4 c v → TreeP S w5 c v := fun hS h => (h.keep ((Kp.refl w4 none).alloc _)).row hgrow5 (fun r hr hs => hS r hs hr)
      intro p hp
      rcases List.mem_append.1 hp with hp | hp
      ·have h0 := HT.out p hp
       have h1 := (h0.row hk3.out (fun r hr hs => by injection hr with hr; omega)).row hk4.out (fun r hr hs => by injection hr with hr; omega)
       have h2 := h1.mono (T := fun b => (w.heap.size + 1 ≤ b ∧ u9.ownBlock ≠ some b) ∧ b < w4.heap.size) (fun b hb h => ⟨h, hb⟩)
       have h3 := hrow (fun b hb => hb.1.2) h2
       exact h3.mono fun b _ h => ⟨h.1.1, fun e => hgw b h.2 h.1.2 (by injection e)⟩
      ·rw [List.mem_singleton] at hp
       subst hp
       have h2 := ht4.out.mono (T := fun b => (w3.heap.size ≤ b ∧ u9.ownBlock ≠ some b) ∧ b < w4.heap.size) (fun b hb h => ⟨⟨h, fun e => by have := hog b e; omega⟩, hb⟩)
       have h3 := hrow (fun b hb => hb.1.2) h2
       exact h3.mono fun b _ h => ⟨by omega, fun e => hgw b h.2 h.1.2 (by injection e)⟩)
     have HR5 : Hid (RdAt R w5 r2) := Lib.hid (by
      have h1 := hr4.out.keep ((Kp.refl w4 none).alloc (.cells #[.int .i64 c2.op, str c2.text, .int .i64 c2.n, .int .i64 c2.box.x0, .int .i64 c2.box.y0, .int .i64 c2.box.x1, .int .i64 c2.box.y1, .slice a2 m2 p2] 40))
      cases hq : u9.ownBlock with
      | none => rw [hq] at hgrow5; exact h1.keep hgrow5
      | some r => rw [hq] at hgrow5; exact h1.far hgrow5 (by have := (HOW.out.lt r hq).1; omega))
     have HK5 : Hid (Kp (w.alloc (.cells #[.int .i64 0, .string ⟨#[]⟩, .int .i64 0, .int .i64 0, .int .i64 0, .int .i64 0, .int .i64 0, .slice none 0 0] 40)) w5 (some R)) := Lib.hid (Kp.row ((HK.out.trans (hk3.out.trans hk4.out)).alloc _) hgrow5 (fun q hq => by have := (HOW.out.lt q hq).1; simp; omega))
     have HM3 : Hid (res = Ru.more word op rd g' ((ps ++ [(c2, Value.slice a2 m2 p2)]).map (·.1)) r2) := Lib.hid (by rw [HM2.out, List.map_append, List.map_append]; rfl)
     clear hown5 hgrow5 hor5 hgw hog
     go_wp2_with fail
     go_roundg g'
     case measure => omega
     case rel => exact ⟨ps ++ [(c2, .slice a2 m2 p2)], r2, by simp, by simp at hsum ⊢; omega, HOW5.out, HT5, HR5, by omega, by simp at hvg; omega, HM3, HK5⟩
   ·have HMs : Hid (res = some (Ru.mk1 op (ps.map (·.1)), vs)) := Lib.hid (by rw [HM.out, Ru.more_stop hhd])
    have hb : (vs.headD [] == word) = false := by
     cases vs with
     | nil => simpa using HWN.out
     | cons x t => simpa using hhd
    obtain ⟨x0, hx0⟩ : ∃ x, vs.headD [] = x := ⟨_, rfl⟩
    rw [hx0] at cp hb
    have HRET : Hid (∀ V c v, c = Ru.mk1 op (ps.map (·.1)) → CondV w.heap.size c V v → RdAt R V vs → Kp w V (some R) → Out res (fun c w' v => CondV w.heap.size c w' v) R w (.returned v) V) := Lib.hid (fun V c v hc h1 h2 h3 => by rw [HMs.out, ← hc]; exact ⟨⟨v, rfl, h1, h2⟩, h3⟩)
    have hlv := own_slice HOW.out
    obtain ⟨ao, cap, hlv⟩ := hlv
    subst hlv
    have hla := (own_lies (m := 8) (f := cC) (fun _ => rfl) HOW.out).2
    have hob : ∀ b, (Value.slice ao ps.length cap).ownBlock = some b → w.heap.size + 1 ≤ b := fun b hb => (HOW.out.lt b hb).1
    have hbase := own_base ps HOW.out
    have HB := Lib.hid (HB0.out wr HK.out)
    clear hx0 hhd
    by_cases h1 : ps.length = 1
    ·obtain ⟨p, rfl⟩ := List.length_eq_one_iff.1 h1
     have ht := HT.out p (by simp)
     obtain ⟨a3, m3, p3, hv3⟩ := ht.slice
     obtain ⟨bb, off, hao, _, hrg⟩ := hla.range 0 (by simp) (p := p) rfl
     subst hao
     have HRG : Hid (wr.rangeAt bb (off + 0 * 8) #[.int .i64 p.1.op, str p.1.text, .int .i64 p.1.n, .int .i64 p.1.box.x0, .int .i64 p.1.box.y0, .int .i64 p.1.box.x1, .int .i64 p.1.box.y1, .slice a3 m3 p3].toList) := Lib.hid (by have e : cC p = #[.int .i64 p.1.op, str p.1.text, .int .i64 p.1.n, .int .i64 p.1.box.x0, .int .i64 p.1.box.y0, .int .i64 p.1.box.x1, .int .i64 p.1.box.y1, .slice a3 m3 p3].toList := (by unfold cC; rw [hv3]); rw [← e]; exact hrg)
     rw [Nat.zero_mul, Nat.add_zero] at HRG
     have HTP := Lib.hid ht
     have HV3 := Lib.hid hv3
     clear hrg ht hv3 hla h1 hbase
     go_wp2_with (first | (go_at_call 99; refine cp.mono ?_; rintro e w2 ⟨rfl, rfl⟩) | (refine wpList_load_mid (by rfl) 40 _ (by rfl) bb off (by rfl) #[.int .i64 p.1.op, str p.1.text, .int .i64 p.1.n, .int .i64 p.1.box.x0, .int .i64 p.1.box.y0, .int .i64 p.1.box.x1, .int .i64 p.1.box.y1, .slice a3 m3 p3].toList _ HRG.out Tryz.underlying40 (by rfl) info40s ?_) | (refine wpList_store_blk (by rfl) 40 _ _ (by rfl) w.heap.size _ 40 HB.out #[.int .i64 p.1.op, str p.1.text, .int .i64 p.1.n, .int .i64 p.1.box.x0, .int .i64 p.1.box.y0, .int .i64 p.1.box.x1, .int .i64 p.1.box.y1, .slice a3 m3 p3] (by rfl) (by rfl) info40s (by rfl) (by simp [Value.oneCell']) (fun V hV hkV => ?_); have HV := Lib.hid hV; have HKV := Lib.hid hkV; clear hV hkV))
     refine bodyPost_ret (results_cell_row (p := 8) (ty := 40) (by rfl) _ V w.heap.size 40 #[.int .i64 p.1.op, str p.1.text, .int .i64 p.1.n, .int .i64 p.1.box.x0, .int .i64 p.1.box.y0, .int .i64 p.1.box.x1, .int .i64 p.1.box.y1, .slice a3 m3 p3] (0, 0) _ (by rfl) HV.out Tryz.underlying40 (by rfl) info40s) (by rfl) ?_
     exact HRET.out V p.1 _ rfl ⟨a3, m3, p3, rfl, by
      have h := HTP.out
      rw [HV3.out] at h
      exact (h.row HKV.out (fun r hr hs => by injection hr with hr; omega)).mono (fun b _ hb => by omega)⟩ (HR.out.far HKV.out hRw) (Kp.of_own ((HK1.out.weak _).trans HK.out) HKV.out (Nat.le_refl _))
    ·have h1' : ¬ (ps.length : Int) = 1 := by omega
     have hmk : Ru.mk1 op (ps.map (·.1)) = .mk op [] 0 .none (ps.map (·.1)) := by
      unfold Ru.mk1
      split
      ·rename_i c hc
       have := congrArg List.length hc
       simp at this; omega
      ·rfl
     have HMK := Lib.hid hmk
     have HLA := Lib.hid hla
     have hpl : ps.length ≤ 9223372036854775807 := by omega
     clear hmk hla h1 hbase
     go_wp2_with (first | (go_at_call 99; refine cp.mono ?_; rintro e w2 ⟨rfl, rfl⟩) | (refine wpList_store_blk (by rfl) 40 _ _ (by rfl) w.heap.size _ 40 HB.out #[.int .i64 op, .string ⟨#[]⟩, .int .i64 0, .int .i64 0, .int .i64 0, .int .i64 0, .int .i64 0, .slice ao ps.length cap] (by rfl) (by rfl) info40s (by rfl) (by simp [Value.oneCell']) (fun V hV hkV => ?_); have HV := Lib.hid hV; have HKV := Lib.hid hkV; clear hV hkV))
     refine bodyPost_ret (results_cell_row (p := 8) (ty := 40) (by rfl) _ V w.heap.size 40 #[.int .i64 op, .string ⟨#[]⟩, .int .i64 0, .int .i64 0, .int .i64 0, .int .i64 0, .int .i64 0, .slice ao ps.length cap] (0, 0) _ (by rfl) HV.out Tryz.underlying40 (by rfl) info40s) (by rfl) ?_
     have hrow : ∀ r, some w.heap.size = some r → ¬ (w.heap.size + 1 ≤ r) := fun r hr hs => by injection hr with hr; omega
     have hbs := own_base ps HOW.out
     refine HRET.out V (.mk op [] 0 .none (ps.map (·.1))) _ HMK.out.symm ⟨ao, ps.length, cap, rfl, ?_⟩ (HR.out.far HKV.out hRw) (Kp.of_own ((HK1.out.weak _).trans HK.out) HKV.out (Nat.le_refl _))
     refine TreeP.of (S := fun b => w.heap.size ≤ b) (ps := ps) rfl (isConds_row (S := fun b => w.heap.size + 1 ≤ b) HLA.out.list hbs HKV.out hrow) (fun a m c e h0 => by have := hbs a m c e h0; omega) (fun p hp => ?_)
     exact ((HT.out p hp).row HKV.out (fun r hr hs => hrow r hr hs.1)).mono (fun b _ hb => by omega)
end Go.Proofs.YtnchipahdfbliaaGreatDoor
