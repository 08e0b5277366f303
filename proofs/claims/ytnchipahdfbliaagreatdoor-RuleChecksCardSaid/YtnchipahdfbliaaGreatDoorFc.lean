/- The program's factor: a condition without and, and or, around it. Conditions: those of the reader. -/
import Derived.Test.YtnchipahdfbliaaGreatDoorFb
import Derived.Outline
namespace Go.Proofs.YtnchipahdfbliaaGreatDoor
open Go.RowKit

theorem wpList_insert_new {ops : Array Oper} {rest : List Oper} {op : Oper} {a : Act} {Q : Exit → Act → World → Prop} (hgd : op.guard = none) (t : TypeId) (x y z : Operand) (ho : op.op = .insert t x y z)
  {kt et : TypeId} (ht : Tryz.prog.underlying t = some (.map kt et)) (hk : Tryz.prog.underlying kt = some .string) (W : World) (r : Nat) (hr : r = W.heap.size) (es : Array MapEntry) (n : Nat) (k : List UInt8) (v : Int)
  (hx : a.eval x = .map (some r)) (hy : a.eval y = str k) (hz : a.eval z = .int .i64 v) (hf : Instr.findNow .string (str k) es.toList 0 = some none)
  (h : wpList Tryz.prog ops Q rest (a.put op.dst undef) (W.alloc (.map (es.push (ent k v n)) (n + 1)))) : wpList Tryz.prog ops Q (op :: rest) a (W.alloc (.map es n)) := by
 subst hr
 refine wpList_plain hgd fun K hK => ?_
 unfold Oper.wp execOp
 simp only [ho, hx, hy, hz, Sem.run_bind, run_insert ht hk W es n k v hf, Result.andThen_ok]
 exact hK _ _ h
def FacIs (n : Nat) : Prop := ∀ (R : Nat) (w : World) (ws : Ru.Ws), 8 ≤ R → Env w → RdAt R w ws → ws.length ≤ n → Calls Tryz.prog 104 #[.pointer (some ⟨R, 0, none⟩)] w (Out (Ru.fac n ws) (fun c w' v => CondV w.heap.size c w' v) R w)
theorem look_two (w : World) (r : Nat) (x : List UInt8) (hb : w.heap[r]? = some (.map #[ent Ru.kwNet 2 0, ent Ru.kwClass 3 1] 2)) : (Instr.lookup 158 (.map (some r)) (str x) true).run Tryz.prog w = .ok (.tuple #[.int .i64 (if x = Ru.kwNet then 2 else if x = Ru.kwClass then 3 else 0), .bool (decide (x = Ru.kwNet) || decide (x = Ru.kwClass))]) w := by
 by_cases h1 : x = Ru.kwNet
 ·rw [run_look und158 Tryz.underlying9 Tryz.zeroValue3 w r _ 2 x hb (some (0, .int .i64 2)) (by simp only [find_cons]; rw [if_pos h1])]
  simp [h1]
 ·by_cases h2 : x = Ru.kwClass
  ·rw [run_look und158 Tryz.underlying9 Tryz.zeroValue3 w r _ 2 x hb (some (1, .int .i64 3)) (by simp only [find_cons]; rw [if_neg h1, if_pos h2])]
   subst h2; rfl
  ·rw [run_look und158 Tryz.underlying9 Tryz.zeroValue3 w r _ 2 x hb none (by simp only [find_cons]; rw [if_neg h1, if_neg h2]; rfl)]
   simp [h1, h2]
theorem look_three (w : World) (r : Nat) (x : List UInt8) (hb : w.heap[r]? = some (.map #[ent Ru.kwKind 4 0, ent Ru.kwLayer 5 1, ent Ru.kwPart 6 2] 3)) : (Instr.lookup 158 (.map (some r)) (str x) true).run Tryz.prog w = .ok (.tuple #[.int .i64 (if x = Ru.kwKind then 4 else if x = Ru.kwLayer then 5 else if x = Ru.kwPart then 6 else 0), .bool (decide (x = Ru.kwKind) || decide (x = Ru.kwLayer) || decide (x = Ru.kwPart))]) w := by
 by_cases h1 : x = Ru.kwKind
 ·rw [run_look und158 Tryz.underlying9 Tryz.zeroValue3 w r _ 3 x hb (some (0, .int .i64 4)) (by simp only [find_cons]; rw [if_pos h1])]
  simp [h1]
 ·by_cases h2 : x = Ru.kwLayer
  ·rw [run_look und158 Tryz.underlying9 Tryz.zeroValue3 w r _ 3 x hb (some (1, .int .i64 5)) (by simp only [find_cons]; rw [if_neg h1, if_pos h2])]
   subst h2; rfl
  ·by_cases h3 : x = Ru.kwPart
   ·rw [run_look und158 Tryz.underlying9 Tryz.zeroValue3 w r _ 3 x hb (some (2, .int .i64 6)) (by simp only [find_cons]; rw [if_neg h1, if_neg h2, if_pos h3])]
    subst h3; rfl
   ·rw [run_look und158 Tryz.underlying9 Tryz.zeroValue3 w r _ 3 x hb none (by simp only [find_cons]; rw [if_neg h1, if_neg h2, if_neg h3]; rfl)]
    simp [h1, h2, h3]
set_option maxHeartbeats 8000000 in
set_option maxRecDepth 100000 in
theorem fac_step (n : Nat) (hn9 : n + 1 ≤ 1000000000000) (ih : FacIs n) : FacIs (n + 1) := by
 intro R w ws hR he h hlen
 have hRw := h.lt
 have hK3 : Kp w (((w.alloc (.cells #[.int .i64 0, .string ⟨#[]⟩, .int .i64 0, .int .i64 0, .int .i64 0, .int .i64 0, .int .i64 0, .slice none 0 0] 40)).alloc (.map #[ent Ru.kwNet 2 0, ent Ru.kwClass 3 1] 2)).alloc (.map #[ent Ru.kwKind 4 0, ent Ru.kwLayer 5 1, ent Ru.kwPart 6 2] 3)) none := (((Kp.refl _ _).alloc _).alloc _).alloc _
 have hB : (((w.alloc (.cells #[.int .i64 0, .string ⟨#[]⟩, .int .i64 0, .int .i64 0, .int .i64 0, .int .i64 0, .int .i64 0, .slice none 0 0] 40)).alloc (.map #[ent Ru.kwNet 2 0, ent Ru.kwClass 3 1] 2)).alloc (.map #[ent Ru.kwKind 4 0, ent Ru.kwLayer 5 1, ent Ru.kwPart 6 2] 3)).heap[w.heap.size]? = some (.cells #[.int .i64 0, .string ⟨#[]⟩, .int .i64 0, .int .i64 0, .int .i64 0, .int .i64 0, .int .i64 0, .slice none 0 0] 40 (0, 0)) := res_kept (heap_alloc_new w _) (((Kp.refl _ none).alloc _).alloc _) (by simp)
 have hM1 : (((w.alloc (.cells #[.int .i64 0, .string ⟨#[]⟩, .int .i64 0, .int .i64 0, .int .i64 0, .int .i64 0, .int .i64 0, .slice none 0 0] 40)).alloc (.map #[ent Ru.kwNet 2 0, ent Ru.kwClass 3 1] 2)).alloc (.map #[ent Ru.kwKind 4 0, ent Ru.kwLayer 5 1, ent Ru.kwPart 6 2] 3)).heap[w.heap.size + 1]? = some (.map #[ent Ru.kwNet 2 0, ent Ru.kwClass 3 1] 2) := by
  have h0 := heap_alloc_new (w.alloc (.cells #[.int .i64 0, .string ⟨#[]⟩, .int .i64 0, .int .i64 0, .int .i64 0, .int .i64 0, .int .i64 0, .slice none 0 0] 40)) (.map #[ent Ru.kwNet 2 0, ent Ru.kwClass 3 1] 2)
  have e : (w.alloc (.cells #[.int .i64 0, .string ⟨#[]⟩, .int .i64 0, .int .i64 0, .int .i64 0, .int .i64 0, .int .i64 0, .slice none 0 0] 40)).heap.size = w.heap.size + 1 := by simp
  rw [e] at h0
  exact res_kept h0 ((Kp.refl _ none).alloc _) (by simp)
 have hM2 : (((w.alloc (.cells #[.int .i64 0, .string ⟨#[]⟩, .int .i64 0, .int .i64 0, .int .i64 0, .int .i64 0, .int .i64 0, .slice none 0 0] 40)).alloc (.map #[ent Ru.kwNet 2 0, ent Ru.kwClass 3 1] 2)).alloc (.map #[ent Ru.kwKind 4 0, ent Ru.kwLayer 5 1, ent Ru.kwPart 6 2] 3)).heap[w.heap.size + 1 + 1]? = some (.map #[ent Ru.kwKind 4 0, ent Ru.kwLayer 5 1, ent Ru.kwPart 6 2] 3) := by
  have h0 := heap_alloc_new ((w.alloc (.cells #[.int .i64 0, .string ⟨#[]⟩, .int .i64 0, .int .i64 0, .int .i64 0, .int .i64 0, .int .i64 0, .slice none 0 0] 40)).alloc (.map #[ent Ru.kwNet 2 0, ent Ru.kwClass 3 1] 2)) (.map #[ent Ru.kwKind 4 0, ent Ru.kwLayer 5 1, ent Ru.kwPart 6 2] 3)
  have e : ((w.alloc (.cells #[.int .i64 0, .string ⟨#[]⟩, .int .i64 0, .int .i64 0, .int .i64 0, .int .i64 0, .int .i64 0, .slice none 0 0] 40)).alloc (.map #[ent Ru.kwNet 2 0, ent Ru.kwClass 3 1] 2)).heap.size = w.heap.size + 1 + 1 := by simp
  rw [e] at h0
  exact h0
 have cn := next_any R _ ws (h.keep hK3)
 have HE := Lib.hid (he.kp0 hK3)
 have HK3 := Lib.hid hK3
 have HB := Lib.hid hB
 have HM1 := Lib.hid hM1
 have HM2 := Lib.hid hM2
 have HIH := Lib.hid ih
 have hsz3 : (((w.alloc (.cells #[.int .i64 0, .string ⟨#[]⟩, .int .i64 0, .int .i64 0, .int .i64 0, .int .i64 0, .int .i64 0, .slice none 0 0] 40)).alloc (.map #[ent Ru.kwNet 2 0, ent Ru.kwClass 3 1] 2)).alloc (.map #[ent Ru.kwKind 4 0, ent Ru.kwLayer 5 1, ent Ru.kwPart 6 2] 3)).heap.size = w.heap.size + 3 := by simp
 have HS3 := Lib.hid hsz3
 clear hB hM1 hM2 hsz3 ih
 cases hn : Ru.next ws with
 | none =>
  have e0 : Ru.fac (n + 1) ws = none := by rw [Ru.fac, hn]
  rw [e0]
  rw [hn] at cn
  have cn2 : Calls Tryz.prog 75 #[.pointer (some ⟨R, 0, none⟩)] (((w.alloc (.cells #[.int .i64 0, .string ⟨#[]⟩, .int .i64 0, .int .i64 0, .int .i64 0, .int .i64 0, .int .i64 0, .slice none 0 0] 40)).alloc (.map #[ent Ru.kwNet 2 0, ent Ru.kwClass 3 1] 2)).alloc (.map #[ent Ru.kwKind 4 0, ent Ru.kwLayer 5 1, ent Ru.kwPart 6 2] 3)) fun e w' => e = .panicked badP ∧ Kp (((w.alloc (.cells #[.int .i64 0, .string ⟨#[]⟩, .int .i64 0, .int .i64 0, .int .i64 0, .int .i64 0, .int .i64 0, .slice none 0 0] 40)).alloc (.map #[ent Ru.kwNet 2 0, ent Ru.kwClass 3 1] 2)).alloc (.map #[ent Ru.kwKind 4 0, ent Ru.kwLayer 5 1, ent Ru.kwPart 6 2] 3)) w' (some R) := cn
  clear cn hn h he hK3 e0
  have hmm := @run_makeMap Tryz.prog
  go_enter Tryz.func104, Tryz.ntmps104
  go_wp2_with (first | (refine wpList_insert_new (by rfl) 158 _ _ _ (by rfl) und158 Tryz.underlying9 (w.alloc (.cells #[.int .i64 0, .string ⟨#[]⟩, .int .i64 0, .int .i64 0, .int .i64 0, .int .i64 0, .int .i64 0, .slice none 0 0] 40)) (w.heap.size + 1) (by simp) #[] 0 Ru.kwNet 2 (by rfl) (by rfl) (by rfl) (by first | rfl | (simp [find_cons, Ru.kwNet, Ru.kwClass, Ru.kwKind, Ru.kwLayer, Ru.kwPart, Instr.findNow])) ?_) | (refine wpList_insert_new (by rfl) 158 _ _ _ (by rfl) und158 Tryz.underlying9 (w.alloc (.cells #[.int .i64 0, .string ⟨#[]⟩, .int .i64 0, .int .i64 0, .int .i64 0, .int .i64 0, .int .i64 0, .slice none 0 0] 40)) (w.heap.size + 1) (by simp) #[ent Ru.kwNet 2 0] 1 Ru.kwClass 3 (by rfl) (by rfl) (by rfl) (by first | rfl | (simp [find_cons, Ru.kwNet, Ru.kwClass, Ru.kwKind, Ru.kwLayer, Ru.kwPart, Instr.findNow])) ?_) | (refine wpList_insert_new (by rfl) 158 _ _ _ (by rfl) und158 Tryz.underlying9 ((w.alloc (.cells #[.int .i64 0, .string ⟨#[]⟩, .int .i64 0, .int .i64 0, .int .i64 0, .int .i64 0, .int .i64 0, .slice none 0 0] 40)).alloc (.map #[ent Ru.kwNet 2 0, ent Ru.kwClass 3 1] 2)) (w.heap.size + 1 + 1) (by simp) #[] 0 Ru.kwKind 4 (by rfl) (by rfl) (by rfl) (by first | rfl | (simp [find_cons, Ru.kwNet, Ru.kwClass, Ru.kwKind, Ru.kwLayer, Ru.kwPart, Instr.findNow])) ?_) | (refine wpList_insert_new (by rfl) 158 _ _ _ (by rfl) und158 Tryz.underlying9 ((w.alloc (.cells #[.int .i64 0, .string ⟨#[]⟩, .int .i64 0, .int .i64 0, .int .i64 0, .int .i64 0, .int .i64 0, .slice none 0 0] 40)).alloc (.map #[ent Ru.kwNet 2 0, ent Ru.kwClass 3 1] 2)) (w.heap.size + 1 + 1) (by simp) #[ent Ru.kwKind 4 0] 1 Ru.kwLayer 5 (by rfl) (by rfl) (by rfl) (by first | rfl | (simp [find_cons, Ru.kwNet, Ru.kwClass, Ru.kwKind, Ru.kwLayer, Ru.kwPart, Instr.findNow])) ?_) | (refine wpList_insert_new (by rfl) 158 _ _ _ (by rfl) und158 Tryz.underlying9 ((w.alloc (.cells #[.int .i64 0, .string ⟨#[]⟩, .int .i64 0, .int .i64 0, .int .i64 0, .int .i64 0, .int .i64 0, .slice none 0 0] 40)).alloc (.map #[ent Ru.kwNet 2 0, ent Ru.kwClass 3 1] 2)) (w.heap.size + 1 + 1) (by simp) #[ent Ru.kwKind 4 0, ent Ru.kwLayer 5 1] 2 Ru.kwPart 6 (by rfl) (by rfl) (by rfl) (by first | rfl | (simp [find_cons, Ru.kwNet, Ru.kwClass, Ru.kwKind, Ru.kwLayer, Ru.kwPart, Instr.findNow])) ?_) | (go_at_call 75; refine cn2.mono ?_; rintro e w1 ⟨rfl, hk⟩))
  exact ⟨rfl, rfl, (HK3.out.weak _).trans hk⟩
 | some q =>
  obtain ⟨x, r⟩ := q
  have hfac := Ru.fac_word (n := n) (r := r) (Ru.next_len hn).2
  rw [← (Ru.next_len hn).1] at hfac
  obtain ⟨res, hres⟩ : ∃ res, Ru.fac (n + 1) ws = res := ⟨_, rfl⟩
  rw [hres] at hfac
  rw [hres]
  have hrl := (Ru.next_len hn).1
  have hrn : r.length ≤ n := by rw [hrl] at hlen; simp at hlen; omega
  rw [hn] at cn
  have cn2 : Calls Tryz.prog 75 #[.pointer (some ⟨R, 0, none⟩)] (((w.alloc (.cells #[.int .i64 0, .string ⟨#[]⟩, .int .i64 0, .int .i64 0, .int .i64 0, .int .i64 0, .int .i64 0, .slice none 0 0] 40)).alloc (.map #[ent Ru.kwNet 2 0, ent Ru.kwClass 3 1] 2)).alloc (.map #[ent Ru.kwKind 4 0, ent Ru.kwLayer 5 1, ent Ru.kwPart 6 2] 3)) fun e w' => e = .returned (str x) ∧ Hid (RdAt R w' r) ∧ Hid (Kp (((w.alloc (.cells #[.int .i64 0, .string ⟨#[]⟩, .int .i64 0, .int .i64 0, .int .i64 0, .int .i64 0, .int .i64 0, .slice none 0 0] 40)).alloc (.map #[ent Ru.kwNet 2 0, ent Ru.kwClass 3 1] 2)).alloc (.map #[ent Ru.kwKind 4 0, ent Ru.kwLayer 5 1, ent Ru.kwPart 6 2] 3)) w' (some R)) := cn.mono fun e w' ⟨⟨v, h1, h2, h3⟩, h4⟩ => ⟨by rw [h1, h2], Lib.hid h3, Lib.hid h4⟩
  have HF := Lib.hid hfac
  have HO : Hid (res = none → ∀ V, Kp w V (some R) → Out res (fun c w' v => CondV w.heap.size c w' v) R w (.panicked badP) V) := Lib.hid fun h0 V hV => by rw [h0]; exact ⟨rfl, hV⟩
  clear cn hn h he hK3 hres hfac hrl hlen
  have hmm := @run_makeMap Tryz.prog
  go_enter Tryz.func104, Tryz.ntmps104
  go_wp2_with (first | (refine wpList_insert_new (by rfl) 158 _ _ _ (by rfl) und158 Tryz.underlying9 (w.alloc (.cells #[.int .i64 0, .string ⟨#[]⟩, .int .i64 0, .int .i64 0, .int .i64 0, .int .i64 0, .int .i64 0, .slice none 0 0] 40)) (w.heap.size + 1) (by simp) #[] 0 Ru.kwNet 2 (by rfl) (by rfl) (by rfl) (by first | rfl | (simp [find_cons, Ru.kwNet, Ru.kwClass, Ru.kwKind, Ru.kwLayer, Ru.kwPart, Instr.findNow])) ?_) | (refine wpList_insert_new (by rfl) 158 _ _ _ (by rfl) und158 Tryz.underlying9 (w.alloc (.cells #[.int .i64 0, .string ⟨#[]⟩, .int .i64 0, .int .i64 0, .int .i64 0, .int .i64 0, .int .i64 0, .slice none 0 0] 40)) (w.heap.size + 1) (by simp) #[ent Ru.kwNet 2 0] 1 Ru.kwClass 3 (by rfl) (by rfl) (by rfl) (by first | rfl | (simp [find_cons, Ru.kwNet, Ru.kwClass, Ru.kwKind, Ru.kwLayer, Ru.kwPart, Instr.findNow])) ?_) | (refine wpList_insert_new (by rfl) 158 _ _ _ (by rfl) und158 Tryz.underlying9 ((w.alloc (.cells #[.int .i64 0, .string ⟨#[]⟩, .int .i64 0, .int .i64 0, .int .i64 0, .int .i64 0, .int .i64 0, .slice none 0 0] 40)).alloc (.map #[ent Ru.kwNet 2 0, ent Ru.kwClass 3 1] 2)) (w.heap.size + 1 + 1) (by simp) #[] 0 Ru.kwKind 4 (by rfl) (by rfl) (by rfl) (by first | rfl | (simp [find_cons, Ru.kwNet, Ru.kwClass, Ru.kwKind, Ru.kwLayer, Ru.kwPart, Instr.findNow])) ?_) | (refine wpList_insert_new (by rfl) 158 _ _ _ (by rfl) und158 Tryz.underlying9 ((w.alloc (.cells #[.int .i64 0, .string ⟨#[]⟩, .int .i64 0, .int .i64 0, .int .i64 0, .int .i64 0, .int .i64 0, .slice none 0 0] 40)).alloc (.map #[ent Ru.kwNet 2 0, ent Ru.kwClass 3 1] 2)) (w.heap.size + 1 + 1) (by simp) #[ent Ru.kwKind 4 0] 1 Ru.kwLayer 5 (by rfl) (by rfl) (by rfl) (by first | rfl | (simp [find_cons, Ru.kwNet, Ru.kwClass, Ru.kwKind, Ru.kwLayer, Ru.kwPart, Instr.findNow])) ?_) | (refine wpList_insert_new (by rfl) 158 _ _ _ (by rfl) und158 Tryz.underlying9 ((w.alloc (.cells #[.int .i64 0, .string ⟨#[]⟩, .int .i64 0, .int .i64 0, .int .i64 0, .int .i64 0, .int .i64 0, .slice none 0 0] 40)).alloc (.map #[ent Ru.kwNet 2 0, ent Ru.kwClass 3 1] 2)) (w.heap.size + 1 + 1) (by simp) #[ent Ru.kwKind 4 0, ent Ru.kwLayer 5 1] 2 Ru.kwPart 6 (by rfl) (by rfl) (by rfl) (by first | rfl | (simp [find_cons, Ru.kwNet, Ru.kwClass, Ru.kwKind, Ru.kwLayer, Ru.kwPart, Instr.findNow])) ?_))
  refine cn2.mono ?_
  rintro e w1 ⟨rfl, hr1, hk1⟩
  have hz1 : w.heap.size + 3 ≤ w1.heap.size := by have := hk1.out.size; rw [HS3.out] at this; exact this
  have hRr : ∀ b, w.heap.size ≤ b → ∀ q, some R = some q → q ≠ b := fun b hb q hq => by injection hq with hq; omega
  have HB1 : Hid (w1.heap[w.heap.size]? = some (.cells #[.int .i64 0, .string ⟨#[]⟩, .int .i64 0, .int .i64 0, .int .i64 0, .int .i64 0, .int .i64 0, .slice none 0 0] 40 (0, 0))) := Lib.hid (res_kept HB.out hk1.out (hRr _ (by omega)))
  have hl1 := look_two w1 (w.heap.size + 1) x (res_kept HM1.out hk1.out (hRr _ (by omega)))
  have hl2 := look_three w1 (w.heap.size + 1 + 1) x (res_kept HM2.out hk1.out (hRr _ (by omega)))
  have HE1 : Hid (Env w1) := Lib.hid (HE.out.kp hk1.out (by intro q hq; injection hq with hq; omega))
  have HK1 : Hid (Kp w w1 (some R)) := Lib.hid ((HK3.out.weak _).trans hk1.out)
  clear cn2 hRr hmm
  have HRET : Hid (∀ V c v r2, res = some (c, r2) → CondV w.heap.size c V v → RdAt R V r2 → Kp w V (some R) → Out res (fun c w' v => CondV w.heap.size c w' v) R w (.returned v) V) := Lib.hid (fun V c v r2 hc h1 h2 h3 => by rw [hc]; exact ⟨⟨v, rfl, h1, h2⟩, h3⟩)
  by_cases x0 : x = Ru.kwNet
  case pos =>
   subst x0
   have q1 : (Instr.lookup 158 (.map (some (w.heap.size + 1))) (str Ru.kwNet) true).run Tryz.prog w1 = .ok (.tuple #[.int .i64 2, .bool true]) w1 := hl1.trans rfl
   have q2 : (Instr.lookup 158 (.map (some (w.heap.size + 1 + 1))) (str Ru.kwNet) true).run Tryz.prog w1 = .ok (.tuple #[.int .i64 0, .bool false]) w1 := hl2.trans rfl
   clear hl1 hl2
   have HF1 : Hid (res = (Ru.next r).map fun p => (Ru.leaf 2 p.1 0 .none, p.2)) := Lib.hid (by rw [HF.out]; first | rw [if_pos rfl] | rfl)
   have c2 := next_any R w1 r hr1.out
   cases hn2 : Ru.next r with
   | none =>
    rw [hn2] at c2
    have c3 : Calls Tryz.prog 75 #[.pointer (some ⟨R, 0, none⟩)] w1 fun e w' => e = .panicked badP ∧ Kp w1 w' (some R) := c2
    have HN0 : Hid (res = none) := Lib.hid (by rw [HF1.out, hn2]; rfl)
    clear c2 hn2
    go_wp2_with (go_at_call 75; refine c3.mono ?_; rintro e w2 ⟨rfl, hk2⟩)
    exact ⟨rfl, HO.out HN0.out _ (HK1.out.trans hk2)⟩
   | some q2 =>
    obtain ⟨t2, r2⟩ := q2
    rw [hn2] at c2
    have c3 : Calls Tryz.prog 75 #[.pointer (some ⟨R, 0, none⟩)] w1 fun e w' => e = .returned (str t2) ∧ Hid (RdAt R w' r2) ∧ Hid (Kp w1 w' (some R)) := c2.mono fun e w' ⟨⟨v, h1, h2, h3⟩, h4⟩ => ⟨by rw [h1, h2], Lib.hid h3, Lib.hid h4⟩
    have HN0 : Hid (res = some (Ru.leaf 2 t2 0 .none, r2)) := Lib.hid (by rw [HF1.out, hn2]; rfl)
    clear c2 hn2
    go_wp2_with (first | (go_at_call 75; refine c3.mono ?_; rintro e w2 ⟨rfl, hr2, hk2⟩; have HB2 := Lib.hid (res_kept HB1.out hk2.out (by intro q hq; injection hq with hq; omega))) | (refine wpList_store_blk (by rfl) 40 _ _ (by rfl) w.heap.size _ 40 HB2.out #[.int .i64 2, .string ⟨t2.toArray⟩, .int .i64 0, .int .i64 0, .int .i64 0, .int .i64 0, .int .i64 0, .slice none 0 0] (by rfl) (by rfl) info40s (by rfl) (by simp [Value.oneCell']) (fun V hV hkV => ?_); have HV := Lib.hid hV; have HKV := Lib.hid hkV; clear hV hkV))
    refine bodyPost_ret (results_cell_row (p := 2) (ty := 40) (by rfl) _ V w.heap.size 40 #[.int .i64 2, .string ⟨t2.toArray⟩, .int .i64 0, .int .i64 0, .int .i64 0, .int .i64 0, .int .i64 0, .slice none 0 0] (0, 0) _ (by rfl) HV.out Tryz.underlying40 (by rfl) info40s) (by rfl) ?_
    exact HRET.out V (Ru.leaf 2 t2 0 .none) _ r2 (HN0.out) ⟨none, 0, 0, rfl, TreeP.leaf rfl⟩ (hr2.out.far HKV.out hRw) (Kp.of_own (HK1.out.trans hk2.out) HKV.out (Nat.le_refl _))
  by_cases x1 : x = Ru.kwClass
  case pos =>
   subst x1
   have q1 : (Instr.lookup 158 (.map (some (w.heap.size + 1))) (str Ru.kwClass) true).run Tryz.prog w1 = .ok (.tuple #[.int .i64 3, .bool true]) w1 := hl1.trans rfl
   have q2 : (Instr.lookup 158 (.map (some (w.heap.size + 1 + 1))) (str Ru.kwClass) true).run Tryz.prog w1 = .ok (.tuple #[.int .i64 0, .bool false]) w1 := hl2.trans rfl
   clear hl1 hl2
   have HF1 : Hid (res = (Ru.next r).map fun p => (Ru.leaf 3 p.1 0 .none, p.2)) := Lib.hid (by rw [HF.out]; first | rw [if_neg (by decide), if_pos rfl] | rfl)
   have c2 := next_any R w1 r hr1.out
   cases hn2 : Ru.next r with
   | none =>
    rw [hn2] at c2
    have c3 : Calls Tryz.prog 75 #[.pointer (some ⟨R, 0, none⟩)] w1 fun e w' => e = .panicked badP ∧ Kp w1 w' (some R) := c2
    have HN0 : Hid (res = none) := Lib.hid (by rw [HF1.out, hn2]; rfl)
    clear c2 hn2
    go_wp2_with (go_at_call 75; refine c3.mono ?_; rintro e w2 ⟨rfl, hk2⟩)
    exact ⟨rfl, HO.out HN0.out _ (HK1.out.trans hk2)⟩
   | some q2 =>
    obtain ⟨t2, r2⟩ := q2
    rw [hn2] at c2
    have c3 : Calls Tryz.prog 75 #[.pointer (some ⟨R, 0, none⟩)] w1 fun e w' => e = .returned (str t2) ∧ Hid (RdAt R w' r2) ∧ Hid (Kp w1 w' (some R)) := c2.mono fun e w' ⟨⟨v, h1, h2, h3⟩, h4⟩ => ⟨by rw [h1, h2], Lib.hid h3, Lib.hid h4⟩
    have HN0 : Hid (res = some (Ru.leaf 3 t2 0 .none, r2)) := Lib.hid (by rw [HF1.out, hn2]; rfl)
    clear c2 hn2
    go_wp2_with (first | (go_at_call 75; refine c3.mono ?_; rintro e w2 ⟨rfl, hr2, hk2⟩; have HB2 := Lib.hid (res_kept HB1.out hk2.out (by intro q hq; injection hq with hq; omega))) | (refine wpList_store_blk (by rfl) 40 _ _ (by rfl) w.heap.size _ 40 HB2.out #[.int .i64 3, .string ⟨t2.toArray⟩, .int .i64 0, .int .i64 0, .int .i64 0, .int .i64 0, .int .i64 0, .slice none 0 0] (by rfl) (by rfl) info40s (by rfl) (by simp [Value.oneCell']) (fun V hV hkV => ?_); have HV := Lib.hid hV; have HKV := Lib.hid hkV; clear hV hkV))
    refine bodyPost_ret (results_cell_row (p := 2) (ty := 40) (by rfl) _ V w.heap.size 40 #[.int .i64 3, .string ⟨t2.toArray⟩, .int .i64 0, .int .i64 0, .int .i64 0, .int .i64 0, .int .i64 0, .slice none 0 0] (0, 0) _ (by rfl) HV.out Tryz.underlying40 (by rfl) info40s) (by rfl) ?_
    exact HRET.out V (Ru.leaf 3 t2 0 .none) _ r2 (HN0.out) ⟨none, 0, 0, rfl, TreeP.leaf rfl⟩ (hr2.out.far HKV.out hRw) (Kp.of_own (HK1.out.trans hk2.out) HKV.out (Nat.le_refl _))
  by_cases x2 : x = Ru.kwKind
  case pos =>
   subst x2
   have q1 : (Instr.lookup 158 (.map (some (w.heap.size + 1))) (str Ru.kwKind) true).run Tryz.prog w1 = .ok (.tuple #[.int .i64 0, .bool false]) w1 := hl1.trans rfl
   have q2 : (Instr.lookup 158 (.map (some (w.heap.size + 1 + 1))) (str Ru.kwKind) true).run Tryz.prog w1 = .ok (.tuple #[.int .i64 4, .bool true]) w1 := hl2.trans rfl
   clear hl1 hl2
   have HF1 : Hid (res = (Ru.number r).map fun p => (Ru.leaf 4 [] p.1 .none, p.2)) := Lib.hid (by rw [HF.out]; first | rw [if_neg (by decide), if_neg (by decide), if_pos rfl] | rfl)
   have c2 := number_any R hR w1 HE1.out r hr1.out
   cases hn2 : Ru.number r with
   | none =>
    rw [hn2] at c2
    have c3 : Calls Tryz.prog 76 #[.pointer (some ⟨R, 0, none⟩)] w1 fun e w' => e = .panicked badP ∧ Kp w1 w' (some R) := c2
    have HN0 : Hid (res = none) := Lib.hid (by rw [HF1.out, hn2]; rfl)
    clear c2 hn2
    go_wp2_with (go_at_call 76; refine c3.mono ?_; rintro e w2 ⟨rfl, hk2⟩)
    exact ⟨rfl, HO.out HN0.out _ (HK1.out.trans hk2)⟩
   | some q2 =>
    obtain ⟨n2, r2⟩ := q2
    rw [hn2] at c2
    have c3 : Calls Tryz.prog 76 #[.pointer (some ⟨R, 0, none⟩)] w1 fun e w' => e = .returned (.int .i64 n2) ∧ Hid (RdAt R w' r2) ∧ Hid (Kp w1 w' (some R)) := c2.mono fun e w' ⟨⟨v, h1, h2, h3⟩, h4⟩ => ⟨by rw [h1, h2], Lib.hid h3, Lib.hid h4⟩
    have HN0 : Hid (res = some (Ru.leaf 4 [] n2 .none, r2)) := Lib.hid (by rw [HF1.out, hn2]; rfl)
    clear c2 hn2
    go_wp2_with (first | (go_at_call 76; refine c3.mono ?_; rintro e w2 ⟨rfl, hr2, hk2⟩; have HB2 := Lib.hid (res_kept HB1.out hk2.out (by intro q hq; injection hq with hq; omega))) | (refine wpList_store_blk (by rfl) 40 _ _ (by rfl) w.heap.size _ 40 HB2.out #[.int .i64 4, .string ⟨#[]⟩, .int .i64 n2, .int .i64 0, .int .i64 0, .int .i64 0, .int .i64 0, .slice none 0 0] (by rfl) (by rfl) info40s (by rfl) (by simp [Value.oneCell']) (fun V hV hkV => ?_); have HV := Lib.hid hV; have HKV := Lib.hid hkV; clear hV hkV))
    refine bodyPost_ret (results_cell_row (p := 2) (ty := 40) (by rfl) _ V w.heap.size 40 #[.int .i64 4, .string ⟨#[]⟩, .int .i64 n2, .int .i64 0, .int .i64 0, .int .i64 0, .int .i64 0, .slice none 0 0] (0, 0) _ (by rfl) HV.out Tryz.underlying40 (by rfl) info40s) (by rfl) ?_
    exact HRET.out V (Ru.leaf 4 [] n2 .none) _ r2 (HN0.out) ⟨none, 0, 0, rfl, TreeP.leaf rfl⟩ (hr2.out.far HKV.out hRw) (Kp.of_own (HK1.out.trans hk2.out) HKV.out (Nat.le_refl _))
  by_cases x3 : x = Ru.kwLayer
  case pos =>
   subst x3
   have q1 : (Instr.lookup 158 (.map (some (w.heap.size + 1))) (str Ru.kwLayer) true).run Tryz.prog w1 = .ok (.tuple #[.int .i64 0, .bool false]) w1 := hl1.trans rfl
   have q2 : (Instr.lookup 158 (.map (some (w.heap.size + 1 + 1))) (str Ru.kwLayer) true).run Tryz.prog w1 = .ok (.tuple #[.int .i64 5, .bool true]) w1 := hl2.trans rfl
   clear hl1 hl2
   have HF1 : Hid (res = (Ru.number r).map fun p => (Ru.leaf 5 [] p.1 .none, p.2)) := Lib.hid (by rw [HF.out]; first | rw [if_neg (by decide), if_neg (by decide), if_neg (by decide), if_pos rfl] | rfl)
   have c2 := number_any R hR w1 HE1.out r hr1.out
   cases hn2 : Ru.number r with
   | none =>
    rw [hn2] at c2
    have c3 : Calls Tryz.prog 76 #[.pointer (some ⟨R, 0, none⟩)] w1 fun e w' => e = .panicked badP ∧ Kp w1 w' (some R) := c2
    have HN0 : Hid (res = none) := Lib.hid (by rw [HF1.out, hn2]; rfl)
    clear c2 hn2
    go_wp2_with (go_at_call 76; refine c3.mono ?_; rintro e w2 ⟨rfl, hk2⟩)
    exact ⟨rfl, HO.out HN0.out _ (HK1.out.trans hk2)⟩
   | some q2 =>
    obtain ⟨n2, r2⟩ := q2
    rw [hn2] at c2
    have c3 : Calls Tryz.prog 76 #[.pointer (some ⟨R, 0, none⟩)] w1 fun e w' => e = .returned (.int .i64 n2) ∧ Hid (RdAt R w' r2) ∧ Hid (Kp w1 w' (some R)) := c2.mono fun e w' ⟨⟨v, h1, h2, h3⟩, h4⟩ => ⟨by rw [h1, h2], Lib.hid h3, Lib.hid h4⟩
    have HN0 : Hid (res = some (Ru.leaf 5 [] n2 .none, r2)) := Lib.hid (by rw [HF1.out, hn2]; rfl)
    clear c2 hn2
    go_wp2_with (first | (go_at_call 76; refine c3.mono ?_; rintro e w2 ⟨rfl, hr2, hk2⟩; have HB2 := Lib.hid (res_kept HB1.out hk2.out (by intro q hq; injection hq with hq; omega))) | (refine wpList_store_blk (by rfl) 40 _ _ (by rfl) w.heap.size _ 40 HB2.out #[.int .i64 5, .string ⟨#[]⟩, .int .i64 n2, .int .i64 0, .int .i64 0, .int .i64 0, .int .i64 0, .slice none 0 0] (by rfl) (by rfl) info40s (by rfl) (by simp [Value.oneCell']) (fun V hV hkV => ?_); have HV := Lib.hid hV; have HKV := Lib.hid hkV; clear hV hkV))
    refine bodyPost_ret (results_cell_row (p := 2) (ty := 40) (by rfl) _ V w.heap.size 40 #[.int .i64 5, .string ⟨#[]⟩, .int .i64 n2, .int .i64 0, .int .i64 0, .int .i64 0, .int .i64 0, .slice none 0 0] (0, 0) _ (by rfl) HV.out Tryz.underlying40 (by rfl) info40s) (by rfl) ?_
    exact HRET.out V (Ru.leaf 5 [] n2 .none) _ r2 (HN0.out) ⟨none, 0, 0, rfl, TreeP.leaf rfl⟩ (hr2.out.far HKV.out hRw) (Kp.of_own (HK1.out.trans hk2.out) HKV.out (Nat.le_refl _))
  by_cases x4 : x = Ru.kwPart
  case pos =>
   subst x4
   have q1 : (Instr.lookup 158 (.map (some (w.heap.size + 1))) (str Ru.kwPart) true).run Tryz.prog w1 = .ok (.tuple #[.int .i64 0, .bool false]) w1 := hl1.trans rfl
   have q2 : (Instr.lookup 158 (.map (some (w.heap.size + 1 + 1))) (str Ru.kwPart) true).run Tryz.prog w1 = .ok (.tuple #[.int .i64 6, .bool true]) w1 := hl2.trans rfl
   clear hl1 hl2
   have HF1 : Hid (res = (Ru.number r).map fun p => (Ru.leaf 6 [] p.1 .none, p.2)) := Lib.hid (by rw [HF.out]; first | rw [if_neg (by decide), if_neg (by decide), if_neg (by decide), if_neg (by decide), if_pos rfl] | rfl)
   have c2 := number_any R hR w1 HE1.out r hr1.out
   cases hn2 : Ru.number r with
   | none =>
    rw [hn2] at c2
    have c3 : Calls Tryz.prog 76 #[.pointer (some ⟨R, 0, none⟩)] w1 fun e w' => e = .panicked badP ∧ Kp w1 w' (some R) := c2
    have HN0 : Hid (res = none) := Lib.hid (by rw [HF1.out, hn2]; rfl)
    clear c2 hn2
    go_wp2_with (go_at_call 76; refine c3.mono ?_; rintro e w2 ⟨rfl, hk2⟩)
    exact ⟨rfl, HO.out HN0.out _ (HK1.out.trans hk2)⟩
   | some q2 =>
    obtain ⟨n2, r2⟩ := q2
    rw [hn2] at c2
    have c3 : Calls Tryz.prog 76 #[.pointer (some ⟨R, 0, none⟩)] w1 fun e w' => e = .returned (.int .i64 n2) ∧ Hid (RdAt R w' r2) ∧ Hid (Kp w1 w' (some R)) := c2.mono fun e w' ⟨⟨v, h1, h2, h3⟩, h4⟩ => ⟨by rw [h1, h2], Lib.hid h3, Lib.hid h4⟩
    have HN0 : Hid (res = some (Ru.leaf 6 [] n2 .none, r2)) := Lib.hid (by rw [HF1.out, hn2]; rfl)
    clear c2 hn2
    go_wp2_with (first | (go_at_call 76; refine c3.mono ?_; rintro e w2 ⟨rfl, hr2, hk2⟩; have HB2 := Lib.hid (res_kept HB1.out hk2.out (by intro q hq; injection hq with hq; omega))) | (refine wpList_store_blk (by rfl) 40 _ _ (by rfl) w.heap.size _ 40 HB2.out #[.int .i64 6, .string ⟨#[]⟩, .int .i64 n2, .int .i64 0, .int .i64 0, .int .i64 0, .int .i64 0, .slice none 0 0] (by rfl) (by rfl) info40s (by rfl) (by simp [Value.oneCell']) (fun V hV hkV => ?_); have HV := Lib.hid hV; have HKV := Lib.hid hkV; clear hV hkV))
    refine bodyPost_ret (results_cell_row (p := 2) (ty := 40) (by rfl) _ V w.heap.size 40 #[.int .i64 6, .string ⟨#[]⟩, .int .i64 n2, .int .i64 0, .int .i64 0, .int .i64 0, .int .i64 0, .slice none 0 0] (0, 0) _ (by rfl) HV.out Tryz.underlying40 (by rfl) info40s) (by rfl) ?_
    exact HRET.out V (Ru.leaf 6 [] n2 .none) _ r2 (HN0.out) ⟨none, 0, 0, rfl, TreeP.leaf rfl⟩ (hr2.out.far HKV.out hRw) (Kp.of_own (HK1.out.trans hk2.out) HKV.out (Nat.le_refl _))
  by_cases x5 : x = Ru.kwAny
  case pos =>
   have x5q : x = [97, 110, 121] := x5
   clear x5
   subst x5q
   have q1 : (Instr.lookup 158 (.map (some (w.heap.size + 1))) (str [97, 110, 121]) true).run Tryz.prog w1 = .ok (.tuple #[.int .i64 0, .bool false]) w1 := hl1.trans rfl
   have q2 : (Instr.lookup 158 (.map (some (w.heap.size + 1 + 1))) (str [97, 110, 121]) true).run Tryz.prog w1 = .ok (.tuple #[.int .i64 0, .bool false]) w1 := hl2.trans rfl
   clear hl1 hl2
   have HF1 : Hid (res = some (Ru.cAny, r)) := Lib.hid (by rw [HF.out]; first | rw [if_neg (by decide), if_neg (by decide), if_neg (by decide), if_neg (by decide), if_neg (by decide), if_pos rfl] | rfl)
   go_wp2_with (refine wpList_store_blk (by rfl) 40 _ _ (by rfl) w.heap.size _ 40 HB1.out #[.int .i64 1, .string ⟨#[]⟩, .int .i64 0, .int .i64 0, .int .i64 0, .int .i64 0, .int .i64 0, .slice none 0 0] (by rfl) (by rfl) info40s (by rfl) (by simp [Value.oneCell']) (fun V hV hkV => ?_); have HV := Lib.hid hV; have HKV := Lib.hid hkV; clear hV hkV)
   refine bodyPost_ret (results_cell_row (p := 2) (ty := 40) (by rfl) _ V w.heap.size 40 #[.int .i64 1, .string ⟨#[]⟩, .int .i64 0, .int .i64 0, .int .i64 0, .int .i64 0, .int .i64 0, .slice none 0 0] (0, 0) _ (by rfl) HV.out Tryz.underlying40 (by rfl) info40s) (by rfl) ?_
   exact HRET.out V (Ru.cAny) _ r (HF1.out) ⟨none, 0, 0, rfl, TreeP.leaf rfl⟩ (hr1.out.far HKV.out hRw) (Kp.of_own (HK1.out) HKV.out (Nat.le_refl _))
  by_cases x6 : x = Ru.kwIn
  case pos =>
   have x6q : x = [105, 110] := x6
   clear x6
   subst x6q
   have q1 : (Instr.lookup 158 (.map (some (w.heap.size + 1))) (str [105, 110]) true).run Tryz.prog w1 = .ok (.tuple #[.int .i64 0, .bool false]) w1 := hl1.trans rfl
   have q2 : (Instr.lookup 158 (.map (some (w.heap.size + 1 + 1))) (str [105, 110]) true).run Tryz.prog w1 = .ok (.tuple #[.int .i64 0, .bool false]) w1 := hl2.trans rfl
   clear hl1 hl2
   have HF1 : Hid (res = (Ru.four r).map fun p => (Ru.leaf 7 [] 0 p.1, p.2)) := Lib.hid (by rw [HF.out]; first | rw [if_neg (by decide), if_neg (by decide), if_neg (by decide), if_neg (by decide), if_neg (by decide), if_neg (by decide), if_pos rfl] | rfl)
   have cN0 := number_any R hR w1 HE1.out r hr1.out
   cases hq0 : Ru.number r with
   | none =>
    rw [hq0] at cN0
    have c3 : Calls Tryz.prog 76 #[.pointer (some ⟨R, 0, none⟩)] w1 fun e w' => e = .panicked badP ∧ Kp w1 w' (some R) := cN0
    have HN0 : Hid (res = none) := Lib.hid (by rw [HF1.out]; unfold Ru.four; simp [hq0])
    clear hq0 cN0
    go_wp2_with (go_at_call 76; refine c3.mono ?_; rintro e w2 ⟨rfl, hkz⟩)
    exact ⟨rfl, HO.out HN0.out _ ((HK1.out).trans hkz)⟩
   | some qq0 =>
    obtain ⟨av, ra⟩ := qq0
    rw [hq0] at cN0
    have d0 : Calls Tryz.prog 76 #[.pointer (some ⟨R, 0, none⟩)] w1 fun e w' => e = .returned (.int .i64 av) ∧ Hid (RdAt R w' ra) ∧ Hid (Kp w1 w' (some R)) := cN0.mono fun e w' ⟨⟨v, h1, h2, h3⟩, h4⟩ => ⟨by rw [h1, h2], Lib.hid h3, Lib.hid h4⟩
    clear cN0
    go_wp2_with fail
    refine d0.mono ?_
    rintro e w2 ⟨rfl, hr2, hk2⟩
    clear d0
    go_wp2_with fail
    have HB2 := Lib.hid (res_kept HB1.out hk2.out (by intro q hq; injection hq with hq; omega))
    have HE2 : Hid (Env w2) := Lib.hid (HE1.out.kp hk2.out (by intro q hq; injection hq with hq; omega))
    have cN1 := number_any R hR w2 HE2.out ra hr2.out
    cases hq1 : Ru.number ra with
    | none =>
     rw [hq1] at cN1
     have c3 : Calls Tryz.prog 76 #[.pointer (some ⟨R, 0, none⟩)] w2 fun e w' => e = .panicked badP ∧ Kp w2 w' (some R) := cN1
     have HN0 : Hid (res = none) := Lib.hid (by rw [HF1.out]; unfold Ru.four; simp [hq0, hq1])
     clear hq0 hq1 cN1
     go_wp2_with (go_at_call 76; refine c3.mono ?_; rintro e w3 ⟨rfl, hkz⟩)
     exact ⟨rfl, HO.out HN0.out _ (((HK1.out).trans hk2.out).trans hkz)⟩
    | some qq1 =>
     obtain ⟨bv, rb⟩ := qq1
     rw [hq1] at cN1
     have d1 : Calls Tryz.prog 76 #[.pointer (some ⟨R, 0, none⟩)] w2 fun e w' => e = .returned (.int .i64 bv) ∧ Hid (RdAt R w' rb) ∧ Hid (Kp w2 w' (some R)) := cN1.mono fun e w' ⟨⟨v, h1, h2, h3⟩, h4⟩ => ⟨by rw [h1, h2], Lib.hid h3, Lib.hid h4⟩
     clear cN1
     refine d1.mono ?_
     rintro e w3 ⟨rfl, hr3, hk3⟩
     clear d1
     go_wp2_with fail
     have HB3 := Lib.hid (res_kept HB2.out hk3.out (by intro q hq; injection hq with hq; omega))
     have HE3 : Hid (Env w3) := Lib.hid (HE2.out.kp hk3.out (by intro q hq; injection hq with hq; omega))
     have cN2 := number_any R hR w3 HE3.out rb hr3.out
     cases hq2 : Ru.number rb with
     | none =>
      rw [hq2] at cN2
      have c3 : Calls Tryz.prog 76 #[.pointer (some ⟨R, 0, none⟩)] w3 fun e w' => e = .panicked badP ∧ Kp w3 w' (some R) := cN2
      have HN0 : Hid (res = none) := Lib.hid (by rw [HF1.out]; unfold Ru.four; simp [hq0, hq1, hq2])
      clear hq0 hq1 hq2 cN2
      go_wp2_with (go_at_call 76; refine c3.mono ?_; rintro e w4 ⟨rfl, hkz⟩)
      exact ⟨rfl, HO.out HN0.out _ ((((HK1.out).trans hk2.out).trans hk3.out).trans hkz)⟩
     | some qq2 =>
      obtain ⟨cv, rc⟩ := qq2
      rw [hq2] at cN2
      have d2 : Calls Tryz.prog 76 #[.pointer (some ⟨R, 0, none⟩)] w3 fun e w' => e = .returned (.int .i64 cv) ∧ Hid (RdAt R w' rc) ∧ Hid (Kp w3 w' (some R)) := cN2.mono fun e w' ⟨⟨v, h1, h2, h3⟩, h4⟩ => ⟨by rw [h1, h2], Lib.hid h3, Lib.hid h4⟩
      clear cN2
      refine d2.mono ?_
      rintro e w4 ⟨rfl, hr4, hk4⟩
      clear d2
      go_wp2_with fail
      have HB4 := Lib.hid (res_kept HB3.out hk4.out (by intro q hq; injection hq with hq; omega))
      have HE4 : Hid (Env w4) := Lib.hid (HE3.out.kp hk4.out (by intro q hq; injection hq with hq; omega))
      have cN3 := number_any R hR w4 HE4.out rc hr4.out
      cases hq3 : Ru.number rc with
      | none =>
       rw [hq3] at cN3
       have c3 : Calls Tryz.prog 76 #[.pointer (some ⟨R, 0, none⟩)] w4 fun e w' => e = .panicked badP ∧ Kp w4 w' (some R) := cN3
       have HN0 : Hid (res = none) := Lib.hid (by rw [HF1.out]; unfold Ru.four; simp [hq0, hq1, hq2, hq3])
       clear hq0 hq1 hq2 hq3 cN3
       go_wp2_with (go_at_call 76; refine c3.mono ?_; rintro e w5 ⟨rfl, hkz⟩)
       exact ⟨rfl, HO.out HN0.out _ (((((HK1.out).trans hk2.out).trans hk3.out).trans hk4.out).trans hkz)⟩
      | some qq3 =>
       obtain ⟨dv, rd⟩ := qq3
       rw [hq3] at cN3
       have d3 : Calls Tryz.prog 76 #[.pointer (some ⟨R, 0, none⟩)] w4 fun e w' => e = .returned (.int .i64 dv) ∧ Hid (RdAt R w' rd) ∧ Hid (Kp w4 w' (some R)) := cN3.mono fun e w' ⟨⟨v, h1, h2, h3⟩, h4⟩ => ⟨by rw [h1, h2], Lib.hid h3, Lib.hid h4⟩
       have HN0 : Hid (res = some (Ru.leaf 7 [] 0 ⟨av, bv, cv, dv⟩, rd)) := Lib.hid (by rw [HF1.out]; unfold Ru.four; simp [hq0, hq1, hq2, hq3])
       clear hq0 hq1 hq2 hq3 cN3
       go_wp2_with (first | (go_at_call 76; refine d3.mono ?_; rintro e w5 ⟨rfl, hr5, hk5⟩; have HB5 := Lib.hid (res_kept HB4.out hk5.out (by intro q hq; injection hq with hq; omega))) | (refine wpList_store_blk (by rfl) 40 _ _ (by rfl) w.heap.size _ 40 HB5.out #[.int .i64 7, .string ⟨#[]⟩, .int .i64 0, .int .i64 av, .int .i64 bv, .int .i64 cv, .int .i64 dv, .slice none 0 0] (by rfl) (by rfl) info40s (by rfl) (by simp [Value.oneCell']) (fun V hV hkV => ?_); have HV := Lib.hid hV; have HKV := Lib.hid hkV; clear hV hkV))
       refine bodyPost_ret (results_cell_row (p := 2) (ty := 40) (by rfl) _ V w.heap.size 40 #[.int .i64 7, .string ⟨#[]⟩, .int .i64 0, .int .i64 av, .int .i64 bv, .int .i64 cv, .int .i64 dv, .slice none 0 0] (0, 0) _ (by rfl) HV.out Tryz.underlying40 (by rfl) info40s) (by rfl) ?_
       exact HRET.out V (Ru.leaf 7 [] 0 ⟨av, bv, cv, dv⟩) _ rd (HN0.out) ⟨none, 0, 0, rfl, TreeP.leaf rfl⟩ (hr5.out.far HKV.out hRw) (Kp.of_own (((((HK1.out).trans hk2.out).trans hk3.out).trans hk4.out).trans hk5.out) HKV.out (Nat.le_refl _))
  by_cases x7 : x = Ru.kwNot
  case pos =>
   have x7q : x = [110, 111, 116] := x7
   clear x7
   subst x7q
   have q1 : (Instr.lookup 158 (.map (some (w.heap.size + 1))) (str [110, 111, 116]) true).run Tryz.prog w1 = .ok (.tuple #[.int .i64 0, .bool false]) w1 := hl1.trans rfl
   have q2 : (Instr.lookup 158 (.map (some (w.heap.size + 1 + 1))) (str [110, 111, 116]) true).run Tryz.prog w1 = .ok (.tuple #[.int .i64 0, .bool false]) w1 := hl2.trans rfl
   clear hl1 hl2
   have HF1 : Hid (res = (Ru.fac n r).map fun p => (Ru.Cond.mk 8 [] 0 .none [p.1], p.2)) := Lib.hid (by rw [HF.out]; first | rw [if_neg (by decide), if_neg (by decide), if_neg (by decide), if_neg (by decide), if_neg (by decide), if_neg (by decide), if_neg (by decide), if_pos rfl] | rfl)
   have c2 := HIH.out R w1 r hR HE1.out hr1.out hrn
   cases hn2 : Ru.fac n r with
   | none =>
    rw [hn2] at c2
    have c3 : Calls Tryz.prog 104 #[.pointer (some ⟨R, 0, none⟩)] w1 fun e w' => e = .panicked badP ∧ Kp w1 w' (some R) := c2
    have HN0 : Hid (res = none) := Lib.hid (by rw [HF1.out, hn2]; rfl)
    clear c2 hn2
    go_wp2_with (go_at_call 104; refine c3.mono ?_; rintro e w2 ⟨rfl, hk2⟩)
    exact ⟨rfl, HO.out HN0.out _ (HK1.out.trans hk2)⟩
   | some q2 =>
    obtain ⟨c, r2⟩ := q2
    rw [hn2] at c2
    have c3 : Calls Tryz.prog 104 #[.pointer (some ⟨R, 0, none⟩)] w1 fun e w' => (∃ a2 m2 p2, e = .returned (.agg #[.int .i64 c.op, str c.text, .int .i64 c.n, .int .i64 c.box.x0, .int .i64 c.box.y0, .int .i64 c.box.x1, .int .i64 c.box.y1, .slice a2 m2 p2]) ∧ Hid (TreeB w1.heap.size w' c (.slice a2 m2 p2))) ∧ Hid (RdAt R w' r2) ∧ Hid (Kp w1 w' (some R)) := c2.mono fun e w' ⟨⟨v, e1, ⟨a, m, p, e2, h3⟩, h4⟩, h5⟩ => ⟨⟨a, m, p, by rw [e1, e2], Lib.hid h3⟩, Lib.hid h4, Lib.hid h5⟩
    have HN0 : Hid (res = some (Ru.Cond.mk 8 [] 0 .none [c], r2)) := Lib.hid (by rw [HF1.out, hn2]; rfl)
    clear c2 hn2
    go_wp2_with (first | (go_at_call 104; refine c3.mono ?_; rintro e w2 ⟨⟨a2, m2, p2, rfl, ht2⟩, hr2, hk2⟩; have HB2 := Lib.hid (res_kept HB1.out hk2.out (by intro q hq; injection hq with hq; omega)); have HB3 := Lib.hid (res_kept HB2.out ((Kp.refl w2 none).alloc (.cells #[.int .i64 c.op, str c.text, .int .i64 c.n, .int .i64 c.box.x0, .int .i64 c.box.y0, .int .i64 c.box.x1, .int .i64 c.box.y1, .slice a2 m2 p2] 40)) (by simp)); have hz2 := hk2.out.size) | (refine wpList_store_blk (by rfl) 40 _ _ (by rfl) w.heap.size _ 40 HB3.out #[.int .i64 8, .string ⟨#[]⟩, .int .i64 0, .int .i64 0, .int .i64 0, .int .i64 0, .int .i64 0, .slice (some ⟨w2.heap.size, 0, none⟩) 1 1] (by rfl) (by rfl) info40s (by rfl) (by simp [Value.oneCell']) (fun V hV hkV => ?_); have HV := Lib.hid hV; have HKV := Lib.hid hkV; clear hV hkV))
    have hown : (w2.alloc (.cells #[.int .i64 c.op, str c.text, .int .i64 c.n, .int .i64 c.box.x0, .int .i64 c.box.y0, .int .i64 c.box.x1, .int .i64 c.box.y1, .slice a2 m2 p2] 40)).ownsRow (w.heap.size + 1) 40 8 (.slice (some ⟨w2.heap.size, 0, none⟩) 1 1) [(c, Value.slice a2 m2 p2)].length ([(c, Value.slice a2 m2 p2)].flatMap cC) := own_one (by omega)
    have htree : TreeB w.heap.size V (Ru.Cond.mk 8 [] 0 .none [c]) (.slice (some ⟨w2.heap.size, 0, none⟩) 1 1) := TreeP.of (ps := [(c, Value.slice a2 m2 p2)]) rfl (isConds_row (S := fun b => w.heap.size < b) (isList_own (m := 8) (f := cC) (fun _ => rfl) hown) (fun a m c e _ => by injection e with e; injection e with e; subst e; show w.heap.size < w2.heap.size; omega) HKV.out (fun r hr hs => by injection hr with hr; omega)) (fun a m c e _ => by injection e with e; injection e with e; subst e; show w.heap.size ≤ w2.heap.size; omega) (fun p hp => by rw [List.mem_singleton] at hp; subst hp; exact ((ht2.out.keep ((Kp.refl w2 none).alloc _)).row HKV.out (fun r hr hs => by injection hr with hr; omega)).mono (fun b _ hb => by omega))
    refine bodyPost_ret (results_cell_row (p := 2) (ty := 40) (by rfl) _ V w.heap.size 40 #[.int .i64 8, .string ⟨#[]⟩, .int .i64 0, .int .i64 0, .int .i64 0, .int .i64 0, .int .i64 0, .slice (some ⟨w2.heap.size, 0, none⟩) 1 1] (0, 0) _ (by rfl) HV.out Tryz.underlying40 (by rfl) info40s) (by rfl) ?_
    exact HRET.out V (Ru.Cond.mk 8 [] 0 .none [c]) _ r2 (HN0.out) ⟨_, _, _, rfl, htree⟩ ((hr2.out.keep ((Kp.refl w2 none).alloc _)).far HKV.out hRw) (Kp.of_own ((HK1.out.trans hk2.out).alloc _) HKV.out (Nat.le_refl _))
  by_cases x8 : x = Ru.kwL
  case pos =>
   have x8q : x = [40] := x8
   clear x8
   subst x8q
   have q1 : (Instr.lookup 158 (.map (some (w.heap.size + 1))) (str [40]) true).run Tryz.prog w1 = .ok (.tuple #[.int .i64 0, .bool false]) w1 := hl1.trans rfl
   have q2 : (Instr.lookup 158 (.map (some (w.heap.size + 1 + 1))) (str [40]) true).run Tryz.prog w1 = .ok (.tuple #[.int .i64 0, .bool false]) w1 := hl2.trans rfl
   clear hl1 hl2
   have HF1 : Hid (res = (Ru.orc (Ru.fac n) r).bind fun p => (Ru.must Ru.kwR p.2).map fun q => (p.1, q)) := Lib.hid (by rw [HF.out]; first | rw [if_neg (by decide), if_neg (by decide), if_neg (by decide), if_neg (by decide), if_neg (by decide), if_neg (by decide), if_neg (by decide), if_neg (by decide), if_pos rfl] | rfl)
   have c2 := cond_any (Ru.fac n) (Ru.fac_less n) n R hR (by omega) (fun u vs hu hru hv => HIH.out R u vs hR hu hru hv) w1 HE1.out r hr1.out hrn
   cases hn2 : Ru.orc (Ru.fac n) r with
   | none =>
    rw [hn2] at c2
    have c3 : Calls Tryz.prog 78 #[.pointer (some ⟨R, 0, none⟩)] w1 fun e w' => e = .panicked badP ∧ Kp w1 w' (some R) := c2
    have HN0 : Hid (res = none) := Lib.hid (by rw [HF1.out, hn2]; rfl)
    clear c2 hn2
    go_wp2_with (go_at_call 78; refine c3.mono ?_; rintro e w2 ⟨rfl, hk2⟩)
    exact ⟨rfl, HO.out HN0.out _ (HK1.out.trans hk2)⟩
   | some q2 =>
    obtain ⟨c, r2⟩ := q2
    rw [hn2] at c2
    have c3 : Calls Tryz.prog 78 #[.pointer (some ⟨R, 0, none⟩)] w1 fun e w' => (∃ a2 m2 p2, e = .returned (.agg #[.int .i64 c.op, str c.text, .int .i64 c.n, .int .i64 c.box.x0, .int .i64 c.box.y0, .int .i64 c.box.x1, .int .i64 c.box.y1, .slice a2 m2 p2]) ∧ Hid (TreeB w1.heap.size w' c (.slice a2 m2 p2))) ∧ Hid (RdAt R w' r2) ∧ Hid (Kp w1 w' (some R)) := c2.mono fun e w' ⟨⟨v, e1, ⟨a, m, p, e2, h3⟩, h4⟩, h5⟩ => ⟨⟨a, m, p, by rw [e1, e2], Lib.hid h3⟩, Lib.hid h4, Lib.hid h5⟩
    clear c2
    go_wp2_with (first | (go_at_call 78; refine c3.mono ?_; rintro e w2 ⟨⟨a2, m2, p2, rfl, ht2⟩, hr2, hk2⟩; have HB2 := Lib.hid (res_kept HB1.out hk2.out (by intro q hq; injection hq with hq; omega)); have hz2 := hk2.out.size) | (refine wpList_store_new (by rfl) 40 _ _ (by rfl) #[.int .i64 0, .string ⟨#[]⟩, .int .i64 0, .int .i64 0, .int .i64 0, .int .i64 0, .int .i64 0, .slice none 0 0] #[.int .i64 c.op, str c.text, .int .i64 c.n, .int .i64 c.box.x0, .int .i64 c.box.y0, .int .i64 c.box.x1, .int .i64 c.box.y1, .slice a2 m2 p2] 40 (by rfl) (by rfl) (by rfl) info40s (by rfl) (by simp [Value.oneCell']) ?_))
    have cM := must_any Ru.kwR R (w2.alloc (.cells #[.int .i64 c.op, str c.text, .int .i64 c.n, .int .i64 c.box.x0, .int .i64 c.box.y0, .int .i64 c.box.x1, .int .i64 c.box.y1, .slice a2 m2 p2] 40)) r2 (hr2.out.keep ((Kp.refl w2 none).alloc _))
    have HB3 := Lib.hid (res_kept HB2.out ((Kp.refl w2 none).alloc (.cells #[.int .i64 c.op, str c.text, .int .i64 c.n, .int .i64 c.box.x0, .int .i64 c.box.y0, .int .i64 c.box.x1, .int .i64 c.box.y1, .slice a2 m2 p2] 40)) (by simp))
    have HC3 := Lib.hid (heap_alloc_new w2 (.cells #[.int .i64 c.op, str c.text, .int .i64 c.n, .int .i64 c.box.x0, .int .i64 c.box.y0, .int .i64 c.box.x1, .int .i64 c.box.y1, .slice a2 m2 p2] 40))
    cases hm : Ru.must Ru.kwR r2 with
    | none =>
     rw [hm] at cM
     have c4 : Calls Tryz.prog 74 #[.pointer (some ⟨R, 0, none⟩), .string ⟨#[41]⟩] (w2.alloc (.cells #[.int .i64 c.op, str c.text, .int .i64 c.n, .int .i64 c.box.x0, .int .i64 c.box.y0, .int .i64 c.box.x1, .int .i64 c.box.y1, .slice a2 m2 p2] 40)) fun e w' => e = .panicked badP ∧ Kp (w2.alloc (.cells #[.int .i64 c.op, str c.text, .int .i64 c.n, .int .i64 c.box.x0, .int .i64 c.box.y0, .int .i64 c.box.x1, .int .i64 c.box.y1, .slice a2 m2 p2] 40)) w' (some R) := cM
     have HN0 : Hid (res = none) := Lib.hid (by rw [HF1.out, hn2, Option.bind_some, hm]; rfl)
     clear cM hm hn2
     refine c4.mono ?_
     rintro e w3 ⟨rfl, hk3⟩
     exact ⟨rfl, HO.out HN0.out _ (((HK1.out.trans hk2.out).alloc _).trans hk3)⟩
    | some r3 =>
     rw [hm] at cM
     have c4 : Calls Tryz.prog 74 #[.pointer (some ⟨R, 0, none⟩), .string ⟨#[41]⟩] (w2.alloc (.cells #[.int .i64 c.op, str c.text, .int .i64 c.n, .int .i64 c.box.x0, .int .i64 c.box.y0, .int .i64 c.box.x1, .int .i64 c.box.y1, .slice a2 m2 p2] 40)) fun e w' => e = .returned (.tuple #[]) ∧ Hid (RdAt R w' r3) ∧ Hid (Kp (w2.alloc (.cells #[.int .i64 c.op, str c.text, .int .i64 c.n, .int .i64 c.box.x0, .int .i64 c.box.y0, .int .i64 c.box.x1, .int .i64 c.box.y1, .slice a2 m2 p2] 40)) w' (some R)) := cM.mono fun e w' ⟨⟨v, h1, h2, h3⟩, h4⟩ => ⟨by rw [h1, h2], Lib.hid h3, Lib.hid h4⟩
     have HN0 : Hid (res = some (c, r3)) := Lib.hid (by rw [HF1.out, hn2, Option.bind_some, hm]; rfl)
     clear cM hm hn2
     refine c4.mono ?_
     rintro e w3 ⟨rfl, hr3, hk3⟩
     have HB4 := Lib.hid (res_kept HB3.out hk3.out (by intro q hq; injection hq with hq; omega))
     have HC4 := Lib.hid (res_kept HC3.out hk3.out (by intro q hq; injection hq with hq; omega))
     have HRG : Hid (w3.rangeAt w2.heap.size 0 #[.int .i64 c.op, str c.text, .int .i64 c.n, .int .i64 c.box.x0, .int .i64 c.box.y0, .int .i64 c.box.x1, .int .i64 c.box.y1, .slice a2 m2 p2].toList) := Lib.hid (fun j v hv => by rw [Nat.zero_add]; exact hcell HC4.out j (by simpa using hv))
     go_wp2_with (first | (refine wpList_load_mid (by rfl) 40 _ (by rfl) w2.heap.size 0 (by rfl) #[.int .i64 c.op, str c.text, .int .i64 c.n, .int .i64 c.box.x0, .int .i64 c.box.y0, .int .i64 c.box.x1, .int .i64 c.box.y1, .slice a2 m2 p2].toList _ HRG.out Tryz.underlying40 (by rfl) info40s ?_) | (refine wpList_store_blk (by rfl) 40 _ _ (by rfl) w.heap.size _ 40 HB4.out #[.int .i64 c.op, str c.text, .int .i64 c.n, .int .i64 c.box.x0, .int .i64 c.box.y0, .int .i64 c.box.x1, .int .i64 c.box.y1, .slice a2 m2 p2] (by rfl) (by rfl) info40s (by rfl) (by simp [Value.oneCell']) (fun V hV hkV => ?_); have HV := Lib.hid hV; have HKV := Lib.hid hkV; clear hV hkV))
     refine bodyPost_ret (results_cell_row (p := 2) (ty := 40) (by rfl) _ V w.heap.size 40 #[.int .i64 c.op, str c.text, .int .i64 c.n, .int .i64 c.box.x0, .int .i64 c.box.y0, .int .i64 c.box.x1, .int .i64 c.box.y1, .slice a2 m2 p2] (0, 0) _ (by rfl) HV.out Tryz.underlying40 (by rfl) info40s) (by rfl) ?_
     exact HRET.out V (c) _ r3 (HN0.out) ⟨a2, m2, p2, rfl, (((ht2.out.keep ((Kp.refl w2 none).alloc _)).row hk3.out (fun r hr hs => by injection hr with hr; omega)).row HKV.out (fun r hr hs => by injection hr with hr; omega)).mono (fun b _ hb => by omega)⟩ (hr3.out.far HKV.out hRw) (Kp.of_own (((HK1.out.trans hk2.out).alloc _).trans hk3.out) HKV.out (Nat.le_refl _))
  have HN0 : Hid (res = none) := Lib.hid (by rw [HF.out, if_neg x0, if_neg x1, if_neg x2, if_neg x3, if_neg x4, if_neg x5, if_neg x6, if_neg x7, if_neg x8])
  have q1 : (Instr.lookup 158 (.map (some (w.heap.size + 1))) (str x) true).run Tryz.prog w1 = .ok (.tuple #[.int .i64 0, .bool false]) w1 := by rw [hl1]; simp [x0, x1]
  have q2 : (Instr.lookup 158 (.map (some (w.heap.size + 1 + 1))) (str x) true).run Tryz.prog w1 = .ok (.tuple #[.int .i64 0, .bool false]) w1 := by rw [hl2]; simp [x2, x3, x4]
  have y5 : (x == [97, 110, 121]) = false := beq_eq_false_iff_ne.2 (show x ≠ [97, 110, 121] from x5)
  have y6 : (x == [105, 110]) = false := beq_eq_false_iff_ne.2 (show x ≠ [105, 110] from x6)
  have y7 : (x == [110, 111, 116]) = false := beq_eq_false_iff_ne.2 (show x ≠ [110, 111, 116] from x7)
  have y8 : (x == [40]) = false := beq_eq_false_iff_ne.2 (show x ≠ [40] from x8)
  clear hl1 hl2 x0 x1 x2 x3 x4 x5 x6 x7 x8
  go_wp2_with fail
  exact ⟨rfl, HO.out HN0.out _ HK1.out⟩
end Go.Proofs.YtnchipahdfbliaaGreatDoor

