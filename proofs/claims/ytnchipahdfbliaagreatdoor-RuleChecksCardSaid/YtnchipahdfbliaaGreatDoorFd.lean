/- The program's conditions read: factor at any number of words, cond. Conditions: those of the reader. -/
import Derived.Test.YtnchipahdfbliaaGreatDoorFc
namespace Go.Proofs.YtnchipahdfbliaaGreatDoor
open Go.RowKit

set_option maxHeartbeats 8000000 in
set_option maxRecDepth 100000 in
theorem fac_nil (R : Nat) (w : World) (h : RdAt R w []) : Calls Tryz.prog 104 #[.pointer (some ⟨R, 0, none⟩)] w fun e w' => e = .panicked badP ∧ Kp w w' (some R) := by
 have hK3 : Kp w (((w.alloc (.cells #[.int .i64 0, .string ⟨#[]⟩, .int .i64 0, .int .i64 0, .int .i64 0, .int .i64 0, .int .i64 0, .slice none 0 0] 40)).alloc (.map #[ent Ru.kwNet 2 0, ent Ru.kwClass 3 1] 2)).alloc (.map #[ent Ru.kwKind 4 0, ent Ru.kwLayer 5 1, ent Ru.kwPart 6 2] 3)) none := (((Kp.refl _ _).alloc _).alloc _).alloc _
 have cn := next_any R _ [] (h.keep hK3)
 have cn2 : Calls Tryz.prog 75 #[.pointer (some ⟨R, 0, none⟩)] (((w.alloc (.cells #[.int .i64 0, .string ⟨#[]⟩, .int .i64 0, .int .i64 0, .int .i64 0, .int .i64 0, .int .i64 0, .slice none 0 0] 40)).alloc (.map #[ent Ru.kwNet 2 0, ent Ru.kwClass 3 1] 2)).alloc (.map #[ent Ru.kwKind 4 0, ent Ru.kwLayer 5 1, ent Ru.kwPart 6 2] 3)) fun e w' => e = .panicked badP ∧ Kp (((w.alloc (.cells #[.int .i64 0, .string ⟨#[]⟩, .int .i64 0, .int .i64 0, .int .i64 0, .int .i64 0, .int .i64 0, .slice none 0 0] 40)).alloc (.map #[ent Ru.kwNet 2 0, ent Ru.kwClass 3 1] 2)).alloc (.map #[ent Ru.kwKind 4 0, ent Ru.kwLayer 5 1, ent Ru.kwPart 6 2] 3)) w' (some R) := cn
 have HK3 := Lib.hid hK3
 clear cn h hK3
 have hmm := @run_makeMap Tryz.prog
 go_enter Tryz.func104, Tryz.ntmps104
 go_wp2_with (first | (refine wpList_insert_new (by rfl) 158 _ _ _ (by rfl) und158 Tryz.underlying9 (w.alloc (.cells #[.int .i64 0, .string ⟨#[]⟩, .int .i64 0, .int .i64 0, .int .i64 0, .int .i64 0, .int .i64 0, .slice none 0 0] 40)) (w.heap.size + 1) (by simp) #[] 0 Ru.kwNet 2 (by rfl) (by rfl) (by rfl) (by first | rfl | (simp [find_cons, Ru.kwNet, Ru.kwClass, Ru.kwKind, Ru.kwLayer, Ru.kwPart, Instr.findNow])) ?_) | (refine wpList_insert_new (by rfl) 158 _ _ _ (by rfl) und158 Tryz.underlying9 (w.alloc (.cells #[.int .i64 0, .string ⟨#[]⟩, .int .i64 0, .int .i64 0, .int .i64 0, .int .i64 0, .int .i64 0, .slice none 0 0] 40)) (w.heap.size + 1) (by simp) #[ent Ru.kwNet 2 0] 1 Ru.kwClass 3 (by rfl) (by rfl) (by rfl) (by first | rfl | (simp [find_cons, Ru.kwNet, Ru.kwClass, Ru.kwKind, Ru.kwLayer, Ru.kwPart, Instr.findNow])) ?_) | (refine wpList_insert_new (by rfl) 158 _ _ _ (by rfl) und158 Tryz.underlying9 ((w.alloc (.cells #[.int .i64 0, .string ⟨#[]⟩, .int .i64 0, .int .i64 0, .int .i64 0, .int .i64 0, .int .i64 0, .slice none 0 0] 40)).alloc (.map #[ent Ru.kwNet 2 0, ent Ru.kwClass 3 1] 2)) (w.heap.size + 1 + 1) (by simp) #[] 0 Ru.kwKind 4 (by rfl) (by rfl) (by rfl) (by first | rfl | (simp [find_cons, Ru.kwNet, Ru.kwClass, Ru.kwKind, Ru.kwLayer, Ru.kwPart, Instr.findNow])) ?_) | (refine wpList_insert_new (by rfl) 158 _ _ _ (by rfl) und158 Tryz.underlying9 ((w.alloc (.cells #[.int .i64 0, .string ⟨#[]⟩, .int .i64 0, .int .i64 0, .int .i64 0, .int .i64 0, .int .i64 0, .slice none 0 0] 40)).alloc (.map #[ent Ru.kwNet 2 0, ent Ru.kwClass 3 1] 2)) (w.heap.size + 1 + 1) (by simp) #[ent Ru.kwKind 4 0] 1 Ru.kwLayer 5 (by rfl) (by rfl) (by rfl) (by first | rfl | (simp [find_cons, Ru.kwNet, Ru.kwClass, Ru.kwKind, Ru.kwLayer, Ru.kwPart, Instr.findNow])) ?_) | (refine wpList_insert_new (by rfl) 158 _ _ _ (by rfl) und158 Tryz.underlying9 ((w.alloc (.cells #[.int .i64 0, .string ⟨#[]⟩, .int .i64 0, .int .i64 0, .int .i64 0, .int .i64 0, .int .i64 0, .slice none 0 0] 40)).alloc (.map #[ent Ru.kwNet 2 0, ent Ru.kwClass 3 1] 2)) (w.heap.size + 1 + 1) (by simp) #[ent Ru.kwKind 4 0, ent Ru.kwLayer 5 1] 2 Ru.kwPart 6 (by rfl) (by rfl) (by rfl) (by first | rfl | (simp [find_cons, Ru.kwNet, Ru.kwClass, Ru.kwKind, Ru.kwLayer, Ru.kwPart, Instr.findNow])) ?_) | (go_at_call 75; refine cn2.mono ?_; rintro e w1 ⟨rfl, hk⟩))
 exact ⟨rfl, rfl, (HK3.out.weak _).trans hk⟩
theorem facIs : ∀ n, n ≤ 1000000000000 → FacIs n
 | 0, _ => fun R w ws _ _ h hlen => by
  have e : ws = [] := List.length_eq_zero_iff.1 (by omega)
  subst e
  exact fac_nil R w h
 | n + 1, hn => fac_step n hn (facIs n (by omega))
theorem orc_any (R : Nat) (hR : 8 ≤ R) (w : World) (he : Env w) (ws : Ru.Ws) (h : RdAt R w ws) : Calls Tryz.prog 78 #[.pointer (some ⟨R, 0, none⟩)] w (Out (Ru.orc (Ru.fac ws.length) ws) (fun c w' v => CondV w.heap.size c w' v) R w) := by
 have hl : ws.length ≤ 1000000000000 := by obtain ⟨_, _, _, _, _, h4⟩ := h; exact h4.1
 exact cond_any (Ru.fac ws.length) (Ru.fac_less _) ws.length R hR hl (fun u vs hu hru hv => facIs _ hl R u vs hR hu hru hv) w he ws h (Nat.le_refl _)
end Go.Proofs.YtnchipahdfbliaaGreatDoor
