/- The reference's conditions read: factor. Condition: at most 10^12 words. -/
import Derived.Test.YtnchipahdfbliaaGreatDoorRno
namespace Go.Proofs.YtnchipahdfbliaaGreatDoor
open Go.RowKit

def FacR (k R : Nat) : Prop := ∀ (w : World) (st : Option Ru.Ws), RrAt R w st → (∀ vs, st = some vs → vs.length ≤ k) → Calls Tryz.prog 129 #[.pointer (some ⟨R, 0, none⟩)] w (CondR (st.bind (Ru.fac k)) R w)
def OrR (k R : Nat) : Prop := ∀ (w : World) (st : Option Ru.Ws), RrAt R w st → (∀ vs, st = some vs → vs.length ≤ k) → Calls Tryz.prog 83 #[.pointer (some ⟨R, 0, none⟩)] w (CondR (st.bind (Ru.orc (Ru.fac k))) R w)
theorem orR_of {k R : Nat} (hk : k ≤ 1000000000000) (h : FacR k R) : OrR k R := fun w st hr hN =>
 listR_83 (Ru.lst Ru.kwAnd 9 (Ru.fac k)) (Ru.lst_less (Ru.fac_less k)) k R hk (fun u su hu hs => listR_106 (Ru.fac k) (Ru.fac_less k) k R hk (fun v sv hv hsv => h v sv hv hsv) u su hu hs) w st hr hN
set_option maxHeartbeats 16000000 in
set_option maxRecDepth 100000 in
theorem facR_none (k R : Nat) (w : World) (st : Option Ru.Ws) (h : RrAt R w st) (hn : st.bind Ru.next = none) : Calls Tryz.prog 129 #[.pointer (some ⟨R, 0, none⟩)] w (CondR (st.bind (Ru.fac k)) R w) := by
 have HO : Hid (st.bind (Ru.fac k) = none) := Lib.hid (by
  cases st with
  | none => rfl
  | some ws =>
   show Ru.fac k ws = none
   cases k with
   | zero => rfl
   | succ k => rw [Ru.fac, show Ru.next ws = none from hn])
 have hRw := h.lt
 have hK1 : Kp w (w.alloc (.cells #[.int .i64 0, .string ⟨#[]⟩, .int .i64 0, .int .i64 0, .int .i64 0, .int .i64 0, .int .i64 0, .slice none 0 0] 40)) none := (Kp.refl _ _).alloc _
 have cw := wordR_any R _ st (h.keep hK1)
 have HK1 := Lib.hid hK1
 have hZ : (w.alloc (.cells #[.int .i64 0, .string ⟨#[]⟩, .int .i64 0, .int .i64 0, .int .i64 0, .int .i64 0, .int .i64 0, .slice none 0 0] 40)).heap.size = w.heap.size + 1 := by simp
 have HB0 := Lib.hid (heap_alloc_new w (.cells #[.int .i64 0, .string ⟨#[]⟩, .int .i64 0, .int .i64 0, .int .i64 0, .int .i64 0, .int .i64 0, .slice none 0 0] 40))
 generalize hW0 : w.alloc (.cells #[.int .i64 0, .string ⟨#[]⟩, .int .i64 0, .int .i64 0, .int .i64 0, .int .i64 0, .int .i64 0, .slice none 0 0] 40) = W0 at *
 unfold WordIs at cw
 clear hK1
 rw [hn] at cw
 clear hn h
 have cw : Calls Tryz.prog 81 #[.pointer (some ⟨R, 0, none⟩)] W0 fun e w' => e = .returned (str []) ∧ Hid (RrAt R w' none) ∧ Hid (Kp W0 w' (some R)) := cw.mono fun e w' ⟨h1, h2, h3⟩ => ⟨h1, Lib.hid h2, Lib.hid h3⟩
 go_enter Tryz.func129, Tryz.ntmps129
 go_wp2_with fail
 try rw [hW0]
 clear hW0
 refine cw.mono ?_
 clear cw
 rintro e w1 ⟨rfl, H1, HKW⟩
 have HB1 := Lib.hid (res_kept HB0.out HKW.out (by intro q hq; injection hq with hq; omega))
 have hz1 := HKW.out.size
 obtain ⟨⟨jb, g1, hjb⟩, g2, g3, gb, g4⟩ := H1.out.cells
 have HBAD := Lib.hid (H1.out.bad)
 have ks : Kp w1 (w1.setCell ⟨R, 2, none⟩ (.bool true)) (some R) := (Kp.refl _ _).set _
 have HKS := Lib.hid ks
 have HBS := Lib.hid (res_kept HB1.out ks (by intro q hq; injection hq with hq; omega))
 have HKE := Lib.hid ((HKW.out).trans ks)
 clear ks
 go_wp2_with (refine wpList_store_blk (by rfl) 40 _ _ (by rfl) w.heap.size _ 40 HBS.out #[.int .i64 0, .string ⟨#[]⟩, .int .i64 0, .int .i64 0, .int .i64 0, .int .i64 0, .int .i64 0, .slice none 0 0] (by rfl) (by rfl) info40s (by rfl) (by simp [Value.oneCell']) (fun V hV hkV => ?_); have HV := Lib.hid hV; have HKV := Lib.hid hkV; clear hV hkV)
 refine bodyPost_ret (results_cell_row (p := 2) (ty := 40) (by rfl) _ V w.heap.size 40 #[.int .i64 0, .string ⟨#[]⟩, .int .i64 0, .int .i64 0, .int .i64 0, .int .i64 0, .int .i64 0, .slice none 0 0] (0, 0) _ (by rfl) HV.out Tryz.underlying40 (by rfl) info40s) (by rfl) ?_
 exact ⟨.mk 0 [] 0 .none [], _, _, _, rfl, TreeP.leaf rfl, (by rw [HO.out]; exact HBAD.out.far HKV.out hRw), (fun c r h => by rw [HO.out] at h; cases h), Kp.of_own ((HK1.out.weak _).trans HKE.out) HKV.out (Nat.le_refl _)⟩
set_option maxHeartbeats 16000000 in
set_option maxRecDepth 100000 in
theorem facR_any1 (j R : Nat) (w : World) (r : Ru.Ws) (h : RrAt R w (some (Ru.kwAny :: r))) : Calls Tryz.prog 129 #[.pointer (some ⟨R, 0, none⟩)] w (CondR (Ru.fac (j + 1) (Ru.kwAny :: r)) R w) := by
 obtain ⟨st, hst⟩ : ∃ st, some (Ru.kwAny :: r) = st := ⟨_, rfl⟩
 rw [hst] at h
 have hRw := h.lt
 have hK1 : Kp w (w.alloc (.cells #[.int .i64 0, .string ⟨#[]⟩, .int .i64 0, .int .i64 0, .int .i64 0, .int .i64 0, .int .i64 0, .slice none 0 0] 40)) none := (Kp.refl _ _).alloc _
 have cw := wordR_any R _ st (h.keep hK1)
 have HK1 := Lib.hid hK1
 have hZ : (w.alloc (.cells #[.int .i64 0, .string ⟨#[]⟩, .int .i64 0, .int .i64 0, .int .i64 0, .int .i64 0, .int .i64 0, .slice none 0 0] 40)).heap.size = w.heap.size + 1 := by simp
 have HB0 := Lib.hid (heap_alloc_new w (.cells #[.int .i64 0, .string ⟨#[]⟩, .int .i64 0, .int .i64 0, .int .i64 0, .int .i64 0, .int .i64 0, .slice none 0 0] 40))
 generalize hW0 : w.alloc (.cells #[.int .i64 0, .string ⟨#[]⟩, .int .i64 0, .int .i64 0, .int .i64 0, .int .i64 0, .int .i64 0, .slice none 0 0] 40) = W0 at *
 unfold WordIs at cw
 clear hK1
 rw [← hst] at cw
 have hnx : (some (Ru.kwAny :: r)).bind Ru.next = some (Ru.kwAny, r) := show Ru.next (Ru.kwAny :: r) = some (Ru.kwAny, r) from Ru.next_cons (by decide)
 rw [hnx] at cw
 clear hst hnx h
 have cw : Calls Tryz.prog 81 #[.pointer (some ⟨R, 0, none⟩)] W0 fun e w' => e = .returned (.string ⟨#[97, 110, 121]⟩) ∧ Hid (RrAt R w' (some r)) ∧ Hid (Kp W0 w' (some R)) := cw.mono fun e w' ⟨h1, h2, h3⟩ => ⟨h1, Lib.hid h2, Lib.hid h3⟩
 go_enter Tryz.func129, Tryz.ntmps129
 go_wp2_with fail
 try rw [hW0]
 clear hW0
 refine cw.mono ?_
 clear cw
 rintro e w1 ⟨rfl, H1, HKW⟩
 have HB1 := Lib.hid (res_kept HB0.out HKW.out (by intro q hq; injection hq with hq; omega))
 have hz1 := HKW.out.size
 have HO : Hid (Ru.fac (j + 1) (Ru.kwAny :: r) = some (Ru.cAny, r)) := Lib.hid (by rw [Ru.fac, Ru.next_cons (by decide)]; rfl)
 go_wp2_with (refine wpList_store_blk (by rfl) 40 _ _ (by rfl) w.heap.size _ 40 HB1.out #[.int .i64 1, .string ⟨#[]⟩, .int .i64 0, .int .i64 0, .int .i64 0, .int .i64 0, .int .i64 0, .slice none 0 0] (by rfl) (by rfl) info40s (by rfl) (by simp [Value.oneCell']) (fun V hV hkV => ?_); have HV := Lib.hid hV; have HKV := Lib.hid hkV; clear hV hkV)
 refine bodyPost_ret (results_cell_row (p := 2) (ty := 40) (by rfl) _ V w.heap.size 40 #[.int .i64 1, .string ⟨#[]⟩, .int .i64 0, .int .i64 0, .int .i64 0, .int .i64 0, .int .i64 0, .slice none 0 0] (0, 0) _ (by rfl) HV.out Tryz.underlying40 (by rfl) info40s) (by rfl) ?_
 exact ⟨Ru.cAny, _, _, _, rfl, TreeP.leaf rfl, (by rw [HO.out]; exact H1.out.far HKV.out hRw), (fun c r h => by rw [HO.out] at h; injection h with h; injection h with h _; exact h.symm), Kp.of_own ((HK1.out.weak _).trans HKW.out) HKV.out (Nat.le_refl _)⟩
set_option maxHeartbeats 16000000 in
set_option maxRecDepth 100000 in
theorem facR_net (j R : Nat) (w : World) (r : Ru.Ws) (h : RrAt R w (some (Ru.kwNet :: r))) : Calls Tryz.prog 129 #[.pointer (some ⟨R, 0, none⟩)] w (CondR (Ru.fac (j + 1) (Ru.kwNet :: r)) R w) := by
 obtain ⟨st, hst⟩ : ∃ st, some (Ru.kwNet :: r) = st := ⟨_, rfl⟩
 rw [hst] at h
 have hRw := h.lt
 have hK1 : Kp w (w.alloc (.cells #[.int .i64 0, .string ⟨#[]⟩, .int .i64 0, .int .i64 0, .int .i64 0, .int .i64 0, .int .i64 0, .slice none 0 0] 40)) none := (Kp.refl _ _).alloc _
 have cw := wordR_any R _ st (h.keep hK1)
 have HK1 := Lib.hid hK1
 have hZ : (w.alloc (.cells #[.int .i64 0, .string ⟨#[]⟩, .int .i64 0, .int .i64 0, .int .i64 0, .int .i64 0, .int .i64 0, .slice none 0 0] 40)).heap.size = w.heap.size + 1 := by simp
 have HB0 := Lib.hid (heap_alloc_new w (.cells #[.int .i64 0, .string ⟨#[]⟩, .int .i64 0, .int .i64 0, .int .i64 0, .int .i64 0, .int .i64 0, .slice none 0 0] 40))
 generalize hW0 : w.alloc (.cells #[.int .i64 0, .string ⟨#[]⟩, .int .i64 0, .int .i64 0, .int .i64 0, .int .i64 0, .int .i64 0, .slice none 0 0] 40) = W0 at *
 unfold WordIs at cw
 clear hK1
 rw [← hst] at cw
 have hnx : (some (Ru.kwNet :: r)).bind Ru.next = some (Ru.kwNet, r) := show Ru.next (Ru.kwNet :: r) = some (Ru.kwNet, r) from Ru.next_cons (by decide)
 rw [hnx] at cw
 clear hst hnx h
 have cw : Calls Tryz.prog 81 #[.pointer (some ⟨R, 0, none⟩)] W0 fun e w' => e = .returned (.string ⟨#[110, 101, 116]⟩) ∧ Hid (RrAt R w' (some r)) ∧ Hid (Kp W0 w' (some R)) := cw.mono fun e w' ⟨h1, h2, h3⟩ => ⟨h1, Lib.hid h2, Lib.hid h3⟩
 go_enter Tryz.func129, Tryz.ntmps129
 go_wp2_with fail
 try rw [hW0]
 clear hW0
 refine cw.mono ?_
 clear cw
 rintro e w1 ⟨rfl, H1, HKW⟩
 have HB1 := Lib.hid (res_kept HB0.out HKW.out (by intro q hq; injection hq with hq; omega))
 have hz1 := HKW.out.size
 have HO0 : Hid (Ru.fac (j + 1) (Ru.kwNet :: r) = (Ru.next r).map fun p => (Ru.leaf 2 p.1 0 .none, p.2)) := Lib.hid (by rw [Ru.fac, Ru.next_cons (by decide)]; rfl)
 have c2 := wordR_any R w1 (some r) H1.out
 obtain ⟨y, hy⟩ : ∃ y, ((((some r).bind Ru.next).map (·.1)).getD [] : List UInt8) = y := ⟨_, rfl⟩
 obtain ⟨su, hsu⟩ : ∃ s, (((some r).bind Ru.next).map (·.2)) = s := ⟨_, rfl⟩
 have c2 : Calls Tryz.prog 81 #[.pointer (some ⟨R, 0, none⟩)] w1 fun e w' => e = .returned (str y) ∧ Hid (RrAt R w' su) ∧ Hid (Kp w1 w' (some R)) := c2.mono fun e w' ⟨h1, h2, h3⟩ => ⟨by rw [h1, hy], Lib.hid (by rw [← hsu]; exact h2), Lib.hid h3⟩
 have HO : Hid ((Ru.fac (j + 1) (Ru.kwNet :: r)).map (·.2) = su ∧ ∀ c r', Ru.fac (j + 1) (Ru.kwNet :: r) = some (c, r') → c = Ru.leaf 2 y 0 .none) := Lib.hid (by
  rw [HO0.out, ← hsu, ← hy]
  show (((Ru.next r).map _).map _ = (Ru.next r).map _) ∧ ∀ c r', (Ru.next r).map _ = some (c, r') → c = Ru.leaf 2 (((Ru.next r).map _).getD []) 0 .none
  cases Ru.next r with
  | none => exact ⟨rfl, fun c r' h => by cases h⟩
  | some q => exact ⟨rfl, fun c r' h => by injection h with h; injection h with h _; exact h.symm⟩)
 clear hy hsu
 go_wp2_with fail
 refine c2.mono ?_
 clear c2
 rintro e w2 ⟨rfl, H2, HK2⟩
 have HB2 := Lib.hid (res_kept HB1.out HK2.out (by intro q hq; injection hq with hq; omega))
 go_wp2_with (refine wpList_store_blk (by rfl) 40 _ _ (by rfl) w.heap.size _ 40 HB2.out #[.int .i64 2, str y, .int .i64 0, .int .i64 0, .int .i64 0, .int .i64 0, .int .i64 0, .slice none 0 0] (by rfl) (by rfl) info40s (by rfl) (by simp [Value.oneCell']) (fun V hV hkV => ?_); have HV := Lib.hid hV; have HKV := Lib.hid hkV; clear hV hkV)
 refine bodyPost_ret (results_cell_row (p := 2) (ty := 40) (by rfl) _ V w.heap.size 40 #[.int .i64 2, str y, .int .i64 0, .int .i64 0, .int .i64 0, .int .i64 0, .int .i64 0, .slice none 0 0] (0, 0) _ (by rfl) HV.out Tryz.underlying40 (by rfl) info40s) (by rfl) ?_
 exact ⟨Ru.leaf 2 y 0 .none, _, _, _, rfl, TreeP.leaf rfl, (by rw [HO.out.1]; exact H2.out.far HKV.out hRw), (fun c r h => HO.out.2 c r h), Kp.of_own (((HK1.out.weak _).trans HKW.out).trans HK2.out) HKV.out (Nat.le_refl _)⟩
set_option maxHeartbeats 16000000 in
set_option maxRecDepth 100000 in
theorem facR_class (j R : Nat) (w : World) (r : Ru.Ws) (h : RrAt R w (some (Ru.kwClass :: r))) : Calls Tryz.prog 129 #[.pointer (some ⟨R, 0, none⟩)] w (CondR (Ru.fac (j + 1) (Ru.kwClass :: r)) R w) := by
 obtain ⟨st, hst⟩ : ∃ st, some (Ru.kwClass :: r) = st := ⟨_, rfl⟩
 rw [hst] at h
 have hRw := h.lt
 have hK1 : Kp w (w.alloc (.cells #[.int .i64 0, .string ⟨#[]⟩, .int .i64 0, .int .i64 0, .int .i64 0, .int .i64 0, .int .i64 0, .slice none 0 0] 40)) none := (Kp.refl _ _).alloc _
 have cw := wordR_any R _ st (h.keep hK1)
 have HK1 := Lib.hid hK1
 have hZ : (w.alloc (.cells #[.int .i64 0, .string ⟨#[]⟩, .int .i64 0, .int .i64 0, .int .i64 0, .int .i64 0, .int .i64 0, .slice none 0 0] 40)).heap.size = w.heap.size + 1 := by simp
 have HB0 := Lib.hid (heap_alloc_new w (.cells #[.int .i64 0, .string ⟨#[]⟩, .int .i64 0, .int .i64 0, .int .i64 0, .int .i64 0, .int .i64 0, .slice none 0 0] 40))
 generalize hW0 : w.alloc (.cells #[.int .i64 0, .string ⟨#[]⟩, .int .i64 0, .int .i64 0, .int .i64 0, .int .i64 0, .int .i64 0, .slice none 0 0] 40) = W0 at *
 unfold WordIs at cw
 clear hK1
 rw [← hst] at cw
 have hnx : (some (Ru.kwClass :: r)).bind Ru.next = some (Ru.kwClass, r) := show Ru.next (Ru.kwClass :: r) = some (Ru.kwClass, r) from Ru.next_cons (by decide)
 rw [hnx] at cw
 clear hst hnx h
 have cw : Calls Tryz.prog 81 #[.pointer (some ⟨R, 0, none⟩)] W0 fun e w' => e = .returned (.string ⟨#[99, 108, 97, 115, 115]⟩) ∧ Hid (RrAt R w' (some r)) ∧ Hid (Kp W0 w' (some R)) := cw.mono fun e w' ⟨h1, h2, h3⟩ => ⟨h1, Lib.hid h2, Lib.hid h3⟩
 go_enter Tryz.func129, Tryz.ntmps129
 go_wp2_with fail
 try rw [hW0]
 clear hW0
 refine cw.mono ?_
 clear cw
 rintro e w1 ⟨rfl, H1, HKW⟩
 have HB1 := Lib.hid (res_kept HB0.out HKW.out (by intro q hq; injection hq with hq; omega))
 have hz1 := HKW.out.size
 have HO0 : Hid (Ru.fac (j + 1) (Ru.kwClass :: r) = (Ru.next r).map fun p => (Ru.leaf 3 p.1 0 .none, p.2)) := Lib.hid (by rw [Ru.fac, Ru.next_cons (by decide)]; rfl)
 have c2 := wordR_any R w1 (some r) H1.out
 obtain ⟨y, hy⟩ : ∃ y, ((((some r).bind Ru.next).map (·.1)).getD [] : List UInt8) = y := ⟨_, rfl⟩
 obtain ⟨su, hsu⟩ : ∃ s, (((some r).bind Ru.next).map (·.2)) = s := ⟨_, rfl⟩
 have c2 : Calls Tryz.prog 81 #[.pointer (some ⟨R, 0, none⟩)] w1 fun e w' => e = .returned (str y) ∧ Hid (RrAt R w' su) ∧ Hid (Kp w1 w' (some R)) := c2.mono fun e w' ⟨h1, h2, h3⟩ => ⟨by rw [h1, hy], Lib.hid (by rw [← hsu]; exact h2), Lib.hid h3⟩
 have HO : Hid ((Ru.fac (j + 1) (Ru.kwClass :: r)).map (·.2) = su ∧ ∀ c r', Ru.fac (j + 1) (Ru.kwClass :: r) = some (c, r') → c = Ru.leaf 3 y 0 .none) := Lib.hid (by
  rw [HO0.out, ← hsu, ← hy]
  show (((Ru.next r).map _).map _ = (Ru.next r).map _) ∧ ∀ c r', (Ru.next r).map _ = some (c, r') → c = Ru.leaf 3 (((Ru.next r).map _).getD []) 0 .none
  cases Ru.next r with
  | none => exact ⟨rfl, fun c r' h => by cases h⟩
  | some q => exact ⟨rfl, fun c r' h => by injection h with h; injection h with h _; exact h.symm⟩)
 clear hy hsu
 go_wp2_with fail
 refine c2.mono ?_
 clear c2
 rintro e w2 ⟨rfl, H2, HK2⟩
 have HB2 := Lib.hid (res_kept HB1.out HK2.out (by intro q hq; injection hq with hq; omega))
 go_wp2_with (refine wpList_store_blk (by rfl) 40 _ _ (by rfl) w.heap.size _ 40 HB2.out #[.int .i64 3, str y, .int .i64 0, .int .i64 0, .int .i64 0, .int .i64 0, .int .i64 0, .slice none 0 0] (by rfl) (by rfl) info40s (by rfl) (by simp [Value.oneCell']) (fun V hV hkV => ?_); have HV := Lib.hid hV; have HKV := Lib.hid hkV; clear hV hkV)
 refine bodyPost_ret (results_cell_row (p := 2) (ty := 40) (by rfl) _ V w.heap.size 40 #[.int .i64 3, str y, .int .i64 0, .int .i64 0, .int .i64 0, .int .i64 0, .int .i64 0, .slice none 0 0] (0, 0) _ (by rfl) HV.out Tryz.underlying40 (by rfl) info40s) (by rfl) ?_
 exact ⟨Ru.leaf 3 y 0 .none, _, _, _, rfl, TreeP.leaf rfl, (by rw [HO.out.1]; exact H2.out.far HKV.out hRw), (fun c r h => HO.out.2 c r h), Kp.of_own (((HK1.out.weak _).trans HKW.out).trans HK2.out) HKV.out (Nat.le_refl _)⟩
set_option maxHeartbeats 16000000 in
set_option maxRecDepth 100000 in
theorem facR_kind (j R : Nat) (w : World) (r : Ru.Ws) (h : RrAt R w (some (Ru.kwKind :: r))) : Calls Tryz.prog 129 #[.pointer (some ⟨R, 0, none⟩)] w (CondR (Ru.fac (j + 1) (Ru.kwKind :: r)) R w) := by
 obtain ⟨st, hst⟩ : ∃ st, some (Ru.kwKind :: r) = st := ⟨_, rfl⟩
 rw [hst] at h
 have hRw := h.lt
 have hK1 : Kp w (w.alloc (.cells #[.int .i64 0, .string ⟨#[]⟩, .int .i64 0, .int .i64 0, .int .i64 0, .int .i64 0, .int .i64 0, .slice none 0 0] 40)) none := (Kp.refl _ _).alloc _
 have cw := wordR_any R _ st (h.keep hK1)
 have HK1 := Lib.hid hK1
 have hZ : (w.alloc (.cells #[.int .i64 0, .string ⟨#[]⟩, .int .i64 0, .int .i64 0, .int .i64 0, .int .i64 0, .int .i64 0, .slice none 0 0] 40)).heap.size = w.heap.size + 1 := by simp
 have HB0 := Lib.hid (heap_alloc_new w (.cells #[.int .i64 0, .string ⟨#[]⟩, .int .i64 0, .int .i64 0, .int .i64 0, .int .i64 0, .int .i64 0, .slice none 0 0] 40))
 generalize hW0 : w.alloc (.cells #[.int .i64 0, .string ⟨#[]⟩, .int .i64 0, .int .i64 0, .int .i64 0, .int .i64 0, .int .i64 0, .slice none 0 0] 40) = W0 at *
 unfold WordIs at cw
 clear hK1
 rw [← hst] at cw
 have hnx : (some (Ru.kwKind :: r)).bind Ru.next = some (Ru.kwKind, r) := show Ru.next (Ru.kwKind :: r) = some (Ru.kwKind, r) from Ru.next_cons (by decide)
 rw [hnx] at cw
 clear hst hnx h
 have cw : Calls Tryz.prog 81 #[.pointer (some ⟨R, 0, none⟩)] W0 fun e w' => e = .returned (.string ⟨#[107, 105, 110, 100]⟩) ∧ Hid (RrAt R w' (some r)) ∧ Hid (Kp W0 w' (some R)) := cw.mono fun e w' ⟨h1, h2, h3⟩ => ⟨h1, Lib.hid h2, Lib.hid h3⟩
 go_enter Tryz.func129, Tryz.ntmps129
 go_wp2_with fail
 try rw [hW0]
 clear hW0
 refine cw.mono ?_
 clear cw
 rintro e w1 ⟨rfl, H1, HKW⟩
 have HB1 := Lib.hid (res_kept HB0.out HKW.out (by intro q hq; injection hq with hq; omega))
 have hz1 := HKW.out.size
 have HO0 : Hid (Ru.fac (j + 1) (Ru.kwKind :: r) = (Ru.number r).map fun p => (Ru.leaf 4 [] p.1 .none, p.2)) := Lib.hid (by rw [Ru.fac, Ru.next_cons (by decide)]; rfl)
 have c2 := numberR_any R w1 (some r) H1.out H1.out.len
 go_wp2_with fail
 refine c2.mono ?_
 clear c2
 rintro e w2 ⟨⟨y, rfl, hy⟩, h2, hk2⟩
 have H2 := Lib.hid h2
 have HK2 := Lib.hid hk2
 have HO : Hid ((Ru.fac (j + 1) (Ru.kwKind :: r)).map (·.2) = ((some r).bind Ru.number).map (·.2) ∧ ∀ c r', Ru.fac (j + 1) (Ru.kwKind :: r) = some (c, r') → c = Ru.leaf 4 [] y .none) := Lib.hid (by
  have hy2 : ∀ n r', Ru.number r = some (n, r') → y = n := hy
  rw [HO0.out]
  show (((Ru.number r).map _).map _ = (Ru.number r).map _) ∧ ∀ c r', (Ru.number r).map _ = some (c, r') → c = Ru.leaf 4 [] y .none
  cases hq : Ru.number r with
  | none => exact ⟨rfl, fun c r' h => by cases h⟩
  | some q =>
   obtain ⟨n, r2⟩ := q
   have := hy2 n r2 hq
   subst this
   exact ⟨rfl, fun c r' h => by injection h with h; injection h with h _; exact h.symm⟩)
 clear hy h2 hk2
 have HB2 := Lib.hid (res_kept HB1.out HK2.out (by intro q hq; injection hq with hq; omega))
 go_wp2_with (refine wpList_store_blk (by rfl) 40 _ _ (by rfl) w.heap.size _ 40 HB2.out #[.int .i64 4, .string ⟨#[]⟩, .int .i64 y, .int .i64 0, .int .i64 0, .int .i64 0, .int .i64 0, .slice none 0 0] (by rfl) (by rfl) info40s (by rfl) (by simp [Value.oneCell']) (fun V hV hkV => ?_); have HV := Lib.hid hV; have HKV := Lib.hid hkV; clear hV hkV)
 refine bodyPost_ret (results_cell_row (p := 2) (ty := 40) (by rfl) _ V w.heap.size 40 #[.int .i64 4, .string ⟨#[]⟩, .int .i64 y, .int .i64 0, .int .i64 0, .int .i64 0, .int .i64 0, .slice none 0 0] (0, 0) _ (by rfl) HV.out Tryz.underlying40 (by rfl) info40s) (by rfl) ?_
 exact ⟨Ru.leaf 4 [] y .none, _, _, _, rfl, TreeP.leaf rfl, (by rw [HO.out.1]; exact H2.out.far HKV.out hRw), (fun c r h => HO.out.2 c r h), Kp.of_own (((HK1.out.weak _).trans HKW.out).trans HK2.out) HKV.out (Nat.le_refl _)⟩
set_option maxHeartbeats 16000000 in
set_option maxRecDepth 100000 in
theorem facR_layer (j R : Nat) (w : World) (r : Ru.Ws) (h : RrAt R w (some (Ru.kwLayer :: r))) : Calls Tryz.prog 129 #[.pointer (some ⟨R, 0, none⟩)] w (CondR (Ru.fac (j + 1) (Ru.kwLayer :: r)) R w) := by
 obtain ⟨st, hst⟩ : ∃ st, some (Ru.kwLayer :: r) = st := ⟨_, rfl⟩
 rw [hst] at h
 have hRw := h.lt
 have hK1 : Kp w (w.alloc (.cells #[.int .i64 0, .string ⟨#[]⟩, .int .i64 0, .int .i64 0, .int .i64 0, .int .i64 0, .int .i64 0, .slice none 0 0] 40)) none := (Kp.refl _ _).alloc _
 have cw := wordR_any R _ st (h.keep hK1)
 have HK1 := Lib.hid hK1
 have hZ : (w.alloc (.cells #[.int .i64 0, .string ⟨#[]⟩, .int .i64 0, .int .i64 0, .int .i64 0, .int .i64 0, .int .i64 0, .slice none 0 0] 40)).heap.size = w.heap.size + 1 := by simp
 have HB0 := Lib.hid (heap_alloc_new w (.cells #[.int .i64 0, .string ⟨#[]⟩, .int .i64 0, .int .i64 0, .int .i64 0, .int .i64 0, .int .i64 0, .slice none 0 0] 40))
 generalize hW0 : w.alloc (.cells #[.int .i64 0, .string ⟨#[]⟩, .int .i64 0, .int .i64 0, .int .i64 0, .int .i64 0, .int .i64 0, .slice none 0 0] 40) = W0 at *
 unfold WordIs at cw
 clear hK1
 rw [← hst] at cw
 have hnx : (some (Ru.kwLayer :: r)).bind Ru.next = some (Ru.kwLayer, r) := show Ru.next (Ru.kwLayer :: r) = some (Ru.kwLayer, r) from Ru.next_cons (by decide)
 rw [hnx] at cw
 clear hst hnx h
 have cw : Calls Tryz.prog 81 #[.pointer (some ⟨R, 0, none⟩)] W0 fun e w' => e = .returned (.string ⟨#[108, 97, 121, 101, 114]⟩) ∧ Hid (RrAt R w' (some r)) ∧ Hid (Kp W0 w' (some R)) := cw.mono fun e w' ⟨h1, h2, h3⟩ => ⟨h1, Lib.hid h2, Lib.hid h3⟩
 go_enter Tryz.func129, Tryz.ntmps129
 go_wp2_with fail
 try rw [hW0]
 clear hW0
 refine cw.mono ?_
 clear cw
 rintro e w1 ⟨rfl, H1, HKW⟩
 have HB1 := Lib.hid (res_kept HB0.out HKW.out (by intro q hq; injection hq with hq; omega))
 have hz1 := HKW.out.size
 have HO0 : Hid (Ru.fac (j + 1) (Ru.kwLayer :: r) = (Ru.number r).map fun p => (Ru.leaf 5 [] p.1 .none, p.2)) := Lib.hid (by rw [Ru.fac, Ru.next_cons (by decide)]; rfl)
 have c2 := numberR_any R w1 (some r) H1.out H1.out.len
 go_wp2_with fail
 refine c2.mono ?_
 clear c2
 rintro e w2 ⟨⟨y, rfl, hy⟩, h2, hk2⟩
 have H2 := Lib.hid h2
 have HK2 := Lib.hid hk2
 have HO : Hid ((Ru.fac (j + 1) (Ru.kwLayer :: r)).map (·.2) = ((some r).bind Ru.number).map (·.2) ∧ ∀ c r', Ru.fac (j + 1) (Ru.kwLayer :: r) = some (c, r') → c = Ru.leaf 5 [] y .none) := Lib.hid (by
  have hy2 : ∀ n r', Ru.number r = some (n, r') → y = n := hy
  rw [HO0.out]
  show (((Ru.number r).map _).map _ = (Ru.number r).map _) ∧ ∀ c r', (Ru.number r).map _ = some (c, r') → c = Ru.leaf 5 [] y .none
  cases hq : Ru.number r with
  | none => exact ⟨rfl, fun c r' h => by cases h⟩
  | some q =>
   obtain ⟨n, r2⟩ := q
   have := hy2 n r2 hq
   subst this
   exact ⟨rfl, fun c r' h => by injection h with h; injection h with h _; exact h.symm⟩)
 clear hy h2 hk2
 have HB2 := Lib.hid (res_kept HB1.out HK2.out (by intro q hq; injection hq with hq; omega))
 go_wp2_with (refine wpList_store_blk (by rfl) 40 _ _ (by rfl) w.heap.size _ 40 HB2.out #[.int .i64 5, .string ⟨#[]⟩, .int .i64 y, .int .i64 0, .int .i64 0, .int .i64 0, .int .i64 0, .slice none 0 0] (by rfl) (by rfl) info40s (by rfl) (by simp [Value.oneCell']) (fun V hV hkV => ?_); have HV := Lib.hid hV; have HKV := Lib.hid hkV; clear hV hkV)
 refine bodyPost_ret (results_cell_row (p := 2) (ty := 40) (by rfl) _ V w.heap.size 40 #[.int .i64 5, .string ⟨#[]⟩, .int .i64 y, .int .i64 0, .int .i64 0, .int .i64 0, .int .i64 0, .slice none 0 0] (0, 0) _ (by rfl) HV.out Tryz.underlying40 (by rfl) info40s) (by rfl) ?_
 exact ⟨Ru.leaf 5 [] y .none, _, _, _, rfl, TreeP.leaf rfl, (by rw [HO.out.1]; exact H2.out.far HKV.out hRw), (fun c r h => HO.out.2 c r h), Kp.of_own (((HK1.out.weak _).trans HKW.out).trans HK2.out) HKV.out (Nat.le_refl _)⟩
set_option maxHeartbeats 16000000 in
set_option maxRecDepth 100000 in
theorem facR_part (j R : Nat) (w : World) (r : Ru.Ws) (h : RrAt R w (some (Ru.kwPart :: r))) : Calls Tryz.prog 129 #[.pointer (some ⟨R, 0, none⟩)] w (CondR (Ru.fac (j + 1) (Ru.kwPart :: r)) R w) := by
 obtain ⟨st, hst⟩ : ∃ st, some (Ru.kwPart :: r) = st := ⟨_, rfl⟩
 rw [hst] at h
 have hRw := h.lt
 have hK1 : Kp w (w.alloc (.cells #[.int .i64 0, .string ⟨#[]⟩, .int .i64 0, .int .i64 0, .int .i64 0, .int .i64 0, .int .i64 0, .slice none 0 0] 40)) none := (Kp.refl _ _).alloc _
 have cw := wordR_any R _ st (h.keep hK1)
 have HK1 := Lib.hid hK1
 have hZ : (w.alloc (.cells #[.int .i64 0, .string ⟨#[]⟩, .int .i64 0, .int .i64 0, .int .i64 0, .int .i64 0, .int .i64 0, .slice none 0 0] 40)).heap.size = w.heap.size + 1 := by simp
 have HB0 := Lib.hid (heap_alloc_new w (.cells #[.int .i64 0, .string ⟨#[]⟩, .int .i64 0, .int .i64 0, .int .i64 0, .int .i64 0, .int .i64 0, .slice none 0 0] 40))
 generalize hW0 : w.alloc (.cells #[.int .i64 0, .string ⟨#[]⟩, .int .i64 0, .int .i64 0, .int .i64 0, .int .i64 0, .int .i64 0, .slice none 0 0] 40) = W0 at *
 unfold WordIs at cw
 clear hK1
 rw [← hst] at cw
 have hnx : (some (Ru.kwPart :: r)).bind Ru.next = some (Ru.kwPart, r) := show Ru.next (Ru.kwPart :: r) = some (Ru.kwPart, r) from Ru.next_cons (by decide)
 rw [hnx] at cw
 clear hst hnx h
 have cw : Calls Tryz.prog 81 #[.pointer (some ⟨R, 0, none⟩)] W0 fun e w' => e = .returned (.string ⟨#[112, 97, 114, 116]⟩) ∧ Hid (RrAt R w' (some r)) ∧ Hid (Kp W0 w' (some R)) := cw.mono fun e w' ⟨h1, h2, h3⟩ => ⟨h1, Lib.hid h2, Lib.hid h3⟩
 go_enter Tryz.func129, Tryz.ntmps129
 go_wp2_with fail
 try rw [hW0]
 clear hW0
 refine cw.mono ?_
 clear cw
 rintro e w1 ⟨rfl, H1, HKW⟩
 have HB1 := Lib.hid (res_kept HB0.out HKW.out (by intro q hq; injection hq with hq; omega))
 have hz1 := HKW.out.size
 have HO0 : Hid (Ru.fac (j + 1) (Ru.kwPart :: r) = (Ru.number r).map fun p => (Ru.leaf 6 [] p.1 .none, p.2)) := Lib.hid (by rw [Ru.fac, Ru.next_cons (by decide)]; rfl)
 have c2 := numberR_any R w1 (some r) H1.out H1.out.len
 go_wp2_with fail
 refine c2.mono ?_
 clear c2
 rintro e w2 ⟨⟨y, rfl, hy⟩, h2, hk2⟩
 have H2 := Lib.hid h2
 have HK2 := Lib.hid hk2
 have HO : Hid ((Ru.fac (j + 1) (Ru.kwPart :: r)).map (·.2) = ((some r).bind Ru.number).map (·.2) ∧ ∀ c r', Ru.fac (j + 1) (Ru.kwPart :: r) = some (c, r') → c = Ru.leaf 6 [] y .none) := Lib.hid (by
  have hy2 : ∀ n r', Ru.number r = some (n, r') → y = n := hy
  rw [HO0.out]
  show (((Ru.number r).map _).map _ = (Ru.number r).map _) ∧ ∀ c r', (Ru.number r).map _ = some (c, r') → c = Ru.leaf 6 [] y .none
  cases hq : Ru.number r with
  | none => exact ⟨rfl, fun c r' h => by cases h⟩
  | some q =>
   obtain ⟨n, r2⟩ := q
   have := hy2 n r2 hq
   subst this
   exact ⟨rfl, fun c r' h => by injection h with h; injection h with h _; exact h.symm⟩)
 clear hy h2 hk2
 have HB2 := Lib.hid (res_kept HB1.out HK2.out (by intro q hq; injection hq with hq; omega))
 go_wp2_with (refine wpList_store_blk (by rfl) 40 _ _ (by rfl) w.heap.size _ 40 HB2.out #[.int .i64 6, .string ⟨#[]⟩, .int .i64 y, .int .i64 0, .int .i64 0, .int .i64 0, .int .i64 0, .slice none 0 0] (by rfl) (by rfl) info40s (by rfl) (by simp [Value.oneCell']) (fun V hV hkV => ?_); have HV := Lib.hid hV; have HKV := Lib.hid hkV; clear hV hkV)
 refine bodyPost_ret (results_cell_row (p := 2) (ty := 40) (by rfl) _ V w.heap.size 40 #[.int .i64 6, .string ⟨#[]⟩, .int .i64 y, .int .i64 0, .int .i64 0, .int .i64 0, .int .i64 0, .slice none 0 0] (0, 0) _ (by rfl) HV.out Tryz.underlying40 (by rfl) info40s) (by rfl) ?_
 exact ⟨Ru.leaf 6 [] y .none, _, _, _, rfl, TreeP.leaf rfl, (by rw [HO.out.1]; exact H2.out.far HKV.out hRw), (fun c r h => HO.out.2 c r h), Kp.of_own (((HK1.out.weak _).trans HKW.out).trans HK2.out) HKV.out (Nat.le_refl _)⟩
/-- The state behind a number. -/
def nxN (st : Option Ru.Ws) : Option Ru.Ws := (st.bind Ru.number).map (·.2)
theorem four_st (r : Ru.Ws) : (Ru.four r).map (·.2) = nxN (nxN (nxN (nxN (some r)))) := by
 unfold Ru.four nxN
 simp only [Option.bind_some]
 cases h1 : Ru.number r with
 | none => rfl
 | some p1 =>
  simp only [Option.bind_some, Option.map_some]
  cases h2 : Ru.number p1.2 with
  | none => rfl
  | some p2 =>
   simp only [Option.bind_some, Option.map_some]
   cases h3 : Ru.number p2.2 with
   | none => rfl
   | some p3 =>
    simp only [Option.bind_some, Option.map_some]
    cases h4 : Ru.number p3.2 with
    | none => rfl
    | some p4 => rfl
theorem four_val {r : Ru.Ws} {v1 v2 v3 v4 : Int} (h1 : ∀ n q, (some r).bind Ru.number = some (n, q) → v1 = n) (h2 : ∀ n q, (nxN (some r)).bind Ru.number = some (n, q) → v2 = n) (h3 : ∀ n q, (nxN (nxN (some r))).bind Ru.number = some (n, q) → v3 = n) (h4 : ∀ n q, (nxN (nxN (nxN (some r)))).bind Ru.number = some (n, q) → v4 = n) :
  ∀ b q, Ru.four r = some (b, q) → (⟨v1, v2, v3, v4⟩ : Ru.Box) = b := by
 intro b q h
 unfold Ru.four at h
 unfold nxN at h2 h3 h4
 simp only [Option.bind_some] at h1 h2 h3 h4
 cases e1 : Ru.number r with
 | none => rw [e1] at h; cases h
 | some p1 =>
  rw [e1] at h h2 h3 h4
  simp only [Option.bind_some, Option.map_some] at h h2 h3 h4
  cases e2 : Ru.number p1.2 with
  | none => rw [e2] at h; cases h
  | some p2 =>
   rw [e2] at h h3 h4
   simp only [Option.bind_some, Option.map_some] at h h3 h4
   cases e3 : Ru.number p2.2 with
   | none => rw [e3] at h; cases h
   | some p3 =>
    rw [e3] at h h4
    simp only [Option.bind_some, Option.map_some] at h h4
    cases e4 : Ru.number p3.2 with
    | none => rw [e4] at h; cases h
    | some p4 =>
     rw [e4] at h
     simp only [Option.map_some] at h
     injection h with h
     injection h with h _
     rw [h1 p1.1 p1.2 e1, h2 p2.1 p2.2 e2, h3 p3.1 p3.2 e3, h4 p4.1 p4.2 e4, h]
set_option maxHeartbeats 16000000 in
set_option maxRecDepth 100000 in
theorem facR_in (j R : Nat) (w : World) (r : Ru.Ws) (h : RrAt R w (some (Ru.kwIn :: r))) : Calls Tryz.prog 129 #[.pointer (some ⟨R, 0, none⟩)] w (CondR (Ru.fac (j + 1) (Ru.kwIn :: r)) R w) := by
 obtain ⟨st, hst⟩ : ∃ st, some (Ru.kwIn :: r) = st := ⟨_, rfl⟩
 rw [hst] at h
 have hRw := h.lt
 have hK1 : Kp w (w.alloc (.cells #[.int .i64 0, .string ⟨#[]⟩, .int .i64 0, .int .i64 0, .int .i64 0, .int .i64 0, .int .i64 0, .slice none 0 0] 40)) none := (Kp.refl _ _).alloc _
 have cw := wordR_any R _ st (h.keep hK1)
 have HK1 := Lib.hid hK1
 have hZ : (w.alloc (.cells #[.int .i64 0, .string ⟨#[]⟩, .int .i64 0, .int .i64 0, .int .i64 0, .int .i64 0, .int .i64 0, .slice none 0 0] 40)).heap.size = w.heap.size + 1 := by simp
 have HB0 := Lib.hid (heap_alloc_new w (.cells #[.int .i64 0, .string ⟨#[]⟩, .int .i64 0, .int .i64 0, .int .i64 0, .int .i64 0, .int .i64 0, .slice none 0 0] 40))
 generalize hW0 : w.alloc (.cells #[.int .i64 0, .string ⟨#[]⟩, .int .i64 0, .int .i64 0, .int .i64 0, .int .i64 0, .int .i64 0, .slice none 0 0] 40) = W0 at *
 unfold WordIs at cw
 clear hK1
 rw [← hst] at cw
 have hnx : (some (Ru.kwIn :: r)).bind Ru.next = some (Ru.kwIn, r) := show Ru.next (Ru.kwIn :: r) = some (Ru.kwIn, r) from Ru.next_cons (by decide)
 rw [hnx] at cw
 clear hst hnx h
 have cw : Calls Tryz.prog 81 #[.pointer (some ⟨R, 0, none⟩)] W0 fun e w' => e = .returned (.string ⟨#[105, 110]⟩) ∧ Hid (RrAt R w' (some r)) ∧ Hid (Kp W0 w' (some R)) := cw.mono fun e w' ⟨h1, h2, h3⟩ => ⟨h1, Lib.hid h2, Lib.hid h3⟩
 go_enter Tryz.func129, Tryz.ntmps129
 go_wp2_with fail
 try rw [hW0]
 clear hW0
 refine cw.mono ?_
 clear cw
 rintro e w1 ⟨rfl, H1, HKW⟩
 have HB1 := Lib.hid (res_kept HB0.out HKW.out (by intro q hq; injection hq with hq; omega))
 have hz1 := HKW.out.size
 have HO0 : Hid (Ru.fac (j + 1) (Ru.kwIn :: r) = (Ru.four r).map fun p => (Ru.leaf 7 [] 0 p.1, p.2)) := Lib.hid (by rw [Ru.fac, Ru.next_cons (by decide)]; rfl)
 go_wp2_with fail
 obtain ⟨b3, hb3⟩ : ∃ b, w1.heap.size = b := ⟨_, rfl⟩
 have kA : Kp w1 (w1.alloc (.cells #[.int .i64 7, .string ⟨#[]⟩, .int .i64 0, .int .i64 0, .int .i64 0, .int .i64 0, .int .i64 0, .slice none 0 0] 40)) none := (Kp.refl _ _).alloc _
 have HBa := Lib.hid (heap_alloc_new w1 (.cells #[.int .i64 7, .string ⟨#[]⟩, .int .i64 0, .int .i64 0, .int .i64 0, .int .i64 0, .int .i64 0, .slice none 0 0] 40))
 have Ha := Lib.hid (H1.out.keep kA)
 have HKa : Hid (Kp W0 (w1.alloc (.cells #[.int .i64 7, .string ⟨#[]⟩, .int .i64 0, .int .i64 0, .int .i64 0, .int .i64 0, .int .i64 0, .slice none 0 0] 40)) (some R)) := Lib.hid (HKW.out.trans (kA.weak _))
 have HCa := Lib.hid (res_kept HB1.out kA (by simp))
 try rw [hb3]
 rw [hb3] at HBa
 generalize w1.alloc (.cells #[.int .i64 7, .string ⟨#[]⟩, .int .i64 0, .int .i64 0, .int .i64 0, .int .i64 0, .int .i64 0, .slice none 0 0] 40) = wa at *
 have hb3l : w1.heap.size ≤ b3 := by omega
 clear kA HB1 hb3
 refine (numberR_any R wa (some r) Ha.out Ha.out.len).mono ?_
 rintro e w4 ⟨⟨v1, rfl, hv1⟩, h4, hk4⟩
 have X1 := Lib.hid hv1
 have HBx4 := res_kept HBa.out hk4 (by intro q hq; injection hq with hq; omega)
 have HCx4 := res_kept HCa.out hk4 (by intro q hq; injection hq with hq; omega)
 have q4 := hcell HBx4 3 rfl
 have p4 := Lib.frozen_of_heap HBx4 3
 have ks4 : Kp w4 (w4.setCell ⟨b3, 3, none⟩ (.int .i64 v1)) (some b3) := (Kp.refl _ _).set _
 have HBy4 : Hid ((w4.setCell ⟨b3, 3, none⟩ (.int .i64 v1)).heap[b3]? = some (.cells #[.int .i64 7, .string ⟨#[]⟩, .int .i64 0, .int .i64 v1, .int .i64 0, .int .i64 0, .int .i64 0, .slice none 0 0] 40 (0, 0))) := Lib.hid (heap_set (o := 3) (v := .int .i64 v1) HBx4)
 have Hy4 : Hid (RrAt R (w4.setCell ⟨b3, 3, none⟩ (.int .i64 v1)) (nxN (some r))) := Lib.hid ((show RrAt R w4 (nxN (some r)) from h4).far ks4 (by omega))
 have HKy4 : Hid (Kp W0 (w4.setCell ⟨b3, 3, none⟩ (.int .i64 v1)) (some R)) := Lib.hid (Kp.of_own (HKa.out.trans hk4) ks4 (by omega))
 have HCy4 := Lib.hid (res_kept HCx4 ks4 (by intro q hq; injection hq with hq; omega))
 clear hv1 h4 hk4 HBx4 HCx4 ks4
 go_wp2_with fail
 clear q4 p4
 generalize w4.setCell ⟨b3, 3, none⟩ (.int .i64 v1) = wy4 at *
 refine (numberR_any R wy4 (nxN (some r)) Hy4.out Hy4.out.len).mono ?_
 rintro e w5 ⟨⟨v2, rfl, hv2⟩, h5, hk5⟩
 have X2 := Lib.hid hv2
 have HBx5 := res_kept HBy4.out hk5 (by intro q hq; injection hq with hq; omega)
 have HCx5 := res_kept HCy4.out hk5 (by intro q hq; injection hq with hq; omega)
 have q5 := hcell HBx5 4 rfl
 have p5 := Lib.frozen_of_heap HBx5 4
 have ks5 : Kp w5 (w5.setCell ⟨b3, 4, none⟩ (.int .i64 v2)) (some b3) := (Kp.refl _ _).set _
 have HBy5 : Hid ((w5.setCell ⟨b3, 4, none⟩ (.int .i64 v2)).heap[b3]? = some (.cells #[.int .i64 7, .string ⟨#[]⟩, .int .i64 0, .int .i64 v1, .int .i64 v2, .int .i64 0, .int .i64 0, .slice none 0 0] 40 (0, 0))) := Lib.hid (heap_set (o := 4) (v := .int .i64 v2) HBx5)
 have Hy5 : Hid (RrAt R (w5.setCell ⟨b3, 4, none⟩ (.int .i64 v2)) (nxN (nxN (some r)))) := Lib.hid ((show RrAt R w5 (nxN (nxN (some r))) from h5).far ks5 (by omega))
 have HKy5 : Hid (Kp W0 (w5.setCell ⟨b3, 4, none⟩ (.int .i64 v2)) (some R)) := Lib.hid (Kp.of_own (HKy4.out.trans hk5) ks5 (by omega))
 have HCy5 := Lib.hid (res_kept HCx5 ks5 (by intro q hq; injection hq with hq; omega))
 clear hv2 h5 hk5 HBx5 HCx5 ks5
 go_wp2_with fail
 clear q5 p5
 generalize w5.setCell ⟨b3, 4, none⟩ (.int .i64 v2) = wy5 at *
 refine (numberR_any R wy5 (nxN (nxN (some r))) Hy5.out Hy5.out.len).mono ?_
 rintro e w6 ⟨⟨v3, rfl, hv3⟩, h6, hk6⟩
 have X3 := Lib.hid hv3
 have HBx6 := res_kept HBy5.out hk6 (by intro q hq; injection hq with hq; omega)
 have HCx6 := res_kept HCy5.out hk6 (by intro q hq; injection hq with hq; omega)
 have q6 := hcell HBx6 5 rfl
 have p6 := Lib.frozen_of_heap HBx6 5
 have ks6 : Kp w6 (w6.setCell ⟨b3, 5, none⟩ (.int .i64 v3)) (some b3) := (Kp.refl _ _).set _
 have HBy6 : Hid ((w6.setCell ⟨b3, 5, none⟩ (.int .i64 v3)).heap[b3]? = some (.cells #[.int .i64 7, .string ⟨#[]⟩, .int .i64 0, .int .i64 v1, .int .i64 v2, .int .i64 v3, .int .i64 0, .slice none 0 0] 40 (0, 0))) := Lib.hid (heap_set (o := 5) (v := .int .i64 v3) HBx6)
 have Hy6 : Hid (RrAt R (w6.setCell ⟨b3, 5, none⟩ (.int .i64 v3)) (nxN (nxN (nxN (some r))))) := Lib.hid ((show RrAt R w6 (nxN (nxN (nxN (some r)))) from h6).far ks6 (by omega))
 have HKy6 : Hid (Kp W0 (w6.setCell ⟨b3, 5, none⟩ (.int .i64 v3)) (some R)) := Lib.hid (Kp.of_own (HKy5.out.trans hk6) ks6 (by omega))
 have HCy6 := Lib.hid (res_kept HCx6 ks6 (by intro q hq; injection hq with hq; omega))
 clear hv3 h6 hk6 HBx6 HCx6 ks6
 go_wp2_with fail
 clear q6 p6
 generalize w6.setCell ⟨b3, 5, none⟩ (.int .i64 v3) = wy6 at *
 refine (numberR_any R wy6 (nxN (nxN (nxN (some r)))) Hy6.out Hy6.out.len).mono ?_
 rintro e w7 ⟨⟨v4, rfl, hv4⟩, h7, hk7⟩
 have X4 := Lib.hid hv4
 have HBx7 := res_kept HBy6.out hk7 (by intro q hq; injection hq with hq; omega)
 have HCx7 := res_kept HCy6.out hk7 (by intro q hq; injection hq with hq; omega)
 have q7 := hcell HBx7 6 rfl
 have p7 := Lib.frozen_of_heap HBx7 6
 have ks7 : Kp w7 (w7.setCell ⟨b3, 6, none⟩ (.int .i64 v4)) (some b3) := (Kp.refl _ _).set _
 have HBy7 : Hid ((w7.setCell ⟨b3, 6, none⟩ (.int .i64 v4)).heap[b3]? = some (.cells #[.int .i64 7, .string ⟨#[]⟩, .int .i64 0, .int .i64 v1, .int .i64 v2, .int .i64 v3, .int .i64 v4, .slice none 0 0] 40 (0, 0))) := Lib.hid (heap_set (o := 6) (v := .int .i64 v4) HBx7)
 have Hy7 : Hid (RrAt R (w7.setCell ⟨b3, 6, none⟩ (.int .i64 v4)) (nxN (nxN (nxN (nxN (some r)))))) := Lib.hid ((show RrAt R w7 (nxN (nxN (nxN (nxN (some r))))) from h7).far ks7 (by omega))
 have HKy7 : Hid (Kp W0 (w7.setCell ⟨b3, 6, none⟩ (.int .i64 v4)) (some R)) := Lib.hid (Kp.of_own (HKy6.out.trans hk7) ks7 (by omega))
 have HCy7 := Lib.hid (res_kept HCx7 ks7 (by intro q hq; injection hq with hq; omega))
 clear hv4 h7 hk7 HBx7 HCx7 ks7
 have HO : Hid ((Ru.fac (j + 1) (Ru.kwIn :: r)).map (·.2) = (nxN (nxN (nxN (nxN (some r))))) ∧ ∀ c r', Ru.fac (j + 1) (Ru.kwIn :: r) = some (c, r') → c = Ru.leaf 7 [] 0 ⟨v1, v2, v3, v4⟩) := Lib.hid (by
  have hv := four_val X1.out X2.out X3.out X4.out
  rw [HO0.out, ← four_st]
  cases hq : Ru.four r with
  | none => exact ⟨rfl, fun c r' h => by cases h⟩
  | some q =>
   obtain ⟨b, r2⟩ := q
   have := hv b r2 hq
   subst this
   exact ⟨rfl, fun c r' h => by injection h with h; injection h with h _; exact h.symm⟩)
 have HRG := Lib.hid (range_blk HBy7.out)
 go_wp2_with (first | (refine wpList_load_mid (by rfl) 40 _ (by rfl) b3 0 (by rfl) #[.int .i64 7, .string ⟨#[]⟩, .int .i64 0, .int .i64 v1, .int .i64 v2, .int .i64 v3, .int .i64 v4, .slice none 0 0].toList _ HRG.out Tryz.underlying40 (by rfl) info40s ?_) | (refine wpList_store_blk (by rfl) 40 _ _ (by rfl) w.heap.size _ 40 HCy7.out #[.int .i64 7, .string ⟨#[]⟩, .int .i64 0, .int .i64 v1, .int .i64 v2, .int .i64 v3, .int .i64 v4, .slice none 0 0] (by rfl) (by rfl) info40s (by rfl) (by simp [Value.oneCell']) (fun V hV hkV => ?_); have HV := Lib.hid hV; have HKV := Lib.hid hkV; clear hV hkV))
 refine bodyPost_ret (results_cell_row (p := 2) (ty := 40) (by rfl) _ V w.heap.size 40 #[.int .i64 7, .string ⟨#[]⟩, .int .i64 0, .int .i64 v1, .int .i64 v2, .int .i64 v3, .int .i64 v4, .slice none 0 0] (0, 0) _ (by rfl) HV.out Tryz.underlying40 (by rfl) info40s) (by rfl) ?_
 exact ⟨Ru.leaf 7 [] 0 ⟨v1, v2, v3, v4⟩, _, _, _, rfl, TreeP.leaf rfl, (by rw [HO.out.1]; exact Hy7.out.far HKV.out hRw), (fun c r h => HO.out.2 c r h), Kp.of_own ((HK1.out.weak _).trans HKy7.out) HKV.out (Nat.le_refl _)⟩
set_option maxHeartbeats 16000000 in
set_option maxRecDepth 100000 in
theorem facR_not (j R : Nat) (w : World) (r : Ru.Ws) (h : RrAt R w (some (Ru.kwNot :: r))) (hj : FacR j R) (hrj : r.length ≤ j) : Calls Tryz.prog 129 #[.pointer (some ⟨R, 0, none⟩)] w (CondR (Ru.fac (j + 1) (Ru.kwNot :: r)) R w) := by
 obtain ⟨st, hst⟩ : ∃ st, some (Ru.kwNot :: r) = st := ⟨_, rfl⟩
 rw [hst] at h
 have hRw := h.lt
 have hK1 : Kp w (w.alloc (.cells #[.int .i64 0, .string ⟨#[]⟩, .int .i64 0, .int .i64 0, .int .i64 0, .int .i64 0, .int .i64 0, .slice none 0 0] 40)) none := (Kp.refl _ _).alloc _
 have cw := wordR_any R _ st (h.keep hK1)
 have HK1 := Lib.hid hK1
 have hZ : (w.alloc (.cells #[.int .i64 0, .string ⟨#[]⟩, .int .i64 0, .int .i64 0, .int .i64 0, .int .i64 0, .int .i64 0, .slice none 0 0] 40)).heap.size = w.heap.size + 1 := by simp
 have HB0 := Lib.hid (heap_alloc_new w (.cells #[.int .i64 0, .string ⟨#[]⟩, .int .i64 0, .int .i64 0, .int .i64 0, .int .i64 0, .int .i64 0, .slice none 0 0] 40))
 generalize hW0 : w.alloc (.cells #[.int .i64 0, .string ⟨#[]⟩, .int .i64 0, .int .i64 0, .int .i64 0, .int .i64 0, .int .i64 0, .slice none 0 0] 40) = W0 at *
 unfold WordIs at cw
 clear hK1
 rw [← hst] at cw
 have hnx : (some (Ru.kwNot :: r)).bind Ru.next = some (Ru.kwNot, r) := show Ru.next (Ru.kwNot :: r) = some (Ru.kwNot, r) from Ru.next_cons (by decide)
 rw [hnx] at cw
 clear hst hnx h
 have cw : Calls Tryz.prog 81 #[.pointer (some ⟨R, 0, none⟩)] W0 fun e w' => e = .returned (.string ⟨#[110, 111, 116]⟩) ∧ Hid (RrAt R w' (some r)) ∧ Hid (Kp W0 w' (some R)) := cw.mono fun e w' ⟨h1, h2, h3⟩ => ⟨h1, Lib.hid h2, Lib.hid h3⟩
 go_enter Tryz.func129, Tryz.ntmps129
 go_wp2_with fail
 try rw [hW0]
 clear hW0
 refine cw.mono ?_
 clear cw
 rintro e w1 ⟨rfl, H1, HKW⟩
 have HB1 := Lib.hid (res_kept HB0.out HKW.out (by intro q hq; injection hq with hq; omega))
 have hz1 := HKW.out.size
 have HO0 : Hid (Ru.fac (j + 1) (Ru.kwNot :: r) = (Ru.fac j r).map fun p => (.mk 8 [] 0 .none [p.1], p.2)) := Lib.hid (by rw [Ru.fac, Ru.next_cons (by decide)]; rfl)
 have c2 := hj w1 (some r) H1.out (fun vs hvs => by injection hvs with hvs; rw [← hvs]; exact hrj)
 go_wp2_with fail
 refine c2.mono ?_
 clear c2
 rintro e w2 ⟨c1, a1, m1, p1, rfl, ht1, hr1, hc1, hk2⟩
 have HT1 := Lib.hid ht1
 have hr1 : RrAt R w2 ((Ru.fac j r).map (·.2)) := hr1
 have HR1 := Lib.hid hr1
 have hc1 : ∀ c' q, Ru.fac j r = some (c', q) → c' = c1 := hc1
 have HK2 := Lib.hid hk2
 have hz2 := hk2.size
 have HO : Hid ((Ru.fac (j + 1) (Ru.kwNot :: r)).map (·.2) = (Ru.fac j r).map (·.2) ∧ ∀ c r', Ru.fac (j + 1) (Ru.kwNot :: r) = some (c, r') → c = .mk 8 [] 0 .none [c1]) := Lib.hid (by
  rw [HO0.out]
  cases hq : Ru.fac j r with
  | none => exact ⟨rfl, fun c r' h => by cases h⟩
  | some q =>
   obtain ⟨b, r2⟩ := q
   have := hc1 b r2 hq
   subst this
   exact ⟨rfl, fun c r' h => by injection h with h; injection h with h _; exact h.symm⟩)
 clear ht1 hr1 hc1 hk2
 have kA : Kp w2 (w2.alloc (.cells #[.int .i64 c1.op, str c1.text, .int .i64 c1.n, .int .i64 c1.box.x0, .int .i64 c1.box.y0, .int .i64 c1.box.x1, .int .i64 c1.box.y1, .slice a1 m1 p1] 40)) none := (Kp.refl _ _).alloc _
 have HB2 := Lib.hid (res_kept (res_kept HB1.out HK2.out (by intro q hq; injection hq with hq; omega)) kA (by simp))
 have hown : (w2.alloc (.cells #[.int .i64 c1.op, str c1.text, .int .i64 c1.n, .int .i64 c1.box.x0, .int .i64 c1.box.y0, .int .i64 c1.box.x1, .int .i64 c1.box.y1, .slice a1 m1 p1] 40)).ownsRow (w.heap.size + 1) 40 8 (.slice (some ⟨w2.heap.size, 0, none⟩) 1 1) [(c1, Value.slice a1 m1 p1)].length ([(c1, Value.slice a1 m1 p1)].flatMap cC) := own_one (by omega)
 have HTT : Hid (TreeB (w.heap.size + 1) (w2.alloc (.cells #[.int .i64 c1.op, str c1.text, .int .i64 c1.n, .int .i64 c1.box.x0, .int .i64 c1.box.y0, .int .i64 c1.box.x1, .int .i64 c1.box.y1, .slice a1 m1 p1] 40)) (.mk 8 [] 0 .none [c1]) (.slice (some ⟨w2.heap.size, 0, none⟩) 1 1)) := Lib.hid (TreeP.of (ps := [(c1, Value.slice a1 m1 p1)]) rfl (isList_own (m := 8) (f := cC) (fun _ => rfl) hown) (own_base _ hown) (fun p hp => by rw [List.mem_singleton] at hp; subst hp; exact (HT1.out.mono (fun b _ hb => by omega)).keep kA))
 have HRA := Lib.hid (HR1.out.keep kA)
 have HKA : Hid (Kp W0 (w2.alloc (.cells #[.int .i64 c1.op, str c1.text, .int .i64 c1.n, .int .i64 c1.box.x0, .int .i64 c1.box.y0, .int .i64 c1.box.x1, .int .i64 c1.box.y1, .slice a1 m1 p1] 40)) (some R)) := Lib.hid ((HKW.out.trans HK2.out).trans (kA.weak _))
 clear hown kA
 go_wp2_with (refine wpList_store_blk (by rfl) 40 _ _ (by rfl) w.heap.size _ 40 HB2.out #[.int .i64 8, .string ⟨#[]⟩, .int .i64 0, .int .i64 0, .int .i64 0, .int .i64 0, .int .i64 0, .slice (some ⟨w2.heap.size, 0, none⟩) 1 1] (by rfl) (by rfl) info40s (by rfl) (by simp [Value.oneCell']) (fun V hV hkV => ?_); have HV := Lib.hid hV; have HKV := Lib.hid hkV; clear hV hkV)
 refine bodyPost_ret (results_cell_row (p := 2) (ty := 40) (by rfl) _ V w.heap.size 40 #[.int .i64 8, .string ⟨#[]⟩, .int .i64 0, .int .i64 0, .int .i64 0, .int .i64 0, .int .i64 0, .slice (some ⟨w2.heap.size, 0, none⟩) 1 1] (0, 0) _ (by rfl) HV.out Tryz.underlying40 (by rfl) info40s) (by rfl) ?_
 exact ⟨.mk 8 [] 0 .none [c1], _, _, _, rfl, (HTT.out.row HKV.out (fun r hr hs => by injection hr with hr; omega)).mono (fun b _ hb => by omega), (by rw [HO.out.1]; exact HRA.out.far HKV.out hRw), (fun c r h => HO.out.2 c r h), Kp.of_own ((HK1.out.weak _).trans HKA.out) HKV.out (Nat.le_refl _)⟩
set_option maxHeartbeats 16000000 in
set_option maxRecDepth 100000 in
theorem facR_open (j R : Nat) (w : World) (r : Ru.Ws) (h : RrAt R w (some (Ru.kwL :: r))) (hj : OrR j R) (hrj : r.length ≤ j) : Calls Tryz.prog 129 #[.pointer (some ⟨R, 0, none⟩)] w (CondR (Ru.fac (j + 1) (Ru.kwL :: r)) R w) := by
 obtain ⟨st, hst⟩ : ∃ st, some (Ru.kwL :: r) = st := ⟨_, rfl⟩
 rw [hst] at h
 have hRw := h.lt
 have hK1 : Kp w (w.alloc (.cells #[.int .i64 0, .string ⟨#[]⟩, .int .i64 0, .int .i64 0, .int .i64 0, .int .i64 0, .int .i64 0, .slice none 0 0] 40)) none := (Kp.refl _ _).alloc _
 have cw := wordR_any R _ st (h.keep hK1)
 have HK1 := Lib.hid hK1
 have hZ : (w.alloc (.cells #[.int .i64 0, .string ⟨#[]⟩, .int .i64 0, .int .i64 0, .int .i64 0, .int .i64 0, .int .i64 0, .slice none 0 0] 40)).heap.size = w.heap.size + 1 := by simp
 have HB0 := Lib.hid (heap_alloc_new w (.cells #[.int .i64 0, .string ⟨#[]⟩, .int .i64 0, .int .i64 0, .int .i64 0, .int .i64 0, .int .i64 0, .slice none 0 0] 40))
 generalize hW0 : w.alloc (.cells #[.int .i64 0, .string ⟨#[]⟩, .int .i64 0, .int .i64 0, .int .i64 0, .int .i64 0, .int .i64 0, .slice none 0 0] 40) = W0 at *
 unfold WordIs at cw
 clear hK1
 rw [← hst] at cw
 have hnx : (some (Ru.kwL :: r)).bind Ru.next = some (Ru.kwL, r) := show Ru.next (Ru.kwL :: r) = some (Ru.kwL, r) from Ru.next_cons (by decide)
 rw [hnx] at cw
 clear hst hnx h
 have cw : Calls Tryz.prog 81 #[.pointer (some ⟨R, 0, none⟩)] W0 fun e w' => e = .returned (.string ⟨#[40]⟩) ∧ Hid (RrAt R w' (some r)) ∧ Hid (Kp W0 w' (some R)) := cw.mono fun e w' ⟨h1, h2, h3⟩ => ⟨h1, Lib.hid h2, Lib.hid h3⟩
 go_enter Tryz.func129, Tryz.ntmps129
 go_wp2_with fail
 try rw [hW0]
 clear hW0
 refine cw.mono ?_
 clear cw
 rintro e w1 ⟨rfl, H1, HKW⟩
 have HB1 := Lib.hid (res_kept HB0.out HKW.out (by intro q hq; injection hq with hq; omega))
 have hz1 := HKW.out.size
 have HO0 : Hid (Ru.fac (j + 1) (Ru.kwL :: r) = (Ru.orc (Ru.fac j) r).bind fun p => (Ru.must Ru.kwR p.2).map fun q => (p.1, q)) := Lib.hid (by rw [Ru.fac, Ru.next_cons (by decide)]; rfl)
 have c2 := hj w1 (some r) H1.out (fun vs hvs => by injection hvs with hvs; rw [← hvs]; exact hrj)
 go_wp2_with fail
 refine c2.mono ?_
 clear c2
 rintro e w2 ⟨c1, a1, m1, p1, rfl, ht1, hr1, hc1, hk2⟩
 have HT1 := Lib.hid ht1
 have hr1 : RrAt R w2 ((Ru.orc (Ru.fac j) r).map (·.2)) := hr1
 have HR1 := Lib.hid hr1
 have hc1 : ∀ c' q, Ru.orc (Ru.fac j) r = some (c', q) → c' = c1 := hc1
 have HK2 := Lib.hid hk2
 have hz2 := hk2.size
 have HO : Hid ((Ru.fac (j + 1) (Ru.kwL :: r)).map (·.2) = ((Ru.orc (Ru.fac j) r).map (·.2)).bind (Ru.must Ru.kwR) ∧ ∀ c r', Ru.fac (j + 1) (Ru.kwL :: r) = some (c, r') → c = c1) := Lib.hid (by
  rw [HO0.out]
  cases hq : Ru.orc (Ru.fac j) r with
  | none => exact ⟨rfl, fun c r' h => by cases h⟩
  | some q =>
   obtain ⟨b, r2⟩ := q
   have := hc1 b r2 hq
   subst this
   show ((Ru.must Ru.kwR r2).map _).map _ = Ru.must Ru.kwR r2 ∧ ∀ c r', (Ru.must Ru.kwR r2).map _ = some (c, r') → c = b
   cases Ru.must Ru.kwR r2 with
   | none => exact ⟨rfl, fun c r' h => by cases h⟩
   | some z => exact ⟨rfl, fun c r' h => by injection h with h; injection h with h _; exact h.symm⟩)
 clear ht1 hr1 hc1 hk2
 have kA : Kp w2 (w2.alloc (.cells #[.int .i64 c1.op, str c1.text, .int .i64 c1.n, .int .i64 c1.box.x0, .int .i64 c1.box.y0, .int .i64 c1.box.x1, .int .i64 c1.box.y1, .slice a1 m1 p1] 40)) none := (Kp.refl _ _).alloc _
 have HB2 := Lib.hid (res_kept (res_kept HB1.out HK2.out (by intro q hq; injection hq with hq; omega)) kA (by simp))
 have HBn := Lib.hid (heap_alloc_new w2 (.cells #[.int .i64 c1.op, str c1.text, .int .i64 c1.n, .int .i64 c1.box.x0, .int .i64 c1.box.y0, .int .i64 c1.box.x1, .int .i64 c1.box.y1, .slice a1 m1 p1] 40))
 have HRA := Lib.hid (HR1.out.keep kA)
 have HTA := Lib.hid (HT1.out.keep kA)
 have HKA : Hid (Kp W0 (w2.alloc (.cells #[.int .i64 c1.op, str c1.text, .int .i64 c1.n, .int .i64 c1.box.x0, .int .i64 c1.box.y0, .int .i64 c1.box.x1, .int .i64 c1.box.y1, .slice a1 m1 p1] 40)) (some R)) := Lib.hid ((HKW.out.trans HK2.out).trans (kA.weak _))
 have cM := mustR_any Ru.kwR (by decide) R _ _ HRA.out
 have hzA : (w2.alloc (.cells #[.int .i64 c1.op, str c1.text, .int .i64 c1.n, .int .i64 c1.box.x0, .int .i64 c1.box.y0, .int .i64 c1.box.x1, .int .i64 c1.box.y1, .slice a1 m1 p1] 40)).heap.size = w2.heap.size + 1 := by simp
 clear kA HR1 HT1
 go_wp2_with (refine wpList_store_new (by rfl) 40 _ _ (by rfl) #[.int .i64 0, .string ⟨#[]⟩, .int .i64 0, .int .i64 0, .int .i64 0, .int .i64 0, .int .i64 0, .slice none 0 0] #[.int .i64 c1.op, str c1.text, .int .i64 c1.n, .int .i64 c1.box.x0, .int .i64 c1.box.y0, .int .i64 c1.box.x1, .int .i64 c1.box.y1, .slice a1 m1 p1] 40 (by rfl) (by rfl) rfl info40s (by rfl) (by simp [Value.oneCell']) ?_)
 refine cM.mono ?_
 clear cM
 rintro e w3 ⟨rfl, h3, hk3⟩
 have HR3 := Lib.hid h3
 have HK3 := Lib.hid hk3
 have HB3 := Lib.hid (res_kept HB2.out hk3 (by intro q hq; injection hq with hq; omega))
 have HRG := Lib.hid (range_blk (res_kept HBn.out hk3 (by intro q hq; injection hq with hq; omega)))
 have HTB := Lib.hid (HTA.out.row hk3 (fun r hr hs => by injection hr with hr; omega))
 clear h3 hk3
 go_wp2_with (first | (refine wpList_load_mid (by rfl) 40 _ (by rfl) w2.heap.size 0 (by rfl) #[.int .i64 c1.op, str c1.text, .int .i64 c1.n, .int .i64 c1.box.x0, .int .i64 c1.box.y0, .int .i64 c1.box.x1, .int .i64 c1.box.y1, .slice a1 m1 p1].toList _ HRG.out Tryz.underlying40 (by rfl) info40s ?_) | (refine wpList_store_blk (by rfl) 40 _ _ (by rfl) w.heap.size _ 40 HB3.out #[.int .i64 c1.op, str c1.text, .int .i64 c1.n, .int .i64 c1.box.x0, .int .i64 c1.box.y0, .int .i64 c1.box.x1, .int .i64 c1.box.y1, .slice a1 m1 p1] (by rfl) (by rfl) info40s (by rfl) (by simp [Value.oneCell']) (fun V hV hkV => ?_); have HV := Lib.hid hV; have HKV := Lib.hid hkV; clear hV hkV))
 refine bodyPost_ret (results_cell_row (p := 2) (ty := 40) (by rfl) _ V w.heap.size 40 #[.int .i64 c1.op, str c1.text, .int .i64 c1.n, .int .i64 c1.box.x0, .int .i64 c1.box.y0, .int .i64 c1.box.x1, .int .i64 c1.box.y1, .slice a1 m1 p1] (0, 0) _ (by rfl) HV.out Tryz.underlying40 (by rfl) info40s) (by rfl) ?_
 exact ⟨c1, _, _, _, rfl, (HTB.out.mono (T := fun b => w.heap.size + 1 ≤ b) (fun b _ hb => by omega)).row HKV.out (fun r hr hs => by injection hr with hr; omega) |>.mono (fun b _ hb => by omega), (by rw [HO.out.1]; exact HR3.out.far HKV.out hRw), (fun c r h => HO.out.2 c r h), Kp.of_own (((HK1.out.weak _).trans HKA.out).trans HK3.out) HKV.out (Nat.le_refl _)⟩
set_option maxHeartbeats 16000000 in
set_option maxRecDepth 100000 in
theorem facR_else (x : List UInt8) (j R : Nat) (w : World) (r : Ru.Ws) (h : RrAt R w (some (x :: r))) (hxn : x ≠ []) (n0 : x ≠ Ru.kwAny) (n1 : x ≠ Ru.kwNet) (n2 : x ≠ Ru.kwClass) (n3 : x ≠ Ru.kwKind) (n4 : x ≠ Ru.kwLayer) (n5 : x ≠ Ru.kwPart) (n6 : x ≠ Ru.kwIn) (n7 : x ≠ Ru.kwNot) (n8 : x ≠ Ru.kwL) : Calls Tryz.prog 129 #[.pointer (some ⟨R, 0, none⟩)] w (CondR (Ru.fac (j + 1) (x :: r)) R w) := by
 obtain ⟨st, hst⟩ : ∃ st, some (x :: r) = st := ⟨_, rfl⟩
 rw [hst] at h
 have hRw := h.lt
 have hK1 : Kp w (w.alloc (.cells #[.int .i64 0, .string ⟨#[]⟩, .int .i64 0, .int .i64 0, .int .i64 0, .int .i64 0, .int .i64 0, .slice none 0 0] 40)) none := (Kp.refl _ _).alloc _
 have cw := wordR_any R _ st (h.keep hK1)
 have HK1 := Lib.hid hK1
 have hZ : (w.alloc (.cells #[.int .i64 0, .string ⟨#[]⟩, .int .i64 0, .int .i64 0, .int .i64 0, .int .i64 0, .int .i64 0, .slice none 0 0] 40)).heap.size = w.heap.size + 1 := by simp
 have HB0 := Lib.hid (heap_alloc_new w (.cells #[.int .i64 0, .string ⟨#[]⟩, .int .i64 0, .int .i64 0, .int .i64 0, .int .i64 0, .int .i64 0, .slice none 0 0] 40))
 generalize hW0 : w.alloc (.cells #[.int .i64 0, .string ⟨#[]⟩, .int .i64 0, .int .i64 0, .int .i64 0, .int .i64 0, .int .i64 0, .slice none 0 0] 40) = W0 at *
 unfold WordIs at cw
 clear hK1
 rw [← hst] at cw
 have hnx : (some (x :: r)).bind Ru.next = some (x, r) := show Ru.next (x :: r) = some (x, r) from Ru.next_cons hxn
 rw [hnx] at cw
 clear hst hnx h
 have cw : Calls Tryz.prog 81 #[.pointer (some ⟨R, 0, none⟩)] W0 fun e w' => e = .returned (str x) ∧ Hid (RrAt R w' (some r)) ∧ Hid (Kp W0 w' (some R)) := cw.mono fun e w' ⟨h1, h2, h3⟩ => ⟨h1, Lib.hid h2, Lib.hid h3⟩
 go_enter Tryz.func129, Tryz.ntmps129
 go_wp2_with fail
 try rw [hW0]
 clear hW0
 refine cw.mono ?_
 clear cw
 rintro e w1 ⟨rfl, H1, HKW⟩
 have HB1 := Lib.hid (res_kept HB0.out HKW.out (by intro q hq; injection hq with hq; omega))
 have hz1 := HKW.out.size
 have HO : Hid (Ru.fac (j + 1) (x :: r) = none) := Lib.hid (by rw [Ru.fac, Ru.next_cons hxn]; dsimp only; rw [if_neg n1, if_neg n2, if_neg n3, if_neg n4, if_neg n5, if_neg n0, if_neg n6, if_neg n7, if_neg n8])
 have e0 : (x == [97, 110, 121]) = false := (show (x == Ru.kwAny) = false from by simpa using n0)
 have e1 : (x == [110, 101, 116]) = false := (show (x == Ru.kwNet) = false from by simpa using n1)
 have e2 : (x == [99, 108, 97, 115, 115]) = false := (show (x == Ru.kwClass) = false from by simpa using n2)
 have e3 : (x == [107, 105, 110, 100]) = false := (show (x == Ru.kwKind) = false from by simpa using n3)
 have e4 : (x == [108, 97, 121, 101, 114]) = false := (show (x == Ru.kwLayer) = false from by simpa using n4)
 have e5 : (x == [112, 97, 114, 116]) = false := (show (x == Ru.kwPart) = false from by simpa using n5)
 have e6 : (x == [105, 110]) = false := (show (x == Ru.kwIn) = false from by simpa using n6)
 have e7 : (x == [110, 111, 116]) = false := (show (x == Ru.kwNot) = false from by simpa using n7)
 have e8 : (x == [40]) = false := (show (x == Ru.kwL) = false from by simpa using n8)
 clear n0 n1 n2 n3 n4 n5 n6 n7 n8
 obtain ⟨⟨jb, g1, hjb⟩, g2, g3, gb, g4⟩ := H1.out.cells
 have HBAD := Lib.hid (H1.out.bad)
 have ks : Kp w1 (w1.setCell ⟨R, 2, none⟩ (.bool true)) (some R) := (Kp.refl _ _).set _
 have HKS := Lib.hid ks
 have HBS := Lib.hid (res_kept HB1.out ks (by intro q hq; injection hq with hq; omega))
 have HKE := Lib.hid ((HKW.out).trans ks)
 clear ks
 go_wp2_with (refine wpList_store_blk (by rfl) 40 _ _ (by rfl) w.heap.size _ 40 HBS.out #[.int .i64 0, .string ⟨#[]⟩, .int .i64 0, .int .i64 0, .int .i64 0, .int .i64 0, .int .i64 0, .slice none 0 0] (by rfl) (by rfl) info40s (by rfl) (by simp [Value.oneCell']) (fun V hV hkV => ?_); have HV := Lib.hid hV; have HKV := Lib.hid hkV; clear hV hkV)
 refine bodyPost_ret (results_cell_row (p := 2) (ty := 40) (by rfl) _ V w.heap.size 40 #[.int .i64 0, .string ⟨#[]⟩, .int .i64 0, .int .i64 0, .int .i64 0, .int .i64 0, .int .i64 0, .slice none 0 0] (0, 0) _ (by rfl) HV.out Tryz.underlying40 (by rfl) info40s) (by rfl) ?_
 exact ⟨.mk 0 [] 0 .none [], _, _, _, rfl, TreeP.leaf rfl, (by rw [HO.out]; exact HBAD.out.far HKV.out hRw), (fun c r h => by rw [HO.out] at h; cases h), Kp.of_own ((HK1.out.weak _).trans HKE.out) HKV.out (Nat.le_refl _)⟩
theorem facR_any (R : Nat) : ∀ k, k ≤ 1000000000000 → FacR k R
 | 0, _ => fun w st h hN => facR_none 0 R w st h (by
   cases st with
   | none => rfl
   | some ws =>
    have := hN ws rfl
    have : ws = [] := List.length_eq_zero_iff.1 (by omega)
    subst this; rfl)
 | j + 1, hk => fun w st h hN => by
  have ih := facR_any R j (by omega)
  cases hn : st.bind Ru.next with
  | none => exact facR_none (j + 1) R w st h hn
  | some p =>
   obtain ⟨x, r⟩ := p
   cases st with
   | none => cases hn
   | some ws =>
    obtain ⟨e, hxn⟩ := Ru.next_len (show Ru.next ws = some (x, r) from hn)
    subst e
    have hl := hN _ rfl
    have hrj : r.length ≤ j := by simp at hl; omega
    show Calls Tryz.prog 129 #[.pointer (some ⟨R, 0, none⟩)] w (CondR (Ru.fac (j + 1) (x :: r)) R w)
    by_cases n0 : x = Ru.kwAny
    ·subst n0; exact facR_any1 j R w r h
    by_cases n1 : x = Ru.kwNet
    ·subst n1; exact facR_net j R w r h
    by_cases n2 : x = Ru.kwClass
    ·subst n2; exact facR_class j R w r h
    by_cases n3 : x = Ru.kwKind
    ·subst n3; exact facR_kind j R w r h
    by_cases n4 : x = Ru.kwLayer
    ·subst n4; exact facR_layer j R w r h
    by_cases n5 : x = Ru.kwPart
    ·subst n5; exact facR_part j R w r h
    by_cases n6 : x = Ru.kwIn
    ·subst n6; exact facR_in j R w r h
    by_cases n7 : x = Ru.kwNot
    ·subst n7; exact facR_not j R w r h ih hrj
    by_cases n8 : x = Ru.kwL
    ·subst n8; exact facR_open j R w r h (orR_of (by omega) ih) hrj
    exact facR_else x j R w r h hxn n0 n1 n2 n3 n4 n5 n6 n7 n8
theorem orcR_any (R k : Nat) (hk : k ≤ 1000000000000) : OrR k R := orR_of hk (facR_any R k hk)
end Go.Proofs.YtnchipahdfbliaaGreatDoor
