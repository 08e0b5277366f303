/- The reference's line: taking a word. Condition: what is read is shorter than 2^20 bytes. -/
import Derived.Test.YtldjhjbodhhnbaaDoorTx
import Derived.Test.YtldjhjbodhhnbaaDoorLiF
namespace Go.Proofs.YtldjhjbodhhnbaaDoor
open Go.RowKit

theorem byte_conv (c : UInt8) (w : World) : (convert 34 9 (.slice (some ⟨w.heap.size, 0, none⟩) 1 1)).run Tryd.prog (w.alloc (.cells #[.int .u8 c.toNat] 5)) = .ok (.string ⟨[c].toArray⟩) (w.alloc (.cells #[.int .u8 c.toNat] 5)) :=
  run_convert_bytes_back (P := Tryd.prog) (w.alloc (.cells #[.int .u8 c.toNat] 5)) 34 9 5 ⟨w.heap.size, 0, none⟩ 1 [c] Tryd.underlying34 Tryd.underlying5 Tryd.underlying9 (fun j hj => by
    have : j = 0 := by simpa using hj
    subst this
    show (w.alloc _).cell? ⟨w.heap.size, 0 + 0, none⟩ = _
    simp only [World.cell?, heap_alloc_new]
    simp)
def WordEnds (w : World) (X : Nat) (S : List UInt8) (bad : Bool) (o : Option (List UInt8 × List UInt8)) (E : Ending) (w' : World) : Prop :=
  (match o with
  | some (d, r) => E = .returned (.string ⟨d.toArray⟩) ∧ LnIs w' X r bad
  | none => ∃ (v S' : List UInt8), E = .returned (.string ⟨v.toArray⟩) ∧ v.length ≤ 1048576 ∧ LnIs w' X S' true ∧ S'.length ≤ S.length) ∧ Kp w w' (some X)
theorem WordEnds.no {w w' : World} {X : Nat} {S S' v : List UInt8} {bad : Bool} {o : Option (List UInt8 × List UInt8)} (h : o = none) (h1 : LnIs w' X S' true) (hl : S'.length ≤ S.length) (hv : v.length ≤ 1048576) (k : Kp w w' (some X)) : WordEnds w X S bad o (.returned (.string ⟨v.toArray⟩)) w' := by
  subst h; exact ⟨⟨v, S', rfl, hv, h1, hl⟩, k⟩
theorem WordEnds.yes {w w' : World} {X : Nat} {S r v : List UInt8} {bad : Bool} {o : Option (List UInt8 × List UInt8)} (h : o = some (v, r)) (h1 : LnIs w' X r bad) (k : Kp w w' (some X)) : WordEnds w X S bad o (.returned (.string ⟨v.toArray⟩)) w' := by
  subst h; exact ⟨⟨rfl, h1⟩, k⟩
/-- What a line holds behind a text that was taken from a bad one. -/
theorem text_bad {w w' : World} {X : Nat} {S t : List UInt8} {E : Ending} (h : TextEnds w X S true (Li.textF t S) E w') : E = .returned (.tuple #[]) ∧ (∃ S', LnIs w' X S' true ∧ S'.length ≤ S.length) ∧ Kp w w' (some X) := by
  obtain ⟨hE, hm, k⟩ := h
  refine ⟨hE, ?_, k⟩
  cases ht : Li.textF t S with
  | none => rw [ht] at hm; exact ⟨S, hm, Nat.le_refl _⟩
  | some r => rw [ht] at hm; exact ⟨r, hm, by rw [Li.textF_some.1 ht, List.length_append]; omega⟩
def lnMu (X : Nat) (w : World) : Nat := match w.cell? ⟨X, 1, none⟩ with
  | some (.bool true) => 0
  | _ => match w.cell? ⟨X, 0, none⟩ with
    | some (.string b) => b.size + 1
    | _ => 0
theorem LnIs.mu0 {w : World} {X : Nat} {S : List UInt8} (h : LnIs w X S true) : lnMu X w = 0 := by unfold lnMu; rw [h.c1]
theorem LnIs.mu {w : World} {X : Nat} {S : List UInt8} (h : LnIs w X S false) : lnMu X w = S.length + 1 := by unfold lnMu; rw [h.c1, h.c0]; show S.toArray.size + 1 = _; simp
def WRel (w : World) (X : Nat) (S : List UInt8) (v : Value) (wr : World) : Prop :=
  ∃ s T : List UInt8, v = .string ⟨s.toArray⟩ ∧ s.length + T.length ≤ S.length + 1 ∧ T.length ≤ S.length ∧ s.length ≤ 1048576 ∧ Kp w wr (some X) ∧ ((Li.Part S s T ∧ LnIs wr X T false) ∨ (Li.quoted S = none ∧ LnIs wr X T true))
theorem quoted_no {S : List UInt8} (h : ∀ d r, S ≠ Li.word d ++ r) : Li.quoted S = none := by
  cases e : Li.quoted S with
  | none => rfl
  | some p => exact (h p.1 p.2 (Li.quoted_some e)).elim
theorem enc_pos1 (c : UInt8) : 1 ≤ (Li.enc c).length := by unfold Li.enc; split <;> simp
theorem digitOf_lt (c : UInt8) : Li.digitOf c < 16 := by
  unfold Li.digitOf
  cases e : Li.hexv c with
  | none => simp
  | some n => exact (Li.hexv_lt e).1
theorem flat_enc_len (s : List UInt8) : s.length ≤ (s.flatMap Li.enc).length := by
  induction s with
  | nil => simp
  | cons c s ih => rw [List.flatMap_cons, List.length_append, List.length_cons]; have := enc_pos1 c; omega
theorem text_none {t S : List UInt8} (h : Li.textF t S = none) : S.take t.length ≠ t := fun e => by unfold Li.textF at h; rw [if_pos e] at h; cases h
theorem one_short {t : List UInt8} (h : t.length < 2) : Li.oneOf (92 :: t) = none := by
  match t, h with
  | [], _ => rfl
  | [_], _ => rfl
theorem u8_wrap (c : UInt8) : IntKind.u8.wrap (c.toNat : Int) = (c.toNat : Int) := by
  have h : ∀ k : Fin 256, IntKind.u8.wrap (k.val : Int) = (k.val : Int) := by decide +kernel
  exact h ⟨c.toNat, c.toNat_lt⟩
set_option maxHeartbeats 8000000 in
set_option maxRecDepth 100000 in
theorem rline_word (X : Nat) (S : List UInt8) (w : World) (h : LnIs w X S false) (hS : S.length < 1048576) : Calls Tryd.prog 44 #[.pointer (some ⟨X, 0, none⟩)] w (WordEnds w X S false (Li.quoted S)) := by
  have c0 := h.c0
  have c1 := h.c1
  have H := Lib.hid h
  clear h
  go_enter Tryd.func44, Tryd.ntmps44
  go_wp2_with fail
  cases ht : Li.textF [34] S with
  | none =>
    have HQ0 : Hid (Li.quoted S = none) := Lib.hid (quoted_no fun d r e => by rw [Li.textF_some.2 (show S = [34] ++ (d.flatMap Li.enc ++ [34] ++ r) by rw [e]; simp [Li.word])] at ht; cases ht)
    have HT := Lib.hid ht
    clear ht
    refine (text_any X S [34] false _ H.out).mono ?_
    rintro e w1 ⟨rfl, h1, k1⟩
    rw [HT.out] at h1
    have H1 := Lib.hid h1
    have K1 := Lib.hid k1
    clear h1 k1
    have d0 := H1.out.c0
    have d1 := H1.out.c1
    go_wp2_with fail
    go_loopw [3] (fun v wr => WRel w X S v wr) (fun _ wr => lnMu X wr)
    case atStart => exact ⟨[], S, rfl, by simp, Nat.le_refl _, by simp, K1.out, .inr ⟨HQ0.out, H1.out⟩⟩
    case round =>
      clear d0 d1
      obtain ⟨s, T, rfl, hsT, hTS, hs20, hK, hst⟩ := hrel
      have HK := Lib.hid hK
      clear hK
      rcases hst with ⟨hP, hL⟩ | ⟨hQ, hL⟩
      · have HP := Lib.hid hP
        have HL := Lib.hid hL
        have c0 := hL.c0
        have c1 := hL.c1
        have f1 : wr.frozen? ⟨X, 1, none⟩ = false := Lib.frozen_of_heap hL 1
        have hXl : X < wr.heap.size := lt_of_block hL
        clear hP hL
        cases T with
        | nil =>
          have HQ : Hid (Li.quoted S = none) := Lib.hid (quoted_no (HP.out.no (by simp) (by intro c hc; cases hc)))
          go_wp2_with fail
          refine (text_any X [] [34] false _ HL.out).mono ?_
          rintro e w5 ⟨rfl, h5, k5⟩
          have H5 : Hid (LnIs w5 X [] true) := Lib.hid h5
          have K5 := Lib.hid (HK.out.trans k5)
          clear h5 k5
          go_wp2_with fail
          go_ret
          exact WordEnds.no HQ.out H5.out (by simp) hs20 K5.out
        | cons c t =>
          have hy0 : ∀ h', (⟨(c :: t).toArray⟩ : ByteArray)[0]'h' = c := fun _ => rfl
          have hlp : (0 : Int) < ((c :: t).length : Int) := by simp
          have hlp2 : (0 : Int) < (t.length : Int) + 1 := by omega
          by_cases h34 : c = 34
          · subst h34
            have HQ : Hid (Li.quoted S = some (s, t)) := Lib.hid (by rw [HP.out.done rfl]; exact Li.quoted_word s t)
            have HT : Hid (Li.textF [34] (34 :: t) = some t) := Lib.hid (Li.textF_some.2 rfl)
            go_wp2_with fail
            refine (text_any X (34 :: t) [34] false _ HL.out).mono ?_
            rintro e w5 ⟨rfl, h5, k5⟩
            rw [HT.out] at h5
            have H5 := Lib.hid h5
            have K5 := Lib.hid (HK.out.trans k5)
            clear h5 k5
            go_wp2_with fail
            go_ret
            exact WordEnds.yes HQ.out H5.out K5.out
          · have hc34 : ((c.toNat : Int) == 34) = false := beq_eq_false_iff_ne.2 (fun e => h34 (UInt8.toNat.inj (by show c.toNat = 34; omega)))
            have hn34 : ((c.toNat : Int) != 34) = true := by simp only [bne, hc34, Bool.not_false]
            have H34 := Lib.hid h34
            clear h34
            have hx1 : (⟨(c :: t).toArray⟩ : ByteArray).extract 0 1 = ⟨[c].toArray⟩ := by rw [ext_take]; rfl
            have hlt1 : (1 : Int) ≤ (t.length : Int) + 1 := by omega
            by_cases h92 : c = 92
            · subst h92
              by_cases hl3 : t.length < 2
              · have HQ : Hid (Li.quoted S = none) := Lib.hid (quoted_no (HP.out.no (by simp) (by intro x hx; rw [one_short hl3] at hx; cases hx)))
                have hl4 : (t.length : Int) + 1 < 3 := by omega
                go_wp2_with fail
                go_ret
                exact WordEnds.no (v := []) HQ.out (heap_set HL.out) (by simpa using hTS) (by simp) (HK.out.set _)
              · obtain ⟨a, b, u0, rfl⟩ : ∃ a b u, t = a :: b :: u := by
                  match t, hl3 with
                  | [], h => exact absurd (by simp) h
                  | [_], h => exact absurd (by simp) h
                  | a :: b :: u, _ => exact ⟨a, b, u, rfl⟩
                have hy1 : ∀ h', (⟨(92 :: a :: b :: u0).toArray⟩ : ByteArray)[1]'h' = a := fun _ => rfl
                have hy2 : ∀ h', (⟨(92 :: a :: b :: u0).toArray⟩ : ByteArray)[2]'h' = b := fun _ => rfl
                obtain ⟨x, hx⟩ : ∃ x, UInt8.ofNat (16 * Li.digitOf a + Li.digitOf b) = x := ⟨_, rfl⟩
                have hda := digitOf_lt a
                have hdb := digitOf_lt b
                have hxn : x.toNat = 16 * Li.digitOf a + Li.digitOf b := by rw [← hx, UInt8.toNat_ofNat']; omega
                have HONE : Hid (Li.oneOf (92 :: a :: b :: u0) = some x) := Lib.hid (by rw [← hx]; rfl)
                clear hx
                obtain ⟨da, hda2⟩ : ∃ da, Li.digitOf a = da := ⟨_, rfl⟩
                obtain ⟨db, hdb2⟩ : ∃ db, Li.digitOf b = db := ⟨_, rfl⟩
                rw [hda2] at hda hxn
                rw [hdb2] at hdb hxn
                have HDA := Lib.hid hda2
                have HDB := Lib.hid hdb2
                clear hda2 hdb2
                have ewm : IntKind.i64.wrap (16 * (da : Int)) = 16 * (da : Int) := by exact IntWalk.i64_in _ (by omega)
                have ewa : IntKind.i64.wrap (16 * (da : Int) + (db : Int)) = 16 * (da : Int) + (db : Int) := by exact IntWalk.i64_in _ (by omega)
                have ewd : IntKind.u8.wrap (16 * (da : Int) + (db : Int)) = 16 * (da : Int) + (db : Int) := by rw [show 16 * (da : Int) + (db : Int) = (x.toNat : Int) by omega]; exact u8_wrap x
                have e16 : 16 * (da : Int) + (db : Int) = (x.toNat : Int) := by omega
                have hlong : ¬ (u0.length : Int) + 1 + 1 + 1 < 3 := by omega
                have hi1 : (1 : Int) < (u0.length : Int) + 1 + 1 + 1 := by omega
                have hi2 : (2 : Int) < (u0.length : Int) + 1 + 1 + 1 := by omega
                have hcv : (convert 34 9 (.slice (some ⟨wr.heap.size, 0, none⟩) 1 1)).run Tryd.prog ((wr.alloc (.cells #[.int .u8 (16 * (da : Int) + (db : Int))] 5)).drew) = .ok (.string ⟨[x].toArray⟩) ((wr.alloc (.cells #[.int .u8 (16 * (da : Int) + (db : Int))] 5)).drew) := by rw [e16]; exact byte_conv x wr.drew
                clear e16
                have HPL : Hid (s.length + 1 + (92 :: a :: b :: u0).length ≤ S.length + 1) := Lib.hid (by rw [HP.out]; have := flat_enc_len s; simp only [List.length_cons, List.length_append] at *; omega)
                have HQN : Hid (Li.textF (Li.enc x) (92 :: a :: b :: u0) = none → Li.quoted S = none) := Lib.hid (fun hn => quoted_no (HP.out.no (by simp) (by intro y hy; rw [HONE.out] at hy; injection hy with hy; subst hy; exact text_none hn)))
                have HLw : Hid (LnIs ((wr.alloc (.cells #[.int .u8 (16 * (da : Int) + (db : Int))] 5)).drew) X (92 :: a :: b :: u0) false) := Lib.hid (HL.out.keep (((Kp.refl wr none).alloc _).drew) (by simp))
                have HKw : Hid (Kp w ((wr.alloc (.cells #[.int .u8 (16 * (da : Int) + (db : Int))] 5)).drew) (some X)) := Lib.hid ((HK.out.alloc _).drew)
                go_wp2_with fail
                refine wp_region_held_drew (S := fun w2 => w2.cell? ⟨X, 0, none⟩ = some (.string ⟨(92 :: a :: b :: u0).toArray⟩)) (by kernel_rfl) ?_ (fun hHeld => ?_)
                · exact c0
                refine wpAnyH_take (i := 0) (oi := _) (v := ?_) rfl (by kernel_rfl) (by kernel_rfl) (by kernel_rfl) (fun _ _ _ h => h) (Or.inl ⟨by rfl, ?_⟩) (by assumption) ?_
                rotate_left
                · (intro w hSw; (try dsimp only at hSw); go_simp <;> with_reducible rfl)
                try simp only [Act.put, List.getElem_toArray, List.getElem_cons_zero, List.setIfInBounds_toArray, List.set_cons_zero, List.set_cons_succ]
                refine wpAnyH_take (i := 1) (oi := _) (v := ?_) rfl (by kernel_rfl) (by kernel_rfl) (by kernel_rfl) (fun _ _ _ h => h) (Or.inl ⟨by rfl, ?_⟩) (by assumption) ?_
                rotate_left
                · (intro w hSw; (try dsimp only at hSw); go_simp <;> with_reducible rfl)
                try simp only [Act.put, List.getElem_toArray, List.getElem_cons_zero, List.getElem_cons_succ, List.setIfInBounds_toArray, List.set_cons_zero, List.set_cons_succ]
                refine wpAnyH_take (i := 2) (oi := _) (v := ?_) rfl (by kernel_rfl) (by kernel_rfl) (by kernel_rfl) (fun _ _ _ h => h) (Or.inl ⟨by rfl, ?_⟩) (by assumption) ?_
                rotate_left
                · (intro w hSw; (try dsimp only at hSw); go_simp <;> with_reducible rfl)
                try simp only [Act.put, List.getElem_toArray, List.getElem_cons_zero, List.getElem_cons_succ, List.setIfInBounds_toArray, List.set_cons_zero, List.set_cons_succ]
                refine wpAnyH_take (i := 3) (oi := _) (v := ?_) rfl (by kernel_rfl) (by kernel_rfl) (by kernel_rfl) (fun _ _ _ h => h) (Or.inl ⟨by rfl, ?_⟩) (by assumption) ?_
                rotate_left
                · (intro w hSw; (try dsimp only at hSw); go_simp <;> with_reducible rfl)
                try simp only [Act.put, List.getElem_toArray, List.getElem_cons_zero, List.getElem_cons_succ, List.setIfInBounds_toArray, List.set_cons_zero, List.set_cons_succ]
                refine wpAnyH_take (i := 4) (oi := _) (v := ?_) rfl (by kernel_rfl) (by kernel_rfl) (by kernel_rfl) (fun _ _ _ h => h) (Or.inl ⟨by rfl, ?_⟩) (by assumption) ?_
                rotate_left
                · (intro w hSw; (try dsimp only at hSw); go_simp <;> with_reducible rfl)
                try simp only [Act.put, List.getElem_toArray, List.getElem_cons_zero, List.getElem_cons_succ, List.setIfInBounds_toArray, List.set_cons_zero, List.set_cons_succ]
                refine wpAnyH_take (i := 7) (oi := _) (v := ?_) rfl (by kernel_rfl) (by kernel_rfl) (by kernel_rfl) (fun _ _ _ h => h) (Or.inl ⟨by rfl, ?_⟩) (by assumption) ?_
                rotate_left
                · (intro w hSw; (try dsimp only at hSw); go_simp <;> with_reducible rfl)
                try simp only [Act.put, List.getElem_toArray, List.getElem_cons_zero, List.getElem_cons_succ, List.setIfInBounds_toArray, List.set_cons_zero, List.set_cons_succ]
                refine wpAnyH_take (i := 8) (oi := _) (v := ?_) rfl (by kernel_rfl) (by kernel_rfl) (by kernel_rfl) (fun _ _ _ h => h) (Or.inl ⟨by rfl, ?_⟩) (by assumption) ?_
                rotate_left
                · (intro w hSw; (try dsimp only at hSw); go_simp <;> with_reducible rfl)
                try simp only [Act.put, List.getElem_toArray, List.getElem_cons_zero, List.getElem_cons_succ, List.setIfInBounds_toArray, List.set_cons_zero, List.set_cons_succ]
                refine wpAnyH_take (i := 9) (oi := _) (v := ?_) rfl (by kernel_rfl) (by kernel_rfl) (by kernel_rfl) (fun _ _ _ h => h) (Or.inl ⟨by rfl, ?_⟩) (by assumption) ?_
                rotate_left
                · (intro w hSw; (try dsimp only at hSw); go_simp <;> with_reducible rfl)
                try simp only [Act.put, List.getElem_toArray, List.getElem_cons_zero, List.getElem_cons_succ, List.setIfInBounds_toArray, List.set_cons_zero, List.set_cons_succ]
                refine wpAnyH_take (i := 10) (oi := _) (v := ?_) rfl (by kernel_rfl) (by kernel_rfl) (by kernel_rfl) (fun _ _ _ h => h) (Or.inl ⟨by rfl, ?_⟩) (by assumption) ?_
                rotate_left
                · (intro w hSw; (try dsimp only at hSw); go_simp <;> with_reducible rfl)
                try simp only [Act.put, List.getElem_toArray, List.getElem_cons_zero, List.getElem_cons_succ, List.setIfInBounds_toArray, List.set_cons_zero, List.set_cons_succ]
                refine wpAnyH_take (i := 11) (oi := _) (v := ?_) rfl (by kernel_rfl) (by kernel_rfl) (by kernel_rfl) (fun _ _ _ h => h) (Or.inl ⟨by rfl, ?_⟩) (by assumption) ?_
                rotate_left
                · (intro w hSw; (try dsimp only at hSw); go_simp <;> with_reducible rfl)
                try simp only [Act.put, List.getElem_toArray, List.getElem_cons_zero, List.getElem_cons_succ, List.setIfInBounds_toArray, List.set_cons_zero, List.set_cons_succ]
                refine wpAnyH_ready (rs := [5]) (by kernel_rfl) (by simp) ?_
                refine AllReadyH.cons (o := _) rfl (fun K hK => ?_) AllReadyH.nil
                clear hHeld
                go_simp
                refine (digit_any a _).mono ?_
                rintro e w' ⟨rfl, rfl⟩
                rw [HDA.out]
                try go_wp2_with fail
                refine hK.out _ _ (by exact c0) (fun hHeld => ?_)
                clear hK K
                try simp only [Act.put, List.getElem_toArray, List.getElem_cons_zero, List.getElem_cons_succ, List.setIfInBounds_toArray, List.set_cons_zero, List.set_cons_succ]
                refine wpAnyH_take (i := 6) (oi := _) (v := ?_) rfl (by kernel_rfl) (by kernel_rfl) (by kernel_rfl) (fun _ _ _ h => h) (Or.inl ⟨by rfl, ?_⟩) (by assumption) ?_
                rotate_left
                · (intro w hSw; (try dsimp only at hSw); go_simp <;> with_reducible rfl)
                try simp only [Act.put, List.getElem_toArray, List.getElem_cons_zero, List.getElem_cons_succ, List.setIfInBounds_toArray, List.set_cons_zero, List.set_cons_succ]
                refine wpAnyH_ready (rs := [12]) (by kernel_rfl) (by simp) ?_
                refine AllReadyH.cons (o := _) rfl (fun K hK => ?_) AllReadyH.nil
                clear hHeld
                go_simp
                refine (digit_any b _).mono ?_
                rintro e w' ⟨rfl, rfl⟩
                rw [HDB.out]
                try go_wp2_with fail
                refine hK.out _ _ (by exact c0) (fun hHeld => ?_)
                clear hK K
                try simp only [Act.put, List.getElem_toArray, List.getElem_cons_zero, List.getElem_cons_succ, List.setIfInBounds_toArray, List.set_cons_zero, List.set_cons_succ]
                refine wpAnyH_take (i := 13) (oi := _) (v := ?_) rfl (by kernel_rfl) (by kernel_rfl) (by kernel_rfl) (fun _ _ _ h => h) (Or.inl ⟨by rfl, ?_⟩) (by assumption) ?_
                rotate_left
                · (intro w hSw; (try dsimp only at hSw); go_simp <;> with_reducible rfl)
                try simp only [Act.put, List.getElem_toArray, List.getElem_cons_zero, List.getElem_cons_succ, List.setIfInBounds_toArray, List.set_cons_zero, List.set_cons_succ]
                refine wpAnyH_take (i := 14) (oi := _) (v := ?_) rfl (by kernel_rfl) (by kernel_rfl) (by kernel_rfl) (fun _ _ _ h => h) (Or.inl ⟨by rfl, ?_⟩) (by assumption) ?_
                rotate_left
                · (intro w hSw; (try dsimp only at hSw); go_simp <;> with_reducible rfl)
                try simp only [Act.put, List.getElem_toArray, List.getElem_cons_zero, List.getElem_cons_succ, List.setIfInBounds_toArray, List.set_cons_zero, List.set_cons_succ]
                refine wpAnyH_ready (rs := [15]) (by kernel_rfl) (by simp) ?_
                refine AllReadyH.cons (o := _) rfl (fun K hK => ?_) AllReadyH.nil
                clear hHeld
                go_simp
                try go_wp2_with fail
                refine hK.out _ _ (by exact HLw.out.c0) (fun hHeld => ?_)
                clear hK K
                try simp only [Act.put, List.getElem_toArray, List.getElem_cons_zero, List.getElem_cons_succ, List.setIfInBounds_toArray, List.set_cons_zero, List.set_cons_succ]
                refine wpAnyH_ready (rs := [16]) (by kernel_rfl) (by simp) ?_
                refine AllReadyH.cons (o := _) rfl (fun K hK => ?_) AllReadyH.nil
                clear hHeld
                go_simp
                try go_wp2_with fail
                refine hK.out _ _ (by exact HLw.out.c0) (fun hHeld => ?_)
                clear hK K
                try simp only [Act.put, List.getElem_toArray, List.getElem_cons_zero, List.getElem_cons_succ, List.setIfInBounds_toArray, List.set_cons_zero, List.set_cons_succ]
                refine wpAnyH_ready (rs := [17]) (by kernel_rfl) (by simp) ?_
                refine AllReadyH.cons (o := _) rfl (fun K hK => ?_) AllReadyH.nil
                clear hHeld
                go_simp
                try go_wp2_with fail
                refine hK.out _ _ (by exact HLw.out.c0) (fun hHeld => ?_)
                clear hK K hHeld
                refine wpAnyH_done (by kernel_rfl) ?_ _
                clear ewm ewa ewd hcv hy1 hy2 c0 c1
                cases ht : Li.textF (Li.enc x) (92 :: a :: b :: u0) with
                | none =>
                  have HT := Lib.hid ht
                  clear ht
                  go_wp2_with fail
                  refine (rword_any [x] _ (by simp)).mono ?_
                  rintro e w3 ⟨rfl, k3⟩
                  have HL3 := Lib.hid (HLw.out.keep k3 (by simp))
                  have K3 := Lib.hid (HKw.out.trans (k3.weak _))
                  clear k3
                  obtain ⟨be, hbe⟩ : ∃ be, Li.word [x] = be := ⟨_, rfl⟩
                  have hbl : be.length = (Li.enc x).length + 2 := by rw [← hbe, Li.word_one]; simp
                  have hbx : (⟨be.toArray⟩ : ByteArray).extract 1 ((Li.enc x).length + 1) = ⟨(Li.enc x).toArray⟩ := by rw [ext_mid, ← hbe, Li.word_one]; congr 2; simp
                  rw [hbe]
                  obtain ⟨en, hen⟩ : ∃ en, Li.enc x = en := ⟨_, rfl⟩
                  rw [hen] at hbl hbx
                  have HEN := Lib.hid hen
                  have hel : en.length ≤ 3 := by rw [← hen]; exact enc_length x
                  have hel1 : 1 ≤ en.length := by rw [← hen]; exact enc_pos1 x
                  clear hbe hen
                  have hb1 : (be.length : Int) = (en.length : Int) + 2 := by omega
                  have hb2 : (be.length : Int) - 1 = (en.length : Int) + 1 := by omega
                  have hb3 : (1 : Int) ≤ (en.length : Int) + 1 := by omega
                  have hb4 : ((en.length : Int) + 1).toNat = en.length + 1 := by omega
                  have gs : (9223372036854775807 < s.length + 1) = False := eq_false (by omega)
                  have gc : (⟨s.toArray⟩ : ByteArray) ++ ⟨[x].toArray⟩ = ⟨(s ++ [x]).toArray⟩ := cat_eq _ _
                  have gc2 : (⟨s.toArray⟩ : ByteArray) ++ ⟨#[x]⟩ = ⟨(s ++ [x]).toArray⟩ := cat_eq _ _
                  go_wp2_with fail
                  refine (text_any X (92 :: a :: b :: u0) en false _ HL3.out).mono ?_
                  rintro e w4 ⟨rfl, h4, k4⟩
                  rw [← HEN.out, HT.out] at h4
                  have HL4 := Lib.hid h4
                  have K4 := Lib.hid (K3.out.trans k4)
                  clear h4 k4
                  have HREL : Hid (WRel w X S (.string ⟨(s ++ [x]).toArray⟩) w4) := Lib.hid ⟨s ++ [x], (92 :: a :: b :: u0), rfl, by have := HPL.out; simp at this ⊢; omega, hTS, by simp; omega, K4.out, .inr ⟨HQN.out HT.out, HL4.out⟩⟩
                  have HMU : Hid (lnMu X w4 < lnMu X wr) := Lib.hid (by rw [HL4.out.mu0, HL.out.mu]; omega)
                  go_wp2_with fail
                  first | exact ⟨HREL.out, HMU.out⟩ | (go_roundw; all_goals first | exact HREL.out | exact HMU.out | ((repeat apply Exists.intro); exact ⟨HREL.out, rfl⟩))
                | some u =>
                  have HT := Lib.hid ht
                  have htl := Li.textF_some.1 ht
                  have hul := congrArg List.length htl
                  rw [List.length_append] at hul
                  have HTL := Lib.hid htl
                  clear ht htl
                  go_wp2_with fail
                  refine (rword_any [x] _ (by simp)).mono ?_
                  rintro e w3 ⟨rfl, k3⟩
                  have HL3 := Lib.hid (HLw.out.keep k3 (by simp))
                  have K3 := Lib.hid (HKw.out.trans (k3.weak _))
                  clear k3
                  obtain ⟨be, hbe⟩ : ∃ be, Li.word [x] = be := ⟨_, rfl⟩
                  have hbl : be.length = (Li.enc x).length + 2 := by rw [← hbe, Li.word_one]; simp
                  have hbx : (⟨be.toArray⟩ : ByteArray).extract 1 ((Li.enc x).length + 1) = ⟨(Li.enc x).toArray⟩ := by rw [ext_mid, ← hbe, Li.word_one]; congr 2; simp
                  rw [hbe]
                  obtain ⟨en, hen⟩ : ∃ en, Li.enc x = en := ⟨_, rfl⟩
                  rw [hen] at hbl hbx
                  have HEN := Lib.hid hen
                  have hel : en.length ≤ 3 := by rw [← hen]; exact enc_length x
                  have hel1 : 1 ≤ en.length := by rw [← hen]; exact enc_pos1 x
                  clear hbe hen
                  have hb1 : (be.length : Int) = (en.length : Int) + 2 := by omega
                  have hb2 : (be.length : Int) - 1 = (en.length : Int) + 1 := by omega
                  have hb3 : (1 : Int) ≤ (en.length : Int) + 1 := by omega
                  have hb4 : ((en.length : Int) + 1).toNat = en.length + 1 := by omega
                  have gs : (9223372036854775807 < s.length + 1) = False := eq_false (by omega)
                  have gc : (⟨s.toArray⟩ : ByteArray) ++ ⟨[x].toArray⟩ = ⟨(s ++ [x]).toArray⟩ := cat_eq _ _
                  have gc2 : (⟨s.toArray⟩ : ByteArray) ++ ⟨#[x]⟩ = ⟨(s ++ [x]).toArray⟩ := cat_eq _ _
                  go_wp2_with fail
                  refine (text_any X (92 :: a :: b :: u0) en false _ HL3.out).mono ?_
                  rintro e w4 ⟨rfl, h4, k4⟩
                  rw [← HEN.out, HT.out] at h4
                  have HL4 := Lib.hid h4
                  have K4 := Lib.hid (K3.out.trans k4)
                  clear h4 k4
                  have HREL : Hid (WRel w X S (.string ⟨(s ++ [x]).toArray⟩) w4) := Lib.hid ⟨s ++ [x], u, rfl, by rw [List.length_append]; simp at hul hsT ⊢; rw [HEN.out] at hul; omega, by simp at hul hTS ⊢; omega, by simp; omega, K4.out, .inl ⟨HP.out.step HTL.out, HL4.out⟩⟩
                  have HMU : Hid (lnMu X w4 < lnMu X wr) := Lib.hid (by rw [HL4.out.mu, HL.out.mu]; rw [HEN.out] at hul; omega)
                  go_wp2_with fail
                  first | exact ⟨HREL.out, HMU.out⟩ | (go_roundw; all_goals first | exact HREL.out | exact HMU.out | ((repeat apply Exists.intro); exact ⟨HREL.out, rfl⟩))
            · have hc92 : ((c.toNat : Int) == 92) = false := beq_eq_false_iff_ne.2 (fun e => h92 (UInt8.toNat.inj (by show c.toNat = 92; omega)))
              have HONE : Hid (Li.oneOf (c :: t) = some c) := Lib.hid (if_neg h92)
              clear h92
              have HPL : Hid (s.length + 1 + (c :: t).length ≤ S.length + 1) := Lib.hid (by rw [HP.out]; have := flat_enc_len s; simp only [List.length_cons, List.length_append] at *; omega)
              have HQN : Hid (Li.textF (Li.enc c) (c :: t) = none → Li.quoted S = none) := Lib.hid (fun hn => quoted_no (HP.out.no (by simpa using H34.out) (by intro y hy; rw [HONE.out] at hy; injection hy with hy; subst hy; exact text_none hn)))
              cases ht : Li.textF (Li.enc c) (c :: t) with
              | none =>
                have HT := Lib.hid ht
                clear ht
                go_wp2_with fail
                refine (rword_any [c] _ (by simp)).mono ?_
                rintro e w3 ⟨rfl, k3⟩
                have HL3 := Lib.hid (HL.out.keep k3 (by simp))
                have K3 := Lib.hid (HK.out.trans (k3.weak _))
                clear k3
                obtain ⟨be, hbe⟩ : ∃ be, Li.word [c] = be := ⟨_, rfl⟩
                have hbl : be.length = (Li.enc c).length + 2 := by rw [← hbe, Li.word_one]; simp
                have hbx : (⟨be.toArray⟩ : ByteArray).extract 1 ((Li.enc c).length + 1) = ⟨(Li.enc c).toArray⟩ := by rw [ext_mid, ← hbe, Li.word_one]; congr 2; simp
                rw [hbe]
                obtain ⟨en, hen⟩ : ∃ en, Li.enc c = en := ⟨_, rfl⟩
                rw [hen] at hbl hbx
                have HEN := Lib.hid hen
                have hel : en.length ≤ 3 := by rw [← hen]; exact enc_length c
                have hel1 : 1 ≤ en.length := by rw [← hen]; exact enc_pos1 c
                clear hbe hen
                have hb1 : (be.length : Int) = (en.length : Int) + 2 := by omega
                have hb2 : (be.length : Int) - 1 = (en.length : Int) + 1 := by omega
                have hb3 : (1 : Int) ≤ (en.length : Int) + 1 := by omega
                have hb4 : ((en.length : Int) + 1).toNat = en.length + 1 := by omega
                have gs : (9223372036854775807 < s.length + 1) = False := eq_false (by omega)
                have gc : (⟨s.toArray⟩ : ByteArray) ++ ⟨[c].toArray⟩ = ⟨(s ++ [c]).toArray⟩ := cat_eq _ _
                have gc2 : (⟨s.toArray⟩ : ByteArray) ++ ⟨#[c]⟩ = ⟨(s ++ [c]).toArray⟩ := cat_eq _ _
                go_wp2_with fail
                refine (text_any X (c :: t) en false _ HL3.out).mono ?_
                rintro e w4 ⟨rfl, h4, k4⟩
                rw [← HEN.out, HT.out] at h4
                have HL4 := Lib.hid h4
                have K4 := Lib.hid (K3.out.trans k4)
                clear h4 k4
                have HREL : Hid (WRel w X S (.string ⟨(s ++ [c]).toArray⟩) w4) := Lib.hid ⟨s ++ [c], (c :: t), rfl, by have := HPL.out; simp at this ⊢; omega, hTS, by simp; omega, K4.out, .inr ⟨HQN.out HT.out, HL4.out⟩⟩
                have HMU : Hid (lnMu X w4 < lnMu X wr) := Lib.hid (by rw [HL4.out.mu0, HL.out.mu]; omega)
                go_wp2_with fail
                first | exact ⟨HREL.out, HMU.out⟩ | (go_roundw; all_goals first | exact HREL.out | exact HMU.out | ((repeat apply Exists.intro); exact ⟨HREL.out, rfl⟩))
              | some u =>
                have HT := Lib.hid ht
                have htl := Li.textF_some.1 ht
                have hul := congrArg List.length htl
                rw [List.length_append] at hul
                have HTL := Lib.hid htl
                clear ht htl
                go_wp2_with fail
                refine (rword_any [c] _ (by simp)).mono ?_
                rintro e w3 ⟨rfl, k3⟩
                have HL3 := Lib.hid (HL.out.keep k3 (by simp))
                have K3 := Lib.hid (HK.out.trans (k3.weak _))
                clear k3
                obtain ⟨be, hbe⟩ : ∃ be, Li.word [c] = be := ⟨_, rfl⟩
                have hbl : be.length = (Li.enc c).length + 2 := by rw [← hbe, Li.word_one]; simp
                have hbx : (⟨be.toArray⟩ : ByteArray).extract 1 ((Li.enc c).length + 1) = ⟨(Li.enc c).toArray⟩ := by rw [ext_mid, ← hbe, Li.word_one]; congr 2; simp
                rw [hbe]
                obtain ⟨en, hen⟩ : ∃ en, Li.enc c = en := ⟨_, rfl⟩
                rw [hen] at hbl hbx
                have HEN := Lib.hid hen
                have hel : en.length ≤ 3 := by rw [← hen]; exact enc_length c
                have hel1 : 1 ≤ en.length := by rw [← hen]; exact enc_pos1 c
                clear hbe hen
                have hb1 : (be.length : Int) = (en.length : Int) + 2 := by omega
                have hb2 : (be.length : Int) - 1 = (en.length : Int) + 1 := by omega
                have hb3 : (1 : Int) ≤ (en.length : Int) + 1 := by omega
                have hb4 : ((en.length : Int) + 1).toNat = en.length + 1 := by omega
                have gs : (9223372036854775807 < s.length + 1) = False := eq_false (by omega)
                have gc : (⟨s.toArray⟩ : ByteArray) ++ ⟨[c].toArray⟩ = ⟨(s ++ [c]).toArray⟩ := cat_eq _ _
                have gc2 : (⟨s.toArray⟩ : ByteArray) ++ ⟨#[c]⟩ = ⟨(s ++ [c]).toArray⟩ := cat_eq _ _
                go_wp2_with fail
                refine (text_any X (c :: t) en false _ HL3.out).mono ?_
                rintro e w4 ⟨rfl, h4, k4⟩
                rw [← HEN.out, HT.out] at h4
                have HL4 := Lib.hid h4
                have K4 := Lib.hid (K3.out.trans k4)
                clear h4 k4
                have HREL : Hid (WRel w X S (.string ⟨(s ++ [c]).toArray⟩) w4) := Lib.hid ⟨s ++ [c], u, rfl, by rw [List.length_append]; simp at hul hsT ⊢; rw [HEN.out] at hul; omega, by simp at hul hTS ⊢; omega, by simp; omega, K4.out, .inl ⟨HP.out.step HTL.out, HL4.out⟩⟩
                have HMU : Hid (lnMu X w4 < lnMu X wr) := Lib.hid (by rw [HL4.out.mu, HL.out.mu]; rw [HEN.out] at hul; omega)
                go_wp2_with fail
                first | exact ⟨HREL.out, HMU.out⟩ | (go_roundw; all_goals first | exact HREL.out | exact HMU.out | ((repeat apply Exists.intro); exact ⟨HREL.out, rfl⟩))
      · have HQ := Lib.hid hQ
        have HL := Lib.hid hL
        have c0 := hL.c0
        have c1 := hL.c1
        clear hQ hL
        go_wp2_with fail
        refine (text_any X T [34] true _ HL.out).mono ?_
        rintro e w5 h5
        obtain ⟨rfl, ⟨S5, h5, hl5⟩, k5⟩ := text_bad h5
        have H5 := Lib.hid h5
        have K5 := Lib.hid (HK.out.trans k5)
        clear h5 k5
        go_wp2_with fail
        go_ret
        exact WordEnds.no HQ.out H5.out (by omega) hs20 K5.out
  | some T0 =>
    have hS := Li.textF_some.1 ht
    have HT := Lib.hid ht
    have HSE := Lib.hid hS
    have hTl := congrArg List.length hS
    simp at hTl
    clear ht hS
    refine (text_any X S [34] false _ H.out).mono ?_
    rintro e w1 ⟨rfl, h1, k1⟩
    rw [HT.out] at h1
    have H1 := Lib.hid h1
    have K1 := Lib.hid k1
    clear h1 k1
    have d0 := H1.out.c0
    have d1 := H1.out.c1
    go_wp2_with fail
    go_loopw [3] (fun v wr => WRel w X S v wr) (fun _ wr => lnMu X wr)
    case atStart => exact ⟨[], T0, rfl, by simp; omega, by omega, by simp, K1.out, .inl ⟨Li.Part.start HSE.out, H1.out⟩⟩
    case round =>
      clear d0 d1
      obtain ⟨s, T, rfl, hsT, hTS, hs20, hK, hst⟩ := hrel
      have HK := Lib.hid hK
      clear hK
      rcases hst with ⟨hP, hL⟩ | ⟨hQ, hL⟩
      · have HP := Lib.hid hP
        have HL := Lib.hid hL
        have c0 := hL.c0
        have c1 := hL.c1
        have f1 : wr.frozen? ⟨X, 1, none⟩ = false := Lib.frozen_of_heap hL 1
        have hXl : X < wr.heap.size := lt_of_block hL
        clear hP hL
        cases T with
        | nil =>
          have HQ : Hid (Li.quoted S = none) := Lib.hid (quoted_no (HP.out.no (by simp) (by intro c hc; cases hc)))
          go_wp2_with fail
          refine (text_any X [] [34] false _ HL.out).mono ?_
          rintro e w5 ⟨rfl, h5, k5⟩
          have H5 : Hid (LnIs w5 X [] true) := Lib.hid h5
          have K5 := Lib.hid (HK.out.trans k5)
          clear h5 k5
          go_wp2_with fail
          go_ret
          exact WordEnds.no HQ.out H5.out (by simp) hs20 K5.out
        | cons c t =>
          have hy0 : ∀ h', (⟨(c :: t).toArray⟩ : ByteArray)[0]'h' = c := fun _ => rfl
          have hlp : (0 : Int) < ((c :: t).length : Int) := by simp
          have hlp2 : (0 : Int) < (t.length : Int) + 1 := by omega
          by_cases h34 : c = 34
          · subst h34
            have HQ : Hid (Li.quoted S = some (s, t)) := Lib.hid (by rw [HP.out.done rfl]; exact Li.quoted_word s t)
            have HT : Hid (Li.textF [34] (34 :: t) = some t) := Lib.hid (Li.textF_some.2 rfl)
            go_wp2_with fail
            refine (text_any X (34 :: t) [34] false _ HL.out).mono ?_
            rintro e w5 ⟨rfl, h5, k5⟩
            rw [HT.out] at h5
            have H5 := Lib.hid h5
            have K5 := Lib.hid (HK.out.trans k5)
            clear h5 k5
            go_wp2_with fail
            go_ret
            exact WordEnds.yes HQ.out H5.out K5.out
          · have hc34 : ((c.toNat : Int) == 34) = false := beq_eq_false_iff_ne.2 (fun e => h34 (UInt8.toNat.inj (by show c.toNat = 34; omega)))
            have hn34 : ((c.toNat : Int) != 34) = true := by simp only [bne, hc34, Bool.not_false]
            have H34 := Lib.hid h34
            clear h34
            have hx1 : (⟨(c :: t).toArray⟩ : ByteArray).extract 0 1 = ⟨[c].toArray⟩ := by rw [ext_take]; rfl
            have hlt1 : (1 : Int) ≤ (t.length : Int) + 1 := by omega
            by_cases h92 : c = 92
            · subst h92
              by_cases hl3 : t.length < 2
              · have HQ : Hid (Li.quoted S = none) := Lib.hid (quoted_no (HP.out.no (by simp) (by intro x hx; rw [one_short hl3] at hx; cases hx)))
                have hl4 : (t.length : Int) + 1 < 3 := by omega
                go_wp2_with fail
                go_ret
                exact WordEnds.no (v := []) HQ.out (heap_set HL.out) (by simpa using hTS) (by simp) (HK.out.set _)
              · obtain ⟨a, b, u0, rfl⟩ : ∃ a b u, t = a :: b :: u := by
                  match t, hl3 with
                  | [], h => exact absurd (by simp) h
                  | [_], h => exact absurd (by simp) h
                  | a :: b :: u, _ => exact ⟨a, b, u, rfl⟩
                have hy1 : ∀ h', (⟨(92 :: a :: b :: u0).toArray⟩ : ByteArray)[1]'h' = a := fun _ => rfl
                have hy2 : ∀ h', (⟨(92 :: a :: b :: u0).toArray⟩ : ByteArray)[2]'h' = b := fun _ => rfl
                obtain ⟨x, hx⟩ : ∃ x, UInt8.ofNat (16 * Li.digitOf a + Li.digitOf b) = x := ⟨_, rfl⟩
                have hda := digitOf_lt a
                have hdb := digitOf_lt b
                have hxn : x.toNat = 16 * Li.digitOf a + Li.digitOf b := by rw [← hx, UInt8.toNat_ofNat']; omega
                have HONE : Hid (Li.oneOf (92 :: a :: b :: u0) = some x) := Lib.hid (by rw [← hx]; rfl)
                clear hx
                obtain ⟨da, hda2⟩ : ∃ da, Li.digitOf a = da := ⟨_, rfl⟩
                obtain ⟨db, hdb2⟩ : ∃ db, Li.digitOf b = db := ⟨_, rfl⟩
                rw [hda2] at hda hxn
                rw [hdb2] at hdb hxn
                have HDA := Lib.hid hda2
                have HDB := Lib.hid hdb2
                clear hda2 hdb2
                have ewm : IntKind.i64.wrap (16 * (da : Int)) = 16 * (da : Int) := by exact IntWalk.i64_in _ (by omega)
                have ewa : IntKind.i64.wrap (16 * (da : Int) + (db : Int)) = 16 * (da : Int) + (db : Int) := by exact IntWalk.i64_in _ (by omega)
                have ewd : IntKind.u8.wrap (16 * (da : Int) + (db : Int)) = 16 * (da : Int) + (db : Int) := by rw [show 16 * (da : Int) + (db : Int) = (x.toNat : Int) by omega]; exact u8_wrap x
                have e16 : 16 * (da : Int) + (db : Int) = (x.toNat : Int) := by omega
                have hlong : ¬ (u0.length : Int) + 1 + 1 + 1 < 3 := by omega
                have hi1 : (1 : Int) < (u0.length : Int) + 1 + 1 + 1 := by omega
                have hi2 : (2 : Int) < (u0.length : Int) + 1 + 1 + 1 := by omega
                have hcv : (convert 34 9 (.slice (some ⟨wr.heap.size, 0, none⟩) 1 1)).run Tryd.prog ((wr.alloc (.cells #[.int .u8 (16 * (da : Int) + (db : Int))] 5)).drew) = .ok (.string ⟨[x].toArray⟩) ((wr.alloc (.cells #[.int .u8 (16 * (da : Int) + (db : Int))] 5)).drew) := by rw [e16]; exact byte_conv x wr.drew
                clear e16
                have HPL : Hid (s.length + 1 + (92 :: a :: b :: u0).length ≤ S.length + 1) := Lib.hid (by rw [HP.out]; have := flat_enc_len s; simp only [List.length_cons, List.length_append] at *; omega)
                have HQN : Hid (Li.textF (Li.enc x) (92 :: a :: b :: u0) = none → Li.quoted S = none) := Lib.hid (fun hn => quoted_no (HP.out.no (by simp) (by intro y hy; rw [HONE.out] at hy; injection hy with hy; subst hy; exact text_none hn)))
                have HLw : Hid (LnIs ((wr.alloc (.cells #[.int .u8 (16 * (da : Int) + (db : Int))] 5)).drew) X (92 :: a :: b :: u0) false) := Lib.hid (HL.out.keep (((Kp.refl wr none).alloc _).drew) (by simp))
                have HKw : Hid (Kp w ((wr.alloc (.cells #[.int .u8 (16 * (da : Int) + (db : Int))] 5)).drew) (some X)) := Lib.hid ((HK.out.alloc _).drew)
                go_wp2_with fail
                refine wp_region_held_drew (S := fun w2 => w2.cell? ⟨X, 0, none⟩ = some (.string ⟨(92 :: a :: b :: u0).toArray⟩)) (by kernel_rfl) ?_ (fun hHeld => ?_)
                · exact c0
                refine wpAnyH_take (i := 0) (oi := _) (v := ?_) rfl (by kernel_rfl) (by kernel_rfl) (by kernel_rfl) (fun _ _ _ h => h) (Or.inl ⟨by rfl, ?_⟩) (by assumption) ?_
                rotate_left
                · (intro w hSw; (try dsimp only at hSw); go_simp <;> with_reducible rfl)
                try simp only [Act.put, List.getElem_toArray, List.getElem_cons_zero, List.setIfInBounds_toArray, List.set_cons_zero, List.set_cons_succ]
                refine wpAnyH_take (i := 1) (oi := _) (v := ?_) rfl (by kernel_rfl) (by kernel_rfl) (by kernel_rfl) (fun _ _ _ h => h) (Or.inl ⟨by rfl, ?_⟩) (by assumption) ?_
                rotate_left
                · (intro w hSw; (try dsimp only at hSw); go_simp <;> with_reducible rfl)
                try simp only [Act.put, List.getElem_toArray, List.getElem_cons_zero, List.getElem_cons_succ, List.setIfInBounds_toArray, List.set_cons_zero, List.set_cons_succ]
                refine wpAnyH_take (i := 2) (oi := _) (v := ?_) rfl (by kernel_rfl) (by kernel_rfl) (by kernel_rfl) (fun _ _ _ h => h) (Or.inl ⟨by rfl, ?_⟩) (by assumption) ?_
                rotate_left
                · (intro w hSw; (try dsimp only at hSw); go_simp <;> with_reducible rfl)
                try simp only [Act.put, List.getElem_toArray, List.getElem_cons_zero, List.getElem_cons_succ, List.setIfInBounds_toArray, List.set_cons_zero, List.set_cons_succ]
                refine wpAnyH_take (i := 3) (oi := _) (v := ?_) rfl (by kernel_rfl) (by kernel_rfl) (by kernel_rfl) (fun _ _ _ h => h) (Or.inl ⟨by rfl, ?_⟩) (by assumption) ?_
                rotate_left
                · (intro w hSw; (try dsimp only at hSw); go_simp <;> with_reducible rfl)
                try simp only [Act.put, List.getElem_toArray, List.getElem_cons_zero, List.getElem_cons_succ, List.setIfInBounds_toArray, List.set_cons_zero, List.set_cons_succ]
                refine wpAnyH_take (i := 4) (oi := _) (v := ?_) rfl (by kernel_rfl) (by kernel_rfl) (by kernel_rfl) (fun _ _ _ h => h) (Or.inl ⟨by rfl, ?_⟩) (by assumption) ?_
                rotate_left
                · (intro w hSw; (try dsimp only at hSw); go_simp <;> with_reducible rfl)
                try simp only [Act.put, List.getElem_toArray, List.getElem_cons_zero, List.getElem_cons_succ, List.setIfInBounds_toArray, List.set_cons_zero, List.set_cons_succ]
                refine wpAnyH_take (i := 7) (oi := _) (v := ?_) rfl (by kernel_rfl) (by kernel_rfl) (by kernel_rfl) (fun _ _ _ h => h) (Or.inl ⟨by rfl, ?_⟩) (by assumption) ?_
                rotate_left
                · (intro w hSw; (try dsimp only at hSw); go_simp <;> with_reducible rfl)
                try simp only [Act.put, List.getElem_toArray, List.getElem_cons_zero, List.getElem_cons_succ, List.setIfInBounds_toArray, List.set_cons_zero, List.set_cons_succ]
                refine wpAnyH_take (i := 8) (oi := _) (v := ?_) rfl (by kernel_rfl) (by kernel_rfl) (by kernel_rfl) (fun _ _ _ h => h) (Or.inl ⟨by rfl, ?_⟩) (by assumption) ?_
                rotate_left
                · (intro w hSw; (try dsimp only at hSw); go_simp <;> with_reducible rfl)
                try simp only [Act.put, List.getElem_toArray, List.getElem_cons_zero, List.getElem_cons_succ, List.setIfInBounds_toArray, List.set_cons_zero, List.set_cons_succ]
                refine wpAnyH_take (i := 9) (oi := _) (v := ?_) rfl (by kernel_rfl) (by kernel_rfl) (by kernel_rfl) (fun _ _ _ h => h) (Or.inl ⟨by rfl, ?_⟩) (by assumption) ?_
                rotate_left
                · (intro w hSw; (try dsimp only at hSw); go_simp <;> with_reducible rfl)
                try simp only [Act.put, List.getElem_toArray, List.getElem_cons_zero, List.getElem_cons_succ, List.setIfInBounds_toArray, List.set_cons_zero, List.set_cons_succ]
                refine wpAnyH_take (i := 10) (oi := _) (v := ?_) rfl (by kernel_rfl) (by kernel_rfl) (by kernel_rfl) (fun _ _ _ h => h) (Or.inl ⟨by rfl, ?_⟩) (by assumption) ?_
                rotate_left
                · (intro w hSw; (try dsimp only at hSw); go_simp <;> with_reducible rfl)
                try simp only [Act.put, List.getElem_toArray, List.getElem_cons_zero, List.getElem_cons_succ, List.setIfInBounds_toArray, List.set_cons_zero, List.set_cons_succ]
                refine wpAnyH_take (i := 11) (oi := _) (v := ?_) rfl (by kernel_rfl) (by kernel_rfl) (by kernel_rfl) (fun _ _ _ h => h) (Or.inl ⟨by rfl, ?_⟩) (by assumption) ?_
                rotate_left
                · (intro w hSw; (try dsimp only at hSw); go_simp <;> with_reducible rfl)
                try simp only [Act.put, List.getElem_toArray, List.getElem_cons_zero, List.getElem_cons_succ, List.setIfInBounds_toArray, List.set_cons_zero, List.set_cons_succ]
                refine wpAnyH_ready (rs := [5]) (by kernel_rfl) (by simp) ?_
                refine AllReadyH.cons (o := _) rfl (fun K hK => ?_) AllReadyH.nil
                clear hHeld
                go_simp
                refine (digit_any a _).mono ?_
                rintro e w' ⟨rfl, rfl⟩
                rw [HDA.out]
                try go_wp2_with fail
                refine hK.out _ _ (by exact c0) (fun hHeld => ?_)
                clear hK K
                try simp only [Act.put, List.getElem_toArray, List.getElem_cons_zero, List.getElem_cons_succ, List.setIfInBounds_toArray, List.set_cons_zero, List.set_cons_succ]
                refine wpAnyH_take (i := 6) (oi := _) (v := ?_) rfl (by kernel_rfl) (by kernel_rfl) (by kernel_rfl) (fun _ _ _ h => h) (Or.inl ⟨by rfl, ?_⟩) (by assumption) ?_
                rotate_left
                · (intro w hSw; (try dsimp only at hSw); go_simp <;> with_reducible rfl)
                try simp only [Act.put, List.getElem_toArray, List.getElem_cons_zero, List.getElem_cons_succ, List.setIfInBounds_toArray, List.set_cons_zero, List.set_cons_succ]
                refine wpAnyH_ready (rs := [12]) (by kernel_rfl) (by simp) ?_
                refine AllReadyH.cons (o := _) rfl (fun K hK => ?_) AllReadyH.nil
                clear hHeld
                go_simp
                refine (digit_any b _).mono ?_
                rintro e w' ⟨rfl, rfl⟩
                rw [HDB.out]
                try go_wp2_with fail
                refine hK.out _ _ (by exact c0) (fun hHeld => ?_)
                clear hK K
                try simp only [Act.put, List.getElem_toArray, List.getElem_cons_zero, List.getElem_cons_succ, List.setIfInBounds_toArray, List.set_cons_zero, List.set_cons_succ]
                refine wpAnyH_take (i := 13) (oi := _) (v := ?_) rfl (by kernel_rfl) (by kernel_rfl) (by kernel_rfl) (fun _ _ _ h => h) (Or.inl ⟨by rfl, ?_⟩) (by assumption) ?_
                rotate_left
                · (intro w hSw; (try dsimp only at hSw); go_simp <;> with_reducible rfl)
                try simp only [Act.put, List.getElem_toArray, List.getElem_cons_zero, List.getElem_cons_succ, List.setIfInBounds_toArray, List.set_cons_zero, List.set_cons_succ]
                refine wpAnyH_take (i := 14) (oi := _) (v := ?_) rfl (by kernel_rfl) (by kernel_rfl) (by kernel_rfl) (fun _ _ _ h => h) (Or.inl ⟨by rfl, ?_⟩) (by assumption) ?_
                rotate_left
                · (intro w hSw; (try dsimp only at hSw); go_simp <;> with_reducible rfl)
                try simp only [Act.put, List.getElem_toArray, List.getElem_cons_zero, List.getElem_cons_succ, List.setIfInBounds_toArray, List.set_cons_zero, List.set_cons_succ]
                refine wpAnyH_ready (rs := [15]) (by kernel_rfl) (by simp) ?_
                refine AllReadyH.cons (o := _) rfl (fun K hK => ?_) AllReadyH.nil
                clear hHeld
                go_simp
                try go_wp2_with fail
                refine hK.out _ _ (by exact HLw.out.c0) (fun hHeld => ?_)
                clear hK K
                try simp only [Act.put, List.getElem_toArray, List.getElem_cons_zero, List.getElem_cons_succ, List.setIfInBounds_toArray, List.set_cons_zero, List.set_cons_succ]
                refine wpAnyH_ready (rs := [16]) (by kernel_rfl) (by simp) ?_
                refine AllReadyH.cons (o := _) rfl (fun K hK => ?_) AllReadyH.nil
                clear hHeld
                go_simp
                try go_wp2_with fail
                refine hK.out _ _ (by exact HLw.out.c0) (fun hHeld => ?_)
                clear hK K
                try simp only [Act.put, List.getElem_toArray, List.getElem_cons_zero, List.getElem_cons_succ, List.setIfInBounds_toArray, List.set_cons_zero, List.set_cons_succ]
                refine wpAnyH_ready (rs := [17]) (by kernel_rfl) (by simp) ?_
                refine AllReadyH.cons (o := _) rfl (fun K hK => ?_) AllReadyH.nil
                clear hHeld
                go_simp
                try go_wp2_with fail
                refine hK.out _ _ (by exact HLw.out.c0) (fun hHeld => ?_)
                clear hK K hHeld
                refine wpAnyH_done (by kernel_rfl) ?_ _
                clear ewm ewa ewd hcv hy1 hy2 c0 c1
                cases ht : Li.textF (Li.enc x) (92 :: a :: b :: u0) with
                | none =>
                  have HT := Lib.hid ht
                  clear ht
                  go_wp2_with fail
                  refine (rword_any [x] _ (by simp)).mono ?_
                  rintro e w3 ⟨rfl, k3⟩
                  have HL3 := Lib.hid (HLw.out.keep k3 (by simp))
                  have K3 := Lib.hid (HKw.out.trans (k3.weak _))
                  clear k3
                  obtain ⟨be, hbe⟩ : ∃ be, Li.word [x] = be := ⟨_, rfl⟩
                  have hbl : be.length = (Li.enc x).length + 2 := by rw [← hbe, Li.word_one]; simp
                  have hbx : (⟨be.toArray⟩ : ByteArray).extract 1 ((Li.enc x).length + 1) = ⟨(Li.enc x).toArray⟩ := by rw [ext_mid, ← hbe, Li.word_one]; congr 2; simp
                  rw [hbe]
                  obtain ⟨en, hen⟩ : ∃ en, Li.enc x = en := ⟨_, rfl⟩
                  rw [hen] at hbl hbx
                  have HEN := Lib.hid hen
                  have hel : en.length ≤ 3 := by rw [← hen]; exact enc_length x
                  have hel1 : 1 ≤ en.length := by rw [← hen]; exact enc_pos1 x
                  clear hbe hen
                  have hb1 : (be.length : Int) = (en.length : Int) + 2 := by omega
                  have hb2 : (be.length : Int) - 1 = (en.length : Int) + 1 := by omega
                  have hb3 : (1 : Int) ≤ (en.length : Int) + 1 := by omega
                  have hb4 : ((en.length : Int) + 1).toNat = en.length + 1 := by omega
                  have gs : (9223372036854775807 < s.length + 1) = False := eq_false (by omega)
                  have gc : (⟨s.toArray⟩ : ByteArray) ++ ⟨[x].toArray⟩ = ⟨(s ++ [x]).toArray⟩ := cat_eq _ _
                  have gc2 : (⟨s.toArray⟩ : ByteArray) ++ ⟨#[x]⟩ = ⟨(s ++ [x]).toArray⟩ := cat_eq _ _
                  go_wp2_with fail
                  refine (text_any X (92 :: a :: b :: u0) en false _ HL3.out).mono ?_
                  rintro e w4 ⟨rfl, h4, k4⟩
                  rw [← HEN.out, HT.out] at h4
                  have HL4 := Lib.hid h4
                  have K4 := Lib.hid (K3.out.trans k4)
                  clear h4 k4
                  have HREL : Hid (WRel w X S (.string ⟨(s ++ [x]).toArray⟩) w4) := Lib.hid ⟨s ++ [x], (92 :: a :: b :: u0), rfl, by have := HPL.out; simp at this ⊢; omega, hTS, by simp; omega, K4.out, .inr ⟨HQN.out HT.out, HL4.out⟩⟩
                  have HMU : Hid (lnMu X w4 < lnMu X wr) := Lib.hid (by rw [HL4.out.mu0, HL.out.mu]; omega)
                  go_wp2_with fail
                  first | exact ⟨HREL.out, HMU.out⟩ | (go_roundw; all_goals first | exact HREL.out | exact HMU.out | ((repeat apply Exists.intro); exact ⟨HREL.out, rfl⟩))
                | some u =>
                  have HT := Lib.hid ht
                  have htl := Li.textF_some.1 ht
                  have hul := congrArg List.length htl
                  rw [List.length_append] at hul
                  have HTL := Lib.hid htl
                  clear ht htl
                  go_wp2_with fail
                  refine (rword_any [x] _ (by simp)).mono ?_
                  rintro e w3 ⟨rfl, k3⟩
                  have HL3 := Lib.hid (HLw.out.keep k3 (by simp))
                  have K3 := Lib.hid (HKw.out.trans (k3.weak _))
                  clear k3
                  obtain ⟨be, hbe⟩ : ∃ be, Li.word [x] = be := ⟨_, rfl⟩
                  have hbl : be.length = (Li.enc x).length + 2 := by rw [← hbe, Li.word_one]; simp
                  have hbx : (⟨be.toArray⟩ : ByteArray).extract 1 ((Li.enc x).length + 1) = ⟨(Li.enc x).toArray⟩ := by rw [ext_mid, ← hbe, Li.word_one]; congr 2; simp
                  rw [hbe]
                  obtain ⟨en, hen⟩ : ∃ en, Li.enc x = en := ⟨_, rfl⟩
                  rw [hen] at hbl hbx
                  have HEN := Lib.hid hen
                  have hel : en.length ≤ 3 := by rw [← hen]; exact enc_length x
                  have hel1 : 1 ≤ en.length := by rw [← hen]; exact enc_pos1 x
                  clear hbe hen
                  have hb1 : (be.length : Int) = (en.length : Int) + 2 := by omega
                  have hb2 : (be.length : Int) - 1 = (en.length : Int) + 1 := by omega
                  have hb3 : (1 : Int) ≤ (en.length : Int) + 1 := by omega
                  have hb4 : ((en.length : Int) + 1).toNat = en.length + 1 := by omega
                  have gs : (9223372036854775807 < s.length + 1) = False := eq_false (by omega)
                  have gc : (⟨s.toArray⟩ : ByteArray) ++ ⟨[x].toArray⟩ = ⟨(s ++ [x]).toArray⟩ := cat_eq _ _
                  have gc2 : (⟨s.toArray⟩ : ByteArray) ++ ⟨#[x]⟩ = ⟨(s ++ [x]).toArray⟩ := cat_eq _ _
                  go_wp2_with fail
                  refine (text_any X (92 :: a :: b :: u0) en false _ HL3.out).mono ?_
                  rintro e w4 ⟨rfl, h4, k4⟩
                  rw [← HEN.out, HT.out] at h4
                  have HL4 := Lib.hid h4
                  have K4 := Lib.hid (K3.out.trans k4)
                  clear h4 k4
                  have HREL : Hid (WRel w X S (.string ⟨(s ++ [x]).toArray⟩) w4) := Lib.hid ⟨s ++ [x], u, rfl, by rw [List.length_append]; simp at hul hsT ⊢; rw [HEN.out] at hul; omega, by simp at hul hTS ⊢; omega, by simp; omega, K4.out, .inl ⟨HP.out.step HTL.out, HL4.out⟩⟩
                  have HMU : Hid (lnMu X w4 < lnMu X wr) := Lib.hid (by rw [HL4.out.mu, HL.out.mu]; rw [HEN.out] at hul; omega)
                  go_wp2_with fail
                  first | exact ⟨HREL.out, HMU.out⟩ | (go_roundw; all_goals first | exact HREL.out | exact HMU.out | ((repeat apply Exists.intro); exact ⟨HREL.out, rfl⟩))
            · have hc92 : ((c.toNat : Int) == 92) = false := beq_eq_false_iff_ne.2 (fun e => h92 (UInt8.toNat.inj (by show c.toNat = 92; omega)))
              have HONE : Hid (Li.oneOf (c :: t) = some c) := Lib.hid (if_neg h92)
              clear h92
              have HPL : Hid (s.length + 1 + (c :: t).length ≤ S.length + 1) := Lib.hid (by rw [HP.out]; have := flat_enc_len s; simp only [List.length_cons, List.length_append] at *; omega)
              have HQN : Hid (Li.textF (Li.enc c) (c :: t) = none → Li.quoted S = none) := Lib.hid (fun hn => quoted_no (HP.out.no (by simpa using H34.out) (by intro y hy; rw [HONE.out] at hy; injection hy with hy; subst hy; exact text_none hn)))
              cases ht : Li.textF (Li.enc c) (c :: t) with
              | none =>
                have HT := Lib.hid ht
                clear ht
                go_wp2_with fail
                refine (rword_any [c] _ (by simp)).mono ?_
                rintro e w3 ⟨rfl, k3⟩
                have HL3 := Lib.hid (HL.out.keep k3 (by simp))
                have K3 := Lib.hid (HK.out.trans (k3.weak _))
                clear k3
                obtain ⟨be, hbe⟩ : ∃ be, Li.word [c] = be := ⟨_, rfl⟩
                have hbl : be.length = (Li.enc c).length + 2 := by rw [← hbe, Li.word_one]; simp
                have hbx : (⟨be.toArray⟩ : ByteArray).extract 1 ((Li.enc c).length + 1) = ⟨(Li.enc c).toArray⟩ := by rw [ext_mid, ← hbe, Li.word_one]; congr 2; simp
                rw [hbe]
                obtain ⟨en, hen⟩ : ∃ en, Li.enc c = en := ⟨_, rfl⟩
                rw [hen] at hbl hbx
                have HEN := Lib.hid hen
                have hel : en.length ≤ 3 := by rw [← hen]; exact enc_length c
                have hel1 : 1 ≤ en.length := by rw [← hen]; exact enc_pos1 c
                clear hbe hen
                have hb1 : (be.length : Int) = (en.length : Int) + 2 := by omega
                have hb2 : (be.length : Int) - 1 = (en.length : Int) + 1 := by omega
                have hb3 : (1 : Int) ≤ (en.length : Int) + 1 := by omega
                have hb4 : ((en.length : Int) + 1).toNat = en.length + 1 := by omega
                have gs : (9223372036854775807 < s.length + 1) = False := eq_false (by omega)
                have gc : (⟨s.toArray⟩ : ByteArray) ++ ⟨[c].toArray⟩ = ⟨(s ++ [c]).toArray⟩ := cat_eq _ _
                have gc2 : (⟨s.toArray⟩ : ByteArray) ++ ⟨#[c]⟩ = ⟨(s ++ [c]).toArray⟩ := cat_eq _ _
                go_wp2_with fail
                refine (text_any X (c :: t) en false _ HL3.out).mono ?_
                rintro e w4 ⟨rfl, h4, k4⟩
                rw [← HEN.out, HT.out] at h4
                have HL4 := Lib.hid h4
                have K4 := Lib.hid (K3.out.trans k4)
                clear h4 k4
                have HREL : Hid (WRel w X S (.string ⟨(s ++ [c]).toArray⟩) w4) := Lib.hid ⟨s ++ [c], (c :: t), rfl, by have := HPL.out; simp at this ⊢; omega, hTS, by simp; omega, K4.out, .inr ⟨HQN.out HT.out, HL4.out⟩⟩
                have HMU : Hid (lnMu X w4 < lnMu X wr) := Lib.hid (by rw [HL4.out.mu0, HL.out.mu]; omega)
                go_wp2_with fail
                first | exact ⟨HREL.out, HMU.out⟩ | (go_roundw; all_goals first | exact HREL.out | exact HMU.out | ((repeat apply Exists.intro); exact ⟨HREL.out, rfl⟩))
              | some u =>
                have HT := Lib.hid ht
                have htl := Li.textF_some.1 ht
                have hul := congrArg List.length htl
                rw [List.length_append] at hul
                have HTL := Lib.hid htl
                clear ht htl
                go_wp2_with fail
                refine (rword_any [c] _ (by simp)).mono ?_
                rintro e w3 ⟨rfl, k3⟩
                have HL3 := Lib.hid (HL.out.keep k3 (by simp))
                have K3 := Lib.hid (HK.out.trans (k3.weak _))
                clear k3
                obtain ⟨be, hbe⟩ : ∃ be, Li.word [c] = be := ⟨_, rfl⟩
                have hbl : be.length = (Li.enc c).length + 2 := by rw [← hbe, Li.word_one]; simp
                have hbx : (⟨be.toArray⟩ : ByteArray).extract 1 ((Li.enc c).length + 1) = ⟨(Li.enc c).toArray⟩ := by rw [ext_mid, ← hbe, Li.word_one]; congr 2; simp
                rw [hbe]
                obtain ⟨en, hen⟩ : ∃ en, Li.enc c = en := ⟨_, rfl⟩
                rw [hen] at hbl hbx
                have HEN := Lib.hid hen
                have hel : en.length ≤ 3 := by rw [← hen]; exact enc_length c
                have hel1 : 1 ≤ en.length := by rw [← hen]; exact enc_pos1 c
                clear hbe hen
                have hb1 : (be.length : Int) = (en.length : Int) + 2 := by omega
                have hb2 : (be.length : Int) - 1 = (en.length : Int) + 1 := by omega
                have hb3 : (1 : Int) ≤ (en.length : Int) + 1 := by omega
                have hb4 : ((en.length : Int) + 1).toNat = en.length + 1 := by omega
                have gs : (9223372036854775807 < s.length + 1) = False := eq_false (by omega)
                have gc : (⟨s.toArray⟩ : ByteArray) ++ ⟨[c].toArray⟩ = ⟨(s ++ [c]).toArray⟩ := cat_eq _ _
                have gc2 : (⟨s.toArray⟩ : ByteArray) ++ ⟨#[c]⟩ = ⟨(s ++ [c]).toArray⟩ := cat_eq _ _
                go_wp2_with fail
                refine (text_any X (c :: t) en false _ HL3.out).mono ?_
                rintro e w4 ⟨rfl, h4, k4⟩
                rw [← HEN.out, HT.out] at h4
                have HL4 := Lib.hid h4
                have K4 := Lib.hid (K3.out.trans k4)
                clear h4 k4
                have HREL : Hid (WRel w X S (.string ⟨(s ++ [c]).toArray⟩) w4) := Lib.hid ⟨s ++ [c], u, rfl, by rw [List.length_append]; simp at hul hsT ⊢; rw [HEN.out] at hul; omega, by simp at hul hTS ⊢; omega, by simp; omega, K4.out, .inl ⟨HP.out.step HTL.out, HL4.out⟩⟩
                have HMU : Hid (lnMu X w4 < lnMu X wr) := Lib.hid (by rw [HL4.out.mu, HL.out.mu]; rw [HEN.out] at hul; omega)
                go_wp2_with fail
                first | exact ⟨HREL.out, HMU.out⟩ | (go_roundw; all_goals first | exact HREL.out | exact HMU.out | ((repeat apply Exists.intro); exact ⟨HREL.out, rfl⟩))
      · have HQ := Lib.hid hQ
        have HL := Lib.hid hL
        have c0 := hL.c0
        have c1 := hL.c1
        clear hQ hL
        go_wp2_with fail
        refine (text_any X T [34] true _ HL.out).mono ?_
        rintro e w5 h5
        obtain ⟨rfl, ⟨S5, h5, hl5⟩, k5⟩ := text_bad h5
        have H5 := Lib.hid h5
        have K5 := Lib.hid (HK.out.trans k5)
        clear h5 k5
        go_wp2_with fail
        go_ret
        exact WordEnds.no HQ.out H5.out (by omega) hs20 K5.out
set_option maxHeartbeats 8000000 in
set_option maxRecDepth 100000 in
theorem rline_word_bad (X : Nat) (S : List UInt8) (w : World) (h : LnIs w X S true) (_hS : S.length < 1048576) : Calls Tryd.prog 44 #[.pointer (some ⟨X, 0, none⟩)] w (WordEnds w X S true none) := by
  have c0 := h.c0
  have c1 := h.c1
  have H := Lib.hid h
  clear h
  go_enter Tryd.func44, Tryd.ntmps44
  go_wp2_with fail
  refine (text_any X S [34] true _ H.out).mono ?_
  rintro e w1 h1
  obtain ⟨rfl, ⟨S1, h1, hl1⟩, k1⟩ := text_bad h1
  have H1 := Lib.hid h1
  have K1 := Lib.hid k1
  clear h1 k1
  have d0 := H1.out.c0
  have d1 := H1.out.c1
  go_wp2_with fail
  go_loopw [3] (fun v wr => v = .string ⟨([] : List UInt8).toArray⟩ ∧ wr = w1) (fun _ wr => 0)
  case atStart => exact ⟨rfl, rfl⟩
  case round =>
    obtain ⟨rfl, rfl⟩ := hrel
    go_wp2_with fail
    refine (text_any X S1 [34] true _ H1.out).mono ?_
    rintro e w2 h2
    obtain ⟨rfl, ⟨S2, h2, hl2⟩, k2⟩ := text_bad h2
    have H2 := Lib.hid h2
    have K2 := Lib.hid (K1.out.trans k2)
    clear h2 k2
    go_wp2_with fail
    go_ret
    exact WordEnds.no (v := []) rfl H2.out (by omega) (by simp) K2.out

end Go.Proofs.YtldjhjbodhhnbaaDoor
