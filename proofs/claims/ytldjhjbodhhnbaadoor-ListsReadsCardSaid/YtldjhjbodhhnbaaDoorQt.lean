/- The word with which a text begins, as the program reads it. Condition: the text is shorter than 2^20 bytes. -/
import Derived.Test.YtldjhjbodhhnbaaDoorLb
namespace Go.Proofs.YtldjhjbodhhnbaaDoor
open Go.RowKit

def QEnds (w : World) (o : Option (List UInt8 × List UInt8)) (E : Ending) (w' : World) : Prop :=
  (match o with
  | some (d, r) => E = .returned (.tuple #[.string ⟨d.toArray⟩, .string ⟨r.toArray⟩])
  | none => E = .panicked bad93) ∧ Kp w w' none
theorem need_any (b : Bool) (w : World) : Calls Tryd.prog 51 #[.bool b] w fun e w' => e = (if b then .returned (.tuple #[]) else .panicked bad93) ∧ w = w' := by
  cases b
  · exact need_no w
  · exact need_yes w
set_option maxHeartbeats 1000000 in
set_option maxRecDepth 100000 in
theorem quoted_head (s : List UInt8) (w : World) (h : s.take 1 ≠ [34]) : Calls Tryd.prog 52 #[.string ⟨s.toArray⟩] w (QEnds w none) := by
  have H := Lib.hid h
  clear h
  go_enter Tryd.func52, Tryd.ntmps52
  go_wp2_with fail
  refine (hasPrefix_any s [34] _ false (decide_eq_false H.out)).mono ?_
  rintro e w' ⟨rfl, rfl⟩
  go_wp2_with fail
  refine (need_no _).mono ?_
  rintro e w' ⟨rfl, rfl⟩
  exact ⟨rfl, rfl, Kp.refl _ _⟩
set_option maxHeartbeats 1000000 in
set_option maxRecDepth 100000 in
theorem quoted_nocut (t : List UInt8) (w : World) (he : Env w) (hs : t.length < 1048576) (h : Wr.cut1 34 t = none) : Calls Tryd.prog 52 #[.string ⟨(34 :: t).toArray⟩] w (QEnds w none) := by
  have H := Lib.hid h
  have HE := Lib.hid he
  have hex : (⟨(34 :: t).toArray⟩ : ByteArray).extract 1 (t.length + 1) = ⟨t.toArray⟩ := ext_drop (34 :: t) 1
  have hl1 : (1 : Int) ≤ (t.length : Int) + 1 := by omega
  clear h he
  go_enter Tryd.func52, Tryd.ntmps52
  go_wp2_with fail
  refine (hasPrefix_any (34 :: t) [34] _ true (by simp)).mono ?_
  rintro e w' ⟨rfl, rfl⟩
  go_wp2_with fail
  refine (need_yes _).mono ?_
  rintro e w' ⟨rfl, rfl⟩
  go_wp2_with fail
  refine (cut_no t 34 _ HE.out (by omega) H.out).mono ?_
  rintro e w' ⟨rfl, n1, rfl⟩
  go_wp2_with fail
  refine (need_no _).mono ?_
  rintro e w' ⟨rfl, rfl⟩
  exact ⟨rfl, rfl, (Kp.refl _ _).drewN _⟩

theorem take_word (inner rest : List UInt8) : (34 :: (inner ++ 34 :: rest)).take (inner.length + 2) = 34 :: inner ++ [34] := by
  rw [show 34 :: (inner ++ 34 :: rest) = (34 :: inner ++ [34]) ++ rest by simp]
  exact List.take_left' (by simp)
theorem beq_dec (a b : List UInt8) : (a == b) = decide (a = b) := by
  by_cases e : a = b
  · rw [e]; simp
  · rw [beq_eq_false_iff_ne.2 e, decide_eq_false e]
theorem dec_short {r : List UInt8} (h : r.length < 2) : Li.dec (92 :: r) = none := by
  match r, h with
  | [], _ => exact Li.dec_short1
  | [a], _ => exact Li.dec_short2 a
theorem quoted_none {t inner rest : List UInt8} (h : Wr.cut1 34 t = some (inner, rest)) (hd : Li.dec inner = none) : Li.quoted (34 :: t) = none := by
  unfold Li.quoted; simp [h, hd]
theorem quoted_eq {t inner rest d : List UInt8} (h : Wr.cut1 34 t = some (inner, rest)) (hd : Li.dec inner = some d) : Li.quoted (34 :: t) = if Li.word d = 34 :: inner ++ [34] then some (d, rest) else none := by
  unfold Li.quoted; simp [h, hd]
theorem le_of_bld {w wr : World} {bs : List Value} (h : Lib.IsBuilderF 71 5 w.heap.size w.heap.size bs wr) : w.heap.size ≤ wr.heap.size := by
  rcases h with ⟨_, v, hb, _⟩ | ⟨_, v, hb, _⟩ <;> exact Nat.le_of_lt (lt_of_block hb)
theorem kp_below {w wr w3 : World} {B : Nat} (h : Kp w wr none) (k : Below B wr w3) (hB : w.heap.size ≤ B) : Kp w w3 none := Kp.of_below (h.below.trans (k.mono hB))
def QRel (w : World) (w0 : World) (inner : List UInt8) (i : Value) (wr : World) : Prop :=
  ∃ (k : Nat) (d : List UInt8), k ≤ inner.length ∧ i = .int .i64 k ∧ Lib.IsBuilderF 71 5 w0.heap.size w0.heap.size (Lib.byteCells d) wr ∧ d.length ≤ k ∧ Li.dec inner = (Li.dec (inner.drop k)).map (d ++ ·) ∧ Kp w wr none
set_option maxHeartbeats 4000000 in
set_option maxRecDepth 100000 in
theorem quoted_word (t inner rest : List UInt8) (w : World) (he : Env w) (hs : t.length < 1048576) (h : Wr.cut1 34 t = some (inner, rest)) : Calls Tryd.prog 52 #[.string ⟨(34 :: t).toArray⟩] w (QEnds w (Li.quoted (34 :: t))) := by
  have H := Lib.hid h
  have HE := Lib.hid he
  have hex : (⟨(34 :: t).toArray⟩ : ByteArray).extract 1 (t.length + 1) = ⟨t.toArray⟩ := ext_drop (34 :: t) 1
  have hl1 : (1 : Int) ≤ (t.length : Int) + 1 := by omega
  have ht := (Wr.cut1_some h).1
  have htl : t.length = inner.length + rest.length + 1 := by rw [ht]; simp; omega
  have HT := Lib.hid ht
  have HTL := Lib.hid htl
  have hin : inner.length < 1048576 := by omega
  clear h he ht htl
  go_enter Tryd.func52, Tryd.ntmps52
  go_wp2_with fail
  refine (hasPrefix_any (34 :: t) [34] _ true (by simp)).mono ?_
  rintro e w' ⟨rfl, rfl⟩
  go_wp2_with fail
  refine (need_yes _).mono ?_
  rintro e w' ⟨rfl, rfl⟩
  go_wp2_with fail
  refine (cut_yes t inner rest 34 _ HE.out (by omega) H.out).mono ?_
  rintro e w1 ⟨rfl, n1, hw1⟩
  have K1 : Hid (Kp w w1 none) := Lib.hid (by rw [← hw1]; exact (Kp.refl _ _).drewN _)
  clear hw1
  go_wp2_with fail
  refine (need_yes _).mono ?_
  rintro e w' ⟨rfl, rfl⟩
  have H0 := Lib.hid (Lib.IsBuilderF.of (Lib.fresh_isBuilder 71 5 w1))
  have K0 : Hid (Kp w (w1.alloc (.cells #[.pointer none, .slice none 0 0] 71)) none) := Lib.hid (K1.out.alloc _)
  go_wp2_with fail
  clear hex
  go_loopw [8] (fun i wr => QRel w w1 inner i wr) (fun i _ => inner.length - (intOf i).toNat)
  case atStart => exact ⟨0, [], Nat.zero_le _, rfl, H0.out, Nat.le_refl _, by rw [List.drop_zero]; cases Li.dec inner <;> simp, K0.out⟩
  case round =>
    obtain ⟨k, d, hk, rfl, hB, hd, hD, hK⟩ := hrel
    have HB := Lib.hid hB
    have HD := Lib.hid hD
    have HK := Lib.hid hK
    have hbz : w1.heap.size ≤ wr.heap.size := le_of_bld hB
    clear hB hD hK H0 K0
    by_cases hlt : k < inner.length
    · obtain ⟨c, hx⟩ : ∃ c, inner[k] = c := ⟨_, rfl⟩
      have hx0 : ∀ h', (⟨inner.toArray⟩ : ByteArray)[k]'h' = c := fun _ => hx
      have HX : Hid (inner.drop k = c :: inner.drop (k + 1)) := Lib.hid (by rw [List.drop_eq_getElem_cons hlt, hx])
      clear hx
      have hk0 : (0 : Int) ≤ (k : Int) := Int.natCast_nonneg _
      have hk1 : (k : Int) < (inner.length : Int) := by omega
      by_cases h92 : c = 92
      · subst h92
        by_cases h2 : k + 2 < inner.length
        · obtain ⟨a, ha⟩ : ∃ a, inner[k + 1] = a := ⟨_, rfl⟩
          obtain ⟨b, hb⟩ : ∃ b, inner[k + 2] = b := ⟨_, rfl⟩
          have ha0 : ∀ h', (⟨inner.toArray⟩ : ByteArray)[k + 1]'h' = a := fun _ => ha
          have hb0 : ∀ h', (⟨inner.toArray⟩ : ByteArray)[k + 2]'h' = b := fun _ => hb
          have HX2 : Hid (inner.drop k = 92 :: a :: b :: inner.drop (k + 3)) := Lib.hid (by rw [HX.out, List.drop_eq_getElem_cons (by omega : k + 1 < inner.length), ha, List.drop_eq_getElem_cons (by omega : k + 2 < inner.length), hb])
          clear ha hb
          have hk2 : (k : Int) + 2 < (inner.length : Int) := by omega
          go_wp2_with fail
          refine (need_yes _).mono ?_
          rintro e w' ⟨rfl, rfl⟩
          have ha4 := hex_index a
          have hb4 := hex_index b
          obtain ⟨hi, hhi⟩ : ∃ hi, Lib.indexByte hexL a = hi := ⟨_, rfl⟩
          obtain ⟨lo, hlo⟩ : ∃ lo, Lib.indexByte hexL b = lo := ⟨_, rfl⟩
          rw [hhi] at ha4
          rw [hlo] at hb4
          have HA4 := Lib.hid ha4
          have HB4 := Lib.hid hb4
          have HHI := Lib.hid hhi
          have HLO := Lib.hid hlo
          clear ha4 hb4 hhi hlo
          have ew1 : IntKind.i64.wrap ((k : Int) + 1) = (k : Int) + 1 := by exact IntWalk.i64_in _ (by omega)
          have ew2 : IntKind.i64.wrap ((k : Int) + 2) = (k : Int) + 2 := by exact IntWalk.i64_in _ (by omega)
          have e11 : ((k : Int) + 1).toNat = k + 1 := by omega
          have e12 : ((k : Int) + 2).toNat = k + 2 := by omega
          have e13 : (0 : Int) ≤ (k : Int) + 1 := by omega
          have e14 : (0 : Int) ≤ (k : Int) + 2 := by omega
          have e15 : (k : Int) + 1 < (inner.length : Int) := by omega
          go_wp2_with fail
          go_quiet ((first | (go_at_call 53; exact Calls.quiet_of_same ((index_any hexL a _ hi HHI.out).mono fun e w' h => ⟨h.1, h.2.symm⟩)) | (go_at_call 53; exact Calls.quiet_of_same ((index_any hexL b _ lo HLO.out).mono fun e w' h => ⟨h.1, h.2.symm⟩))))
          clear ew1 ew2 e11 e12 e13 e14 e15
          cases hva : Li.hexv a with
          | none =>
            have hn : hi < 0 := by have := HA4.out; rw [hva] at this; simp only at this; omega
            have hdn : Hid (Li.dec inner = none) := Lib.hid (by rw [HD.out, HX2.out, Li.dec_esc, hva]; rfl)
            clear hva
            go_wp2_with fail
            refine (need_no _).mono ?_
            rintro e w' ⟨rfl, rfl⟩
            exact ⟨rfl, by rw [quoted_none H.out hdn.out]; exact ⟨rfl, HK.out.drewN _⟩⟩
          | some x =>
            cases hvb : Li.hexv b with
            | none =>
              have hp : 0 ≤ hi := by have := HA4.out; rw [hva] at this; simp only at this; omega
              have hn : lo < 0 := by have := HB4.out; rw [hvb] at this; simp only at this; omega
              have hdn : Hid (Li.dec inner = none) := Lib.hid (by rw [HD.out, HX2.out, Li.dec_esc, hva, hvb]; rfl)
              clear hva hvb
              go_wp2_with fail
              rw [show decide (0 ≤ lo) = false from decide_eq_false (by omega)]
              refine (need_no _).mono ?_
              rintro e w' ⟨rfl, rfl⟩
              exact ⟨rfl, by rw [quoted_none H.out hdn.out]; exact ⟨rfl, HK.out.drewN _⟩⟩
            | some y =>
              have hxi : hi = (x : Int) := by have := HA4.out; rw [hva] at this; exact this
              have hyi : lo = (y : Int) := by have := HB4.out; rw [hvb] at this; exact this
              have hx16 := (Li.hexv_lt hva).1
              have hy16 := (Li.hexv_lt hvb).1
              have hp1 : 0 ≤ hi := by omega
              have hp2 : hi < 16 := by omega
              have hp3 : 0 ≤ lo := by omega
              have hp4 : lo < 16 := by omega
              have HV : Hid (((UInt8.ofNat (16 * x + y)).toNat : Int) = 16 * hi + lo) := Lib.hid (by rw [UInt8.toNat_ofNat']; omega)
              have HDD : Hid (Li.dec inner = ((Li.dec (inner.drop (k + 3))).map (UInt8.ofNat (16 * x + y) :: ·)).map (d ++ ·)) := Lib.hid (by rw [HD.out, HX2.out, Li.dec_esc, hva, hvb])
              clear hva hvb hxi hyi
              go_wp2_with fail
              refine (need_yes _).mono ?_
              rintro e w' ⟨rfl, rfl⟩
              go_wp2_with fail
              refine (writeByte_any w1.heap.size w1.heap.size _ _ _ (builder_kp HB.out ((Kp.refl _ _).drewN _)) (by simp [Lib.byteCells]; omega) (by simpa using hbz)).mono ?_
              rintro e w3 ⟨rfl, h3, b3, x3⟩
              have HREL : Hid (QRel w w1 inner (.int .i64 (k + 3)) w3) := Lib.hid ⟨k + 3, d ++ [UInt8.ofNat (16 * x + y)], by omega, by go_num, .inr (by rw [← cells_lit _ _ _ HV.out]; exact h3), by simp; omega, by rw [HDD.out]; cases Li.dec (inner.drop (k + 3)) <;> simp, kp_below (HK.out.drewN _) b3 K1.out.size⟩
              clear h3 b3 x3
              go_wp2_with fail
              first | exact ⟨HREL.out, by simp [intOf]; omega⟩ | (go_roundw; all_goals first | exact HREL.out | (simp [intOf]; omega) | ((repeat apply Exists.intro); exact ⟨HREL.out, rfl⟩))
        · have hk2 : ¬ (k : Int) + 2 < (inner.length : Int) := by omega
          have hdn : Hid (Li.dec inner = none) := Lib.hid (by rw [HD.out, HX.out, dec_short (by rw [List.length_drop]; omega)]; rfl)
          go_wp2_with fail
          refine (need_no _).mono ?_
          rintro e w' ⟨rfl, rfl⟩
          exact ⟨rfl, by rw [quoted_none H.out hdn.out]; exact ⟨rfl, HK.out⟩⟩
      · have hc92 : ((c.toNat : Int) == 92) = false := beq_eq_false_iff_ne.2 (fun e => h92 (UInt8.toNat.inj (by show c.toNat = 92; omega)))
        go_wp2_with fail
        refine (writeByte_any w1.heap.size w1.heap.size _ _ _ HB.out (by simp [Lib.byteCells]; omega) hbz).mono ?_
        rintro e w3 ⟨rfl, h3, b3, x3⟩
        have HREL : Hid (QRel w w1 inner (.int .i64 (k + 1)) w3) := Lib.hid ⟨k + 1, d ++ [c], hlt, by go_num, .inr (by rw [← cells_lit _ c _ rfl]; exact h3), by simp; omega, by rw [HD.out, HX.out, Li.dec_cons _ h92]; cases Li.dec (inner.drop (k + 1)) <;> simp, kp_below HK.out b3 K1.out.size⟩
        clear h3 b3 x3
        go_wp2_with fail
        first | exact ⟨HREL.out, by simp [intOf]; omega⟩ | (go_roundw; all_goals first | exact HREL.out | (simp [intOf]; omega) | ((repeat apply Exists.intro); exact ⟨HREL.out, rfl⟩))
    · obtain rfl : k = inner.length := by omega
      have hdd : Hid (Li.dec inner = some d) := Lib.hid (by have := HD.out; rw [List.drop_length] at this; simpa [Li.dec] using this)
      have HSL : Hid ((⟨(34 :: t).toArray⟩ : ByteArray).extract 0 (inner.length + 2) = ⟨(34 :: inner ++ [34]).toArray⟩) := Lib.hid (by rw [ext_take, HT.out, take_word])
      have hn1 : (t.length : Int) + 1 - (rest.length : Int) = ((inner.length + 2 : Nat) : Int) := by have := HTL.out; omega
      obtain ⟨m, hm⟩ : ∃ m, inner.length + 2 = m := ⟨_, rfl⟩
      rw [hm] at HSL hn1
      have hmt : (m : Int) ≤ (t.length : Int) + 1 := by have := HTL.out; omega
      have hm0 : (0 : Int) ≤ (m : Int) := by omega
      have HM := Lib.hid hm
      have ew : IntKind.i64.wrap (m : Int) = (m : Int) := by exact IntWalk.i64_in _ (by omega)
      have hsl := HSL.out
      have htm : ((m : Int)).toNat = m := by omega
      obtain ⟨bb, hbb⟩ : ∃ bb, decide (Li.word d = 34 :: inner ++ [34]) = bb := ⟨_, rfl⟩
      have hbq : (Li.word d == 34 :: (inner ++ [34])) = bb := by rw [← hbb]; exact beq_dec _ _
      have HBB := Lib.hid hbb
      clear hm hbb
      have hdl : d.length ≤ 1048576 := by omega
      cases bb
      · have hnw : Hid (¬ Li.word d = 34 :: inner ++ [34]) := Lib.hid (of_decide_eq_false HBB.out)
        go_wp2_with fail
        refine wp_region_held_drew (S := fun _ => True) (by kernel_rfl) ?_ (fun hHeld => ?_)
        · trivial
        refine wpAnyH_take (i := 2) (oi := _) (v := ?_) rfl (by kernel_rfl) (by kernel_rfl) (by kernel_rfl) (fun _ _ _ h => h) (Or.inl ⟨by rfl, ?_⟩) (by assumption) ?_
        rotate_left
        · (intro w hSw; (try dsimp only at hSw); go_simp <;> with_reducible rfl)
        try simp only [Act.put, List.setIfInBounds_toArray]
        refine wpAnyH_take (i := 3) (oi := _) (v := ?_) rfl (by kernel_rfl) (by kernel_rfl) (by kernel_rfl) (fun _ _ _ h => h) (Or.inl ⟨by rfl, ?_⟩) (by assumption) ?_
        rotate_left
        · (intro w hSw; (try dsimp only at hSw); go_simp <;> with_reducible rfl)
        try simp only [Act.put]
        refine wpAnyH_take (i := 4) (oi := _) (v := ?_) rfl (by kernel_rfl) (by kernel_rfl) (by kernel_rfl) (fun _ _ _ h => h) (Or.inl ⟨by rfl, ?_⟩) (by assumption) ?_
        rotate_left
        · (intro w hSw; (try dsimp only at hSw); go_simp <;> with_reducible rfl)
        try simp only [Act.put]
        refine wpAnyH_take (i := 5) (oi := _) (v := ?_) rfl (by kernel_rfl) (by kernel_rfl) (by kernel_rfl) (fun _ _ _ h => h) (Or.inl ⟨by rfl, ?_⟩) (by assumption) ?_
        rotate_left
        · (intro w hSw; (try dsimp only at hSw); go_simp <;> with_reducible rfl)
        try simp only [Act.put]
        refine wpAnyH_take (i := 6) (oi := _) (v := ?_) rfl (by kernel_rfl) (by kernel_rfl) (by kernel_rfl) (fun _ _ _ h => h) (Or.inl ⟨by rfl, ?_⟩) (by assumption) ?_
        rotate_left
        · (intro w hSw; (try dsimp only at hSw); go_simp <;> with_reducible rfl)
        try simp only [Act.put]
        refine wpAnyH_take (i := 7) (oi := _) (v := ?_) rfl (by kernel_rfl) (by kernel_rfl) (by kernel_rfl) (fun _ _ _ h => h) (Or.inl ⟨by rfl, ?_⟩) (by assumption) ?_
        rotate_left
        · (intro w hSw; (try dsimp only at hSw); go_simp <;> with_reducible rfl)
        try simp only [Act.put]
        refine wpAnyH_take (i := 8) (oi := _) (v := ?_) rfl (by kernel_rfl) (by kernel_rfl) (by kernel_rfl) (fun _ _ _ h => h) (Or.inl ⟨by rfl, ?_⟩) (by assumption) ?_
        rotate_left
        · (intro w hSw; (try dsimp only at hSw); go_simp <;> with_reducible rfl)
        try simp only [Act.put]
        refine wpAnyH_ready (rs := [0]) (by kernel_rfl) (by simp) ?_
        refine AllReadyH.cons (o := _) rfl (fun K hK => ?_) AllReadyH.nil
        clear hHeld
        go_simp
        refine (Tryd.Builder_String_any_k w1.heap.size w1.heap.size d _ (builder_kp HB.out (Kp.refl wr none).drew) hbz).mono ?_
        rintro e w4 ⟨rfl, h4, b4, _⟩
        have HB4 := Lib.hid h4
        have HK4 := Lib.hid (kp_below HK.out.drew b4 K1.out.size)
        have hz4 : w1.heap.size ≤ w4.heap.size := le_of_bld h4
        clear h4 b4
        try go_wp2_with fail
        refine hK.out _ _ trivial (fun hHeld => ?_)
        clear hK K
        try simp only [Act.put, List.setIfInBounds_toArray, List.set_cons_zero, List.set_cons_succ]
        refine wpAnyH_ready (rs := [1]) (by kernel_rfl) (by simp) ?_
        refine AllReadyH.cons (o := _) rfl (fun K hK => ?_) AllReadyH.nil
        clear hHeld
        go_simp
        refine (word_any d _ hdl).mono ?_
        rintro e w5 ⟨rfl, k5⟩
        have HB5 := Lib.hid (builder_kp HB4.out k5)
        have HK5 := Lib.hid (HK4.out.trans k5)
        have hz5 : w1.heap.size ≤ w5.heap.size := Nat.le_trans hz4 k5.size
        clear k5
        try go_wp2_with fail
        refine hK.out _ _ trivial (fun hHeld => ?_)
        clear hK K
        try simp only [Act.put, List.setIfInBounds_toArray, List.set_cons_zero, List.set_cons_succ]
        refine wpAnyH_take (i := 9) (oi := _) (v := ?_) rfl (by kernel_rfl) (by kernel_rfl) (by kernel_rfl) (fun _ _ _ h => h) (Or.inl ⟨by rfl, ?_⟩) (by assumption) ?_
        rotate_left
        · (intro w hSw; (try dsimp only at hSw); go_simp <;> with_reducible rfl)
        try simp only [Act.put, List.setIfInBounds_toArray]
        refine wpAnyH_ready (rs := [10]) (by kernel_rfl) (by simp) ?_
        refine AllReadyH.cons (o := _) rfl (fun K hK => ?_) AllReadyH.nil
        clear hHeld
        go_simp
        refine (need_no _).mono ?_
        rintro e w' ⟨rfl, rfl⟩
        exact ⟨rfl, by rw [quoted_eq H.out hdd.out, if_neg hnw.out]; exact ⟨rfl, HK5.out⟩⟩
      · have hyw : Hid (Li.word d = 34 :: inner ++ [34]) := Lib.hid (of_decide_eq_true HBB.out)
        go_wp2_with fail
        refine wp_region_held_drew (S := fun _ => True) (by kernel_rfl) ?_ (fun hHeld => ?_)
        · trivial
        refine wpAnyH_take (i := 2) (oi := _) (v := ?_) rfl (by kernel_rfl) (by kernel_rfl) (by kernel_rfl) (fun _ _ _ h => h) (Or.inl ⟨by rfl, ?_⟩) (by assumption) ?_
        rotate_left
        · (intro w hSw; (try dsimp only at hSw); go_simp <;> with_reducible rfl)
        try simp only [Act.put, List.setIfInBounds_toArray]
        refine wpAnyH_take (i := 3) (oi := _) (v := ?_) rfl (by kernel_rfl) (by kernel_rfl) (by kernel_rfl) (fun _ _ _ h => h) (Or.inl ⟨by rfl, ?_⟩) (by assumption) ?_
        rotate_left
        · (intro w hSw; (try dsimp only at hSw); go_simp <;> with_reducible rfl)
        try simp only [Act.put]
        refine wpAnyH_take (i := 4) (oi := _) (v := ?_) rfl (by kernel_rfl) (by kernel_rfl) (by kernel_rfl) (fun _ _ _ h => h) (Or.inl ⟨by rfl, ?_⟩) (by assumption) ?_
        rotate_left
        · (intro w hSw; (try dsimp only at hSw); go_simp <;> with_reducible rfl)
        try simp only [Act.put]
        refine wpAnyH_take (i := 5) (oi := _) (v := ?_) rfl (by kernel_rfl) (by kernel_rfl) (by kernel_rfl) (fun _ _ _ h => h) (Or.inl ⟨by rfl, ?_⟩) (by assumption) ?_
        rotate_left
        · (intro w hSw; (try dsimp only at hSw); go_simp <;> with_reducible rfl)
        try simp only [Act.put]
        refine wpAnyH_take (i := 6) (oi := _) (v := ?_) rfl (by kernel_rfl) (by kernel_rfl) (by kernel_rfl) (fun _ _ _ h => h) (Or.inl ⟨by rfl, ?_⟩) (by assumption) ?_
        rotate_left
        · (intro w hSw; (try dsimp only at hSw); go_simp <;> with_reducible rfl)
        try simp only [Act.put]
        refine wpAnyH_take (i := 7) (oi := _) (v := ?_) rfl (by kernel_rfl) (by kernel_rfl) (by kernel_rfl) (fun _ _ _ h => h) (Or.inl ⟨by rfl, ?_⟩) (by assumption) ?_
        rotate_left
        · (intro w hSw; (try dsimp only at hSw); go_simp <;> with_reducible rfl)
        try simp only [Act.put]
        refine wpAnyH_take (i := 8) (oi := _) (v := ?_) rfl (by kernel_rfl) (by kernel_rfl) (by kernel_rfl) (fun _ _ _ h => h) (Or.inl ⟨by rfl, ?_⟩) (by assumption) ?_
        rotate_left
        · (intro w hSw; (try dsimp only at hSw); go_simp <;> with_reducible rfl)
        try simp only [Act.put]
        refine wpAnyH_ready (rs := [0]) (by kernel_rfl) (by simp) ?_
        refine AllReadyH.cons (o := _) rfl (fun K hK => ?_) AllReadyH.nil
        clear hHeld
        go_simp
        refine (Tryd.Builder_String_any_k w1.heap.size w1.heap.size d _ (builder_kp HB.out (Kp.refl wr none).drew) hbz).mono ?_
        rintro e w4 ⟨rfl, h4, b4, _⟩
        have HB4 := Lib.hid h4
        have HK4 := Lib.hid (kp_below HK.out.drew b4 K1.out.size)
        have hz4 : w1.heap.size ≤ w4.heap.size := le_of_bld h4
        clear h4 b4
        try go_wp2_with fail
        refine hK.out _ _ trivial (fun hHeld => ?_)
        clear hK K
        try simp only [Act.put, List.setIfInBounds_toArray, List.set_cons_zero, List.set_cons_succ]
        refine wpAnyH_ready (rs := [1]) (by kernel_rfl) (by simp) ?_
        refine AllReadyH.cons (o := _) rfl (fun K hK => ?_) AllReadyH.nil
        clear hHeld
        go_simp
        refine (word_any d _ hdl).mono ?_
        rintro e w5 ⟨rfl, k5⟩
        have HB5 := Lib.hid (builder_kp HB4.out k5)
        have HK5 := Lib.hid (HK4.out.trans k5)
        have hz5 : w1.heap.size ≤ w5.heap.size := Nat.le_trans hz4 k5.size
        clear k5
        try go_wp2_with fail
        refine hK.out _ _ trivial (fun hHeld => ?_)
        clear hK K
        try simp only [Act.put, List.setIfInBounds_toArray, List.set_cons_zero, List.set_cons_succ]
        refine wpAnyH_take (i := 9) (oi := _) (v := ?_) rfl (by kernel_rfl) (by kernel_rfl) (by kernel_rfl) (fun _ _ _ h => h) (Or.inl ⟨by rfl, ?_⟩) (by assumption) ?_
        rotate_left
        · (intro w hSw; (try dsimp only at hSw); go_simp <;> with_reducible rfl)
        try simp only [Act.put, List.setIfInBounds_toArray]
        refine wpAnyH_ready (rs := [10]) (by kernel_rfl) (by simp) ?_
        refine AllReadyH.cons (o := _) rfl (fun K hK => ?_) AllReadyH.nil
        clear hHeld
        go_simp
        refine (need_yes _).mono ?_
        rintro e w' ⟨rfl, rfl⟩
        try go_wp2_with fail
        refine hK.out _ _ trivial (fun hHeld => ?_)
        clear hK K hHeld
        try simp only [Act.put, List.setIfInBounds_toArray, List.set_cons_zero, List.set_cons_succ]
        refine wpAnyH_done (by kernel_rfl) ?_ _
        clear hbq hsl htm ew hn1
        go_wp2_with fail
        refine (Tryd.Builder_String_any_k w1.heap.size w1.heap.size d _ HB5.out hz5).mono ?_
        rintro e w6 ⟨rfl, _, b6, _⟩
        have HK6 := Lib.hid (kp_below HK5.out b6 K1.out.size)
        clear b6
        go_wp2_with fail
        go_ret2
        exact (by rw [quoted_eq H.out hdd.out, if_pos hyw.out]; exact ⟨rfl, HK6.out⟩)

end Go.Proofs.YtldjhjbodhhnbaaDoor
