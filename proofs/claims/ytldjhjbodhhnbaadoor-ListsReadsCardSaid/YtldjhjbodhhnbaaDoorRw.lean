/- The reference's word is the program's. Condition: strings of at most 2^20 bytes. -/
import Derived.Test.YtldjhjbodhhnbaaDoorRn
namespace Go.Proofs.YtldjhjbodhhnbaaDoor
open Go.RowKit

theorem hex_span (m : Nat) (hm : m < 16) : (⟨#[48, 49, 50, 51, 52, 53, 54, 55, 56, 57, 97, 98, 99, 100, 101, 102]⟩ : ByteArray).extract m (m + 1) = ⟨[Li.hexd m].toArray⟩ := by
  have : ∀ k : Fin 16, (⟨#[48, 49, 50, 51, 52, 53, 54, 55, 56, 57, 97, 98, 99, 100, 101, 102]⟩ : ByteArray).extract k.val (k.val + 1) = ⟨[Li.hexd k.val].toArray⟩ := by decide +kernel
  exact this ⟨m, hm⟩
def RWordRel (w : World) (s : List UInt8) (o i : Value) (wr : World) : Prop :=
  ∃ k : Nat, k ≤ s.length ∧ i = .int .i64 k ∧ o = .string ⟨(wordTo s k).toArray⟩ ∧ Kp w wr none
theorem one_of (s : List UInt8) (k : Nat) (h : k < s.length) : (s.take (k + 1)).drop k = [s[k]] := by
  rw [List.take_succ_eq_append_getElem h, List.drop_left' (by simp; omega)]
theorem rcat (l : List UInt8) (a b : UInt8) : (⟨l.toArray⟩ : ByteArray) ++ ⟨#[92]⟩ ++ ⟨[a].toArray⟩ ++ ⟨[b].toArray⟩ = ⟨(l ++ [92, a, b]).toArray⟩ := by
  rw [show (⟨#[92]⟩ : ByteArray) = ⟨[92].toArray⟩ from rfl, cat_eq, cat_eq, cat_eq]; simp
set_option maxHeartbeats 4000000 in
set_option maxRecDepth 100000 in
theorem rword_any (s : List UInt8) (w : World) (hs : s.length ≤ 1048576) : Calls Tryd.prog 26 #[.string ⟨s.toArray⟩] w fun e w' => e = .returned (.string ⟨(Li.word s).toArray⟩) ∧ Kp w w' none := by
  have hlen := wordTo_length s
  have HLEN := Lib.hid hlen
  clear hlen
  go_enter Tryd.func26, Tryd.ntmps26
  go_wp2_with fail
  go_loopw [3, 4] (fun o i wr => RWordRel w s o i wr) (fun _ i _ => s.length - (intOf i).toNat)
  case atStart => exact ⟨0, Nat.zero_le _, rfl, rfl, Kp.refl _ _⟩
  case round =>
    obtain ⟨k, hk, rfl, rfl, hK⟩ := hrel
    have HK := Lib.hid hK
    clear hK
    have hL := HLEN.out k
    by_cases hlt : k < s.length
    · obtain ⟨c, hx⟩ : ∃ c, s[k] = c := ⟨_, rfl⟩
      have hx0 : ∀ h', (⟨s.toArray⟩ : ByteArray)[k]'h' = c := fun _ => hx
      have HX := Lib.hid hx
      clear hx
      have hk0 : (0 : Int) ≤ (k : Int) := Int.natCast_nonneg _
      have hk1 : (k : Int) < (s.length : Int) := by omega
      go_upto_region 6 with fail
      go_cut [28] (fun s28 wx => s28 = .bool (Li.esc c) ∧ wr = wx)
      case first =>
        obtain ⟨b1, h1⟩ : ∃ b, ((c.toNat : Int) == 34) = b := ⟨_, rfl⟩
        obtain ⟨b2, h2⟩ : ∃ b, ((c.toNat : Int) == 92) = b := ⟨_, rfl⟩
        obtain ⟨b3, h3⟩ : ∃ b, decide ((c.toNat : Int) < 32) = b := ⟨_, rfl⟩
        obtain ⟨b4, h4⟩ : ∃ b, decide (126 < (c.toNat : Int)) = b := ⟨_, rfl⟩
        have HE := Lib.hid (esc_bools c h1 h2 h3 h4)
        go_wp2_with fail
        all_goals
          go_meet
          exact ⟨by rw [HE.out]; simp [*], rfl⟩
      case rest =>
        obtain ⟨rfl, rfl⟩ := hcut
        obtain ⟨e, he⟩ : ∃ e, Li.esc c = e := ⟨_, rfl⟩
        rw [he]
        have HE := Lib.hid he
        clear he
        cases e
        · have hen : Hid (Li.enc c = [c]) := Lib.hid (by unfold Li.enc; rw [HE.out]; rfl)
          have hex : (⟨s.toArray⟩ : ByteArray).extract k (k + 1) = ⟨[c].toArray⟩ := by rw [ext_mid, one_of s k hlt, HX.out]
          go_wp2_with fail
          rw [cat_eq]
          have hrel : RWordRel w s (.string ⟨(wordTo s k ++ [c]).toArray⟩) (.int .i64 (k + 1)) wr := ⟨k + 1, hlt, by go_num, by rw [wordTo_step s k hlt, HX.out, hen.out], HK.out⟩
          first | exact ⟨hrel, by simp [intOf]; omega⟩ | (go_roundw; all_goals first | exact hrel | (simp [intOf]; omega) | ((repeat apply Exists.intro); exact ⟨hrel, rfl⟩))
        · have hen : Hid (Li.enc c = [92, Li.hexd (c.toNat / 16), Li.hexd (c.toNat % 16)]) := Lib.hid (by unfold Li.enc; rw [HE.out]; rfl)
          have hn := c.toNat_lt
          obtain ⟨q, hq⟩ : ∃ q, c.toNat / 16 = q := ⟨_, rfl⟩
          obtain ⟨m, hm⟩ : ∃ m, c.toNat % 16 = m := ⟨_, rfl⟩
          have hq16 : q < 16 := by omega
          have hm16 : m < 16 := by omega
          have eq1 : (c.toNat : Int) / 16 = (q : Int) := by omega
          have eq2 : (c.toNat : Int).tdiv 16 = (q : Int) := by rw [Int.tdiv_eq_ediv_of_nonneg (by omega)]; omega
          have em1 : (c.toNat : Int) % 16 = (m : Int) := by omega
          have em2 : (c.toNat : Int).tmod 16 = (m : Int) := by rw [Int.tmod_eq_emod_of_nonneg (by omega)]; omega
          have ew1 : IntKind.u8.wrap ((q : Int) + 1) = (q : Int) + 1 := by unfold IntKind.wrap; simp [IntKind.bits, IntKind.signed]; omega
          have ew2 : IntKind.u8.wrap ((m : Int) + 1) = (m : Int) + 1 := by unfold IntKind.wrap; simp [IntKind.bits, IntKind.signed]; omega
          have ew3 : IntKind.u8.wrap (q : Int) = (q : Int) := by unfold IntKind.wrap; simp [IntKind.bits, IntKind.signed]; omega
          have ew4 : IntKind.u8.wrap (m : Int) = (m : Int) := by unfold IntKind.wrap; simp [IntKind.bits, IntKind.signed]; omega
          have et1 : ((q : Int) + 1).toNat = q + 1 := by omega
          have et2 : ((m : Int) + 1).toNat = m + 1 := by omega
          have e1 := hex_span q hq16
          have e2 := hex_span m hm16
          have hq0 : (0 : Int) ≤ (q : Int) := by omega
          have hq1 : (q : Int) + 1 ≤ 16 := by omega
          have hq2 : (q : Int) ≤ (q : Int) + 1 := by omega
          have hq3 : (0 : Int) ≤ (q : Int) + 1 := by omega
          have hm0 : (0 : Int) ≤ (m : Int) := by omega
          have hm1 : (m : Int) + 1 ≤ 16 := by omega
          have hm2 : (m : Int) ≤ (m : Int) + 1 := by omega
          have hm3 : (0 : Int) ≤ (m : Int) + 1 := by omega
          have g1 : (9223372036854775807 < (wordTo s k).length + 1) = False := eq_false (by omega)
          have g2 : (9223372036854775807 < (wordTo s k).length + 1 + 1) = False := eq_false (by omega)
          have g3 : (9223372036854775807 < (wordTo s k).length + 2) = False := eq_false (by omega)
          have g4 : (9223372036854775807 < (wordTo s k).length + 1 + 1 + 1) = False := eq_false (by omega)
          have g5 : (9223372036854775807 < (wordTo s k).length + 3) = False := eq_false (by omega)
          have HQ := Lib.hid hq
          have HM := Lib.hid hm
          clear hq hm
          go_wp2_with fail
          refine wp_region_held_drew (S := fun _ => True) (by kernel_rfl) ?_ (fun hHeld => ?_)
          · trivial
          refine wpAnyH_take (i := 0) (oi := _) (v := ?_) rfl (by kernel_rfl) (by kernel_rfl) (by kernel_rfl) (fun _ _ _ h => h) (Or.inl ⟨by rfl, ?_⟩) (by assumption) ?_
          rotate_left
          · (intro w hSw; (try dsimp only at hSw); go_simp <;> with_reducible rfl)
          try simp only [Act.put, List.setIfInBounds_toArray]
          refine wpAnyH_take (i := 1) (oi := _) (v := ?_) rfl (by kernel_rfl) (by kernel_rfl) (by kernel_rfl) (fun _ _ _ h => h) (Or.inl ⟨by rfl, ?_⟩) (by assumption) ?_
          rotate_left
          · (intro w hSw; (try dsimp only at hSw); go_simp <;> with_reducible rfl)
          try simp only [Act.put]
          refine wpAnyH_take (i := 2) (oi := _) (v := ?_) rfl (by kernel_rfl) (by kernel_rfl) (by kernel_rfl) (fun _ _ _ h => h) (Or.inl ⟨by rfl, ?_⟩) (by assumption) ?_
          rotate_left
          · (intro w hSw; (try dsimp only at hSw); go_simp <;> with_reducible rfl)
          try simp only [Act.put]
          refine wpAnyH_take (i := 3) (oi := _) (v := ?_) rfl (by kernel_rfl) (by kernel_rfl) (by kernel_rfl) (fun _ _ _ h => h) (Or.inl ⟨by rfl, ?_⟩) (by assumption) ?_
          rotate_left
          · (intro w hSw; (try dsimp only at hSw); go_simp <;> with_reducible rfl)
          try simp only [Act.put]
          refine wpAnyH_take (i := 4) (oi := _) (v := ?_) rfl (by kernel_rfl) (by kernel_rfl) (by kernel_rfl) (fun _ _ _ h => h) (Or.inl ⟨by rfl, ?_⟩) (by assumption) ?_
          rotate_left
          · (intro w hSw; (try dsimp only at hSw); go_simp <;> with_reducible rfl)
          try simp only [Act.put]
          refine wpAnyH_take (i := 5) (oi := _) (v := ?_) rfl (by kernel_rfl) (by kernel_rfl) (by kernel_rfl) (fun _ _ _ h => h) (Or.inl ⟨by rfl, ?_⟩) (by assumption) ?_
          rotate_left
          · (intro w hSw; (try dsimp only at hSw); go_simp <;> with_reducible rfl)
          try simp only [Act.put]
          refine wpAnyH_take (i := 6) (oi := _) (v := ?_) rfl (by kernel_rfl) (by kernel_rfl) (by kernel_rfl) (fun _ _ _ h => h) (Or.inl ⟨by rfl, ?_⟩) (by assumption) ?_
          rotate_left
          · (intro w hSw; (try dsimp only at hSw); go_simp <;> with_reducible rfl)
          try simp only [Act.put]
          refine wpAnyH_take (i := 7) (oi := _) (v := ?_) rfl (by kernel_rfl) (by kernel_rfl) (by kernel_rfl) (fun _ _ _ h => h) (Or.inl ⟨by rfl, ?_⟩) (by assumption) ?_
          rotate_left
          · (intro w hSw; (try dsimp only at hSw); go_simp <;> with_reducible rfl)
          try simp only [Act.put]
          refine wpAnyH_take (i := 8) (oi := _) (v := ?_) rfl (by kernel_rfl) (by kernel_rfl) (by kernel_rfl) (fun _ _ _ h => h) (Or.inl ⟨by rfl, ?_⟩) (by assumption) ?_
          rotate_left
          · (intro w hSw; (try dsimp only at hSw); go_simp <;> with_reducible rfl)
          try simp only [Act.put]
          refine wpAnyH_take (i := 9) (oi := _) (v := ?_) rfl (by kernel_rfl) (by kernel_rfl) (by kernel_rfl) (fun _ _ _ h => h) (Or.inl ⟨by rfl, ?_⟩) (by assumption) ?_
          rotate_left
          · (intro w hSw; (try dsimp only at hSw); go_simp <;> with_reducible rfl)
          try simp only [Act.put]
          refine wpAnyH_take (i := 10) (oi := _) (v := ?_) rfl (by kernel_rfl) (by kernel_rfl) (by kernel_rfl) (fun _ _ _ h => h) (Or.inl ⟨by rfl, ?_⟩) (by assumption) ?_
          rotate_left
          · (intro w hSw; (try dsimp only at hSw); go_simp <;> with_reducible rfl)
          try simp only [Act.put]
          refine wpAnyH_take (i := 11) (oi := _) (v := ?_) rfl (by kernel_rfl) (by kernel_rfl) (by kernel_rfl) (fun _ _ _ h => h) (Or.inl ⟨by rfl, ?_⟩) (by assumption) ?_
          rotate_left
          · (intro w hSw; (try dsimp only at hSw); go_simp <;> with_reducible rfl)
          try simp only [Act.put]
          refine wpAnyH_take (i := 12) (oi := _) (v := ?_) rfl (by kernel_rfl) (by kernel_rfl) (by kernel_rfl) (fun _ _ _ h => h) (Or.inl ⟨by rfl, ?_⟩) (by assumption) ?_
          rotate_left
          · (intro w hSw; (try dsimp only at hSw); go_simp <;> with_reducible rfl)
          try simp only [Act.put]
          refine wpAnyH_take (i := 13) (oi := _) (v := ?_) rfl (by kernel_rfl) (by kernel_rfl) (by kernel_rfl) (fun _ _ _ h => h) (Or.inl ⟨by rfl, ?_⟩) (by assumption) ?_
          rotate_left
          · (intro w hSw; (try dsimp only at hSw); go_simp <;> with_reducible rfl)
          try simp only [Act.put]
          refine wpAnyH_take (i := 14) (oi := _) (v := ?_) rfl (by kernel_rfl) (by kernel_rfl) (by kernel_rfl) (fun _ _ _ h => h) (Or.inl ⟨by rfl, ?_⟩) (by assumption) ?_
          rotate_left
          · (intro w hSw; (try dsimp only at hSw); go_simp <;> with_reducible rfl)
          try simp only [Act.put]
          refine wpAnyH_take (i := 15) (oi := _) (v := ?_) rfl (by kernel_rfl) (by kernel_rfl) (by kernel_rfl) (fun _ _ _ h => h) (Or.inl ⟨by rfl, ?_⟩) (by assumption) ?_
          rotate_left
          · (intro w hSw; (try dsimp only at hSw); go_simp <;> with_reducible rfl)
          try simp only [Act.put]
          refine wpAnyH_ready (rs := [16]) (by kernel_rfl) (by simp) ?_
          refine AllReadyH.cons (o := _) rfl (fun K hK => ?_) AllReadyH.nil
          clear hHeld
          go_simp
          refine hK.out _ _ trivial (fun hHeld => ?_)
          clear hK K hHeld
          try simp only [Act.put, List.setIfInBounds_toArray, List.set_cons_zero, List.set_cons_succ]
          refine wpAnyH_done (by kernel_rfl) ?_ _
          clear g1 g2 g3 g4 g5 e1 e2 et1 et2 ew1 ew2 ew3 ew4 eq1 eq2 em1 em2 hq0 hq1 hq2 hq3 hm0 hm1 hm2 hm3
          have HREL : Hid (RWordRel w s (.string (⟨(wordTo s k).toArray⟩ ++ ⟨#[92]⟩ ++ ⟨[Li.hexd q].toArray⟩ ++ ⟨[Li.hexd m].toArray⟩)) (.int .i64 (k + 1)) wr.drew) := Lib.hid ⟨k + 1, hlt, by go_num, by rw [wordTo_step s k hlt, HX.out, hen.out, HQ.out, HM.out, rcat], HK.out.drew⟩
          go_wp2_with fail
          first | exact ⟨HREL.out, by simp [intOf]; omega⟩ | (go_roundw; all_goals first | exact HREL.out | (simp [intOf]; omega) | ((repeat apply Exists.intro); exact ⟨HREL.out, rfl⟩))
    · obtain rfl : k = s.length := by omega
      go_wp2_with fail
      go_ret
      exact ⟨ret_str (by rw [show (⟨#[34]⟩ : ByteArray) = ⟨[34].toArray⟩ from rfl, cat_eq]; unfold wordTo Li.word; rw [List.take_length]), HK.out⟩

end Go.Proofs.YtldjhjbodhhnbaaDoor
