/- The words of the lists, as the program writes them; its sides; its way out of a line. Condition: a word's string is at most 2^20 bytes long. -/
import Derived.Test.YtldjhjbodhhnbaaDoorBx
import Derived.Deep.DeepCutAuto
import Derived.Deep.CutRange
namespace Go.Proofs.YtldjhjbodhhnbaaDoor
open Go.RowKit

theorem need_yes (w : World) : Calls Tryd.prog 51 #[.bool true] w fun e w' => e = .returned (.tuple #[]) ∧ w = w' := by
  go_enter Tryd.func51, Tryd.ntmps51
  go_wp2
  go_end0
  exact ⟨rfl, rfl⟩
def bad93 : List PanicEntry := [{ v := .iface 93 (.agg #[]), recovered := false }]
theorem need_no (w : World) : Calls Tryd.prog 51 #[.bool false] w fun e w' => e = .panicked bad93 ∧ w = w' := by
  go_enter Tryd.func51, Tryd.ntmps51
  go_wp2
  exact ⟨rfl, rfl, rfl⟩
theorem side_any (x : Bool) (w : World) : Calls Tryd.prog 39 #[.bool x] w fun e w' => e = .returned (.string ⟨(Li.side x).toArray⟩) ∧ w = w' := by
  cases x
  · go_enter Tryd.func39, Tryd.ntmps39
    go_wp2
    go_ret
    exact ⟨rfl, rfl⟩
  · go_enter Tryd.func39, Tryd.ntmps39
    go_wp2
    go_ret
    exact ⟨rfl, rfl⟩

/-- What the builder holds behind k bytes. -/
def wordTo (s : List UInt8) (k : Nat) : List UInt8 := 34 :: (s.take k).flatMap Li.enc
theorem wordTo_step (s : List UInt8) (k : Nat) (h : k < s.length) : wordTo s (k + 1) = wordTo s k ++ Li.enc s[k] := by
  unfold wordTo
  rw [List.take_succ_eq_append_getElem h, List.flatMap_append]; simp
theorem enc_length (c : UInt8) : (Li.enc c).length ≤ 3 := by unfold Li.enc; split <;> simp
theorem wordTo_length (s : List UInt8) (k : Nat) : (wordTo s k).length ≤ 3 * s.length + 1 := by
  unfold wordTo
  have : ∀ l : List UInt8, (l.flatMap Li.enc).length ≤ 3 * l.length := fun l => by
    induction l with
    | nil => simp
    | cons c l ih => have := enc_length c; rw [List.flatMap_cons, List.length_append, List.length_cons]; omega
  have h1 := this (s.take k)
  have h2 : (s.take k).length ≤ s.length := by rw [List.length_take]; omega
  rw [List.length_cons]; omega
def WordRel (w : World) (s : List UInt8) (g : Nat) (i : Value) (wr : World) : Prop :=
  ∃ k : Nat, k ≤ s.length ∧ i = .int .i64 k ∧ BldX (· = g) w.heap.size w.heap.size (Lib.byteCells (wordTo s k)) wr ∧ Kp w wr none ∧ (∀ j, (h : j < s.length) → wr.cell? ⟨g, j, none⟩ = some (.int .u8 s[j].toNat))
theorem esc_bools (c : UInt8) {b1 b2 b3 b4 : Bool} (h1 : ((c.toNat : Int) == 34) = b1) (h2 : ((c.toNat : Int) == 92) = b2) (h3 : decide ((c.toNat : Int) < 32) = b3) (h4 : decide (126 < (c.toNat : Int)) = b4) : Li.esc c = (b1 || b2 || b3 || b4) := by
  have e : ∀ n : Nat, n < 256 → (c == UInt8.ofNat n) = ((c.toNat : Int) == (n : Int)) := fun n hn => by
    by_cases h : c = UInt8.ofNat n
    · subst h; simp [UInt8.toNat_ofNat']; omega
    · rw [beq_eq_false_iff_ne.2 h, beq_eq_false_iff_ne.2 (fun e => h (UInt8.toNat.inj (by rw [UInt8.toNat_ofNat']; omega)))]
  unfold Li.esc
  rw [show (c == 34) = ((c.toNat : Int) == 34) from e 34 (by omega), show (c == 92) = ((c.toNat : Int) == 92) from e 92 (by omega), h1, h2, ← h3, ← h4]
  congr 1
  · congr 1
    rw [decide_eq_decide]; omega
  · rw [decide_eq_decide]; omega
theorem hex_at (m : Nat) (hm : m < 16) {n : Int} (hn : n = (m : Int)) : ((⟨#[48, 49, 50, 51, 52, 53, 54, 55, 56, 57, 97, 98, 99, 100, 101, 102]⟩ : ByteArray).extract n.toNat 16).extract 0 1 = ⟨[Li.hexd m].toArray⟩ := by
  subst hn
  have : ∀ k : Fin 16, ((⟨#[48, 49, 50, 51, 52, 53, 54, 55, 56, 57, 97, 98, 99, 100, 101, 102]⟩ : ByteArray).extract ((k.val : Int)).toNat 16).extract 0 1 = ⟨[Li.hexd k.val].toArray⟩ := by decide +kernel
  exact this ⟨m, hm⟩
theorem and15 (c : UInt8) : bits BinOp.and IntKind.u8 (c.toNat : Int) 15 = ((c.toNat % 16 : Nat) : Int) := by
  have : ∀ k : Fin 256, bits BinOp.and IntKind.u8 (k.val : Int) 15 = ((k.val % 16 : Nat) : Int) := by decide +kernel
  exact this ⟨c.toNat, c.toNat_lt⟩
theorem cat_lit (a b : UInt8) : (⟨#[92]⟩ : ByteArray) ++ ⟨[a].toArray⟩ ++ ⟨[b].toArray⟩ = ⟨[92, a, b].toArray⟩ := by
  rw [show (⟨#[92]⟩ : ByteArray) = ⟨[92].toArray⟩ from rfl, cat_eq, cat_eq]; rfl
theorem wordRel_step {w wr w3 : World} {s : List UInt8} {g k : Nat} {c : UInt8} (hlt : k < s.length) (hx : s[k] = c) (hK : Kp w wr none) (hB : Below w.heap.size wr w3) (h3 : BldX (· = g) w.heap.size w.heap.size (Lib.byteCells (wordTo s k ++ Li.enc c)) w3) (hX : KeptX (· = g) wr w3)
    (hC : ∀ j, (h : j < s.length) → wr.cell? ⟨g, j, none⟩ = some (.int .u8 s[j].toNat)) : WordRel w s g (.int .i64 (k + 1)) w3 :=
  ⟨k + 1, hlt, by go_num, by rw [wordTo_step s k hlt, hx]; exact h3, Kp.of_below (hK.below.trans hB), fun j hj => by rw [World.cell?_of_block (w := wr) (hX g rfl)]; exact hC j hj⟩

set_option maxHeartbeats 4000000 in
set_option maxRecDepth 100000 in
theorem word_any (s : List UInt8) (w : World) (hs : s.length ≤ 1048576) : Calls Tryd.prog 38 #[.string ⟨s.toArray⟩] w fun e w' => e = .returned (.string ⟨(Li.word s).toArray⟩) ∧ Kp w w' none := by
  have hlen := wordTo_length s
  have HLEN := Lib.hid hlen
  clear hlen
  have H0 := Lib.hid (Lib.IsBuilderF.of (Lib.fresh_isBuilder 71 5 w))
  have K0 : Hid (Kp w (w.alloc (.cells #[.pointer none, .slice none 0 0] 71)) none) := (Kp.refl _ _).alloc _
  go_enter Tryd.func38, Tryd.ntmps38
  go_wp2_with fail
  refine (writeByte_any w.heap.size w.heap.size [] 34 _ H0.out (by simp) (by simp)).mono ?_
  rintro e w1 ⟨rfl, h1, b1, _⟩
  have H1 := Lib.hid h1
  have K1 := Lib.hid (Kp.of_below ((K0.out.below).trans b1))
  clear h1 b1
  obtain ⟨cap, w2, hcv, hcap, k2, hlt2, hcells⟩ := conv_bytes s w1
  have H2 : Hid (BldX (· = w1.heap.size) w.heap.size w.heap.size (Lib.byteCells (wordTo s 0)) w2) := Lib.hid (BldX.of (w := w1) (by simpa [wordTo, Lib.byteCells] using H1.out) k2 (fun g hg => by subst hg; exact ⟨Nat.le_refl _, hlt2⟩))
  have K2 := Lib.hid (K1.out.trans k2)
  have HC := Lib.hid hcells
  have hz2 : w.heap.size ≤ w1.heap.size := K1.out.size
  clear hcells k2
  go_wp2_with fail
  clear hcv
  go_loopw [10] (fun i wr => WordRel w s w1.heap.size i wr) (fun i _ => s.length - (intOf i).toNat)
  case atStart => exact ⟨0, Nat.zero_le _, rfl, H2.out, K2.out, HC.out⟩
  case round =>
    obtain ⟨k, hk, rfl, hB, hK, hC⟩ := hrel
    have HB := Lib.hid hB
    have HK := Lib.hid hK
    have HCC := Lib.hid hC
    clear hB hK hC H1 H2 HC
    by_cases hlt : k < s.length
    · have hc := HCC.out k hlt
      obtain ⟨c, hx⟩ : ∃ c, s[k] = c := ⟨_, rfl⟩
      rw [hx] at hc
      have HX := Lib.hid hx
      clear hx
      have hk0 : (0 : Int) ≤ (k : Int) := Int.natCast_nonneg _
      have hk1 : (k : Int) < (s.length : Int) := by omega
      have hbz := HK.out.size
      have hL := HLEN.out k
      go_upto_region 6 with fail
      go_cut [27] (fun s27 wx => s27 = .bool (Li.esc c) ∧ wr = wx)
      case first =>
        obtain ⟨b1, h1⟩ : ∃ b, ((c.toNat : Int) == 34) = b := ⟨_, rfl⟩
        obtain ⟨b2, h2⟩ : ∃ b, ((c.toNat : Int) == 92) = b := ⟨_, rfl⟩
        obtain ⟨b3, h3⟩ : ∃ b, decide ((c.toNat : Int) < 32) = b := ⟨_, rfl⟩
        obtain ⟨b4, h4⟩ : ∃ b, decide (126 < (c.toNat : Int)) = b := ⟨_, rfl⟩
        have HE := Lib.hid (esc_bools c h1 h2 h3 h4)
        go_wp2_with fail
        all_goals
          go_meet
          exact ⟨by rw [HE.out]; simp [*], rfl⟩
      case rest =>
        obtain ⟨rfl, rfl⟩ := hcut
        obtain ⟨e, he⟩ : ∃ e, Li.esc c = e := ⟨_, rfl⟩
        rw [he]
        have HE := Lib.hid he
        clear he
        cases e
        · have hen : Hid (Li.enc c = [c]) := Lib.hid (by unfold Li.enc; rw [HE.out]; rfl)
          go_wp2_with (go_at_call 36; refine (writeByte_x _ w.heap.size w.heap.size _ _ _ HB.out (by simp [Lib.byteCells]; omega) (by omega)).mono ?_; rintro e w3 ⟨rfl, h3, b3, x3⟩; have H3 := Lib.hid h3; have B3 := Lib.hid b3; have X3 := Lib.hid x3; clear h3 b3 x3)
          have hrel : WordRel w s w1.heap.size (.int .i64 (k + 1)) w3 := wordRel_step hlt HX.out HK.out B3.out (by rw [hen.out, ← cells_lit _ c _ rfl]; exact H3.out) X3.out HCC.out
          first | exact ⟨hrel, by simp [intOf]; omega⟩ | (go_roundw; all_goals first | exact hrel | (simp [intOf]; omega) | ((repeat apply Exists.intro); exact ⟨hrel, rfl⟩))
        · have hen : Hid (Li.enc c = [92, Li.hexd (c.toNat / 16), Li.hexd (c.toNat % 16)]) := Lib.hid (by unfold Li.enc; rw [HE.out]; rfl)
          have hn := c.toNat_lt
          have hd0 : (0 : Int) ≤ (c.toNat : Int) / 16 := by omega
          have hd1 : (c.toNat : Int) / 16 ≤ 16 := by omega
          have hc0 : (0 : Int) ≤ (c.toNat : Int) := by omega
          have hb1 : (1 : Int) ≤ ((16 - ((c.toNat : Int) / 16).toNat : Nat) : Int) := by omega
          obtain ⟨m, hm⟩ : ∃ m, c.toNat % 16 = m := ⟨_, rfl⟩
          have hm16 : m < 16 := by omega
          have ea : bits BinOp.and IntKind.u8 (c.toNat : Int) 15 = (m : Int) := by rw [← hm]; exact and15 c
          have hm0 : (0 : Int) ≤ (m : Int) := by omega
          have hm1 : (m : Int) ≤ 16 := by omega
          have hm2 : (1 : Int) ≤ ((16 - m : Nat) : Int) := by omega
          have e2 := hex_at m hm16 (n := (m : Int)) rfl
          rw [Int.toNat_natCast] at e2
          have HM := Lib.hid hm
          clear hm hm16
          have e1 := hex_at (c.toNat / 16) (Li.div16 c) (n := (c.toNat : Int) / 16) (by omega)
          have hc1 : (c.toNat : Int) < 256 := by omega
          go_wp2_with fail
          refine wp_region_held_drew (S := fun _ => True) (by kernel_rfl) ?_ (fun hHeld => ?_)
          · trivial
          refine wpAnyH_take (i := 0) (oi := _) (v := ?_) rfl (by kernel_rfl) (by kernel_rfl) (by kernel_rfl) (fun _ _ _ h => h) (Or.inl ⟨by rfl, ?_⟩) (by assumption) ?_
          rotate_left
          · (intro w hSw; (try dsimp only at hSw); go_simp <;> with_reducible rfl)
          try simp only [Act.put, List.setIfInBounds_toArray]
          refine wpAnyH_take (i := 1) (oi := _) (v := ?_) rfl (by kernel_rfl) (by kernel_rfl) (by kernel_rfl) (fun _ _ _ h => h) (Or.inl ⟨by rfl, ?_⟩) (by assumption) ?_
          rotate_left
          · (intro w hSw; (try dsimp only at hSw); go_simp <;> with_reducible rfl)
          try simp only [Act.put]
          refine wpAnyH_take (i := 2) (oi := _) (v := ?_) rfl (by kernel_rfl) (by kernel_rfl) (by kernel_rfl) (fun _ _ _ h => h) (Or.inl ⟨by rfl, ?_⟩) (by assumption) ?_
          rotate_left
          · (intro w hSw; (try dsimp only at hSw); go_simp <;> with_reducible rfl)
          try simp only [Act.put]
          refine wpAnyH_take (i := 3) (oi := _) (v := ?_) rfl (by kernel_rfl) (by kernel_rfl) (by kernel_rfl) (fun _ _ _ h => h) (Or.inl ⟨by rfl, ?_⟩) (by assumption) ?_
          rotate_left
          · (intro w hSw; (try dsimp only at hSw); go_simp <;> with_reducible rfl)
          try simp only [Act.put]
          refine wpAnyH_take (i := 4) (oi := _) (v := ?_) rfl (by kernel_rfl) (by kernel_rfl) (by kernel_rfl) (fun _ _ _ h => h) (Or.inl ⟨by rfl, ?_⟩) (by assumption) ?_
          rotate_left
          · (intro w hSw; (try dsimp only at hSw); go_simp <;> with_reducible rfl)
          try simp only [Act.put]
          refine wpAnyH_take (i := 5) (oi := _) (v := ?_) rfl (by kernel_rfl) (by kernel_rfl) (by kernel_rfl) (fun _ _ _ h => h) (Or.inl ⟨by rfl, ?_⟩) (by assumption) ?_
          rotate_left
          · (intro w hSw; (try dsimp only at hSw); go_simp <;> with_reducible rfl)
          try simp only [Act.put]
          refine wpAnyH_take (i := 6) (oi := _) (v := ?_) rfl (by kernel_rfl) (by kernel_rfl) (by kernel_rfl) (fun _ _ _ h => h) (Or.inl ⟨by rfl, ?_⟩) (by assumption) ?_
          rotate_left
          · (intro w hSw; (try dsimp only at hSw); go_simp <;> with_reducible rfl)
          try simp only [Act.put]
          refine wpAnyH_take (i := 7) (oi := _) (v := ?_) rfl (by kernel_rfl) (by kernel_rfl) (by kernel_rfl) (fun _ _ _ h => h) (Or.inl ⟨by rfl, ?_⟩) (by assumption) ?_
          rotate_left
          · (intro w hSw; (try dsimp only at hSw); go_simp <;> with_reducible rfl)
          try simp only [Act.put]
          refine wpAnyH_take (i := 8) (oi := _) (v := ?_) rfl (by kernel_rfl) (by kernel_rfl) (by kernel_rfl) (fun _ _ _ h => h) (Or.inl ⟨by rfl, ?_⟩) (by assumption) ?_
          rotate_left
          · (intro w hSw; (try dsimp only at hSw); go_simp <;> with_reducible rfl)
          try simp only [Act.put]
          refine wpAnyH_take (i := 9) (oi := _) (v := ?_) rfl (by kernel_rfl) (by kernel_rfl) (by kernel_rfl) (fun _ _ _ h => h) (Or.inl ⟨by rfl, ?_⟩) (by assumption) ?_
          rotate_left
          · (intro w hSw; (try dsimp only at hSw); go_simp <;> with_reducible rfl)
          try simp only [Act.put]
          refine wpAnyH_ready (rs := [10]) (by kernel_rfl) (by simp) ?_
          refine AllReadyH.cons (o := _) rfl (fun K hK => ?_) AllReadyH.nil
          clear hHeld
          go_simp
          have HB3 : Hid (BldX (· = w1.heap.size) w.heap.size w.heap.size (Lib.byteCells (wordTo s k)) wr.drew) := Lib.hid HB.out
          refine (writeString_x _ w.heap.size w.heap.size _ _ _ HB3.out (by rw [cat_lit]; exact wr_bound _ _ (by simp; omega)) hbz).mono ?_
          rintro e w3 ⟨rfl, h3, b3, x3⟩
          have H3 := Lib.hid h3
          have B3 := Lib.hid b3
          have X3 := Lib.hid x3
          clear h3 b3 x3
          try go_wp2_with fail
          refine hK.out _ _ trivial (fun hHeld2 => ?_)
          clear hK K hHeld2
          try simp only [Act.put, List.setIfInBounds_toArray, List.set_cons_zero, List.set_cons_succ]
          refine wpAnyH_done (by kernel_rfl) ?_ _
          have hrel : WordRel w s w1.heap.size (.int .i64 (k + 1)) w3 := wordRel_step hlt HX.out HK.out (((Below.refl w.heap.size wr).drew).trans B3.out) (by rw [hen.out, ← cells_str, HM.out, ← cat_lit]; exact H3.out) (fun g hg => X3.out g hg) HCC.out
          have HREL := Lib.hid hrel
          clear hrel
          go_wp2_with fail
          first | exact ⟨HREL.out, by simp [intOf]; omega⟩ | (go_roundw; all_goals first | exact HREL.out | (simp [intOf]; omega) | ((repeat apply Exists.intro); exact ⟨HREL.out, rfl⟩))
    · obtain rfl : k = s.length := by omega
      have hL := HLEN.out s.length
      have hbz := HK.out.size
      go_wp2_with (go_at_call 40; refine (Tryd.Builder_String_any_k w.heap.size w.heap.size (wordTo s s.length) _ HB.out.is (by omega)).mono ?_; rintro e w4 ⟨rfl, _, b4, _⟩; have B4 := Lib.hid b4; clear b4)
      go_ret
      exact ⟨ret_str (by rw [show (⟨#[34]⟩ : ByteArray) = ⟨[34].toArray⟩ from rfl, cat_eq]; unfold wordTo Li.word; rw [List.take_length]), Kp.of_below (HK.out.below.trans B4.out)⟩

end Go.Proofs.YtldjhjbodhhnbaaDoor
