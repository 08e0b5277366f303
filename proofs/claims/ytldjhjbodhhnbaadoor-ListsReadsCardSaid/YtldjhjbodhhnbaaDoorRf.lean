/- The lists' files, as the reference writes them. Conditions: at most 2^16 elements, strings of at most 2^10 bytes. -/
import Derived.Test.YtldjhjbodhhnbaaDoorRw
import Derived.Test.YtldjhjbodhhnbaaDoorWp
namespace Go.Proofs.YtldjhjbodhhnbaaDoor
open Go.RowKit

def RFileRel (w : World) (kind : List UInt8) (xs : List (List Li.Fld)) (o i : Value) (wr : World) : Prop :=
  ∃ k : Nat, k ≤ xs.length ∧ i = .int .i64 k ∧ o = .string ⟨(linesTo kind xs k).toArray⟩ ∧ Kp w wr none

set_option maxHeartbeats 16000000 in
set_option maxRecDepth 100000 in
theorem rwriteRows_row (b off cap : Nat) (xs : List (List Li.Fld)) (w : World) (hb : b < w.heap.size) (_hcap : xs.length ≤ cap) (hl : xs.length ≤ 65536)
    (hrow : ∀ k, (h : k < xs.length) → ∀ j, (h2 : j < xs[k].length) → w.cell? ⟨b, off + k * 6 + j, none⟩ = some (fldVal xs[k][j])) (hg : ∀ x ∈ xs, Li.Good Li.rowK x ∧ Short x) :
    Calls Tryd.prog 11 #[.slice (some ⟨b, off, none⟩) xs.length cap] w fun e w' => e = .returned (.string ⟨(Li.fileOf Li.place xs).toArray⟩) ∧ Kp w w' none := by
  have HROW := Lib.hid hrow
  have HG := Lib.hid hg
  have hx6 : ∀ x ∈ xs, (∀ f ∈ x, f.ok) ∧ Short x ∧ x.length = 6 := fun x hx => ⟨(hg x hx).1.2, (hg x hx).2, by have := congrArg List.length (hg x hx).1.1; rw [List.length_map] at this; exact this⟩
  have HLEN := Lib.hid (linesTo_length Li.place xs hx6 (by decide))
  clear hrow hg hx6
  go_enter Tryd.func11, Tryd.ntmps11
  go_wp2_with fail
  go_loopw [3, 4] (fun o i wr => RFileRel w Li.place xs o i wr) (fun _ i _ => xs.length - (intOf i).toNat)
  case atStart => exact ⟨0, Nat.zero_le _, rfl, rfl, Kp.refl _ _⟩
  case round =>
    obtain ⟨k, hk, rfl, rfl, hK⟩ := hrel
    have HK := Lib.hid hK
    clear hK
    have hL := HLEN.out k hk
    by_cases hlt : k < xs.length
    · obtain ⟨x, hx⟩ : ∃ x, xs[k] = x := ⟨_, rfl⟩
      have HXR : Hid (∀ j, (h2 : j < x.length) → w.cell? ⟨b, off + k * 6 + j, none⟩ = some (fldVal x[j])) := Lib.hid (by subst hx; exact HROW.out k hlt)
      have HGX : Hid (Li.Good Li.rowK x ∧ Short x) := Lib.hid (by subst hx; exact HG.out _ (List.getElem_mem hlt))
      have HX := Lib.hid hx
      clear hx
      obtain ⟨ra, rb, rx, ry, rt, ru, rfl, hirx, hiry, hirt⟩ := Li.good_row HGX.out.1
      have HIrx := Lib.hid hirx
      have HIry := Lib.hid hiry
      have HIrt := Lib.hid hirt
      have hsra : ra.length ≤ 262144 := HGX.out.2 ra (by simp)
      have hsrb : rb.length ≤ 262144 := HGX.out.2 rb (by simp)
      clear HGX hirx hiry hirt
      have hk0 : (0 : Int) ≤ (k : Int) := Int.natCast_nonneg _
      have hk1 : (k : Int) < (xs.length : Int) := by omega
      have ce : ∀ a b : List UInt8, ((⟨a.toArray⟩ : ByteArray) ++ ⟨b.toArray⟩) = ⟨(a ++ b).toArray⟩ := cat_eq
      have hb0 : (linesTo Li.place xs k).length ≤ 309239939072 := by omega
      generalize hl0 : linesTo Li.place xs k = l0 at hb0 ⊢
      have HL0 := Lib.hid hl0
      clear hl0 hL
      have hcu : wr.cell? ⟨b, off + k * 6 + 5, none⟩ = some (.bool ru) := (HK.out.below.cell (p := ⟨b, off + k * 6 + 5, none⟩) hb).trans (HXR.out 5 (by simp))
      cases ru
      · go_wp2_with fail
        clear hcu
        have KB := HK
        obtain ⟨q1, hq1⟩ : ∃ q, l0 ++ [112, 108, 97, 99, 101, 32] = q := ⟨_, rfl⟩
        have hb1 : q1.length ≤ 309239939078 := by rw [← hq1, List.length_append]; simp; omega
        have HG1 : Hid ((9223372036854775807 < l0.length + 6) = False) := Lib.hid (eq_false (by omega))
        have HQ1 := Lib.hid hq1
        clear hq1 hb0
        obtain ⟨q2, hq2⟩ : ∃ q, q1 ++ Li.word ra = q := ⟨_, rfl⟩
        have hl2 : (Li.word ra).length ≤ 786434 := by have := word_length ra; omega
        have hb2 : q2.length ≤ 309240725512 := by rw [← hq2, List.length_append]; omega
        have HG2 : Hid ((9223372036854775807 < q1.length + (Li.word ra).length) = False) := Lib.hid (eq_false (by omega))
        have HQ2 := Lib.hid hq2
        clear hq2 hb1 hl2
        obtain ⟨q3, hq3⟩ : ∃ q, q2 ++ [32] = q := ⟨_, rfl⟩
        have hb3 : q3.length ≤ 309240725513 := by rw [← hq3, List.length_append]; simp; omega
        have HG3 : Hid ((9223372036854775807 < q2.length + 1) = False) := Lib.hid (eq_false (by omega))
        have HQ3 := Lib.hid hq3
        clear hq3 hb2
        obtain ⟨q4, hq4⟩ : ∃ q, q3 ++ Li.word rb = q := ⟨_, rfl⟩
        have hl4 : (Li.word rb).length ≤ 786434 := by have := word_length rb; omega
        have hb4 : q4.length ≤ 309241511947 := by rw [← hq4, List.length_append]; omega
        have HG4 : Hid ((9223372036854775807 < q3.length + (Li.word rb).length) = False) := Lib.hid (eq_false (by omega))
        have HQ4 := Lib.hid hq4
        clear hq4 hb3 hl4
        obtain ⟨q5, hq5⟩ : ∃ q, q4 ++ [32] = q := ⟨_, rfl⟩
        have hb5 : q5.length ≤ 309241511948 := by rw [← hq5, List.length_append]; simp; omega
        have HG5 : Hid ((9223372036854775807 < q4.length + 1) = False) := Lib.hid (eq_false (by omega))
        have HQ5 := Lib.hid hq5
        clear hq5 hb4
        obtain ⟨q6, hq6⟩ : ∃ q, q5 ++ Lib.itoa rx = q := ⟨_, rfl⟩
        have hl6 : (Lib.itoa rx).length ≤ 786434 := by have := Wr.itoa_length rx HIrx.out; omega
        have hb6 : q6.length ≤ 309242298382 := by rw [← hq6, List.length_append]; omega
        have HG6 : Hid ((9223372036854775807 < q5.length + (Lib.itoa rx).length) = False) := Lib.hid (eq_false (by omega))
        have HQ6 := Lib.hid hq6
        clear hq6 hb5 hl6
        obtain ⟨q7, hq7⟩ : ∃ q, q6 ++ [32] = q := ⟨_, rfl⟩
        have hb7 : q7.length ≤ 309242298383 := by rw [← hq7, List.length_append]; simp; omega
        have HG7 : Hid ((9223372036854775807 < q6.length + 1) = False) := Lib.hid (eq_false (by omega))
        have HQ7 := Lib.hid hq7
        clear hq7 hb6
        obtain ⟨q8, hq8⟩ : ∃ q, q7 ++ Lib.itoa ry = q := ⟨_, rfl⟩
        have hl8 : (Lib.itoa ry).length ≤ 786434 := by have := Wr.itoa_length ry HIry.out; omega
        have hb8 : q8.length ≤ 309243084817 := by rw [← hq8, List.length_append]; omega
        have HG8 : Hid ((9223372036854775807 < q7.length + (Lib.itoa ry).length) = False) := Lib.hid (eq_false (by omega))
        have HQ8 := Lib.hid hq8
        clear hq8 hb7 hl8
        obtain ⟨q9, hq9⟩ : ∃ q, q8 ++ [32] = q := ⟨_, rfl⟩
        have hb9 : q9.length ≤ 309243084818 := by rw [← hq9, List.length_append]; simp; omega
        have HG9 : Hid ((9223372036854775807 < q8.length + 1) = False) := Lib.hid (eq_false (by omega))
        have HQ9 := Lib.hid hq9
        clear hq9 hb8
        obtain ⟨q10, hq10⟩ : ∃ q, q9 ++ Lib.itoa rt = q := ⟨_, rfl⟩
        have hl10 : (Lib.itoa rt).length ≤ 786434 := by have := Wr.itoa_length rt HIrt.out; omega
        have hb10 : q10.length ≤ 309243871252 := by rw [← hq10, List.length_append]; omega
        have HG10 : Hid ((9223372036854775807 < q9.length + (Lib.itoa rt).length) = False) := Lib.hid (eq_false (by omega))
        have HQ10 := Lib.hid hq10
        clear hq10 hb9 hl10
        obtain ⟨q11, hq11⟩ : ∃ q, q10 ++ [32] = q := ⟨_, rfl⟩
        have hb11 : q11.length ≤ 309243871253 := by rw [← hq11, List.length_append]; simp; omega
        have HG11 : Hid ((9223372036854775807 < q10.length + 1) = False) := Lib.hid (eq_false (by omega))
        have HQ11 := Lib.hid hq11
        clear hq11 hb10
        obtain ⟨q12, hq12⟩ : ∃ q, q11 ++ [116, 111, 112] = q := ⟨_, rfl⟩
        have hb12 : q12.length ≤ 309243871256 := by rw [← hq12, List.length_append]; simp; omega
        have HG12 : Hid ((9223372036854775807 < q11.length + 3) = False) := Lib.hid (eq_false (by omega))
        have HQ12 := Lib.hid hq12
        clear hq12 hb11
        obtain ⟨q13, hq13⟩ : ∃ q, q12 ++ [10] = q := ⟨_, rfl⟩
        have hb13 : q13.length ≤ 309243871257 := by rw [← hq13, List.length_append]; simp; omega
        have HG13 : Hid ((9223372036854775807 < q12.length + 1) = False) := Lib.hid (eq_false (by omega))
        have HQ13 := Lib.hid hq13
        clear hq13 hb12
        refine wp_region_held_drew (S := fun w' => w'.cell? ⟨b, off + k * 6, none⟩ = some (.string ⟨ra.toArray⟩) ∧ w'.cell? ⟨b, off + k * 6 + 1, none⟩ = some (.string ⟨rb.toArray⟩) ∧ w'.cell? ⟨b, off + k * 6 + 2, none⟩ = some (.int .i64 rx) ∧ w'.cell? ⟨b, off + k * 6 + 3, none⟩ = some (.int .i64 ry) ∧ w'.cell? ⟨b, off + k * 6 + 4, none⟩ = some (.int .i64 rt) ∧ Hid (Kp w w' none)) (by kernel_rfl) ?_ (fun hHeld => ?_)
        · exact ⟨((KB.out.drew).below.cell (p := ⟨b, off + k * 6, none⟩) hb).trans (HXR.out 0 (by simp)), ((KB.out.drew).below.cell (p := ⟨b, off + k * 6 + 1, none⟩) hb).trans (HXR.out 1 (by simp)), ((KB.out.drew).below.cell (p := ⟨b, off + k * 6 + 2, none⟩) hb).trans (HXR.out 2 (by simp)), ((KB.out.drew).below.cell (p := ⟨b, off + k * 6 + 3, none⟩) hb).trans (HXR.out 3 (by simp)), ((KB.out.drew).below.cell (p := ⟨b, off + k * 6 + 4, none⟩) hb).trans (HXR.out 4 (by simp)), Lib.hid (KB.out.drew)⟩
        refine wpAnyH_take (i := 0) (oi := _) (v := ?_) rfl (by kernel_rfl) (by kernel_rfl) (by kernel_rfl) (fun _ _ _ h => h) (Or.inl ⟨by rfl, ?_⟩) (by assumption) ?_
        rotate_left
        · (intro w hSw; (try dsimp only at hSw); go_simp <;> with_reducible rfl)
        try simp only [Act.put, List.setIfInBounds_toArray]
        refine wpAnyH_take (i := 2) (oi := _) (v := ?_) rfl (by kernel_rfl) (by kernel_rfl) (by kernel_rfl) (fun _ _ _ h => h) (Or.inl ⟨by rfl, ?_⟩) (by assumption) ?_
        rotate_left
        · (intro w hSw; (try dsimp only at hSw); go_simp <;> with_reducible rfl)
        try simp only [Act.put]
        refine wpAnyH_take (i := 3) (oi := _) (v := ?_) rfl (by kernel_rfl) (by kernel_rfl) (by kernel_rfl) (fun _ _ _ h => h) (Or.inl ⟨by rfl, ?_⟩) (by assumption) ?_
        rotate_left
        · (intro w hSw; (try dsimp only at hSw); go_simp <;> with_reducible rfl)
        try simp only [Act.put]
        refine wpAnyH_take (i := 4) (oi := _) (v := ?_) rfl (by kernel_rfl) (by kernel_rfl) (by kernel_rfl) (fun _ _ _ h => h) (Or.inl ⟨by rfl, ?_⟩) (by assumption) ?_
        rotate_left
        · (intro w hSw; (try dsimp only at hSw); go_simp <;> with_reducible rfl)
        try simp only [Act.put]
        refine wpAnyH_take (i := 5) (oi := _) (v := ?_) rfl (by kernel_rfl) (by kernel_rfl) (by kernel_rfl) (fun _ _ _ h => h) (Or.inl ⟨by rfl, ?_⟩) (by assumption) ?_
        rotate_left
        · (intro w hSw; (try dsimp only at hSw); go_simp <;> with_reducible rfl)
        try simp only [Act.put]
        refine wpAnyH_take (i := 6) (oi := _) (v := ?_) rfl (by kernel_rfl) (by kernel_rfl) (by kernel_rfl) (fun _ _ _ h => h) (Or.inl ⟨by rfl, ?_⟩) (by assumption) ?_
        rotate_left
        · (intro w hSw; (try dsimp only at hSw); go_simp <;> with_reducible rfl)
        try simp only [Act.put]
        refine wpAnyH_take (i := 10) (oi := _) (v := ?_) rfl (by kernel_rfl) (by kernel_rfl) (by kernel_rfl) (fun _ _ _ h => h) (Or.inl ⟨by rfl, ?_⟩) (by assumption) ?_
        rotate_left
        · (intro w hSw; (try dsimp only at hSw); go_simp <;> with_reducible rfl)
        try simp only [Act.put]
        refine wpAnyH_take (i := 11) (oi := _) (v := ?_) rfl (by kernel_rfl) (by kernel_rfl) (by kernel_rfl) (fun _ _ _ h => h) (Or.inl ⟨by rfl, ?_⟩) (by assumption) ?_
        rotate_left
        · (intro w hSw; (try dsimp only at hSw); go_simp <;> with_reducible rfl)
        try simp only [Act.put]
        refine wpAnyH_take (i := 12) (oi := _) (v := ?_) rfl (by kernel_rfl) (by kernel_rfl) (by kernel_rfl) (fun _ _ _ h => h) (Or.inl ⟨by rfl, ?_⟩) (by assumption) ?_
        rotate_left
        · (intro w hSw; (try dsimp only at hSw); go_simp <;> with_reducible rfl)
        try simp only [Act.put]
        refine wpAnyH_take (i := 13) (oi := _) (v := ?_) rfl (by kernel_rfl) (by kernel_rfl) (by kernel_rfl) (fun _ _ _ h => h) (Or.inl ⟨by rfl, ?_⟩) (by assumption) ?_
        rotate_left
        · (intro w hSw; (try dsimp only at hSw); go_simp <;> with_reducible rfl)
        try simp only [Act.put]
        refine wpAnyH_take (i := 14) (oi := _) (v := ?_) rfl (by kernel_rfl) (by kernel_rfl) (by kernel_rfl) (fun _ _ _ h => h) (Or.inl ⟨by rfl, ?_⟩) (by assumption) ?_
        rotate_left
        · (intro w hSw; (try dsimp only at hSw); go_simp <;> with_reducible rfl)
        try simp only [Act.put]
        refine wpAnyH_take (i := 18) (oi := _) (v := ?_) rfl (by kernel_rfl) (by kernel_rfl) (by kernel_rfl) (fun _ _ _ h => h) (Or.inl ⟨by rfl, ?_⟩) (by assumption) ?_
        rotate_left
        · (intro w hSw; (try dsimp only at hSw); go_simp <;> with_reducible rfl)
        try simp only [Act.put]
        refine wpAnyH_take (i := 19) (oi := _) (v := ?_) rfl (by kernel_rfl) (by kernel_rfl) (by kernel_rfl) (fun _ _ _ h => h) (Or.inl ⟨by rfl, ?_⟩) (by assumption) ?_
        rotate_left
        · (intro w hSw; (try dsimp only at hSw); go_simp <;> with_reducible rfl)
        try simp only [Act.put]
        refine wpAnyH_take (i := 20) (oi := _) (v := ?_) rfl (by kernel_rfl) (by kernel_rfl) (by kernel_rfl) (fun _ _ _ h => h) (Or.inl ⟨by rfl, ?_⟩) (by assumption) ?_
        rotate_left
        · (intro w hSw; (try dsimp only at hSw); go_simp <;> with_reducible rfl)
        try simp only [Act.put]
        refine wpAnyH_take (i := 21) (oi := _) (v := ?_) rfl (by kernel_rfl) (by kernel_rfl) (by kernel_rfl) (fun _ _ _ h => h) (Or.inl ⟨by rfl, ?_⟩) (by assumption) ?_
        rotate_left
        · (intro w hSw; (try dsimp only at hSw); go_simp <;> with_reducible rfl)
        try simp only [Act.put]
        refine wpAnyH_take (i := 22) (oi := _) (v := ?_) rfl (by kernel_rfl) (by kernel_rfl) (by kernel_rfl) (fun _ _ _ h => h) (Or.inl ⟨by rfl, ?_⟩) (by assumption) ?_
        rotate_left
        · (intro w hSw; (try dsimp only at hSw); go_simp <;> with_reducible rfl)
        try simp only [Act.put]
        refine wpAnyH_take (i := 23) (oi := _) (v := ?_) rfl (by kernel_rfl) (by kernel_rfl) (by kernel_rfl) (fun _ _ _ h => h) (Or.inl ⟨by rfl, ?_⟩) (by assumption) ?_
        rotate_left
        · (intro w hSw; (try dsimp only at hSw); go_simp <;> with_reducible rfl)
        try simp only [Act.put]
        refine wpAnyH_take (i := 27) (oi := _) (v := ?_) rfl (by kernel_rfl) (by kernel_rfl) (by kernel_rfl) (fun _ _ _ h => h) (Or.inl ⟨by rfl, ?_⟩) (by assumption) ?_
        rotate_left
        · (intro w hSw; (try dsimp only at hSw); go_simp <;> with_reducible rfl)
        try simp only [Act.put]
        refine wpAnyH_take (i := 28) (oi := _) (v := ?_) rfl (by kernel_rfl) (by kernel_rfl) (by kernel_rfl) (fun _ _ _ h => h) (Or.inl ⟨by rfl, ?_⟩) (by assumption) ?_
        rotate_left
        · (intro w hSw; (try dsimp only at hSw); go_simp <;> with_reducible rfl)
        try simp only [Act.put]
        refine wpAnyH_take (i := 29) (oi := _) (v := ?_) rfl (by kernel_rfl) (by kernel_rfl) (by kernel_rfl) (fun _ _ _ h => h) (Or.inl ⟨by rfl, ?_⟩) (by assumption) ?_
        rotate_left
        · (intro w hSw; (try dsimp only at hSw); go_simp <;> with_reducible rfl)
        try simp only [Act.put]
        refine wpAnyH_take (i := 30) (oi := _) (v := ?_) rfl (by kernel_rfl) (by kernel_rfl) (by kernel_rfl) (fun _ _ _ h => h) (Or.inl ⟨by rfl, ?_⟩) (by assumption) ?_
        rotate_left
        · (intro w hSw; (try dsimp only at hSw); go_simp <;> with_reducible rfl)
        try simp only [Act.put]
        refine wpAnyH_take (i := 31) (oi := _) (v := ?_) rfl (by kernel_rfl) (by kernel_rfl) (by kernel_rfl) (fun _ _ _ h => h) (Or.inl ⟨by rfl, ?_⟩) (by assumption) ?_
        rotate_left
        · (intro w hSw; (try dsimp only at hSw); go_simp <;> with_reducible rfl)
        try simp only [Act.put]
        refine wpAnyH_take (i := 32) (oi := _) (v := ?_) rfl (by kernel_rfl) (by kernel_rfl) (by kernel_rfl) (fun _ _ _ h => h) (Or.inl ⟨by rfl, ?_⟩) (by assumption) ?_
        rotate_left
        · (intro w hSw; (try dsimp only at hSw); go_simp <;> with_reducible rfl)
        try simp only [Act.put]
        refine wpAnyH_take (i := 36) (oi := _) (v := ?_) rfl (by kernel_rfl) (by kernel_rfl) (by kernel_rfl) (fun _ _ _ h => h) (Or.inl ⟨by rfl, ?_⟩) (by assumption) ?_
        rotate_left
        · (intro w hSw; (try dsimp only at hSw); go_simp <;> with_reducible rfl)
        try simp only [Act.put]
        refine wpAnyH_take (i := 37) (oi := _) (v := ?_) rfl (by kernel_rfl) (by kernel_rfl) (by kernel_rfl) (fun _ _ _ h => h) (Or.inl ⟨by rfl, ?_⟩) (by assumption) ?_
        rotate_left
        · (intro w hSw; (try dsimp only at hSw); go_simp <;> with_reducible rfl)
        try simp only [Act.put]
        refine wpAnyH_take (i := 38) (oi := _) (v := ?_) rfl (by kernel_rfl) (by kernel_rfl) (by kernel_rfl) (fun _ _ _ h => h) (Or.inl ⟨by rfl, ?_⟩) (by assumption) ?_
        rotate_left
        · (intro w hSw; (try dsimp only at hSw); go_simp <;> with_reducible rfl)
        try simp only [Act.put]
        refine wpAnyH_take (i := 39) (oi := _) (v := ?_) rfl (by kernel_rfl) (by kernel_rfl) (by kernel_rfl) (fun _ _ _ h => h) (Or.inl ⟨by rfl, ?_⟩) (by assumption) ?_
        rotate_left
        · (intro w hSw; (try dsimp only at hSw); go_simp <;> with_reducible rfl)
        try simp only [Act.put]
        refine wpAnyH_take (i := 40) (oi := _) (v := ?_) rfl (by kernel_rfl) (by kernel_rfl) (by kernel_rfl) (fun _ _ _ h => h) (Or.inl ⟨by rfl, ?_⟩) (by assumption) ?_
        rotate_left
        · (intro w hSw; (try dsimp only at hSw); go_simp <;> with_reducible rfl)
        try simp only [Act.put]
        refine wpAnyH_take (i := 44) (oi := _) (v := ?_) rfl (by kernel_rfl) (by kernel_rfl) (by kernel_rfl) (fun _ _ _ h => h) (Or.inl ⟨by rfl, ?_⟩) (by assumption) ?_
        rotate_left
        · (intro w hSw; (try dsimp only at hSw); go_simp <;> with_reducible rfl)
        try simp only [Act.put]
        have hq1 := HQ1.out
        have g1 := HG1.out
        refine wpAnyH_take (i := 1) (oi := _) (v := ?_) rfl (by kernel_rfl) (by kernel_rfl) (by kernel_rfl) (fun _ _ _ h => h) (Or.inl ⟨by rfl, ?_⟩) (by assumption) ?_
        rotate_left
        · (intro w hSw; (try dsimp only at hSw); go_simp <;> with_reducible rfl)
        try simp only [Act.put]
        clear g1 hq1
        refine wpAnyH_ready (rs := [7]) (by kernel_rfl) (by simp) ?_
        refine AllReadyH.cons (o := _) rfl (fun K hK => ?_) AllReadyH.nil
        have gK := hHeld.2.2.2.2.2
        go_simp
        refine (rword_any ra _ (by omega)).mono ?_
        rintro e w21 ⟨rfl, kk⟩
        try go_wp2_with fail
        refine hK.out _ _ ?_ (fun hHeld2 => ?_)
        · exact ⟨((gK.out.trans kk).below.cell (p := ⟨b, off + k * 6, none⟩) hb).trans (HXR.out 0 (by simp)), ((gK.out.trans kk).below.cell (p := ⟨b, off + k * 6 + 1, none⟩) hb).trans (HXR.out 1 (by simp)), ((gK.out.trans kk).below.cell (p := ⟨b, off + k * 6 + 2, none⟩) hb).trans (HXR.out 2 (by simp)), ((gK.out.trans kk).below.cell (p := ⟨b, off + k * 6 + 3, none⟩) hb).trans (HXR.out 3 (by simp)), ((gK.out.trans kk).below.cell (p := ⟨b, off + k * 6 + 4, none⟩) hb).trans (HXR.out 4 (by simp)), Lib.hid (gK.out.trans kk)⟩
        clear hK K hHeld gK kk
        have hHeld := hHeld2
        clear hHeld2
        try simp only [Act.put, List.setIfInBounds_toArray, List.set_cons_zero, List.set_cons_succ]
        have hq2 := HQ2.out
        have g2 := HG2.out
        refine wpAnyH_take (i := 8) (oi := _) (v := ?_) rfl (by kernel_rfl) (by kernel_rfl) (by kernel_rfl) (fun _ _ _ h => h) (Or.inl ⟨by rfl, ?_⟩) (by assumption) ?_
        rotate_left
        · (intro w hSw; (try dsimp only at hSw); go_simp <;> with_reducible rfl)
        try simp only [Act.put, List.setIfInBounds_toArray]
        clear g2 hq2
        have hq3 := HQ3.out
        have g3 := HG3.out
        refine wpAnyH_take (i := 9) (oi := _) (v := ?_) rfl (by kernel_rfl) (by kernel_rfl) (by kernel_rfl) (fun _ _ _ h => h) (Or.inl ⟨by rfl, ?_⟩) (by assumption) ?_
        rotate_left
        · (intro w hSw; (try dsimp only at hSw); go_simp <;> with_reducible rfl)
        try simp only [Act.put]
        clear g3 hq3
        refine wpAnyH_ready (rs := [15]) (by kernel_rfl) (by simp) ?_
        refine AllReadyH.cons (o := _) rfl (fun K hK => ?_) AllReadyH.nil
        have gK := hHeld.2.2.2.2.2
        go_simp
        refine (rword_any rb _ (by omega)).mono ?_
        rintro e w22 ⟨rfl, kk⟩
        try go_wp2_with fail
        refine hK.out _ _ ?_ (fun hHeld2 => ?_)
        · exact ⟨((gK.out.trans kk).below.cell (p := ⟨b, off + k * 6, none⟩) hb).trans (HXR.out 0 (by simp)), ((gK.out.trans kk).below.cell (p := ⟨b, off + k * 6 + 1, none⟩) hb).trans (HXR.out 1 (by simp)), ((gK.out.trans kk).below.cell (p := ⟨b, off + k * 6 + 2, none⟩) hb).trans (HXR.out 2 (by simp)), ((gK.out.trans kk).below.cell (p := ⟨b, off + k * 6 + 3, none⟩) hb).trans (HXR.out 3 (by simp)), ((gK.out.trans kk).below.cell (p := ⟨b, off + k * 6 + 4, none⟩) hb).trans (HXR.out 4 (by simp)), Lib.hid (gK.out.trans kk)⟩
        clear hK K hHeld gK kk
        have hHeld := hHeld2
        clear hHeld2
        try simp only [Act.put, List.setIfInBounds_toArray, List.set_cons_zero, List.set_cons_succ]
        have hq4 := HQ4.out
        have g4 := HG4.out
        refine wpAnyH_take (i := 16) (oi := _) (v := ?_) rfl (by kernel_rfl) (by kernel_rfl) (by kernel_rfl) (fun _ _ _ h => h) (Or.inl ⟨by rfl, ?_⟩) (by assumption) ?_
        rotate_left
        · (intro w hSw; (try dsimp only at hSw); go_simp <;> with_reducible rfl)
        try simp only [Act.put, List.setIfInBounds_toArray]
        clear g4 hq4
        have hq5 := HQ5.out
        have g5 := HG5.out
        refine wpAnyH_take (i := 17) (oi := _) (v := ?_) rfl (by kernel_rfl) (by kernel_rfl) (by kernel_rfl) (fun _ _ _ h => h) (Or.inl ⟨by rfl, ?_⟩) (by assumption) ?_
        rotate_left
        · (intro w hSw; (try dsimp only at hSw); go_simp <;> with_reducible rfl)
        try simp only [Act.put]
        clear g5 hq5
        refine wpAnyH_ready (rs := [24]) (by kernel_rfl) (by simp) ?_
        refine AllReadyH.cons (o := _) rfl (fun K hK => ?_) AllReadyH.nil
        have gK := hHeld.2.2.2.2.2
        go_simp
        refine (dec_any rx HIrx.out _).mono ?_
        rintro e w23 ⟨rfl, kk⟩
        try go_wp2_with fail
        refine hK.out _ _ ?_ (fun hHeld2 => ?_)
        · exact ⟨((gK.out.trans kk).below.cell (p := ⟨b, off + k * 6, none⟩) hb).trans (HXR.out 0 (by simp)), ((gK.out.trans kk).below.cell (p := ⟨b, off + k * 6 + 1, none⟩) hb).trans (HXR.out 1 (by simp)), ((gK.out.trans kk).below.cell (p := ⟨b, off + k * 6 + 2, none⟩) hb).trans (HXR.out 2 (by simp)), ((gK.out.trans kk).below.cell (p := ⟨b, off + k * 6 + 3, none⟩) hb).trans (HXR.out 3 (by simp)), ((gK.out.trans kk).below.cell (p := ⟨b, off + k * 6 + 4, none⟩) hb).trans (HXR.out 4 (by simp)), Lib.hid (gK.out.trans kk)⟩
        clear hK K hHeld gK kk
        have hHeld := hHeld2
        clear hHeld2
        try simp only [Act.put, List.setIfInBounds_toArray, List.set_cons_zero, List.set_cons_succ]
        have hq6 := HQ6.out
        have g6 := HG6.out
        refine wpAnyH_take (i := 25) (oi := _) (v := ?_) rfl (by kernel_rfl) (by kernel_rfl) (by kernel_rfl) (fun _ _ _ h => h) (Or.inl ⟨by rfl, ?_⟩) (by assumption) ?_
        rotate_left
        · (intro w hSw; (try dsimp only at hSw); go_simp <;> with_reducible rfl)
        try simp only [Act.put, List.setIfInBounds_toArray]
        clear g6 hq6
        have hq7 := HQ7.out
        have g7 := HG7.out
        refine wpAnyH_take (i := 26) (oi := _) (v := ?_) rfl (by kernel_rfl) (by kernel_rfl) (by kernel_rfl) (fun _ _ _ h => h) (Or.inl ⟨by rfl, ?_⟩) (by assumption) ?_
        rotate_left
        · (intro w hSw; (try dsimp only at hSw); go_simp <;> with_reducible rfl)
        try simp only [Act.put]
        clear g7 hq7
        refine wpAnyH_ready (rs := [33]) (by kernel_rfl) (by simp) ?_
        refine AllReadyH.cons (o := _) rfl (fun K hK => ?_) AllReadyH.nil
        have gK := hHeld.2.2.2.2.2
        go_simp
        refine (dec_any ry HIry.out _).mono ?_
        rintro e w24 ⟨rfl, kk⟩
        try go_wp2_with fail
        refine hK.out _ _ ?_ (fun hHeld2 => ?_)
        · exact ⟨((gK.out.trans kk).below.cell (p := ⟨b, off + k * 6, none⟩) hb).trans (HXR.out 0 (by simp)), ((gK.out.trans kk).below.cell (p := ⟨b, off + k * 6 + 1, none⟩) hb).trans (HXR.out 1 (by simp)), ((gK.out.trans kk).below.cell (p := ⟨b, off + k * 6 + 2, none⟩) hb).trans (HXR.out 2 (by simp)), ((gK.out.trans kk).below.cell (p := ⟨b, off + k * 6 + 3, none⟩) hb).trans (HXR.out 3 (by simp)), ((gK.out.trans kk).below.cell (p := ⟨b, off + k * 6 + 4, none⟩) hb).trans (HXR.out 4 (by simp)), Lib.hid (gK.out.trans kk)⟩
        clear hK K hHeld gK kk
        have hHeld := hHeld2
        clear hHeld2
        try simp only [Act.put, List.setIfInBounds_toArray, List.set_cons_zero, List.set_cons_succ]
        have hq8 := HQ8.out
        have g8 := HG8.out
        refine wpAnyH_take (i := 34) (oi := _) (v := ?_) rfl (by kernel_rfl) (by kernel_rfl) (by kernel_rfl) (fun _ _ _ h => h) (Or.inl ⟨by rfl, ?_⟩) (by assumption) ?_
        rotate_left
        · (intro w hSw; (try dsimp only at hSw); go_simp <;> with_reducible rfl)
        try simp only [Act.put, List.setIfInBounds_toArray]
        clear g8 hq8
        have hq9 := HQ9.out
        have g9 := HG9.out
        refine wpAnyH_take (i := 35) (oi := _) (v := ?_) rfl (by kernel_rfl) (by kernel_rfl) (by kernel_rfl) (fun _ _ _ h => h) (Or.inl ⟨by rfl, ?_⟩) (by assumption) ?_
        rotate_left
        · (intro w hSw; (try dsimp only at hSw); go_simp <;> with_reducible rfl)
        try simp only [Act.put]
        clear g9 hq9
        refine wpAnyH_ready (rs := [41]) (by kernel_rfl) (by simp) ?_
        refine AllReadyH.cons (o := _) rfl (fun K hK => ?_) AllReadyH.nil
        have gK := hHeld.2.2.2.2.2
        go_simp
        refine (dec_any rt HIrt.out _).mono ?_
        rintro e w25 ⟨rfl, kk⟩
        try go_wp2_with fail
        refine hK.out _ _ ?_ (fun hHeld2 => ?_)
        · exact ⟨((gK.out.trans kk).below.cell (p := ⟨b, off + k * 6, none⟩) hb).trans (HXR.out 0 (by simp)), ((gK.out.trans kk).below.cell (p := ⟨b, off + k * 6 + 1, none⟩) hb).trans (HXR.out 1 (by simp)), ((gK.out.trans kk).below.cell (p := ⟨b, off + k * 6 + 2, none⟩) hb).trans (HXR.out 2 (by simp)), ((gK.out.trans kk).below.cell (p := ⟨b, off + k * 6 + 3, none⟩) hb).trans (HXR.out 3 (by simp)), ((gK.out.trans kk).below.cell (p := ⟨b, off + k * 6 + 4, none⟩) hb).trans (HXR.out 4 (by simp)), Lib.hid (gK.out.trans kk)⟩
        clear hK K hHeld gK kk
        have hHeld := hHeld2
        clear hHeld2
        try simp only [Act.put, List.setIfInBounds_toArray, List.set_cons_zero, List.set_cons_succ]
        have hq10 := HQ10.out
        have g10 := HG10.out
        refine wpAnyH_take (i := 42) (oi := _) (v := ?_) rfl (by kernel_rfl) (by kernel_rfl) (by kernel_rfl) (fun _ _ _ h => h) (Or.inl ⟨by rfl, ?_⟩) (by assumption) ?_
        rotate_left
        · (intro w hSw; (try dsimp only at hSw); go_simp <;> with_reducible rfl)
        try simp only [Act.put, List.setIfInBounds_toArray]
        clear g10 hq10
        have hq11 := HQ11.out
        have g11 := HG11.out
        refine wpAnyH_take (i := 43) (oi := _) (v := ?_) rfl (by kernel_rfl) (by kernel_rfl) (by kernel_rfl) (fun _ _ _ h => h) (Or.inl ⟨by rfl, ?_⟩) (by assumption) ?_
        rotate_left
        · (intro w hSw; (try dsimp only at hSw); go_simp <;> with_reducible rfl)
        try simp only [Act.put]
        clear g11 hq11
        have hq12 := HQ12.out
        have g12 := HG12.out
        refine wpAnyH_take (i := 45) (oi := _) (v := ?_) rfl (by kernel_rfl) (by kernel_rfl) (by kernel_rfl) (fun _ _ _ h => h) (Or.inl ⟨by rfl, ?_⟩) (by assumption) ?_
        rotate_left
        · (intro w hSw; (try dsimp only at hSw); go_simp <;> with_reducible rfl)
        try simp only [Act.put]
        clear g12 hq12
        have hq13 := HQ13.out
        have g13 := HG13.out
        refine wpAnyH_take (i := 46) (oi := _) (v := ?_) rfl (by kernel_rfl) (by kernel_rfl) (by kernel_rfl) (fun _ _ _ h => h) (Or.inl ⟨by rfl, ?_⟩) (by assumption) ?_
        rotate_left
        · (intro w hSw; (try dsimp only at hSw); go_simp <;> with_reducible rfl)
        try simp only [Act.put]
        clear g13 hq13
        refine wpAnyH_ready (rs := [47]) (by kernel_rfl) (by simp) ?_
        refine AllReadyH.cons (o := _) rfl (fun K hK => ?_) AllReadyH.nil
        have gK := hHeld.2.2.2.2.2
        go_simp
        refine hK.out _ _ ?_ (fun hHeld2 => ?_)
        · exact ⟨((gK.out).below.cell (p := ⟨b, off + k * 6, none⟩) hb).trans (HXR.out 0 (by simp)), ((gK.out).below.cell (p := ⟨b, off + k * 6 + 1, none⟩) hb).trans (HXR.out 1 (by simp)), ((gK.out).below.cell (p := ⟨b, off + k * 6 + 2, none⟩) hb).trans (HXR.out 2 (by simp)), ((gK.out).below.cell (p := ⟨b, off + k * 6 + 3, none⟩) hb).trans (HXR.out 3 (by simp)), ((gK.out).below.cell (p := ⟨b, off + k * 6 + 4, none⟩) hb).trans (HXR.out 4 (by simp)), Lib.hid (gK.out)⟩
        have KZ := Lib.hid gK.out
        clear hK K hHeld hHeld2 gK
        try simp only [Act.put, List.setIfInBounds_toArray, List.set_cons_zero, List.set_cons_succ]
        refine wpAnyH_done (by kernel_rfl) ?_ _
        have KW : Hid (Kp w _ none) := KZ
        have e5 : linesTo Li.place xs (k + 1) = q13 := by
          rw [linesTo_step Li.place xs k hlt, HX.out, ← HQ13.out, ← HQ12.out, ← HQ11.out, ← HQ10.out, ← HQ9.out, ← HQ8.out, ← HQ7.out, ← HQ6.out, ← HQ5.out, ← HQ4.out, ← HQ3.out, ← HQ2.out, ← HQ1.out, ← HL0.out]
          simp [flat, Li.encF, Li.side, Li.place]
        have HREL : Hid (RFileRel w Li.place xs (.string ⟨q13.toArray⟩) (.int .i64 (k + 1)) _) := Lib.hid ⟨k + 1, hlt, by go_num, by rw [e5], KW.out⟩
        clear e5
        go_wp2_with fail
        first | exact ⟨HREL.out, by simp [intOf]; omega⟩ | (go_roundw; all_goals first | exact HREL.out | (simp [intOf]; omega) | ((repeat apply Exists.intro); exact ⟨HREL.out, rfl⟩))
      · go_wp2_with fail
        clear hcu
        have KB := HK
        obtain ⟨q1, hq1⟩ : ∃ q, l0 ++ [112, 108, 97, 99, 101, 32] = q := ⟨_, rfl⟩
        have hb1 : q1.length ≤ 309239939078 := by rw [← hq1, List.length_append]; simp; omega
        have HG1 : Hid ((9223372036854775807 < l0.length + 6) = False) := Lib.hid (eq_false (by omega))
        have HQ1 := Lib.hid hq1
        clear hq1 hb0
        obtain ⟨q2, hq2⟩ : ∃ q, q1 ++ Li.word ra = q := ⟨_, rfl⟩
        have hl2 : (Li.word ra).length ≤ 786434 := by have := word_length ra; omega
        have hb2 : q2.length ≤ 309240725512 := by rw [← hq2, List.length_append]; omega
        have HG2 : Hid ((9223372036854775807 < q1.length + (Li.word ra).length) = False) := Lib.hid (eq_false (by omega))
        have HQ2 := Lib.hid hq2
        clear hq2 hb1 hl2
        obtain ⟨q3, hq3⟩ : ∃ q, q2 ++ [32] = q := ⟨_, rfl⟩
        have hb3 : q3.length ≤ 309240725513 := by rw [← hq3, List.length_append]; simp; omega
        have HG3 : Hid ((9223372036854775807 < q2.length + 1) = False) := Lib.hid (eq_false (by omega))
        have HQ3 := Lib.hid hq3
        clear hq3 hb2
        obtain ⟨q4, hq4⟩ : ∃ q, q3 ++ Li.word rb = q := ⟨_, rfl⟩
        have hl4 : (Li.word rb).length ≤ 786434 := by have := word_length rb; omega
        have hb4 : q4.length ≤ 309241511947 := by rw [← hq4, List.length_append]; omega
        have HG4 : Hid ((9223372036854775807 < q3.length + (Li.word rb).length) = False) := Lib.hid (eq_false (by omega))
        have HQ4 := Lib.hid hq4
        clear hq4 hb3 hl4
        obtain ⟨q5, hq5⟩ : ∃ q, q4 ++ [32] = q := ⟨_, rfl⟩
        have hb5 : q5.length ≤ 309241511948 := by rw [← hq5, List.length_append]; simp; omega
        have HG5 : Hid ((9223372036854775807 < q4.length + 1) = False) := Lib.hid (eq_false (by omega))
        have HQ5 := Lib.hid hq5
        clear hq5 hb4
        obtain ⟨q6, hq6⟩ : ∃ q, q5 ++ Lib.itoa rx = q := ⟨_, rfl⟩
        have hl6 : (Lib.itoa rx).length ≤ 786434 := by have := Wr.itoa_length rx HIrx.out; omega
        have hb6 : q6.length ≤ 309242298382 := by rw [← hq6, List.length_append]; omega
        have HG6 : Hid ((9223372036854775807 < q5.length + (Lib.itoa rx).length) = False) := Lib.hid (eq_false (by omega))
        have HQ6 := Lib.hid hq6
        clear hq6 hb5 hl6
        obtain ⟨q7, hq7⟩ : ∃ q, q6 ++ [32] = q := ⟨_, rfl⟩
        have hb7 : q7.length ≤ 309242298383 := by rw [← hq7, List.length_append]; simp; omega
        have HG7 : Hid ((9223372036854775807 < q6.length + 1) = False) := Lib.hid (eq_false (by omega))
        have HQ7 := Lib.hid hq7
        clear hq7 hb6
        obtain ⟨q8, hq8⟩ : ∃ q, q7 ++ Lib.itoa ry = q := ⟨_, rfl⟩
        have hl8 : (Lib.itoa ry).length ≤ 786434 := by have := Wr.itoa_length ry HIry.out; omega
        have hb8 : q8.length ≤ 309243084817 := by rw [← hq8, List.length_append]; omega
        have HG8 : Hid ((9223372036854775807 < q7.length + (Lib.itoa ry).length) = False) := Lib.hid (eq_false (by omega))
        have HQ8 := Lib.hid hq8
        clear hq8 hb7 hl8
        obtain ⟨q9, hq9⟩ : ∃ q, q8 ++ [32] = q := ⟨_, rfl⟩
        have hb9 : q9.length ≤ 309243084818 := by rw [← hq9, List.length_append]; simp; omega
        have HG9 : Hid ((9223372036854775807 < q8.length + 1) = False) := Lib.hid (eq_false (by omega))
        have HQ9 := Lib.hid hq9
        clear hq9 hb8
        obtain ⟨q10, hq10⟩ : ∃ q, q9 ++ Lib.itoa rt = q := ⟨_, rfl⟩
        have hl10 : (Lib.itoa rt).length ≤ 786434 := by have := Wr.itoa_length rt HIrt.out; omega
        have hb10 : q10.length ≤ 309243871252 := by rw [← hq10, List.length_append]; omega
        have HG10 : Hid ((9223372036854775807 < q9.length + (Lib.itoa rt).length) = False) := Lib.hid (eq_false (by omega))
        have HQ10 := Lib.hid hq10
        clear hq10 hb9 hl10
        obtain ⟨q11, hq11⟩ : ∃ q, q10 ++ [32] = q := ⟨_, rfl⟩
        have hb11 : q11.length ≤ 309243871253 := by rw [← hq11, List.length_append]; simp; omega
        have HG11 : Hid ((9223372036854775807 < q10.length + 1) = False) := Lib.hid (eq_false (by omega))
        have HQ11 := Lib.hid hq11
        clear hq11 hb10
        obtain ⟨q12, hq12⟩ : ∃ q, q11 ++ [98, 111, 116, 116, 111, 109] = q := ⟨_, rfl⟩
        have hb12 : q12.length ≤ 309243871259 := by rw [← hq12, List.length_append]; simp; omega
        have HG12 : Hid ((9223372036854775807 < q11.length + 6) = False) := Lib.hid (eq_false (by omega))
        have HQ12 := Lib.hid hq12
        clear hq12 hb11
        obtain ⟨q13, hq13⟩ : ∃ q, q12 ++ [10] = q := ⟨_, rfl⟩
        have hb13 : q13.length ≤ 309243871260 := by rw [← hq13, List.length_append]; simp; omega
        have HG13 : Hid ((9223372036854775807 < q12.length + 1) = False) := Lib.hid (eq_false (by omega))
        have HQ13 := Lib.hid hq13
        clear hq13 hb12
        refine wp_region_held_drew (S := fun w' => w'.cell? ⟨b, off + k * 6, none⟩ = some (.string ⟨ra.toArray⟩) ∧ w'.cell? ⟨b, off + k * 6 + 1, none⟩ = some (.string ⟨rb.toArray⟩) ∧ w'.cell? ⟨b, off + k * 6 + 2, none⟩ = some (.int .i64 rx) ∧ w'.cell? ⟨b, off + k * 6 + 3, none⟩ = some (.int .i64 ry) ∧ w'.cell? ⟨b, off + k * 6 + 4, none⟩ = some (.int .i64 rt) ∧ Hid (Kp w w' none)) (by kernel_rfl) ?_ (fun hHeld => ?_)
        · exact ⟨((KB.out.drew).below.cell (p := ⟨b, off + k * 6, none⟩) hb).trans (HXR.out 0 (by simp)), ((KB.out.drew).below.cell (p := ⟨b, off + k * 6 + 1, none⟩) hb).trans (HXR.out 1 (by simp)), ((KB.out.drew).below.cell (p := ⟨b, off + k * 6 + 2, none⟩) hb).trans (HXR.out 2 (by simp)), ((KB.out.drew).below.cell (p := ⟨b, off + k * 6 + 3, none⟩) hb).trans (HXR.out 3 (by simp)), ((KB.out.drew).below.cell (p := ⟨b, off + k * 6 + 4, none⟩) hb).trans (HXR.out 4 (by simp)), Lib.hid (KB.out.drew)⟩
        refine wpAnyH_take (i := 0) (oi := _) (v := ?_) rfl (by kernel_rfl) (by kernel_rfl) (by kernel_rfl) (fun _ _ _ h => h) (Or.inl ⟨by rfl, ?_⟩) (by assumption) ?_
        rotate_left
        · (intro w hSw; (try dsimp only at hSw); go_simp <;> with_reducible rfl)
        try simp only [Act.put, List.setIfInBounds_toArray]
        refine wpAnyH_take (i := 2) (oi := _) (v := ?_) rfl (by kernel_rfl) (by kernel_rfl) (by kernel_rfl) (fun _ _ _ h => h) (Or.inl ⟨by rfl, ?_⟩) (by assumption) ?_
        rotate_left
        · (intro w hSw; (try dsimp only at hSw); go_simp <;> with_reducible rfl)
        try simp only [Act.put]
        refine wpAnyH_take (i := 3) (oi := _) (v := ?_) rfl (by kernel_rfl) (by kernel_rfl) (by kernel_rfl) (fun _ _ _ h => h) (Or.inl ⟨by rfl, ?_⟩) (by assumption) ?_
        rotate_left
        · (intro w hSw; (try dsimp only at hSw); go_simp <;> with_reducible rfl)
        try simp only [Act.put]
        refine wpAnyH_take (i := 4) (oi := _) (v := ?_) rfl (by kernel_rfl) (by kernel_rfl) (by kernel_rfl) (fun _ _ _ h => h) (Or.inl ⟨by rfl, ?_⟩) (by assumption) ?_
        rotate_left
        · (intro w hSw; (try dsimp only at hSw); go_simp <;> with_reducible rfl)
        try simp only [Act.put]
        refine wpAnyH_take (i := 5) (oi := _) (v := ?_) rfl (by kernel_rfl) (by kernel_rfl) (by kernel_rfl) (fun _ _ _ h => h) (Or.inl ⟨by rfl, ?_⟩) (by assumption) ?_
        rotate_left
        · (intro w hSw; (try dsimp only at hSw); go_simp <;> with_reducible rfl)
        try simp only [Act.put]
        refine wpAnyH_take (i := 6) (oi := _) (v := ?_) rfl (by kernel_rfl) (by kernel_rfl) (by kernel_rfl) (fun _ _ _ h => h) (Or.inl ⟨by rfl, ?_⟩) (by assumption) ?_
        rotate_left
        · (intro w hSw; (try dsimp only at hSw); go_simp <;> with_reducible rfl)
        try simp only [Act.put]
        refine wpAnyH_take (i := 10) (oi := _) (v := ?_) rfl (by kernel_rfl) (by kernel_rfl) (by kernel_rfl) (fun _ _ _ h => h) (Or.inl ⟨by rfl, ?_⟩) (by assumption) ?_
        rotate_left
        · (intro w hSw; (try dsimp only at hSw); go_simp <;> with_reducible rfl)
        try simp only [Act.put]
        refine wpAnyH_take (i := 11) (oi := _) (v := ?_) rfl (by kernel_rfl) (by kernel_rfl) (by kernel_rfl) (fun _ _ _ h => h) (Or.inl ⟨by rfl, ?_⟩) (by assumption) ?_
        rotate_left
        · (intro w hSw; (try dsimp only at hSw); go_simp <;> with_reducible rfl)
        try simp only [Act.put]
        refine wpAnyH_take (i := 12) (oi := _) (v := ?_) rfl (by kernel_rfl) (by kernel_rfl) (by kernel_rfl) (fun _ _ _ h => h) (Or.inl ⟨by rfl, ?_⟩) (by assumption) ?_
        rotate_left
        · (intro w hSw; (try dsimp only at hSw); go_simp <;> with_reducible rfl)
        try simp only [Act.put]
        refine wpAnyH_take (i := 13) (oi := _) (v := ?_) rfl (by kernel_rfl) (by kernel_rfl) (by kernel_rfl) (fun _ _ _ h => h) (Or.inl ⟨by rfl, ?_⟩) (by assumption) ?_
        rotate_left
        · (intro w hSw; (try dsimp only at hSw); go_simp <;> with_reducible rfl)
        try simp only [Act.put]
        refine wpAnyH_take (i := 14) (oi := _) (v := ?_) rfl (by kernel_rfl) (by kernel_rfl) (by kernel_rfl) (fun _ _ _ h => h) (Or.inl ⟨by rfl, ?_⟩) (by assumption) ?_
        rotate_left
        · (intro w hSw; (try dsimp only at hSw); go_simp <;> with_reducible rfl)
        try simp only [Act.put]
        refine wpAnyH_take (i := 18) (oi := _) (v := ?_) rfl (by kernel_rfl) (by kernel_rfl) (by kernel_rfl) (fun _ _ _ h => h) (Or.inl ⟨by rfl, ?_⟩) (by assumption) ?_
        rotate_left
        · (intro w hSw; (try dsimp only at hSw); go_simp <;> with_reducible rfl)
        try simp only [Act.put]
        refine wpAnyH_take (i := 19) (oi := _) (v := ?_) rfl (by kernel_rfl) (by kernel_rfl) (by kernel_rfl) (fun _ _ _ h => h) (Or.inl ⟨by rfl, ?_⟩) (by assumption) ?_
        rotate_left
        · (intro w hSw; (try dsimp only at hSw); go_simp <;> with_reducible rfl)
        try simp only [Act.put]
        refine wpAnyH_take (i := 20) (oi := _) (v := ?_) rfl (by kernel_rfl) (by kernel_rfl) (by kernel_rfl) (fun _ _ _ h => h) (Or.inl ⟨by rfl, ?_⟩) (by assumption) ?_
        rotate_left
        · (intro w hSw; (try dsimp only at hSw); go_simp <;> with_reducible rfl)
        try simp only [Act.put]
        refine wpAnyH_take (i := 21) (oi := _) (v := ?_) rfl (by kernel_rfl) (by kernel_rfl) (by kernel_rfl) (fun _ _ _ h => h) (Or.inl ⟨by rfl, ?_⟩) (by assumption) ?_
        rotate_left
        · (intro w hSw; (try dsimp only at hSw); go_simp <;> with_reducible rfl)
        try simp only [Act.put]
        refine wpAnyH_take (i := 22) (oi := _) (v := ?_) rfl (by kernel_rfl) (by kernel_rfl) (by kernel_rfl) (fun _ _ _ h => h) (Or.inl ⟨by rfl, ?_⟩) (by assumption) ?_
        rotate_left
        · (intro w hSw; (try dsimp only at hSw); go_simp <;> with_reducible rfl)
        try simp only [Act.put]
        refine wpAnyH_take (i := 23) (oi := _) (v := ?_) rfl (by kernel_rfl) (by kernel_rfl) (by kernel_rfl) (fun _ _ _ h => h) (Or.inl ⟨by rfl, ?_⟩) (by assumption) ?_
        rotate_left
        · (intro w hSw; (try dsimp only at hSw); go_simp <;> with_reducible rfl)
        try simp only [Act.put]
        refine wpAnyH_take (i := 27) (oi := _) (v := ?_) rfl (by kernel_rfl) (by kernel_rfl) (by kernel_rfl) (fun _ _ _ h => h) (Or.inl ⟨by rfl, ?_⟩) (by assumption) ?_
        rotate_left
        · (intro w hSw; (try dsimp only at hSw); go_simp <;> with_reducible rfl)
        try simp only [Act.put]
        refine wpAnyH_take (i := 28) (oi := _) (v := ?_) rfl (by kernel_rfl) (by kernel_rfl) (by kernel_rfl) (fun _ _ _ h => h) (Or.inl ⟨by rfl, ?_⟩) (by assumption) ?_
        rotate_left
        · (intro w hSw; (try dsimp only at hSw); go_simp <;> with_reducible rfl)
        try simp only [Act.put]
        refine wpAnyH_take (i := 29) (oi := _) (v := ?_) rfl (by kernel_rfl) (by kernel_rfl) (by kernel_rfl) (fun _ _ _ h => h) (Or.inl ⟨by rfl, ?_⟩) (by assumption) ?_
        rotate_left
        · (intro w hSw; (try dsimp only at hSw); go_simp <;> with_reducible rfl)
        try simp only [Act.put]
        refine wpAnyH_take (i := 30) (oi := _) (v := ?_) rfl (by kernel_rfl) (by kernel_rfl) (by kernel_rfl) (fun _ _ _ h => h) (Or.inl ⟨by rfl, ?_⟩) (by assumption) ?_
        rotate_left
        · (intro w hSw; (try dsimp only at hSw); go_simp <;> with_reducible rfl)
        try simp only [Act.put]
        refine wpAnyH_take (i := 31) (oi := _) (v := ?_) rfl (by kernel_rfl) (by kernel_rfl) (by kernel_rfl) (fun _ _ _ h => h) (Or.inl ⟨by rfl, ?_⟩) (by assumption) ?_
        rotate_left
        · (intro w hSw; (try dsimp only at hSw); go_simp <;> with_reducible rfl)
        try simp only [Act.put]
        refine wpAnyH_take (i := 32) (oi := _) (v := ?_) rfl (by kernel_rfl) (by kernel_rfl) (by kernel_rfl) (fun _ _ _ h => h) (Or.inl ⟨by rfl, ?_⟩) (by assumption) ?_
        rotate_left
        · (intro w hSw; (try dsimp only at hSw); go_simp <;> with_reducible rfl)
        try simp only [Act.put]
        refine wpAnyH_take (i := 36) (oi := _) (v := ?_) rfl (by kernel_rfl) (by kernel_rfl) (by kernel_rfl) (fun _ _ _ h => h) (Or.inl ⟨by rfl, ?_⟩) (by assumption) ?_
        rotate_left
        · (intro w hSw; (try dsimp only at hSw); go_simp <;> with_reducible rfl)
        try simp only [Act.put]
        refine wpAnyH_take (i := 37) (oi := _) (v := ?_) rfl (by kernel_rfl) (by kernel_rfl) (by kernel_rfl) (fun _ _ _ h => h) (Or.inl ⟨by rfl, ?_⟩) (by assumption) ?_
        rotate_left
        · (intro w hSw; (try dsimp only at hSw); go_simp <;> with_reducible rfl)
        try simp only [Act.put]
        refine wpAnyH_take (i := 38) (oi := _) (v := ?_) rfl (by kernel_rfl) (by kernel_rfl) (by kernel_rfl) (fun _ _ _ h => h) (Or.inl ⟨by rfl, ?_⟩) (by assumption) ?_
        rotate_left
        · (intro w hSw; (try dsimp only at hSw); go_simp <;> with_reducible rfl)
        try simp only [Act.put]
        refine wpAnyH_take (i := 39) (oi := _) (v := ?_) rfl (by kernel_rfl) (by kernel_rfl) (by kernel_rfl) (fun _ _ _ h => h) (Or.inl ⟨by rfl, ?_⟩) (by assumption) ?_
        rotate_left
        · (intro w hSw; (try dsimp only at hSw); go_simp <;> with_reducible rfl)
        try simp only [Act.put]
        refine wpAnyH_take (i := 40) (oi := _) (v := ?_) rfl (by kernel_rfl) (by kernel_rfl) (by kernel_rfl) (fun _ _ _ h => h) (Or.inl ⟨by rfl, ?_⟩) (by assumption) ?_
        rotate_left
        · (intro w hSw; (try dsimp only at hSw); go_simp <;> with_reducible rfl)
        try simp only [Act.put]
        refine wpAnyH_take (i := 44) (oi := _) (v := ?_) rfl (by kernel_rfl) (by kernel_rfl) (by kernel_rfl) (fun _ _ _ h => h) (Or.inl ⟨by rfl, ?_⟩) (by assumption) ?_
        rotate_left
        · (intro w hSw; (try dsimp only at hSw); go_simp <;> with_reducible rfl)
        try simp only [Act.put]
        have hq1 := HQ1.out
        have g1 := HG1.out
        refine wpAnyH_take (i := 1) (oi := _) (v := ?_) rfl (by kernel_rfl) (by kernel_rfl) (by kernel_rfl) (fun _ _ _ h => h) (Or.inl ⟨by rfl, ?_⟩) (by assumption) ?_
        rotate_left
        · (intro w hSw; (try dsimp only at hSw); go_simp <;> with_reducible rfl)
        try simp only [Act.put]
        clear g1 hq1
        refine wpAnyH_ready (rs := [7]) (by kernel_rfl) (by simp) ?_
        refine AllReadyH.cons (o := _) rfl (fun K hK => ?_) AllReadyH.nil
        have gK := hHeld.2.2.2.2.2
        go_simp
        refine (rword_any ra _ (by omega)).mono ?_
        rintro e w21 ⟨rfl, kk⟩
        try go_wp2_with fail
        refine hK.out _ _ ?_ (fun hHeld2 => ?_)
        · exact ⟨((gK.out.trans kk).below.cell (p := ⟨b, off + k * 6, none⟩) hb).trans (HXR.out 0 (by simp)), ((gK.out.trans kk).below.cell (p := ⟨b, off + k * 6 + 1, none⟩) hb).trans (HXR.out 1 (by simp)), ((gK.out.trans kk).below.cell (p := ⟨b, off + k * 6 + 2, none⟩) hb).trans (HXR.out 2 (by simp)), ((gK.out.trans kk).below.cell (p := ⟨b, off + k * 6 + 3, none⟩) hb).trans (HXR.out 3 (by simp)), ((gK.out.trans kk).below.cell (p := ⟨b, off + k * 6 + 4, none⟩) hb).trans (HXR.out 4 (by simp)), Lib.hid (gK.out.trans kk)⟩
        clear hK K hHeld gK kk
        have hHeld := hHeld2
        clear hHeld2
        try simp only [Act.put, List.setIfInBounds_toArray, List.set_cons_zero, List.set_cons_succ]
        have hq2 := HQ2.out
        have g2 := HG2.out
        refine wpAnyH_take (i := 8) (oi := _) (v := ?_) rfl (by kernel_rfl) (by kernel_rfl) (by kernel_rfl) (fun _ _ _ h => h) (Or.inl ⟨by rfl, ?_⟩) (by assumption) ?_
        rotate_left
        · (intro w hSw; (try dsimp only at hSw); go_simp <;> with_reducible rfl)
        try simp only [Act.put, List.setIfInBounds_toArray]
        clear g2 hq2
        have hq3 := HQ3.out
        have g3 := HG3.out
        refine wpAnyH_take (i := 9) (oi := _) (v := ?_) rfl (by kernel_rfl) (by kernel_rfl) (by kernel_rfl) (fun _ _ _ h => h) (Or.inl ⟨by rfl, ?_⟩) (by assumption) ?_
        rotate_left
        · (intro w hSw; (try dsimp only at hSw); go_simp <;> with_reducible rfl)
        try simp only [Act.put]
        clear g3 hq3
        refine wpAnyH_ready (rs := [15]) (by kernel_rfl) (by simp) ?_
        refine AllReadyH.cons (o := _) rfl (fun K hK => ?_) AllReadyH.nil
        have gK := hHeld.2.2.2.2.2
        go_simp
        refine (rword_any rb _ (by omega)).mono ?_
        rintro e w22 ⟨rfl, kk⟩
        try go_wp2_with fail
        refine hK.out _ _ ?_ (fun hHeld2 => ?_)
        · exact ⟨((gK.out.trans kk).below.cell (p := ⟨b, off + k * 6, none⟩) hb).trans (HXR.out 0 (by simp)), ((gK.out.trans kk).below.cell (p := ⟨b, off + k * 6 + 1, none⟩) hb).trans (HXR.out 1 (by simp)), ((gK.out.trans kk).below.cell (p := ⟨b, off + k * 6 + 2, none⟩) hb).trans (HXR.out 2 (by simp)), ((gK.out.trans kk).below.cell (p := ⟨b, off + k * 6 + 3, none⟩) hb).trans (HXR.out 3 (by simp)), ((gK.out.trans kk).below.cell (p := ⟨b, off + k * 6 + 4, none⟩) hb).trans (HXR.out 4 (by simp)), Lib.hid (gK.out.trans kk)⟩
        clear hK K hHeld gK kk
        have hHeld := hHeld2
        clear hHeld2
        try simp only [Act.put, List.setIfInBounds_toArray, List.set_cons_zero, List.set_cons_succ]
        have hq4 := HQ4.out
        have g4 := HG4.out
        refine wpAnyH_take (i := 16) (oi := _) (v := ?_) rfl (by kernel_rfl) (by kernel_rfl) (by kernel_rfl) (fun _ _ _ h => h) (Or.inl ⟨by rfl, ?_⟩) (by assumption) ?_
        rotate_left
        · (intro w hSw; (try dsimp only at hSw); go_simp <;> with_reducible rfl)
        try simp only [Act.put, List.setIfInBounds_toArray]
        clear g4 hq4
        have hq5 := HQ5.out
        have g5 := HG5.out
        refine wpAnyH_take (i := 17) (oi := _) (v := ?_) rfl (by kernel_rfl) (by kernel_rfl) (by kernel_rfl) (fun _ _ _ h => h) (Or.inl ⟨by rfl, ?_⟩) (by assumption) ?_
        rotate_left
        · (intro w hSw; (try dsimp only at hSw); go_simp <;> with_reducible rfl)
        try simp only [Act.put]
        clear g5 hq5
        refine wpAnyH_ready (rs := [24]) (by kernel_rfl) (by simp) ?_
        refine AllReadyH.cons (o := _) rfl (fun K hK => ?_) AllReadyH.nil
        have gK := hHeld.2.2.2.2.2
        go_simp
        refine (dec_any rx HIrx.out _).mono ?_
        rintro e w23 ⟨rfl, kk⟩
        try go_wp2_with fail
        refine hK.out _ _ ?_ (fun hHeld2 => ?_)
        · exact ⟨((gK.out.trans kk).below.cell (p := ⟨b, off + k * 6, none⟩) hb).trans (HXR.out 0 (by simp)), ((gK.out.trans kk).below.cell (p := ⟨b, off + k * 6 + 1, none⟩) hb).trans (HXR.out 1 (by simp)), ((gK.out.trans kk).below.cell (p := ⟨b, off + k * 6 + 2, none⟩) hb).trans (HXR.out 2 (by simp)), ((gK.out.trans kk).below.cell (p := ⟨b, off + k * 6 + 3, none⟩) hb).trans (HXR.out 3 (by simp)), ((gK.out.trans kk).below.cell (p := ⟨b, off + k * 6 + 4, none⟩) hb).trans (HXR.out 4 (by simp)), Lib.hid (gK.out.trans kk)⟩
        clear hK K hHeld gK kk
        have hHeld := hHeld2
        clear hHeld2
        try simp only [Act.put, List.setIfInBounds_toArray, List.set_cons_zero, List.set_cons_succ]
        have hq6 := HQ6.out
        have g6 := HG6.out
        refine wpAnyH_take (i := 25) (oi := _) (v := ?_) rfl (by kernel_rfl) (by kernel_rfl) (by kernel_rfl) (fun _ _ _ h => h) (Or.inl ⟨by rfl, ?_⟩) (by assumption) ?_
        rotate_left
        · (intro w hSw; (try dsimp only at hSw); go_simp <;> with_reducible rfl)
        try simp only [Act.put, List.setIfInBounds_toArray]
        clear g6 hq6
        have hq7 := HQ7.out
        have g7 := HG7.out
        refine wpAnyH_take (i := 26) (oi := _) (v := ?_) rfl (by kernel_rfl) (by kernel_rfl) (by kernel_rfl) (fun _ _ _ h => h) (Or.inl ⟨by rfl, ?_⟩) (by assumption) ?_
        rotate_left
        · (intro w hSw; (try dsimp only at hSw); go_simp <;> with_reducible rfl)
        try simp only [Act.put]
        clear g7 hq7
        refine wpAnyH_ready (rs := [33]) (by kernel_rfl) (by simp) ?_
        refine AllReadyH.cons (o := _) rfl (fun K hK => ?_) AllReadyH.nil
        have gK := hHeld.2.2.2.2.2
        go_simp
        refine (dec_any ry HIry.out _).mono ?_
        rintro e w24 ⟨rfl, kk⟩
        try go_wp2_with fail
        refine hK.out _ _ ?_ (fun hHeld2 => ?_)
        · exact ⟨((gK.out.trans kk).below.cell (p := ⟨b, off + k * 6, none⟩) hb).trans (HXR.out 0 (by simp)), ((gK.out.trans kk).below.cell (p := ⟨b, off + k * 6 + 1, none⟩) hb).trans (HXR.out 1 (by simp)), ((gK.out.trans kk).below.cell (p := ⟨b, off + k * 6 + 2, none⟩) hb).trans (HXR.out 2 (by simp)), ((gK.out.trans kk).below.cell (p := ⟨b, off + k * 6 + 3, none⟩) hb).trans (HXR.out 3 (by simp)), ((gK.out.trans kk).below.cell (p := ⟨b, off + k * 6 + 4, none⟩) hb).trans (HXR.out 4 (by simp)), Lib.hid (gK.out.trans kk)⟩
        clear hK K hHeld gK kk
        have hHeld := hHeld2
        clear hHeld2
        try simp only [Act.put, List.setIfInBounds_toArray, List.set_cons_zero, List.set_cons_succ]
        have hq8 := HQ8.out
        have g8 := HG8.out
        refine wpAnyH_take (i := 34) (oi := _) (v := ?_) rfl (by kernel_rfl) (by kernel_rfl) (by kernel_rfl) (fun _ _ _ h => h) (Or.inl ⟨by rfl, ?_⟩) (by assumption) ?_
        rotate_left
        · (intro w hSw; (try dsimp only at hSw); go_simp <;> with_reducible rfl)
        try simp only [Act.put, List.setIfInBounds_toArray]
        clear g8 hq8
        have hq9 := HQ9.out
        have g9 := HG9.out
        refine wpAnyH_take (i := 35) (oi := _) (v := ?_) rfl (by kernel_rfl) (by kernel_rfl) (by kernel_rfl) (fun _ _ _ h => h) (Or.inl ⟨by rfl, ?_⟩) (by assumption) ?_
        rotate_left
        · (intro w hSw; (try dsimp only at hSw); go_simp <;> with_reducible rfl)
        try simp only [Act.put]
        clear g9 hq9
        refine wpAnyH_ready (rs := [41]) (by kernel_rfl) (by simp) ?_
        refine AllReadyH.cons (o := _) rfl (fun K hK => ?_) AllReadyH.nil
        have gK := hHeld.2.2.2.2.2
        go_simp
        refine (dec_any rt HIrt.out _).mono ?_
        rintro e w25 ⟨rfl, kk⟩
        try go_wp2_with fail
        refine hK.out _ _ ?_ (fun hHeld2 => ?_)
        · exact ⟨((gK.out.trans kk).below.cell (p := ⟨b, off + k * 6, none⟩) hb).trans (HXR.out 0 (by simp)), ((gK.out.trans kk).below.cell (p := ⟨b, off + k * 6 + 1, none⟩) hb).trans (HXR.out 1 (by simp)), ((gK.out.trans kk).below.cell (p := ⟨b, off + k * 6 + 2, none⟩) hb).trans (HXR.out 2 (by simp)), ((gK.out.trans kk).below.cell (p := ⟨b, off + k * 6 + 3, none⟩) hb).trans (HXR.out 3 (by simp)), ((gK.out.trans kk).below.cell (p := ⟨b, off + k * 6 + 4, none⟩) hb).trans (HXR.out 4 (by simp)), Lib.hid (gK.out.trans kk)⟩
        clear hK K hHeld gK kk
        have hHeld := hHeld2
        clear hHeld2
        try simp only [Act.put, List.setIfInBounds_toArray, List.set_cons_zero, List.set_cons_succ]
        have hq10 := HQ10.out
        have g10 := HG10.out
        refine wpAnyH_take (i := 42) (oi := _) (v := ?_) rfl (by kernel_rfl) (by kernel_rfl) (by kernel_rfl) (fun _ _ _ h => h) (Or.inl ⟨by rfl, ?_⟩) (by assumption) ?_
        rotate_left
        · (intro w hSw; (try dsimp only at hSw); go_simp <;> with_reducible rfl)
        try simp only [Act.put, List.setIfInBounds_toArray]
        clear g10 hq10
        have hq11 := HQ11.out
        have g11 := HG11.out
        refine wpAnyH_take (i := 43) (oi := _) (v := ?_) rfl (by kernel_rfl) (by kernel_rfl) (by kernel_rfl) (fun _ _ _ h => h) (Or.inl ⟨by rfl, ?_⟩) (by assumption) ?_
        rotate_left
        · (intro w hSw; (try dsimp only at hSw); go_simp <;> with_reducible rfl)
        try simp only [Act.put]
        clear g11 hq11
        have hq12 := HQ12.out
        have g12 := HG12.out
        refine wpAnyH_take (i := 45) (oi := _) (v := ?_) rfl (by kernel_rfl) (by kernel_rfl) (by kernel_rfl) (fun _ _ _ h => h) (Or.inl ⟨by rfl, ?_⟩) (by assumption) ?_
        rotate_left
        · (intro w hSw; (try dsimp only at hSw); go_simp <;> with_reducible rfl)
        try simp only [Act.put]
        clear g12 hq12
        have hq13 := HQ13.out
        have g13 := HG13.out
        refine wpAnyH_take (i := 46) (oi := _) (v := ?_) rfl (by kernel_rfl) (by kernel_rfl) (by kernel_rfl) (fun _ _ _ h => h) (Or.inl ⟨by rfl, ?_⟩) (by assumption) ?_
        rotate_left
        · (intro w hSw; (try dsimp only at hSw); go_simp <;> with_reducible rfl)
        try simp only [Act.put]
        clear g13 hq13
        refine wpAnyH_ready (rs := [47]) (by kernel_rfl) (by simp) ?_
        refine AllReadyH.cons (o := _) rfl (fun K hK => ?_) AllReadyH.nil
        have gK := hHeld.2.2.2.2.2
        go_simp
        refine hK.out _ _ ?_ (fun hHeld2 => ?_)
        · exact ⟨((gK.out).below.cell (p := ⟨b, off + k * 6, none⟩) hb).trans (HXR.out 0 (by simp)), ((gK.out).below.cell (p := ⟨b, off + k * 6 + 1, none⟩) hb).trans (HXR.out 1 (by simp)), ((gK.out).below.cell (p := ⟨b, off + k * 6 + 2, none⟩) hb).trans (HXR.out 2 (by simp)), ((gK.out).below.cell (p := ⟨b, off + k * 6 + 3, none⟩) hb).trans (HXR.out 3 (by simp)), ((gK.out).below.cell (p := ⟨b, off + k * 6 + 4, none⟩) hb).trans (HXR.out 4 (by simp)), Lib.hid (gK.out)⟩
        have KZ := Lib.hid gK.out
        clear hK K hHeld hHeld2 gK
        try simp only [Act.put, List.setIfInBounds_toArray, List.set_cons_zero, List.set_cons_succ]
        refine wpAnyH_done (by kernel_rfl) ?_ _
        have KW : Hid (Kp w _ none) := KZ
        have e5 : linesTo Li.place xs (k + 1) = q13 := by
          rw [linesTo_step Li.place xs k hlt, HX.out, ← HQ13.out, ← HQ12.out, ← HQ11.out, ← HQ10.out, ← HQ9.out, ← HQ8.out, ← HQ7.out, ← HQ6.out, ← HQ5.out, ← HQ4.out, ← HQ3.out, ← HQ2.out, ← HQ1.out, ← HL0.out]
          simp [flat, Li.encF, Li.side, Li.place]
        have HREL : Hid (RFileRel w Li.place xs (.string ⟨q13.toArray⟩) (.int .i64 (k + 1)) _) := Lib.hid ⟨k + 1, hlt, by go_num, by rw [e5], KW.out⟩
        clear e5
        go_wp2_with fail
        first | exact ⟨HREL.out, by simp [intOf]; omega⟩ | (go_roundw; all_goals first | exact HREL.out | (simp [intOf]; omega) | ((repeat apply Exists.intro); exact ⟨HREL.out, rfl⟩))
    · obtain rfl : k = xs.length := by omega
      go_wp2_with fail
      refine (dec_any xs.length (by unfold Wr.I64; omega) _).mono ?_
      rintro e w5 ⟨rfl, k5⟩
      have HK5 := Lib.hid (HK.out.trans k5)
      have hil := Wr.itoa_length xs.length (by unfold Wr.I64; omega)
      clear k5
      go_wp2_with fail
      go_ret
      exact ⟨ret_str (by rw [file_str]; unfold linesTo Li.fileOf Li.endOf; rw [List.take_length]), HK5.out⟩
theorem rwriteRows_nil (ao : Option Addr) (cap : Nat) (w : World) : Calls Tryd.prog 11 #[.slice ao 0 cap] w fun e w' => e = .returned (.string ⟨(Li.fileOf Li.place []).toArray⟩) ∧ Kp w w' none := by
  go_enter Tryd.func11, Tryd.ntmps11
  go_wp2_with fail
  go_loopw [3, 4] (fun o i wr => o = .string ⟨#[]⟩ ∧ i = .int .i64 0 ∧ w = wr) (fun _ _ _ => 0)
  case atStart => exact ⟨rfl, rfl, rfl⟩
  case round =>
    obtain ⟨rfl, rfl, rfl⟩ := hrel
    go_wp2_with fail
    refine (dec_any 0 (by unfold Wr.I64; omega) _).mono ?_
    rintro e w5 ⟨rfl, k5⟩
    have HK5 := Lib.hid k5
    have hil := Wr.itoa_length 0 (by unfold Wr.I64; omega)
    clear k5
    go_wp2_with fail
    go_ret
    exact ⟨ret_str (file_str [] (Lib.itoa 0)), HK5.out⟩
theorem rwriteRows_any (v : Value) (xs : List (List Li.Fld)) (w : World) (h : IsRows w v xs) (hl : xs.length ≤ 65536) (hg : ∀ x ∈ xs, Li.Good Li.rowK x ∧ Short x) :
    Calls Tryd.prog 11 #[v] w fun e w' => e = .returned (.string ⟨(Li.fileOf Li.place xs).toArray⟩) ∧ Kp w w' none := by
  rcases h with ⟨ao, cap, rfl, rfl⟩ | ⟨b, off, cap, rfl, hc, hb, hr⟩
  · exact rwriteRows_nil ao cap w
  · exact rwriteRows_row b off cap xs w hb hc hl hr hg

end Go.Proofs.YtldjhjbodhhnbaaDoor
