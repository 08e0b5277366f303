/- The reference's sorted list with a further number (with), where the number is new and the list has a block. Condition: at most 2^16 elements. -/
import Derived.Test.YtpakiabnhdoijaaWi
import Derived.Test.YtpakiabnhdoijaaCt
namespace Go.Proofs.Ytpakiabnhdoijaa
open Go.RowKit

theorem owns_empty (w : World) (base : Nat) (h : base ≤ w.heap.size) : (w.alloc (Obj.cells #[] 3)).ownsRow base 3 1 (.slice (some ⟨w.heap.size, 0, none⟩) 0 0) 0 [] :=
  ⟨rfl, .inr ⟨w.heap.size, 0, #[], rfl, h, heap_alloc_new w _, Nat.le_refl _, by unfold maxLen; omega, rfl, rfl⟩⟩
/-- A one-element slice of the call's own. -/
def One (w : World) (b : Nat) (n : Int) : Prop := b < w.heap.size ∧ w.cell? ⟨b, 0, none⟩ = some (.int .i64 n)
theorem one_new (w : World) (n : Int) : One (w.alloc (Obj.cells #[.int .i64 n] 3)) w.heap.size n := by
  refine ⟨by simp, ?_⟩
  have h : (w.alloc (Obj.cells #[.int .i64 n] 3)).heap[w.heap.size]? = some (Obj.cells #[.int .i64 n] 3) := heap_alloc_new w _
  simp only [World.cell?, h]
  rfl
theorem One.keep {w w' : World} {b : Nat} {n : Int} {row : Option Nat} (h : One w b n) (k : Kp w w' row) (hr : row ≠ some b) : One w' b n :=
  ⟨Nat.lt_of_lt_of_le h.1 k.size, by rw [World.grownBy.cell_far k ⟨b, 0, none⟩ h.1 (fun e => hr e.symm)]; exact h.2⟩
theorem One.list {w : World} {b : Nat} {n : Int} (h : One w b n) : IsInts w (.slice (some ⟨b, 0, none⟩) 1 1) [n] := by
  refine .inr ⟨b, 0, 1, rfl, by simp, h.1, fun k hk j hj => ?_⟩
  simp at hk; subst hk
  simp [intVal] at hj; subst hj
  simpa [intVal] using h.2

/-- What the region has made: nothing of another's is turned; what is owned; the slice of one. -/
def StE (w W : World) (v : Value) (m : Nat) (row : List Value) : Prop := Kp w W none ∧ W.ownsRow w.heap.size 3 1 v m row
def StN (w W : World) (b : Nat) (n : Int) : Prop := Kp w W none ∧ One W b n
def StO (w W : World) (v : Value) (m : Nat) (row : List Value) (b : Nat) (n : Int) : Prop := StE w W v m row ∧ One W b n ∧ v.ownBlock ≠ some b

theorem kept_mk {w : World} {v : Value} {m : Nat} {row : List Value} {base : Nat} (h : w.ownsRow base 3 1 v m row) (o : Obj) : (w.alloc o).ownsRow base 3 1 v m row :=
  h.kept ((Kp.refl w none).alloc o) (by cases v.ownBlock <;> simp)
theorem stE_new {w W : World} (h : Kp w W none) : StE w (W.alloc (Obj.cells #[] 3)) (.slice (some ⟨W.heap.size, 0, none⟩) 0 0) 0 [] :=
  ⟨h.alloc _, owns_empty W w.heap.size h.size⟩
theorem stN_new {w W : World} (h : Kp w W none) (n : Int) : StN w (W.alloc (Obj.cells #[.int .i64 n] 3)) W.heap.size n :=
  ⟨h.alloc _, one_new W n⟩
theorem stO_one {w W : World} {v : Value} {m : Nat} {row : List Value} (h : StE w W v m row) (n : Int) (b : Nat) (hb : b = W.heap.size) : StO w (W.alloc (Obj.cells #[.int .i64 n] 3)) v m row b n := by
  subst hb
  exact ⟨⟨h.1.alloc _, kept_mk h.2 _⟩, one_new W n, fun e => by have := (h.2.lt _ e).2; omega⟩
theorem stO_new {w W : World} {b : Nat} {n : Int} (h : StN w W b n) (g : Nat) (hg : g = W.heap.size) : StO w (W.alloc (Obj.cells #[] 3)) (.slice (some ⟨g, 0, none⟩) 0 0) 0 [] b n := by
  subst hg
  exact ⟨stE_new h.1, h.2.keep (row := none) ((Kp.refl _ _).alloc _) (by simp), fun e => by
      have h1 : some W.heap.size = some b := e
      injection h1 with h1
      have := h.2.1
      omega⟩
theorem stE_app {w W w1 : World} {v v1 : Value} {m m1 : Nat} {row row1 : List Value} (h : StE w W v m row) (ho : w1.ownsRow w.heap.size 3 1 v1 m1 row1) (hg : W.grownBy w1 v.ownBlock) : StE w w1 v1 m1 row1 :=
  ⟨Kp.row h.1 hg (fun k hk => (h.2.lt k hk).1), ho⟩
theorem stO_app {w W w1 : World} {v v1 : Value} {m m1 b : Nat} {n : Int} {row row1 : List Value} (h : StO w W v m row b n) (ho : w1.ownsRow w.heap.size 3 1 v1 m1 row1) (hg : W.grownBy w1 v.ownBlock) (hb : v1.ownBlock = v.ownBlock ∨ v1.ownBlock = some W.heap.size) : StO w w1 v1 m1 row1 b n :=
  ⟨stE_app h.1 ho hg, h.2.1.keep hg h.2.2, fun e => by
    rcases hb with hb | hb
    · exact h.2.2 (by rw [← hb]; exact e)
    · rw [hb] at e; injection e with e; have := h.2.1.1; omega⟩


theorem keep1 {w W : World} {b off : Nat} {xs : List Int} (hr : ∀ k, (h : k < xs.length) → w.cell? ⟨b, off + k, none⟩ = some (.int .i64 xs[k])) (hk : Kp w W none) (hb : b < w.heap.size) :
    ∀ k, (h : k < xs.length) → ∀ j, (h2 : j < (intVal xs[k]).length) → W.cell? ⟨b, off + k * 1 + j, none⟩ = some (intVal xs[k])[j] := by
  intro i hi j hj
  have hj0 : j = 0 := by simp [intVal] at hj; exact hj
  subst hj0
  rw [show off + i * 1 + 0 = off + i by omega, hk.below.cell (p := ⟨b, off + i, none⟩) hb, hr i hi]
  rfl
theorem keep0 {w W : World} {b off : Nat} {xs : List Int} (hr : ∀ k, (h : k < xs.length) → w.cell? ⟨b, off + k, none⟩ = some (.int .i64 xs[k])) (hk : Kp w W none) (hb : b < w.heap.size) :
    ∀ k, (h : k < xs.length) → W.cell? ⟨b, off + k, none⟩ = some (.int .i64 xs[k]) := by
  intro i hi
  rw [hk.below.cell (p := ⟨b, off + i, none⟩) hb, hr i hi]
theorem wn_end {w W : World} {v : Value} {b k : Nat} {n : Int} {xs : List Int} (h : StO w W v (0 + (xs.take k).length + 1 + (xs.drop k).length) ([] ++ (xs.take k).flatMap intVal ++ [n].flatMap intVal ++ (xs.drop k).flatMap intVal) b n) :
    ∃ u, Ending.returned v = .returned u ∧ IsInts W u (xs.take k ++ n :: xs.drop k) ∧ Kp w W none := by
  refine ⟨v, rfl, isList_own (m := 1) (f := intVal) (base := w.heap.size) (e := 3) (fun _ => rfl) ?_, h.1.1⟩
  have e1 : (xs.take k ++ n :: xs.drop k).length = 0 + (xs.take k).length + 1 + (xs.drop k).length := by rw [List.length_append, List.length_cons]; omega
  have e2 : (xs.take k ++ n :: xs.drop k).flatMap intVal = [] ++ (xs.take k).flatMap intVal ++ [n].flatMap intVal ++ (xs.drop k).flatMap intVal := by simp
  rw [e1, e2]
  exact h.1.2

set_option maxHeartbeats 8000000 in
set_option maxRecDepth 100000 in
theorem with_fresh (b off cap : Nat) (xs : List Int) (n : Int) (w : World) (hb : b < w.heap.size) (hc : xs.length ≤ cap) (hl : xs.length ≤ 65536) (k0 : Nat) (hkl : k0 ≤ xs.length) (hkn : ∀ x ∈ xs.take k0, x < n) (hkx : ∀ h : k0 < xs.length, n < xs[k0])
    (hr : ∀ k, (h : k < xs.length) → w.cell? ⟨b, off + k, none⟩ = some (.int .i64 xs[k])) :
    Calls Try.prog 48 #[.slice (some ⟨b, off, none⟩) xs.length cap, .int .i64 n] w fun E w' => ∃ u, E = .returned u ∧ IsInts w' u (xs.take k0 ++ n :: xs.drop k0) ∧ Kp w w' none := by
  have HR := Lib.hid hr
  have HN := Lib.hid hkn
  have HX := Lib.hid hkx
  clear hr hkn hkx
  obtain ⟨i0, hi, hz0, hz1, hz2⟩ := info_parts infoInt
  go_enter Try.func48, Try.ntmps48
  go_wp2_with fail
  go_loopw [5] (fun i wr => (∃ k : Nat, k ≤ k0 ∧ i = .int .i64 k) ∧ w = wr) (fun i _ => xs.length - (intOf i).toNat)
  case atStart => exact ⟨⟨0, Nat.zero_le _, rfl⟩, rfl⟩
  case round =>
    obtain ⟨⟨k, hk, rfl⟩, rfl⟩ := hrel
    have hk0 : (0 : Int) ≤ (k : Int) := Int.natCast_nonneg _
    have hcap : k ≤ cap := by omega
    have hkl2 : k ≤ xs.length := by omega
    have lt1 : (xs.take k).length = k := by rw [List.length_take]; omega
    have lt2 : (xs.drop k).length = xs.length - k := by rw [List.length_drop]
    by_cases hlt : k < xs.length
    · have hk1 : (k : Int) < (xs.length : Int) := by omega
      obtain ⟨x, hx⟩ : ∃ x, xs[k] = x := ⟨_, rfl⟩
      have c0 : w.cell? ⟨b, off + k, none⟩ = some (.int .i64 x) := by subst hx; exact HR.out k hlt
      by_cases hkk : k < k0
      · have h1 : x < n := by rw [← hx]; exact HN.out _ (by rw [List.mem_take_iff_getElem]; exact ⟨k, by omega, rfl⟩)
        clear hx
        go_wp2_with fail
        go_roundw
        case rel => exact ⟨⟨k + 1, by omega, by go_num⟩, by trivial⟩
        case measure => simp [intOf]; omega
      · have e : k = k0 := by omega
        subst e
        have h1 : n < x := by rw [← hx]; exact HX.out hlt
        have h2 : ¬ x < n := by omega
        have h3 : (x == n) = false := by simp; omega
        clear hx h1
        go_wp2_with fail
        refine wp_region_held_drew (S := fun w1 => Kp w w1 none) (by kernel_rfl) ?_ (fun hHeld => ?_)
        · exact (Kp.refl _ _).drew
        refine wpAnyH_take (i := 1) (oi := _) (v := ?_) rfl (by kernel_rfl) (by kernel_rfl) (by kernel_rfl) (fun _ _ _ h => h) (Or.inl ⟨by rfl, ?_⟩) (by assumption) ?_
        rotate_left
        · (intro w hSw; (try dsimp only at hSw); go_simp <;> with_reducible rfl)
        try simp only [Act.put, List.getElem_toArray, List.getElem_cons_zero, List.getElem_cons_succ, List.setIfInBounds_toArray, List.set_cons_zero, List.set_cons_succ]
        refine wpAnyH_take (i := 2) (oi := _) (v := ?_) rfl (by kernel_rfl) (by kernel_rfl) (by kernel_rfl) (fun _ _ _ h => h) (Or.inl ⟨by rfl, ?_⟩) (by assumption) ?_
        rotate_left
        · (intro w hSw; (try dsimp only at hSw); go_simp <;> with_reducible rfl)
        try simp only [Act.put, List.getElem_toArray, List.getElem_cons_zero, List.getElem_cons_succ, List.setIfInBounds_toArray, List.set_cons_zero, List.set_cons_succ]
        refine wpAnyH_take (i := 3) (oi := _) (v := ?_) rfl (by kernel_rfl) (by kernel_rfl) (by kernel_rfl) (fun _ _ _ h => h) (Or.inl ⟨by rfl, ?_⟩) (by assumption) ?_
        rotate_left
        · (intro w hSw; (try dsimp only at hSw); go_simp <;> with_reducible rfl)
        try simp only [Act.put, List.getElem_toArray, List.getElem_cons_zero, List.getElem_cons_succ, List.setIfInBounds_toArray, List.set_cons_zero, List.set_cons_succ]
        refine wpAnyH_take (i := 5) (oi := _) (v := ?_) rfl (by kernel_rfl) (by kernel_rfl) (by kernel_rfl) (fun _ _ _ h => h) (Or.inl ⟨by rfl, ?_⟩) (by assumption) ?_
        rotate_left
        · (intro w hSw; (try dsimp only at hSw); go_simp <;> with_reducible rfl)
        try simp only [Act.put, List.getElem_toArray, List.getElem_cons_zero, List.getElem_cons_succ, List.setIfInBounds_toArray, List.set_cons_zero, List.set_cons_succ]
        refine wpAnyH_take (i := 8) (oi := _) (v := ?_) rfl (by kernel_rfl) (by kernel_rfl) (by kernel_rfl) (fun _ _ _ h => h) (Or.inl ⟨by rfl, ?_⟩) (by assumption) ?_
        rotate_left
        · (intro w hSw; (try dsimp only at hSw); go_simp <;> with_reducible rfl)
        try simp only [Act.put, List.getElem_toArray, List.getElem_cons_zero, List.getElem_cons_succ, List.setIfInBounds_toArray, List.set_cons_zero, List.set_cons_succ]
        refine wpAnyH_take (i := 9) (oi := _) (v := ?_) rfl (by kernel_rfl) (by kernel_rfl) (by kernel_rfl) (fun _ _ _ h => h) (Or.inl ⟨by rfl, ?_⟩) (by assumption) ?_
        rotate_left
        · (intro w hSw; (try dsimp only at hSw); go_simp <;> with_reducible rfl)
        try simp only [Act.put, List.getElem_toArray, List.getElem_cons_zero, List.getElem_cons_succ, List.setIfInBounds_toArray, List.set_cons_zero, List.set_cons_succ]
        refine wpAnyH_take (i := 10) (oi := _) (v := ?_) rfl (by kernel_rfl) (by kernel_rfl) (by kernel_rfl) (fun _ _ _ h => h) (Or.inl ⟨by rfl, ?_⟩) (by assumption) ?_
        rotate_left
        · (intro w hSw; (try dsimp only at hSw); go_simp <;> with_reducible rfl)
        try simp only [Act.put, List.getElem_toArray, List.getElem_cons_zero, List.getElem_cons_succ, List.setIfInBounds_toArray, List.set_cons_zero, List.set_cons_succ]
        refine wpAnyH_ready (rs := [0, 6]) (by kernel_rfl) (by simp) ?_
        refine AllReadyH.cons (o := _) rfl (fun K hK => ?_) (AllReadyH.cons (o := _) rfl (fun K hK => ?_) AllReadyH.nil)
        · clear hHeld
          go_simp
          refine hK _ _ ((Kp.refl w none).drew.alloc _) (fun hHeld => ?_)
          clear hK K
          try simp only [Act.put, List.getElem_toArray, List.getElem_cons_zero, List.getElem_cons_succ, List.setIfInBounds_toArray, List.set_cons_zero, List.set_cons_succ]
          have HS1 := Lib.hid (stE_new (Kp.refl w none).drew)
          refine wpAnyH_ready (rs := [4, 6]) (by kernel_rfl) (by simp) ?_
          refine AllReadyH.cons (o := _) rfl (fun K hK => ?_) (AllReadyH.cons (o := _) rfl (fun K hK => ?_) AllReadyH.nil)
          · clear hHeld
            refine step_app (f := intVal) rfl (.tmp 33) (.tmp 36) w.heap.size 57 3 rfl i0 _ 1 8 Try.underlying57 hi hz0 hz1 hz2 rfl (by omega) (fun _ => rfl) (by intro x u hu; simp [intVal] at hu; subst hu; rfl) _ 0 [] rfl HS1.out.2 _ (xs.take k) rfl (isList_take (f := intVal) hc hkl2 (Nat.lt_of_lt_of_le hb HS1.out.1.size) (keep1 HR.out HS1.out.1 hb)) (by unfold maxLen; simp <;> omega) (by simp <;> omega) HS1.out.1.size ?_
            intro v2 w2 ho hg hb
            have HS2 := Lib.hid (stE_app HS1.out ho hg)
            clear ho hg hb
            try simp only [Act.put, List.getElem_toArray, List.getElem_cons_zero, List.getElem_cons_succ, List.setIfInBounds_toArray, List.set_cons_zero, List.set_cons_succ]
            refine hK _ _ HS2.out.1 (fun hHeld => ?_)
            clear hK K
            refine wpAnyH_ready (rs := [6]) (by kernel_rfl) (by simp) ?_
            refine AllReadyH.cons (o := _) rfl (fun K hK => ?_) AllReadyH.nil
            clear hHeld
            go_simp
            refine hK _ _ (HS2.out.1.alloc _) (fun hHeld => ?_)
            clear hK K
            try simp only [Act.put, List.getElem_toArray, List.getElem_cons_zero, List.getElem_cons_succ, List.setIfInBounds_toArray, List.set_cons_zero, List.set_cons_succ]
            have HS3 := Lib.hid (stO_one HS2.out n w2.heap.size (by simp))
            refine wpAnyH_ready (rs := [7]) (by kernel_rfl) (by simp) ?_
            refine AllReadyH.cons (o := _) rfl (fun K hK => ?_) AllReadyH.nil
            clear hHeld
            refine step_app (f := intVal) rfl (.tmp 37) (.tmp 39) w.heap.size 57 3 rfl i0 _ 1 8 Try.underlying57 hi hz0 hz1 hz2 rfl (by omega) (fun _ => rfl) (by intro x u hu; simp [intVal] at hu; subst hu; rfl) _ (0 + (xs.take k).length) ([] ++ (xs.take k).flatMap intVal) rfl HS3.out.1.2 _ [n] rfl HS3.out.2.1.list (by unfold maxLen; simp <;> omega) (by simp <;> omega) HS3.out.1.1.size ?_
            intro v4 w4 ho hg hb
            have HS4 := Lib.hid (stO_app HS3.out ho hg hb)
            clear ho hg hb
            try simp only [Act.put, List.getElem_toArray, List.getElem_cons_zero, List.getElem_cons_succ, List.setIfInBounds_toArray, List.set_cons_zero, List.set_cons_succ]
            refine hK _ _ HS4.out.1.1 (fun hHeld => ?_)
            clear hK K
            refine wpAnyH_ready (rs := [11]) (by kernel_rfl) (by simp) ?_
            refine AllReadyH.cons (o := _) rfl (fun K hK => ?_) AllReadyH.nil
            clear hHeld
            refine step_app (f := intVal) rfl (.tmp 40) (.tmp 43) w.heap.size 57 3 rfl i0 _ 1 8 Try.underlying57 hi hz0 hz1 hz2 rfl (by omega) (fun _ => rfl) (by intro x u hu; simp [intVal] at hu; subst hu; rfl) _ ((0 + (xs.take k).length) + 1) (([] ++ (xs.take k).flatMap intVal) ++ [n].flatMap intVal) rfl HS4.out.1.2 _ (xs.drop k) rfl (isInts_drop hc hkl2 (Nat.lt_of_lt_of_le hb HS4.out.1.1.size) (keep0 HR.out HS4.out.1.1 hb)) (by unfold maxLen; simp <;> omega) (by simp <;> omega) HS4.out.1.1.size ?_
            intro v5 w5 ho hg hb
            have HS5 := Lib.hid (stO_app HS4.out ho hg hb)
            clear ho hg hb
            try simp only [Act.put, List.getElem_toArray, List.getElem_cons_zero, List.getElem_cons_succ, List.setIfInBounds_toArray, List.set_cons_zero, List.set_cons_succ]
            refine hK _ _ HS5.out.1.1 (fun hHeld => ?_)
            clear hK K
            refine wpAnyH_ready (rs := [12]) (by kernel_rfl) (by simp) ?_
            refine AllReadyH.cons (o := _) rfl (fun K hK => ?_) AllReadyH.nil
            clear hHeld
            go_simp
            refine hK _ _ HS5.out.1.1 (fun hHeld => ?_)
            clear hK K hHeld
            try simp only [Act.put, List.getElem_toArray, List.getElem_cons_zero, List.getElem_cons_succ, List.setIfInBounds_toArray, List.set_cons_zero, List.set_cons_succ]
            refine wpAnyH_done (by kernel_rfl) ?_ _
            go_wp2_with fail
            all_goals (go_ret; exact wn_end (xs := xs) (k := k) HS5.out)
          · clear hHeld
            go_simp
            refine hK _ _ (HS1.out.1.alloc _) (fun hHeld => ?_)
            clear hK K
            try simp only [Act.put, List.getElem_toArray, List.getElem_cons_zero, List.getElem_cons_succ, List.setIfInBounds_toArray, List.set_cons_zero, List.set_cons_succ]
            have HS2 := Lib.hid (stO_one HS1.out n (w.heap.size + 1) (by simp))
            refine wpAnyH_ready (rs := [4]) (by kernel_rfl) (by simp) ?_
            refine AllReadyH.cons (o := _) rfl (fun K hK => ?_) AllReadyH.nil
            clear hHeld
            refine step_app (f := intVal) rfl (.tmp 33) (.tmp 36) w.heap.size 57 3 rfl i0 _ 1 8 Try.underlying57 hi hz0 hz1 hz2 rfl (by omega) (fun _ => rfl) (by intro x u hu; simp [intVal] at hu; subst hu; rfl) _ 0 [] rfl HS2.out.1.2 _ (xs.take k) rfl (isList_take (f := intVal) hc hkl2 (Nat.lt_of_lt_of_le hb HS2.out.1.1.size) (keep1 HR.out HS2.out.1.1 hb)) (by unfold maxLen; simp <;> omega) (by simp <;> omega) HS2.out.1.1.size ?_
            intro v3 w3 ho hg hb
            have HS3 := Lib.hid (stO_app HS2.out ho hg hb)
            clear ho hg hb
            try simp only [Act.put, List.getElem_toArray, List.getElem_cons_zero, List.getElem_cons_succ, List.setIfInBounds_toArray, List.set_cons_zero, List.set_cons_succ]
            refine hK _ _ HS3.out.1.1 (fun hHeld => ?_)
            clear hK K
            refine wpAnyH_ready (rs := [7]) (by kernel_rfl) (by simp) ?_
            refine AllReadyH.cons (o := _) rfl (fun K hK => ?_) AllReadyH.nil
            clear hHeld
            refine step_app (f := intVal) rfl (.tmp 37) (.tmp 39) w.heap.size 57 3 rfl i0 _ 1 8 Try.underlying57 hi hz0 hz1 hz2 rfl (by omega) (fun _ => rfl) (by intro x u hu; simp [intVal] at hu; subst hu; rfl) _ (0 + (xs.take k).length) ([] ++ (xs.take k).flatMap intVal) rfl HS3.out.1.2 _ [n] rfl HS3.out.2.1.list (by unfold maxLen; simp <;> omega) (by simp <;> omega) HS3.out.1.1.size ?_
            intro v4 w4 ho hg hb
            have HS4 := Lib.hid (stO_app HS3.out ho hg hb)
            clear ho hg hb
            try simp only [Act.put, List.getElem_toArray, List.getElem_cons_zero, List.getElem_cons_succ, List.setIfInBounds_toArray, List.set_cons_zero, List.set_cons_succ]
            refine hK _ _ HS4.out.1.1 (fun hHeld => ?_)
            clear hK K
            refine wpAnyH_ready (rs := [11]) (by kernel_rfl) (by simp) ?_
            refine AllReadyH.cons (o := _) rfl (fun K hK => ?_) AllReadyH.nil
            clear hHeld
            refine step_app (f := intVal) rfl (.tmp 40) (.tmp 43) w.heap.size 57 3 rfl i0 _ 1 8 Try.underlying57 hi hz0 hz1 hz2 rfl (by omega) (fun _ => rfl) (by intro x u hu; simp [intVal] at hu; subst hu; rfl) _ ((0 + (xs.take k).length) + 1) (([] ++ (xs.take k).flatMap intVal) ++ [n].flatMap intVal) rfl HS4.out.1.2 _ (xs.drop k) rfl (isInts_drop hc hkl2 (Nat.lt_of_lt_of_le hb HS4.out.1.1.size) (keep0 HR.out HS4.out.1.1 hb)) (by unfold maxLen; simp <;> omega) (by simp <;> omega) HS4.out.1.1.size ?_
            intro v5 w5 ho hg hb
            have HS5 := Lib.hid (stO_app HS4.out ho hg hb)
            clear ho hg hb
            try simp only [Act.put, List.getElem_toArray, List.getElem_cons_zero, List.getElem_cons_succ, List.setIfInBounds_toArray, List.set_cons_zero, List.set_cons_succ]
            refine hK _ _ HS5.out.1.1 (fun hHeld => ?_)
            clear hK K
            refine wpAnyH_ready (rs := [12]) (by kernel_rfl) (by simp) ?_
            refine AllReadyH.cons (o := _) rfl (fun K hK => ?_) AllReadyH.nil
            clear hHeld
            go_simp
            refine hK _ _ HS5.out.1.1 (fun hHeld => ?_)
            clear hK K hHeld
            try simp only [Act.put, List.getElem_toArray, List.getElem_cons_zero, List.getElem_cons_succ, List.setIfInBounds_toArray, List.set_cons_zero, List.set_cons_succ]
            refine wpAnyH_done (by kernel_rfl) ?_ _
            go_wp2_with fail
            all_goals (go_ret; exact wn_end (xs := xs) (k := k) HS5.out)
        · clear hHeld
          go_simp
          refine hK _ _ ((Kp.refl w none).drew.alloc _) (fun hHeld => ?_)
          clear hK K
          try simp only [Act.put, List.getElem_toArray, List.getElem_cons_zero, List.getElem_cons_succ, List.setIfInBounds_toArray, List.set_cons_zero, List.set_cons_succ]
          have HS1 := Lib.hid (stN_new (Kp.refl w none).drew n)
          refine wpAnyH_ready (rs := [0]) (by kernel_rfl) (by simp) ?_
          refine AllReadyH.cons (o := _) rfl (fun K hK => ?_) AllReadyH.nil
          clear hHeld
          go_simp
          refine hK _ _ (HS1.out.1.alloc _) (fun hHeld => ?_)
          clear hK K
          try simp only [Act.put, List.getElem_toArray, List.getElem_cons_zero, List.getElem_cons_succ, List.setIfInBounds_toArray, List.set_cons_zero, List.set_cons_succ]
          have HS2 := Lib.hid (stO_new HS1.out (w.heap.size + 1) (by simp))
          refine wpAnyH_ready (rs := [4]) (by kernel_rfl) (by simp) ?_
          refine AllReadyH.cons (o := _) rfl (fun K hK => ?_) AllReadyH.nil
          clear hHeld
          refine step_app (f := intVal) rfl (.tmp 33) (.tmp 36) w.heap.size 57 3 rfl i0 _ 1 8 Try.underlying57 hi hz0 hz1 hz2 rfl (by omega) (fun _ => rfl) (by intro x u hu; simp [intVal] at hu; subst hu; rfl) _ 0 [] rfl HS2.out.1.2 _ (xs.take k) rfl (isList_take (f := intVal) hc hkl2 (Nat.lt_of_lt_of_le hb HS2.out.1.1.size) (keep1 HR.out HS2.out.1.1 hb)) (by unfold maxLen; simp <;> omega) (by simp <;> omega) HS2.out.1.1.size ?_
          intro v3 w3 ho hg hb
          have HS3 := Lib.hid (stO_app HS2.out ho hg hb)
          clear ho hg hb
          try simp only [Act.put, List.getElem_toArray, List.getElem_cons_zero, List.getElem_cons_succ, List.setIfInBounds_toArray, List.set_cons_zero, List.set_cons_succ]
          refine hK _ _ HS3.out.1.1 (fun hHeld => ?_)
          clear hK K
          refine wpAnyH_ready (rs := [7]) (by kernel_rfl) (by simp) ?_
          refine AllReadyH.cons (o := _) rfl (fun K hK => ?_) AllReadyH.nil
          clear hHeld
          refine step_app (f := intVal) rfl (.tmp 37) (.tmp 39) w.heap.size 57 3 rfl i0 _ 1 8 Try.underlying57 hi hz0 hz1 hz2 rfl (by omega) (fun _ => rfl) (by intro x u hu; simp [intVal] at hu; subst hu; rfl) _ (0 + (xs.take k).length) ([] ++ (xs.take k).flatMap intVal) rfl HS3.out.1.2 _ [n] rfl HS3.out.2.1.list (by unfold maxLen; simp <;> omega) (by simp <;> omega) HS3.out.1.1.size ?_
          intro v4 w4 ho hg hb
          have HS4 := Lib.hid (stO_app HS3.out ho hg hb)
          clear ho hg hb
          try simp only [Act.put, List.getElem_toArray, List.getElem_cons_zero, List.getElem_cons_succ, List.setIfInBounds_toArray, List.set_cons_zero, List.set_cons_succ]
          refine hK _ _ HS4.out.1.1 (fun hHeld => ?_)
          clear hK K
          refine wpAnyH_ready (rs := [11]) (by kernel_rfl) (by simp) ?_
          refine AllReadyH.cons (o := _) rfl (fun K hK => ?_) AllReadyH.nil
          clear hHeld
          refine step_app (f := intVal) rfl (.tmp 40) (.tmp 43) w.heap.size 57 3 rfl i0 _ 1 8 Try.underlying57 hi hz0 hz1 hz2 rfl (by omega) (fun _ => rfl) (by intro x u hu; simp [intVal] at hu; subst hu; rfl) _ ((0 + (xs.take k).length) + 1) (([] ++ (xs.take k).flatMap intVal) ++ [n].flatMap intVal) rfl HS4.out.1.2 _ (xs.drop k) rfl (isInts_drop hc hkl2 (Nat.lt_of_lt_of_le hb HS4.out.1.1.size) (keep0 HR.out HS4.out.1.1 hb)) (by unfold maxLen; simp <;> omega) (by simp <;> omega) HS4.out.1.1.size ?_
          intro v5 w5 ho hg hb
          have HS5 := Lib.hid (stO_app HS4.out ho hg hb)
          clear ho hg hb
          try simp only [Act.put, List.getElem_toArray, List.getElem_cons_zero, List.getElem_cons_succ, List.setIfInBounds_toArray, List.set_cons_zero, List.set_cons_succ]
          refine hK _ _ HS5.out.1.1 (fun hHeld => ?_)
          clear hK K
          refine wpAnyH_ready (rs := [12]) (by kernel_rfl) (by simp) ?_
          refine AllReadyH.cons (o := _) rfl (fun K hK => ?_) AllReadyH.nil
          clear hHeld
          go_simp
          refine hK _ _ HS5.out.1.1 (fun hHeld => ?_)
          clear hK K hHeld
          try simp only [Act.put, List.getElem_toArray, List.getElem_cons_zero, List.getElem_cons_succ, List.setIfInBounds_toArray, List.set_cons_zero, List.set_cons_succ]
          refine wpAnyH_done (by kernel_rfl) ?_ _
          go_wp2_with fail
          all_goals (go_ret; exact wn_end (xs := xs) (k := k) HS5.out)
    · have e : k = k0 := by omega
      subst e
      have hk1 : ¬ (k : Int) < (xs.length : Int) := by omega
      go_wp2_with fail
      refine wp_region_held_drew (S := fun w1 => Kp w w1 none) (by kernel_rfl) ?_ (fun hHeld => ?_)
      · exact (Kp.refl _ _).drew
      refine wpAnyH_take (i := 1) (oi := _) (v := ?_) rfl (by kernel_rfl) (by kernel_rfl) (by kernel_rfl) (fun _ _ _ h => h) (Or.inl ⟨by rfl, ?_⟩) (by assumption) ?_
      rotate_left
      · (intro w hSw; (try dsimp only at hSw); go_simp <;> with_reducible rfl)
      try simp only [Act.put, List.getElem_toArray, List.getElem_cons_zero, List.getElem_cons_succ, List.setIfInBounds_toArray, List.set_cons_zero, List.set_cons_succ]
      refine wpAnyH_take (i := 2) (oi := _) (v := ?_) rfl (by kernel_rfl) (by kernel_rfl) (by kernel_rfl) (fun _ _ _ h => h) (Or.inl ⟨by rfl, ?_⟩) (by assumption) ?_
      rotate_left
      · (intro w hSw; (try dsimp only at hSw); go_simp <;> with_reducible rfl)
      try simp only [Act.put, List.getElem_toArray, List.getElem_cons_zero, List.getElem_cons_succ, List.setIfInBounds_toArray, List.set_cons_zero, List.set_cons_succ]
      refine wpAnyH_take (i := 3) (oi := _) (v := ?_) rfl (by kernel_rfl) (by kernel_rfl) (by kernel_rfl) (fun _ _ _ h => h) (Or.inl ⟨by rfl, ?_⟩) (by assumption) ?_
      rotate_left
      · (intro w hSw; (try dsimp only at hSw); go_simp <;> with_reducible rfl)
      try simp only [Act.put, List.getElem_toArray, List.getElem_cons_zero, List.getElem_cons_succ, List.setIfInBounds_toArray, List.set_cons_zero, List.set_cons_succ]
      refine wpAnyH_take (i := 5) (oi := _) (v := ?_) rfl (by kernel_rfl) (by kernel_rfl) (by kernel_rfl) (fun _ _ _ h => h) (Or.inl ⟨by rfl, ?_⟩) (by assumption) ?_
      rotate_left
      · (intro w hSw; (try dsimp only at hSw); go_simp <;> with_reducible rfl)
      try simp only [Act.put, List.getElem_toArray, List.getElem_cons_zero, List.getElem_cons_succ, List.setIfInBounds_toArray, List.set_cons_zero, List.set_cons_succ]
      refine wpAnyH_take (i := 8) (oi := _) (v := ?_) rfl (by kernel_rfl) (by kernel_rfl) (by kernel_rfl) (fun _ _ _ h => h) (Or.inl ⟨by rfl, ?_⟩) (by assumption) ?_
      rotate_left
      · (intro w hSw; (try dsimp only at hSw); go_simp <;> with_reducible rfl)
      try simp only [Act.put, List.getElem_toArray, List.getElem_cons_zero, List.getElem_cons_succ, List.setIfInBounds_toArray, List.set_cons_zero, List.set_cons_succ]
      refine wpAnyH_take (i := 9) (oi := _) (v := ?_) rfl (by kernel_rfl) (by kernel_rfl) (by kernel_rfl) (fun _ _ _ h => h) (Or.inl ⟨by rfl, ?_⟩) (by assumption) ?_
      rotate_left
      · (intro w hSw; (try dsimp only at hSw); go_simp <;> with_reducible rfl)
      try simp only [Act.put, List.getElem_toArray, List.getElem_cons_zero, List.getElem_cons_succ, List.setIfInBounds_toArray, List.set_cons_zero, List.set_cons_succ]
      refine wpAnyH_take (i := 10) (oi := _) (v := ?_) rfl (by kernel_rfl) (by kernel_rfl) (by kernel_rfl) (fun _ _ _ h => h) (Or.inl ⟨by rfl, ?_⟩) (by assumption) ?_
      rotate_left
      · (intro w hSw; (try dsimp only at hSw); go_simp <;> with_reducible rfl)
      try simp only [Act.put, List.getElem_toArray, List.getElem_cons_zero, List.getElem_cons_succ, List.setIfInBounds_toArray, List.set_cons_zero, List.set_cons_succ]
      refine wpAnyH_ready (rs := [0, 6]) (by kernel_rfl) (by simp) ?_
      refine AllReadyH.cons (o := _) rfl (fun K hK => ?_) (AllReadyH.cons (o := _) rfl (fun K hK => ?_) AllReadyH.nil)
      · clear hHeld
        go_simp
        refine hK _ _ ((Kp.refl w none).drew.alloc _) (fun hHeld => ?_)
        clear hK K
        try simp only [Act.put, List.getElem_toArray, List.getElem_cons_zero, List.getElem_cons_succ, List.setIfInBounds_toArray, List.set_cons_zero, List.set_cons_succ]
        have HS1 := Lib.hid (stE_new (Kp.refl w none).drew)
        refine wpAnyH_ready (rs := [4, 6]) (by kernel_rfl) (by simp) ?_
        refine AllReadyH.cons (o := _) rfl (fun K hK => ?_) (AllReadyH.cons (o := _) rfl (fun K hK => ?_) AllReadyH.nil)
        · clear hHeld
          refine step_app (f := intVal) rfl (.tmp 33) (.tmp 36) w.heap.size 57 3 rfl i0 _ 1 8 Try.underlying57 hi hz0 hz1 hz2 rfl (by omega) (fun _ => rfl) (by intro x u hu; simp [intVal] at hu; subst hu; rfl) _ 0 [] rfl HS1.out.2 _ (xs.take k) rfl (isList_take (f := intVal) hc hkl2 (Nat.lt_of_lt_of_le hb HS1.out.1.size) (keep1 HR.out HS1.out.1 hb)) (by unfold maxLen; simp <;> omega) (by simp <;> omega) HS1.out.1.size ?_
          intro v2 w2 ho hg hb
          have HS2 := Lib.hid (stE_app HS1.out ho hg)
          clear ho hg hb
          try simp only [Act.put, List.getElem_toArray, List.getElem_cons_zero, List.getElem_cons_succ, List.setIfInBounds_toArray, List.set_cons_zero, List.set_cons_succ]
          refine hK _ _ HS2.out.1 (fun hHeld => ?_)
          clear hK K
          refine wpAnyH_ready (rs := [6]) (by kernel_rfl) (by simp) ?_
          refine AllReadyH.cons (o := _) rfl (fun K hK => ?_) AllReadyH.nil
          clear hHeld
          go_simp
          refine hK _ _ (HS2.out.1.alloc _) (fun hHeld => ?_)
          clear hK K
          try simp only [Act.put, List.getElem_toArray, List.getElem_cons_zero, List.getElem_cons_succ, List.setIfInBounds_toArray, List.set_cons_zero, List.set_cons_succ]
          have HS3 := Lib.hid (stO_one HS2.out n w2.heap.size (by simp))
          refine wpAnyH_ready (rs := [7]) (by kernel_rfl) (by simp) ?_
          refine AllReadyH.cons (o := _) rfl (fun K hK => ?_) AllReadyH.nil
          clear hHeld
          refine step_app (f := intVal) rfl (.tmp 37) (.tmp 39) w.heap.size 57 3 rfl i0 _ 1 8 Try.underlying57 hi hz0 hz1 hz2 rfl (by omega) (fun _ => rfl) (by intro x u hu; simp [intVal] at hu; subst hu; rfl) _ (0 + (xs.take k).length) ([] ++ (xs.take k).flatMap intVal) rfl HS3.out.1.2 _ [n] rfl HS3.out.2.1.list (by unfold maxLen; simp <;> omega) (by simp <;> omega) HS3.out.1.1.size ?_
          intro v4 w4 ho hg hb
          have HS4 := Lib.hid (stO_app HS3.out ho hg hb)
          clear ho hg hb
          try simp only [Act.put, List.getElem_toArray, List.getElem_cons_zero, List.getElem_cons_succ, List.setIfInBounds_toArray, List.set_cons_zero, List.set_cons_succ]
          refine hK _ _ HS4.out.1.1 (fun hHeld => ?_)
          clear hK K
          refine wpAnyH_ready (rs := [11]) (by kernel_rfl) (by simp) ?_
          refine AllReadyH.cons (o := _) rfl (fun K hK => ?_) AllReadyH.nil
          clear hHeld
          refine step_app (f := intVal) rfl (.tmp 40) (.tmp 43) w.heap.size 57 3 rfl i0 _ 1 8 Try.underlying57 hi hz0 hz1 hz2 rfl (by omega) (fun _ => rfl) (by intro x u hu; simp [intVal] at hu; subst hu; rfl) _ ((0 + (xs.take k).length) + 1) (([] ++ (xs.take k).flatMap intVal) ++ [n].flatMap intVal) rfl HS4.out.1.2 _ (xs.drop k) rfl (isInts_drop hc hkl2 (Nat.lt_of_lt_of_le hb HS4.out.1.1.size) (keep0 HR.out HS4.out.1.1 hb)) (by unfold maxLen; simp <;> omega) (by simp <;> omega) HS4.out.1.1.size ?_
          intro v5 w5 ho hg hb
          have HS5 := Lib.hid (stO_app HS4.out ho hg hb)
          clear ho hg hb
          try simp only [Act.put, List.getElem_toArray, List.getElem_cons_zero, List.getElem_cons_succ, List.setIfInBounds_toArray, List.set_cons_zero, List.set_cons_succ]
          refine hK _ _ HS5.out.1.1 (fun hHeld => ?_)
          clear hK K
          refine wpAnyH_ready (rs := [12]) (by kernel_rfl) (by simp) ?_
          refine AllReadyH.cons (o := _) rfl (fun K hK => ?_) AllReadyH.nil
          clear hHeld
          go_simp
          refine hK _ _ HS5.out.1.1 (fun hHeld => ?_)
          clear hK K hHeld
          try simp only [Act.put, List.getElem_toArray, List.getElem_cons_zero, List.getElem_cons_succ, List.setIfInBounds_toArray, List.set_cons_zero, List.set_cons_succ]
          refine wpAnyH_done (by kernel_rfl) ?_ _
          go_wp2_with fail
          all_goals (go_ret; exact wn_end (xs := xs) (k := k) HS5.out)
        · clear hHeld
          go_simp
          refine hK _ _ (HS1.out.1.alloc _) (fun hHeld => ?_)
          clear hK K
          try simp only [Act.put, List.getElem_toArray, List.getElem_cons_zero, List.getElem_cons_succ, List.setIfInBounds_toArray, List.set_cons_zero, List.set_cons_succ]
          have HS2 := Lib.hid (stO_one HS1.out n (w.heap.size + 1) (by simp))
          refine wpAnyH_ready (rs := [4]) (by kernel_rfl) (by simp) ?_
          refine AllReadyH.cons (o := _) rfl (fun K hK => ?_) AllReadyH.nil
          clear hHeld
          refine step_app (f := intVal) rfl (.tmp 33) (.tmp 36) w.heap.size 57 3 rfl i0 _ 1 8 Try.underlying57 hi hz0 hz1 hz2 rfl (by omega) (fun _ => rfl) (by intro x u hu; simp [intVal] at hu; subst hu; rfl) _ 0 [] rfl HS2.out.1.2 _ (xs.take k) rfl (isList_take (f := intVal) hc hkl2 (Nat.lt_of_lt_of_le hb HS2.out.1.1.size) (keep1 HR.out HS2.out.1.1 hb)) (by unfold maxLen; simp <;> omega) (by simp <;> omega) HS2.out.1.1.size ?_
          intro v3 w3 ho hg hb
          have HS3 := Lib.hid (stO_app HS2.out ho hg hb)
          clear ho hg hb
          try simp only [Act.put, List.getElem_toArray, List.getElem_cons_zero, List.getElem_cons_succ, List.setIfInBounds_toArray, List.set_cons_zero, List.set_cons_succ]
          refine hK _ _ HS3.out.1.1 (fun hHeld => ?_)
          clear hK K
          refine wpAnyH_ready (rs := [7]) (by kernel_rfl) (by simp) ?_
          refine AllReadyH.cons (o := _) rfl (fun K hK => ?_) AllReadyH.nil
          clear hHeld
          refine step_app (f := intVal) rfl (.tmp 37) (.tmp 39) w.heap.size 57 3 rfl i0 _ 1 8 Try.underlying57 hi hz0 hz1 hz2 rfl (by omega) (fun _ => rfl) (by intro x u hu; simp [intVal] at hu; subst hu; rfl) _ (0 + (xs.take k).length) ([] ++ (xs.take k).flatMap intVal) rfl HS3.out.1.2 _ [n] rfl HS3.out.2.1.list (by unfold maxLen; simp <;> omega) (by simp <;> omega) HS3.out.1.1.size ?_
          intro v4 w4 ho hg hb
          have HS4 := Lib.hid (stO_app HS3.out ho hg hb)
          clear ho hg hb
          try simp only [Act.put, List.getElem_toArray, List.getElem_cons_zero, List.getElem_cons_succ, List.setIfInBounds_toArray, List.set_cons_zero, List.set_cons_succ]
          refine hK _ _ HS4.out.1.1 (fun hHeld => ?_)
          clear hK K
          refine wpAnyH_ready (rs := [11]) (by kernel_rfl) (by simp) ?_
          refine AllReadyH.cons (o := _) rfl (fun K hK => ?_) AllReadyH.nil
          clear hHeld
          refine step_app (f := intVal) rfl (.tmp 40) (.tmp 43) w.heap.size 57 3 rfl i0 _ 1 8 Try.underlying57 hi hz0 hz1 hz2 rfl (by omega) (fun _ => rfl) (by intro x u hu; simp [intVal] at hu; subst hu; rfl) _ ((0 + (xs.take k).length) + 1) (([] ++ (xs.take k).flatMap intVal) ++ [n].flatMap intVal) rfl HS4.out.1.2 _ (xs.drop k) rfl (isInts_drop hc hkl2 (Nat.lt_of_lt_of_le hb HS4.out.1.1.size) (keep0 HR.out HS4.out.1.1 hb)) (by unfold maxLen; simp <;> omega) (by simp <;> omega) HS4.out.1.1.size ?_
          intro v5 w5 ho hg hb
          have HS5 := Lib.hid (stO_app HS4.out ho hg hb)
          clear ho hg hb
          try simp only [Act.put, List.getElem_toArray, List.getElem_cons_zero, List.getElem_cons_succ, List.setIfInBounds_toArray, List.set_cons_zero, List.set_cons_succ]
          refine hK _ _ HS5.out.1.1 (fun hHeld => ?_)
          clear hK K
          refine wpAnyH_ready (rs := [12]) (by kernel_rfl) (by simp) ?_
          refine AllReadyH.cons (o := _) rfl (fun K hK => ?_) AllReadyH.nil
          clear hHeld
          go_simp
          refine hK _ _ HS5.out.1.1 (fun hHeld => ?_)
          clear hK K hHeld
          try simp only [Act.put, List.getElem_toArray, List.getElem_cons_zero, List.getElem_cons_succ, List.setIfInBounds_toArray, List.set_cons_zero, List.set_cons_succ]
          refine wpAnyH_done (by kernel_rfl) ?_ _
          go_wp2_with fail
          all_goals (go_ret; exact wn_end (xs := xs) (k := k) HS5.out)
      · clear hHeld
        go_simp
        refine hK _ _ ((Kp.refl w none).drew.alloc _) (fun hHeld => ?_)
        clear hK K
        try simp only [Act.put, List.getElem_toArray, List.getElem_cons_zero, List.getElem_cons_succ, List.setIfInBounds_toArray, List.set_cons_zero, List.set_cons_succ]
        have HS1 := Lib.hid (stN_new (Kp.refl w none).drew n)
        refine wpAnyH_ready (rs := [0]) (by kernel_rfl) (by simp) ?_
        refine AllReadyH.cons (o := _) rfl (fun K hK => ?_) AllReadyH.nil
        clear hHeld
        go_simp
        refine hK _ _ (HS1.out.1.alloc _) (fun hHeld => ?_)
        clear hK K
        try simp only [Act.put, List.getElem_toArray, List.getElem_cons_zero, List.getElem_cons_succ, List.setIfInBounds_toArray, List.set_cons_zero, List.set_cons_succ]
        have HS2 := Lib.hid (stO_new HS1.out (w.heap.size + 1) (by simp))
        refine wpAnyH_ready (rs := [4]) (by kernel_rfl) (by simp) ?_
        refine AllReadyH.cons (o := _) rfl (fun K hK => ?_) AllReadyH.nil
        clear hHeld
        refine step_app (f := intVal) rfl (.tmp 33) (.tmp 36) w.heap.size 57 3 rfl i0 _ 1 8 Try.underlying57 hi hz0 hz1 hz2 rfl (by omega) (fun _ => rfl) (by intro x u hu; simp [intVal] at hu; subst hu; rfl) _ 0 [] rfl HS2.out.1.2 _ (xs.take k) rfl (isList_take (f := intVal) hc hkl2 (Nat.lt_of_lt_of_le hb HS2.out.1.1.size) (keep1 HR.out HS2.out.1.1 hb)) (by unfold maxLen; simp <;> omega) (by simp <;> omega) HS2.out.1.1.size ?_
        intro v3 w3 ho hg hb
        have HS3 := Lib.hid (stO_app HS2.out ho hg hb)
        clear ho hg hb
        try simp only [Act.put, List.getElem_toArray, List.getElem_cons_zero, List.getElem_cons_succ, List.setIfInBounds_toArray, List.set_cons_zero, List.set_cons_succ]
        refine hK _ _ HS3.out.1.1 (fun hHeld => ?_)
        clear hK K
        refine wpAnyH_ready (rs := [7]) (by kernel_rfl) (by simp) ?_
        refine AllReadyH.cons (o := _) rfl (fun K hK => ?_) AllReadyH.nil
        clear hHeld
        refine step_app (f := intVal) rfl (.tmp 37) (.tmp 39) w.heap.size 57 3 rfl i0 _ 1 8 Try.underlying57 hi hz0 hz1 hz2 rfl (by omega) (fun _ => rfl) (by intro x u hu; simp [intVal] at hu; subst hu; rfl) _ (0 + (xs.take k).length) ([] ++ (xs.take k).flatMap intVal) rfl HS3.out.1.2 _ [n] rfl HS3.out.2.1.list (by unfold maxLen; simp <;> omega) (by simp <;> omega) HS3.out.1.1.size ?_
        intro v4 w4 ho hg hb
        have HS4 := Lib.hid (stO_app HS3.out ho hg hb)
        clear ho hg hb
        try simp only [Act.put, List.getElem_toArray, List.getElem_cons_zero, List.getElem_cons_succ, List.setIfInBounds_toArray, List.set_cons_zero, List.set_cons_succ]
        refine hK _ _ HS4.out.1.1 (fun hHeld => ?_)
        clear hK K
        refine wpAnyH_ready (rs := [11]) (by kernel_rfl) (by simp) ?_
        refine AllReadyH.cons (o := _) rfl (fun K hK => ?_) AllReadyH.nil
        clear hHeld
        refine step_app (f := intVal) rfl (.tmp 40) (.tmp 43) w.heap.size 57 3 rfl i0 _ 1 8 Try.underlying57 hi hz0 hz1 hz2 rfl (by omega) (fun _ => rfl) (by intro x u hu; simp [intVal] at hu; subst hu; rfl) _ ((0 + (xs.take k).length) + 1) (([] ++ (xs.take k).flatMap intVal) ++ [n].flatMap intVal) rfl HS4.out.1.2 _ (xs.drop k) rfl (isInts_drop hc hkl2 (Nat.lt_of_lt_of_le hb HS4.out.1.1.size) (keep0 HR.out HS4.out.1.1 hb)) (by unfold maxLen; simp <;> omega) (by simp <;> omega) HS4.out.1.1.size ?_
        intro v5 w5 ho hg hb
        have HS5 := Lib.hid (stO_app HS4.out ho hg hb)
        clear ho hg hb
        try simp only [Act.put, List.getElem_toArray, List.getElem_cons_zero, List.getElem_cons_succ, List.setIfInBounds_toArray, List.set_cons_zero, List.set_cons_succ]
        refine hK _ _ HS5.out.1.1 (fun hHeld => ?_)
        clear hK K
        refine wpAnyH_ready (rs := [12]) (by kernel_rfl) (by simp) ?_
        refine AllReadyH.cons (o := _) rfl (fun K hK => ?_) AllReadyH.nil
        clear hHeld
        go_simp
        refine hK _ _ HS5.out.1.1 (fun hHeld => ?_)
        clear hK K hHeld
        try simp only [Act.put, List.getElem_toArray, List.getElem_cons_zero, List.getElem_cons_succ, List.setIfInBounds_toArray, List.set_cons_zero, List.set_cons_succ]
        refine wpAnyH_done (by kernel_rfl) ?_ _
        go_wp2_with fail
        all_goals (go_ret; exact wn_end (xs := xs) (k := k) HS5.out)

set_option maxHeartbeats 8000000 in
set_option maxRecDepth 100000 in
theorem with_nil (cap : Nat) (n : Int) (w : World) : Calls Try.prog 48 #[.slice none 0 cap, .int .i64 n] w fun E w' => ∃ u, E = .returned u ∧ IsInts w' u [n] ∧ Kp w w' none := by
  obtain ⟨i0, hi, hz0, hz1, hz2⟩ := info_parts infoInt
  go_enter Try.func48, Try.ntmps48
  go_wp2_with fail
  go_loopw [5] (fun i wr => i = .int .i64 0 ∧ w = wr) (fun i _ => 0)
  case atStart => exact ⟨rfl, rfl⟩
  case round =>
    obtain ⟨rfl, rfl⟩ := hrel
    go_wp2_with fail
    refine wp_region_held_drew (S := fun w1 => Kp w w1 none) (by kernel_rfl) ?_ (fun hHeld => ?_)
    · exact (Kp.refl _ _).drew
    refine wpAnyH_take (i := 1) (oi := _) (v := ?_) rfl (by kernel_rfl) (by kernel_rfl) (by kernel_rfl) (fun _ _ _ h => h) (Or.inl ⟨by rfl, ?_⟩) (by assumption) ?_
    rotate_left
    · (intro w hSw; (try dsimp only at hSw); go_simp <;> with_reducible rfl)
    try simp only [Act.put, List.getElem_toArray, List.getElem_cons_zero, List.getElem_cons_succ, List.setIfInBounds_toArray, List.set_cons_zero, List.set_cons_succ]
    refine wpAnyH_take (i := 2) (oi := _) (v := ?_) rfl (by kernel_rfl) (by kernel_rfl) (by kernel_rfl) (fun _ _ _ h => h) (Or.inl ⟨by rfl, ?_⟩) (by assumption) ?_
    rotate_left
    · (intro w hSw; (try dsimp only at hSw); go_simp <;> with_reducible rfl)
    try simp only [Act.put, List.getElem_toArray, List.getElem_cons_zero, List.getElem_cons_succ, List.setIfInBounds_toArray, List.set_cons_zero, List.set_cons_succ]
    refine wpAnyH_take (i := 3) (oi := _) (v := ?_) rfl (by kernel_rfl) (by kernel_rfl) (by kernel_rfl) (fun _ _ _ h => h) (Or.inl ⟨by rfl, ?_⟩) (by assumption) ?_
    rotate_left
    · (intro w hSw; (try dsimp only at hSw); go_simp <;> with_reducible rfl)
    try simp only [Act.put, List.getElem_toArray, List.getElem_cons_zero, List.getElem_cons_succ, List.setIfInBounds_toArray, List.set_cons_zero, List.set_cons_succ]
    refine wpAnyH_take (i := 5) (oi := _) (v := ?_) rfl (by kernel_rfl) (by kernel_rfl) (by kernel_rfl) (fun _ _ _ h => h) (Or.inl ⟨by rfl, ?_⟩) (by assumption) ?_
    rotate_left
    · (intro w hSw; (try dsimp only at hSw); go_simp <;> with_reducible rfl)
    try simp only [Act.put, List.getElem_toArray, List.getElem_cons_zero, List.getElem_cons_succ, List.setIfInBounds_toArray, List.set_cons_zero, List.set_cons_succ]
    refine wpAnyH_take (i := 8) (oi := _) (v := ?_) rfl (by kernel_rfl) (by kernel_rfl) (by kernel_rfl) (fun _ _ _ h => h) (Or.inl ⟨by rfl, ?_⟩) (by assumption) ?_
    rotate_left
    · (intro w hSw; (try dsimp only at hSw); go_simp <;> with_reducible rfl)
    try simp only [Act.put, List.getElem_toArray, List.getElem_cons_zero, List.getElem_cons_succ, List.setIfInBounds_toArray, List.set_cons_zero, List.set_cons_succ]
    refine wpAnyH_take (i := 9) (oi := _) (v := ?_) rfl (by kernel_rfl) (by kernel_rfl) (by kernel_rfl) (fun _ _ _ h => h) (Or.inl ⟨by rfl, ?_⟩) (by assumption) ?_
    rotate_left
    · (intro w hSw; (try dsimp only at hSw); go_simp <;> with_reducible rfl)
    try simp only [Act.put, List.getElem_toArray, List.getElem_cons_zero, List.getElem_cons_succ, List.setIfInBounds_toArray, List.set_cons_zero, List.set_cons_succ]
    refine wpAnyH_take (i := 10) (oi := _) (v := ?_) rfl (by kernel_rfl) (by kernel_rfl) (by kernel_rfl) (fun _ _ _ h => h) (Or.inl ⟨by rfl, ?_⟩) (by assumption) ?_
    rotate_left
    · (intro w hSw; (try dsimp only at hSw); go_simp <;> with_reducible rfl)
    try simp only [Act.put, List.getElem_toArray, List.getElem_cons_zero, List.getElem_cons_succ, List.setIfInBounds_toArray, List.set_cons_zero, List.set_cons_succ]
    refine wpAnyH_ready (rs := [0, 6]) (by kernel_rfl) (by simp) ?_
    refine AllReadyH.cons (o := _) rfl (fun K hK => ?_) (AllReadyH.cons (o := _) rfl (fun K hK => ?_) AllReadyH.nil)
    · clear hHeld
      go_simp
      refine hK _ _ ((Kp.refl w none).drew.alloc _) (fun hHeld => ?_)
      clear hK K
      try simp only [Act.put, List.getElem_toArray, List.getElem_cons_zero, List.getElem_cons_succ, List.setIfInBounds_toArray, List.set_cons_zero, List.set_cons_succ]
      have HS1 := Lib.hid (stE_new (Kp.refl w none).drew)
      refine wpAnyH_ready (rs := [4, 6]) (by kernel_rfl) (by simp) ?_
      refine AllReadyH.cons (o := _) rfl (fun K hK => ?_) (AllReadyH.cons (o := _) rfl (fun K hK => ?_) AllReadyH.nil)
      · clear hHeld
        refine step_app (f := intVal) rfl (.tmp 33) (.tmp 36) w.heap.size 57 3 rfl i0 _ 1 8 Try.underlying57 hi hz0 hz1 hz2 rfl (by omega) (fun _ => rfl) (by intro x u hu; simp [intVal] at hu; subst hu; rfl) _ 0 [] rfl HS1.out.2 _ ([] : List Int) rfl (.inl ⟨_, _, rfl, rfl⟩) (by unfold maxLen; simp <;> omega) (by simp <;> omega) HS1.out.1.size ?_
        intro v2 w2 ho hg hb
        have HS2 := Lib.hid (stE_app HS1.out ho hg)
        clear ho hg hb
        try simp only [Act.put, List.getElem_toArray, List.getElem_cons_zero, List.getElem_cons_succ, List.setIfInBounds_toArray, List.set_cons_zero, List.set_cons_succ]
        refine hK _ _ HS2.out.1 (fun hHeld => ?_)
        clear hK K
        refine wpAnyH_ready (rs := [6]) (by kernel_rfl) (by simp) ?_
        refine AllReadyH.cons (o := _) rfl (fun K hK => ?_) AllReadyH.nil
        clear hHeld
        go_simp
        refine hK _ _ (HS2.out.1.alloc _) (fun hHeld => ?_)
        clear hK K
        try simp only [Act.put, List.getElem_toArray, List.getElem_cons_zero, List.getElem_cons_succ, List.setIfInBounds_toArray, List.set_cons_zero, List.set_cons_succ]
        have HS3 := Lib.hid (stO_one HS2.out n w2.heap.size (by simp))
        refine wpAnyH_ready (rs := [7]) (by kernel_rfl) (by simp) ?_
        refine AllReadyH.cons (o := _) rfl (fun K hK => ?_) AllReadyH.nil
        clear hHeld
        refine step_app (f := intVal) rfl (.tmp 37) (.tmp 39) w.heap.size 57 3 rfl i0 _ 1 8 Try.underlying57 hi hz0 hz1 hz2 rfl (by omega) (fun _ => rfl) (by intro x u hu; simp [intVal] at hu; subst hu; rfl) _ (0 + ([] : List Int).length) ([] ++ ([] : List Int).flatMap intVal) rfl HS3.out.1.2 _ [n] rfl HS3.out.2.1.list (by unfold maxLen; simp <;> omega) (by simp <;> omega) HS3.out.1.1.size ?_
        intro v4 w4 ho hg hb
        have HS4 := Lib.hid (stO_app HS3.out ho hg hb)
        clear ho hg hb
        try simp only [Act.put, List.getElem_toArray, List.getElem_cons_zero, List.getElem_cons_succ, List.setIfInBounds_toArray, List.set_cons_zero, List.set_cons_succ]
        refine hK _ _ HS4.out.1.1 (fun hHeld => ?_)
        clear hK K
        refine wpAnyH_ready (rs := [11]) (by kernel_rfl) (by simp) ?_
        refine AllReadyH.cons (o := _) rfl (fun K hK => ?_) AllReadyH.nil
        clear hHeld
        refine step_app (f := intVal) rfl (.tmp 40) (.tmp 43) w.heap.size 57 3 rfl i0 _ 1 8 Try.underlying57 hi hz0 hz1 hz2 rfl (by omega) (fun _ => rfl) (by intro x u hu; simp [intVal] at hu; subst hu; rfl) _ ((0 + ([] : List Int).length) + 1) (([] ++ ([] : List Int).flatMap intVal) ++ [n].flatMap intVal) rfl HS4.out.1.2 _ ([] : List Int) rfl (.inl ⟨_, _, rfl, rfl⟩) (by unfold maxLen; simp <;> omega) (by simp <;> omega) HS4.out.1.1.size ?_
        intro v5 w5 ho hg hb
        have HS5 := Lib.hid (stO_app HS4.out ho hg hb)
        clear ho hg hb
        try simp only [Act.put, List.getElem_toArray, List.getElem_cons_zero, List.getElem_cons_succ, List.setIfInBounds_toArray, List.set_cons_zero, List.set_cons_succ]
        refine hK _ _ HS5.out.1.1 (fun hHeld => ?_)
        clear hK K
        refine wpAnyH_ready (rs := [12]) (by kernel_rfl) (by simp) ?_
        refine AllReadyH.cons (o := _) rfl (fun K hK => ?_) AllReadyH.nil
        clear hHeld
        go_simp
        refine hK _ _ HS5.out.1.1 (fun hHeld => ?_)
        clear hK K hHeld
        try simp only [Act.put, List.getElem_toArray, List.getElem_cons_zero, List.getElem_cons_succ, List.setIfInBounds_toArray, List.set_cons_zero, List.set_cons_succ]
        refine wpAnyH_done (by kernel_rfl) ?_ _
        go_wp2_with fail
        all_goals (go_ret; exact wn_end (xs := []) (k := 0) HS5.out)
      · clear hHeld
        go_simp
        refine hK _ _ (HS1.out.1.alloc _) (fun hHeld => ?_)
        clear hK K
        try simp only [Act.put, List.getElem_toArray, List.getElem_cons_zero, List.getElem_cons_succ, List.setIfInBounds_toArray, List.set_cons_zero, List.set_cons_succ]
        have HS2 := Lib.hid (stO_one HS1.out n (w.heap.size + 1) (by simp))
        refine wpAnyH_ready (rs := [4]) (by kernel_rfl) (by simp) ?_
        refine AllReadyH.cons (o := _) rfl (fun K hK => ?_) AllReadyH.nil
        clear hHeld
        refine step_app (f := intVal) rfl (.tmp 33) (.tmp 36) w.heap.size 57 3 rfl i0 _ 1 8 Try.underlying57 hi hz0 hz1 hz2 rfl (by omega) (fun _ => rfl) (by intro x u hu; simp [intVal] at hu; subst hu; rfl) _ 0 [] rfl HS2.out.1.2 _ ([] : List Int) rfl (.inl ⟨_, _, rfl, rfl⟩) (by unfold maxLen; simp <;> omega) (by simp <;> omega) HS2.out.1.1.size ?_
        intro v3 w3 ho hg hb
        have HS3 := Lib.hid (stO_app HS2.out ho hg hb)
        clear ho hg hb
        try simp only [Act.put, List.getElem_toArray, List.getElem_cons_zero, List.getElem_cons_succ, List.setIfInBounds_toArray, List.set_cons_zero, List.set_cons_succ]
        refine hK _ _ HS3.out.1.1 (fun hHeld => ?_)
        clear hK K
        refine wpAnyH_ready (rs := [7]) (by kernel_rfl) (by simp) ?_
        refine AllReadyH.cons (o := _) rfl (fun K hK => ?_) AllReadyH.nil
        clear hHeld
        refine step_app (f := intVal) rfl (.tmp 37) (.tmp 39) w.heap.size 57 3 rfl i0 _ 1 8 Try.underlying57 hi hz0 hz1 hz2 rfl (by omega) (fun _ => rfl) (by intro x u hu; simp [intVal] at hu; subst hu; rfl) _ (0 + ([] : List Int).length) ([] ++ ([] : List Int).flatMap intVal) rfl HS3.out.1.2 _ [n] rfl HS3.out.2.1.list (by unfold maxLen; simp <;> omega) (by simp <;> omega) HS3.out.1.1.size ?_
        intro v4 w4 ho hg hb
        have HS4 := Lib.hid (stO_app HS3.out ho hg hb)
        clear ho hg hb
        try simp only [Act.put, List.getElem_toArray, List.getElem_cons_zero, List.getElem_cons_succ, List.setIfInBounds_toArray, List.set_cons_zero, List.set_cons_succ]
        refine hK _ _ HS4.out.1.1 (fun hHeld => ?_)
        clear hK K
        refine wpAnyH_ready (rs := [11]) (by kernel_rfl) (by simp) ?_
        refine AllReadyH.cons (o := _) rfl (fun K hK => ?_) AllReadyH.nil
        clear hHeld
        refine step_app (f := intVal) rfl (.tmp 40) (.tmp 43) w.heap.size 57 3 rfl i0 _ 1 8 Try.underlying57 hi hz0 hz1 hz2 rfl (by omega) (fun _ => rfl) (by intro x u hu; simp [intVal] at hu; subst hu; rfl) _ ((0 + ([] : List Int).length) + 1) (([] ++ ([] : List Int).flatMap intVal) ++ [n].flatMap intVal) rfl HS4.out.1.2 _ ([] : List Int) rfl (.inl ⟨_, _, rfl, rfl⟩) (by unfold maxLen; simp <;> omega) (by simp <;> omega) HS4.out.1.1.size ?_
        intro v5 w5 ho hg hb
        have HS5 := Lib.hid (stO_app HS4.out ho hg hb)
        clear ho hg hb
        try simp only [Act.put, List.getElem_toArray, List.getElem_cons_zero, List.getElem_cons_succ, List.setIfInBounds_toArray, List.set_cons_zero, List.set_cons_succ]
        refine hK _ _ HS5.out.1.1 (fun hHeld => ?_)
        clear hK K
        refine wpAnyH_ready (rs := [12]) (by kernel_rfl) (by simp) ?_
        refine AllReadyH.cons (o := _) rfl (fun K hK => ?_) AllReadyH.nil
        clear hHeld
        go_simp
        refine hK _ _ HS5.out.1.1 (fun hHeld => ?_)
        clear hK K hHeld
        try simp only [Act.put, List.getElem_toArray, List.getElem_cons_zero, List.getElem_cons_succ, List.setIfInBounds_toArray, List.set_cons_zero, List.set_cons_succ]
        refine wpAnyH_done (by kernel_rfl) ?_ _
        go_wp2_with fail
        all_goals (go_ret; exact wn_end (xs := []) (k := 0) HS5.out)
    · clear hHeld
      go_simp
      refine hK _ _ ((Kp.refl w none).drew.alloc _) (fun hHeld => ?_)
      clear hK K
      try simp only [Act.put, List.getElem_toArray, List.getElem_cons_zero, List.getElem_cons_succ, List.setIfInBounds_toArray, List.set_cons_zero, List.set_cons_succ]
      have HS1 := Lib.hid (stN_new (Kp.refl w none).drew n)
      refine wpAnyH_ready (rs := [0]) (by kernel_rfl) (by simp) ?_
      refine AllReadyH.cons (o := _) rfl (fun K hK => ?_) AllReadyH.nil
      clear hHeld
      go_simp
      refine hK _ _ (HS1.out.1.alloc _) (fun hHeld => ?_)
      clear hK K
      try simp only [Act.put, List.getElem_toArray, List.getElem_cons_zero, List.getElem_cons_succ, List.setIfInBounds_toArray, List.set_cons_zero, List.set_cons_succ]
      have HS2 := Lib.hid (stO_new HS1.out (w.heap.size + 1) (by simp))
      refine wpAnyH_ready (rs := [4]) (by kernel_rfl) (by simp) ?_
      refine AllReadyH.cons (o := _) rfl (fun K hK => ?_) AllReadyH.nil
      clear hHeld
      refine step_app (f := intVal) rfl (.tmp 33) (.tmp 36) w.heap.size 57 3 rfl i0 _ 1 8 Try.underlying57 hi hz0 hz1 hz2 rfl (by omega) (fun _ => rfl) (by intro x u hu; simp [intVal] at hu; subst hu; rfl) _ 0 [] rfl HS2.out.1.2 _ ([] : List Int) rfl (.inl ⟨_, _, rfl, rfl⟩) (by unfold maxLen; simp <;> omega) (by simp <;> omega) HS2.out.1.1.size ?_
      intro v3 w3 ho hg hb
      have HS3 := Lib.hid (stO_app HS2.out ho hg hb)
      clear ho hg hb
      try simp only [Act.put, List.getElem_toArray, List.getElem_cons_zero, List.getElem_cons_succ, List.setIfInBounds_toArray, List.set_cons_zero, List.set_cons_succ]
      refine hK _ _ HS3.out.1.1 (fun hHeld => ?_)
      clear hK K
      refine wpAnyH_ready (rs := [7]) (by kernel_rfl) (by simp) ?_
      refine AllReadyH.cons (o := _) rfl (fun K hK => ?_) AllReadyH.nil
      clear hHeld
      refine step_app (f := intVal) rfl (.tmp 37) (.tmp 39) w.heap.size 57 3 rfl i0 _ 1 8 Try.underlying57 hi hz0 hz1 hz2 rfl (by omega) (fun _ => rfl) (by intro x u hu; simp [intVal] at hu; subst hu; rfl) _ (0 + ([] : List Int).length) ([] ++ ([] : List Int).flatMap intVal) rfl HS3.out.1.2 _ [n] rfl HS3.out.2.1.list (by unfold maxLen; simp <;> omega) (by simp <;> omega) HS3.out.1.1.size ?_
      intro v4 w4 ho hg hb
      have HS4 := Lib.hid (stO_app HS3.out ho hg hb)
      clear ho hg hb
      try simp only [Act.put, List.getElem_toArray, List.getElem_cons_zero, List.getElem_cons_succ, List.setIfInBounds_toArray, List.set_cons_zero, List.set_cons_succ]
      refine hK _ _ HS4.out.1.1 (fun hHeld => ?_)
      clear hK K
      refine wpAnyH_ready (rs := [11]) (by kernel_rfl) (by simp) ?_
      refine AllReadyH.cons (o := _) rfl (fun K hK => ?_) AllReadyH.nil
      clear hHeld
      refine step_app (f := intVal) rfl (.tmp 40) (.tmp 43) w.heap.size 57 3 rfl i0 _ 1 8 Try.underlying57 hi hz0 hz1 hz2 rfl (by omega) (fun _ => rfl) (by intro x u hu; simp [intVal] at hu; subst hu; rfl) _ ((0 + ([] : List Int).length) + 1) (([] ++ ([] : List Int).flatMap intVal) ++ [n].flatMap intVal) rfl HS4.out.1.2 _ ([] : List Int) rfl (.inl ⟨_, _, rfl, rfl⟩) (by unfold maxLen; simp <;> omega) (by simp <;> omega) HS4.out.1.1.size ?_
      intro v5 w5 ho hg hb
      have HS5 := Lib.hid (stO_app HS4.out ho hg hb)
      clear ho hg hb
      try simp only [Act.put, List.getElem_toArray, List.getElem_cons_zero, List.getElem_cons_succ, List.setIfInBounds_toArray, List.set_cons_zero, List.set_cons_succ]
      refine hK _ _ HS5.out.1.1 (fun hHeld => ?_)
      clear hK K
      refine wpAnyH_ready (rs := [12]) (by kernel_rfl) (by simp) ?_
      refine AllReadyH.cons (o := _) rfl (fun K hK => ?_) AllReadyH.nil
      clear hHeld
      go_simp
      refine hK _ _ HS5.out.1.1 (fun hHeld => ?_)
      clear hK K hHeld
      try simp only [Act.put, List.getElem_toArray, List.getElem_cons_zero, List.getElem_cons_succ, List.setIfInBounds_toArray, List.set_cons_zero, List.set_cons_succ]
      refine wpAnyH_done (by kernel_rfl) ?_ _
      go_wp2_with fail
      all_goals (go_ret; exact wn_end (xs := []) (k := 0) HS5.out)

set_option maxHeartbeats 8000000 in
set_option maxRecDepth 100000 in
theorem with_empty (a : Addr) (cap : Nat) (n : Int) (w : World) : Calls Try.prog 48 #[.slice (some a) 0 cap, .int .i64 n] w fun E w' => ∃ u, E = .returned u ∧ IsInts w' u [n] ∧ Kp w w' none := by
  obtain ⟨i0, hi, hz0, hz1, hz2⟩ := info_parts infoInt
  go_enter Try.func48, Try.ntmps48
  go_wp2_with fail
  go_loopw [5] (fun i wr => i = .int .i64 0 ∧ w = wr) (fun i _ => 0)
  case atStart => exact ⟨rfl, rfl⟩
  case round =>
    obtain ⟨rfl, rfl⟩ := hrel
    go_wp2_with fail
    refine wp_region_held_drew (S := fun w1 => Kp w w1 none) (by kernel_rfl) ?_ (fun hHeld => ?_)
    · exact (Kp.refl _ _).drew
    refine wpAnyH_take (i := 1) (oi := _) (v := ?_) rfl (by kernel_rfl) (by kernel_rfl) (by kernel_rfl) (fun _ _ _ h => h) (Or.inl ⟨by rfl, ?_⟩) (by assumption) ?_
    rotate_left
    · (intro w hSw; (try dsimp only at hSw); go_simp <;> with_reducible rfl)
    try simp only [Act.put, List.getElem_toArray, List.getElem_cons_zero, List.getElem_cons_succ, List.setIfInBounds_toArray, List.set_cons_zero, List.set_cons_succ]
    refine wpAnyH_take (i := 2) (oi := _) (v := ?_) rfl (by kernel_rfl) (by kernel_rfl) (by kernel_rfl) (fun _ _ _ h => h) (Or.inl ⟨by rfl, ?_⟩) (by assumption) ?_
    rotate_left
    · (intro w hSw; (try dsimp only at hSw); go_simp <;> with_reducible rfl)
    try simp only [Act.put, List.getElem_toArray, List.getElem_cons_zero, List.getElem_cons_succ, List.setIfInBounds_toArray, List.set_cons_zero, List.set_cons_succ]
    refine wpAnyH_take (i := 3) (oi := _) (v := ?_) rfl (by kernel_rfl) (by kernel_rfl) (by kernel_rfl) (fun _ _ _ h => h) (Or.inl ⟨by rfl, ?_⟩) (by assumption) ?_
    rotate_left
    · (intro w hSw; (try dsimp only at hSw); go_simp <;> with_reducible rfl)
    try simp only [Act.put, List.getElem_toArray, List.getElem_cons_zero, List.getElem_cons_succ, List.setIfInBounds_toArray, List.set_cons_zero, List.set_cons_succ]
    refine wpAnyH_take (i := 5) (oi := _) (v := ?_) rfl (by kernel_rfl) (by kernel_rfl) (by kernel_rfl) (fun _ _ _ h => h) (Or.inl ⟨by rfl, ?_⟩) (by assumption) ?_
    rotate_left
    · (intro w hSw; (try dsimp only at hSw); go_simp <;> with_reducible rfl)
    try simp only [Act.put, List.getElem_toArray, List.getElem_cons_zero, List.getElem_cons_succ, List.setIfInBounds_toArray, List.set_cons_zero, List.set_cons_succ]
    refine wpAnyH_take (i := 8) (oi := _) (v := ?_) rfl (by kernel_rfl) (by kernel_rfl) (by kernel_rfl) (fun _ _ _ h => h) (Or.inl ⟨by rfl, ?_⟩) (by assumption) ?_
    rotate_left
    · (intro w hSw; (try dsimp only at hSw); go_simp <;> with_reducible rfl)
    try simp only [Act.put, List.getElem_toArray, List.getElem_cons_zero, List.getElem_cons_succ, List.setIfInBounds_toArray, List.set_cons_zero, List.set_cons_succ]
    refine wpAnyH_take (i := 9) (oi := _) (v := ?_) rfl (by kernel_rfl) (by kernel_rfl) (by kernel_rfl) (fun _ _ _ h => h) (Or.inl ⟨by rfl, ?_⟩) (by assumption) ?_
    rotate_left
    · (intro w hSw; (try dsimp only at hSw); go_simp <;> with_reducible rfl)
    try simp only [Act.put, List.getElem_toArray, List.getElem_cons_zero, List.getElem_cons_succ, List.setIfInBounds_toArray, List.set_cons_zero, List.set_cons_succ]
    refine wpAnyH_take (i := 10) (oi := _) (v := ?_) rfl (by kernel_rfl) (by kernel_rfl) (by kernel_rfl) (fun _ _ _ h => h) (Or.inl ⟨by rfl, ?_⟩) (by assumption) ?_
    rotate_left
    · (intro w hSw; (try dsimp only at hSw); go_simp <;> with_reducible rfl)
    try simp only [Act.put, List.getElem_toArray, List.getElem_cons_zero, List.getElem_cons_succ, List.setIfInBounds_toArray, List.set_cons_zero, List.set_cons_succ]
    refine wpAnyH_ready (rs := [0, 6]) (by kernel_rfl) (by simp) ?_
    refine AllReadyH.cons (o := _) rfl (fun K hK => ?_) (AllReadyH.cons (o := _) rfl (fun K hK => ?_) AllReadyH.nil)
    · clear hHeld
      go_simp
      refine hK _ _ ((Kp.refl w none).drew.alloc _) (fun hHeld => ?_)
      clear hK K
      try simp only [Act.put, List.getElem_toArray, List.getElem_cons_zero, List.getElem_cons_succ, List.setIfInBounds_toArray, List.set_cons_zero, List.set_cons_succ]
      have HS1 := Lib.hid (stE_new (Kp.refl w none).drew)
      refine wpAnyH_ready (rs := [4, 6]) (by kernel_rfl) (by simp) ?_
      refine AllReadyH.cons (o := _) rfl (fun K hK => ?_) (AllReadyH.cons (o := _) rfl (fun K hK => ?_) AllReadyH.nil)
      · clear hHeld
        refine step_app (f := intVal) rfl (.tmp 33) (.tmp 36) w.heap.size 57 3 rfl i0 _ 1 8 Try.underlying57 hi hz0 hz1 hz2 rfl (by omega) (fun _ => rfl) (by intro x u hu; simp [intVal] at hu; subst hu; rfl) _ 0 [] rfl HS1.out.2 _ ([] : List Int) rfl (.inl ⟨_, _, rfl, rfl⟩) (by unfold maxLen; simp <;> omega) (by simp <;> omega) HS1.out.1.size ?_
        intro v2 w2 ho hg hb
        have HS2 := Lib.hid (stE_app HS1.out ho hg)
        clear ho hg hb
        try simp only [Act.put, List.getElem_toArray, List.getElem_cons_zero, List.getElem_cons_succ, List.setIfInBounds_toArray, List.set_cons_zero, List.set_cons_succ]
        refine hK _ _ HS2.out.1 (fun hHeld => ?_)
        clear hK K
        refine wpAnyH_ready (rs := [6]) (by kernel_rfl) (by simp) ?_
        refine AllReadyH.cons (o := _) rfl (fun K hK => ?_) AllReadyH.nil
        clear hHeld
        go_simp
        refine hK _ _ (HS2.out.1.alloc _) (fun hHeld => ?_)
        clear hK K
        try simp only [Act.put, List.getElem_toArray, List.getElem_cons_zero, List.getElem_cons_succ, List.setIfInBounds_toArray, List.set_cons_zero, List.set_cons_succ]
        have HS3 := Lib.hid (stO_one HS2.out n w2.heap.size (by simp))
        refine wpAnyH_ready (rs := [7]) (by kernel_rfl) (by simp) ?_
        refine AllReadyH.cons (o := _) rfl (fun K hK => ?_) AllReadyH.nil
        clear hHeld
        refine step_app (f := intVal) rfl (.tmp 37) (.tmp 39) w.heap.size 57 3 rfl i0 _ 1 8 Try.underlying57 hi hz0 hz1 hz2 rfl (by omega) (fun _ => rfl) (by intro x u hu; simp [intVal] at hu; subst hu; rfl) _ (0 + ([] : List Int).length) ([] ++ ([] : List Int).flatMap intVal) rfl HS3.out.1.2 _ [n] rfl HS3.out.2.1.list (by unfold maxLen; simp <;> omega) (by simp <;> omega) HS3.out.1.1.size ?_
        intro v4 w4 ho hg hb
        have HS4 := Lib.hid (stO_app HS3.out ho hg hb)
        clear ho hg hb
        try simp only [Act.put, List.getElem_toArray, List.getElem_cons_zero, List.getElem_cons_succ, List.setIfInBounds_toArray, List.set_cons_zero, List.set_cons_succ]
        refine hK _ _ HS4.out.1.1 (fun hHeld => ?_)
        clear hK K
        refine wpAnyH_ready (rs := [11]) (by kernel_rfl) (by simp) ?_
        refine AllReadyH.cons (o := _) rfl (fun K hK => ?_) AllReadyH.nil
        clear hHeld
        refine step_app (f := intVal) rfl (.tmp 40) (.tmp 43) w.heap.size 57 3 rfl i0 _ 1 8 Try.underlying57 hi hz0 hz1 hz2 rfl (by omega) (fun _ => rfl) (by intro x u hu; simp [intVal] at hu; subst hu; rfl) _ ((0 + ([] : List Int).length) + 1) (([] ++ ([] : List Int).flatMap intVal) ++ [n].flatMap intVal) rfl HS4.out.1.2 _ ([] : List Int) rfl (.inl ⟨_, _, rfl, rfl⟩) (by unfold maxLen; simp <;> omega) (by simp <;> omega) HS4.out.1.1.size ?_
        intro v5 w5 ho hg hb
        have HS5 := Lib.hid (stO_app HS4.out ho hg hb)
        clear ho hg hb
        try simp only [Act.put, List.getElem_toArray, List.getElem_cons_zero, List.getElem_cons_succ, List.setIfInBounds_toArray, List.set_cons_zero, List.set_cons_succ]
        refine hK _ _ HS5.out.1.1 (fun hHeld => ?_)
        clear hK K
        refine wpAnyH_ready (rs := [12]) (by kernel_rfl) (by simp) ?_
        refine AllReadyH.cons (o := _) rfl (fun K hK => ?_) AllReadyH.nil
        clear hHeld
        go_simp
        refine hK _ _ HS5.out.1.1 (fun hHeld => ?_)
        clear hK K hHeld
        try simp only [Act.put, List.getElem_toArray, List.getElem_cons_zero, List.getElem_cons_succ, List.setIfInBounds_toArray, List.set_cons_zero, List.set_cons_succ]
        refine wpAnyH_done (by kernel_rfl) ?_ _
        go_wp2_with fail
        all_goals (go_ret; exact wn_end (xs := []) (k := 0) HS5.out)
      · clear hHeld
        go_simp
        refine hK _ _ (HS1.out.1.alloc _) (fun hHeld => ?_)
        clear hK K
        try simp only [Act.put, List.getElem_toArray, List.getElem_cons_zero, List.getElem_cons_succ, List.setIfInBounds_toArray, List.set_cons_zero, List.set_cons_succ]
        have HS2 := Lib.hid (stO_one HS1.out n (w.heap.size + 1) (by simp))
        refine wpAnyH_ready (rs := [4]) (by kernel_rfl) (by simp) ?_
        refine AllReadyH.cons (o := _) rfl (fun K hK => ?_) AllReadyH.nil
        clear hHeld
        refine step_app (f := intVal) rfl (.tmp 33) (.tmp 36) w.heap.size 57 3 rfl i0 _ 1 8 Try.underlying57 hi hz0 hz1 hz2 rfl (by omega) (fun _ => rfl) (by intro x u hu; simp [intVal] at hu; subst hu; rfl) _ 0 [] rfl HS2.out.1.2 _ ([] : List Int) rfl (.inl ⟨_, _, rfl, rfl⟩) (by unfold maxLen; simp <;> omega) (by simp <;> omega) HS2.out.1.1.size ?_
        intro v3 w3 ho hg hb
        have HS3 := Lib.hid (stO_app HS2.out ho hg hb)
        clear ho hg hb
        try simp only [Act.put, List.getElem_toArray, List.getElem_cons_zero, List.getElem_cons_succ, List.setIfInBounds_toArray, List.set_cons_zero, List.set_cons_succ]
        refine hK _ _ HS3.out.1.1 (fun hHeld => ?_)
        clear hK K
        refine wpAnyH_ready (rs := [7]) (by kernel_rfl) (by simp) ?_
        refine AllReadyH.cons (o := _) rfl (fun K hK => ?_) AllReadyH.nil
        clear hHeld
        refine step_app (f := intVal) rfl (.tmp 37) (.tmp 39) w.heap.size 57 3 rfl i0 _ 1 8 Try.underlying57 hi hz0 hz1 hz2 rfl (by omega) (fun _ => rfl) (by intro x u hu; simp [intVal] at hu; subst hu; rfl) _ (0 + ([] : List Int).length) ([] ++ ([] : List Int).flatMap intVal) rfl HS3.out.1.2 _ [n] rfl HS3.out.2.1.list (by unfold maxLen; simp <;> omega) (by simp <;> omega) HS3.out.1.1.size ?_
        intro v4 w4 ho hg hb
        have HS4 := Lib.hid (stO_app HS3.out ho hg hb)
        clear ho hg hb
        try simp only [Act.put, List.getElem_toArray, List.getElem_cons_zero, List.getElem_cons_succ, List.setIfInBounds_toArray, List.set_cons_zero, List.set_cons_succ]
        refine hK _ _ HS4.out.1.1 (fun hHeld => ?_)
        clear hK K
        refine wpAnyH_ready (rs := [11]) (by kernel_rfl) (by simp) ?_
        refine AllReadyH.cons (o := _) rfl (fun K hK => ?_) AllReadyH.nil
        clear hHeld
        refine step_app (f := intVal) rfl (.tmp 40) (.tmp 43) w.heap.size 57 3 rfl i0 _ 1 8 Try.underlying57 hi hz0 hz1 hz2 rfl (by omega) (fun _ => rfl) (by intro x u hu; simp [intVal] at hu; subst hu; rfl) _ ((0 + ([] : List Int).length) + 1) (([] ++ ([] : List Int).flatMap intVal) ++ [n].flatMap intVal) rfl HS4.out.1.2 _ ([] : List Int) rfl (.inl ⟨_, _, rfl, rfl⟩) (by unfold maxLen; simp <;> omega) (by simp <;> omega) HS4.out.1.1.size ?_
        intro v5 w5 ho hg hb
        have HS5 := Lib.hid (stO_app HS4.out ho hg hb)
        clear ho hg hb
        try simp only [Act.put, List.getElem_toArray, List.getElem_cons_zero, List.getElem_cons_succ, List.setIfInBounds_toArray, List.set_cons_zero, List.set_cons_succ]
        refine hK _ _ HS5.out.1.1 (fun hHeld => ?_)
        clear hK K
        refine wpAnyH_ready (rs := [12]) (by kernel_rfl) (by simp) ?_
        refine AllReadyH.cons (o := _) rfl (fun K hK => ?_) AllReadyH.nil
        clear hHeld
        go_simp
        refine hK _ _ HS5.out.1.1 (fun hHeld => ?_)
        clear hK K hHeld
        try simp only [Act.put, List.getElem_toArray, List.getElem_cons_zero, List.getElem_cons_succ, List.setIfInBounds_toArray, List.set_cons_zero, List.set_cons_succ]
        refine wpAnyH_done (by kernel_rfl) ?_ _
        go_wp2_with fail
        all_goals (go_ret; exact wn_end (xs := []) (k := 0) HS5.out)
    · clear hHeld
      go_simp
      refine hK _ _ ((Kp.refl w none).drew.alloc _) (fun hHeld => ?_)
      clear hK K
      try simp only [Act.put, List.getElem_toArray, List.getElem_cons_zero, List.getElem_cons_succ, List.setIfInBounds_toArray, List.set_cons_zero, List.set_cons_succ]
      have HS1 := Lib.hid (stN_new (Kp.refl w none).drew n)
      refine wpAnyH_ready (rs := [0]) (by kernel_rfl) (by simp) ?_
      refine AllReadyH.cons (o := _) rfl (fun K hK => ?_) AllReadyH.nil
      clear hHeld
      go_simp
      refine hK _ _ (HS1.out.1.alloc _) (fun hHeld => ?_)
      clear hK K
      try simp only [Act.put, List.getElem_toArray, List.getElem_cons_zero, List.getElem_cons_succ, List.setIfInBounds_toArray, List.set_cons_zero, List.set_cons_succ]
      have HS2 := Lib.hid (stO_new HS1.out (w.heap.size + 1) (by simp))
      refine wpAnyH_ready (rs := [4]) (by kernel_rfl) (by simp) ?_
      refine AllReadyH.cons (o := _) rfl (fun K hK => ?_) AllReadyH.nil
      clear hHeld
      refine step_app (f := intVal) rfl (.tmp 33) (.tmp 36) w.heap.size 57 3 rfl i0 _ 1 8 Try.underlying57 hi hz0 hz1 hz2 rfl (by omega) (fun _ => rfl) (by intro x u hu; simp [intVal] at hu; subst hu; rfl) _ 0 [] rfl HS2.out.1.2 _ ([] : List Int) rfl (.inl ⟨_, _, rfl, rfl⟩) (by unfold maxLen; simp <;> omega) (by simp <;> omega) HS2.out.1.1.size ?_
      intro v3 w3 ho hg hb
      have HS3 := Lib.hid (stO_app HS2.out ho hg hb)
      clear ho hg hb
      try simp only [Act.put, List.getElem_toArray, List.getElem_cons_zero, List.getElem_cons_succ, List.setIfInBounds_toArray, List.set_cons_zero, List.set_cons_succ]
      refine hK _ _ HS3.out.1.1 (fun hHeld => ?_)
      clear hK K
      refine wpAnyH_ready (rs := [7]) (by kernel_rfl) (by simp) ?_
      refine AllReadyH.cons (o := _) rfl (fun K hK => ?_) AllReadyH.nil
      clear hHeld
      refine step_app (f := intVal) rfl (.tmp 37) (.tmp 39) w.heap.size 57 3 rfl i0 _ 1 8 Try.underlying57 hi hz0 hz1 hz2 rfl (by omega) (fun _ => rfl) (by intro x u hu; simp [intVal] at hu; subst hu; rfl) _ (0 + ([] : List Int).length) ([] ++ ([] : List Int).flatMap intVal) rfl HS3.out.1.2 _ [n] rfl HS3.out.2.1.list (by unfold maxLen; simp <;> omega) (by simp <;> omega) HS3.out.1.1.size ?_
      intro v4 w4 ho hg hb
      have HS4 := Lib.hid (stO_app HS3.out ho hg hb)
      clear ho hg hb
      try simp only [Act.put, List.getElem_toArray, List.getElem_cons_zero, List.getElem_cons_succ, List.setIfInBounds_toArray, List.set_cons_zero, List.set_cons_succ]
      refine hK _ _ HS4.out.1.1 (fun hHeld => ?_)
      clear hK K
      refine wpAnyH_ready (rs := [11]) (by kernel_rfl) (by simp) ?_
      refine AllReadyH.cons (o := _) rfl (fun K hK => ?_) AllReadyH.nil
      clear hHeld
      refine step_app (f := intVal) rfl (.tmp 40) (.tmp 43) w.heap.size 57 3 rfl i0 _ 1 8 Try.underlying57 hi hz0 hz1 hz2 rfl (by omega) (fun _ => rfl) (by intro x u hu; simp [intVal] at hu; subst hu; rfl) _ ((0 + ([] : List Int).length) + 1) (([] ++ ([] : List Int).flatMap intVal) ++ [n].flatMap intVal) rfl HS4.out.1.2 _ ([] : List Int) rfl (.inl ⟨_, _, rfl, rfl⟩) (by unfold maxLen; simp <;> omega) (by simp <;> omega) HS4.out.1.1.size ?_
      intro v5 w5 ho hg hb
      have HS5 := Lib.hid (stO_app HS4.out ho hg hb)
      clear ho hg hb
      try simp only [Act.put, List.getElem_toArray, List.getElem_cons_zero, List.getElem_cons_succ, List.setIfInBounds_toArray, List.set_cons_zero, List.set_cons_succ]
      refine hK _ _ HS5.out.1.1 (fun hHeld => ?_)
      clear hK K
      refine wpAnyH_ready (rs := [12]) (by kernel_rfl) (by simp) ?_
      refine AllReadyH.cons (o := _) rfl (fun K hK => ?_) AllReadyH.nil
      clear hHeld
      go_simp
      refine hK _ _ HS5.out.1.1 (fun hHeld => ?_)
      clear hK K hHeld
      try simp only [Act.put, List.getElem_toArray, List.getElem_cons_zero, List.getElem_cons_succ, List.setIfInBounds_toArray, List.set_cons_zero, List.set_cons_succ]
      refine wpAnyH_done (by kernel_rfl) ?_ _
      go_wp2_with fail
      all_goals (go_ret; exact wn_end (xs := []) (k := 0) HS5.out)

theorem mem_take_lt {xs : List Int} (n : Int) : ∃ k, k ≤ xs.length ∧ (∀ x ∈ xs.take k, x < n) ∧ ∀ h : k < xs.length, ¬ xs[k] < n := by
  induction xs with
  | nil => exact ⟨0, Nat.le_refl _, by simp, by simp⟩
  | cons x xs ih =>
    by_cases hx : x < n
    · obtain ⟨k, h1, h2, h3⟩ := ih
      refine ⟨k + 1, by simp; omega, ?_, ?_⟩
      · intro y hy
        rw [List.take_succ_cons] at hy
        rcases List.mem_cons.1 hy with rfl | hy
        · exact hx
        · exact h2 y hy
      · intro h; exact h3 (by simpa using h)
    · exact ⟨0, Nat.zero_le _, by simp, fun _ => hx⟩

/-- The sorted list with a further number, whatever the slice is. -/
theorem with_any (v : Value) (xs : List Int) (n : Int) (w : World) (h : IsInts w v xs) (hl : xs.length ≤ 65536) :
    Calls Try.prog 48 #[v, .int .i64 n] w fun E w' => ∃ u, E = .returned u ∧ IsInts w' u (Rc.with_ xs n) ∧ Kp w w' none := by
  rcases h with ⟨ao, cap, rfl, rfl⟩ | ⟨b, off, cap, rfl, hc, hb, hr⟩
  · cases ao with
    | none => exact with_nil cap n w
    | some a => exact with_empty a cap n w
  · have hr1 : ∀ k, (h : k < xs.length) → w.cell? ⟨b, off + k, none⟩ = some (.int .i64 xs[k]) := fun k h => by
      have := hr k h 0 (by simp [intVal])
      simpa [intVal] using this
    obtain ⟨k, h1, h2, h3⟩ := mem_take_lt (xs := xs) n
    by_cases he : ∃ h : k < xs.length, xs[k] = n
    · obtain ⟨h4, h5⟩ := he
      refine (with_old b off cap xs n w hc hl ⟨k, h4, h5, h2⟩ hr1).mono ?_
      rintro E w' ⟨rfl, rfl⟩
      rw [Rc.with_there h2 h4 h5]
      exact ⟨_, rfl, .inr ⟨b, off, cap, rfl, hc, hb, hr⟩, Kp.refl _ _⟩
    · have h4 : ∀ h : k < xs.length, n < xs[k] := fun h => by
        have h5 := h3 h
        have h6 : xs[k] ≠ n := fun e => he ⟨h, e⟩
        omega
      rw [Rc.with_new h2 h4]
      exact with_fresh b off cap xs n w hb hc hl k h1 h2 h4 hr1


end Go.Proofs.Ytpakiabnhdoijaa
