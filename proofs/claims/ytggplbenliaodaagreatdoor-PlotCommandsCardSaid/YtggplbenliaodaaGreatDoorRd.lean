/- The reference's radii in order. Condition: at most 10^5 drawings. -/
import Derived.Test.YtggplbenliaodaaGreatDoorMp
namespace Go.Proofs.YtggplbenliaodaaGreatDoor
open Go.RowKit

theorem infoInt : (Tryz.prog.info? 3).map (fun i => (i.zero, i.size, i.bytes)) = some (some (.int .i64 0), 1, 8) := by kernel_rfl
theorem isList_take {α : Type} {m : Nat} {f : α → List Value} {w : World} {b off cap k : Nat} {xs : List α} (hc : xs.length ≤ cap) (hk : k ≤ xs.length) (hb : b < w.heap.size)
    (hr : ∀ k, (h : k < xs.length) → ∀ j, (h2 : j < (f xs[k]).length) → w.cell? ⟨b, off + k * m + j, none⟩ = some (f xs[k])[j]) : IsList m f w (.slice (some ⟨b, off, none⟩) k cap) (xs.take k) := by
  have hl : (xs.take k).length = k := by rw [List.length_take]; omega
  refine .inr ⟨b, off, cap, by rw [hl], by omega, hb, fun i hi j hj => ?_⟩
  have hi2 : i < xs.length := by omega
  have e : (xs.take k)[i] = xs[i] := List.getElem_take
  simp only [e] at hj ⊢
  exact hr i hi2 j hj
theorem isInts_drop {w : World} {b off cap k : Nat} {xs : List Int} (hc : xs.length ≤ cap) (hk : k ≤ xs.length) (hb : b < w.heap.size)
    (hr : ∀ k, (h : k < xs.length) → w.cell? ⟨b, off + k, none⟩ = some (.int .i64 xs[k])) : IsInts w (.slice (if cap = k then some ⟨b, off, none⟩ else some ⟨b, off + k, none⟩) (xs.length - k) (cap - k)) (xs.drop k) := by
  by_cases hck : cap = k
  · rw [if_pos hck]
    have e : xs.length - k = 0 := by omega
    rw [e]
    exact .inl ⟨_, _, rfl, List.drop_of_length_le (by omega)⟩
  · rw [if_neg hck]
    refine .inr ⟨b, off + k, cap - k, by rw [List.length_drop], by rw [List.length_drop]; omega, hb, fun i hi j hj => ?_⟩
    have hj0 : j = 0 := by simp [intVal] at hj; exact hj
    subst hj0
    have hi2 : k + i < xs.length := by rw [List.length_drop] at hi; omega
    have e : (xs.drop k)[i] = xs[k + i] := List.getElem_drop
    have h := hr (k + i) hi2
    simp only [e]
    rw [show off + k + i * 1 + 0 = off + (k + i) by omega, h]
    rfl
theorem owns_empty (w : World) (base : Nat) (h : base ≤ w.heap.size) : (w.alloc (Obj.cells #[] 3)).ownsRow base 3 1 (.slice (some ⟨w.heap.size, 0, none⟩) 0 0) 0 [] :=
  ⟨rfl, .inr ⟨w.heap.size, 0, #[], rfl, h, heap_alloc_new w _, Nat.le_refl _, by unfold maxLen; omega, rfl, rfl⟩⟩
/-- A one-element slice of the call's own. -/
def One (w : World) (b : Nat) (n : Int) : Prop := b < w.heap.size ∧ w.cell? ⟨b, 0, none⟩ = some (.int .i64 n)
theorem one_new (w : World) (n : Int) : One (w.alloc (Obj.cells #[.int .i64 n] 3)) w.heap.size n := by
  refine ⟨by simp, ?_⟩
  have h : (w.alloc (Obj.cells #[.int .i64 n] 3)).heap[w.heap.size]? = some (Obj.cells #[.int .i64 n] 3) := heap_alloc_new w _
  simp only [World.cell?, h]
  rfl
theorem One.keep {w w' : World} {b : Nat} {n : Int} {row : Option Nat} (h : One w b n) (k : Kp w w' row) (hr : row ≠ some b) : One w' b n :=
  ⟨Nat.lt_of_lt_of_le h.1 k.size, by rw [World.grownBy.cell_far k ⟨b, 0, none⟩ h.1 (fun e => hr e.symm)]; exact h.2⟩
theorem One.list {w : World} {b : Nat} {n : Int} (h : One w b n) : IsInts w (.slice (some ⟨b, 0, none⟩) 1 1) [n] := by
  refine .inr ⟨b, 0, 1, rfl, by simp, h.1, fun k hk j hj => ?_⟩
  simp at hk; subst hk
  simp [intVal] at hj; subst hj
  simpa [intVal] using h.2

/-- What the region has made: nothing of another's is turned; what is owned; the slice of one. -/
def StE (w W : World) (v : Value) (m : Nat) (row : List Value) : Prop := Kp w W none ∧ W.ownsRow w.heap.size 3 1 v m row
def StN (w W : World) (b : Nat) (n : Int) : Prop := Kp w W none ∧ One W b n
def StO (w W : World) (v : Value) (m : Nat) (row : List Value) (b : Nat) (n : Int) : Prop := StE w W v m row ∧ One W b n ∧ v.ownBlock ≠ some b

theorem kept_mk {w : World} {v : Value} {m : Nat} {row : List Value} {base : Nat} (h : w.ownsRow base 3 1 v m row) (o : Obj) : (w.alloc o).ownsRow base 3 1 v m row :=
  h.kept ((Kp.refl w none).alloc o) (by cases v.ownBlock <;> simp)
theorem stE_new {w W : World} (h : Kp w W none) : StE w (W.alloc (Obj.cells #[] 3)) (.slice (some ⟨W.heap.size, 0, none⟩) 0 0) 0 [] :=
  ⟨h.alloc _, owns_empty W w.heap.size h.size⟩
theorem stN_new {w W : World} (h : Kp w W none) (n : Int) : StN w (W.alloc (Obj.cells #[.int .i64 n] 3)) W.heap.size n :=
  ⟨h.alloc _, one_new W n⟩
theorem stO_one {w W : World} {v : Value} {m : Nat} {row : List Value} (h : StE w W v m row) (n : Int) (b : Nat) (hb : b = W.heap.size) : StO w (W.alloc (Obj.cells #[.int .i64 n] 3)) v m row b n := by
  subst hb
  exact ⟨⟨h.1.alloc _, kept_mk h.2 _⟩, one_new W n, fun e => by have := (h.2.lt _ e).2; omega⟩
theorem stO_new {w W : World} {b : Nat} {n : Int} (h : StN w W b n) (g : Nat) (hg : g = W.heap.size) : StO w (W.alloc (Obj.cells #[] 3)) (.slice (some ⟨g, 0, none⟩) 0 0) 0 [] b n := by
  subst hg
  exact ⟨stE_new h.1, h.2.keep (row := none) ((Kp.refl _ _).alloc _) (by simp), fun e => by
      have h1 : some W.heap.size = some b := e
      injection h1 with h1
      have := h.2.1
      omega⟩
theorem stE_app {w W w1 : World} {v v1 : Value} {m m1 : Nat} {row row1 : List Value} (h : StE w W v m row) (ho : w1.ownsRow w.heap.size 3 1 v1 m1 row1) (hg : W.grownBy w1 v.ownBlock) : StE w w1 v1 m1 row1 :=
  ⟨Kp.row h.1 hg (fun k hk => (h.2.lt k hk).1), ho⟩
theorem stO_app {w W w1 : World} {v v1 : Value} {m m1 b : Nat} {n : Int} {row row1 : List Value} (h : StO w W v m row b n) (ho : w1.ownsRow w.heap.size 3 1 v1 m1 row1) (hg : W.grownBy w1 v.ownBlock) (hb : v1.ownBlock = v.ownBlock ∨ v1.ownBlock = some W.heap.size) : StO w w1 v1 m1 row1 b n :=
  ⟨stE_app h.1 ho hg, h.2.1.keep hg h.2.2, fun e => by
    rcases hb with hb | hb
    · exact h.2.2 (by rw [← hb]; exact e)
    · rw [hb] at e; injection e with e; have := h.2.1.1; omega⟩

theorem keep1 {w W : World} {b off : Nat} {xs : List Int} (hr : ∀ k, (h : k < xs.length) → w.cell? ⟨b, off + k, none⟩ = some (.int .i64 xs[k])) (hk : Kp w W none) (hb : b < w.heap.size) :
    ∀ k, (h : k < xs.length) → ∀ j, (h2 : j < (intVal xs[k]).length) → W.cell? ⟨b, off + k * 1 + j, none⟩ = some (intVal xs[k])[j] := by
  intro i hi j hj
  have hj0 : j = 0 := by simp [intVal] at hj; exact hj
  subst hj0
  rw [show off + i * 1 + 0 = off + i by omega, hk.below.cell (p := ⟨b, off + i, none⟩) hb, hr i hi]
  rfl
theorem keep0 {w W : World} {b off : Nat} {xs : List Int} (hr : ∀ k, (h : k < xs.length) → w.cell? ⟨b, off + k, none⟩ = some (.int .i64 xs[k])) (hk : Kp w W none) (hb : b < w.heap.size) :
    ∀ k, (h : k < xs.length) → W.cell? ⟨b, off + k, none⟩ = some (.int .i64 xs[k]) := by
  intro i hi
  rw [hk.below.cell (p := ⟨b, off + i, none⟩) hb, hr i hi]

theorem ins_new {r : Int} : ∀ {l : List Int} {k : Nat}, k ≤ l.length → (∀ x ∈ l.take k, x < r) → (∀ h : k < l.length, r < l[k]) → Pl.ins r l = l.take k ++ r :: l.drop k
  | [], 0, _, _, _ => rfl
  | [], k + 1, h, _, _ => by simp at h
  | x :: l, 0, _, _, h => by
    have := h (by simp)
    simp only [List.getElem_cons_zero] at this
    unfold Pl.ins
    rw [if_neg (by omega), if_neg (by omega)]; rfl
  | x :: l, k + 1, h0, h1, h2 => by
    have hx := h1 x (by simp)
    unfold Pl.ins
    rw [if_pos hx, ins_new (l := l) (k := k) (by simpa using h0) (fun y hy => h1 y (by simp [hy])) (fun h => by have := h2 (by simpa using h); simpa using this)]
    rfl
theorem ins_old {r : Int} : ∀ {l : List Int} {k : Nat} (h : k < l.length), (∀ x ∈ l.take k, x < r) → l[k] = r → Pl.ins r l = l
  | [], _, h, _, _ => by simp at h
  | x :: l, 0, _, _, h => by
    simp only [List.getElem_cons_zero] at h
    unfold Pl.ins
    rw [if_neg (by omega), if_pos h]
  | x :: l, k + 1, h0, h1, h2 => by
    have hx := h1 x (by simp)
    unfold Pl.ins
    rw [if_pos hx, ins_old (l := l) (k := k) (by simpa using h0) (fun y hy => h1 y (by simp [hy])) (by simpa using h2)]

/-- A list of numbers: nil, or full. -/
def Row (w : World) (v : Value) (xs : List Int) : Prop := (v = .slice none 0 0 ∧ xs = []) ∨ ∃ b off cap, v = .slice (some ⟨b, off, none⟩) xs.length cap ∧ xs.length ≤ cap ∧ b < w.heap.size ∧ ∀ k, (h : k < xs.length) → w.cell? ⟨b, off + k, none⟩ = some (.int .i64 xs[k])
theorem Row.keep {w w' : World} {v : Value} {xs : List Int} (h : Row w v xs) (k : Kp w w' none) : Row w' v xs := by
  rcases h with h | ⟨b, off, cap, e, hc, hb, hr⟩
  · exact .inl h
  · exact .inr ⟨b, off, cap, e, hc, Nat.lt_of_lt_of_le hb k.size, keep0 hr k hb⟩
theorem Row.form {w : World} {v : Value} {xs : List Int} (h : Row w v xs) : ∃ ao cap, v = .slice ao xs.length cap ∧ xs.length ≤ cap ∧ LiesAt 1 intVal w ao cap xs := by
  rcases h with ⟨rfl, rfl⟩ | ⟨b, off, cap, rfl, hc, hb, hr⟩
  · exact ⟨none, 0, rfl, Nat.le_refl _, fun k h => by simp at h⟩
  · exact ⟨_, cap, rfl, hc, fun k hk => ⟨b, off, rfl, hb, hc, fun j hj => keep1 hr (Kp.refl w none) hb k hk j hj⟩⟩
def RRel (ds : List Pl.Dr) (W : World) (v i : Value) (wr : World) : Prop := ∃ k : Nat, k ≤ ds.length ∧ i = .int .i64 k ∧ Row wr v (Pl.radii (ds.take k)) ∧ Kp W wr none
theorem row_end {w W : World} {v : Value} {b k : Nat} {n : Int} {xs : List Int} (h : StO w W v (0 + (xs.take k).length + 1 + (xs.drop k).length) ([] ++ (xs.take k).flatMap intVal ++ [n].flatMap intVal ++ (xs.drop k).flatMap intVal) b n) : Row W v (xs.take k ++ n :: xs.drop k) := by
  have e1 : (xs.take k ++ n :: xs.drop k).length = 0 + (xs.take k).length + 1 + (xs.drop k).length := by rw [List.length_append, List.length_cons]; omega
  have e2 : (xs.take k ++ n :: xs.drop k).flatMap intVal = [] ++ (xs.take k).flatMap intVal ++ [n].flatMap intVal ++ (xs.drop k).flatMap intVal := by simp
  have ho := h.1.2
  rw [← e1, ← e2] at ho
  rcases ho.2 with ⟨_, h0⟩ | ⟨g, cap, cur, rfl, _, hg, hc, _⟩
  · rw [e1] at h0; omega
  · refine .inr ⟨g, 0, cap, rfl, hc, lt_of_block hg, fun i hi => ?_⟩
    have := ho.cells rfl i _ (by have := flat_get 1 intVal (fun _ => rfl) (xs.take k ++ n :: xs.drop k) i 0 hi (by simp [intVal]); simpa [intVal] using this)
    rw [show ((⟨g, 0, none⟩ : Addr).add i) = ⟨g, i, none⟩ by unfold Addr.add; split <;> simp_all] at this
    simpa using this

set_option maxHeartbeats 8000000 in
set_option maxRecDepth 100000 in
theorem radii_any (ds : List Pl.Dr) (n : Nat) (hn : ds.length = n) (ao : Option Addr) (cap0 : Nat) (w : World) (hds : LiesDr w ao cap0 ds) (hl : n ≤ 100000) :
    Calls Tryz.prog 32 #[.slice ao n cap0] w fun E w' => ∃ u, E = .returned u ∧ Row w' u (Pl.radii ds) ∧ Kp w w' none := by
  have FD := Lib.hid hds
  have HN := Lib.hid hn
  clear hds hn
  have hn0 : (0 : Int) ≤ (n : Int) := Int.natCast_nonneg _
  obtain ⟨i0, hi, hz0, hz1, hz2⟩ := info_parts infoInt
  go_enter Tryz.func32, Tryz.ntmps32
  go_wp2_with fail
  go_loopw [3, 4] (fun v i wr => RRel ds w v i wr) (fun _ i _ => n - (intOf i).toNat)
  case atStart => exact ⟨0, Nat.zero_le _, rfl, .inl ⟨rfl, rfl⟩, Kp.refl _ _⟩
  case round =>
    obtain ⟨k, hk, rfl, hrow, hkp⟩ := hrel
    have HK := Lib.hid hkp
    have HROW := Lib.hid hrow
    clear hkp hrow
    have hk0 : (0 : Int) ≤ (k : Int) := Int.natCast_nonneg _
    by_cases hlt : k < n
    · have hk1 : (k : Int) < (n : Int) := by omega
      have hlt2 : k < ds.length := by rw [HN.out]; exact hlt
      obtain ⟨bo, off, ea, ec, rfl, hcap, hbo, c0, _, c2, _, _⟩ := FD.out k hlt2
      have hcap2 : n ≤ cap0 := by have := HN.out; omega
      have HSTEP := Lib.hid (Pl.radii_step ds k hlt2)
      obtain ⟨d, hd⟩ : ∃ d, ds[k] = d := ⟨_, rfl⟩
      rw [hd] at c0 c2 HSTEP
      have e0 : wr.cell? ⟨bo, off + k * 4, none⟩ = _ := (HK.out.below.cell (p := ⟨bo, off + k * 4, none⟩) hbo).trans c0
      have e2 : wr.cell? ⟨bo, off + k * 4 + 2, none⟩ = _ := (HK.out.below.cell (p := ⟨bo, off + k * 4 + 2, none⟩) hbo).trans c2
      have HLEN : Hid ((Pl.radii (ds.take k)).length ≤ 100000) := Lib.hid (by have := Pl.radii_length (ds.take k); rw [List.length_take] at this; omega)
      obtain ⟨xs, hxs⟩ : ∃ xs, Pl.radii (ds.take k) = xs := ⟨_, rfl⟩
      have HMK : Hid (∀ (v : Value) (wq : World), Row wq v (Pl.addR xs d) → Kp w wq none → RRel ds w v (.int .i64 (k + 1)) wq) := Lib.hid fun v wq h1 k1 =>
        ⟨k + 1, hlt2, by go_num, by rw [HSTEP.out, hxs]; exact h1, k1⟩
      rw [hxs] at HROW HLEN
      clear c0 c2 hd hxs HSTEP hcap
      obtain ⟨⟨dk, es, r⟩, dc⟩ := d
      dsimp only at e0 e2
      by_cases hk1' : dk = 1
      · subst hk1'
        rcases HROW.out with ⟨rfl, rfl⟩ | ⟨b, of2, cap, rfl, hc, hb0, hr⟩
        · have HEND : Hid (∀ v W b', StO wr W v (0 + ([] : List Int).length + 1 + ([] : List Int).length) ([] ++ ([] : List Int).flatMap intVal ++ [r].flatMap intVal ++ ([] : List Int).flatMap intVal) b' r → RRel ds w v (.int .i64 (k + 1)) W) := Lib.hid fun v W b' h =>
            HMK.out v W (row_end (xs := []) (k := 0) h) (HK.out.trans h.1.1)
          clear HMK HROW
          go_wp2_with fail
          go_loopw [6] (fun i wq => i = .int .i64 0 ∧ wr = wq) (fun i _ => 0)
          case atStart => exact ⟨rfl, rfl⟩
          case round =>
            obtain ⟨rfl, rfl⟩ := hrel
            go_wp2_with fail
            refine wp_region_held_drew (S := fun w1 => Kp wr w1 none) (by kernel_rfl) ?_ (fun hHeld => ?_)
            · exact (Kp.refl _ _).drew
            refine tkH 1 rfl ?_
            try simp only [Act.put, sm]
            refine tkH 2 rfl ?_
            try simp only [Act.put, sm]
            refine tkH 3 rfl ?_
            try simp only [Act.put, sm]
            refine tkH 5 rfl ?_
            try simp only [Act.put, sm]
            refine tkH 8 rfl ?_
            try simp only [Act.put, sm]
            refine tkH 9 rfl ?_
            try simp only [Act.put, sm]
            refine tkH 10 rfl ?_
            try simp only [Act.put, sm]
            refine wpAnyH_ready (rs := [0, 6]) (by kernel_rfl) (by simp) ?_
            refine AllReadyH.cons (o := _) rfl (fun K hK => ?_) (AllReadyH.cons (o := _) rfl (fun K hK => ?_) AllReadyH.nil)
            · clear hHeld
              go_simp
              refine hK _ _ ((Kp.refl wr none).drew.alloc _) (fun hHeld => ?_)
              clear hK K
              try simp only [Act.put, sm]
              have HS1 := Lib.hid (stE_new (Kp.refl wr none).drew)
              refine wpAnyH_ready (rs := [4, 6]) (by kernel_rfl) (by simp) ?_
              refine AllReadyH.cons (o := _) rfl (fun K hK => ?_) (AllReadyH.cons (o := _) rfl (fun K hK => ?_) AllReadyH.nil)
              · clear hHeld
                refine step_app (f := intVal) rfl (.tmp 52) (.tmp 55) wr.heap.size 56 3 rfl i0 _ 1 8 (by kernel_rfl) hi hz0 hz1 hz2 rfl (by omega) (fun _ => rfl) (by intro x u hu; simp [intVal] at hu; subst hu; rfl) _ 0 [] rfl HS1.out.2 _ ([] : List Int) rfl (.inl ⟨_, _, rfl, rfl⟩) (by unfold maxLen; simp <;> omega) (by simp <;> omega) HS1.out.1.size ?_
                intro v2 w2 ho hg hb
                have HS2 := Lib.hid (stE_app HS1.out ho hg)
                clear ho hg hb
                try simp only [Act.put, sm]
                refine hK _ _ HS2.out.1 (fun hHeld => ?_)
                clear hK K
                refine wpAnyH_ready (rs := [6]) (by kernel_rfl) (by simp) ?_
                refine AllReadyH.cons (o := _) rfl (fun K hK => ?_) AllReadyH.nil
                clear hHeld
                go_simp
                refine hK _ _ (HS2.out.1.alloc _) (fun hHeld => ?_)
                clear hK K
                try simp only [Act.put, sm]
                have HS3 := Lib.hid (stO_one HS2.out r w2.heap.size (by simp))
                refine wpAnyH_ready (rs := [7]) (by kernel_rfl) (by simp) ?_
                refine AllReadyH.cons (o := _) rfl (fun K hK => ?_) AllReadyH.nil
                clear hHeld
                refine step_app (f := intVal) rfl (.tmp 56) (.tmp 58) wr.heap.size 56 3 rfl i0 _ 1 8 (by kernel_rfl) hi hz0 hz1 hz2 rfl (by omega) (fun _ => rfl) (by intro x u hu; simp [intVal] at hu; subst hu; rfl) _ (0 + ([] : List Int).length) ([] ++ ([] : List Int).flatMap intVal) rfl HS3.out.1.2 _ [r] rfl HS3.out.2.1.list (by unfold maxLen; simp <;> omega) (by simp <;> omega) HS3.out.1.1.size ?_
                intro v4 w4 ho hg hb
                have HS4 := Lib.hid (stO_app HS3.out ho hg hb)
                clear ho hg hb
                try simp only [Act.put, sm]
                refine hK _ _ HS4.out.1.1 (fun hHeld => ?_)
                clear hK K
                refine wpAnyH_ready (rs := [11]) (by kernel_rfl) (by simp) ?_
                refine AllReadyH.cons (o := _) rfl (fun K hK => ?_) AllReadyH.nil
                clear hHeld
                refine step_app (f := intVal) rfl (.tmp 59) (.tmp 62) wr.heap.size 56 3 rfl i0 _ 1 8 (by kernel_rfl) hi hz0 hz1 hz2 rfl (by omega) (fun _ => rfl) (by intro x u hu; simp [intVal] at hu; subst hu; rfl) _ ((0 + ([] : List Int).length) + 1) (([] ++ ([] : List Int).flatMap intVal) ++ [r].flatMap intVal) rfl HS4.out.1.2 _ ([] : List Int) rfl (.inl ⟨_, _, rfl, rfl⟩) (by unfold maxLen; simp <;> omega) (by simp <;> omega) HS4.out.1.1.size ?_
                intro v5 w5 ho hg hb
                have HS5 := Lib.hid (stO_app HS4.out ho hg hb)
                clear ho hg hb
                try simp only [Act.put, sm]
                refine hK _ _ HS5.out.1.1 (fun hHeld => ?_)
                clear hK K
                refine wpAnyH_ready (rs := [12]) (by kernel_rfl) (by simp) ?_
                refine AllReadyH.cons (o := _) rfl (fun K hK => ?_) AllReadyH.nil
                clear hHeld
                go_simp
                refine hK _ _ HS5.out.1.1 (fun hHeld => ?_)
                clear hK K hHeld
                try simp only [Act.put, sm]
                refine wpAnyH_done (by kernel_rfl) ?_ _
                have HREL := Lib.hid (HEND.out _ _ _ HS5.out)
                go_wp2_with fail
                first | exact ⟨HREL.out, by simp [intOf]; omega⟩ | (go_roundw; all_goals first | exact HREL.out | (simp [intOf]; omega))
              · clear hHeld
                go_simp
                refine hK _ _ (HS1.out.1.alloc _) (fun hHeld => ?_)
                clear hK K
                try simp only [Act.put, sm]
                have HS2 := Lib.hid (stO_one HS1.out r (wr.heap.size + 1) (by simp))
                refine wpAnyH_ready (rs := [4]) (by kernel_rfl) (by simp) ?_
                refine AllReadyH.cons (o := _) rfl (fun K hK => ?_) AllReadyH.nil
                clear hHeld
                refine step_app (f := intVal) rfl (.tmp 52) (.tmp 55) wr.heap.size 56 3 rfl i0 _ 1 8 (by kernel_rfl) hi hz0 hz1 hz2 rfl (by omega) (fun _ => rfl) (by intro x u hu; simp [intVal] at hu; subst hu; rfl) _ 0 [] rfl HS2.out.1.2 _ ([] : List Int) rfl (.inl ⟨_, _, rfl, rfl⟩) (by unfold maxLen; simp <;> omega) (by simp <;> omega) HS2.out.1.1.size ?_
                intro v3 w3 ho hg hb
                have HS3 := Lib.hid (stO_app HS2.out ho hg hb)
                clear ho hg hb
                try simp only [Act.put, sm]
                refine hK _ _ HS3.out.1.1 (fun hHeld => ?_)
                clear hK K
                refine wpAnyH_ready (rs := [7]) (by kernel_rfl) (by simp) ?_
                refine AllReadyH.cons (o := _) rfl (fun K hK => ?_) AllReadyH.nil
                clear hHeld
                refine step_app (f := intVal) rfl (.tmp 56) (.tmp 58) wr.heap.size 56 3 rfl i0 _ 1 8 (by kernel_rfl) hi hz0 hz1 hz2 rfl (by omega) (fun _ => rfl) (by intro x u hu; simp [intVal] at hu; subst hu; rfl) _ (0 + ([] : List Int).length) ([] ++ ([] : List Int).flatMap intVal) rfl HS3.out.1.2 _ [r] rfl HS3.out.2.1.list (by unfold maxLen; simp <;> omega) (by simp <;> omega) HS3.out.1.1.size ?_
                intro v4 w4 ho hg hb
                have HS4 := Lib.hid (stO_app HS3.out ho hg hb)
                clear ho hg hb
                try simp only [Act.put, sm]
                refine hK _ _ HS4.out.1.1 (fun hHeld => ?_)
                clear hK K
                refine wpAnyH_ready (rs := [11]) (by kernel_rfl) (by simp) ?_
                refine AllReadyH.cons (o := _) rfl (fun K hK => ?_) AllReadyH.nil
                clear hHeld
                refine step_app (f := intVal) rfl (.tmp 59) (.tmp 62) wr.heap.size 56 3 rfl i0 _ 1 8 (by kernel_rfl) hi hz0 hz1 hz2 rfl (by omega) (fun _ => rfl) (by intro x u hu; simp [intVal] at hu; subst hu; rfl) _ ((0 + ([] : List Int).length) + 1) (([] ++ ([] : List Int).flatMap intVal) ++ [r].flatMap intVal) rfl HS4.out.1.2 _ ([] : List Int) rfl (.inl ⟨_, _, rfl, rfl⟩) (by unfold maxLen; simp <;> omega) (by simp <;> omega) HS4.out.1.1.size ?_
                intro v5 w5 ho hg hb
                have HS5 := Lib.hid (stO_app HS4.out ho hg hb)
                clear ho hg hb
                try simp only [Act.put, sm]
                refine hK _ _ HS5.out.1.1 (fun hHeld => ?_)
                clear hK K
                refine wpAnyH_ready (rs := [12]) (by kernel_rfl) (by simp) ?_
                refine AllReadyH.cons (o := _) rfl (fun K hK => ?_) AllReadyH.nil
                clear hHeld
                go_simp
                refine hK _ _ HS5.out.1.1 (fun hHeld => ?_)
                clear hK K hHeld
                try simp only [Act.put, sm]
                refine wpAnyH_done (by kernel_rfl) ?_ _
                have HREL := Lib.hid (HEND.out _ _ _ HS5.out)
                go_wp2_with fail
                first | exact ⟨HREL.out, by simp [intOf]; omega⟩ | (go_roundw; all_goals first | exact HREL.out | (simp [intOf]; omega))
            · clear hHeld
              go_simp
              refine hK _ _ ((Kp.refl wr none).drew.alloc _) (fun hHeld => ?_)
              clear hK K
              try simp only [Act.put, sm]
              have HS1 := Lib.hid (stN_new (Kp.refl wr none).drew r)
              refine wpAnyH_ready (rs := [0]) (by kernel_rfl) (by simp) ?_
              refine AllReadyH.cons (o := _) rfl (fun K hK => ?_) AllReadyH.nil
              clear hHeld
              go_simp
              refine hK _ _ (HS1.out.1.alloc _) (fun hHeld => ?_)
              clear hK K
              try simp only [Act.put, sm]
              have HS2 := Lib.hid (stO_new HS1.out (wr.heap.size + 1) (by simp))
              refine wpAnyH_ready (rs := [4]) (by kernel_rfl) (by simp) ?_
              refine AllReadyH.cons (o := _) rfl (fun K hK => ?_) AllReadyH.nil
              clear hHeld
              refine step_app (f := intVal) rfl (.tmp 52) (.tmp 55) wr.heap.size 56 3 rfl i0 _ 1 8 (by kernel_rfl) hi hz0 hz1 hz2 rfl (by omega) (fun _ => rfl) (by intro x u hu; simp [intVal] at hu; subst hu; rfl) _ 0 [] rfl HS2.out.1.2 _ ([] : List Int) rfl (.inl ⟨_, _, rfl, rfl⟩) (by unfold maxLen; simp <;> omega) (by simp <;> omega) HS2.out.1.1.size ?_
              intro v3 w3 ho hg hb
              have HS3 := Lib.hid (stO_app HS2.out ho hg hb)
              clear ho hg hb
              try simp only [Act.put, sm]
              refine hK _ _ HS3.out.1.1 (fun hHeld => ?_)
              clear hK K
              refine wpAnyH_ready (rs := [7]) (by kernel_rfl) (by simp) ?_
              refine AllReadyH.cons (o := _) rfl (fun K hK => ?_) AllReadyH.nil
              clear hHeld
              refine step_app (f := intVal) rfl (.tmp 56) (.tmp 58) wr.heap.size 56 3 rfl i0 _ 1 8 (by kernel_rfl) hi hz0 hz1 hz2 rfl (by omega) (fun _ => rfl) (by intro x u hu; simp [intVal] at hu; subst hu; rfl) _ (0 + ([] : List Int).length) ([] ++ ([] : List Int).flatMap intVal) rfl HS3.out.1.2 _ [r] rfl HS3.out.2.1.list (by unfold maxLen; simp <;> omega) (by simp <;> omega) HS3.out.1.1.size ?_
              intro v4 w4 ho hg hb
              have HS4 := Lib.hid (stO_app HS3.out ho hg hb)
              clear ho hg hb
              try simp only [Act.put, sm]
              refine hK _ _ HS4.out.1.1 (fun hHeld => ?_)
              clear hK K
              refine wpAnyH_ready (rs := [11]) (by kernel_rfl) (by simp) ?_
              refine AllReadyH.cons (o := _) rfl (fun K hK => ?_) AllReadyH.nil
              clear hHeld
              refine step_app (f := intVal) rfl (.tmp 59) (.tmp 62) wr.heap.size 56 3 rfl i0 _ 1 8 (by kernel_rfl) hi hz0 hz1 hz2 rfl (by omega) (fun _ => rfl) (by intro x u hu; simp [intVal] at hu; subst hu; rfl) _ ((0 + ([] : List Int).length) + 1) (([] ++ ([] : List Int).flatMap intVal) ++ [r].flatMap intVal) rfl HS4.out.1.2 _ ([] : List Int) rfl (.inl ⟨_, _, rfl, rfl⟩) (by unfold maxLen; simp <;> omega) (by simp <;> omega) HS4.out.1.1.size ?_
              intro v5 w5 ho hg hb
              have HS5 := Lib.hid (stO_app HS4.out ho hg hb)
              clear ho hg hb
              try simp only [Act.put, sm]
              refine hK _ _ HS5.out.1.1 (fun hHeld => ?_)
              clear hK K
              refine wpAnyH_ready (rs := [12]) (by kernel_rfl) (by simp) ?_
              refine AllReadyH.cons (o := _) rfl (fun K hK => ?_) AllReadyH.nil
              clear hHeld
              go_simp
              refine hK _ _ HS5.out.1.1 (fun hHeld => ?_)
              clear hK K hHeld
              try simp only [Act.put, sm]
              refine wpAnyH_done (by kernel_rfl) ?_ _
              have HREL := Lib.hid (HEND.out _ _ _ HS5.out)
              go_wp2_with fail
              first | exact ⟨HREL.out, by simp [intOf]; omega⟩ | (go_roundw; all_goals first | exact HREL.out | (simp [intOf]; omega))
        · have HR := Lib.hid hr
          have hl2 := HLEN.out
          clear hr HROW
          go_wp2_with fail
          go_loopw [6] (fun i wq => (∃ j : Nat, j ≤ xs.length ∧ i = .int .i64 j ∧ ∀ x ∈ xs.take j, x < r) ∧ wr = wq) (fun i _ => xs.length - (intOf i).toNat)
          case atStart => exact ⟨⟨0, Nat.zero_le _, rfl, fun _ h => by cases h⟩, rfl⟩
          case round =>
            obtain ⟨⟨j, hkl2, rfl, hall⟩, rfl⟩ := hrel
            have HALL := Lib.hid hall
            clear hall
            have hj0 : (0 : Int) ≤ (j : Int) := Int.natCast_nonneg _
            have hcap : j ≤ cap := by omega
            have lt1 : (xs.take j).length = j := by rw [List.length_take]; omega
            have lt2 : (xs.drop j).length = xs.length - j := by rw [List.length_drop]
            by_cases hjl : j < xs.length
            · have hj1 : (j : Int) < (xs.length : Int) := by omega
              have hje : ((j : Int) == (xs.length : Int)) = false := by simp; omega
              obtain ⟨x, hx⟩ : ∃ x, xs[j] = x := ⟨_, rfl⟩
              have c0 : wr.cell? ⟨b, of2 + j, none⟩ = some (.int .i64 x) := by subst hx; exact HR.out j hjl
              by_cases hxr : x < r
              · have HN2 : Hid (∀ y ∈ xs.take (j + 1), y < r) := Lib.hid (by
                  intro y hy
                  rw [List.take_succ_eq_append_getElem hjl, List.mem_append] at hy
                  rcases hy with hy | hy
                  · exact HALL.out y hy
                  · rw [List.mem_singleton] at hy; rw [hy, hx]; exact hxr)
                clear hx
                go_wp2_with fail
                first | exact ⟨⟨⟨j + 1, hjl, by go_num, HN2.out⟩, rfl⟩, by simp [intOf]; omega⟩ | (go_roundw; all_goals first | exact ⟨⟨j + 1, hjl, by go_num, HN2.out⟩, by trivial⟩ | (simp [intOf]; omega))
              · by_cases hxe : x = r
                · have HREL : Hid (RRel ds w (.slice (some ⟨b, of2, none⟩) xs.length cap) (.int .i64 (k + 1)) wr) := Lib.hid (HMK.out _ _ (by
                    unfold Pl.addR
                    rw [if_pos rfl, ins_old hjl HALL.out (by rw [hx]; exact hxe)]
                    exact .inr ⟨b, of2, cap, rfl, hc, hb0, HR.out⟩) HK.out)
                  subst hxe
                  clear hx HMK HALL
                  go_wp2_with fail
                  first | exact ⟨HREL.out, by simp [intOf]; omega⟩ | (go_roundw; all_goals first | exact HREL.out | (simp [intOf]; omega))
                · have hxf : (x == r) = false := by simpa using hxe
                  have HEND : Hid (∀ v W b', StO wr W v (0 + (xs.take j).length + 1 + (xs.drop j).length) ([] ++ (xs.take j).flatMap intVal ++ [r].flatMap intVal ++ (xs.drop j).flatMap intVal) b' r → RRel ds w v (.int .i64 (k + 1)) W) := Lib.hid fun v W b' h =>
                    HMK.out v W (by
                      unfold Pl.addR
                      rw [if_pos rfl, ins_new hkl2 HALL.out (fun h => by rw [hx]; omega)]
                      exact row_end h) (HK.out.trans h.1.1)
                  clear hx HMK HALL hxe
                  go_wp2_with fail
                  refine wp_region_held_drew (S := fun w1 => Kp wr w1 none) (by kernel_rfl) ?_ (fun hHeld => ?_)
                  · exact (Kp.refl _ _).drew
                  refine tkH 1 rfl ?_
                  try simp only [Act.put, sm]
                  refine tkH 2 rfl ?_
                  try simp only [Act.put, sm]
                  refine tkH 3 rfl ?_
                  try simp only [Act.put, sm]
                  refine tkH 5 rfl ?_
                  try simp only [Act.put, sm]
                  refine tkH 8 rfl ?_
                  try simp only [Act.put, sm]
                  refine tkH 9 rfl ?_
                  try simp only [Act.put, sm]
                  refine tkH 10 rfl ?_
                  try simp only [Act.put, sm]
                  refine wpAnyH_ready (rs := [0, 6]) (by kernel_rfl) (by simp) ?_
                  refine AllReadyH.cons (o := _) rfl (fun K hK => ?_) (AllReadyH.cons (o := _) rfl (fun K hK => ?_) AllReadyH.nil)
                  · clear hHeld
                    go_simp
                    refine hK _ _ ((Kp.refl wr none).drew.alloc _) (fun hHeld => ?_)
                    clear hK K
                    try simp only [Act.put, sm]
                    have HS1 := Lib.hid (stE_new (Kp.refl wr none).drew)
                    refine wpAnyH_ready (rs := [4, 6]) (by kernel_rfl) (by simp) ?_
                    refine AllReadyH.cons (o := _) rfl (fun K hK => ?_) (AllReadyH.cons (o := _) rfl (fun K hK => ?_) AllReadyH.nil)
                    · clear hHeld
                      refine step_app (f := intVal) rfl (.tmp 52) (.tmp 55) wr.heap.size 56 3 rfl i0 _ 1 8 (by kernel_rfl) hi hz0 hz1 hz2 rfl (by omega) (fun _ => rfl) (by intro x u hu; simp [intVal] at hu; subst hu; rfl) _ 0 [] rfl HS1.out.2 _ (xs.take j) rfl (isList_take (f := intVal) hc hkl2 (Nat.lt_of_lt_of_le hb0 HS1.out.1.size) (keep1 HR.out HS1.out.1 hb0)) (by unfold maxLen; simp <;> omega) (by simp <;> omega) HS1.out.1.size ?_
                      intro v2 w2 ho hg hb
                      have HS2 := Lib.hid (stE_app HS1.out ho hg)
                      clear ho hg hb
                      try simp only [Act.put, sm]
                      refine hK _ _ HS2.out.1 (fun hHeld => ?_)
                      clear hK K
                      refine wpAnyH_ready (rs := [6]) (by kernel_rfl) (by simp) ?_
                      refine AllReadyH.cons (o := _) rfl (fun K hK => ?_) AllReadyH.nil
                      clear hHeld
                      go_simp
                      refine hK _ _ (HS2.out.1.alloc _) (fun hHeld => ?_)
                      clear hK K
                      try simp only [Act.put, sm]
                      have HS3 := Lib.hid (stO_one HS2.out r w2.heap.size (by simp))
                      refine wpAnyH_ready (rs := [7]) (by kernel_rfl) (by simp) ?_
                      refine AllReadyH.cons (o := _) rfl (fun K hK => ?_) AllReadyH.nil
                      clear hHeld
                      refine step_app (f := intVal) rfl (.tmp 56) (.tmp 58) wr.heap.size 56 3 rfl i0 _ 1 8 (by kernel_rfl) hi hz0 hz1 hz2 rfl (by omega) (fun _ => rfl) (by intro x u hu; simp [intVal] at hu; subst hu; rfl) _ (0 + (xs.take j).length) ([] ++ (xs.take j).flatMap intVal) rfl HS3.out.1.2 _ [r] rfl HS3.out.2.1.list (by unfold maxLen; simp <;> omega) (by simp <;> omega) HS3.out.1.1.size ?_
                      intro v4 w4 ho hg hb
                      have HS4 := Lib.hid (stO_app HS3.out ho hg hb)
                      clear ho hg hb
                      try simp only [Act.put, sm]
                      refine hK _ _ HS4.out.1.1 (fun hHeld => ?_)
                      clear hK K
                      refine wpAnyH_ready (rs := [11]) (by kernel_rfl) (by simp) ?_
                      refine AllReadyH.cons (o := _) rfl (fun K hK => ?_) AllReadyH.nil
                      clear hHeld
                      refine step_app (f := intVal) rfl (.tmp 59) (.tmp 62) wr.heap.size 56 3 rfl i0 _ 1 8 (by kernel_rfl) hi hz0 hz1 hz2 rfl (by omega) (fun _ => rfl) (by intro x u hu; simp [intVal] at hu; subst hu; rfl) _ ((0 + (xs.take j).length) + 1) (([] ++ (xs.take j).flatMap intVal) ++ [r].flatMap intVal) rfl HS4.out.1.2 _ (xs.drop j) rfl (isInts_drop hc hkl2 (Nat.lt_of_lt_of_le hb0 HS4.out.1.1.size) (keep0 HR.out HS4.out.1.1 hb0)) (by unfold maxLen; simp <;> omega) (by simp <;> omega) HS4.out.1.1.size ?_
                      intro v5 w5 ho hg hb
                      have HS5 := Lib.hid (stO_app HS4.out ho hg hb)
                      clear ho hg hb
                      try simp only [Act.put, sm]
                      refine hK _ _ HS5.out.1.1 (fun hHeld => ?_)
                      clear hK K
                      refine wpAnyH_ready (rs := [12]) (by kernel_rfl) (by simp) ?_
                      refine AllReadyH.cons (o := _) rfl (fun K hK => ?_) AllReadyH.nil
                      clear hHeld
                      go_simp
                      refine hK _ _ HS5.out.1.1 (fun hHeld => ?_)
                      clear hK K hHeld
                      try simp only [Act.put, sm]
                      refine wpAnyH_done (by kernel_rfl) ?_ _
                      have HREL := Lib.hid (HEND.out _ _ _ HS5.out)
                      go_wp2_with fail
                      first | exact ⟨HREL.out, by simp [intOf]; omega⟩ | (go_roundw; all_goals first | exact HREL.out | (simp [intOf]; omega))
                    · clear hHeld
                      go_simp
                      refine hK _ _ (HS1.out.1.alloc _) (fun hHeld => ?_)
                      clear hK K
                      try simp only [Act.put, sm]
                      have HS2 := Lib.hid (stO_one HS1.out r (wr.heap.size + 1) (by simp))
                      refine wpAnyH_ready (rs := [4]) (by kernel_rfl) (by simp) ?_
                      refine AllReadyH.cons (o := _) rfl (fun K hK => ?_) AllReadyH.nil
                      clear hHeld
                      refine step_app (f := intVal) rfl (.tmp 52) (.tmp 55) wr.heap.size 56 3 rfl i0 _ 1 8 (by kernel_rfl) hi hz0 hz1 hz2 rfl (by omega) (fun _ => rfl) (by intro x u hu; simp [intVal] at hu; subst hu; rfl) _ 0 [] rfl HS2.out.1.2 _ (xs.take j) rfl (isList_take (f := intVal) hc hkl2 (Nat.lt_of_lt_of_le hb0 HS2.out.1.1.size) (keep1 HR.out HS2.out.1.1 hb0)) (by unfold maxLen; simp <;> omega) (by simp <;> omega) HS2.out.1.1.size ?_
                      intro v3 w3 ho hg hb
                      have HS3 := Lib.hid (stO_app HS2.out ho hg hb)
                      clear ho hg hb
                      try simp only [Act.put, sm]
                      refine hK _ _ HS3.out.1.1 (fun hHeld => ?_)
                      clear hK K
                      refine wpAnyH_ready (rs := [7]) (by kernel_rfl) (by simp) ?_
                      refine AllReadyH.cons (o := _) rfl (fun K hK => ?_) AllReadyH.nil
                      clear hHeld
                      refine step_app (f := intVal) rfl (.tmp 56) (.tmp 58) wr.heap.size 56 3 rfl i0 _ 1 8 (by kernel_rfl) hi hz0 hz1 hz2 rfl (by omega) (fun _ => rfl) (by intro x u hu; simp [intVal] at hu; subst hu; rfl) _ (0 + (xs.take j).length) ([] ++ (xs.take j).flatMap intVal) rfl HS3.out.1.2 _ [r] rfl HS3.out.2.1.list (by unfold maxLen; simp <;> omega) (by simp <;> omega) HS3.out.1.1.size ?_
                      intro v4 w4 ho hg hb
                      have HS4 := Lib.hid (stO_app HS3.out ho hg hb)
                      clear ho hg hb
                      try simp only [Act.put, sm]
                      refine hK _ _ HS4.out.1.1 (fun hHeld => ?_)
                      clear hK K
                      refine wpAnyH_ready (rs := [11]) (by kernel_rfl) (by simp) ?_
                      refine AllReadyH.cons (o := _) rfl (fun K hK => ?_) AllReadyH.nil
                      clear hHeld
                      refine step_app (f := intVal) rfl (.tmp 59) (.tmp 62) wr.heap.size 56 3 rfl i0 _ 1 8 (by kernel_rfl) hi hz0 hz1 hz2 rfl (by omega) (fun _ => rfl) (by intro x u hu; simp [intVal] at hu; subst hu; rfl) _ ((0 + (xs.take j).length) + 1) (([] ++ (xs.take j).flatMap intVal) ++ [r].flatMap intVal) rfl HS4.out.1.2 _ (xs.drop j) rfl (isInts_drop hc hkl2 (Nat.lt_of_lt_of_le hb0 HS4.out.1.1.size) (keep0 HR.out HS4.out.1.1 hb0)) (by unfold maxLen; simp <;> omega) (by simp <;> omega) HS4.out.1.1.size ?_
                      intro v5 w5 ho hg hb
                      have HS5 := Lib.hid (stO_app HS4.out ho hg hb)
                      clear ho hg hb
                      try simp only [Act.put, sm]
                      refine hK _ _ HS5.out.1.1 (fun hHeld => ?_)
                      clear hK K
                      refine wpAnyH_ready (rs := [12]) (by kernel_rfl) (by simp) ?_
                      refine AllReadyH.cons (o := _) rfl (fun K hK => ?_) AllReadyH.nil
                      clear hHeld
                      go_simp
                      refine hK _ _ HS5.out.1.1 (fun hHeld => ?_)
                      clear hK K hHeld
                      try simp only [Act.put, sm]
                      refine wpAnyH_done (by kernel_rfl) ?_ _
                      have HREL := Lib.hid (HEND.out _ _ _ HS5.out)
                      go_wp2_with fail
                      first | exact ⟨HREL.out, by simp [intOf]; omega⟩ | (go_roundw; all_goals first | exact HREL.out | (simp [intOf]; omega))
                  · clear hHeld
                    go_simp
                    refine hK _ _ ((Kp.refl wr none).drew.alloc _) (fun hHeld => ?_)
                    clear hK K
                    try simp only [Act.put, sm]
                    have HS1 := Lib.hid (stN_new (Kp.refl wr none).drew r)
                    refine wpAnyH_ready (rs := [0]) (by kernel_rfl) (by simp) ?_
                    refine AllReadyH.cons (o := _) rfl (fun K hK => ?_) AllReadyH.nil
                    clear hHeld
                    go_simp
                    refine hK _ _ (HS1.out.1.alloc _) (fun hHeld => ?_)
                    clear hK K
                    try simp only [Act.put, sm]
                    have HS2 := Lib.hid (stO_new HS1.out (wr.heap.size + 1) (by simp))
                    refine wpAnyH_ready (rs := [4]) (by kernel_rfl) (by simp) ?_
                    refine AllReadyH.cons (o := _) rfl (fun K hK => ?_) AllReadyH.nil
                    clear hHeld
                    refine step_app (f := intVal) rfl (.tmp 52) (.tmp 55) wr.heap.size 56 3 rfl i0 _ 1 8 (by kernel_rfl) hi hz0 hz1 hz2 rfl (by omega) (fun _ => rfl) (by intro x u hu; simp [intVal] at hu; subst hu; rfl) _ 0 [] rfl HS2.out.1.2 _ (xs.take j) rfl (isList_take (f := intVal) hc hkl2 (Nat.lt_of_lt_of_le hb0 HS2.out.1.1.size) (keep1 HR.out HS2.out.1.1 hb0)) (by unfold maxLen; simp <;> omega) (by simp <;> omega) HS2.out.1.1.size ?_
                    intro v3 w3 ho hg hb
                    have HS3 := Lib.hid (stO_app HS2.out ho hg hb)
                    clear ho hg hb
                    try simp only [Act.put, sm]
                    refine hK _ _ HS3.out.1.1 (fun hHeld => ?_)
                    clear hK K
                    refine wpAnyH_ready (rs := [7]) (by kernel_rfl) (by simp) ?_
                    refine AllReadyH.cons (o := _) rfl (fun K hK => ?_) AllReadyH.nil
                    clear hHeld
                    refine step_app (f := intVal) rfl (.tmp 56) (.tmp 58) wr.heap.size 56 3 rfl i0 _ 1 8 (by kernel_rfl) hi hz0 hz1 hz2 rfl (by omega) (fun _ => rfl) (by intro x u hu; simp [intVal] at hu; subst hu; rfl) _ (0 + (xs.take j).length) ([] ++ (xs.take j).flatMap intVal) rfl HS3.out.1.2 _ [r] rfl HS3.out.2.1.list (by unfold maxLen; simp <;> omega) (by simp <;> omega) HS3.out.1.1.size ?_
                    intro v4 w4 ho hg hb
                    have HS4 := Lib.hid (stO_app HS3.out ho hg hb)
                    clear ho hg hb
                    try simp only [Act.put, sm]
                    refine hK _ _ HS4.out.1.1 (fun hHeld => ?_)
                    clear hK K
                    refine wpAnyH_ready (rs := [11]) (by kernel_rfl) (by simp) ?_
                    refine AllReadyH.cons (o := _) rfl (fun K hK => ?_) AllReadyH.nil
                    clear hHeld
                    refine step_app (f := intVal) rfl (.tmp 59) (.tmp 62) wr.heap.size 56 3 rfl i0 _ 1 8 (by kernel_rfl) hi hz0 hz1 hz2 rfl (by omega) (fun _ => rfl) (by intro x u hu; simp [intVal] at hu; subst hu; rfl) _ ((0 + (xs.take j).length) + 1) (([] ++ (xs.take j).flatMap intVal) ++ [r].flatMap intVal) rfl HS4.out.1.2 _ (xs.drop j) rfl (isInts_drop hc hkl2 (Nat.lt_of_lt_of_le hb0 HS4.out.1.1.size) (keep0 HR.out HS4.out.1.1 hb0)) (by unfold maxLen; simp <;> omega) (by simp <;> omega) HS4.out.1.1.size ?_
                    intro v5 w5 ho hg hb
                    have HS5 := Lib.hid (stO_app HS4.out ho hg hb)
                    clear ho hg hb
                    try simp only [Act.put, sm]
                    refine hK _ _ HS5.out.1.1 (fun hHeld => ?_)
                    clear hK K
                    refine wpAnyH_ready (rs := [12]) (by kernel_rfl) (by simp) ?_
                    refine AllReadyH.cons (o := _) rfl (fun K hK => ?_) AllReadyH.nil
                    clear hHeld
                    go_simp
                    refine hK _ _ HS5.out.1.1 (fun hHeld => ?_)
                    clear hK K hHeld
                    try simp only [Act.put, sm]
                    refine wpAnyH_done (by kernel_rfl) ?_ _
                    have HREL := Lib.hid (HEND.out _ _ _ HS5.out)
                    go_wp2_with fail
                    first | exact ⟨HREL.out, by simp [intOf]; omega⟩ | (go_roundw; all_goals first | exact HREL.out | (simp [intOf]; omega))
            · have hj1 : ¬ (j : Int) < (xs.length : Int) := by omega
              have hje : ((j : Int) == (xs.length : Int)) = true := by simp; omega
              have HEND : Hid (∀ v W b', StO wr W v (0 + (xs.take j).length + 1 + (xs.drop j).length) ([] ++ (xs.take j).flatMap intVal ++ [r].flatMap intVal ++ (xs.drop j).flatMap intVal) b' r → RRel ds w v (.int .i64 (k + 1)) W) := Lib.hid fun v W b' h =>
                HMK.out v W (by
                  unfold Pl.addR
                  rw [if_pos rfl, ins_new hkl2 HALL.out (fun h => absurd h hjl)]
                  exact row_end h) (HK.out.trans h.1.1)
              clear HMK HALL
              go_wp2_with fail
              refine wp_region_held_drew (S := fun w1 => Kp wr w1 none) (by kernel_rfl) ?_ (fun hHeld => ?_)
              · exact (Kp.refl _ _).drew
              refine tkH 1 rfl ?_
              try simp only [Act.put, sm]
              refine tkH 2 rfl ?_
              try simp only [Act.put, sm]
              refine tkH 3 rfl ?_
              try simp only [Act.put, sm]
              refine tkH 5 rfl ?_
              try simp only [Act.put, sm]
              refine tkH 8 rfl ?_
              try simp only [Act.put, sm]
              refine tkH 9 rfl ?_
              try simp only [Act.put, sm]
              refine tkH 10 rfl ?_
              try simp only [Act.put, sm]
              refine wpAnyH_ready (rs := [0, 6]) (by kernel_rfl) (by simp) ?_
              refine AllReadyH.cons (o := _) rfl (fun K hK => ?_) (AllReadyH.cons (o := _) rfl (fun K hK => ?_) AllReadyH.nil)
              · clear hHeld
                go_simp
                refine hK _ _ ((Kp.refl wr none).drew.alloc _) (fun hHeld => ?_)
                clear hK K
                try simp only [Act.put, sm]
                have HS1 := Lib.hid (stE_new (Kp.refl wr none).drew)
                refine wpAnyH_ready (rs := [4, 6]) (by kernel_rfl) (by simp) ?_
                refine AllReadyH.cons (o := _) rfl (fun K hK => ?_) (AllReadyH.cons (o := _) rfl (fun K hK => ?_) AllReadyH.nil)
                · clear hHeld
                  refine step_app (f := intVal) rfl (.tmp 52) (.tmp 55) wr.heap.size 56 3 rfl i0 _ 1 8 (by kernel_rfl) hi hz0 hz1 hz2 rfl (by omega) (fun _ => rfl) (by intro x u hu; simp [intVal] at hu; subst hu; rfl) _ 0 [] rfl HS1.out.2 _ (xs.take j) rfl (isList_take (f := intVal) hc hkl2 (Nat.lt_of_lt_of_le hb0 HS1.out.1.size) (keep1 HR.out HS1.out.1 hb0)) (by unfold maxLen; simp <;> omega) (by simp <;> omega) HS1.out.1.size ?_
                  intro v2 w2 ho hg hb
                  have HS2 := Lib.hid (stE_app HS1.out ho hg)
                  clear ho hg hb
                  try simp only [Act.put, sm]
                  refine hK _ _ HS2.out.1 (fun hHeld => ?_)
                  clear hK K
                  refine wpAnyH_ready (rs := [6]) (by kernel_rfl) (by simp) ?_
                  refine AllReadyH.cons (o := _) rfl (fun K hK => ?_) AllReadyH.nil
                  clear hHeld
                  go_simp
                  refine hK _ _ (HS2.out.1.alloc _) (fun hHeld => ?_)
                  clear hK K
                  try simp only [Act.put, sm]
                  have HS3 := Lib.hid (stO_one HS2.out r w2.heap.size (by simp))
                  refine wpAnyH_ready (rs := [7]) (by kernel_rfl) (by simp) ?_
                  refine AllReadyH.cons (o := _) rfl (fun K hK => ?_) AllReadyH.nil
                  clear hHeld
                  refine step_app (f := intVal) rfl (.tmp 56) (.tmp 58) wr.heap.size 56 3 rfl i0 _ 1 8 (by kernel_rfl) hi hz0 hz1 hz2 rfl (by omega) (fun _ => rfl) (by intro x u hu; simp [intVal] at hu; subst hu; rfl) _ (0 + (xs.take j).length) ([] ++ (xs.take j).flatMap intVal) rfl HS3.out.1.2 _ [r] rfl HS3.out.2.1.list (by unfold maxLen; simp <;> omega) (by simp <;> omega) HS3.out.1.1.size ?_
                  intro v4 w4 ho hg hb
                  have HS4 := Lib.hid (stO_app HS3.out ho hg hb)
                  clear ho hg hb
                  try simp only [Act.put, sm]
                  refine hK _ _ HS4.out.1.1 (fun hHeld => ?_)
                  clear hK K
                  refine wpAnyH_ready (rs := [11]) (by kernel_rfl) (by simp) ?_
                  refine AllReadyH.cons (o := _) rfl (fun K hK => ?_) AllReadyH.nil
                  clear hHeld
                  refine step_app (f := intVal) rfl (.tmp 59) (.tmp 62) wr.heap.size 56 3 rfl i0 _ 1 8 (by kernel_rfl) hi hz0 hz1 hz2 rfl (by omega) (fun _ => rfl) (by intro x u hu; simp [intVal] at hu; subst hu; rfl) _ ((0 + (xs.take j).length) + 1) (([] ++ (xs.take j).flatMap intVal) ++ [r].flatMap intVal) rfl HS4.out.1.2 _ (xs.drop j) rfl (isInts_drop hc hkl2 (Nat.lt_of_lt_of_le hb0 HS4.out.1.1.size) (keep0 HR.out HS4.out.1.1 hb0)) (by unfold maxLen; simp <;> omega) (by simp <;> omega) HS4.out.1.1.size ?_
                  intro v5 w5 ho hg hb
                  have HS5 := Lib.hid (stO_app HS4.out ho hg hb)
                  clear ho hg hb
                  try simp only [Act.put, sm]
                  refine hK _ _ HS5.out.1.1 (fun hHeld => ?_)
                  clear hK K
                  refine wpAnyH_ready (rs := [12]) (by kernel_rfl) (by simp) ?_
                  refine AllReadyH.cons (o := _) rfl (fun K hK => ?_) AllReadyH.nil
                  clear hHeld
                  go_simp
                  refine hK _ _ HS5.out.1.1 (fun hHeld => ?_)
                  clear hK K hHeld
                  try simp only [Act.put, sm]
                  refine wpAnyH_done (by kernel_rfl) ?_ _
                  have HREL := Lib.hid (HEND.out _ _ _ HS5.out)
                  go_wp2_with fail
                  first | exact ⟨HREL.out, by simp [intOf]; omega⟩ | (go_roundw; all_goals first | exact HREL.out | (simp [intOf]; omega))
                · clear hHeld
                  go_simp
                  refine hK _ _ (HS1.out.1.alloc _) (fun hHeld => ?_)
                  clear hK K
                  try simp only [Act.put, sm]
                  have HS2 := Lib.hid (stO_one HS1.out r (wr.heap.size + 1) (by simp))
                  refine wpAnyH_ready (rs := [4]) (by kernel_rfl) (by simp) ?_
                  refine AllReadyH.cons (o := _) rfl (fun K hK => ?_) AllReadyH.nil
                  clear hHeld
                  refine step_app (f := intVal) rfl (.tmp 52) (.tmp 55) wr.heap.size 56 3 rfl i0 _ 1 8 (by kernel_rfl) hi hz0 hz1 hz2 rfl (by omega) (fun _ => rfl) (by intro x u hu; simp [intVal] at hu; subst hu; rfl) _ 0 [] rfl HS2.out.1.2 _ (xs.take j) rfl (isList_take (f := intVal) hc hkl2 (Nat.lt_of_lt_of_le hb0 HS2.out.1.1.size) (keep1 HR.out HS2.out.1.1 hb0)) (by unfold maxLen; simp <;> omega) (by simp <;> omega) HS2.out.1.1.size ?_
                  intro v3 w3 ho hg hb
                  have HS3 := Lib.hid (stO_app HS2.out ho hg hb)
                  clear ho hg hb
                  try simp only [Act.put, sm]
                  refine hK _ _ HS3.out.1.1 (fun hHeld => ?_)
                  clear hK K
                  refine wpAnyH_ready (rs := [7]) (by kernel_rfl) (by simp) ?_
                  refine AllReadyH.cons (o := _) rfl (fun K hK => ?_) AllReadyH.nil
                  clear hHeld
                  refine step_app (f := intVal) rfl (.tmp 56) (.tmp 58) wr.heap.size 56 3 rfl i0 _ 1 8 (by kernel_rfl) hi hz0 hz1 hz2 rfl (by omega) (fun _ => rfl) (by intro x u hu; simp [intVal] at hu; subst hu; rfl) _ (0 + (xs.take j).length) ([] ++ (xs.take j).flatMap intVal) rfl HS3.out.1.2 _ [r] rfl HS3.out.2.1.list (by unfold maxLen; simp <;> omega) (by simp <;> omega) HS3.out.1.1.size ?_
                  intro v4 w4 ho hg hb
                  have HS4 := Lib.hid (stO_app HS3.out ho hg hb)
                  clear ho hg hb
                  try simp only [Act.put, sm]
                  refine hK _ _ HS4.out.1.1 (fun hHeld => ?_)
                  clear hK K
                  refine wpAnyH_ready (rs := [11]) (by kernel_rfl) (by simp) ?_
                  refine AllReadyH.cons (o := _) rfl (fun K hK => ?_) AllReadyH.nil
                  clear hHeld
                  refine step_app (f := intVal) rfl (.tmp 59) (.tmp 62) wr.heap.size 56 3 rfl i0 _ 1 8 (by kernel_rfl) hi hz0 hz1 hz2 rfl (by omega) (fun _ => rfl) (by intro x u hu; simp [intVal] at hu; subst hu; rfl) _ ((0 + (xs.take j).length) + 1) (([] ++ (xs.take j).flatMap intVal) ++ [r].flatMap intVal) rfl HS4.out.1.2 _ (xs.drop j) rfl (isInts_drop hc hkl2 (Nat.lt_of_lt_of_le hb0 HS4.out.1.1.size) (keep0 HR.out HS4.out.1.1 hb0)) (by unfold maxLen; simp <;> omega) (by simp <;> omega) HS4.out.1.1.size ?_
                  intro v5 w5 ho hg hb
                  have HS5 := Lib.hid (stO_app HS4.out ho hg hb)
                  clear ho hg hb
                  try simp only [Act.put, sm]
                  refine hK _ _ HS5.out.1.1 (fun hHeld => ?_)
                  clear hK K
                  refine wpAnyH_ready (rs := [12]) (by kernel_rfl) (by simp) ?_
                  refine AllReadyH.cons (o := _) rfl (fun K hK => ?_) AllReadyH.nil
                  clear hHeld
                  go_simp
                  refine hK _ _ HS5.out.1.1 (fun hHeld => ?_)
                  clear hK K hHeld
                  try simp only [Act.put, sm]
                  refine wpAnyH_done (by kernel_rfl) ?_ _
                  have HREL := Lib.hid (HEND.out _ _ _ HS5.out)
                  go_wp2_with fail
                  first | exact ⟨HREL.out, by simp [intOf]; omega⟩ | (go_roundw; all_goals first | exact HREL.out | (simp [intOf]; omega))
              · clear hHeld
                go_simp
                refine hK _ _ ((Kp.refl wr none).drew.alloc _) (fun hHeld => ?_)
                clear hK K
                try simp only [Act.put, sm]
                have HS1 := Lib.hid (stN_new (Kp.refl wr none).drew r)
                refine wpAnyH_ready (rs := [0]) (by kernel_rfl) (by simp) ?_
                refine AllReadyH.cons (o := _) rfl (fun K hK => ?_) AllReadyH.nil
                clear hHeld
                go_simp
                refine hK _ _ (HS1.out.1.alloc _) (fun hHeld => ?_)
                clear hK K
                try simp only [Act.put, sm]
                have HS2 := Lib.hid (stO_new HS1.out (wr.heap.size + 1) (by simp))
                refine wpAnyH_ready (rs := [4]) (by kernel_rfl) (by simp) ?_
                refine AllReadyH.cons (o := _) rfl (fun K hK => ?_) AllReadyH.nil
                clear hHeld
                refine step_app (f := intVal) rfl (.tmp 52) (.tmp 55) wr.heap.size 56 3 rfl i0 _ 1 8 (by kernel_rfl) hi hz0 hz1 hz2 rfl (by omega) (fun _ => rfl) (by intro x u hu; simp [intVal] at hu; subst hu; rfl) _ 0 [] rfl HS2.out.1.2 _ (xs.take j) rfl (isList_take (f := intVal) hc hkl2 (Nat.lt_of_lt_of_le hb0 HS2.out.1.1.size) (keep1 HR.out HS2.out.1.1 hb0)) (by unfold maxLen; simp <;> omega) (by simp <;> omega) HS2.out.1.1.size ?_
                intro v3 w3 ho hg hb
                have HS3 := Lib.hid (stO_app HS2.out ho hg hb)
                clear ho hg hb
                try simp only [Act.put, sm]
                refine hK _ _ HS3.out.1.1 (fun hHeld => ?_)
                clear hK K
                refine wpAnyH_ready (rs := [7]) (by kernel_rfl) (by simp) ?_
                refine AllReadyH.cons (o := _) rfl (fun K hK => ?_) AllReadyH.nil
                clear hHeld
                refine step_app (f := intVal) rfl (.tmp 56) (.tmp 58) wr.heap.size 56 3 rfl i0 _ 1 8 (by kernel_rfl) hi hz0 hz1 hz2 rfl (by omega) (fun _ => rfl) (by intro x u hu; simp [intVal] at hu; subst hu; rfl) _ (0 + (xs.take j).length) ([] ++ (xs.take j).flatMap intVal) rfl HS3.out.1.2 _ [r] rfl HS3.out.2.1.list (by unfold maxLen; simp <;> omega) (by simp <;> omega) HS3.out.1.1.size ?_
                intro v4 w4 ho hg hb
                have HS4 := Lib.hid (stO_app HS3.out ho hg hb)
                clear ho hg hb
                try simp only [Act.put, sm]
                refine hK _ _ HS4.out.1.1 (fun hHeld => ?_)
                clear hK K
                refine wpAnyH_ready (rs := [11]) (by kernel_rfl) (by simp) ?_
                refine AllReadyH.cons (o := _) rfl (fun K hK => ?_) AllReadyH.nil
                clear hHeld
                refine step_app (f := intVal) rfl (.tmp 59) (.tmp 62) wr.heap.size 56 3 rfl i0 _ 1 8 (by kernel_rfl) hi hz0 hz1 hz2 rfl (by omega) (fun _ => rfl) (by intro x u hu; simp [intVal] at hu; subst hu; rfl) _ ((0 + (xs.take j).length) + 1) (([] ++ (xs.take j).flatMap intVal) ++ [r].flatMap intVal) rfl HS4.out.1.2 _ (xs.drop j) rfl (isInts_drop hc hkl2 (Nat.lt_of_lt_of_le hb0 HS4.out.1.1.size) (keep0 HR.out HS4.out.1.1 hb0)) (by unfold maxLen; simp <;> omega) (by simp <;> omega) HS4.out.1.1.size ?_
                intro v5 w5 ho hg hb
                have HS5 := Lib.hid (stO_app HS4.out ho hg hb)
                clear ho hg hb
                try simp only [Act.put, sm]
                refine hK _ _ HS5.out.1.1 (fun hHeld => ?_)
                clear hK K
                refine wpAnyH_ready (rs := [12]) (by kernel_rfl) (by simp) ?_
                refine AllReadyH.cons (o := _) rfl (fun K hK => ?_) AllReadyH.nil
                clear hHeld
                go_simp
                refine hK _ _ HS5.out.1.1 (fun hHeld => ?_)
                clear hK K hHeld
                try simp only [Act.put, sm]
                refine wpAnyH_done (by kernel_rfl) ?_ _
                have HREL := Lib.hid (HEND.out _ _ _ HS5.out)
                go_wp2_with fail
                first | exact ⟨HREL.out, by simp [intOf]; omega⟩ | (go_roundw; all_goals first | exact HREL.out | (simp [intOf]; omega))
      · have hq : (dk == 1) = false := by simpa using hk1'
        have HREL := Lib.hid (HMK.out _ _ (by unfold Pl.addR; rw [if_neg hk1']; exact HROW.out) HK.out)
        clear hk1' HMK HROW
        go_wp2_with fail
        first | exact ⟨HREL.out, by simp [intOf]; omega⟩ | (go_roundw; all_goals first | exact HREL.out | (simp [intOf]; omega))
    · have hk1 : ¬ (k : Int) < (n : Int) := by omega
      have HE : Hid (Row wr _ (Pl.radii ds)) := Lib.hid (by have := HROW.out; rw [List.take_of_length_le (by have := HN.out; omega)] at this; exact this)
      clear HROW
      go_wp2_with fail
      go_ret
      exact ⟨_, rfl, HE.out, HK.out⟩

end Go.Proofs.YtggplbenliaodaaGreatDoor
