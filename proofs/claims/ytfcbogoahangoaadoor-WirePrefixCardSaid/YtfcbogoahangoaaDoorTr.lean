/- WireTruncated, walked. No condition but what a value can be. -/
import Derived.Test.YtfcbogoahangoaaDoorWl
import Derived.Test.YtfcbogoahangoaaDoorNo
import Derived.Deep.DeepCutAuto
namespace Go.Proofs.YtfcbogoahangoaaDoor
open Go.RowKit

/-- The cells of a boxed value, behind whatever keeps what was there. -/
theorem box_cells {wB w' : World} {b : Nat} {T : TypeId} {x0 x1 x2 x3 x4 : Value} (h : wB.heap[b]? = some (.cells #[x0, x1, x2, x3, x4] T (0, 0))) (k : Kp wB w' none) :
    w'.cell? ⟨b, 0, none⟩ = some x0 ∧ w'.cell? ⟨b, 1, none⟩ = some x1 ∧ w'.cell? ⟨b, 2, none⟩ = some x2 ∧ w'.cell? ⟨b, 3, none⟩ = some x3 ∧ w'.cell? ⟨b, 4, none⟩ = some x4 ∧ Hid (Kp wB w' none) := by
  have h' := (k.block b (lt_of_block h) (by simp)).trans h
  refine ⟨?_, ?_, ?_, ?_, ?_, k⟩ <;> simp [World.cell?, h']

theorem kpt {a b c : World} (h : Hid (Kp a b none)) (k : Kp b c none) : Kp a c none := h.out.trans k
theorem kpd {a b : World} (h : Hid (Kp a b none)) : Kp a b.drew none := h.out.drew
theorem kpa {a b : World} (h : Hid (Kp a b none)) (o : Obj) : Kp a (b.alloc o) none := h.out.alloc o
theorem kpo {a b : World} (h : Hid (Kp a b none)) : Kp a b none := h.out
/-- A value of the laws, and what is known of it. -/
structure ValOf (w : World) (n : Int) (s : List UInt8) (a3 : Option Addr) (l3 c3 : Nat) (xs : List Int) (v4 : Value) (ts : List (List UInt8)) : Prop where
  n : Wr.I64 n
  s : s.length ≤ 9223372036854775807
  l : xs.length = min l3 20
  lc : l3 ≤ c3
  lm : c3 ≤ 9223372036854775807
  row : IsRow w (.slice a3 xs.length c3) (xs.map vInt)
  i : ∀ x ∈ xs, Wr.I64 x
  t : IsRow w v4 (ts.map vStr)
  tn : ts.length ≤ 9223372036854775807
  tl : ∀ x ∈ ts, x.length ≤ 9223372036854775807
theorem ValOf.keep {w w' : World} {n : Int} {s : List UInt8} {a3 : Option Addr} {l3 c3 : Nat} {xs : List Int} {v4 : Value} {ts : List (List UInt8)} (h : ValOf w n s a3 l3 c3 xs v4 ts) (k : Kp w w' none) : ValOf w' n s a3 l3 c3 xs v4 ts :=
  { h with row := h.row.keep k, t := h.t.keep k }


def serOf (c n : Int) (s : List UInt8) (xs : List Int) (ts : List (List UInt8)) : List UInt8 :=
  if c % 4 = 0 then Wr.wInt n else if c % 4 = 1 then Wr.wText (s.take 100) else if c % 4 = 2 then Wr.wInts xs else Wr.wTexts (cutL ts)
theorem serOf_0 {c n : Int} {s : List UInt8} {xs : List Int} {ts : List (List UInt8)} (h : c % 4 = 0) : serOf c n s xs ts = Wr.wInt n := by unfold serOf; rw [if_pos h]
theorem serOf_1 {c n : Int} {s : List UInt8} {xs : List Int} {ts : List (List UInt8)} (h : c % 4 = 1) : serOf c n s xs ts = Wr.wText (s.take 100) := by unfold serOf; rw [if_neg (by omega), if_pos h]
theorem serOf_2 {c n : Int} {s : List UInt8} {xs : List Int} {ts : List (List UInt8)} (h : c % 4 = 2) : serOf c n s xs ts = Wr.wInts xs := by unfold serOf; rw [if_neg (by omega), if_neg (by omega), if_pos h]
theorem serOf_3 {c n : Int} {s : List UInt8} {xs : List Int} {ts : List (List UInt8)} (h : c % 4 = 3) : serOf c n s xs ts = Wr.wTexts (cutL ts) := by unfold serOf; rw [if_neg (by omega), if_neg (by omega), if_neg (by omega)]
theorem serOf_cut {w : World} {c n : Int} {s : List UInt8} {a3 : Option Addr} {l3 c3 : Nat} {xs : List Int} {v4 : Value} {ts : List (List UInt8)} (_h0 : 0 ≤ c) (hv : ValOf w n s a3 l3 c3 xs v4 ts) (k : Nat) (hk : k < (serOf c n s xs ts).length) : Undec (c % 4).toNat (some ((serOf c n s xs ts).take k)) := by
  have hI : ∀ x ∈ cutL ts, Wr.I64 (x.length : Int) := fun x hx => by have := cutL_mem ts x hx; unfold Wr.I64; omega
  have hS : Wr.I64 ((s.take 100).length : Int) := by unfold Wr.I64; simp; omega
  rcases (by omega : c % 4 = 0 ∨ c % 4 = 1 ∨ c % 4 = 2 ∨ c % 4 = 3) with h | h | h | h
  · rw [serOf_0 h] at hk ⊢; rw [h]; exact Wr.int_codec.cutoff hv.n hk
  · rw [serOf_1 h] at hk ⊢; rw [h]; exact Wr.text_codec.cutoff hS hk
  · rw [serOf_2 h] at hk ⊢; rw [h]; exact Wr.ints_codec.cutoff hv.i hk
  · rw [serOf_3 h] at hk ⊢; rw [h]; exact Wr.texts_codec.cutoff hI hk
theorem serOf_pos (c n : Int) (s : List UInt8) (xs : List Int) (ts : List (List UInt8)) : 0 < (serOf c n s xs ts).length := by
  unfold serOf; repeat' split
  all_goals simp [Wr.wInt, Wr.wText, Wr.wInts, Wr.wTexts]
  omega

theorem serOf_len {w : World} {c n : Int} {s : List UInt8} {a3 : Option Addr} {l3 c3 : Nat} {xs : List Int} {v4 : Value} {ts : List (List UInt8)} (_h0 : 0 ≤ c) (hv : ValOf w n s a3 l3 c3 xs v4 ts) : (serOf c n s xs ts).length < 1000000000 := by
  have hI : ∀ x ∈ cutL ts, (Wr.wText x).length ≤ 1048600 := fun x hx => wText_length x (by have := cutL_mem ts x hx; omega)
  have hS := wText_length (s.take 100) (by simp; omega)
  have hn := wInt_length n hv.n
  have h1 := flat_length Wr.wInt 21 xs (fun x hx => wInt_length x (hv.i x hx))
  have h2 := flat_length Wr.wText 1048600 (cutL ts) hI
  have h3 := cutL_len ts
  have h4 := hv.l
  unfold serOf
  repeat' split
  · omega
  · omega
  · simp only [Wr.wInts, List.length_append, List.length_cons, List.length_nil]; omega
  · simp only [Wr.wTexts, List.length_append, List.length_cons, List.length_nil]; omega

set_option maxHeartbeats 8000000 in
set_option maxRecDepth 100000 in
theorem trunc_any (c n : Int) (h0 : 0 ≤ c) (h255 : c < 256) (s : List UInt8) (a3 : Option Addr) (l3 c3 : Nat) (xs : List Int) (v4 : Value) (ts : List (List UInt8)) (less : Int) (hl0 : 0 ≤ less) (hl1 : less < 65536) (w : World) (he : Env w) (hv : ValOf w n s a3 l3 c3 xs v4 ts) :
    Calls Tryd.prog 7 #[.agg #[.int .u8 c, .int .i64 n, .string ⟨s.toArray⟩, .slice a3 l3 c3, v4], .int .u16 less] w fun E w' => E = .returned (.bool true) ∧ Kp w w' none := by
  have HE := Lib.hid he
  have HV0 := Lib.hid hv
  have hsl := hv.s
  have hs0 : (0 : Int) ≤ min (s.length : Int) 100 := by omega
  have hs1 : min (s.length : Int) 100 ≤ (s.length : Int) := by omega
  have hlc := hv.lc
  have hlm := hv.lm
  have hx0 : (0 : Int) ≤ min (l3 : Int) 20 := by omega
  have hx1 : min (l3 : Int) 20 ≤ (l3 : Int) := by omega
  have hx2 : min (l3 : Int) 20 ≤ (c3 : Int) := by omega
  have hx20 : xs.length ≤ 20 := by have := hv.l; omega
  have HXL : Hid ((min (l3 : Int) 20).toNat = xs.length) := Lib.hid (by have := hv.l; omega)
  have HSX : Hid ((⟨s.toArray⟩ : ByteArray).extract 0 (min (s.length : Int) 100).toNat = ⟨(s.take 100).toArray⟩) := Lib.hid (ext_min s 100)
  have hc4 : c % 4 = 0 ∨ c % 4 = 1 ∨ c % 4 = 2 ∨ c % 4 = 3 := by omega
  have HC4 := Lib.hid hc4
  clear he hv hc4
  go_enter Tryd.func7, Tryd.ntmps7
  go_wp2_with fail
  have KB := Lib.hid ((Kp.refl w none).alloc (.cells #[.int .u8 c, .int .i64 n, .string ⟨s.toArray⟩, .slice a3 l3 c3, v4] 45))
  have HB0 := Lib.hid (heap_alloc_new w (.cells #[.int .u8 c, .int .i64 n, .string ⟨s.toArray⟩, .slice a3 l3 c3, v4] 45))
  refine (sanity_any _ (HE.out.kp0 KB.out)).mono ?_
  rintro e w1 ⟨rfl, k⟩
  have KS := Lib.hid (KB.out.trans k)
  have HB : Hid (w1.heap[w.heap.size]? = some (.cells #[.int .u8 c, .int .i64 n, .string ⟨s.toArray⟩, .slice a3 l3 c3, v4] 45 (0, 0))) := (k.block _ (by simp) (by simp)).trans HB0.out
  have HEB := Lib.hid (HE.out.kp0 KS.out)
  have HV := Lib.hid (HV0.out.keep KS.out)
  clear k KB
  go_upto_region 2 with fail
  go_cut [6] (fun s6 wx => s6 = .string ⟨(serOf c n s xs ts).toArray⟩ ∧ Kp w1 wx none)
  case first =>
    refine wp_region_held_drew (S := fun w' => w'.cell? ⟨w.heap.size, 0, none⟩ = some (.int .u8 c) ∧ w'.cell? ⟨w.heap.size, 1, none⟩ = some (.int .i64 n) ∧ w'.cell? ⟨w.heap.size, 2, none⟩ = some (.string ⟨s.toArray⟩) ∧ w'.cell? ⟨w.heap.size, 3, none⟩ = some (.slice a3 l3 c3) ∧ w'.cell? ⟨w.heap.size, 4, none⟩ = some v4 ∧ Hid (Kp w1 w' none)) (by kernel_rfl) ?_ (fun hHeld => ?_)
    · exact box_cells HB.out ((Kp.refl _ _).drew)
    refine wpAnyH_take (i := 0) (oi := _) (v := ?_) rfl (by kernel_rfl) (by kernel_rfl) (by kernel_rfl) (fun _ _ _ h => h) (Or.inl ⟨by rfl, ?_⟩) (by assumption) ?_
    rotate_left
    · (intro w hSw; (try dsimp only at hSw); go_simp <;> with_reducible rfl)
    try simp only [Act.put, List.setIfInBounds_toArray]
    refine wpAnyH_take (i := 1) (oi := _) (v := ?_) rfl (by kernel_rfl) (by kernel_rfl) (by kernel_rfl) (fun _ _ _ h => h) (Or.inl ⟨by rfl, ?_⟩) (by assumption) ?_
    rotate_left
    · (intro w hSw; (try dsimp only at hSw); go_simp <;> with_reducible rfl)
    try simp only [Act.put]
    refine wpAnyH_take (i := 3) (oi := _) (v := ?_) rfl (by kernel_rfl) (by kernel_rfl) (by kernel_rfl) (fun _ _ _ h => h) (Or.inl ⟨by rfl, ?_⟩) (by assumption) ?_
    rotate_left
    · (intro w hSw; (try dsimp only at hSw); go_simp <;> with_reducible rfl)
    try simp only [Act.put]
    refine wpAnyH_take (i := 4) (oi := _) (v := ?_) rfl (by kernel_rfl) (by kernel_rfl) (by kernel_rfl) (fun _ _ _ h => h) (Or.inl ⟨by rfl, ?_⟩) (by assumption) ?_
    rotate_left
    · (intro w hSw; (try dsimp only at hSw); go_simp <;> with_reducible rfl)
    try simp only [Act.put]
    refine wpAnyH_take (i := 5) (oi := _) (v := ?_) rfl (by kernel_rfl) (by kernel_rfl) (by kernel_rfl) (fun _ _ _ h => h) (Or.inl ⟨by rfl, ?_⟩) (by assumption) ?_
    rotate_left
    · (intro w hSw; (try dsimp only at hSw); go_simp <;> with_reducible rfl)
    try simp only [Act.put]
    refine wpAnyH_take (i := 6) (oi := _) (v := ?_) rfl (by kernel_rfl) (by kernel_rfl) (by kernel_rfl) (fun _ _ _ h => h) (Or.inl ⟨by rfl, ?_⟩) (by assumption) ?_
    rotate_left
    · (intro w hSw; (try dsimp only at hSw); go_simp <;> with_reducible rfl)
    try simp only [Act.put]
    refine wpAnyH_take (i := 7) (oi := _) (v := ?_) rfl (by kernel_rfl) (by kernel_rfl) (by kernel_rfl) (fun _ _ _ h => h) (Or.inl ⟨by rfl, ?_⟩) (by assumption) ?_
    rotate_left
    · (intro w hSw; (try dsimp only at hSw); go_simp <;> with_reducible rfl)
    try simp only [Act.put]
    refine wpAnyH_take (i := 8) (oi := _) (v := ?_) rfl (by kernel_rfl) (by kernel_rfl) (by kernel_rfl) (fun _ _ _ h => h) (Or.inl ⟨by rfl, ?_⟩) (by assumption) ?_
    rotate_left
    · (intro w hSw; (try dsimp only at hSw); go_simp <;> with_reducible rfl)
    try simp only [Act.put]
    refine wpAnyH_take (i := 9) (oi := _) (v := ?_) rfl (by kernel_rfl) (by kernel_rfl) (by kernel_rfl) (fun _ _ _ h => h) (Or.inl ⟨by rfl, ?_⟩) (by assumption) ?_
    rotate_left
    · (intro w hSw; (try dsimp only at hSw); go_simp <;> with_reducible rfl)
    try simp only [Act.put]
    refine wpAnyH_take (i := 11) (oi := _) (v := ?_) rfl (by kernel_rfl) (by kernel_rfl) (by kernel_rfl) (fun _ _ _ h => h) (Or.inl ⟨by rfl, ?_⟩) (by assumption) ?_
    rotate_left
    · (intro w hSw; (try dsimp only at hSw); go_simp <;> with_reducible rfl)
    try simp only [Act.put]
    refine wpAnyH_take (i := 12) (oi := _) (v := ?_) rfl (by kernel_rfl) (by kernel_rfl) (by kernel_rfl) (fun _ _ _ h => h) (Or.inl ⟨by rfl, ?_⟩) (by assumption) ?_
    rotate_left
    · (intro w hSw; (try dsimp only at hSw); go_simp <;> with_reducible rfl)
    try simp only [Act.put]
    refine wpAnyH_take (i := 13) (oi := _) (v := ?_) rfl (by kernel_rfl) (by kernel_rfl) (by kernel_rfl) (fun _ _ _ h => h) (Or.inl ⟨by rfl, ?_⟩) (by assumption) ?_
    rotate_left
    · (intro w hSw; (try dsimp only at hSw); go_simp <;> with_reducible rfl)
    try simp only [Act.put]
    refine wpAnyH_take (i := 14) (oi := _) (v := ?_) rfl (by kernel_rfl) (by kernel_rfl) (by kernel_rfl) (fun _ _ _ h => h) (Or.inl ⟨by rfl, ?_⟩) (by assumption) ?_
    rotate_left
    · (intro w hSw; (try dsimp only at hSw); go_simp <;> with_reducible rfl)
    try simp only [Act.put]
    refine wpAnyH_take (i := 15) (oi := _) (v := ?_) rfl (by kernel_rfl) (by kernel_rfl) (by kernel_rfl) (fun _ _ _ h => h) (Or.inl ⟨by rfl, ?_⟩) (by assumption) ?_
    rotate_left
    · (intro w hSw; (try dsimp only at hSw); go_simp <;> with_reducible rfl)
    try simp only [Act.put]
    refine wpAnyH_take (i := 16) (oi := _) (v := ?_) rfl (by kernel_rfl) (by kernel_rfl) (by kernel_rfl) (fun _ _ _ h => h) (Or.inl ⟨by rfl, ?_⟩) (by assumption) ?_
    rotate_left
    · (intro w hSw; (try dsimp only at hSw); go_simp <;> with_reducible rfl)
    try simp only [Act.put]
    refine wpAnyH_take (i := 17) (oi := _) (v := ?_) rfl (by kernel_rfl) (by kernel_rfl) (by kernel_rfl) (fun _ _ _ h => h) (Or.inl ⟨by rfl, ?_⟩) (by assumption) ?_
    rotate_left
    · (intro w hSw; (try dsimp only at hSw); go_simp <;> with_reducible rfl)
    try simp only [Act.put]
    refine wpAnyH_take (i := 19) (oi := _) (v := ?_) rfl (by kernel_rfl) (by kernel_rfl) (by kernel_rfl) (fun _ _ _ h => h) (Or.inl ⟨by rfl, ?_⟩) (by assumption) ?_
    rotate_left
    · (intro w hSw; (try dsimp only at hSw); go_simp <;> with_reducible rfl)
    try simp only [Act.put]
    refine wpAnyH_take (i := 20) (oi := _) (v := ?_) rfl (by kernel_rfl) (by kernel_rfl) (by kernel_rfl) (fun _ _ _ h => h) (Or.inl ⟨by rfl, ?_⟩) (by assumption) ?_
    rotate_left
    · (intro w hSw; (try dsimp only at hSw); go_simp <;> with_reducible rfl)
    try simp only [Act.put]
    refine wpAnyH_take (i := 24) (oi := _) (v := ?_) rfl (by kernel_rfl) (by kernel_rfl) (by kernel_rfl) (fun _ _ _ h => h) (Or.inl ⟨by rfl, ?_⟩) (by assumption) ?_
    rotate_left
    · (intro w hSw; (try dsimp only at hSw); go_simp <;> with_reducible rfl)
    try simp only [Act.put]
    refine wpAnyH_take (i := 25) (oi := _) (v := ?_) rfl (by kernel_rfl) (by kernel_rfl) (by kernel_rfl) (fun _ _ _ h => h) (Or.inl ⟨by rfl, ?_⟩) (by assumption) ?_
    rotate_left
    · (intro w hSw; (try dsimp only at hSw); go_simp <;> with_reducible rfl)
    try simp only [Act.put]
    refine wpAnyH_take (i := 26) (oi := _) (v := ?_) rfl (by kernel_rfl) (by kernel_rfl) (by kernel_rfl) (fun _ _ _ h => h) (Or.inl ⟨by rfl, ?_⟩) (by assumption) ?_
    rotate_left
    · (intro w hSw; (try dsimp only at hSw); go_simp <;> with_reducible rfl)
    try simp only [Act.put]
    refine wpAnyH_ready (rs := [2]) (by kernel_rfl) (by simp) ?_
    refine AllReadyH.cons (o := _) rfl (fun K hK => ?_) AllReadyH.nil
    have gK := hHeld.2.2.2.2.2
    go_simp
    refine (wint_any n _ (HEB.out.kp0 (kpo gK)) HV.out.n).mono ?_
    rintro e w2 ⟨rfl, k2⟩
    try go_wp2_with fail
    refine hK.out _ _ ?_ (fun hHeld2 => ?_)
    · exact box_cells HB.out (kpt gK k2)
    clear hK K hHeld gK
    have hHeld := hHeld2
    clear hHeld2
    try simp only [Act.put, List.setIfInBounds_toArray, List.set_cons_zero, List.set_cons_succ]
    refine wpAnyH_ready (rs := [10]) (by kernel_rfl) (by simp) ?_
    refine AllReadyH.cons (o := _) rfl (fun K hK => ?_) AllReadyH.nil
    have gK := hHeld.2.2.2.2.2
    go_simp
    rw [HSX.out]
    refine (wtext_any (s.take 100) _ (HEB.out.kp0 (kpo gK)) (by simp; omega)).mono ?_
    rintro e w2 ⟨rfl, k2⟩
    try go_wp2_with fail
    refine hK.out _ _ ?_ (fun hHeld2 => ?_)
    · exact box_cells HB.out (kpt gK k2)
    clear hK K hHeld gK
    have hHeld := hHeld2
    clear hHeld2
    try simp only [Act.put, List.setIfInBounds_toArray, List.set_cons_zero, List.set_cons_succ]
    refine wpAnyH_ready (rs := [18]) (by kernel_rfl) (by simp) ?_
    refine AllReadyH.cons (o := _) rfl (fun K hK => ?_) AllReadyH.nil
    have gK := hHeld.2.2.2.2.2
    go_simp
    rw [HXL.out]
    refine (wints_any _ xs _ (HEB.out.kp0 (kpo gK)) (HV.out.row.keep (kpo gK)) HV.out.i (by omega)).mono ?_
    rintro e w2 ⟨rfl, k2⟩
    try go_wp2_with fail
    refine hK.out _ _ ?_ (fun hHeld2 => ?_)
    · exact box_cells HB.out (kpt gK k2)
    clear hK K hHeld gK
    have hHeld := hHeld2
    clear hHeld2
    try simp only [Act.put, List.setIfInBounds_toArray, List.set_cons_zero, List.set_cons_succ]
    refine wpAnyH_ready (rs := [21]) (by kernel_rfl) (by simp) ?_
    refine AllReadyH.cons (o := _) rfl (fun K hK => ?_) AllReadyH.nil
    have gK := hHeld.2.2.2.2.2
    go_simp
    refine (cut_any _ ts _ (HV.out.t.keep (kpo gK)) HV.out.tn HV.out.tl).mono ?_
    rintro e w2 ⟨v5, rfl, hv5, k2⟩
    try go_wp2_with fail
    refine hK.out _ _ ?_ (fun hHeld2 => ?_)
    · exact box_cells HB.out (kpt gK k2)
    clear hK K hHeld gK
    have hHeld := hHeld2
    clear hHeld2
    try simp only [Act.put, List.setIfInBounds_toArray, List.set_cons_zero, List.set_cons_succ]
    refine wpAnyH_ready (rs := [22]) (by kernel_rfl) (by simp) ?_
    refine AllReadyH.cons (o := _) rfl (fun K hK => ?_) AllReadyH.nil
    have gK := hHeld.2.2.2.2.2
    go_simp
    refine (wtexts_any _ (cutL ts) _ (HEB.out.kp0 (kpo gK)) (own_isRow hv5) (fun x hx => by have := cutL_mem ts x hx; omega) (by have := cutL_len ts; omega)).mono ?_
    clear hv5
    rintro e w2 ⟨rfl, k2⟩
    try go_wp2_with fail
    refine hK.out _ _ ?_ (fun hHeld2 => ?_)
    · exact box_cells HB.out (kpt gK k2)
    clear hK K hHeld gK
    have hHeld := hHeld2
    clear hHeld2
    try simp only [Act.put, List.setIfInBounds_toArray, List.set_cons_zero, List.set_cons_succ]
    refine wpAnyH_ready (rs := [23]) (by kernel_rfl) (by simp) ?_
    refine AllReadyH.cons (o := _) rfl (fun K hK => ?_) AllReadyH.nil
    have gK := hHeld.2.2.2.2.2
    go_simp
    refine hK.out _ _ ?_ (fun hHeld2 => ?_)
    · exact box_cells HB.out (kpa gK _)
    clear hK K hHeld gK
    have hHeld := hHeld2
    clear hHeld2
    try simp only [Act.put, List.setIfInBounds_toArray, List.set_cons_zero, List.set_cons_succ]
    rcases HC4.out with hc | hc | hc | hc
    all_goals
      have hct := (Int.tmod_eq_emod_of_nonneg (b := 4) h0).trans hc
      refine wpAnyH_ready (rs := [27]) (by kernel_rfl) (by simp) ?_
      refine AllReadyH.cons (o := _) rfl (fun K hK => ?_) AllReadyH.nil
      have gK := hHeld.2.2.2.2.2
      go_simp
      refine hK.out _ _ ?_ (fun hHeld2 => ?_)
      · exact box_cells HB.out (kpo gK)
      clear hK K hHeld gK
      have hHeld := hHeld2
      clear hHeld2
      try simp only [Act.put, List.setIfInBounds_toArray, List.set_cons_zero, List.set_cons_succ]
      refine wpAnyH_ready (rs := [28]) (by kernel_rfl) (by simp) ?_
      refine AllReadyH.cons (o := _) rfl (fun K hK => ?_) AllReadyH.nil
      have gK := hHeld.2.2.2.2.2
      go_simp
      refine hK.out _ _ ?_ (fun hHeld2 => ?_)
      · exact box_cells HB.out (kpo gK)
      clear hK K hHeld gK
      have hHeld := hHeld2
      clear hHeld2
      try simp only [Act.put, List.setIfInBounds_toArray, List.set_cons_zero, List.set_cons_succ]
      refine wpAnyH_ready (rs := [29]) (by kernel_rfl) (by simp) ?_
      refine AllReadyH.cons (o := _) rfl (fun K hK => ?_) AllReadyH.nil
      have gK := hHeld.2.2.2.2.2
      go_simp
      refine hK.out _ _ ?_ (fun hHeld2 => ?_)
      · exact box_cells HB.out (kpo gK)
      clear hK K hHeld gK
      have hHeld := hHeld2
      clear hHeld2
      try simp only [Act.put, List.setIfInBounds_toArray, List.set_cons_zero, List.set_cons_succ]
      refine wpAnyH_done (by kernel_rfl) ?_ _
      have gK := hHeld.2.2.2.2.2
      clear hHeld
      go_wp2_with fail
      go_meet
      first | exact ⟨congrArg (fun l : List UInt8 => Value.string ⟨l.toArray⟩) (serOf_0 hc).symm, kpo gK⟩ | exact ⟨congrArg (fun l : List UInt8 => Value.string ⟨l.toArray⟩) (serOf_1 hc).symm, kpo gK⟩ | exact ⟨congrArg (fun l : List UInt8 => Value.string ⟨l.toArray⟩) (serOf_2 hc).symm, kpo gK⟩ | exact ⟨congrArg (fun l : List UInt8 => Value.string ⟨l.toArray⟩) (serOf_3 hc).symm, kpo gK⟩
  case rest =>
    obtain ⟨rfl, k2⟩ := hcut
    have hpos := serOf_pos c n s xs ts
    have hlen := serOf_len h0 HV.out
    have hund := Lib.hid (serOf_cut h0 HV.out)
    have KC := Lib.hid (KS.out.trans k2)
    have c0 := (box_cells HB.out k2).1
    have HK2 := Lib.hid k2
    clear k2
    generalize serOf c n s xs ts = S at hpos hlen hund ⊢
    have hne : ((S.length : Int) == 0) = false := beq_eq_false_iff_ne.2 (by omega)
    have hm0 : 0 ≤ less % (S.length : Int) := Int.emod_nonneg less (show (S.length : Int) ≠ 0 by omega)
    have hm1 : less % (S.length : Int) < (S.length : Int) := Int.emod_lt_of_pos less (show 0 < (S.length : Int) by omega)
    go_wp2_with fail
    rw [ext_take]
    obtain ⟨m, hm⟩ : ∃ m, ((S.length : Int) - 1 - less % (S.length : Int)).toNat = m := ⟨_, rfl⟩
    have hmS : m < S.length := by omega
    rw [hm]
    have HM := Lib.hid hm
    have hml : (S.take m).length < 1000000000 := by rw [List.length_take]; omega
    have hum := hund.out m hmS
    generalize S.take m = d at hml hum ⊢
    have HUM := Lib.hid hum
    clear hm hum hm0 hm1 hund
    refine (new_any d _).mono ?_
    rintro e w3 ⟨rfl, h3, k3⟩
    have H3 := Lib.hid h3
    have K3 := Lib.hid (HK2.out.trans k3)
    have c0' := (box_cells HB.out K3.out).1
    have hr : 6 ≤ wc.heap.size := by have := HEB.out.big; have := HK2.out.size; omega
    have hr1 : w1.heap.size ≤ wc.heap.size := HK2.out.size
    clear h3 k3 c0
    go_wp2_with (first | (go_at_call 36; refine (decodes_at (c % 4) (by omega) (by omega) _ _ _ (HEB.out.kp0 K3.out) hr (by simp; omega) H3.out HUM.out).mono ?_; rintro e w4 ⟨rfl, h4, k4⟩; have H4 := Lib.hid h4; have K4 := Lib.hid (Kp.of_own K3.out k4 hr1); clear h4 k4) | (go_at_call 34; refine (bad_any _ _ _ H4.out).mono ?_; rintro e w' ⟨rfl, rfl⟩))
    go_loopw [8] (fun i wr => ∃ k : Nat, k ≤ 4 ∧ i = .int .i64 k ∧ RdIs wr wc.heap.size none ∧ Kp w1 wr none) (fun i _ => 4 - (intOf i).toNat)
    case atStart => exact ⟨0, by omega, rfl, H4.out, K4.out⟩
    case round =>
      clear H4 K4 K3 H3 c0'
      obtain ⟨k, hk, rfl, hR, hK⟩ := hrel
      have HR := Lib.hid hR
      have HK := Lib.hid hK
      clear hR hK
      by_cases hlt : k < 4
      · go_wp2_with (first | (go_at_call 36; refine (decodes_any k hlt _ none _ (HEB.out.kp0 HK.out) hr (by simp) HR.out (undec_none k)).mono ?_; rintro e w5 ⟨rfl, h5, k5⟩; have H5 := Lib.hid h5; have K5 := Lib.hid (Kp.of_own HK.out k5 hr1); clear h5 k5) | (go_at_call 34; refine (bad_any _ _ _ H5.out).mono ?_; rintro e w' ⟨rfl, rfl⟩) | (go_at_call 32; refine (left_any _ _ _ H5.out).mono ?_; rintro e w' ⟨rfl, rfl⟩))
        go_roundw
        case rel => exact ⟨k + 1, by omega, by go_num, H5.out, K5.out⟩
        case measure => simp [intOf]; omega
      · go_wp2
        go_ret
        exact ⟨rfl, KS.out.trans HK.out⟩

end Go.Proofs.YtfcbogoahangoaaDoor
