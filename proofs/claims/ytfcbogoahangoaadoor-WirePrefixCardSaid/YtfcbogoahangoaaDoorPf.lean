/- WirePrefix, walked: the two serializations. No condition but what values can be. -/
import Derived.Test.YtfcbogoahangoaaDoorPp
namespace Go.Proofs.YtfcbogoahangoaaDoor
open Go.RowKit

set_option maxHeartbeats 16000000 in
set_option maxRecDepth 100000 in
theorem prefix_any (j : Nat) (hj : j < 4) (c n : Int) (h0 : 0 ≤ c) (_h255 : c < 256) (hc : c % 4 = j) (s : List UInt8) (a3 : Option Addr) (l3 c3 : Nat) (xs : List Int) (v4 : Value) (ts : List (List UInt8)) (c2 n2 : Int) (s2 : List UInt8) (b3 : Option Addr) (m3 d3 : Nat) (xs2 : List Int) (u4 : Value) (ts2 : List (List UInt8)) (w : World) (he : Env w) (hva : ValOf w n s a3 l3 c3 xs v4 ts) (hvb : ValOf w n2 s2 b3 m3 d3 xs2 u4 ts2) :
    Calls Tryd.prog 8 #[.agg #[.int .u8 c, .int .i64 n, .string ⟨s.toArray⟩, .slice a3 l3 c3, v4], .agg #[.int .u8 c2, .int .i64 n2, .string ⟨s2.toArray⟩, .slice b3 m3 d3, u4]] w fun E w' => E = .returned (.bool true) ∧ Kp w w' none := by
  have HJ := Lib.hid hj
  have hj0 : (0 : Int) ≤ (j : Int) := by omega
  have hj4 : (j : Int) < 4 := by omega
  have HE := Lib.hid he
  have HV0 := Lib.hid hva
  have HV1 := Lib.hid hvb
  have hsls := hva.s
  have hs0s : (0 : Int) ≤ min (s.length : Int) 100 := by omega
  have hs1s : min (s.length : Int) 100 ≤ (s.length : Int) := by omega
  have hlcs := hva.lc
  have hlms := hva.lm
  have hx0s : (0 : Int) ≤ min (l3 : Int) 20 := by omega
  have hx1s : min (l3 : Int) 20 ≤ (l3 : Int) := by omega
  have hx2s : min (l3 : Int) 20 ≤ (c3 : Int) := by omega
  have hx20s : xs.length ≤ 20 := by have := hva.l; omega
  have HXL : Hid ((min (l3 : Int) 20).toNat = xs.length) := Lib.hid (by have := hva.l; omega)
  have HSX : Hid ((⟨s.toArray⟩ : ByteArray).extract 0 (min (s.length : Int) 100).toNat = ⟨(s.take 100).toArray⟩) := Lib.hid (ext_min s 100)
  have hsls2 := hvb.s
  have hs0s2 : (0 : Int) ≤ min (s2.length : Int) 100 := by omega
  have hs1s2 : min (s2.length : Int) 100 ≤ (s2.length : Int) := by omega
  have hlcs2 := hvb.lc
  have hlms2 := hvb.lm
  have hx0s2 : (0 : Int) ≤ min (m3 : Int) 20 := by omega
  have hx1s2 : min (m3 : Int) 20 ≤ (m3 : Int) := by omega
  have hx2s2 : min (m3 : Int) 20 ≤ (d3 : Int) := by omega
  have hx20s2 : xs2.length ≤ 20 := by have := hvb.l; omega
  have HXL2 : Hid ((min (m3 : Int) 20).toNat = xs2.length) := Lib.hid (by have := hvb.l; omega)
  have HSX2 : Hid ((⟨s2.toArray⟩ : ByteArray).extract 0 (min (s2.length : Int) 100).toNat = ⟨(s2.take 100).toArray⟩) := Lib.hid (ext_min s2 100)
  have hct := (Int.tmod_eq_emod_of_nonneg (b := 4) h0).trans hc
  have HCC := Lib.hid hc
  clear he hva hvb hc hj
  go_enter Tryd.func8, Tryd.ntmps8
  go_wp2_with fail
  have KB := Lib.hid (((Kp.refl w none).alloc (.cells #[.int .u8 c, .int .i64 n, .string ⟨s.toArray⟩, .slice a3 l3 c3, v4] 45)).alloc (.cells #[.int .u8 c2, .int .i64 n2, .string ⟨s2.toArray⟩, .slice b3 m3 d3, u4] 45))
  have HBa0 : Hid (((w.alloc (.cells #[.int .u8 c, .int .i64 n, .string ⟨s.toArray⟩, .slice a3 l3 c3, v4] 45)).alloc (.cells #[.int .u8 c2, .int .i64 n2, .string ⟨s2.toArray⟩, .slice b3 m3 d3, u4] 45)).heap[w.heap.size]? = some (.cells #[.int .u8 c, .int .i64 n, .string ⟨s.toArray⟩, .slice a3 l3 c3, v4] 45 (0, 0))) := (((Kp.refl (w.alloc (.cells #[.int .u8 c, .int .i64 n, .string ⟨s.toArray⟩, .slice a3 l3 c3, v4] 45)) none).alloc (.cells #[.int .u8 c2, .int .i64 n2, .string ⟨s2.toArray⟩, .slice b3 m3 d3, u4] 45)).block _ (by simp) (by simp)).trans (heap_alloc_new w _)
  have HBb0 : Hid (((w.alloc (.cells #[.int .u8 c, .int .i64 n, .string ⟨s.toArray⟩, .slice a3 l3 c3, v4] 45)).alloc (.cells #[.int .u8 c2, .int .i64 n2, .string ⟨s2.toArray⟩, .slice b3 m3 d3, u4] 45)).heap[w.heap.size + 1]? = some (.cells #[.int .u8 c2, .int .i64 n2, .string ⟨s2.toArray⟩, .slice b3 m3 d3, u4] 45 (0, 0))) := by
    have := heap_alloc_new (w.alloc (.cells #[.int .u8 c, .int .i64 n, .string ⟨s.toArray⟩, .slice a3 l3 c3, v4] 45)) (.cells #[.int .u8 c2, .int .i64 n2, .string ⟨s2.toArray⟩, .slice b3 m3 d3, u4] 45)
    rw [show (w.alloc (.cells #[.int .u8 c, .int .i64 n, .string ⟨s.toArray⟩, .slice a3 l3 c3, v4] 45)).heap.size = w.heap.size + 1 by simp] at this
    exact this
  refine (sanity_any _ (HE.out.kp0 KB.out)).mono ?_
  rintro e w1 ⟨rfl, k⟩
  have KS := Lib.hid (KB.out.trans k)
  have HBa : Hid (w1.heap[w.heap.size]? = some (.cells #[.int .u8 c, .int .i64 n, .string ⟨s.toArray⟩, .slice a3 l3 c3, v4] 45 (0, 0))) := (k.block _ (by simp; omega) (by simp)).trans HBa0.out
  have HBb : Hid (w1.heap[w.heap.size + 1]? = some (.cells #[.int .u8 c2, .int .i64 n2, .string ⟨s2.toArray⟩, .slice b3 m3 d3, u4] 45 (0, 0))) := (k.block _ (by simp) (by simp)).trans HBb0.out
  have HEB := Lib.hid (HE.out.kp0 KS.out)
  have HVa := Lib.hid (HV0.out.keep KS.out)
  have HVb := Lib.hid (HV1.out.keep KS.out)
  have KWB := Lib.hid (Kp.refl w1 none)
  clear k KB HBa0 HBb0
  go_upto_region 2 with fail
  go_cut [6, 7] (fun s6 s7 wx => s6 = .string ⟨(serN j n s xs ts).toArray⟩ ∧ s7 = .string ⟨(serN j n2 s2 xs2 ts2).toArray⟩ ∧ Kp w1 wx none)
  case first =>
    refine wp_region_held_drew (S := fun w' => w'.cell? ⟨w.heap.size, 0, none⟩ = some (.int .u8 c) ∧ w'.cell? ⟨w.heap.size, 1, none⟩ = some (.int .i64 n) ∧ w'.cell? ⟨w.heap.size, 2, none⟩ = some (.string ⟨s.toArray⟩) ∧ w'.cell? ⟨w.heap.size, 3, none⟩ = some (.slice a3 l3 c3) ∧ w'.cell? ⟨w.heap.size, 4, none⟩ = some (v4) ∧ w'.cell? ⟨w.heap.size + 1, 0, none⟩ = some (.int .u8 c2) ∧ w'.cell? ⟨w.heap.size + 1, 1, none⟩ = some (.int .i64 n2) ∧ w'.cell? ⟨w.heap.size + 1, 2, none⟩ = some (.string ⟨s2.toArray⟩) ∧ w'.cell? ⟨w.heap.size + 1, 3, none⟩ = some (.slice b3 m3 d3) ∧ w'.cell? ⟨w.heap.size + 1, 4, none⟩ = some (u4) ∧ Hid (Kp w1 w' none)) (by kernel_rfl) ?_ (fun hHeld => ?_)
    · exact ⟨ck HBa.out ((Kp.refl _ _).drew) 0 rfl, ck HBa.out ((Kp.refl _ _).drew) 1 rfl, ck HBa.out ((Kp.refl _ _).drew) 2 rfl, ck HBa.out ((Kp.refl _ _).drew) 3 rfl, ck HBa.out ((Kp.refl _ _).drew) 4 rfl, ck HBb.out ((Kp.refl _ _).drew) 0 rfl, ck HBb.out ((Kp.refl _ _).drew) 1 rfl, ck HBb.out ((Kp.refl _ _).drew) 2 rfl, ck HBb.out ((Kp.refl _ _).drew) 3 rfl, ck HBb.out ((Kp.refl _ _).drew) 4 rfl, Lib.hid ((Kp.refl _ _).drew)⟩
    refine wpAnyH_take (i := 0) (oi := _) (v := ?_) rfl (by kernel_rfl) (by kernel_rfl) (by kernel_rfl) (fun _ _ _ h => h) (Or.inl ⟨by rfl, ?_⟩) (by assumption) ?_
    rotate_left
    · (intro w hSw; (try dsimp only at hSw); go_simp <;> with_reducible rfl)
    try simp only [Act.put, List.setIfInBounds_toArray]
    refine wpAnyH_take (i := 1) (oi := _) (v := ?_) rfl (by kernel_rfl) (by kernel_rfl) (by kernel_rfl) (fun _ _ _ h => h) (Or.inl ⟨by rfl, ?_⟩) (by assumption) ?_
    rotate_left
    · (intro w hSw; (try dsimp only at hSw); go_simp <;> with_reducible rfl)
    try simp only [Act.put]
    refine wpAnyH_take (i := 3) (oi := _) (v := ?_) rfl (by kernel_rfl) (by kernel_rfl) (by kernel_rfl) (fun _ _ _ h => h) (Or.inl ⟨by rfl, ?_⟩) (by assumption) ?_
    rotate_left
    · (intro w hSw; (try dsimp only at hSw); go_simp <;> with_reducible rfl)
    try simp only [Act.put]
    refine wpAnyH_take (i := 4) (oi := _) (v := ?_) rfl (by kernel_rfl) (by kernel_rfl) (by kernel_rfl) (fun _ _ _ h => h) (Or.inl ⟨by rfl, ?_⟩) (by assumption) ?_
    rotate_left
    · (intro w hSw; (try dsimp only at hSw); go_simp <;> with_reducible rfl)
    try simp only [Act.put]
    refine wpAnyH_take (i := 5) (oi := _) (v := ?_) rfl (by kernel_rfl) (by kernel_rfl) (by kernel_rfl) (fun _ _ _ h => h) (Or.inl ⟨by rfl, ?_⟩) (by assumption) ?_
    rotate_left
    · (intro w hSw; (try dsimp only at hSw); go_simp <;> with_reducible rfl)
    try simp only [Act.put]
    refine wpAnyH_take (i := 6) (oi := _) (v := ?_) rfl (by kernel_rfl) (by kernel_rfl) (by kernel_rfl) (fun _ _ _ h => h) (Or.inl ⟨by rfl, ?_⟩) (by assumption) ?_
    rotate_left
    · (intro w hSw; (try dsimp only at hSw); go_simp <;> with_reducible rfl)
    try simp only [Act.put]
    refine wpAnyH_take (i := 7) (oi := _) (v := ?_) rfl (by kernel_rfl) (by kernel_rfl) (by kernel_rfl) (fun _ _ _ h => h) (Or.inl ⟨by rfl, ?_⟩) (by assumption) ?_
    rotate_left
    · (intro w hSw; (try dsimp only at hSw); go_simp <;> with_reducible rfl)
    try simp only [Act.put]
    refine wpAnyH_take (i := 8) (oi := _) (v := ?_) rfl (by kernel_rfl) (by kernel_rfl) (by kernel_rfl) (fun _ _ _ h => h) (Or.inl ⟨by rfl, ?_⟩) (by assumption) ?_
    rotate_left
    · (intro w hSw; (try dsimp only at hSw); go_simp <;> with_reducible rfl)
    try simp only [Act.put]
    refine wpAnyH_take (i := 9) (oi := _) (v := ?_) rfl (by kernel_rfl) (by kernel_rfl) (by kernel_rfl) (fun _ _ _ h => h) (Or.inl ⟨by rfl, ?_⟩) (by assumption) ?_
    rotate_left
    · (intro w hSw; (try dsimp only at hSw); go_simp <;> with_reducible rfl)
    try simp only [Act.put]
    refine wpAnyH_take (i := 11) (oi := _) (v := ?_) rfl (by kernel_rfl) (by kernel_rfl) (by kernel_rfl) (fun _ _ _ h => h) (Or.inl ⟨by rfl, ?_⟩) (by assumption) ?_
    rotate_left
    · (intro w hSw; (try dsimp only at hSw); go_simp <;> with_reducible rfl)
    try simp only [Act.put]
    refine wpAnyH_take (i := 12) (oi := _) (v := ?_) rfl (by kernel_rfl) (by kernel_rfl) (by kernel_rfl) (fun _ _ _ h => h) (Or.inl ⟨by rfl, ?_⟩) (by assumption) ?_
    rotate_left
    · (intro w hSw; (try dsimp only at hSw); go_simp <;> with_reducible rfl)
    try simp only [Act.put]
    refine wpAnyH_take (i := 13) (oi := _) (v := ?_) rfl (by kernel_rfl) (by kernel_rfl) (by kernel_rfl) (fun _ _ _ h => h) (Or.inl ⟨by rfl, ?_⟩) (by assumption) ?_
    rotate_left
    · (intro w hSw; (try dsimp only at hSw); go_simp <;> with_reducible rfl)
    try simp only [Act.put]
    refine wpAnyH_take (i := 14) (oi := _) (v := ?_) rfl (by kernel_rfl) (by kernel_rfl) (by kernel_rfl) (fun _ _ _ h => h) (Or.inl ⟨by rfl, ?_⟩) (by assumption) ?_
    rotate_left
    · (intro w hSw; (try dsimp only at hSw); go_simp <;> with_reducible rfl)
    try simp only [Act.put]
    refine wpAnyH_take (i := 15) (oi := _) (v := ?_) rfl (by kernel_rfl) (by kernel_rfl) (by kernel_rfl) (fun _ _ _ h => h) (Or.inl ⟨by rfl, ?_⟩) (by assumption) ?_
    rotate_left
    · (intro w hSw; (try dsimp only at hSw); go_simp <;> with_reducible rfl)
    try simp only [Act.put]
    refine wpAnyH_take (i := 16) (oi := _) (v := ?_) rfl (by kernel_rfl) (by kernel_rfl) (by kernel_rfl) (fun _ _ _ h => h) (Or.inl ⟨by rfl, ?_⟩) (by assumption) ?_
    rotate_left
    · (intro w hSw; (try dsimp only at hSw); go_simp <;> with_reducible rfl)
    try simp only [Act.put]
    refine wpAnyH_take (i := 17) (oi := _) (v := ?_) rfl (by kernel_rfl) (by kernel_rfl) (by kernel_rfl) (fun _ _ _ h => h) (Or.inl ⟨by rfl, ?_⟩) (by assumption) ?_
    rotate_left
    · (intro w hSw; (try dsimp only at hSw); go_simp <;> with_reducible rfl)
    try simp only [Act.put]
    refine wpAnyH_take (i := 19) (oi := _) (v := ?_) rfl (by kernel_rfl) (by kernel_rfl) (by kernel_rfl) (fun _ _ _ h => h) (Or.inl ⟨by rfl, ?_⟩) (by assumption) ?_
    rotate_left
    · (intro w hSw; (try dsimp only at hSw); go_simp <;> with_reducible rfl)
    try simp only [Act.put]
    refine wpAnyH_take (i := 20) (oi := _) (v := ?_) rfl (by kernel_rfl) (by kernel_rfl) (by kernel_rfl) (fun _ _ _ h => h) (Or.inl ⟨by rfl, ?_⟩) (by assumption) ?_
    rotate_left
    · (intro w hSw; (try dsimp only at hSw); go_simp <;> with_reducible rfl)
    try simp only [Act.put]
    refine wpAnyH_take (i := 24) (oi := _) (v := ?_) rfl (by kernel_rfl) (by kernel_rfl) (by kernel_rfl) (fun _ _ _ h => h) (Or.inl ⟨by rfl, ?_⟩) (by assumption) ?_
    rotate_left
    · (intro w hSw; (try dsimp only at hSw); go_simp <;> with_reducible rfl)
    try simp only [Act.put]
    refine wpAnyH_take (i := 25) (oi := _) (v := ?_) rfl (by kernel_rfl) (by kernel_rfl) (by kernel_rfl) (fun _ _ _ h => h) (Or.inl ⟨by rfl, ?_⟩) (by assumption) ?_
    rotate_left
    · (intro w hSw; (try dsimp only at hSw); go_simp <;> with_reducible rfl)
    try simp only [Act.put]
    refine wpAnyH_take (i := 26) (oi := _) (v := ?_) rfl (by kernel_rfl) (by kernel_rfl) (by kernel_rfl) (fun _ _ _ h => h) (Or.inl ⟨by rfl, ?_⟩) (by assumption) ?_
    rotate_left
    · (intro w hSw; (try dsimp only at hSw); go_simp <;> with_reducible rfl)
    try simp only [Act.put]
    refine wpAnyH_take (i := 29) (oi := _) (v := ?_) rfl (by kernel_rfl) (by kernel_rfl) (by kernel_rfl) (fun _ _ _ h => h) (Or.inl ⟨by rfl, ?_⟩) (by assumption) ?_
    rotate_left
    · (intro w hSw; (try dsimp only at hSw); go_simp <;> with_reducible rfl)
    try simp only [Act.put]
    refine wpAnyH_take (i := 30) (oi := _) (v := ?_) rfl (by kernel_rfl) (by kernel_rfl) (by kernel_rfl) (fun _ _ _ h => h) (Or.inl ⟨by rfl, ?_⟩) (by assumption) ?_
    rotate_left
    · (intro w hSw; (try dsimp only at hSw); go_simp <;> with_reducible rfl)
    try simp only [Act.put]
    refine wpAnyH_take (i := 32) (oi := _) (v := ?_) rfl (by kernel_rfl) (by kernel_rfl) (by kernel_rfl) (fun _ _ _ h => h) (Or.inl ⟨by rfl, ?_⟩) (by assumption) ?_
    rotate_left
    · (intro w hSw; (try dsimp only at hSw); go_simp <;> with_reducible rfl)
    try simp only [Act.put]
    refine wpAnyH_take (i := 33) (oi := _) (v := ?_) rfl (by kernel_rfl) (by kernel_rfl) (by kernel_rfl) (fun _ _ _ h => h) (Or.inl ⟨by rfl, ?_⟩) (by assumption) ?_
    rotate_left
    · (intro w hSw; (try dsimp only at hSw); go_simp <;> with_reducible rfl)
    try simp only [Act.put]
    refine wpAnyH_take (i := 34) (oi := _) (v := ?_) rfl (by kernel_rfl) (by kernel_rfl) (by kernel_rfl) (fun _ _ _ h => h) (Or.inl ⟨by rfl, ?_⟩) (by assumption) ?_
    rotate_left
    · (intro w hSw; (try dsimp only at hSw); go_simp <;> with_reducible rfl)
    try simp only [Act.put]
    refine wpAnyH_take (i := 35) (oi := _) (v := ?_) rfl (by kernel_rfl) (by kernel_rfl) (by kernel_rfl) (fun _ _ _ h => h) (Or.inl ⟨by rfl, ?_⟩) (by assumption) ?_
    rotate_left
    · (intro w hSw; (try dsimp only at hSw); go_simp <;> with_reducible rfl)
    try simp only [Act.put]
    refine wpAnyH_take (i := 36) (oi := _) (v := ?_) rfl (by kernel_rfl) (by kernel_rfl) (by kernel_rfl) (fun _ _ _ h => h) (Or.inl ⟨by rfl, ?_⟩) (by assumption) ?_
    rotate_left
    · (intro w hSw; (try dsimp only at hSw); go_simp <;> with_reducible rfl)
    try simp only [Act.put]
    refine wpAnyH_take (i := 37) (oi := _) (v := ?_) rfl (by kernel_rfl) (by kernel_rfl) (by kernel_rfl) (fun _ _ _ h => h) (Or.inl ⟨by rfl, ?_⟩) (by assumption) ?_
    rotate_left
    · (intro w hSw; (try dsimp only at hSw); go_simp <;> with_reducible rfl)
    try simp only [Act.put]
    refine wpAnyH_take (i := 38) (oi := _) (v := ?_) rfl (by kernel_rfl) (by kernel_rfl) (by kernel_rfl) (fun _ _ _ h => h) (Or.inl ⟨by rfl, ?_⟩) (by assumption) ?_
    rotate_left
    · (intro w hSw; (try dsimp only at hSw); go_simp <;> with_reducible rfl)
    try simp only [Act.put]
    refine wpAnyH_take (i := 40) (oi := _) (v := ?_) rfl (by kernel_rfl) (by kernel_rfl) (by kernel_rfl) (fun _ _ _ h => h) (Or.inl ⟨by rfl, ?_⟩) (by assumption) ?_
    rotate_left
    · (intro w hSw; (try dsimp only at hSw); go_simp <;> with_reducible rfl)
    try simp only [Act.put]
    refine wpAnyH_take (i := 41) (oi := _) (v := ?_) rfl (by kernel_rfl) (by kernel_rfl) (by kernel_rfl) (fun _ _ _ h => h) (Or.inl ⟨by rfl, ?_⟩) (by assumption) ?_
    rotate_left
    · (intro w hSw; (try dsimp only at hSw); go_simp <;> with_reducible rfl)
    try simp only [Act.put]
    refine wpAnyH_take (i := 42) (oi := _) (v := ?_) rfl (by kernel_rfl) (by kernel_rfl) (by kernel_rfl) (fun _ _ _ h => h) (Or.inl ⟨by rfl, ?_⟩) (by assumption) ?_
    rotate_left
    · (intro w hSw; (try dsimp only at hSw); go_simp <;> with_reducible rfl)
    try simp only [Act.put]
    refine wpAnyH_take (i := 43) (oi := _) (v := ?_) rfl (by kernel_rfl) (by kernel_rfl) (by kernel_rfl) (fun _ _ _ h => h) (Or.inl ⟨by rfl, ?_⟩) (by assumption) ?_
    rotate_left
    · (intro w hSw; (try dsimp only at hSw); go_simp <;> with_reducible rfl)
    try simp only [Act.put]
    refine wpAnyH_take (i := 44) (oi := _) (v := ?_) rfl (by kernel_rfl) (by kernel_rfl) (by kernel_rfl) (fun _ _ _ h => h) (Or.inl ⟨by rfl, ?_⟩) (by assumption) ?_
    rotate_left
    · (intro w hSw; (try dsimp only at hSw); go_simp <;> with_reducible rfl)
    try simp only [Act.put]
    refine wpAnyH_take (i := 45) (oi := _) (v := ?_) rfl (by kernel_rfl) (by kernel_rfl) (by kernel_rfl) (fun _ _ _ h => h) (Or.inl ⟨by rfl, ?_⟩) (by assumption) ?_
    rotate_left
    · (intro w hSw; (try dsimp only at hSw); go_simp <;> with_reducible rfl)
    try simp only [Act.put]
    refine wpAnyH_take (i := 46) (oi := _) (v := ?_) rfl (by kernel_rfl) (by kernel_rfl) (by kernel_rfl) (fun _ _ _ h => h) (Or.inl ⟨by rfl, ?_⟩) (by assumption) ?_
    rotate_left
    · (intro w hSw; (try dsimp only at hSw); go_simp <;> with_reducible rfl)
    try simp only [Act.put]
    refine wpAnyH_take (i := 48) (oi := _) (v := ?_) rfl (by kernel_rfl) (by kernel_rfl) (by kernel_rfl) (fun _ _ _ h => h) (Or.inl ⟨by rfl, ?_⟩) (by assumption) ?_
    rotate_left
    · (intro w hSw; (try dsimp only at hSw); go_simp <;> with_reducible rfl)
    try simp only [Act.put]
    refine wpAnyH_take (i := 49) (oi := _) (v := ?_) rfl (by kernel_rfl) (by kernel_rfl) (by kernel_rfl) (fun _ _ _ h => h) (Or.inl ⟨by rfl, ?_⟩) (by assumption) ?_
    rotate_left
    · (intro w hSw; (try dsimp only at hSw); go_simp <;> with_reducible rfl)
    try simp only [Act.put]
    refine wpAnyH_take (i := 53) (oi := _) (v := ?_) rfl (by kernel_rfl) (by kernel_rfl) (by kernel_rfl) (fun _ _ _ h => h) (Or.inl ⟨by rfl, ?_⟩) (by assumption) ?_
    rotate_left
    · (intro w hSw; (try dsimp only at hSw); go_simp <;> with_reducible rfl)
    try simp only [Act.put]
    refine wpAnyH_take (i := 54) (oi := _) (v := ?_) rfl (by kernel_rfl) (by kernel_rfl) (by kernel_rfl) (fun _ _ _ h => h) (Or.inl ⟨by rfl, ?_⟩) (by assumption) ?_
    rotate_left
    · (intro w hSw; (try dsimp only at hSw); go_simp <;> with_reducible rfl)
    try simp only [Act.put]
    refine wpAnyH_take (i := 55) (oi := _) (v := ?_) rfl (by kernel_rfl) (by kernel_rfl) (by kernel_rfl) (fun _ _ _ h => h) (Or.inl ⟨by rfl, ?_⟩) (by assumption) ?_
    rotate_left
    · (intro w hSw; (try dsimp only at hSw); go_simp <;> with_reducible rfl)
    try simp only [Act.put]
    refine wpAnyH_ready (rs := [2]) (by kernel_rfl) (by simp) ?_
    refine AllReadyH.cons (o := _) rfl (fun K hK => ?_) ?_
    · have gK := hHeld.2.2.2.2.2.2.2.2.2.2
      go_simp
      refine (wint_any n _ (HEB.out.kp0 (kpo gK)) HVa.out.n).mono ?_
      rintro e wq1 ⟨rfl, k2⟩
      try go_wp2_with fail
      refine hK.out _ _ ?_ (fun hHeld2 => ?_)
      · exact ⟨ck HBa.out (kpt gK k2) 0 rfl, ck HBa.out (kpt gK k2) 1 rfl, ck HBa.out (kpt gK k2) 2 rfl, ck HBa.out (kpt gK k2) 3 rfl, ck HBa.out (kpt gK k2) 4 rfl, ck HBb.out (kpt gK k2) 0 rfl, ck HBb.out (kpt gK k2) 1 rfl, ck HBb.out (kpt gK k2) 2 rfl, ck HBb.out (kpt gK k2) 3 rfl, ck HBb.out (kpt gK k2) 4 rfl, Lib.hid (kpt gK k2)⟩
      clear hK K hHeld gK
      have hHeld := hHeld2
      clear hHeld2
      clear k2
      try simp only [Act.put, List.setIfInBounds_toArray, List.set_cons_zero, List.set_cons_succ]
      refine wpAnyH_ready (rs := [10]) (by kernel_rfl) (by simp) ?_
      refine AllReadyH.cons (o := _) rfl (fun K hK => ?_) ?_
      · have gK := hHeld.2.2.2.2.2.2.2.2.2.2
        go_simp
        rw [HSX.out]
        refine (wtext_any (s.take 100) _ (HEB.out.kp0 (kpo gK)) (by simp; omega)).mono ?_
        rintro e wq2 ⟨rfl, k2⟩
        try go_wp2_with fail
        refine hK.out _ _ ?_ (fun hHeld2 => ?_)
        · exact ⟨ck HBa.out (kpt gK k2) 0 rfl, ck HBa.out (kpt gK k2) 1 rfl, ck HBa.out (kpt gK k2) 2 rfl, ck HBa.out (kpt gK k2) 3 rfl, ck HBa.out (kpt gK k2) 4 rfl, ck HBb.out (kpt gK k2) 0 rfl, ck HBb.out (kpt gK k2) 1 rfl, ck HBb.out (kpt gK k2) 2 rfl, ck HBb.out (kpt gK k2) 3 rfl, ck HBb.out (kpt gK k2) 4 rfl, Lib.hid (kpt gK k2)⟩
        clear hK K hHeld gK
        have hHeld := hHeld2
        clear hHeld2
        clear k2
        try simp only [Act.put, List.setIfInBounds_toArray, List.set_cons_zero, List.set_cons_succ]
        refine wpAnyH_ready (rs := [18]) (by kernel_rfl) (by simp) ?_
        refine AllReadyH.cons (o := _) rfl (fun K hK => ?_) ?_
        · have gK := hHeld.2.2.2.2.2.2.2.2.2.2
          go_simp
          rw [HXL.out]
          refine (wints_any _ xs _ (HEB.out.kp0 (kpo gK)) (HVa.out.row.keep (kpo gK)) HVa.out.i (by omega)).mono ?_
          rintro e wq3 ⟨rfl, k2⟩
          try go_wp2_with fail
          refine hK.out _ _ ?_ (fun hHeld2 => ?_)
          · exact ⟨ck HBa.out (kpt gK k2) 0 rfl, ck HBa.out (kpt gK k2) 1 rfl, ck HBa.out (kpt gK k2) 2 rfl, ck HBa.out (kpt gK k2) 3 rfl, ck HBa.out (kpt gK k2) 4 rfl, ck HBb.out (kpt gK k2) 0 rfl, ck HBb.out (kpt gK k2) 1 rfl, ck HBb.out (kpt gK k2) 2 rfl, ck HBb.out (kpt gK k2) 3 rfl, ck HBb.out (kpt gK k2) 4 rfl, Lib.hid (kpt gK k2)⟩
          clear hK K hHeld gK
          have hHeld := hHeld2
          clear hHeld2
          clear k2
          try simp only [Act.put, List.setIfInBounds_toArray, List.set_cons_zero, List.set_cons_succ]
          refine wpAnyH_ready (rs := [21]) (by kernel_rfl) (by simp) ?_
          refine AllReadyH.cons (o := _) rfl (fun K hK => ?_) ?_
          · have gK := hHeld.2.2.2.2.2.2.2.2.2.2
            go_simp
            refine (cut_any _ ts _ (HVa.out.t.keep (kpo gK)) HVa.out.tn HVa.out.tl).mono ?_
            rintro e wq4 ⟨vq4, rfl, hv4, k2⟩
            have HQ4 := Lib.hid (own_isRow hv4)
            clear hv4
            try go_wp2_with fail
            refine hK.out _ _ ?_ (fun hHeld2 => ?_)
            · exact ⟨ck HBa.out (kpt gK k2) 0 rfl, ck HBa.out (kpt gK k2) 1 rfl, ck HBa.out (kpt gK k2) 2 rfl, ck HBa.out (kpt gK k2) 3 rfl, ck HBa.out (kpt gK k2) 4 rfl, ck HBb.out (kpt gK k2) 0 rfl, ck HBb.out (kpt gK k2) 1 rfl, ck HBb.out (kpt gK k2) 2 rfl, ck HBb.out (kpt gK k2) 3 rfl, ck HBb.out (kpt gK k2) 4 rfl, Lib.hid (kpt gK k2)⟩
            clear hK K hHeld gK
            have hHeld := hHeld2
            clear hHeld2
            clear k2
            try simp only [Act.put, List.setIfInBounds_toArray, List.set_cons_zero, List.set_cons_succ]
            refine wpAnyH_ready (rs := [22]) (by kernel_rfl) (by simp) ?_
            refine AllReadyH.cons (o := _) rfl (fun K hK => ?_) ?_
            · have gK := hHeld.2.2.2.2.2.2.2.2.2.2
              go_simp
              refine (wtexts_any _ (cutL ts) _ (HEB.out.kp0 (kpo gK)) (HQ4.out) (fun x hx => by have := cutL_mem ts x hx; omega) (by have := cutL_len ts; omega)).mono ?_
              rintro e wq5 ⟨rfl, k2⟩
              try go_wp2_with fail
              refine hK.out _ _ ?_ (fun hHeld2 => ?_)
              · exact ⟨ck HBa.out (kpt gK k2) 0 rfl, ck HBa.out (kpt gK k2) 1 rfl, ck HBa.out (kpt gK k2) 2 rfl, ck HBa.out (kpt gK k2) 3 rfl, ck HBa.out (kpt gK k2) 4 rfl, ck HBb.out (kpt gK k2) 0 rfl, ck HBb.out (kpt gK k2) 1 rfl, ck HBb.out (kpt gK k2) 2 rfl, ck HBb.out (kpt gK k2) 3 rfl, ck HBb.out (kpt gK k2) 4 rfl, Lib.hid (kpt gK k2)⟩
              clear hK K hHeld gK
              have hHeld := hHeld2
              clear hHeld2
              clear k2
              try simp only [Act.put, List.setIfInBounds_toArray, List.set_cons_zero, List.set_cons_succ]
              refine wpAnyH_ready (rs := [23, 31]) (by kernel_rfl) (by simp) ?_
              refine AllReadyH.cons (o := _) rfl (fun K hK => ?_) ?_
              · have gK := hHeld.2.2.2.2.2.2.2.2.2.2
                go_simp
                refine hK.out _ _ ?_ (fun hHeld2 => ?_)
                · exact ⟨ck HBa.out (kpa gK _) 0 rfl, ck HBa.out (kpa gK _) 1 rfl, ck HBa.out (kpa gK _) 2 rfl, ck HBa.out (kpa gK _) 3 rfl, ck HBa.out (kpa gK _) 4 rfl, ck HBb.out (kpa gK _) 0 rfl, ck HBb.out (kpa gK _) 1 rfl, ck HBb.out (kpa gK _) 2 rfl, ck HBb.out (kpa gK _) 3 rfl, ck HBb.out (kpa gK _) 4 rfl, Lib.hid (kpa gK _)⟩
                have KW : Hid (Kp w1 (wq5.alloc (.cells #[.string ⟨(Wr.wInt n).toArray⟩, .string ⟨(Wr.wText (s.take 100)).toArray⟩, .string ⟨(Wr.wInts xs).toArray⟩, .string ⟨(Wr.wTexts (cutL ts)).toArray⟩] 9)) none) := kpa gK _
                clear hK K hHeld hHeld2 gK
                have HG_6 := Lib.hid (heap_alloc_new wq5 (.cells #[.string ⟨(Wr.wInt n).toArray⟩, .string ⟨(Wr.wText (s.take 100)).toArray⟩, .string ⟨(Wr.wInts xs).toArray⟩, .string ⟨(Wr.wTexts (cutL ts)).toArray⟩] 9))
                have HEB_6 := Lib.hid (HEB.out.kp0 KW.out)
                have HVa_6 := Lib.hid (HVa.out.keep KW.out)
                have HVb_6 := Lib.hid (HVb.out.keep KW.out)
                have HBa_6 := Lib.hid ((KW.out.block _ (lt_of_block HBa.out) (by simp)).trans HBa.out)
                have HBb_6 := Lib.hid ((KW.out.block _ (lt_of_block HBb.out) (by simp)).trans HBb.out)
                have KWB_6 := Lib.hid (KWB.out.trans KW.out)
                refine wpAnyH_mono (S' := fun w' => w'.cell? ⟨w.heap.size, 0, none⟩ = some (.int .u8 c) ∧ w'.cell? ⟨w.heap.size, 1, none⟩ = some (.int .i64 n) ∧ w'.cell? ⟨w.heap.size, 2, none⟩ = some (.string ⟨s.toArray⟩) ∧ w'.cell? ⟨w.heap.size, 3, none⟩ = some (.slice a3 l3 c3) ∧ w'.cell? ⟨w.heap.size, 4, none⟩ = some (v4) ∧ w'.cell? ⟨w.heap.size + 1, 0, none⟩ = some (.int .u8 c2) ∧ w'.cell? ⟨w.heap.size + 1, 1, none⟩ = some (.int .i64 n2) ∧ w'.cell? ⟨w.heap.size + 1, 2, none⟩ = some (.string ⟨s2.toArray⟩) ∧ w'.cell? ⟨w.heap.size + 1, 3, none⟩ = some (.slice b3 m3 d3) ∧ w'.cell? ⟨w.heap.size + 1, 4, none⟩ = some (u4) ∧ w'.cell? ⟨wq5.heap.size, j, none⟩ = some (.string ⟨(serN j n s xs ts).toArray⟩) ∧ Hid (Kp (wq5.alloc (.cells #[.string ⟨(Wr.wInt n).toArray⟩, .string ⟨(Wr.wText (s.take 100)).toArray⟩, .string ⟨(Wr.wInts xs).toArray⟩, .string ⟨(Wr.wTexts (cutL ts)).toArray⟩] 9)) w' none)) (fun w' h => ?_) _ _ _ _ ?_
                · exact ⟨h.1, h.2.1, h.2.2.1, h.2.2.2.1, h.2.2.2.2.1, h.2.2.2.2.2.1, h.2.2.2.2.2.2.1, h.2.2.2.2.2.2.2.1, h.2.2.2.2.2.2.2.2.1, h.2.2.2.2.2.2.2.2.2.1, Lib.hid (KW.out.trans (h.2.2.2.2.2.2.2.2.2.2.2.out))⟩
                have hHeld : (fun w' => w'.cell? ⟨w.heap.size, 0, none⟩ = some (.int .u8 c) ∧ w'.cell? ⟨w.heap.size, 1, none⟩ = some (.int .i64 n) ∧ w'.cell? ⟨w.heap.size, 2, none⟩ = some (.string ⟨s.toArray⟩) ∧ w'.cell? ⟨w.heap.size, 3, none⟩ = some (.slice a3 l3 c3) ∧ w'.cell? ⟨w.heap.size, 4, none⟩ = some (v4) ∧ w'.cell? ⟨w.heap.size + 1, 0, none⟩ = some (.int .u8 c2) ∧ w'.cell? ⟨w.heap.size + 1, 1, none⟩ = some (.int .i64 n2) ∧ w'.cell? ⟨w.heap.size + 1, 2, none⟩ = some (.string ⟨s2.toArray⟩) ∧ w'.cell? ⟨w.heap.size + 1, 3, none⟩ = some (.slice b3 m3 d3) ∧ w'.cell? ⟨w.heap.size + 1, 4, none⟩ = some (u4) ∧ w'.cell? ⟨wq5.heap.size, j, none⟩ = some (.string ⟨(serN j n s xs ts).toArray⟩) ∧ Hid (Kp (wq5.alloc (.cells #[.string ⟨(Wr.wInt n).toArray⟩, .string ⟨(Wr.wText (s.take 100)).toArray⟩, .string ⟨(Wr.wInts xs).toArray⟩, .string ⟨(Wr.wTexts (cutL ts)).toArray⟩] 9)) w' none)) (wq5.alloc (.cells #[.string ⟨(Wr.wInt n).toArray⟩, .string ⟨(Wr.wText (s.take 100)).toArray⟩, .string ⟨(Wr.wInts xs).toArray⟩, .string ⟨(Wr.wTexts (cutL ts)).toArray⟩] 9)) := by
                  exact ⟨ck HBa_6.out (Kp.refl _ _) 0 rfl, ck HBa_6.out (Kp.refl _ _) 1 rfl, ck HBa_6.out (Kp.refl _ _) 2 rfl, ck HBa_6.out (Kp.refl _ _) 3 rfl, ck HBa_6.out (Kp.refl _ _) 4 rfl, ck HBb_6.out (Kp.refl _ _) 0 rfl, ck HBb_6.out (Kp.refl _ _) 1 rfl, ck HBb_6.out (Kp.refl _ _) 2 rfl, ck HBb_6.out (Kp.refl _ _) 3 rfl, ck HBb_6.out (Kp.refl _ _) 4 rfl, ck HG_6.out (Kp.refl _ _) j (serN_get j n s xs ts HJ.out), Lib.hid (Kp.refl _ _)⟩
                try simp only [Act.put, List.setIfInBounds_toArray, List.set_cons_zero, List.set_cons_succ]
                refine wpAnyH_take (i := 27) (oi := _) (v := ?_) rfl (by kernel_rfl) (by kernel_rfl) (by kernel_rfl) (fun _ _ _ h => h) (Or.inl ⟨by rfl, ?_⟩) (by assumption) ?_
                rotate_left
                · (intro w hSw; (try dsimp only at hSw); go_simp <;> with_reducible rfl)
                try simp only [Act.put, List.setIfInBounds_toArray]
                refine wpAnyH_take (i := 28) (oi := _) (v := ?_) rfl (by kernel_rfl) (by kernel_rfl) (by kernel_rfl) (fun _ _ _ h => h) (Or.inl ⟨by rfl, ?_⟩) (by assumption) ?_
                rotate_left
                · (intro w hSw; (try dsimp only at hSw); go_simp <;> with_reducible rfl)
                try simp only [Act.put]
                refine wpAnyH_ready (rs := [31]) (by kernel_rfl) (by simp) ?_
                refine AllReadyH.cons (o := _) rfl (fun K hK => ?_) ?_
                · have gK := hHeld.2.2.2.2.2.2.2.2.2.2.2
                  go_simp
                  refine (wint_any n2 _ (HEB_6.out.kp0 (kpo gK)) HVb_6.out.n).mono ?_
                  rintro e wq7 ⟨rfl, k2⟩
                  try go_wp2_with fail
                  refine hK.out _ _ ?_ (fun hHeld2 => ?_)
                  · exact ⟨ck HBa_6.out (kpt gK k2) 0 rfl, ck HBa_6.out (kpt gK k2) 1 rfl, ck HBa_6.out (kpt gK k2) 2 rfl, ck HBa_6.out (kpt gK k2) 3 rfl, ck HBa_6.out (kpt gK k2) 4 rfl, ck HBb_6.out (kpt gK k2) 0 rfl, ck HBb_6.out (kpt gK k2) 1 rfl, ck HBb_6.out (kpt gK k2) 2 rfl, ck HBb_6.out (kpt gK k2) 3 rfl, ck HBb_6.out (kpt gK k2) 4 rfl, ck HG_6.out (kpt gK k2) j (serN_get j n s xs ts HJ.out), Lib.hid (kpt gK k2)⟩
                  clear hK K hHeld gK
                  have hHeld := hHeld2
                  clear hHeld2
                  clear k2
                  try simp only [Act.put, List.setIfInBounds_toArray, List.set_cons_zero, List.set_cons_succ]
                  refine wpAnyH_ready (rs := [39]) (by kernel_rfl) (by simp) ?_
                  refine AllReadyH.cons (o := _) rfl (fun K hK => ?_) ?_
                  · have gK := hHeld.2.2.2.2.2.2.2.2.2.2.2
                    go_simp
                    rw [HSX2.out]
                    refine (wtext_any (s2.take 100) _ (HEB_6.out.kp0 (kpo gK)) (by simp; omega)).mono ?_
                    rintro e wq8 ⟨rfl, k2⟩
                    try go_wp2_with fail
                    refine hK.out _ _ ?_ (fun hHeld2 => ?_)
                    · exact ⟨ck HBa_6.out (kpt gK k2) 0 rfl, ck HBa_6.out (kpt gK k2) 1 rfl, ck HBa_6.out (kpt gK k2) 2 rfl, ck HBa_6.out (kpt gK k2) 3 rfl, ck HBa_6.out (kpt gK k2) 4 rfl, ck HBb_6.out (kpt gK k2) 0 rfl, ck HBb_6.out (kpt gK k2) 1 rfl, ck HBb_6.out (kpt gK k2) 2 rfl, ck HBb_6.out (kpt gK k2) 3 rfl, ck HBb_6.out (kpt gK k2) 4 rfl, ck HG_6.out (kpt gK k2) j (serN_get j n s xs ts HJ.out), Lib.hid (kpt gK k2)⟩
                    clear hK K hHeld gK
                    have hHeld := hHeld2
                    clear hHeld2
                    clear k2
                    try simp only [Act.put, List.setIfInBounds_toArray, List.set_cons_zero, List.set_cons_succ]
                    refine wpAnyH_ready (rs := [47]) (by kernel_rfl) (by simp) ?_
                    refine AllReadyH.cons (o := _) rfl (fun K hK => ?_) ?_
                    · have gK := hHeld.2.2.2.2.2.2.2.2.2.2.2
                      go_simp
                      rw [HXL2.out]
                      refine (wints_any _ xs2 _ (HEB_6.out.kp0 (kpo gK)) (HVb_6.out.row.keep (kpo gK)) HVb_6.out.i (by omega)).mono ?_
                      rintro e wq9 ⟨rfl, k2⟩
                      try go_wp2_with fail
                      refine hK.out _ _ ?_ (fun hHeld2 => ?_)
                      · exact ⟨ck HBa_6.out (kpt gK k2) 0 rfl, ck HBa_6.out (kpt gK k2) 1 rfl, ck HBa_6.out (kpt gK k2) 2 rfl, ck HBa_6.out (kpt gK k2) 3 rfl, ck HBa_6.out (kpt gK k2) 4 rfl, ck HBb_6.out (kpt gK k2) 0 rfl, ck HBb_6.out (kpt gK k2) 1 rfl, ck HBb_6.out (kpt gK k2) 2 rfl, ck HBb_6.out (kpt gK k2) 3 rfl, ck HBb_6.out (kpt gK k2) 4 rfl, ck HG_6.out (kpt gK k2) j (serN_get j n s xs ts HJ.out), Lib.hid (kpt gK k2)⟩
                      clear hK K hHeld gK
                      have hHeld := hHeld2
                      clear hHeld2
                      clear k2
                      try simp only [Act.put, List.setIfInBounds_toArray, List.set_cons_zero, List.set_cons_succ]
                      refine wpAnyH_ready (rs := [50]) (by kernel_rfl) (by simp) ?_
                      refine AllReadyH.cons (o := _) rfl (fun K hK => ?_) ?_
                      · have gK := hHeld.2.2.2.2.2.2.2.2.2.2.2
                        go_simp
                        refine (cut_any _ ts2 _ (HVb_6.out.t.keep (kpo gK)) HVb_6.out.tn HVb_6.out.tl).mono ?_
                        rintro e wq10 ⟨vq10, rfl, hv10, k2⟩
                        have HQ10 := Lib.hid (own_isRow hv10)
                        clear hv10
                        try go_wp2_with fail
                        refine hK.out _ _ ?_ (fun hHeld2 => ?_)
                        · exact ⟨ck HBa_6.out (kpt gK k2) 0 rfl, ck HBa_6.out (kpt gK k2) 1 rfl, ck HBa_6.out (kpt gK k2) 2 rfl, ck HBa_6.out (kpt gK k2) 3 rfl, ck HBa_6.out (kpt gK k2) 4 rfl, ck HBb_6.out (kpt gK k2) 0 rfl, ck HBb_6.out (kpt gK k2) 1 rfl, ck HBb_6.out (kpt gK k2) 2 rfl, ck HBb_6.out (kpt gK k2) 3 rfl, ck HBb_6.out (kpt gK k2) 4 rfl, ck HG_6.out (kpt gK k2) j (serN_get j n s xs ts HJ.out), Lib.hid (kpt gK k2)⟩
                        clear hK K hHeld gK
                        have hHeld := hHeld2
                        clear hHeld2
                        clear k2
                        try simp only [Act.put, List.setIfInBounds_toArray, List.set_cons_zero, List.set_cons_succ]
                        refine wpAnyH_ready (rs := [51]) (by kernel_rfl) (by simp) ?_
                        refine AllReadyH.cons (o := _) rfl (fun K hK => ?_) ?_
                        · have gK := hHeld.2.2.2.2.2.2.2.2.2.2.2
                          go_simp
                          refine (wtexts_any _ (cutL ts2) _ (HEB_6.out.kp0 (kpo gK)) (HQ10.out) (fun x hx => by have := cutL_mem ts2 x hx; omega) (by have := cutL_len ts2; omega)).mono ?_
                          rintro e wq11 ⟨rfl, k2⟩
                          try go_wp2_with fail
                          refine hK.out _ _ ?_ (fun hHeld2 => ?_)
                          · exact ⟨ck HBa_6.out (kpt gK k2) 0 rfl, ck HBa_6.out (kpt gK k2) 1 rfl, ck HBa_6.out (kpt gK k2) 2 rfl, ck HBa_6.out (kpt gK k2) 3 rfl, ck HBa_6.out (kpt gK k2) 4 rfl, ck HBb_6.out (kpt gK k2) 0 rfl, ck HBb_6.out (kpt gK k2) 1 rfl, ck HBb_6.out (kpt gK k2) 2 rfl, ck HBb_6.out (kpt gK k2) 3 rfl, ck HBb_6.out (kpt gK k2) 4 rfl, ck HG_6.out (kpt gK k2) j (serN_get j n s xs ts HJ.out), Lib.hid (kpt gK k2)⟩
                          clear hK K hHeld gK
                          have hHeld := hHeld2
                          clear hHeld2
                          clear k2
                          try simp only [Act.put, List.setIfInBounds_toArray, List.set_cons_zero, List.set_cons_succ]
                          refine wpAnyH_take (i := 58) (oi := _) (v := ?_) rfl (by kernel_rfl) (by kernel_rfl) (by kernel_rfl) (fun _ _ _ h => h) (Or.inl ⟨by rfl, ?_⟩) (by assumption) ?_
                          rotate_left
                          · (intro w hSw; (try dsimp only at hSw); go_simp <;> with_reducible rfl)
                          try simp only [Act.put, List.setIfInBounds_toArray]
                          refine wpAnyH_ready (rs := [52]) (by kernel_rfl) (by simp) ?_
                          refine AllReadyH.cons (o := _) rfl (fun K hK => ?_) ?_
                          · have gK := hHeld.2.2.2.2.2.2.2.2.2.2.2
                            go_simp
                            refine hK.out _ _ ?_ (fun hHeld2 => ?_)
                            · exact ⟨ck HBa_6.out (kpa gK _) 0 rfl, ck HBa_6.out (kpa gK _) 1 rfl, ck HBa_6.out (kpa gK _) 2 rfl, ck HBa_6.out (kpa gK _) 3 rfl, ck HBa_6.out (kpa gK _) 4 rfl, ck HBb_6.out (kpa gK _) 0 rfl, ck HBb_6.out (kpa gK _) 1 rfl, ck HBb_6.out (kpa gK _) 2 rfl, ck HBb_6.out (kpa gK _) 3 rfl, ck HBb_6.out (kpa gK _) 4 rfl, ck HG_6.out (kpa gK _) j (serN_get j n s xs ts HJ.out), Lib.hid (kpa gK _)⟩
                            have KW : Hid (Kp (wq5.alloc (.cells #[.string ⟨(Wr.wInt n).toArray⟩, .string ⟨(Wr.wText (s.take 100)).toArray⟩, .string ⟨(Wr.wInts xs).toArray⟩, .string ⟨(Wr.wTexts (cutL ts)).toArray⟩] 9)) (wq11.alloc (.cells #[.string ⟨(Wr.wInt n2).toArray⟩, .string ⟨(Wr.wText (s2.take 100)).toArray⟩, .string ⟨(Wr.wInts xs2).toArray⟩, .string ⟨(Wr.wTexts (cutL ts2)).toArray⟩] 9)) none) := kpa gK _
                            clear hK K hHeld hHeld2 gK
                            have HG_12 := Lib.hid (heap_alloc_new wq11 (.cells #[.string ⟨(Wr.wInt n2).toArray⟩, .string ⟨(Wr.wText (s2.take 100)).toArray⟩, .string ⟨(Wr.wInts xs2).toArray⟩, .string ⟨(Wr.wTexts (cutL ts2)).toArray⟩] 9))
                            have HEB_12 := Lib.hid (HEB_6.out.kp0 KW.out)
                            have HVa_12 := Lib.hid (HVa_6.out.keep KW.out)
                            have HVb_12 := Lib.hid (HVb_6.out.keep KW.out)
                            have HBa_12 := Lib.hid ((KW.out.block _ (lt_of_block HBa_6.out) (by simp)).trans HBa_6.out)
                            have HBb_12 := Lib.hid ((KW.out.block _ (lt_of_block HBb_6.out) (by simp)).trans HBb_6.out)
                            have HX12 := Lib.hid ((KW.out.block _ (lt_of_block HG_6.out) (by simp)).trans HG_6.out)
                            have KWB_12 := Lib.hid (KWB_6.out.trans KW.out)
                            refine wpAnyH_mono (S' := fun w' => w'.cell? ⟨w.heap.size, 0, none⟩ = some (.int .u8 c) ∧ w'.cell? ⟨w.heap.size, 1, none⟩ = some (.int .i64 n) ∧ w'.cell? ⟨w.heap.size, 2, none⟩ = some (.string ⟨s.toArray⟩) ∧ w'.cell? ⟨w.heap.size, 3, none⟩ = some (.slice a3 l3 c3) ∧ w'.cell? ⟨w.heap.size, 4, none⟩ = some (v4) ∧ w'.cell? ⟨w.heap.size + 1, 0, none⟩ = some (.int .u8 c2) ∧ w'.cell? ⟨w.heap.size + 1, 1, none⟩ = some (.int .i64 n2) ∧ w'.cell? ⟨w.heap.size + 1, 2, none⟩ = some (.string ⟨s2.toArray⟩) ∧ w'.cell? ⟨w.heap.size + 1, 3, none⟩ = some (.slice b3 m3 d3) ∧ w'.cell? ⟨w.heap.size + 1, 4, none⟩ = some (u4) ∧ w'.cell? ⟨wq5.heap.size, j, none⟩ = some (.string ⟨(serN j n s xs ts).toArray⟩) ∧ w'.cell? ⟨wq11.heap.size, j, none⟩ = some (.string ⟨(serN j n2 s2 xs2 ts2).toArray⟩) ∧ Hid (Kp (wq11.alloc (.cells #[.string ⟨(Wr.wInt n2).toArray⟩, .string ⟨(Wr.wText (s2.take 100)).toArray⟩, .string ⟨(Wr.wInts xs2).toArray⟩, .string ⟨(Wr.wTexts (cutL ts2)).toArray⟩] 9)) w' none)) (fun w' h => ?_) _ _ _ _ ?_
                            · exact ⟨h.1, h.2.1, h.2.2.1, h.2.2.2.1, h.2.2.2.2.1, h.2.2.2.2.2.1, h.2.2.2.2.2.2.1, h.2.2.2.2.2.2.2.1, h.2.2.2.2.2.2.2.2.1, h.2.2.2.2.2.2.2.2.2.1, h.2.2.2.2.2.2.2.2.2.2.1, Lib.hid (KW.out.trans (h.2.2.2.2.2.2.2.2.2.2.2.2.out))⟩
                            have hHeld : (fun w' => w'.cell? ⟨w.heap.size, 0, none⟩ = some (.int .u8 c) ∧ w'.cell? ⟨w.heap.size, 1, none⟩ = some (.int .i64 n) ∧ w'.cell? ⟨w.heap.size, 2, none⟩ = some (.string ⟨s.toArray⟩) ∧ w'.cell? ⟨w.heap.size, 3, none⟩ = some (.slice a3 l3 c3) ∧ w'.cell? ⟨w.heap.size, 4, none⟩ = some (v4) ∧ w'.cell? ⟨w.heap.size + 1, 0, none⟩ = some (.int .u8 c2) ∧ w'.cell? ⟨w.heap.size + 1, 1, none⟩ = some (.int .i64 n2) ∧ w'.cell? ⟨w.heap.size + 1, 2, none⟩ = some (.string ⟨s2.toArray⟩) ∧ w'.cell? ⟨w.heap.size + 1, 3, none⟩ = some (.slice b3 m3 d3) ∧ w'.cell? ⟨w.heap.size + 1, 4, none⟩ = some (u4) ∧ w'.cell? ⟨wq5.heap.size, j, none⟩ = some (.string ⟨(serN j n s xs ts).toArray⟩) ∧ w'.cell? ⟨wq11.heap.size, j, none⟩ = some (.string ⟨(serN j n2 s2 xs2 ts2).toArray⟩) ∧ Hid (Kp (wq11.alloc (.cells #[.string ⟨(Wr.wInt n2).toArray⟩, .string ⟨(Wr.wText (s2.take 100)).toArray⟩, .string ⟨(Wr.wInts xs2).toArray⟩, .string ⟨(Wr.wTexts (cutL ts2)).toArray⟩] 9)) w' none)) (wq11.alloc (.cells #[.string ⟨(Wr.wInt n2).toArray⟩, .string ⟨(Wr.wText (s2.take 100)).toArray⟩, .string ⟨(Wr.wInts xs2).toArray⟩, .string ⟨(Wr.wTexts (cutL ts2)).toArray⟩] 9)) := by
                              exact ⟨ck HBa_12.out (Kp.refl _ _) 0 rfl, ck HBa_12.out (Kp.refl _ _) 1 rfl, ck HBa_12.out (Kp.refl _ _) 2 rfl, ck HBa_12.out (Kp.refl _ _) 3 rfl, ck HBa_12.out (Kp.refl _ _) 4 rfl, ck HBb_12.out (Kp.refl _ _) 0 rfl, ck HBb_12.out (Kp.refl _ _) 1 rfl, ck HBb_12.out (Kp.refl _ _) 2 rfl, ck HBb_12.out (Kp.refl _ _) 3 rfl, ck HBb_12.out (Kp.refl _ _) 4 rfl, ck HX12.out (Kp.refl _ _) j (serN_get j n s xs ts HJ.out), ck HG_12.out (Kp.refl _ _) j (serN_get j n2 s2 xs2 ts2 HJ.out), Lib.hid (Kp.refl _ _)⟩
                            try simp only [Act.put, List.setIfInBounds_toArray, List.set_cons_zero, List.set_cons_succ]
                            refine wpAnyH_take (i := 56) (oi := _) (v := ?_) rfl (by kernel_rfl) (by kernel_rfl) (by kernel_rfl) (fun _ _ _ h => h) (Or.inl ⟨by rfl, ?_⟩) (by assumption) ?_
                            rotate_left
                            · (intro w hSw; (try dsimp only at hSw); go_simp <;> with_reducible rfl)
                            try simp only [Act.put, List.setIfInBounds_toArray]
                            refine wpAnyH_take (i := 57) (oi := _) (v := ?_) rfl (by kernel_rfl) (by kernel_rfl) (by kernel_rfl) (fun _ _ _ h => h) (Or.inl ⟨by rfl, ?_⟩) (by assumption) ?_
                            rotate_left
                            · (intro w hSw; (try dsimp only at hSw); go_simp <;> with_reducible rfl)
                            try simp only [Act.put]
                            refine wpAnyH_ready (rs := [59]) (by kernel_rfl) (by simp) ?_
                            refine AllReadyH.cons (o := _) rfl (fun K hK => ?_) AllReadyH.nil
                            have gK := hHeld.2.2.2.2.2.2.2.2.2.2.2.2
                            go_simp
                            refine hK.out _ _ ?_ (fun hHeld2 => ?_)
                            · exact ⟨ck HBa_12.out (kpo gK) 0 rfl, ck HBa_12.out (kpo gK) 1 rfl, ck HBa_12.out (kpo gK) 2 rfl, ck HBa_12.out (kpo gK) 3 rfl, ck HBa_12.out (kpo gK) 4 rfl, ck HBb_12.out (kpo gK) 0 rfl, ck HBb_12.out (kpo gK) 1 rfl, ck HBb_12.out (kpo gK) 2 rfl, ck HBb_12.out (kpo gK) 3 rfl, ck HBb_12.out (kpo gK) 4 rfl, ck HX12.out (kpo gK) j (serN_get j n s xs ts HJ.out), ck HG_12.out (kpo gK) j (serN_get j n2 s2 xs2 ts2 HJ.out), Lib.hid (kpo gK)⟩
                            clear hK K hHeld gK
                            have hHeld := hHeld2
                            clear hHeld2
                            try simp only [Act.put, List.setIfInBounds_toArray, List.set_cons_zero, List.set_cons_succ]
                            refine wpAnyH_done (by kernel_rfl) ?_ _
                            have gK := hHeld.2.2.2.2.2.2.2.2.2.2.2.2
                            clear hHeld
                            go_wp2_with fail
                            go_meet
                            exact ⟨rfl, rfl, KWB_12.out.trans gK.out⟩
                          exact AllReadyH.nil
                        exact AllReadyH.nil
                      exact AllReadyH.nil
                    exact AllReadyH.nil
                  exact AllReadyH.nil
                exact AllReadyH.nil
              refine AllReadyH.cons (o := _) rfl (fun K hK => ?_) ?_
              · have gK := hHeld.2.2.2.2.2.2.2.2.2.2
                go_simp
                refine (wint_any n2 _ (HEB.out.kp0 (kpo gK)) HVb.out.n).mono ?_
                rintro e wq13 ⟨rfl, k2⟩
                try go_wp2_with fail
                refine hK.out _ _ ?_ (fun hHeld2 => ?_)
                · exact ⟨ck HBa.out (kpt gK k2) 0 rfl, ck HBa.out (kpt gK k2) 1 rfl, ck HBa.out (kpt gK k2) 2 rfl, ck HBa.out (kpt gK k2) 3 rfl, ck HBa.out (kpt gK k2) 4 rfl, ck HBb.out (kpt gK k2) 0 rfl, ck HBb.out (kpt gK k2) 1 rfl, ck HBb.out (kpt gK k2) 2 rfl, ck HBb.out (kpt gK k2) 3 rfl, ck HBb.out (kpt gK k2) 4 rfl, Lib.hid (kpt gK k2)⟩
                clear hK K hHeld gK
                have hHeld := hHeld2
                clear hHeld2
                clear k2
                try simp only [Act.put, List.setIfInBounds_toArray, List.set_cons_zero, List.set_cons_succ]
                refine wpAnyH_ready (rs := [23, 39]) (by kernel_rfl) (by simp) ?_
                refine AllReadyH.cons (o := _) rfl (fun K hK => ?_) ?_
                · have gK := hHeld.2.2.2.2.2.2.2.2.2.2
                  go_simp
                  refine hK.out _ _ ?_ (fun hHeld2 => ?_)
                  · exact ⟨ck HBa.out (kpa gK _) 0 rfl, ck HBa.out (kpa gK _) 1 rfl, ck HBa.out (kpa gK _) 2 rfl, ck HBa.out (kpa gK _) 3 rfl, ck HBa.out (kpa gK _) 4 rfl, ck HBb.out (kpa gK _) 0 rfl, ck HBb.out (kpa gK _) 1 rfl, ck HBb.out (kpa gK _) 2 rfl, ck HBb.out (kpa gK _) 3 rfl, ck HBb.out (kpa gK _) 4 rfl, Lib.hid (kpa gK _)⟩
                  have KW : Hid (Kp w1 (wq13.alloc (.cells #[.string ⟨(Wr.wInt n).toArray⟩, .string ⟨(Wr.wText (s.take 100)).toArray⟩, .string ⟨(Wr.wInts xs).toArray⟩, .string ⟨(Wr.wTexts (cutL ts)).toArray⟩] 9)) none) := kpa gK _
                  clear hK K hHeld hHeld2 gK
                  have HG_14 := Lib.hid (heap_alloc_new wq13 (.cells #[.string ⟨(Wr.wInt n).toArray⟩, .string ⟨(Wr.wText (s.take 100)).toArray⟩, .string ⟨(Wr.wInts xs).toArray⟩, .string ⟨(Wr.wTexts (cutL ts)).toArray⟩] 9))
                  have HEB_14 := Lib.hid (HEB.out.kp0 KW.out)
                  have HVa_14 := Lib.hid (HVa.out.keep KW.out)
                  have HVb_14 := Lib.hid (HVb.out.keep KW.out)
                  have HBa_14 := Lib.hid ((KW.out.block _ (lt_of_block HBa.out) (by simp)).trans HBa.out)
                  have HBb_14 := Lib.hid ((KW.out.block _ (lt_of_block HBb.out) (by simp)).trans HBb.out)
                  have KWB_14 := Lib.hid (KWB.out.trans KW.out)
                  refine wpAnyH_mono (S' := fun w' => w'.cell? ⟨w.heap.size, 0, none⟩ = some (.int .u8 c) ∧ w'.cell? ⟨w.heap.size, 1, none⟩ = some (.int .i64 n) ∧ w'.cell? ⟨w.heap.size, 2, none⟩ = some (.string ⟨s.toArray⟩) ∧ w'.cell? ⟨w.heap.size, 3, none⟩ = some (.slice a3 l3 c3) ∧ w'.cell? ⟨w.heap.size, 4, none⟩ = some (v4) ∧ w'.cell? ⟨w.heap.size + 1, 0, none⟩ = some (.int .u8 c2) ∧ w'.cell? ⟨w.heap.size + 1, 1, none⟩ = some (.int .i64 n2) ∧ w'.cell? ⟨w.heap.size + 1, 2, none⟩ = some (.string ⟨s2.toArray⟩) ∧ w'.cell? ⟨w.heap.size + 1, 3, none⟩ = some (.slice b3 m3 d3) ∧ w'.cell? ⟨w.heap.size + 1, 4, none⟩ = some (u4) ∧ w'.cell? ⟨wq13.heap.size, j, none⟩ = some (.string ⟨(serN j n s xs ts).toArray⟩) ∧ Hid (Kp (wq13.alloc (.cells #[.string ⟨(Wr.wInt n).toArray⟩, .string ⟨(Wr.wText (s.take 100)).toArray⟩, .string ⟨(Wr.wInts xs).toArray⟩, .string ⟨(Wr.wTexts (cutL ts)).toArray⟩] 9)) w' none)) (fun w' h => ?_) _ _ _ _ ?_
                  · exact ⟨h.1, h.2.1, h.2.2.1, h.2.2.2.1, h.2.2.2.2.1, h.2.2.2.2.2.1, h.2.2.2.2.2.2.1, h.2.2.2.2.2.2.2.1, h.2.2.2.2.2.2.2.2.1, h.2.2.2.2.2.2.2.2.2.1, Lib.hid (KW.out.trans (h.2.2.2.2.2.2.2.2.2.2.2.out))⟩
                  have hHeld : (fun w' => w'.cell? ⟨w.heap.size, 0, none⟩ = some (.int .u8 c) ∧ w'.cell? ⟨w.heap.size, 1, none⟩ = some (.int .i64 n) ∧ w'.cell? ⟨w.heap.size, 2, none⟩ = some (.string ⟨s.toArray⟩) ∧ w'.cell? ⟨w.heap.size, 3, none⟩ = some (.slice a3 l3 c3) ∧ w'.cell? ⟨w.heap.size, 4, none⟩ = some (v4) ∧ w'.cell? ⟨w.heap.size + 1, 0, none⟩ = some (.int .u8 c2) ∧ w'.cell? ⟨w.heap.size + 1, 1, none⟩ = some (.int .i64 n2) ∧ w'.cell? ⟨w.heap.size + 1, 2, none⟩ = some (.string ⟨s2.toArray⟩) ∧ w'.cell? ⟨w.heap.size + 1, 3, none⟩ = some (.slice b3 m3 d3) ∧ w'.cell? ⟨w.heap.size + 1, 4, none⟩ = some (u4) ∧ w'.cell? ⟨wq13.heap.size, j, none⟩ = some (.string ⟨(serN j n s xs ts).toArray⟩) ∧ Hid (Kp (wq13.alloc (.cells #[.string ⟨(Wr.wInt n).toArray⟩, .string ⟨(Wr.wText (s.take 100)).toArray⟩, .string ⟨(Wr.wInts xs).toArray⟩, .string ⟨(Wr.wTexts (cutL ts)).toArray⟩] 9)) w' none)) (wq13.alloc (.cells #[.string ⟨(Wr.wInt n).toArray⟩, .string ⟨(Wr.wText (s.take 100)).toArray⟩, .string ⟨(Wr.wInts xs).toArray⟩, .string ⟨(Wr.wTexts (cutL ts)).toArray⟩] 9)) := by
                    exact ⟨ck HBa_14.out (Kp.refl _ _) 0 rfl, ck HBa_14.out (Kp.refl _ _) 1 rfl, ck HBa_14.out (Kp.refl _ _) 2 rfl, ck HBa_14.out (Kp.refl _ _) 3 rfl, ck HBa_14.out (Kp.refl _ _) 4 rfl, ck HBb_14.out (Kp.refl _ _) 0 rfl, ck HBb_14.out (Kp.refl _ _) 1 rfl, ck HBb_14.out (Kp.refl _ _) 2 rfl, ck HBb_14.out (Kp.refl _ _) 3 rfl, ck HBb_14.out (Kp.refl _ _) 4 rfl, ck HG_14.out (Kp.refl _ _) j (serN_get j n s xs ts HJ.out), Lib.hid (Kp.refl _ _)⟩
                  try simp only [Act.put, List.setIfInBounds_toArray, List.set_cons_zero, List.set_cons_succ]
                  refine wpAnyH_take (i := 27) (oi := _) (v := ?_) rfl (by kernel_rfl) (by kernel_rfl) (by kernel_rfl) (fun _ _ _ h => h) (Or.inl ⟨by rfl, ?_⟩) (by assumption) ?_
                  rotate_left
                  · (intro w hSw; (try dsimp only at hSw); go_simp <;> with_reducible rfl)
                  try simp only [Act.put, List.setIfInBounds_toArray]
                  refine wpAnyH_take (i := 28) (oi := _) (v := ?_) rfl (by kernel_rfl) (by kernel_rfl) (by kernel_rfl) (fun _ _ _ h => h) (Or.inl ⟨by rfl, ?_⟩) (by assumption) ?_
                  rotate_left
                  · (intro w hSw; (try dsimp only at hSw); go_simp <;> with_reducible rfl)
                  try simp only [Act.put]
                  refine wpAnyH_ready (rs := [39]) (by kernel_rfl) (by simp) ?_
                  refine AllReadyH.cons (o := _) rfl (fun K hK => ?_) ?_
                  · have gK := hHeld.2.2.2.2.2.2.2.2.2.2.2
                    go_simp
                    rw [HSX2.out]
                    refine (wtext_any (s2.take 100) _ (HEB_14.out.kp0 (kpo gK)) (by simp; omega)).mono ?_
                    rintro e wq15 ⟨rfl, k2⟩
                    try go_wp2_with fail
                    refine hK.out _ _ ?_ (fun hHeld2 => ?_)
                    · exact ⟨ck HBa_14.out (kpt gK k2) 0 rfl, ck HBa_14.out (kpt gK k2) 1 rfl, ck HBa_14.out (kpt gK k2) 2 rfl, ck HBa_14.out (kpt gK k2) 3 rfl, ck HBa_14.out (kpt gK k2) 4 rfl, ck HBb_14.out (kpt gK k2) 0 rfl, ck HBb_14.out (kpt gK k2) 1 rfl, ck HBb_14.out (kpt gK k2) 2 rfl, ck HBb_14.out (kpt gK k2) 3 rfl, ck HBb_14.out (kpt gK k2) 4 rfl, ck HG_14.out (kpt gK k2) j (serN_get j n s xs ts HJ.out), Lib.hid (kpt gK k2)⟩
                    clear hK K hHeld gK
                    have hHeld := hHeld2
                    clear hHeld2
                    clear k2
                    try simp only [Act.put, List.setIfInBounds_toArray, List.set_cons_zero, List.set_cons_succ]
                    refine wpAnyH_ready (rs := [47]) (by kernel_rfl) (by simp) ?_
                    refine AllReadyH.cons (o := _) rfl (fun K hK => ?_) ?_
                    · have gK := hHeld.2.2.2.2.2.2.2.2.2.2.2
                      go_simp
                      rw [HXL2.out]
                      refine (wints_any _ xs2 _ (HEB_14.out.kp0 (kpo gK)) (HVb_14.out.row.keep (kpo gK)) HVb_14.out.i (by omega)).mono ?_
                      rintro e wq16 ⟨rfl, k2⟩
                      try go_wp2_with fail
                      refine hK.out _ _ ?_ (fun hHeld2 => ?_)
                      · exact ⟨ck HBa_14.out (kpt gK k2) 0 rfl, ck HBa_14.out (kpt gK k2) 1 rfl, ck HBa_14.out (kpt gK k2) 2 rfl, ck HBa_14.out (kpt gK k2) 3 rfl, ck HBa_14.out (kpt gK k2) 4 rfl, ck HBb_14.out (kpt gK k2) 0 rfl, ck HBb_14.out (kpt gK k2) 1 rfl, ck HBb_14.out (kpt gK k2) 2 rfl, ck HBb_14.out (kpt gK k2) 3 rfl, ck HBb_14.out (kpt gK k2) 4 rfl, ck HG_14.out (kpt gK k2) j (serN_get j n s xs ts HJ.out), Lib.hid (kpt gK k2)⟩
                      clear hK K hHeld gK
                      have hHeld := hHeld2
                      clear hHeld2
                      clear k2
                      try simp only [Act.put, List.setIfInBounds_toArray, List.set_cons_zero, List.set_cons_succ]
                      refine wpAnyH_ready (rs := [50]) (by kernel_rfl) (by simp) ?_
                      refine AllReadyH.cons (o := _) rfl (fun K hK => ?_) ?_
                      · have gK := hHeld.2.2.2.2.2.2.2.2.2.2.2
                        go_simp
                        refine (cut_any _ ts2 _ (HVb_14.out.t.keep (kpo gK)) HVb_14.out.tn HVb_14.out.tl).mono ?_
                        rintro e wq17 ⟨vq17, rfl, hv17, k2⟩
                        have HQ17 := Lib.hid (own_isRow hv17)
                        clear hv17
                        try go_wp2_with fail
                        refine hK.out _ _ ?_ (fun hHeld2 => ?_)
                        · exact ⟨ck HBa_14.out (kpt gK k2) 0 rfl, ck HBa_14.out (kpt gK k2) 1 rfl, ck HBa_14.out (kpt gK k2) 2 rfl, ck HBa_14.out (kpt gK k2) 3 rfl, ck HBa_14.out (kpt gK k2) 4 rfl, ck HBb_14.out (kpt gK k2) 0 rfl, ck HBb_14.out (kpt gK k2) 1 rfl, ck HBb_14.out (kpt gK k2) 2 rfl, ck HBb_14.out (kpt gK k2) 3 rfl, ck HBb_14.out (kpt gK k2) 4 rfl, ck HG_14.out (kpt gK k2) j (serN_get j n s xs ts HJ.out), Lib.hid (kpt gK k2)⟩
                        clear hK K hHeld gK
                        have hHeld := hHeld2
                        clear hHeld2
                        clear k2
                        try simp only [Act.put, List.setIfInBounds_toArray, List.set_cons_zero, List.set_cons_succ]
                        refine wpAnyH_ready (rs := [51]) (by kernel_rfl) (by simp) ?_
                        refine AllReadyH.cons (o := _) rfl (fun K hK => ?_) ?_
                        · have gK := hHeld.2.2.2.2.2.2.2.2.2.2.2
                          go_simp
                          refine (wtexts_any _ (cutL ts2) _ (HEB_14.out.kp0 (kpo gK)) (HQ17.out) (fun x hx => by have := cutL_mem ts2 x hx; omega) (by have := cutL_len ts2; omega)).mono ?_
                          rintro e wq18 ⟨rfl, k2⟩
                          try go_wp2_with fail
                          refine hK.out _ _ ?_ (fun hHeld2 => ?_)
                          · exact ⟨ck HBa_14.out (kpt gK k2) 0 rfl, ck HBa_14.out (kpt gK k2) 1 rfl, ck HBa_14.out (kpt gK k2) 2 rfl, ck HBa_14.out (kpt gK k2) 3 rfl, ck HBa_14.out (kpt gK k2) 4 rfl, ck HBb_14.out (kpt gK k2) 0 rfl, ck HBb_14.out (kpt gK k2) 1 rfl, ck HBb_14.out (kpt gK k2) 2 rfl, ck HBb_14.out (kpt gK k2) 3 rfl, ck HBb_14.out (kpt gK k2) 4 rfl, ck HG_14.out (kpt gK k2) j (serN_get j n s xs ts HJ.out), Lib.hid (kpt gK k2)⟩
                          clear hK K hHeld gK
                          have hHeld := hHeld2
                          clear hHeld2
                          clear k2
                          try simp only [Act.put, List.setIfInBounds_toArray, List.set_cons_zero, List.set_cons_succ]
                          refine wpAnyH_take (i := 58) (oi := _) (v := ?_) rfl (by kernel_rfl) (by kernel_rfl) (by kernel_rfl) (fun _ _ _ h => h) (Or.inl ⟨by rfl, ?_⟩) (by assumption) ?_
                          rotate_left
                          · (intro w hSw; (try dsimp only at hSw); go_simp <;> with_reducible rfl)
                          try simp only [Act.put, List.setIfInBounds_toArray]
                          refine wpAnyH_ready (rs := [52]) (by kernel_rfl) (by simp) ?_
                          refine AllReadyH.cons (o := _) rfl (fun K hK => ?_) ?_
                          · have gK := hHeld.2.2.2.2.2.2.2.2.2.2.2
                            go_simp
                            refine hK.out _ _ ?_ (fun hHeld2 => ?_)
                            · exact ⟨ck HBa_14.out (kpa gK _) 0 rfl, ck HBa_14.out (kpa gK _) 1 rfl, ck HBa_14.out (kpa gK _) 2 rfl, ck HBa_14.out (kpa gK _) 3 rfl, ck HBa_14.out (kpa gK _) 4 rfl, ck HBb_14.out (kpa gK _) 0 rfl, ck HBb_14.out (kpa gK _) 1 rfl, ck HBb_14.out (kpa gK _) 2 rfl, ck HBb_14.out (kpa gK _) 3 rfl, ck HBb_14.out (kpa gK _) 4 rfl, ck HG_14.out (kpa gK _) j (serN_get j n s xs ts HJ.out), Lib.hid (kpa gK _)⟩
                            have KW : Hid (Kp (wq13.alloc (.cells #[.string ⟨(Wr.wInt n).toArray⟩, .string ⟨(Wr.wText (s.take 100)).toArray⟩, .string ⟨(Wr.wInts xs).toArray⟩, .string ⟨(Wr.wTexts (cutL ts)).toArray⟩] 9)) (wq18.alloc (.cells #[.string ⟨(Wr.wInt n2).toArray⟩, .string ⟨(Wr.wText (s2.take 100)).toArray⟩, .string ⟨(Wr.wInts xs2).toArray⟩, .string ⟨(Wr.wTexts (cutL ts2)).toArray⟩] 9)) none) := kpa gK _
                            clear hK K hHeld hHeld2 gK
                            have HG_19 := Lib.hid (heap_alloc_new wq18 (.cells #[.string ⟨(Wr.wInt n2).toArray⟩, .string ⟨(Wr.wText (s2.take 100)).toArray⟩, .string ⟨(Wr.wInts xs2).toArray⟩, .string ⟨(Wr.wTexts (cutL ts2)).toArray⟩] 9))
                            have HEB_19 := Lib.hid (HEB_14.out.kp0 KW.out)
                            have HVa_19 := Lib.hid (HVa_14.out.keep KW.out)
                            have HVb_19 := Lib.hid (HVb_14.out.keep KW.out)
                            have HBa_19 := Lib.hid ((KW.out.block _ (lt_of_block HBa_14.out) (by simp)).trans HBa_14.out)
                            have HBb_19 := Lib.hid ((KW.out.block _ (lt_of_block HBb_14.out) (by simp)).trans HBb_14.out)
                            have HX19 := Lib.hid ((KW.out.block _ (lt_of_block HG_14.out) (by simp)).trans HG_14.out)
                            have KWB_19 := Lib.hid (KWB_14.out.trans KW.out)
                            refine wpAnyH_mono (S' := fun w' => w'.cell? ⟨w.heap.size, 0, none⟩ = some (.int .u8 c) ∧ w'.cell? ⟨w.heap.size, 1, none⟩ = some (.int .i64 n) ∧ w'.cell? ⟨w.heap.size, 2, none⟩ = some (.string ⟨s.toArray⟩) ∧ w'.cell? ⟨w.heap.size, 3, none⟩ = some (.slice a3 l3 c3) ∧ w'.cell? ⟨w.heap.size, 4, none⟩ = some (v4) ∧ w'.cell? ⟨w.heap.size + 1, 0, none⟩ = some (.int .u8 c2) ∧ w'.cell? ⟨w.heap.size + 1, 1, none⟩ = some (.int .i64 n2) ∧ w'.cell? ⟨w.heap.size + 1, 2, none⟩ = some (.string ⟨s2.toArray⟩) ∧ w'.cell? ⟨w.heap.size + 1, 3, none⟩ = some (.slice b3 m3 d3) ∧ w'.cell? ⟨w.heap.size + 1, 4, none⟩ = some (u4) ∧ w'.cell? ⟨wq13.heap.size, j, none⟩ = some (.string ⟨(serN j n s xs ts).toArray⟩) ∧ w'.cell? ⟨wq18.heap.size, j, none⟩ = some (.string ⟨(serN j n2 s2 xs2 ts2).toArray⟩) ∧ Hid (Kp (wq18.alloc (.cells #[.string ⟨(Wr.wInt n2).toArray⟩, .string ⟨(Wr.wText (s2.take 100)).toArray⟩, .string ⟨(Wr.wInts xs2).toArray⟩, .string ⟨(Wr.wTexts (cutL ts2)).toArray⟩] 9)) w' none)) (fun w' h => ?_) _ _ _ _ ?_
                            · exact ⟨h.1, h.2.1, h.2.2.1, h.2.2.2.1, h.2.2.2.2.1, h.2.2.2.2.2.1, h.2.2.2.2.2.2.1, h.2.2.2.2.2.2.2.1, h.2.2.2.2.2.2.2.2.1, h.2.2.2.2.2.2.2.2.2.1, h.2.2.2.2.2.2.2.2.2.2.1, Lib.hid (KW.out.trans (h.2.2.2.2.2.2.2.2.2.2.2.2.out))⟩
                            have hHeld : (fun w' => w'.cell? ⟨w.heap.size, 0, none⟩ = some (.int .u8 c) ∧ w'.cell? ⟨w.heap.size, 1, none⟩ = some (.int .i64 n) ∧ w'.cell? ⟨w.heap.size, 2, none⟩ = some (.string ⟨s.toArray⟩) ∧ w'.cell? ⟨w.heap.size, 3, none⟩ = some (.slice a3 l3 c3) ∧ w'.cell? ⟨w.heap.size, 4, none⟩ = some (v4) ∧ w'.cell? ⟨w.heap.size + 1, 0, none⟩ = some (.int .u8 c2) ∧ w'.cell? ⟨w.heap.size + 1, 1, none⟩ = some (.int .i64 n2) ∧ w'.cell? ⟨w.heap.size + 1, 2, none⟩ = some (.string ⟨s2.toArray⟩) ∧ w'.cell? ⟨w.heap.size + 1, 3, none⟩ = some (.slice b3 m3 d3) ∧ w'.cell? ⟨w.heap.size + 1, 4, none⟩ = some (u4) ∧ w'.cell? ⟨wq13.heap.size, j, none⟩ = some (.string ⟨(serN j n s xs ts).toArray⟩) ∧ w'.cell? ⟨wq18.heap.size, j, none⟩ = some (.string ⟨(serN j n2 s2 xs2 ts2).toArray⟩) ∧ Hid (Kp (wq18.alloc (.cells #[.string ⟨(Wr.wInt n2).toArray⟩, .string ⟨(Wr.wText (s2.take 100)).toArray⟩, .string ⟨(Wr.wInts xs2).toArray⟩, .string ⟨(Wr.wTexts (cutL ts2)).toArray⟩] 9)) w' none)) (wq18.alloc (.cells #[.string ⟨(Wr.wInt n2).toArray⟩, .string ⟨(Wr.wText (s2.take 100)).toArray⟩, .string ⟨(Wr.wInts xs2).toArray⟩, .string ⟨(Wr.wTexts (cutL ts2)).toArray⟩] 9)) := by
                              exact ⟨ck HBa_19.out (Kp.refl _ _) 0 rfl, ck HBa_19.out (Kp.refl _ _) 1 rfl, ck HBa_19.out (Kp.refl _ _) 2 rfl, ck HBa_19.out (Kp.refl _ _) 3 rfl, ck HBa_19.out (Kp.refl _ _) 4 rfl, ck HBb_19.out (Kp.refl _ _) 0 rfl, ck HBb_19.out (Kp.refl _ _) 1 rfl, ck HBb_19.out (Kp.refl _ _) 2 rfl, ck HBb_19.out (Kp.refl _ _) 3 rfl, ck HBb_19.out (Kp.refl _ _) 4 rfl, ck HX19.out (Kp.refl _ _) j (serN_get j n s xs ts HJ.out), ck HG_19.out (Kp.refl _ _) j (serN_get j n2 s2 xs2 ts2 HJ.out), Lib.hid (Kp.refl _ _)⟩
                            try simp only [Act.put, List.setIfInBounds_toArray, List.set_cons_zero, List.set_cons_succ]
                            refine wpAnyH_take (i := 56) (oi := _) (v := ?_) rfl (by kernel_rfl) (by kernel_rfl) (by kernel_rfl) (fun _ _ _ h => h) (Or.inl ⟨by rfl, ?_⟩) (by assumption) ?_
                            rotate_left
                            · (intro w hSw; (try dsimp only at hSw); go_simp <;> with_reducible rfl)
                            try simp only [Act.put, List.setIfInBounds_toArray]
                            refine wpAnyH_take (i := 57) (oi := _) (v := ?_) rfl (by kernel_rfl) (by kernel_rfl) (by kernel_rfl) (fun _ _ _ h => h) (Or.inl ⟨by rfl, ?_⟩) (by assumption) ?_
                            rotate_left
                            · (intro w hSw; (try dsimp only at hSw); go_simp <;> with_reducible rfl)
                            try simp only [Act.put]
                            refine wpAnyH_ready (rs := [59]) (by kernel_rfl) (by simp) ?_
                            refine AllReadyH.cons (o := _) rfl (fun K hK => ?_) AllReadyH.nil
                            have gK := hHeld.2.2.2.2.2.2.2.2.2.2.2.2
                            go_simp
                            refine hK.out _ _ ?_ (fun hHeld2 => ?_)
                            · exact ⟨ck HBa_19.out (kpo gK) 0 rfl, ck HBa_19.out (kpo gK) 1 rfl, ck HBa_19.out (kpo gK) 2 rfl, ck HBa_19.out (kpo gK) 3 rfl, ck HBa_19.out (kpo gK) 4 rfl, ck HBb_19.out (kpo gK) 0 rfl, ck HBb_19.out (kpo gK) 1 rfl, ck HBb_19.out (kpo gK) 2 rfl, ck HBb_19.out (kpo gK) 3 rfl, ck HBb_19.out (kpo gK) 4 rfl, ck HX19.out (kpo gK) j (serN_get j n s xs ts HJ.out), ck HG_19.out (kpo gK) j (serN_get j n2 s2 xs2 ts2 HJ.out), Lib.hid (kpo gK)⟩
                            clear hK K hHeld gK
                            have hHeld := hHeld2
                            clear hHeld2
                            try simp only [Act.put, List.setIfInBounds_toArray, List.set_cons_zero, List.set_cons_succ]
                            refine wpAnyH_done (by kernel_rfl) ?_ _
                            have gK := hHeld.2.2.2.2.2.2.2.2.2.2.2.2
                            clear hHeld
                            go_wp2_with fail
                            go_meet
                            exact ⟨rfl, rfl, KWB_19.out.trans gK.out⟩
                          exact AllReadyH.nil
                        exact AllReadyH.nil
                      exact AllReadyH.nil
                    exact AllReadyH.nil
                  exact AllReadyH.nil
                refine AllReadyH.cons (o := _) rfl (fun K hK => ?_) ?_
                · have gK := hHeld.2.2.2.2.2.2.2.2.2.2
                  go_simp
                  rw [HSX2.out]
                  refine (wtext_any (s2.take 100) _ (HEB.out.kp0 (kpo gK)) (by simp; omega)).mono ?_
                  rintro e wq20 ⟨rfl, k2⟩
                  try go_wp2_with fail
                  refine hK.out _ _ ?_ (fun hHeld2 => ?_)
                  · exact ⟨ck HBa.out (kpt gK k2) 0 rfl, ck HBa.out (kpt gK k2) 1 rfl, ck HBa.out (kpt gK k2) 2 rfl, ck HBa.out (kpt gK k2) 3 rfl, ck HBa.out (kpt gK k2) 4 rfl, ck HBb.out (kpt gK k2) 0 rfl, ck HBb.out (kpt gK k2) 1 rfl, ck HBb.out (kpt gK k2) 2 rfl, ck HBb.out (kpt gK k2) 3 rfl, ck HBb.out (kpt gK k2) 4 rfl, Lib.hid (kpt gK k2)⟩
                  clear hK K hHeld gK
                  have hHeld := hHeld2
                  clear hHeld2
                  clear k2
                  try simp only [Act.put, List.setIfInBounds_toArray, List.set_cons_zero, List.set_cons_succ]
                  refine wpAnyH_ready (rs := [23, 47]) (by kernel_rfl) (by simp) ?_
                  refine AllReadyH.cons (o := _) rfl (fun K hK => ?_) ?_
                  · have gK := hHeld.2.2.2.2.2.2.2.2.2.2
                    go_simp
                    refine hK.out _ _ ?_ (fun hHeld2 => ?_)
                    · exact ⟨ck HBa.out (kpa gK _) 0 rfl, ck HBa.out (kpa gK _) 1 rfl, ck HBa.out (kpa gK _) 2 rfl, ck HBa.out (kpa gK _) 3 rfl, ck HBa.out (kpa gK _) 4 rfl, ck HBb.out (kpa gK _) 0 rfl, ck HBb.out (kpa gK _) 1 rfl, ck HBb.out (kpa gK _) 2 rfl, ck HBb.out (kpa gK _) 3 rfl, ck HBb.out (kpa gK _) 4 rfl, Lib.hid (kpa gK _)⟩
                    have KW : Hid (Kp w1 (wq20.alloc (.cells #[.string ⟨(Wr.wInt n).toArray⟩, .string ⟨(Wr.wText (s.take 100)).toArray⟩, .string ⟨(Wr.wInts xs).toArray⟩, .string ⟨(Wr.wTexts (cutL ts)).toArray⟩] 9)) none) := kpa gK _
                    clear hK K hHeld hHeld2 gK
                    have HG_21 := Lib.hid (heap_alloc_new wq20 (.cells #[.string ⟨(Wr.wInt n).toArray⟩, .string ⟨(Wr.wText (s.take 100)).toArray⟩, .string ⟨(Wr.wInts xs).toArray⟩, .string ⟨(Wr.wTexts (cutL ts)).toArray⟩] 9))
                    have HEB_21 := Lib.hid (HEB.out.kp0 KW.out)
                    have HVa_21 := Lib.hid (HVa.out.keep KW.out)
                    have HVb_21 := Lib.hid (HVb.out.keep KW.out)
                    have HBa_21 := Lib.hid ((KW.out.block _ (lt_of_block HBa.out) (by simp)).trans HBa.out)
                    have HBb_21 := Lib.hid ((KW.out.block _ (lt_of_block HBb.out) (by simp)).trans HBb.out)
                    have KWB_21 := Lib.hid (KWB.out.trans KW.out)
                    refine wpAnyH_mono (S' := fun w' => w'.cell? ⟨w.heap.size, 0, none⟩ = some (.int .u8 c) ∧ w'.cell? ⟨w.heap.size, 1, none⟩ = some (.int .i64 n) ∧ w'.cell? ⟨w.heap.size, 2, none⟩ = some (.string ⟨s.toArray⟩) ∧ w'.cell? ⟨w.heap.size, 3, none⟩ = some (.slice a3 l3 c3) ∧ w'.cell? ⟨w.heap.size, 4, none⟩ = some (v4) ∧ w'.cell? ⟨w.heap.size + 1, 0, none⟩ = some (.int .u8 c2) ∧ w'.cell? ⟨w.heap.size + 1, 1, none⟩ = some (.int .i64 n2) ∧ w'.cell? ⟨w.heap.size + 1, 2, none⟩ = some (.string ⟨s2.toArray⟩) ∧ w'.cell? ⟨w.heap.size + 1, 3, none⟩ = some (.slice b3 m3 d3) ∧ w'.cell? ⟨w.heap.size + 1, 4, none⟩ = some (u4) ∧ w'.cell? ⟨wq20.heap.size, j, none⟩ = some (.string ⟨(serN j n s xs ts).toArray⟩) ∧ Hid (Kp (wq20.alloc (.cells #[.string ⟨(Wr.wInt n).toArray⟩, .string ⟨(Wr.wText (s.take 100)).toArray⟩, .string ⟨(Wr.wInts xs).toArray⟩, .string ⟨(Wr.wTexts (cutL ts)).toArray⟩] 9)) w' none)) (fun w' h => ?_) _ _ _ _ ?_
                    · exact ⟨h.1, h.2.1, h.2.2.1, h.2.2.2.1, h.2.2.2.2.1, h.2.2.2.2.2.1, h.2.2.2.2.2.2.1, h.2.2.2.2.2.2.2.1, h.2.2.2.2.2.2.2.2.1, h.2.2.2.2.2.2.2.2.2.1, Lib.hid (KW.out.trans (h.2.2.2.2.2.2.2.2.2.2.2.out))⟩
                    have hHeld : (fun w' => w'.cell? ⟨w.heap.size, 0, none⟩ = some (.int .u8 c) ∧ w'.cell? ⟨w.heap.size, 1, none⟩ = some (.int .i64 n) ∧ w'.cell? ⟨w.heap.size, 2, none⟩ = some (.string ⟨s.toArray⟩) ∧ w'.cell? ⟨w.heap.size, 3, none⟩ = some (.slice a3 l3 c3) ∧ w'.cell? ⟨w.heap.size, 4, none⟩ = some (v4) ∧ w'.cell? ⟨w.heap.size + 1, 0, none⟩ = some (.int .u8 c2) ∧ w'.cell? ⟨w.heap.size + 1, 1, none⟩ = some (.int .i64 n2) ∧ w'.cell? ⟨w.heap.size + 1, 2, none⟩ = some (.string ⟨s2.toArray⟩) ∧ w'.cell? ⟨w.heap.size + 1, 3, none⟩ = some (.slice b3 m3 d3) ∧ w'.cell? ⟨w.heap.size + 1, 4, none⟩ = some (u4) ∧ w'.cell? ⟨wq20.heap.size, j, none⟩ = some (.string ⟨(serN j n s xs ts).toArray⟩) ∧ Hid (Kp (wq20.alloc (.cells #[.string ⟨(Wr.wInt n).toArray⟩, .string ⟨(Wr.wText (s.take 100)).toArray⟩, .string ⟨(Wr.wInts xs).toArray⟩, .string ⟨(Wr.wTexts (cutL ts)).toArray⟩] 9)) w' none)) (wq20.alloc (.cells #[.string ⟨(Wr.wInt n).toArray⟩, .string ⟨(Wr.wText (s.take 100)).toArray⟩, .string ⟨(Wr.wInts xs).toArray⟩, .string ⟨(Wr.wTexts (cutL ts)).toArray⟩] 9)) := by
                      exact ⟨ck HBa_21.out (Kp.refl _ _) 0 rfl, ck HBa_21.out (Kp.refl _ _) 1 rfl, ck HBa_21.out (Kp.refl _ _) 2 rfl, ck HBa_21.out (Kp.refl _ _) 3 rfl, ck HBa_21.out (Kp.refl _ _) 4 rfl, ck HBb_21.out (Kp.refl _ _) 0 rfl, ck HBb_21.out (Kp.refl _ _) 1 rfl, ck HBb_21.out (Kp.refl _ _) 2 rfl, ck HBb_21.out (Kp.refl _ _) 3 rfl, ck HBb_21.out (Kp.refl _ _) 4 rfl, ck HG_21.out (Kp.refl _ _) j (serN_get j n s xs ts HJ.out), Lib.hid (Kp.refl _ _)⟩
                    try simp only [Act.put, List.setIfInBounds_toArray, List.set_cons_zero, List.set_cons_succ]
                    refine wpAnyH_take (i := 27) (oi := _) (v := ?_) rfl (by kernel_rfl) (by kernel_rfl) (by kernel_rfl) (fun _ _ _ h => h) (Or.inl ⟨by rfl, ?_⟩) (by assumption) ?_
                    rotate_left
                    · (intro w hSw; (try dsimp only at hSw); go_simp <;> with_reducible rfl)
                    try simp only [Act.put, List.setIfInBounds_toArray]
                    refine wpAnyH_take (i := 28) (oi := _) (v := ?_) rfl (by kernel_rfl) (by kernel_rfl) (by kernel_rfl) (fun _ _ _ h => h) (Or.inl ⟨by rfl, ?_⟩) (by assumption) ?_
                    rotate_left
                    · (intro w hSw; (try dsimp only at hSw); go_simp <;> with_reducible rfl)
                    try simp only [Act.put]
                    refine wpAnyH_ready (rs := [47]) (by kernel_rfl) (by simp) ?_
                    refine AllReadyH.cons (o := _) rfl (fun K hK => ?_) ?_
                    · have gK := hHeld.2.2.2.2.2.2.2.2.2.2.2
                      go_simp
                      rw [HXL2.out]
                      refine (wints_any _ xs2 _ (HEB_21.out.kp0 (kpo gK)) (HVb_21.out.row.keep (kpo gK)) HVb_21.out.i (by omega)).mono ?_
                      rintro e wq22 ⟨rfl, k2⟩
                      try go_wp2_with fail
                      refine hK.out _ _ ?_ (fun hHeld2 => ?_)
                      · exact ⟨ck HBa_21.out (kpt gK k2) 0 rfl, ck HBa_21.out (kpt gK k2) 1 rfl, ck HBa_21.out (kpt gK k2) 2 rfl, ck HBa_21.out (kpt gK k2) 3 rfl, ck HBa_21.out (kpt gK k2) 4 rfl, ck HBb_21.out (kpt gK k2) 0 rfl, ck HBb_21.out (kpt gK k2) 1 rfl, ck HBb_21.out (kpt gK k2) 2 rfl, ck HBb_21.out (kpt gK k2) 3 rfl, ck HBb_21.out (kpt gK k2) 4 rfl, ck HG_21.out (kpt gK k2) j (serN_get j n s xs ts HJ.out), Lib.hid (kpt gK k2)⟩
                      clear hK K hHeld gK
                      have hHeld := hHeld2
                      clear hHeld2
                      clear k2
                      try simp only [Act.put, List.setIfInBounds_toArray, List.set_cons_zero, List.set_cons_succ]
                      refine wpAnyH_ready (rs := [50]) (by kernel_rfl) (by simp) ?_
                      refine AllReadyH.cons (o := _) rfl (fun K hK => ?_) ?_
                      · have gK := hHeld.2.2.2.2.2.2.2.2.2.2.2
                        go_simp
                        refine (cut_any _ ts2 _ (HVb_21.out.t.keep (kpo gK)) HVb_21.out.tn HVb_21.out.tl).mono ?_
                        rintro e wq23 ⟨vq23, rfl, hv23, k2⟩
                        have HQ23 := Lib.hid (own_isRow hv23)
                        clear hv23
                        try go_wp2_with fail
                        refine hK.out _ _ ?_ (fun hHeld2 => ?_)
                        · exact ⟨ck HBa_21.out (kpt gK k2) 0 rfl, ck HBa_21.out (kpt gK k2) 1 rfl, ck HBa_21.out (kpt gK k2) 2 rfl, ck HBa_21.out (kpt gK k2) 3 rfl, ck HBa_21.out (kpt gK k2) 4 rfl, ck HBb_21.out (kpt gK k2) 0 rfl, ck HBb_21.out (kpt gK k2) 1 rfl, ck HBb_21.out (kpt gK k2) 2 rfl, ck HBb_21.out (kpt gK k2) 3 rfl, ck HBb_21.out (kpt gK k2) 4 rfl, ck HG_21.out (kpt gK k2) j (serN_get j n s xs ts HJ.out), Lib.hid (kpt gK k2)⟩
                        clear hK K hHeld gK
                        have hHeld := hHeld2
                        clear hHeld2
                        clear k2
                        try simp only [Act.put, List.setIfInBounds_toArray, List.set_cons_zero, List.set_cons_succ]
                        refine wpAnyH_ready (rs := [51]) (by kernel_rfl) (by simp) ?_
                        refine AllReadyH.cons (o := _) rfl (fun K hK => ?_) ?_
                        · have gK := hHeld.2.2.2.2.2.2.2.2.2.2.2
                          go_simp
                          refine (wtexts_any _ (cutL ts2) _ (HEB_21.out.kp0 (kpo gK)) (HQ23.out) (fun x hx => by have := cutL_mem ts2 x hx; omega) (by have := cutL_len ts2; omega)).mono ?_
                          rintro e wq24 ⟨rfl, k2⟩
                          try go_wp2_with fail
                          refine hK.out _ _ ?_ (fun hHeld2 => ?_)
                          · exact ⟨ck HBa_21.out (kpt gK k2) 0 rfl, ck HBa_21.out (kpt gK k2) 1 rfl, ck HBa_21.out (kpt gK k2) 2 rfl, ck HBa_21.out (kpt gK k2) 3 rfl, ck HBa_21.out (kpt gK k2) 4 rfl, ck HBb_21.out (kpt gK k2) 0 rfl, ck HBb_21.out (kpt gK k2) 1 rfl, ck HBb_21.out (kpt gK k2) 2 rfl, ck HBb_21.out (kpt gK k2) 3 rfl, ck HBb_21.out (kpt gK k2) 4 rfl, ck HG_21.out (kpt gK k2) j (serN_get j n s xs ts HJ.out), Lib.hid (kpt gK k2)⟩
                          clear hK K hHeld gK
                          have hHeld := hHeld2
                          clear hHeld2
                          clear k2
                          try simp only [Act.put, List.setIfInBounds_toArray, List.set_cons_zero, List.set_cons_succ]
                          refine wpAnyH_take (i := 58) (oi := _) (v := ?_) rfl (by kernel_rfl) (by kernel_rfl) (by kernel_rfl) (fun _ _ _ h => h) (Or.inl ⟨by rfl, ?_⟩) (by assumption) ?_
                          rotate_left
                          · (intro w hSw; (try dsimp only at hSw); go_simp <;> with_reducible rfl)
                          try simp only [Act.put, List.setIfInBounds_toArray]
                          refine wpAnyH_ready (rs := [52]) (by kernel_rfl) (by simp) ?_
                          refine AllReadyH.cons (o := _) rfl (fun K hK => ?_) ?_
                          · have gK := hHeld.2.2.2.2.2.2.2.2.2.2.2
                            go_simp
                            refine hK.out _ _ ?_ (fun hHeld2 => ?_)
                            · exact ⟨ck HBa_21.out (kpa gK _) 0 rfl, ck HBa_21.out (kpa gK _) 1 rfl, ck HBa_21.out (kpa gK _) 2 rfl, ck HBa_21.out (kpa gK _) 3 rfl, ck HBa_21.out (kpa gK _) 4 rfl, ck HBb_21.out (kpa gK _) 0 rfl, ck HBb_21.out (kpa gK _) 1 rfl, ck HBb_21.out (kpa gK _) 2 rfl, ck HBb_21.out (kpa gK _) 3 rfl, ck HBb_21.out (kpa gK _) 4 rfl, ck HG_21.out (kpa gK _) j (serN_get j n s xs ts HJ.out), Lib.hid (kpa gK _)⟩
                            have KW : Hid (Kp (wq20.alloc (.cells #[.string ⟨(Wr.wInt n).toArray⟩, .string ⟨(Wr.wText (s.take 100)).toArray⟩, .string ⟨(Wr.wInts xs).toArray⟩, .string ⟨(Wr.wTexts (cutL ts)).toArray⟩] 9)) (wq24.alloc (.cells #[.string ⟨(Wr.wInt n2).toArray⟩, .string ⟨(Wr.wText (s2.take 100)).toArray⟩, .string ⟨(Wr.wInts xs2).toArray⟩, .string ⟨(Wr.wTexts (cutL ts2)).toArray⟩] 9)) none) := kpa gK _
                            clear hK K hHeld hHeld2 gK
                            have HG_25 := Lib.hid (heap_alloc_new wq24 (.cells #[.string ⟨(Wr.wInt n2).toArray⟩, .string ⟨(Wr.wText (s2.take 100)).toArray⟩, .string ⟨(Wr.wInts xs2).toArray⟩, .string ⟨(Wr.wTexts (cutL ts2)).toArray⟩] 9))
                            have HEB_25 := Lib.hid (HEB_21.out.kp0 KW.out)
                            have HVa_25 := Lib.hid (HVa_21.out.keep KW.out)
                            have HVb_25 := Lib.hid (HVb_21.out.keep KW.out)
                            have HBa_25 := Lib.hid ((KW.out.block _ (lt_of_block HBa_21.out) (by simp)).trans HBa_21.out)
                            have HBb_25 := Lib.hid ((KW.out.block _ (lt_of_block HBb_21.out) (by simp)).trans HBb_21.out)
                            have HX25 := Lib.hid ((KW.out.block _ (lt_of_block HG_21.out) (by simp)).trans HG_21.out)
                            have KWB_25 := Lib.hid (KWB_21.out.trans KW.out)
                            refine wpAnyH_mono (S' := fun w' => w'.cell? ⟨w.heap.size, 0, none⟩ = some (.int .u8 c) ∧ w'.cell? ⟨w.heap.size, 1, none⟩ = some (.int .i64 n) ∧ w'.cell? ⟨w.heap.size, 2, none⟩ = some (.string ⟨s.toArray⟩) ∧ w'.cell? ⟨w.heap.size, 3, none⟩ = some (.slice a3 l3 c3) ∧ w'.cell? ⟨w.heap.size, 4, none⟩ = some (v4) ∧ w'.cell? ⟨w.heap.size + 1, 0, none⟩ = some (.int .u8 c2) ∧ w'.cell? ⟨w.heap.size + 1, 1, none⟩ = some (.int .i64 n2) ∧ w'.cell? ⟨w.heap.size + 1, 2, none⟩ = some (.string ⟨s2.toArray⟩) ∧ w'.cell? ⟨w.heap.size + 1, 3, none⟩ = some (.slice b3 m3 d3) ∧ w'.cell? ⟨w.heap.size + 1, 4, none⟩ = some (u4) ∧ w'.cell? ⟨wq20.heap.size, j, none⟩ = some (.string ⟨(serN j n s xs ts).toArray⟩) ∧ w'.cell? ⟨wq24.heap.size, j, none⟩ = some (.string ⟨(serN j n2 s2 xs2 ts2).toArray⟩) ∧ Hid (Kp (wq24.alloc (.cells #[.string ⟨(Wr.wInt n2).toArray⟩, .string ⟨(Wr.wText (s2.take 100)).toArray⟩, .string ⟨(Wr.wInts xs2).toArray⟩, .string ⟨(Wr.wTexts (cutL ts2)).toArray⟩] 9)) w' none)) (fun w' h => ?_) _ _ _ _ ?_
                            · exact ⟨h.1, h.2.1, h.2.2.1, h.2.2.2.1, h.2.2.2.2.1, h.2.2.2.2.2.1, h.2.2.2.2.2.2.1, h.2.2.2.2.2.2.2.1, h.2.2.2.2.2.2.2.2.1, h.2.2.2.2.2.2.2.2.2.1, h.2.2.2.2.2.2.2.2.2.2.1, Lib.hid (KW.out.trans (h.2.2.2.2.2.2.2.2.2.2.2.2.out))⟩
                            have hHeld : (fun w' => w'.cell? ⟨w.heap.size, 0, none⟩ = some (.int .u8 c) ∧ w'.cell? ⟨w.heap.size, 1, none⟩ = some (.int .i64 n) ∧ w'.cell? ⟨w.heap.size, 2, none⟩ = some (.string ⟨s.toArray⟩) ∧ w'.cell? ⟨w.heap.size, 3, none⟩ = some (.slice a3 l3 c3) ∧ w'.cell? ⟨w.heap.size, 4, none⟩ = some (v4) ∧ w'.cell? ⟨w.heap.size + 1, 0, none⟩ = some (.int .u8 c2) ∧ w'.cell? ⟨w.heap.size + 1, 1, none⟩ = some (.int .i64 n2) ∧ w'.cell? ⟨w.heap.size + 1, 2, none⟩ = some (.string ⟨s2.toArray⟩) ∧ w'.cell? ⟨w.heap.size + 1, 3, none⟩ = some (.slice b3 m3 d3) ∧ w'.cell? ⟨w.heap.size + 1, 4, none⟩ = some (u4) ∧ w'.cell? ⟨wq20.heap.size, j, none⟩ = some (.string ⟨(serN j n s xs ts).toArray⟩) ∧ w'.cell? ⟨wq24.heap.size, j, none⟩ = some (.string ⟨(serN j n2 s2 xs2 ts2).toArray⟩) ∧ Hid (Kp (wq24.alloc (.cells #[.string ⟨(Wr.wInt n2).toArray⟩, .string ⟨(Wr.wText (s2.take 100)).toArray⟩, .string ⟨(Wr.wInts xs2).toArray⟩, .string ⟨(Wr.wTexts (cutL ts2)).toArray⟩] 9)) w' none)) (wq24.alloc (.cells #[.string ⟨(Wr.wInt n2).toArray⟩, .string ⟨(Wr.wText (s2.take 100)).toArray⟩, .string ⟨(Wr.wInts xs2).toArray⟩, .string ⟨(Wr.wTexts (cutL ts2)).toArray⟩] 9)) := by
                              exact ⟨ck HBa_25.out (Kp.refl _ _) 0 rfl, ck HBa_25.out (Kp.refl _ _) 1 rfl, ck HBa_25.out (Kp.refl _ _) 2 rfl, ck HBa_25.out (Kp.refl _ _) 3 rfl, ck HBa_25.out (Kp.refl _ _) 4 rfl, ck HBb_25.out (Kp.refl _ _) 0 rfl, ck HBb_25.out (Kp.refl _ _) 1 rfl, ck HBb_25.out (Kp.refl _ _) 2 rfl, ck HBb_25.out (Kp.refl _ _) 3 rfl, ck HBb_25.out (Kp.refl _ _) 4 rfl, ck HX25.out (Kp.refl _ _) j (serN_get j n s xs ts HJ.out), ck HG_25.out (Kp.refl _ _) j (serN_get j n2 s2 xs2 ts2 HJ.out), Lib.hid (Kp.refl _ _)⟩
                            try simp only [Act.put, List.setIfInBounds_toArray, List.set_cons_zero, List.set_cons_succ]
                            refine wpAnyH_take (i := 56) (oi := _) (v := ?_) rfl (by kernel_rfl) (by kernel_rfl) (by kernel_rfl) (fun _ _ _ h => h) (Or.inl ⟨by rfl, ?_⟩) (by assumption) ?_
                            rotate_left
                            · (intro w hSw; (try dsimp only at hSw); go_simp <;> with_reducible rfl)
                            try simp only [Act.put, List.setIfInBounds_toArray]
                            refine wpAnyH_take (i := 57) (oi := _) (v := ?_) rfl (by kernel_rfl) (by kernel_rfl) (by kernel_rfl) (fun _ _ _ h => h) (Or.inl ⟨by rfl, ?_⟩) (by assumption) ?_
                            rotate_left
                            · (intro w hSw; (try dsimp only at hSw); go_simp <;> with_reducible rfl)
                            try simp only [Act.put]
                            refine wpAnyH_ready (rs := [59]) (by kernel_rfl) (by simp) ?_
                            refine AllReadyH.cons (o := _) rfl (fun K hK => ?_) AllReadyH.nil
                            have gK := hHeld.2.2.2.2.2.2.2.2.2.2.2.2
                            go_simp
                            refine hK.out _ _ ?_ (fun hHeld2 => ?_)
                            · exact ⟨ck HBa_25.out (kpo gK) 0 rfl, ck HBa_25.out (kpo gK) 1 rfl, ck HBa_25.out (kpo gK) 2 rfl, ck HBa_25.out (kpo gK) 3 rfl, ck HBa_25.out (kpo gK) 4 rfl, ck HBb_25.out (kpo gK) 0 rfl, ck HBb_25.out (kpo gK) 1 rfl, ck HBb_25.out (kpo gK) 2 rfl, ck HBb_25.out (kpo gK) 3 rfl, ck HBb_25.out (kpo gK) 4 rfl, ck HX25.out (kpo gK) j (serN_get j n s xs ts HJ.out), ck HG_25.out (kpo gK) j (serN_get j n2 s2 xs2 ts2 HJ.out), Lib.hid (kpo gK)⟩
                            clear hK K hHeld gK
                            have hHeld := hHeld2
                            clear hHeld2
                            try simp only [Act.put, List.setIfInBounds_toArray, List.set_cons_zero, List.set_cons_succ]
                            refine wpAnyH_done (by kernel_rfl) ?_ _
                            have gK := hHeld.2.2.2.2.2.2.2.2.2.2.2.2
                            clear hHeld
                            go_wp2_with fail
                            go_meet
                            exact ⟨rfl, rfl, KWB_25.out.trans gK.out⟩
                          exact AllReadyH.nil
                        exact AllReadyH.nil
                      exact AllReadyH.nil
                    exact AllReadyH.nil
                  refine AllReadyH.cons (o := _) rfl (fun K hK => ?_) ?_
                  · have gK := hHeld.2.2.2.2.2.2.2.2.2.2
                    go_simp
                    rw [HXL2.out]
                    refine (wints_any _ xs2 _ (HEB.out.kp0 (kpo gK)) (HVb.out.row.keep (kpo gK)) HVb.out.i (by omega)).mono ?_
                    rintro e wq26 ⟨rfl, k2⟩
                    try go_wp2_with fail
                    refine hK.out _ _ ?_ (fun hHeld2 => ?_)
                    · exact ⟨ck HBa.out (kpt gK k2) 0 rfl, ck HBa.out (kpt gK k2) 1 rfl, ck HBa.out (kpt gK k2) 2 rfl, ck HBa.out (kpt gK k2) 3 rfl, ck HBa.out (kpt gK k2) 4 rfl, ck HBb.out (kpt gK k2) 0 rfl, ck HBb.out (kpt gK k2) 1 rfl, ck HBb.out (kpt gK k2) 2 rfl, ck HBb.out (kpt gK k2) 3 rfl, ck HBb.out (kpt gK k2) 4 rfl, Lib.hid (kpt gK k2)⟩
                    clear hK K hHeld gK
                    have hHeld := hHeld2
                    clear hHeld2
                    clear k2
                    try simp only [Act.put, List.setIfInBounds_toArray, List.set_cons_zero, List.set_cons_succ]
                    refine wpAnyH_ready (rs := [23, 50]) (by kernel_rfl) (by simp) ?_
                    refine AllReadyH.cons (o := _) rfl (fun K hK => ?_) ?_
                    · have gK := hHeld.2.2.2.2.2.2.2.2.2.2
                      go_simp
                      refine hK.out _ _ ?_ (fun hHeld2 => ?_)
                      · exact ⟨ck HBa.out (kpa gK _) 0 rfl, ck HBa.out (kpa gK _) 1 rfl, ck HBa.out (kpa gK _) 2 rfl, ck HBa.out (kpa gK _) 3 rfl, ck HBa.out (kpa gK _) 4 rfl, ck HBb.out (kpa gK _) 0 rfl, ck HBb.out (kpa gK _) 1 rfl, ck HBb.out (kpa gK _) 2 rfl, ck HBb.out (kpa gK _) 3 rfl, ck HBb.out (kpa gK _) 4 rfl, Lib.hid (kpa gK _)⟩
                      have KW : Hid (Kp w1 (wq26.alloc (.cells #[.string ⟨(Wr.wInt n).toArray⟩, .string ⟨(Wr.wText (s.take 100)).toArray⟩, .string ⟨(Wr.wInts xs).toArray⟩, .string ⟨(Wr.wTexts (cutL ts)).toArray⟩] 9)) none) := kpa gK _
                      clear hK K hHeld hHeld2 gK
                      have HG_27 := Lib.hid (heap_alloc_new wq26 (.cells #[.string ⟨(Wr.wInt n).toArray⟩, .string ⟨(Wr.wText (s.take 100)).toArray⟩, .string ⟨(Wr.wInts xs).toArray⟩, .string ⟨(Wr.wTexts (cutL ts)).toArray⟩] 9))
                      have HEB_27 := Lib.hid (HEB.out.kp0 KW.out)
                      have HVa_27 := Lib.hid (HVa.out.keep KW.out)
                      have HVb_27 := Lib.hid (HVb.out.keep KW.out)
                      have HBa_27 := Lib.hid ((KW.out.block _ (lt_of_block HBa.out) (by simp)).trans HBa.out)
                      have HBb_27 := Lib.hid ((KW.out.block _ (lt_of_block HBb.out) (by simp)).trans HBb.out)
                      have KWB_27 := Lib.hid (KWB.out.trans KW.out)
                      refine wpAnyH_mono (S' := fun w' => w'.cell? ⟨w.heap.size, 0, none⟩ = some (.int .u8 c) ∧ w'.cell? ⟨w.heap.size, 1, none⟩ = some (.int .i64 n) ∧ w'.cell? ⟨w.heap.size, 2, none⟩ = some (.string ⟨s.toArray⟩) ∧ w'.cell? ⟨w.heap.size, 3, none⟩ = some (.slice a3 l3 c3) ∧ w'.cell? ⟨w.heap.size, 4, none⟩ = some (v4) ∧ w'.cell? ⟨w.heap.size + 1, 0, none⟩ = some (.int .u8 c2) ∧ w'.cell? ⟨w.heap.size + 1, 1, none⟩ = some (.int .i64 n2) ∧ w'.cell? ⟨w.heap.size + 1, 2, none⟩ = some (.string ⟨s2.toArray⟩) ∧ w'.cell? ⟨w.heap.size + 1, 3, none⟩ = some (.slice b3 m3 d3) ∧ w'.cell? ⟨w.heap.size + 1, 4, none⟩ = some (u4) ∧ w'.cell? ⟨wq26.heap.size, j, none⟩ = some (.string ⟨(serN j n s xs ts).toArray⟩) ∧ Hid (Kp (wq26.alloc (.cells #[.string ⟨(Wr.wInt n).toArray⟩, .string ⟨(Wr.wText (s.take 100)).toArray⟩, .string ⟨(Wr.wInts xs).toArray⟩, .string ⟨(Wr.wTexts (cutL ts)).toArray⟩] 9)) w' none)) (fun w' h => ?_) _ _ _ _ ?_
                      · exact ⟨h.1, h.2.1, h.2.2.1, h.2.2.2.1, h.2.2.2.2.1, h.2.2.2.2.2.1, h.2.2.2.2.2.2.1, h.2.2.2.2.2.2.2.1, h.2.2.2.2.2.2.2.2.1, h.2.2.2.2.2.2.2.2.2.1, Lib.hid (KW.out.trans (h.2.2.2.2.2.2.2.2.2.2.2.out))⟩
                      have hHeld : (fun w' => w'.cell? ⟨w.heap.size, 0, none⟩ = some (.int .u8 c) ∧ w'.cell? ⟨w.heap.size, 1, none⟩ = some (.int .i64 n) ∧ w'.cell? ⟨w.heap.size, 2, none⟩ = some (.string ⟨s.toArray⟩) ∧ w'.cell? ⟨w.heap.size, 3, none⟩ = some (.slice a3 l3 c3) ∧ w'.cell? ⟨w.heap.size, 4, none⟩ = some (v4) ∧ w'.cell? ⟨w.heap.size + 1, 0, none⟩ = some (.int .u8 c2) ∧ w'.cell? ⟨w.heap.size + 1, 1, none⟩ = some (.int .i64 n2) ∧ w'.cell? ⟨w.heap.size + 1, 2, none⟩ = some (.string ⟨s2.toArray⟩) ∧ w'.cell? ⟨w.heap.size + 1, 3, none⟩ = some (.slice b3 m3 d3) ∧ w'.cell? ⟨w.heap.size + 1, 4, none⟩ = some (u4) ∧ w'.cell? ⟨wq26.heap.size, j, none⟩ = some (.string ⟨(serN j n s xs ts).toArray⟩) ∧ Hid (Kp (wq26.alloc (.cells #[.string ⟨(Wr.wInt n).toArray⟩, .string ⟨(Wr.wText (s.take 100)).toArray⟩, .string ⟨(Wr.wInts xs).toArray⟩, .string ⟨(Wr.wTexts (cutL ts)).toArray⟩] 9)) w' none)) (wq26.alloc (.cells #[.string ⟨(Wr.wInt n).toArray⟩, .string ⟨(Wr.wText (s.take 100)).toArray⟩, .string ⟨(Wr.wInts xs).toArray⟩, .string ⟨(Wr.wTexts (cutL ts)).toArray⟩] 9)) := by
                        exact ⟨ck HBa_27.out (Kp.refl _ _) 0 rfl, ck HBa_27.out (Kp.refl _ _) 1 rfl, ck HBa_27.out (Kp.refl _ _) 2 rfl, ck HBa_27.out (Kp.refl _ _) 3 rfl, ck HBa_27.out (Kp.refl _ _) 4 rfl, ck HBb_27.out (Kp.refl _ _) 0 rfl, ck HBb_27.out (Kp.refl _ _) 1 rfl, ck HBb_27.out (Kp.refl _ _) 2 rfl, ck HBb_27.out (Kp.refl _ _) 3 rfl, ck HBb_27.out (Kp.refl _ _) 4 rfl, ck HG_27.out (Kp.refl _ _) j (serN_get j n s xs ts HJ.out), Lib.hid (Kp.refl _ _)⟩
                      try simp only [Act.put, List.setIfInBounds_toArray, List.set_cons_zero, List.set_cons_succ]
                      refine wpAnyH_take (i := 27) (oi := _) (v := ?_) rfl (by kernel_rfl) (by kernel_rfl) (by kernel_rfl) (fun _ _ _ h => h) (Or.inl ⟨by rfl, ?_⟩) (by assumption) ?_
                      rotate_left
                      · (intro w hSw; (try dsimp only at hSw); go_simp <;> with_reducible rfl)
                      try simp only [Act.put, List.setIfInBounds_toArray]
                      refine wpAnyH_take (i := 28) (oi := _) (v := ?_) rfl (by kernel_rfl) (by kernel_rfl) (by kernel_rfl) (fun _ _ _ h => h) (Or.inl ⟨by rfl, ?_⟩) (by assumption) ?_
                      rotate_left
                      · (intro w hSw; (try dsimp only at hSw); go_simp <;> with_reducible rfl)
                      try simp only [Act.put]
                      refine wpAnyH_ready (rs := [50]) (by kernel_rfl) (by simp) ?_
                      refine AllReadyH.cons (o := _) rfl (fun K hK => ?_) ?_
                      · have gK := hHeld.2.2.2.2.2.2.2.2.2.2.2
                        go_simp
                        refine (cut_any _ ts2 _ (HVb_27.out.t.keep (kpo gK)) HVb_27.out.tn HVb_27.out.tl).mono ?_
                        rintro e wq28 ⟨vq28, rfl, hv28, k2⟩
                        have HQ28 := Lib.hid (own_isRow hv28)
                        clear hv28
                        try go_wp2_with fail
                        refine hK.out _ _ ?_ (fun hHeld2 => ?_)
                        · exact ⟨ck HBa_27.out (kpt gK k2) 0 rfl, ck HBa_27.out (kpt gK k2) 1 rfl, ck HBa_27.out (kpt gK k2) 2 rfl, ck HBa_27.out (kpt gK k2) 3 rfl, ck HBa_27.out (kpt gK k2) 4 rfl, ck HBb_27.out (kpt gK k2) 0 rfl, ck HBb_27.out (kpt gK k2) 1 rfl, ck HBb_27.out (kpt gK k2) 2 rfl, ck HBb_27.out (kpt gK k2) 3 rfl, ck HBb_27.out (kpt gK k2) 4 rfl, ck HG_27.out (kpt gK k2) j (serN_get j n s xs ts HJ.out), Lib.hid (kpt gK k2)⟩
                        clear hK K hHeld gK
                        have hHeld := hHeld2
                        clear hHeld2
                        clear k2
                        try simp only [Act.put, List.setIfInBounds_toArray, List.set_cons_zero, List.set_cons_succ]
                        refine wpAnyH_ready (rs := [51]) (by kernel_rfl) (by simp) ?_
                        refine AllReadyH.cons (o := _) rfl (fun K hK => ?_) ?_
                        · have gK := hHeld.2.2.2.2.2.2.2.2.2.2.2
                          go_simp
                          refine (wtexts_any _ (cutL ts2) _ (HEB_27.out.kp0 (kpo gK)) (HQ28.out) (fun x hx => by have := cutL_mem ts2 x hx; omega) (by have := cutL_len ts2; omega)).mono ?_
                          rintro e wq29 ⟨rfl, k2⟩
                          try go_wp2_with fail
                          refine hK.out _ _ ?_ (fun hHeld2 => ?_)
                          · exact ⟨ck HBa_27.out (kpt gK k2) 0 rfl, ck HBa_27.out (kpt gK k2) 1 rfl, ck HBa_27.out (kpt gK k2) 2 rfl, ck HBa_27.out (kpt gK k2) 3 rfl, ck HBa_27.out (kpt gK k2) 4 rfl, ck HBb_27.out (kpt gK k2) 0 rfl, ck HBb_27.out (kpt gK k2) 1 rfl, ck HBb_27.out (kpt gK k2) 2 rfl, ck HBb_27.out (kpt gK k2) 3 rfl, ck HBb_27.out (kpt gK k2) 4 rfl, ck HG_27.out (kpt gK k2) j (serN_get j n s xs ts HJ.out), Lib.hid (kpt gK k2)⟩
                          clear hK K hHeld gK
                          have hHeld := hHeld2
                          clear hHeld2
                          clear k2
                          try simp only [Act.put, List.setIfInBounds_toArray, List.set_cons_zero, List.set_cons_succ]
                          refine wpAnyH_take (i := 58) (oi := _) (v := ?_) rfl (by kernel_rfl) (by kernel_rfl) (by kernel_rfl) (fun _ _ _ h => h) (Or.inl ⟨by rfl, ?_⟩) (by assumption) ?_
                          rotate_left
                          · (intro w hSw; (try dsimp only at hSw); go_simp <;> with_reducible rfl)
                          try simp only [Act.put, List.setIfInBounds_toArray]
                          refine wpAnyH_ready (rs := [52]) (by kernel_rfl) (by simp) ?_
                          refine AllReadyH.cons (o := _) rfl (fun K hK => ?_) ?_
                          · have gK := hHeld.2.2.2.2.2.2.2.2.2.2.2
                            go_simp
                            refine hK.out _ _ ?_ (fun hHeld2 => ?_)
                            · exact ⟨ck HBa_27.out (kpa gK _) 0 rfl, ck HBa_27.out (kpa gK _) 1 rfl, ck HBa_27.out (kpa gK _) 2 rfl, ck HBa_27.out (kpa gK _) 3 rfl, ck HBa_27.out (kpa gK _) 4 rfl, ck HBb_27.out (kpa gK _) 0 rfl, ck HBb_27.out (kpa gK _) 1 rfl, ck HBb_27.out (kpa gK _) 2 rfl, ck HBb_27.out (kpa gK _) 3 rfl, ck HBb_27.out (kpa gK _) 4 rfl, ck HG_27.out (kpa gK _) j (serN_get j n s xs ts HJ.out), Lib.hid (kpa gK _)⟩
                            have KW : Hid (Kp (wq26.alloc (.cells #[.string ⟨(Wr.wInt n).toArray⟩, .string ⟨(Wr.wText (s.take 100)).toArray⟩, .string ⟨(Wr.wInts xs).toArray⟩, .string ⟨(Wr.wTexts (cutL ts)).toArray⟩] 9)) (wq29.alloc (.cells #[.string ⟨(Wr.wInt n2).toArray⟩, .string ⟨(Wr.wText (s2.take 100)).toArray⟩, .string ⟨(Wr.wInts xs2).toArray⟩, .string ⟨(Wr.wTexts (cutL ts2)).toArray⟩] 9)) none) := kpa gK _
                            clear hK K hHeld hHeld2 gK
                            have HG_30 := Lib.hid (heap_alloc_new wq29 (.cells #[.string ⟨(Wr.wInt n2).toArray⟩, .string ⟨(Wr.wText (s2.take 100)).toArray⟩, .string ⟨(Wr.wInts xs2).toArray⟩, .string ⟨(Wr.wTexts (cutL ts2)).toArray⟩] 9))
                            have HEB_30 := Lib.hid (HEB_27.out.kp0 KW.out)
                            have HVa_30 := Lib.hid (HVa_27.out.keep KW.out)
                            have HVb_30 := Lib.hid (HVb_27.out.keep KW.out)
                            have HBa_30 := Lib.hid ((KW.out.block _ (lt_of_block HBa_27.out) (by simp)).trans HBa_27.out)
                            have HBb_30 := Lib.hid ((KW.out.block _ (lt_of_block HBb_27.out) (by simp)).trans HBb_27.out)
                            have HX30 := Lib.hid ((KW.out.block _ (lt_of_block HG_27.out) (by simp)).trans HG_27.out)
                            have KWB_30 := Lib.hid (KWB_27.out.trans KW.out)
                            refine wpAnyH_mono (S' := fun w' => w'.cell? ⟨w.heap.size, 0, none⟩ = some (.int .u8 c) ∧ w'.cell? ⟨w.heap.size, 1, none⟩ = some (.int .i64 n) ∧ w'.cell? ⟨w.heap.size, 2, none⟩ = some (.string ⟨s.toArray⟩) ∧ w'.cell? ⟨w.heap.size, 3, none⟩ = some (.slice a3 l3 c3) ∧ w'.cell? ⟨w.heap.size, 4, none⟩ = some (v4) ∧ w'.cell? ⟨w.heap.size + 1, 0, none⟩ = some (.int .u8 c2) ∧ w'.cell? ⟨w.heap.size + 1, 1, none⟩ = some (.int .i64 n2) ∧ w'.cell? ⟨w.heap.size + 1, 2, none⟩ = some (.string ⟨s2.toArray⟩) ∧ w'.cell? ⟨w.heap.size + 1, 3, none⟩ = some (.slice b3 m3 d3) ∧ w'.cell? ⟨w.heap.size + 1, 4, none⟩ = some (u4) ∧ w'.cell? ⟨wq26.heap.size, j, none⟩ = some (.string ⟨(serN j n s xs ts).toArray⟩) ∧ w'.cell? ⟨wq29.heap.size, j, none⟩ = some (.string ⟨(serN j n2 s2 xs2 ts2).toArray⟩) ∧ Hid (Kp (wq29.alloc (.cells #[.string ⟨(Wr.wInt n2).toArray⟩, .string ⟨(Wr.wText (s2.take 100)).toArray⟩, .string ⟨(Wr.wInts xs2).toArray⟩, .string ⟨(Wr.wTexts (cutL ts2)).toArray⟩] 9)) w' none)) (fun w' h => ?_) _ _ _ _ ?_
                            · exact ⟨h.1, h.2.1, h.2.2.1, h.2.2.2.1, h.2.2.2.2.1, h.2.2.2.2.2.1, h.2.2.2.2.2.2.1, h.2.2.2.2.2.2.2.1, h.2.2.2.2.2.2.2.2.1, h.2.2.2.2.2.2.2.2.2.1, h.2.2.2.2.2.2.2.2.2.2.1, Lib.hid (KW.out.trans (h.2.2.2.2.2.2.2.2.2.2.2.2.out))⟩
                            have hHeld : (fun w' => w'.cell? ⟨w.heap.size, 0, none⟩ = some (.int .u8 c) ∧ w'.cell? ⟨w.heap.size, 1, none⟩ = some (.int .i64 n) ∧ w'.cell? ⟨w.heap.size, 2, none⟩ = some (.string ⟨s.toArray⟩) ∧ w'.cell? ⟨w.heap.size, 3, none⟩ = some (.slice a3 l3 c3) ∧ w'.cell? ⟨w.heap.size, 4, none⟩ = some (v4) ∧ w'.cell? ⟨w.heap.size + 1, 0, none⟩ = some (.int .u8 c2) ∧ w'.cell? ⟨w.heap.size + 1, 1, none⟩ = some (.int .i64 n2) ∧ w'.cell? ⟨w.heap.size + 1, 2, none⟩ = some (.string ⟨s2.toArray⟩) ∧ w'.cell? ⟨w.heap.size + 1, 3, none⟩ = some (.slice b3 m3 d3) ∧ w'.cell? ⟨w.heap.size + 1, 4, none⟩ = some (u4) ∧ w'.cell? ⟨wq26.heap.size, j, none⟩ = some (.string ⟨(serN j n s xs ts).toArray⟩) ∧ w'.cell? ⟨wq29.heap.size, j, none⟩ = some (.string ⟨(serN j n2 s2 xs2 ts2).toArray⟩) ∧ Hid (Kp (wq29.alloc (.cells #[.string ⟨(Wr.wInt n2).toArray⟩, .string ⟨(Wr.wText (s2.take 100)).toArray⟩, .string ⟨(Wr.wInts xs2).toArray⟩, .string ⟨(Wr.wTexts (cutL ts2)).toArray⟩] 9)) w' none)) (wq29.alloc (.cells #[.string ⟨(Wr.wInt n2).toArray⟩, .string ⟨(Wr.wText (s2.take 100)).toArray⟩, .string ⟨(Wr.wInts xs2).toArray⟩, .string ⟨(Wr.wTexts (cutL ts2)).toArray⟩] 9)) := by
                              exact ⟨ck HBa_30.out (Kp.refl _ _) 0 rfl, ck HBa_30.out (Kp.refl _ _) 1 rfl, ck HBa_30.out (Kp.refl _ _) 2 rfl, ck HBa_30.out (Kp.refl _ _) 3 rfl, ck HBa_30.out (Kp.refl _ _) 4 rfl, ck HBb_30.out (Kp.refl _ _) 0 rfl, ck HBb_30.out (Kp.refl _ _) 1 rfl, ck HBb_30.out (Kp.refl _ _) 2 rfl, ck HBb_30.out (Kp.refl _ _) 3 rfl, ck HBb_30.out (Kp.refl _ _) 4 rfl, ck HX30.out (Kp.refl _ _) j (serN_get j n s xs ts HJ.out), ck HG_30.out (Kp.refl _ _) j (serN_get j n2 s2 xs2 ts2 HJ.out), Lib.hid (Kp.refl _ _)⟩
                            try simp only [Act.put, List.setIfInBounds_toArray, List.set_cons_zero, List.set_cons_succ]
                            refine wpAnyH_take (i := 56) (oi := _) (v := ?_) rfl (by kernel_rfl) (by kernel_rfl) (by kernel_rfl) (fun _ _ _ h => h) (Or.inl ⟨by rfl, ?_⟩) (by assumption) ?_
                            rotate_left
                            · (intro w hSw; (try dsimp only at hSw); go_simp <;> with_reducible rfl)
                            try simp only [Act.put, List.setIfInBounds_toArray]
                            refine wpAnyH_take (i := 57) (oi := _) (v := ?_) rfl (by kernel_rfl) (by kernel_rfl) (by kernel_rfl) (fun _ _ _ h => h) (Or.inl ⟨by rfl, ?_⟩) (by assumption) ?_
                            rotate_left
                            · (intro w hSw; (try dsimp only at hSw); go_simp <;> with_reducible rfl)
                            try simp only [Act.put]
                            refine wpAnyH_ready (rs := [59]) (by kernel_rfl) (by simp) ?_
                            refine AllReadyH.cons (o := _) rfl (fun K hK => ?_) AllReadyH.nil
                            have gK := hHeld.2.2.2.2.2.2.2.2.2.2.2.2
                            go_simp
                            refine hK.out _ _ ?_ (fun hHeld2 => ?_)
                            · exact ⟨ck HBa_30.out (kpo gK) 0 rfl, ck HBa_30.out (kpo gK) 1 rfl, ck HBa_30.out (kpo gK) 2 rfl, ck HBa_30.out (kpo gK) 3 rfl, ck HBa_30.out (kpo gK) 4 rfl, ck HBb_30.out (kpo gK) 0 rfl, ck HBb_30.out (kpo gK) 1 rfl, ck HBb_30.out (kpo gK) 2 rfl, ck HBb_30.out (kpo gK) 3 rfl, ck HBb_30.out (kpo gK) 4 rfl, ck HX30.out (kpo gK) j (serN_get j n s xs ts HJ.out), ck HG_30.out (kpo gK) j (serN_get j n2 s2 xs2 ts2 HJ.out), Lib.hid (kpo gK)⟩
                            clear hK K hHeld gK
                            have hHeld := hHeld2
                            clear hHeld2
                            try simp only [Act.put, List.setIfInBounds_toArray, List.set_cons_zero, List.set_cons_succ]
                            refine wpAnyH_done (by kernel_rfl) ?_ _
                            have gK := hHeld.2.2.2.2.2.2.2.2.2.2.2.2
                            clear hHeld
                            go_wp2_with fail
                            go_meet
                            exact ⟨rfl, rfl, KWB_30.out.trans gK.out⟩
                          exact AllReadyH.nil
                        exact AllReadyH.nil
                      exact AllReadyH.nil
                    refine AllReadyH.cons (o := _) rfl (fun K hK => ?_) ?_
                    · have gK := hHeld.2.2.2.2.2.2.2.2.2.2
                      go_simp
                      refine (cut_any _ ts2 _ (HVb.out.t.keep (kpo gK)) HVb.out.tn HVb.out.tl).mono ?_
                      rintro e wq31 ⟨vq31, rfl, hv31, k2⟩
                      have HQ31 := Lib.hid (own_isRow hv31)
                      clear hv31
                      try go_wp2_with fail
                      refine hK.out _ _ ?_ (fun hHeld2 => ?_)
                      · exact ⟨ck HBa.out (kpt gK k2) 0 rfl, ck HBa.out (kpt gK k2) 1 rfl, ck HBa.out (kpt gK k2) 2 rfl, ck HBa.out (kpt gK k2) 3 rfl, ck HBa.out (kpt gK k2) 4 rfl, ck HBb.out (kpt gK k2) 0 rfl, ck HBb.out (kpt gK k2) 1 rfl, ck HBb.out (kpt gK k2) 2 rfl, ck HBb.out (kpt gK k2) 3 rfl, ck HBb.out (kpt gK k2) 4 rfl, Lib.hid (kpt gK k2)⟩
                      clear hK K hHeld gK
                      have hHeld := hHeld2
                      clear hHeld2
                      clear k2
                      try simp only [Act.put, List.setIfInBounds_toArray, List.set_cons_zero, List.set_cons_succ]
                      refine wpAnyH_ready (rs := [23, 51]) (by kernel_rfl) (by simp) ?_
                      refine AllReadyH.cons (o := _) rfl (fun K hK => ?_) ?_
                      · have gK := hHeld.2.2.2.2.2.2.2.2.2.2
                        go_simp
                        refine hK.out _ _ ?_ (fun hHeld2 => ?_)
                        · exact ⟨ck HBa.out (kpa gK _) 0 rfl, ck HBa.out (kpa gK _) 1 rfl, ck HBa.out (kpa gK _) 2 rfl, ck HBa.out (kpa gK _) 3 rfl, ck HBa.out (kpa gK _) 4 rfl, ck HBb.out (kpa gK _) 0 rfl, ck HBb.out (kpa gK _) 1 rfl, ck HBb.out (kpa gK _) 2 rfl, ck HBb.out (kpa gK _) 3 rfl, ck HBb.out (kpa gK _) 4 rfl, Lib.hid (kpa gK _)⟩
                        have KW : Hid (Kp w1 (wq31.alloc (.cells #[.string ⟨(Wr.wInt n).toArray⟩, .string ⟨(Wr.wText (s.take 100)).toArray⟩, .string ⟨(Wr.wInts xs).toArray⟩, .string ⟨(Wr.wTexts (cutL ts)).toArray⟩] 9)) none) := kpa gK _
                        clear hK K hHeld hHeld2 gK
                        have HG_32 := Lib.hid (heap_alloc_new wq31 (.cells #[.string ⟨(Wr.wInt n).toArray⟩, .string ⟨(Wr.wText (s.take 100)).toArray⟩, .string ⟨(Wr.wInts xs).toArray⟩, .string ⟨(Wr.wTexts (cutL ts)).toArray⟩] 9))
                        have HEB_32 := Lib.hid (HEB.out.kp0 KW.out)
                        have HVa_32 := Lib.hid (HVa.out.keep KW.out)
                        have HVb_32 := Lib.hid (HVb.out.keep KW.out)
                        have HBa_32 := Lib.hid ((KW.out.block _ (lt_of_block HBa.out) (by simp)).trans HBa.out)
                        have HBb_32 := Lib.hid ((KW.out.block _ (lt_of_block HBb.out) (by simp)).trans HBb.out)
                        have KWB_32 := Lib.hid (KWB.out.trans KW.out)
                        refine wpAnyH_mono (S' := fun w' => w'.cell? ⟨w.heap.size, 0, none⟩ = some (.int .u8 c) ∧ w'.cell? ⟨w.heap.size, 1, none⟩ = some (.int .i64 n) ∧ w'.cell? ⟨w.heap.size, 2, none⟩ = some (.string ⟨s.toArray⟩) ∧ w'.cell? ⟨w.heap.size, 3, none⟩ = some (.slice a3 l3 c3) ∧ w'.cell? ⟨w.heap.size, 4, none⟩ = some (v4) ∧ w'.cell? ⟨w.heap.size + 1, 0, none⟩ = some (.int .u8 c2) ∧ w'.cell? ⟨w.heap.size + 1, 1, none⟩ = some (.int .i64 n2) ∧ w'.cell? ⟨w.heap.size + 1, 2, none⟩ = some (.string ⟨s2.toArray⟩) ∧ w'.cell? ⟨w.heap.size + 1, 3, none⟩ = some (.slice b3 m3 d3) ∧ w'.cell? ⟨w.heap.size + 1, 4, none⟩ = some (u4) ∧ w'.cell? ⟨wq31.heap.size, j, none⟩ = some (.string ⟨(serN j n s xs ts).toArray⟩) ∧ Hid (Kp (wq31.alloc (.cells #[.string ⟨(Wr.wInt n).toArray⟩, .string ⟨(Wr.wText (s.take 100)).toArray⟩, .string ⟨(Wr.wInts xs).toArray⟩, .string ⟨(Wr.wTexts (cutL ts)).toArray⟩] 9)) w' none)) (fun w' h => ?_) _ _ _ _ ?_
                        · exact ⟨h.1, h.2.1, h.2.2.1, h.2.2.2.1, h.2.2.2.2.1, h.2.2.2.2.2.1, h.2.2.2.2.2.2.1, h.2.2.2.2.2.2.2.1, h.2.2.2.2.2.2.2.2.1, h.2.2.2.2.2.2.2.2.2.1, Lib.hid (KW.out.trans (h.2.2.2.2.2.2.2.2.2.2.2.out))⟩
                        have hHeld : (fun w' => w'.cell? ⟨w.heap.size, 0, none⟩ = some (.int .u8 c) ∧ w'.cell? ⟨w.heap.size, 1, none⟩ = some (.int .i64 n) ∧ w'.cell? ⟨w.heap.size, 2, none⟩ = some (.string ⟨s.toArray⟩) ∧ w'.cell? ⟨w.heap.size, 3, none⟩ = some (.slice a3 l3 c3) ∧ w'.cell? ⟨w.heap.size, 4, none⟩ = some (v4) ∧ w'.cell? ⟨w.heap.size + 1, 0, none⟩ = some (.int .u8 c2) ∧ w'.cell? ⟨w.heap.size + 1, 1, none⟩ = some (.int .i64 n2) ∧ w'.cell? ⟨w.heap.size + 1, 2, none⟩ = some (.string ⟨s2.toArray⟩) ∧ w'.cell? ⟨w.heap.size + 1, 3, none⟩ = some (.slice b3 m3 d3) ∧ w'.cell? ⟨w.heap.size + 1, 4, none⟩ = some (u4) ∧ w'.cell? ⟨wq31.heap.size, j, none⟩ = some (.string ⟨(serN j n s xs ts).toArray⟩) ∧ Hid (Kp (wq31.alloc (.cells #[.string ⟨(Wr.wInt n).toArray⟩, .string ⟨(Wr.wText (s.take 100)).toArray⟩, .string ⟨(Wr.wInts xs).toArray⟩, .string ⟨(Wr.wTexts (cutL ts)).toArray⟩] 9)) w' none)) (wq31.alloc (.cells #[.string ⟨(Wr.wInt n).toArray⟩, .string ⟨(Wr.wText (s.take 100)).toArray⟩, .string ⟨(Wr.wInts xs).toArray⟩, .string ⟨(Wr.wTexts (cutL ts)).toArray⟩] 9)) := by
                          exact ⟨ck HBa_32.out (Kp.refl _ _) 0 rfl, ck HBa_32.out (Kp.refl _ _) 1 rfl, ck HBa_32.out (Kp.refl _ _) 2 rfl, ck HBa_32.out (Kp.refl _ _) 3 rfl, ck HBa_32.out (Kp.refl _ _) 4 rfl, ck HBb_32.out (Kp.refl _ _) 0 rfl, ck HBb_32.out (Kp.refl _ _) 1 rfl, ck HBb_32.out (Kp.refl _ _) 2 rfl, ck HBb_32.out (Kp.refl _ _) 3 rfl, ck HBb_32.out (Kp.refl _ _) 4 rfl, ck HG_32.out (Kp.refl _ _) j (serN_get j n s xs ts HJ.out), Lib.hid (Kp.refl _ _)⟩
                        try simp only [Act.put, List.setIfInBounds_toArray, List.set_cons_zero, List.set_cons_succ]
                        have HR32B := Lib.hid ((HQ31.out).keep ((Kp.refl _ none).alloc (.cells #[.string ⟨(Wr.wInt n).toArray⟩, .string ⟨(Wr.wText (s.take 100)).toArray⟩, .string ⟨(Wr.wInts xs).toArray⟩, .string ⟨(Wr.wTexts (cutL ts)).toArray⟩] 9)))
                        refine wpAnyH_take (i := 27) (oi := _) (v := ?_) rfl (by kernel_rfl) (by kernel_rfl) (by kernel_rfl) (fun _ _ _ h => h) (Or.inl ⟨by rfl, ?_⟩) (by assumption) ?_
                        rotate_left
                        · (intro w hSw; (try dsimp only at hSw); go_simp <;> with_reducible rfl)
                        try simp only [Act.put, List.setIfInBounds_toArray]
                        refine wpAnyH_take (i := 28) (oi := _) (v := ?_) rfl (by kernel_rfl) (by kernel_rfl) (by kernel_rfl) (fun _ _ _ h => h) (Or.inl ⟨by rfl, ?_⟩) (by assumption) ?_
                        rotate_left
                        · (intro w hSw; (try dsimp only at hSw); go_simp <;> with_reducible rfl)
                        try simp only [Act.put]
                        refine wpAnyH_ready (rs := [51]) (by kernel_rfl) (by simp) ?_
                        refine AllReadyH.cons (o := _) rfl (fun K hK => ?_) ?_
                        · have gK := hHeld.2.2.2.2.2.2.2.2.2.2.2
                          go_simp
                          refine (wtexts_any _ (cutL ts2) _ (HEB_32.out.kp0 (kpo gK)) (HR32B.out) (fun x hx => by have := cutL_mem ts2 x hx; omega) (by have := cutL_len ts2; omega)).mono ?_
                          rintro e wq33 ⟨rfl, k2⟩
                          try go_wp2_with fail
                          refine hK.out _ _ ?_ (fun hHeld2 => ?_)
                          · exact ⟨ck HBa_32.out (kpt gK k2) 0 rfl, ck HBa_32.out (kpt gK k2) 1 rfl, ck HBa_32.out (kpt gK k2) 2 rfl, ck HBa_32.out (kpt gK k2) 3 rfl, ck HBa_32.out (kpt gK k2) 4 rfl, ck HBb_32.out (kpt gK k2) 0 rfl, ck HBb_32.out (kpt gK k2) 1 rfl, ck HBb_32.out (kpt gK k2) 2 rfl, ck HBb_32.out (kpt gK k2) 3 rfl, ck HBb_32.out (kpt gK k2) 4 rfl, ck HG_32.out (kpt gK k2) j (serN_get j n s xs ts HJ.out), Lib.hid (kpt gK k2)⟩
                          clear hK K hHeld gK
                          have hHeld := hHeld2
                          clear hHeld2
                          clear k2
                          try simp only [Act.put, List.setIfInBounds_toArray, List.set_cons_zero, List.set_cons_succ]
                          refine wpAnyH_take (i := 58) (oi := _) (v := ?_) rfl (by kernel_rfl) (by kernel_rfl) (by kernel_rfl) (fun _ _ _ h => h) (Or.inl ⟨by rfl, ?_⟩) (by assumption) ?_
                          rotate_left
                          · (intro w hSw; (try dsimp only at hSw); go_simp <;> with_reducible rfl)
                          try simp only [Act.put, List.setIfInBounds_toArray]
                          refine wpAnyH_ready (rs := [52]) (by kernel_rfl) (by simp) ?_
                          refine AllReadyH.cons (o := _) rfl (fun K hK => ?_) ?_
                          · have gK := hHeld.2.2.2.2.2.2.2.2.2.2.2
                            go_simp
                            refine hK.out _ _ ?_ (fun hHeld2 => ?_)
                            · exact ⟨ck HBa_32.out (kpa gK _) 0 rfl, ck HBa_32.out (kpa gK _) 1 rfl, ck HBa_32.out (kpa gK _) 2 rfl, ck HBa_32.out (kpa gK _) 3 rfl, ck HBa_32.out (kpa gK _) 4 rfl, ck HBb_32.out (kpa gK _) 0 rfl, ck HBb_32.out (kpa gK _) 1 rfl, ck HBb_32.out (kpa gK _) 2 rfl, ck HBb_32.out (kpa gK _) 3 rfl, ck HBb_32.out (kpa gK _) 4 rfl, ck HG_32.out (kpa gK _) j (serN_get j n s xs ts HJ.out), Lib.hid (kpa gK _)⟩
                            have KW : Hid (Kp (wq31.alloc (.cells #[.string ⟨(Wr.wInt n).toArray⟩, .string ⟨(Wr.wText (s.take 100)).toArray⟩, .string ⟨(Wr.wInts xs).toArray⟩, .string ⟨(Wr.wTexts (cutL ts)).toArray⟩] 9)) (wq33.alloc (.cells #[.string ⟨(Wr.wInt n2).toArray⟩, .string ⟨(Wr.wText (s2.take 100)).toArray⟩, .string ⟨(Wr.wInts xs2).toArray⟩, .string ⟨(Wr.wTexts (cutL ts2)).toArray⟩] 9)) none) := kpa gK _
                            clear hK K hHeld hHeld2 gK
                            have HG_34 := Lib.hid (heap_alloc_new wq33 (.cells #[.string ⟨(Wr.wInt n2).toArray⟩, .string ⟨(Wr.wText (s2.take 100)).toArray⟩, .string ⟨(Wr.wInts xs2).toArray⟩, .string ⟨(Wr.wTexts (cutL ts2)).toArray⟩] 9))
                            have HEB_34 := Lib.hid (HEB_32.out.kp0 KW.out)
                            have HVa_34 := Lib.hid (HVa_32.out.keep KW.out)
                            have HVb_34 := Lib.hid (HVb_32.out.keep KW.out)
                            have HBa_34 := Lib.hid ((KW.out.block _ (lt_of_block HBa_32.out) (by simp)).trans HBa_32.out)
                            have HBb_34 := Lib.hid ((KW.out.block _ (lt_of_block HBb_32.out) (by simp)).trans HBb_32.out)
                            have HX34 := Lib.hid ((KW.out.block _ (lt_of_block HG_32.out) (by simp)).trans HG_32.out)
                            have KWB_34 := Lib.hid (KWB_32.out.trans KW.out)
                            refine wpAnyH_mono (S' := fun w' => w'.cell? ⟨w.heap.size, 0, none⟩ = some (.int .u8 c) ∧ w'.cell? ⟨w.heap.size, 1, none⟩ = some (.int .i64 n) ∧ w'.cell? ⟨w.heap.size, 2, none⟩ = some (.string ⟨s.toArray⟩) ∧ w'.cell? ⟨w.heap.size, 3, none⟩ = some (.slice a3 l3 c3) ∧ w'.cell? ⟨w.heap.size, 4, none⟩ = some (v4) ∧ w'.cell? ⟨w.heap.size + 1, 0, none⟩ = some (.int .u8 c2) ∧ w'.cell? ⟨w.heap.size + 1, 1, none⟩ = some (.int .i64 n2) ∧ w'.cell? ⟨w.heap.size + 1, 2, none⟩ = some (.string ⟨s2.toArray⟩) ∧ w'.cell? ⟨w.heap.size + 1, 3, none⟩ = some (.slice b3 m3 d3) ∧ w'.cell? ⟨w.heap.size + 1, 4, none⟩ = some (u4) ∧ w'.cell? ⟨wq31.heap.size, j, none⟩ = some (.string ⟨(serN j n s xs ts).toArray⟩) ∧ w'.cell? ⟨wq33.heap.size, j, none⟩ = some (.string ⟨(serN j n2 s2 xs2 ts2).toArray⟩) ∧ Hid (Kp (wq33.alloc (.cells #[.string ⟨(Wr.wInt n2).toArray⟩, .string ⟨(Wr.wText (s2.take 100)).toArray⟩, .string ⟨(Wr.wInts xs2).toArray⟩, .string ⟨(Wr.wTexts (cutL ts2)).toArray⟩] 9)) w' none)) (fun w' h => ?_) _ _ _ _ ?_
                            · exact ⟨h.1, h.2.1, h.2.2.1, h.2.2.2.1, h.2.2.2.2.1, h.2.2.2.2.2.1, h.2.2.2.2.2.2.1, h.2.2.2.2.2.2.2.1, h.2.2.2.2.2.2.2.2.1, h.2.2.2.2.2.2.2.2.2.1, h.2.2.2.2.2.2.2.2.2.2.1, Lib.hid (KW.out.trans (h.2.2.2.2.2.2.2.2.2.2.2.2.out))⟩
                            have hHeld : (fun w' => w'.cell? ⟨w.heap.size, 0, none⟩ = some (.int .u8 c) ∧ w'.cell? ⟨w.heap.size, 1, none⟩ = some (.int .i64 n) ∧ w'.cell? ⟨w.heap.size, 2, none⟩ = some (.string ⟨s.toArray⟩) ∧ w'.cell? ⟨w.heap.size, 3, none⟩ = some (.slice a3 l3 c3) ∧ w'.cell? ⟨w.heap.size, 4, none⟩ = some (v4) ∧ w'.cell? ⟨w.heap.size + 1, 0, none⟩ = some (.int .u8 c2) ∧ w'.cell? ⟨w.heap.size + 1, 1, none⟩ = some (.int .i64 n2) ∧ w'.cell? ⟨w.heap.size + 1, 2, none⟩ = some (.string ⟨s2.toArray⟩) ∧ w'.cell? ⟨w.heap.size + 1, 3, none⟩ = some (.slice b3 m3 d3) ∧ w'.cell? ⟨w.heap.size + 1, 4, none⟩ = some (u4) ∧ w'.cell? ⟨wq31.heap.size, j, none⟩ = some (.string ⟨(serN j n s xs ts).toArray⟩) ∧ w'.cell? ⟨wq33.heap.size, j, none⟩ = some (.string ⟨(serN j n2 s2 xs2 ts2).toArray⟩) ∧ Hid (Kp (wq33.alloc (.cells #[.string ⟨(Wr.wInt n2).toArray⟩, .string ⟨(Wr.wText (s2.take 100)).toArray⟩, .string ⟨(Wr.wInts xs2).toArray⟩, .string ⟨(Wr.wTexts (cutL ts2)).toArray⟩] 9)) w' none)) (wq33.alloc (.cells #[.string ⟨(Wr.wInt n2).toArray⟩, .string ⟨(Wr.wText (s2.take 100)).toArray⟩, .string ⟨(Wr.wInts xs2).toArray⟩, .string ⟨(Wr.wTexts (cutL ts2)).toArray⟩] 9)) := by
                              exact ⟨ck HBa_34.out (Kp.refl _ _) 0 rfl, ck HBa_34.out (Kp.refl _ _) 1 rfl, ck HBa_34.out (Kp.refl _ _) 2 rfl, ck HBa_34.out (Kp.refl _ _) 3 rfl, ck HBa_34.out (Kp.refl _ _) 4 rfl, ck HBb_34.out (Kp.refl _ _) 0 rfl, ck HBb_34.out (Kp.refl _ _) 1 rfl, ck HBb_34.out (Kp.refl _ _) 2 rfl, ck HBb_34.out (Kp.refl _ _) 3 rfl, ck HBb_34.out (Kp.refl _ _) 4 rfl, ck HX34.out (Kp.refl _ _) j (serN_get j n s xs ts HJ.out), ck HG_34.out (Kp.refl _ _) j (serN_get j n2 s2 xs2 ts2 HJ.out), Lib.hid (Kp.refl _ _)⟩
                            try simp only [Act.put, List.setIfInBounds_toArray, List.set_cons_zero, List.set_cons_succ]
                            refine wpAnyH_take (i := 56) (oi := _) (v := ?_) rfl (by kernel_rfl) (by kernel_rfl) (by kernel_rfl) (fun _ _ _ h => h) (Or.inl ⟨by rfl, ?_⟩) (by assumption) ?_
                            rotate_left
                            · (intro w hSw; (try dsimp only at hSw); go_simp <;> with_reducible rfl)
                            try simp only [Act.put, List.setIfInBounds_toArray]
                            refine wpAnyH_take (i := 57) (oi := _) (v := ?_) rfl (by kernel_rfl) (by kernel_rfl) (by kernel_rfl) (fun _ _ _ h => h) (Or.inl ⟨by rfl, ?_⟩) (by assumption) ?_
                            rotate_left
                            · (intro w hSw; (try dsimp only at hSw); go_simp <;> with_reducible rfl)
                            try simp only [Act.put]
                            refine wpAnyH_ready (rs := [59]) (by kernel_rfl) (by simp) ?_
                            refine AllReadyH.cons (o := _) rfl (fun K hK => ?_) AllReadyH.nil
                            have gK := hHeld.2.2.2.2.2.2.2.2.2.2.2.2
                            go_simp
                            refine hK.out _ _ ?_ (fun hHeld2 => ?_)
                            · exact ⟨ck HBa_34.out (kpo gK) 0 rfl, ck HBa_34.out (kpo gK) 1 rfl, ck HBa_34.out (kpo gK) 2 rfl, ck HBa_34.out (kpo gK) 3 rfl, ck HBa_34.out (kpo gK) 4 rfl, ck HBb_34.out (kpo gK) 0 rfl, ck HBb_34.out (kpo gK) 1 rfl, ck HBb_34.out (kpo gK) 2 rfl, ck HBb_34.out (kpo gK) 3 rfl, ck HBb_34.out (kpo gK) 4 rfl, ck HX34.out (kpo gK) j (serN_get j n s xs ts HJ.out), ck HG_34.out (kpo gK) j (serN_get j n2 s2 xs2 ts2 HJ.out), Lib.hid (kpo gK)⟩
                            clear hK K hHeld gK
                            have hHeld := hHeld2
                            clear hHeld2
                            try simp only [Act.put, List.setIfInBounds_toArray, List.set_cons_zero, List.set_cons_succ]
                            refine wpAnyH_done (by kernel_rfl) ?_ _
                            have gK := hHeld.2.2.2.2.2.2.2.2.2.2.2.2
                            clear hHeld
                            go_wp2_with fail
                            go_meet
                            exact ⟨rfl, rfl, KWB_34.out.trans gK.out⟩
                          exact AllReadyH.nil
                        exact AllReadyH.nil
                      refine AllReadyH.cons (o := _) rfl (fun K hK => ?_) ?_
                      · have gK := hHeld.2.2.2.2.2.2.2.2.2.2
                        go_simp
                        refine (wtexts_any _ (cutL ts2) _ (HEB.out.kp0 (kpo gK)) (HQ31.out) (fun x hx => by have := cutL_mem ts2 x hx; omega) (by have := cutL_len ts2; omega)).mono ?_
                        rintro e wq35 ⟨rfl, k2⟩
                        try go_wp2_with fail
                        refine hK.out _ _ ?_ (fun hHeld2 => ?_)
                        · exact ⟨ck HBa.out (kpt gK k2) 0 rfl, ck HBa.out (kpt gK k2) 1 rfl, ck HBa.out (kpt gK k2) 2 rfl, ck HBa.out (kpt gK k2) 3 rfl, ck HBa.out (kpt gK k2) 4 rfl, ck HBb.out (kpt gK k2) 0 rfl, ck HBb.out (kpt gK k2) 1 rfl, ck HBb.out (kpt gK k2) 2 rfl, ck HBb.out (kpt gK k2) 3 rfl, ck HBb.out (kpt gK k2) 4 rfl, Lib.hid (kpt gK k2)⟩
                        clear hK K hHeld gK
                        have hHeld := hHeld2
                        clear hHeld2
                        clear k2
                        try simp only [Act.put, List.setIfInBounds_toArray, List.set_cons_zero, List.set_cons_succ]
                        refine wpAnyH_ready (rs := [23, 52]) (by kernel_rfl) (by simp) ?_
                        refine AllReadyH.cons (o := _) rfl (fun K hK => ?_) ?_
                        · have gK := hHeld.2.2.2.2.2.2.2.2.2.2
                          go_simp
                          refine hK.out _ _ ?_ (fun hHeld2 => ?_)
                          · exact ⟨ck HBa.out (kpa gK _) 0 rfl, ck HBa.out (kpa gK _) 1 rfl, ck HBa.out (kpa gK _) 2 rfl, ck HBa.out (kpa gK _) 3 rfl, ck HBa.out (kpa gK _) 4 rfl, ck HBb.out (kpa gK _) 0 rfl, ck HBb.out (kpa gK _) 1 rfl, ck HBb.out (kpa gK _) 2 rfl, ck HBb.out (kpa gK _) 3 rfl, ck HBb.out (kpa gK _) 4 rfl, Lib.hid (kpa gK _)⟩
                          have KW : Hid (Kp w1 (wq35.alloc (.cells #[.string ⟨(Wr.wInt n).toArray⟩, .string ⟨(Wr.wText (s.take 100)).toArray⟩, .string ⟨(Wr.wInts xs).toArray⟩, .string ⟨(Wr.wTexts (cutL ts)).toArray⟩] 9)) none) := kpa gK _
                          clear hK K hHeld hHeld2 gK
                          have HG_36 := Lib.hid (heap_alloc_new wq35 (.cells #[.string ⟨(Wr.wInt n).toArray⟩, .string ⟨(Wr.wText (s.take 100)).toArray⟩, .string ⟨(Wr.wInts xs).toArray⟩, .string ⟨(Wr.wTexts (cutL ts)).toArray⟩] 9))
                          have HEB_36 := Lib.hid (HEB.out.kp0 KW.out)
                          have HVa_36 := Lib.hid (HVa.out.keep KW.out)
                          have HVb_36 := Lib.hid (HVb.out.keep KW.out)
                          have HBa_36 := Lib.hid ((KW.out.block _ (lt_of_block HBa.out) (by simp)).trans HBa.out)
                          have HBb_36 := Lib.hid ((KW.out.block _ (lt_of_block HBb.out) (by simp)).trans HBb.out)
                          have KWB_36 := Lib.hid (KWB.out.trans KW.out)
                          refine wpAnyH_mono (S' := fun w' => w'.cell? ⟨w.heap.size, 0, none⟩ = some (.int .u8 c) ∧ w'.cell? ⟨w.heap.size, 1, none⟩ = some (.int .i64 n) ∧ w'.cell? ⟨w.heap.size, 2, none⟩ = some (.string ⟨s.toArray⟩) ∧ w'.cell? ⟨w.heap.size, 3, none⟩ = some (.slice a3 l3 c3) ∧ w'.cell? ⟨w.heap.size, 4, none⟩ = some (v4) ∧ w'.cell? ⟨w.heap.size + 1, 0, none⟩ = some (.int .u8 c2) ∧ w'.cell? ⟨w.heap.size + 1, 1, none⟩ = some (.int .i64 n2) ∧ w'.cell? ⟨w.heap.size + 1, 2, none⟩ = some (.string ⟨s2.toArray⟩) ∧ w'.cell? ⟨w.heap.size + 1, 3, none⟩ = some (.slice b3 m3 d3) ∧ w'.cell? ⟨w.heap.size + 1, 4, none⟩ = some (u4) ∧ w'.cell? ⟨wq35.heap.size, j, none⟩ = some (.string ⟨(serN j n s xs ts).toArray⟩) ∧ Hid (Kp (wq35.alloc (.cells #[.string ⟨(Wr.wInt n).toArray⟩, .string ⟨(Wr.wText (s.take 100)).toArray⟩, .string ⟨(Wr.wInts xs).toArray⟩, .string ⟨(Wr.wTexts (cutL ts)).toArray⟩] 9)) w' none)) (fun w' h => ?_) _ _ _ _ ?_
                          · exact ⟨h.1, h.2.1, h.2.2.1, h.2.2.2.1, h.2.2.2.2.1, h.2.2.2.2.2.1, h.2.2.2.2.2.2.1, h.2.2.2.2.2.2.2.1, h.2.2.2.2.2.2.2.2.1, h.2.2.2.2.2.2.2.2.2.1, Lib.hid (KW.out.trans (h.2.2.2.2.2.2.2.2.2.2.2.out))⟩
                          have hHeld : (fun w' => w'.cell? ⟨w.heap.size, 0, none⟩ = some (.int .u8 c) ∧ w'.cell? ⟨w.heap.size, 1, none⟩ = some (.int .i64 n) ∧ w'.cell? ⟨w.heap.size, 2, none⟩ = some (.string ⟨s.toArray⟩) ∧ w'.cell? ⟨w.heap.size, 3, none⟩ = some (.slice a3 l3 c3) ∧ w'.cell? ⟨w.heap.size, 4, none⟩ = some (v4) ∧ w'.cell? ⟨w.heap.size + 1, 0, none⟩ = some (.int .u8 c2) ∧ w'.cell? ⟨w.heap.size + 1, 1, none⟩ = some (.int .i64 n2) ∧ w'.cell? ⟨w.heap.size + 1, 2, none⟩ = some (.string ⟨s2.toArray⟩) ∧ w'.cell? ⟨w.heap.size + 1, 3, none⟩ = some (.slice b3 m3 d3) ∧ w'.cell? ⟨w.heap.size + 1, 4, none⟩ = some (u4) ∧ w'.cell? ⟨wq35.heap.size, j, none⟩ = some (.string ⟨(serN j n s xs ts).toArray⟩) ∧ Hid (Kp (wq35.alloc (.cells #[.string ⟨(Wr.wInt n).toArray⟩, .string ⟨(Wr.wText (s.take 100)).toArray⟩, .string ⟨(Wr.wInts xs).toArray⟩, .string ⟨(Wr.wTexts (cutL ts)).toArray⟩] 9)) w' none)) (wq35.alloc (.cells #[.string ⟨(Wr.wInt n).toArray⟩, .string ⟨(Wr.wText (s.take 100)).toArray⟩, .string ⟨(Wr.wInts xs).toArray⟩, .string ⟨(Wr.wTexts (cutL ts)).toArray⟩] 9)) := by
                            exact ⟨ck HBa_36.out (Kp.refl _ _) 0 rfl, ck HBa_36.out (Kp.refl _ _) 1 rfl, ck HBa_36.out (Kp.refl _ _) 2 rfl, ck HBa_36.out (Kp.refl _ _) 3 rfl, ck HBa_36.out (Kp.refl _ _) 4 rfl, ck HBb_36.out (Kp.refl _ _) 0 rfl, ck HBb_36.out (Kp.refl _ _) 1 rfl, ck HBb_36.out (Kp.refl _ _) 2 rfl, ck HBb_36.out (Kp.refl _ _) 3 rfl, ck HBb_36.out (Kp.refl _ _) 4 rfl, ck HG_36.out (Kp.refl _ _) j (serN_get j n s xs ts HJ.out), Lib.hid (Kp.refl _ _)⟩
                          try simp only [Act.put, List.setIfInBounds_toArray, List.set_cons_zero, List.set_cons_succ]
                          refine wpAnyH_take (i := 27) (oi := _) (v := ?_) rfl (by kernel_rfl) (by kernel_rfl) (by kernel_rfl) (fun _ _ _ h => h) (Or.inl ⟨by rfl, ?_⟩) (by assumption) ?_
                          rotate_left
                          · (intro w hSw; (try dsimp only at hSw); go_simp <;> with_reducible rfl)
                          try simp only [Act.put, List.setIfInBounds_toArray]
                          refine wpAnyH_take (i := 28) (oi := _) (v := ?_) rfl (by kernel_rfl) (by kernel_rfl) (by kernel_rfl) (fun _ _ _ h => h) (Or.inl ⟨by rfl, ?_⟩) (by assumption) ?_
                          rotate_left
                          · (intro w hSw; (try dsimp only at hSw); go_simp <;> with_reducible rfl)
                          try simp only [Act.put]
                          refine wpAnyH_take (i := 58) (oi := _) (v := ?_) rfl (by kernel_rfl) (by kernel_rfl) (by kernel_rfl) (fun _ _ _ h => h) (Or.inl ⟨by rfl, ?_⟩) (by assumption) ?_
                          rotate_left
                          · (intro w hSw; (try dsimp only at hSw); go_simp <;> with_reducible rfl)
                          try simp only [Act.put]
                          refine wpAnyH_ready (rs := [52]) (by kernel_rfl) (by simp) ?_
                          refine AllReadyH.cons (o := _) rfl (fun K hK => ?_) ?_
                          · have gK := hHeld.2.2.2.2.2.2.2.2.2.2.2
                            go_simp
                            refine hK.out _ _ ?_ (fun hHeld2 => ?_)
                            · exact ⟨ck HBa_36.out (kpa gK _) 0 rfl, ck HBa_36.out (kpa gK _) 1 rfl, ck HBa_36.out (kpa gK _) 2 rfl, ck HBa_36.out (kpa gK _) 3 rfl, ck HBa_36.out (kpa gK _) 4 rfl, ck HBb_36.out (kpa gK _) 0 rfl, ck HBb_36.out (kpa gK _) 1 rfl, ck HBb_36.out (kpa gK _) 2 rfl, ck HBb_36.out (kpa gK _) 3 rfl, ck HBb_36.out (kpa gK _) 4 rfl, ck HG_36.out (kpa gK _) j (serN_get j n s xs ts HJ.out), Lib.hid (kpa gK _)⟩
                            have KW : Hid (Kp (wq35.alloc (.cells #[.string ⟨(Wr.wInt n).toArray⟩, .string ⟨(Wr.wText (s.take 100)).toArray⟩, .string ⟨(Wr.wInts xs).toArray⟩, .string ⟨(Wr.wTexts (cutL ts)).toArray⟩] 9)) ((wq35.alloc (.cells #[.string ⟨(Wr.wInt n).toArray⟩, .string ⟨(Wr.wText (s.take 100)).toArray⟩, .string ⟨(Wr.wInts xs).toArray⟩, .string ⟨(Wr.wTexts (cutL ts)).toArray⟩] 9)).alloc (.cells #[.string ⟨(Wr.wInt n2).toArray⟩, .string ⟨(Wr.wText (s2.take 100)).toArray⟩, .string ⟨(Wr.wInts xs2).toArray⟩, .string ⟨(Wr.wTexts (cutL ts2)).toArray⟩] 9)) none) := kpa gK _
                            clear hK K hHeld hHeld2 gK
                            have HG_37 : Hid (((wq35.alloc (.cells #[.string ⟨(Wr.wInt n).toArray⟩, .string ⟨(Wr.wText (s.take 100)).toArray⟩, .string ⟨(Wr.wInts xs).toArray⟩, .string ⟨(Wr.wTexts (cutL ts)).toArray⟩] 9)).alloc (.cells #[.string ⟨(Wr.wInt n2).toArray⟩, .string ⟨(Wr.wText (s2.take 100)).toArray⟩, .string ⟨(Wr.wInts xs2).toArray⟩, .string ⟨(Wr.wTexts (cutL ts2)).toArray⟩] 9)).heap[wq35.heap.size + 1]? = some (.cells #[.string ⟨(Wr.wInt n2).toArray⟩, .string ⟨(Wr.wText (s2.take 100)).toArray⟩, .string ⟨(Wr.wInts xs2).toArray⟩, .string ⟨(Wr.wTexts (cutL ts2)).toArray⟩] 9 (0, 0))) := by
                              have hh := heap_alloc_new (wq35.alloc (.cells #[.string ⟨(Wr.wInt n).toArray⟩, .string ⟨(Wr.wText (s.take 100)).toArray⟩, .string ⟨(Wr.wInts xs).toArray⟩, .string ⟨(Wr.wTexts (cutL ts)).toArray⟩] 9)) (.cells #[.string ⟨(Wr.wInt n2).toArray⟩, .string ⟨(Wr.wText (s2.take 100)).toArray⟩, .string ⟨(Wr.wInts xs2).toArray⟩, .string ⟨(Wr.wTexts (cutL ts2)).toArray⟩] 9)
                              rw [show (wq35.alloc (.cells #[.string ⟨(Wr.wInt n).toArray⟩, .string ⟨(Wr.wText (s.take 100)).toArray⟩, .string ⟨(Wr.wInts xs).toArray⟩, .string ⟨(Wr.wTexts (cutL ts)).toArray⟩] 9)).heap.size = wq35.heap.size + 1 by simp] at hh
                              exact hh
                            have HEB_37 := Lib.hid (HEB_36.out.kp0 KW.out)
                            have HVa_37 := Lib.hid (HVa_36.out.keep KW.out)
                            have HVb_37 := Lib.hid (HVb_36.out.keep KW.out)
                            have HBa_37 := Lib.hid ((KW.out.block _ (lt_of_block HBa_36.out) (by simp)).trans HBa_36.out)
                            have HBb_37 := Lib.hid ((KW.out.block _ (lt_of_block HBb_36.out) (by simp)).trans HBb_36.out)
                            have HX37 := Lib.hid ((KW.out.block _ (lt_of_block HG_36.out) (by simp)).trans HG_36.out)
                            have KWB_37 := Lib.hid (KWB_36.out.trans KW.out)
                            refine wpAnyH_mono (S' := fun w' => w'.cell? ⟨w.heap.size, 0, none⟩ = some (.int .u8 c) ∧ w'.cell? ⟨w.heap.size, 1, none⟩ = some (.int .i64 n) ∧ w'.cell? ⟨w.heap.size, 2, none⟩ = some (.string ⟨s.toArray⟩) ∧ w'.cell? ⟨w.heap.size, 3, none⟩ = some (.slice a3 l3 c3) ∧ w'.cell? ⟨w.heap.size, 4, none⟩ = some (v4) ∧ w'.cell? ⟨w.heap.size + 1, 0, none⟩ = some (.int .u8 c2) ∧ w'.cell? ⟨w.heap.size + 1, 1, none⟩ = some (.int .i64 n2) ∧ w'.cell? ⟨w.heap.size + 1, 2, none⟩ = some (.string ⟨s2.toArray⟩) ∧ w'.cell? ⟨w.heap.size + 1, 3, none⟩ = some (.slice b3 m3 d3) ∧ w'.cell? ⟨w.heap.size + 1, 4, none⟩ = some (u4) ∧ w'.cell? ⟨wq35.heap.size, j, none⟩ = some (.string ⟨(serN j n s xs ts).toArray⟩) ∧ w'.cell? ⟨wq35.heap.size + 1, j, none⟩ = some (.string ⟨(serN j n2 s2 xs2 ts2).toArray⟩) ∧ Hid (Kp ((wq35.alloc (.cells #[.string ⟨(Wr.wInt n).toArray⟩, .string ⟨(Wr.wText (s.take 100)).toArray⟩, .string ⟨(Wr.wInts xs).toArray⟩, .string ⟨(Wr.wTexts (cutL ts)).toArray⟩] 9)).alloc (.cells #[.string ⟨(Wr.wInt n2).toArray⟩, .string ⟨(Wr.wText (s2.take 100)).toArray⟩, .string ⟨(Wr.wInts xs2).toArray⟩, .string ⟨(Wr.wTexts (cutL ts2)).toArray⟩] 9)) w' none)) (fun w' h => ?_) _ _ _ _ ?_
                            · exact ⟨h.1, h.2.1, h.2.2.1, h.2.2.2.1, h.2.2.2.2.1, h.2.2.2.2.2.1, h.2.2.2.2.2.2.1, h.2.2.2.2.2.2.2.1, h.2.2.2.2.2.2.2.2.1, h.2.2.2.2.2.2.2.2.2.1, h.2.2.2.2.2.2.2.2.2.2.1, Lib.hid (KW.out.trans (h.2.2.2.2.2.2.2.2.2.2.2.2.out))⟩
                            have hHeld : (fun w' => w'.cell? ⟨w.heap.size, 0, none⟩ = some (.int .u8 c) ∧ w'.cell? ⟨w.heap.size, 1, none⟩ = some (.int .i64 n) ∧ w'.cell? ⟨w.heap.size, 2, none⟩ = some (.string ⟨s.toArray⟩) ∧ w'.cell? ⟨w.heap.size, 3, none⟩ = some (.slice a3 l3 c3) ∧ w'.cell? ⟨w.heap.size, 4, none⟩ = some (v4) ∧ w'.cell? ⟨w.heap.size + 1, 0, none⟩ = some (.int .u8 c2) ∧ w'.cell? ⟨w.heap.size + 1, 1, none⟩ = some (.int .i64 n2) ∧ w'.cell? ⟨w.heap.size + 1, 2, none⟩ = some (.string ⟨s2.toArray⟩) ∧ w'.cell? ⟨w.heap.size + 1, 3, none⟩ = some (.slice b3 m3 d3) ∧ w'.cell? ⟨w.heap.size + 1, 4, none⟩ = some (u4) ∧ w'.cell? ⟨wq35.heap.size, j, none⟩ = some (.string ⟨(serN j n s xs ts).toArray⟩) ∧ w'.cell? ⟨wq35.heap.size + 1, j, none⟩ = some (.string ⟨(serN j n2 s2 xs2 ts2).toArray⟩) ∧ Hid (Kp ((wq35.alloc (.cells #[.string ⟨(Wr.wInt n).toArray⟩, .string ⟨(Wr.wText (s.take 100)).toArray⟩, .string ⟨(Wr.wInts xs).toArray⟩, .string ⟨(Wr.wTexts (cutL ts)).toArray⟩] 9)).alloc (.cells #[.string ⟨(Wr.wInt n2).toArray⟩, .string ⟨(Wr.wText (s2.take 100)).toArray⟩, .string ⟨(Wr.wInts xs2).toArray⟩, .string ⟨(Wr.wTexts (cutL ts2)).toArray⟩] 9)) w' none)) ((wq35.alloc (.cells #[.string ⟨(Wr.wInt n).toArray⟩, .string ⟨(Wr.wText (s.take 100)).toArray⟩, .string ⟨(Wr.wInts xs).toArray⟩, .string ⟨(Wr.wTexts (cutL ts)).toArray⟩] 9)).alloc (.cells #[.string ⟨(Wr.wInt n2).toArray⟩, .string ⟨(Wr.wText (s2.take 100)).toArray⟩, .string ⟨(Wr.wInts xs2).toArray⟩, .string ⟨(Wr.wTexts (cutL ts2)).toArray⟩] 9)) := by
                              exact ⟨ck HBa_37.out (Kp.refl _ _) 0 rfl, ck HBa_37.out (Kp.refl _ _) 1 rfl, ck HBa_37.out (Kp.refl _ _) 2 rfl, ck HBa_37.out (Kp.refl _ _) 3 rfl, ck HBa_37.out (Kp.refl _ _) 4 rfl, ck HBb_37.out (Kp.refl _ _) 0 rfl, ck HBb_37.out (Kp.refl _ _) 1 rfl, ck HBb_37.out (Kp.refl _ _) 2 rfl, ck HBb_37.out (Kp.refl _ _) 3 rfl, ck HBb_37.out (Kp.refl _ _) 4 rfl, ck HX37.out (Kp.refl _ _) j (serN_get j n s xs ts HJ.out), ck HG_37.out (Kp.refl _ _) j (serN_get j n2 s2 xs2 ts2 HJ.out), Lib.hid (Kp.refl _ _)⟩
                            try simp only [Act.put, List.setIfInBounds_toArray, List.set_cons_zero, List.set_cons_succ]
                            refine wpAnyH_take (i := 56) (oi := _) (v := ?_) rfl (by kernel_rfl) (by kernel_rfl) (by kernel_rfl) (fun _ _ _ h => h) (Or.inl ⟨by rfl, ?_⟩) (by assumption) ?_
                            rotate_left
                            · (intro w hSw; (try dsimp only at hSw); go_simp <;> with_reducible rfl)
                            try simp only [Act.put, List.setIfInBounds_toArray]
                            refine wpAnyH_take (i := 57) (oi := _) (v := ?_) rfl (by kernel_rfl) (by kernel_rfl) (by kernel_rfl) (fun _ _ _ h => h) (Or.inl ⟨by rfl, ?_⟩) (by assumption) ?_
                            rotate_left
                            · (intro w hSw; (try dsimp only at hSw); go_simp <;> with_reducible rfl)
                            try simp only [Act.put]
                            refine wpAnyH_ready (rs := [59]) (by kernel_rfl) (by simp) ?_
                            refine AllReadyH.cons (o := _) rfl (fun K hK => ?_) AllReadyH.nil
                            have gK := hHeld.2.2.2.2.2.2.2.2.2.2.2.2
                            go_simp
                            refine hK.out _ _ ?_ (fun hHeld2 => ?_)
                            · exact ⟨ck HBa_37.out (kpo gK) 0 rfl, ck HBa_37.out (kpo gK) 1 rfl, ck HBa_37.out (kpo gK) 2 rfl, ck HBa_37.out (kpo gK) 3 rfl, ck HBa_37.out (kpo gK) 4 rfl, ck HBb_37.out (kpo gK) 0 rfl, ck HBb_37.out (kpo gK) 1 rfl, ck HBb_37.out (kpo gK) 2 rfl, ck HBb_37.out (kpo gK) 3 rfl, ck HBb_37.out (kpo gK) 4 rfl, ck HX37.out (kpo gK) j (serN_get j n s xs ts HJ.out), ck HG_37.out (kpo gK) j (serN_get j n2 s2 xs2 ts2 HJ.out), Lib.hid (kpo gK)⟩
                            clear hK K hHeld gK
                            have hHeld := hHeld2
                            clear hHeld2
                            try simp only [Act.put, List.setIfInBounds_toArray, List.set_cons_zero, List.set_cons_succ]
                            refine wpAnyH_done (by kernel_rfl) ?_ _
                            have gK := hHeld.2.2.2.2.2.2.2.2.2.2.2.2
                            clear hHeld
                            go_wp2_with fail
                            go_meet
                            exact ⟨rfl, rfl, KWB_37.out.trans gK.out⟩
                          exact AllReadyH.nil
                        refine AllReadyH.cons (o := _) rfl (fun K hK => ?_) ?_
                        · have gK := hHeld.2.2.2.2.2.2.2.2.2.2
                          go_simp
                          refine hK.out _ _ ?_ (fun hHeld2 => ?_)
                          · exact ⟨ck HBa.out (kpa gK _) 0 rfl, ck HBa.out (kpa gK _) 1 rfl, ck HBa.out (kpa gK _) 2 rfl, ck HBa.out (kpa gK _) 3 rfl, ck HBa.out (kpa gK _) 4 rfl, ck HBb.out (kpa gK _) 0 rfl, ck HBb.out (kpa gK _) 1 rfl, ck HBb.out (kpa gK _) 2 rfl, ck HBb.out (kpa gK _) 3 rfl, ck HBb.out (kpa gK _) 4 rfl, Lib.hid (kpa gK _)⟩
                          have KW : Hid (Kp w1 (wq35.alloc (.cells #[.string ⟨(Wr.wInt n2).toArray⟩, .string ⟨(Wr.wText (s2.take 100)).toArray⟩, .string ⟨(Wr.wInts xs2).toArray⟩, .string ⟨(Wr.wTexts (cutL ts2)).toArray⟩] 9)) none) := kpa gK _
                          clear hK K hHeld hHeld2 gK
                          have HG_38 := Lib.hid (heap_alloc_new wq35 (.cells #[.string ⟨(Wr.wInt n2).toArray⟩, .string ⟨(Wr.wText (s2.take 100)).toArray⟩, .string ⟨(Wr.wInts xs2).toArray⟩, .string ⟨(Wr.wTexts (cutL ts2)).toArray⟩] 9))
                          have HEB_38 := Lib.hid (HEB.out.kp0 KW.out)
                          have HVa_38 := Lib.hid (HVa.out.keep KW.out)
                          have HVb_38 := Lib.hid (HVb.out.keep KW.out)
                          have HBa_38 := Lib.hid ((KW.out.block _ (lt_of_block HBa.out) (by simp)).trans HBa.out)
                          have HBb_38 := Lib.hid ((KW.out.block _ (lt_of_block HBb.out) (by simp)).trans HBb.out)
                          have KWB_38 := Lib.hid (KWB.out.trans KW.out)
                          refine wpAnyH_mono (S' := fun w' => w'.cell? ⟨w.heap.size, 0, none⟩ = some (.int .u8 c) ∧ w'.cell? ⟨w.heap.size, 1, none⟩ = some (.int .i64 n) ∧ w'.cell? ⟨w.heap.size, 2, none⟩ = some (.string ⟨s.toArray⟩) ∧ w'.cell? ⟨w.heap.size, 3, none⟩ = some (.slice a3 l3 c3) ∧ w'.cell? ⟨w.heap.size, 4, none⟩ = some (v4) ∧ w'.cell? ⟨w.heap.size + 1, 0, none⟩ = some (.int .u8 c2) ∧ w'.cell? ⟨w.heap.size + 1, 1, none⟩ = some (.int .i64 n2) ∧ w'.cell? ⟨w.heap.size + 1, 2, none⟩ = some (.string ⟨s2.toArray⟩) ∧ w'.cell? ⟨w.heap.size + 1, 3, none⟩ = some (.slice b3 m3 d3) ∧ w'.cell? ⟨w.heap.size + 1, 4, none⟩ = some (u4) ∧ w'.cell? ⟨wq35.heap.size, j, none⟩ = some (.string ⟨(serN j n2 s2 xs2 ts2).toArray⟩) ∧ Hid (Kp (wq35.alloc (.cells #[.string ⟨(Wr.wInt n2).toArray⟩, .string ⟨(Wr.wText (s2.take 100)).toArray⟩, .string ⟨(Wr.wInts xs2).toArray⟩, .string ⟨(Wr.wTexts (cutL ts2)).toArray⟩] 9)) w' none)) (fun w' h => ?_) _ _ _ _ ?_
                          · exact ⟨h.1, h.2.1, h.2.2.1, h.2.2.2.1, h.2.2.2.2.1, h.2.2.2.2.2.1, h.2.2.2.2.2.2.1, h.2.2.2.2.2.2.2.1, h.2.2.2.2.2.2.2.2.1, h.2.2.2.2.2.2.2.2.2.1, Lib.hid (KW.out.trans (h.2.2.2.2.2.2.2.2.2.2.2.out))⟩
                          have hHeld : (fun w' => w'.cell? ⟨w.heap.size, 0, none⟩ = some (.int .u8 c) ∧ w'.cell? ⟨w.heap.size, 1, none⟩ = some (.int .i64 n) ∧ w'.cell? ⟨w.heap.size, 2, none⟩ = some (.string ⟨s.toArray⟩) ∧ w'.cell? ⟨w.heap.size, 3, none⟩ = some (.slice a3 l3 c3) ∧ w'.cell? ⟨w.heap.size, 4, none⟩ = some (v4) ∧ w'.cell? ⟨w.heap.size + 1, 0, none⟩ = some (.int .u8 c2) ∧ w'.cell? ⟨w.heap.size + 1, 1, none⟩ = some (.int .i64 n2) ∧ w'.cell? ⟨w.heap.size + 1, 2, none⟩ = some (.string ⟨s2.toArray⟩) ∧ w'.cell? ⟨w.heap.size + 1, 3, none⟩ = some (.slice b3 m3 d3) ∧ w'.cell? ⟨w.heap.size + 1, 4, none⟩ = some (u4) ∧ w'.cell? ⟨wq35.heap.size, j, none⟩ = some (.string ⟨(serN j n2 s2 xs2 ts2).toArray⟩) ∧ Hid (Kp (wq35.alloc (.cells #[.string ⟨(Wr.wInt n2).toArray⟩, .string ⟨(Wr.wText (s2.take 100)).toArray⟩, .string ⟨(Wr.wInts xs2).toArray⟩, .string ⟨(Wr.wTexts (cutL ts2)).toArray⟩] 9)) w' none)) (wq35.alloc (.cells #[.string ⟨(Wr.wInt n2).toArray⟩, .string ⟨(Wr.wText (s2.take 100)).toArray⟩, .string ⟨(Wr.wInts xs2).toArray⟩, .string ⟨(Wr.wTexts (cutL ts2)).toArray⟩] 9)) := by
                            exact ⟨ck HBa_38.out (Kp.refl _ _) 0 rfl, ck HBa_38.out (Kp.refl _ _) 1 rfl, ck HBa_38.out (Kp.refl _ _) 2 rfl, ck HBa_38.out (Kp.refl _ _) 3 rfl, ck HBa_38.out (Kp.refl _ _) 4 rfl, ck HBb_38.out (Kp.refl _ _) 0 rfl, ck HBb_38.out (Kp.refl _ _) 1 rfl, ck HBb_38.out (Kp.refl _ _) 2 rfl, ck HBb_38.out (Kp.refl _ _) 3 rfl, ck HBb_38.out (Kp.refl _ _) 4 rfl, ck HG_38.out (Kp.refl _ _) j (serN_get j n2 s2 xs2 ts2 HJ.out), Lib.hid (Kp.refl _ _)⟩
                          try simp only [Act.put, List.setIfInBounds_toArray, List.set_cons_zero, List.set_cons_succ]
                          refine wpAnyH_take (i := 56) (oi := _) (v := ?_) rfl (by kernel_rfl) (by kernel_rfl) (by kernel_rfl) (fun _ _ _ h => h) (Or.inl ⟨by rfl, ?_⟩) (by assumption) ?_
                          rotate_left
                          · (intro w hSw; (try dsimp only at hSw); go_simp <;> with_reducible rfl)
                          try simp only [Act.put, List.setIfInBounds_toArray]
                          refine wpAnyH_take (i := 57) (oi := _) (v := ?_) rfl (by kernel_rfl) (by kernel_rfl) (by kernel_rfl) (fun _ _ _ h => h) (Or.inl ⟨by rfl, ?_⟩) (by assumption) ?_
                          rotate_left
                          · (intro w hSw; (try dsimp only at hSw); go_simp <;> with_reducible rfl)
                          try simp only [Act.put]
                          refine wpAnyH_ready (rs := [23]) (by kernel_rfl) (by simp) ?_
                          refine AllReadyH.cons (o := _) rfl (fun K hK => ?_) ?_
                          · have gK := hHeld.2.2.2.2.2.2.2.2.2.2.2
                            go_simp
                            refine hK.out _ _ ?_ (fun hHeld2 => ?_)
                            · exact ⟨ck HBa_38.out (kpa gK _) 0 rfl, ck HBa_38.out (kpa gK _) 1 rfl, ck HBa_38.out (kpa gK _) 2 rfl, ck HBa_38.out (kpa gK _) 3 rfl, ck HBa_38.out (kpa gK _) 4 rfl, ck HBb_38.out (kpa gK _) 0 rfl, ck HBb_38.out (kpa gK _) 1 rfl, ck HBb_38.out (kpa gK _) 2 rfl, ck HBb_38.out (kpa gK _) 3 rfl, ck HBb_38.out (kpa gK _) 4 rfl, ck HG_38.out (kpa gK _) j (serN_get j n2 s2 xs2 ts2 HJ.out), Lib.hid (kpa gK _)⟩
                            have KW : Hid (Kp (wq35.alloc (.cells #[.string ⟨(Wr.wInt n2).toArray⟩, .string ⟨(Wr.wText (s2.take 100)).toArray⟩, .string ⟨(Wr.wInts xs2).toArray⟩, .string ⟨(Wr.wTexts (cutL ts2)).toArray⟩] 9)) ((wq35.alloc (.cells #[.string ⟨(Wr.wInt n2).toArray⟩, .string ⟨(Wr.wText (s2.take 100)).toArray⟩, .string ⟨(Wr.wInts xs2).toArray⟩, .string ⟨(Wr.wTexts (cutL ts2)).toArray⟩] 9)).alloc (.cells #[.string ⟨(Wr.wInt n).toArray⟩, .string ⟨(Wr.wText (s.take 100)).toArray⟩, .string ⟨(Wr.wInts xs).toArray⟩, .string ⟨(Wr.wTexts (cutL ts)).toArray⟩] 9)) none) := kpa gK _
                            clear hK K hHeld hHeld2 gK
                            have HG_39 : Hid (((wq35.alloc (.cells #[.string ⟨(Wr.wInt n2).toArray⟩, .string ⟨(Wr.wText (s2.take 100)).toArray⟩, .string ⟨(Wr.wInts xs2).toArray⟩, .string ⟨(Wr.wTexts (cutL ts2)).toArray⟩] 9)).alloc (.cells #[.string ⟨(Wr.wInt n).toArray⟩, .string ⟨(Wr.wText (s.take 100)).toArray⟩, .string ⟨(Wr.wInts xs).toArray⟩, .string ⟨(Wr.wTexts (cutL ts)).toArray⟩] 9)).heap[wq35.heap.size + 1]? = some (.cells #[.string ⟨(Wr.wInt n).toArray⟩, .string ⟨(Wr.wText (s.take 100)).toArray⟩, .string ⟨(Wr.wInts xs).toArray⟩, .string ⟨(Wr.wTexts (cutL ts)).toArray⟩] 9 (0, 0))) := by
                              have hh := heap_alloc_new (wq35.alloc (.cells #[.string ⟨(Wr.wInt n2).toArray⟩, .string ⟨(Wr.wText (s2.take 100)).toArray⟩, .string ⟨(Wr.wInts xs2).toArray⟩, .string ⟨(Wr.wTexts (cutL ts2)).toArray⟩] 9)) (.cells #[.string ⟨(Wr.wInt n).toArray⟩, .string ⟨(Wr.wText (s.take 100)).toArray⟩, .string ⟨(Wr.wInts xs).toArray⟩, .string ⟨(Wr.wTexts (cutL ts)).toArray⟩] 9)
                              rw [show (wq35.alloc (.cells #[.string ⟨(Wr.wInt n2).toArray⟩, .string ⟨(Wr.wText (s2.take 100)).toArray⟩, .string ⟨(Wr.wInts xs2).toArray⟩, .string ⟨(Wr.wTexts (cutL ts2)).toArray⟩] 9)).heap.size = wq35.heap.size + 1 by simp] at hh
                              exact hh
                            have HEB_39 := Lib.hid (HEB_38.out.kp0 KW.out)
                            have HVa_39 := Lib.hid (HVa_38.out.keep KW.out)
                            have HVb_39 := Lib.hid (HVb_38.out.keep KW.out)
                            have HBa_39 := Lib.hid ((KW.out.block _ (lt_of_block HBa_38.out) (by simp)).trans HBa_38.out)
                            have HBb_39 := Lib.hid ((KW.out.block _ (lt_of_block HBb_38.out) (by simp)).trans HBb_38.out)
                            have HX39 := Lib.hid ((KW.out.block _ (lt_of_block HG_38.out) (by simp)).trans HG_38.out)
                            have KWB_39 := Lib.hid (KWB_38.out.trans KW.out)
                            refine wpAnyH_mono (S' := fun w' => w'.cell? ⟨w.heap.size, 0, none⟩ = some (.int .u8 c) ∧ w'.cell? ⟨w.heap.size, 1, none⟩ = some (.int .i64 n) ∧ w'.cell? ⟨w.heap.size, 2, none⟩ = some (.string ⟨s.toArray⟩) ∧ w'.cell? ⟨w.heap.size, 3, none⟩ = some (.slice a3 l3 c3) ∧ w'.cell? ⟨w.heap.size, 4, none⟩ = some (v4) ∧ w'.cell? ⟨w.heap.size + 1, 0, none⟩ = some (.int .u8 c2) ∧ w'.cell? ⟨w.heap.size + 1, 1, none⟩ = some (.int .i64 n2) ∧ w'.cell? ⟨w.heap.size + 1, 2, none⟩ = some (.string ⟨s2.toArray⟩) ∧ w'.cell? ⟨w.heap.size + 1, 3, none⟩ = some (.slice b3 m3 d3) ∧ w'.cell? ⟨w.heap.size + 1, 4, none⟩ = some (u4) ∧ w'.cell? ⟨wq35.heap.size, j, none⟩ = some (.string ⟨(serN j n2 s2 xs2 ts2).toArray⟩) ∧ w'.cell? ⟨wq35.heap.size + 1, j, none⟩ = some (.string ⟨(serN j n s xs ts).toArray⟩) ∧ Hid (Kp ((wq35.alloc (.cells #[.string ⟨(Wr.wInt n2).toArray⟩, .string ⟨(Wr.wText (s2.take 100)).toArray⟩, .string ⟨(Wr.wInts xs2).toArray⟩, .string ⟨(Wr.wTexts (cutL ts2)).toArray⟩] 9)).alloc (.cells #[.string ⟨(Wr.wInt n).toArray⟩, .string ⟨(Wr.wText (s.take 100)).toArray⟩, .string ⟨(Wr.wInts xs).toArray⟩, .string ⟨(Wr.wTexts (cutL ts)).toArray⟩] 9)) w' none)) (fun w' h => ?_) _ _ _ _ ?_
                            · exact ⟨h.1, h.2.1, h.2.2.1, h.2.2.2.1, h.2.2.2.2.1, h.2.2.2.2.2.1, h.2.2.2.2.2.2.1, h.2.2.2.2.2.2.2.1, h.2.2.2.2.2.2.2.2.1, h.2.2.2.2.2.2.2.2.2.1, h.2.2.2.2.2.2.2.2.2.2.1, Lib.hid (KW.out.trans (h.2.2.2.2.2.2.2.2.2.2.2.2.out))⟩
                            have hHeld : (fun w' => w'.cell? ⟨w.heap.size, 0, none⟩ = some (.int .u8 c) ∧ w'.cell? ⟨w.heap.size, 1, none⟩ = some (.int .i64 n) ∧ w'.cell? ⟨w.heap.size, 2, none⟩ = some (.string ⟨s.toArray⟩) ∧ w'.cell? ⟨w.heap.size, 3, none⟩ = some (.slice a3 l3 c3) ∧ w'.cell? ⟨w.heap.size, 4, none⟩ = some (v4) ∧ w'.cell? ⟨w.heap.size + 1, 0, none⟩ = some (.int .u8 c2) ∧ w'.cell? ⟨w.heap.size + 1, 1, none⟩ = some (.int .i64 n2) ∧ w'.cell? ⟨w.heap.size + 1, 2, none⟩ = some (.string ⟨s2.toArray⟩) ∧ w'.cell? ⟨w.heap.size + 1, 3, none⟩ = some (.slice b3 m3 d3) ∧ w'.cell? ⟨w.heap.size + 1, 4, none⟩ = some (u4) ∧ w'.cell? ⟨wq35.heap.size, j, none⟩ = some (.string ⟨(serN j n2 s2 xs2 ts2).toArray⟩) ∧ w'.cell? ⟨wq35.heap.size + 1, j, none⟩ = some (.string ⟨(serN j n s xs ts).toArray⟩) ∧ Hid (Kp ((wq35.alloc (.cells #[.string ⟨(Wr.wInt n2).toArray⟩, .string ⟨(Wr.wText (s2.take 100)).toArray⟩, .string ⟨(Wr.wInts xs2).toArray⟩, .string ⟨(Wr.wTexts (cutL ts2)).toArray⟩] 9)).alloc (.cells #[.string ⟨(Wr.wInt n).toArray⟩, .string ⟨(Wr.wText (s.take 100)).toArray⟩, .string ⟨(Wr.wInts xs).toArray⟩, .string ⟨(Wr.wTexts (cutL ts)).toArray⟩] 9)) w' none)) ((wq35.alloc (.cells #[.string ⟨(Wr.wInt n2).toArray⟩, .string ⟨(Wr.wText (s2.take 100)).toArray⟩, .string ⟨(Wr.wInts xs2).toArray⟩, .string ⟨(Wr.wTexts (cutL ts2)).toArray⟩] 9)).alloc (.cells #[.string ⟨(Wr.wInt n).toArray⟩, .string ⟨(Wr.wText (s.take 100)).toArray⟩, .string ⟨(Wr.wInts xs).toArray⟩, .string ⟨(Wr.wTexts (cutL ts)).toArray⟩] 9)) := by
                              exact ⟨ck HBa_39.out (Kp.refl _ _) 0 rfl, ck HBa_39.out (Kp.refl _ _) 1 rfl, ck HBa_39.out (Kp.refl _ _) 2 rfl, ck HBa_39.out (Kp.refl _ _) 3 rfl, ck HBa_39.out (Kp.refl _ _) 4 rfl, ck HBb_39.out (Kp.refl _ _) 0 rfl, ck HBb_39.out (Kp.refl _ _) 1 rfl, ck HBb_39.out (Kp.refl _ _) 2 rfl, ck HBb_39.out (Kp.refl _ _) 3 rfl, ck HBb_39.out (Kp.refl _ _) 4 rfl, ck HX39.out (Kp.refl _ _) j (serN_get j n2 s2 xs2 ts2 HJ.out), ck HG_39.out (Kp.refl _ _) j (serN_get j n s xs ts HJ.out), Lib.hid (Kp.refl _ _)⟩
                            try simp only [Act.put, List.setIfInBounds_toArray, List.set_cons_zero, List.set_cons_succ]
                            refine wpAnyH_take (i := 27) (oi := _) (v := ?_) rfl (by kernel_rfl) (by kernel_rfl) (by kernel_rfl) (fun _ _ _ h => h) (Or.inl ⟨by rfl, ?_⟩) (by assumption) ?_
                            rotate_left
                            · (intro w hSw; (try dsimp only at hSw); go_simp <;> with_reducible rfl)
                            try simp only [Act.put, List.setIfInBounds_toArray]
                            refine wpAnyH_take (i := 28) (oi := _) (v := ?_) rfl (by kernel_rfl) (by kernel_rfl) (by kernel_rfl) (fun _ _ _ h => h) (Or.inl ⟨by rfl, ?_⟩) (by assumption) ?_
                            rotate_left
                            · (intro w hSw; (try dsimp only at hSw); go_simp <;> with_reducible rfl)
                            try simp only [Act.put]
                            refine wpAnyH_take (i := 58) (oi := _) (v := ?_) rfl (by kernel_rfl) (by kernel_rfl) (by kernel_rfl) (fun _ _ _ h => h) (Or.inl ⟨by rfl, ?_⟩) (by assumption) ?_
                            rotate_left
                            · (intro w hSw; (try dsimp only at hSw); go_simp <;> with_reducible rfl)
                            try simp only [Act.put]
                            refine wpAnyH_ready (rs := [59]) (by kernel_rfl) (by simp) ?_
                            refine AllReadyH.cons (o := _) rfl (fun K hK => ?_) AllReadyH.nil
                            have gK := hHeld.2.2.2.2.2.2.2.2.2.2.2.2
                            go_simp
                            refine hK.out _ _ ?_ (fun hHeld2 => ?_)
                            · exact ⟨ck HBa_39.out (kpo gK) 0 rfl, ck HBa_39.out (kpo gK) 1 rfl, ck HBa_39.out (kpo gK) 2 rfl, ck HBa_39.out (kpo gK) 3 rfl, ck HBa_39.out (kpo gK) 4 rfl, ck HBb_39.out (kpo gK) 0 rfl, ck HBb_39.out (kpo gK) 1 rfl, ck HBb_39.out (kpo gK) 2 rfl, ck HBb_39.out (kpo gK) 3 rfl, ck HBb_39.out (kpo gK) 4 rfl, ck HX39.out (kpo gK) j (serN_get j n2 s2 xs2 ts2 HJ.out), ck HG_39.out (kpo gK) j (serN_get j n s xs ts HJ.out), Lib.hid (kpo gK)⟩
                            clear hK K hHeld gK
                            have hHeld := hHeld2
                            clear hHeld2
                            try simp only [Act.put, List.setIfInBounds_toArray, List.set_cons_zero, List.set_cons_succ]
                            refine wpAnyH_done (by kernel_rfl) ?_ _
                            have gK := hHeld.2.2.2.2.2.2.2.2.2.2.2.2
                            clear hHeld
                            go_wp2_with fail
                            go_meet
                            exact ⟨rfl, rfl, KWB_39.out.trans gK.out⟩
                          exact AllReadyH.nil
                        exact AllReadyH.nil
                      exact AllReadyH.nil
                    exact AllReadyH.nil
                  exact AllReadyH.nil
                exact AllReadyH.nil
              exact AllReadyH.nil
            exact AllReadyH.nil
          exact AllReadyH.nil
        exact AllReadyH.nil
      exact AllReadyH.nil
    exact AllReadyH.nil
  case rest =>
    obtain ⟨rfl, rfl, k2⟩ := hcut
    have K2 := Lib.hid k2
    obtain ⟨a0, a1, a2, a3c, a4, -⟩ := box_cells HBa.out k2
    obtain ⟨b0, b1, b2, b3c, b4, -⟩ := box_cells HBb.out k2
    have HXY := Lib.hid (ser_same j HVa.out HVb.out)
    have hX := serN_len j HVa.out
    have hY := serN_len j HVb.out
    clear k2
    generalize serN j n s xs ts = X at HXY hX hY ⊢
    generalize serN j n2 s2 xs2 ts2 = Y at HXY hX hY ⊢
    have HCT := Lib.hid hct
    clear hct hj0 hj4
    have hm0 : (0 : Int) ≤ min (X.length : Int) (Y.length : Int) := by omega
    have hm1 : min (X.length : Int) (Y.length : Int) ≤ (X.length : Int) := by omega
    have hm2 : min (X.length : Int) (Y.length : Int) ≤ (Y.length : Int) := by omega
    have hxt : Hid ((⟨X.toArray⟩ : ByteArray).extract 0 (min (X.length : Int) (Y.length : Int)).toNat = ⟨(X.take (min X.length Y.length)).toArray⟩) := ext_min2 X X.length Y.length
    have hyt : Hid ((⟨Y.toArray⟩ : ByteArray).extract 0 (min (X.length : Int) (Y.length : Int)).toNat = ⟨(Y.take (min X.length Y.length)).toArray⟩) := ext_min2 Y X.length Y.length
    rcases (show j = 0 ∨ j = 1 ∨ j = 2 ∨ j = 3 by have := HJ.out; omega) with rfl | rfl | rfl | rfl
    · have hct : c.tmod 4 = 0 := HCT.out
      go_wp2_with fail
      obtain ⟨B, hB⟩ : ∃ B, sameN 0 n n2 s s2 xs xs2 ts ts2 = B := ⟨_, rfl⟩
      have hB2 : (n == n2) = B := (beq_dec n n2).trans hB
      have K2 := Lib.hid (KS.out.trans K2.out)
      try simp only [hB2]
      have HXY2 : Hid ((X == Y) = B ∧ (X.take (min X.length Y.length) == Y.take (min X.length Y.length)) = B) := by rw [← hB]; exact HXY.out
      clear hB hB2 HXY
      obtain ⟨h1, h2⟩ := HXY2.out
      have hxt' := hxt.out
      have hyt' := hyt.out
      go_wp2_with fail
      go_quiet (fail)
      go_wp2_with fail
      go_ret
      exact ⟨rfl, by first | exact K2.out | exact K2.out.drewN _ | exact kp_any K2.out | exact kp_any1 K2.out⟩
    · have hct : c.tmod 4 = 1 := HCT.out
      go_wp2_with fail
      obtain ⟨B, hB⟩ : ∃ B, sameN 1 n n2 s s2 xs xs2 ts ts2 = B := ⟨_, rfl⟩
      have hB2 : (s.take 100 == s2.take 100) = B := (beq_dec _ _).trans hB
      have HBB := Lib.hid hB
      clear hB
      have e1 := HSX.out
      have e2 := HSX2.out
      refine wp_region_held_drew (S := fun w' => w'.cell? ⟨w.heap.size, 0, none⟩ = some (.int .u8 c) ∧ w'.cell? ⟨w.heap.size, 1, none⟩ = some (.int .i64 n) ∧ w'.cell? ⟨w.heap.size, 2, none⟩ = some (.string ⟨s.toArray⟩) ∧ w'.cell? ⟨w.heap.size, 3, none⟩ = some (.slice a3 l3 c3) ∧ w'.cell? ⟨w.heap.size, 4, none⟩ = some (v4) ∧ w'.cell? ⟨w.heap.size + 1, 0, none⟩ = some (.int .u8 c2) ∧ w'.cell? ⟨w.heap.size + 1, 1, none⟩ = some (.int .i64 n2) ∧ w'.cell? ⟨w.heap.size + 1, 2, none⟩ = some (.string ⟨s2.toArray⟩) ∧ w'.cell? ⟨w.heap.size + 1, 3, none⟩ = some (.slice b3 m3 d3) ∧ w'.cell? ⟨w.heap.size + 1, 4, none⟩ = some (u4) ∧ Hid (Kp w1 w' none)) (by kernel_rfl) ?_ (fun hHeld => ?_)
      · exact ⟨ck HBa.out ((K2.out.drew)) 0 rfl, ck HBa.out ((K2.out.drew)) 1 rfl, ck HBa.out ((K2.out.drew)) 2 rfl, ck HBa.out ((K2.out.drew)) 3 rfl, ck HBa.out ((K2.out.drew)) 4 rfl, ck HBb.out ((K2.out.drew)) 0 rfl, ck HBb.out ((K2.out.drew)) 1 rfl, ck HBb.out ((K2.out.drew)) 2 rfl, ck HBb.out ((K2.out.drew)) 3 rfl, ck HBb.out ((K2.out.drew)) 4 rfl, Lib.hid ((K2.out.drew))⟩
      refine wpAnyH_take (i := 0) (oi := _) (v := ?_) rfl (by kernel_rfl) (by kernel_rfl) (by kernel_rfl) (fun _ _ _ h => h) (Or.inl ⟨by rfl, ?_⟩) (by assumption) ?_
      rotate_left
      · (intro w hSw; (try dsimp only at hSw); go_simp <;> with_reducible rfl)
      try simp only [Act.put, List.setIfInBounds_toArray]
      refine wpAnyH_take (i := 1) (oi := _) (v := ?_) rfl (by kernel_rfl) (by kernel_rfl) (by kernel_rfl) (fun _ _ _ h => h) (Or.inl ⟨by rfl, ?_⟩) (by assumption) ?_
      rotate_left
      · (intro w hSw; (try dsimp only at hSw); go_simp <;> with_reducible rfl)
      try simp only [Act.put]
      refine wpAnyH_take (i := 2) (oi := _) (v := ?_) rfl (by kernel_rfl) (by kernel_rfl) (by kernel_rfl) (fun _ _ _ h => h) (Or.inl ⟨by rfl, ?_⟩) (by assumption) ?_
      rotate_left
      · (intro w hSw; (try dsimp only at hSw); go_simp <;> with_reducible rfl)
      try simp only [Act.put]
      refine wpAnyH_take (i := 3) (oi := _) (v := ?_) rfl (by kernel_rfl) (by kernel_rfl) (by kernel_rfl) (fun _ _ _ h => h) (Or.inl ⟨by rfl, ?_⟩) (by assumption) ?_
      rotate_left
      · (intro w hSw; (try dsimp only at hSw); go_simp <;> with_reducible rfl)
      try simp only [Act.put]
      refine wpAnyH_take (i := 4) (oi := _) (v := ?_) rfl (by kernel_rfl) (by kernel_rfl) (by kernel_rfl) (fun _ _ _ h => h) (Or.inl ⟨by rfl, ?_⟩) (by assumption) ?_
      rotate_left
      · (intro w hSw; (try dsimp only at hSw); go_simp <;> with_reducible rfl)
      try simp only [Act.put]
      refine wpAnyH_take (i := 5) (oi := _) (v := ?_) rfl (by kernel_rfl) (by kernel_rfl) (by kernel_rfl) (fun _ _ _ h => h) (Or.inl ⟨by rfl, ?_⟩) (by assumption) ?_
      rotate_left
      · (intro w hSw; (try dsimp only at hSw); go_simp <;> with_reducible rfl)
      try simp only [Act.put]
      refine wpAnyH_take (i := 6) (oi := _) (v := ?_) rfl (by kernel_rfl) (by kernel_rfl) (by kernel_rfl) (fun _ _ _ h => h) (Or.inl ⟨by rfl, ?_⟩) (by assumption) ?_
      rotate_left
      · (intro w hSw; (try dsimp only at hSw); go_simp <;> with_reducible rfl)
      try simp only [Act.put]
      refine wpAnyH_take (i := 7) (oi := _) (v := ?_) rfl (by kernel_rfl) (by kernel_rfl) (by kernel_rfl) (fun _ _ _ h => h) (Or.inl ⟨by rfl, ?_⟩) (by assumption) ?_
      rotate_left
      · (intro w hSw; (try dsimp only at hSw); go_simp <;> with_reducible rfl)
      try simp only [Act.put]
      refine wpAnyH_take (i := 8) (oi := _) (v := ?_) rfl (by kernel_rfl) (by kernel_rfl) (by kernel_rfl) (fun _ _ _ h => h) (Or.inl ⟨by rfl, ?_⟩) (by assumption) ?_
      rotate_left
      · (intro w hSw; (try dsimp only at hSw); go_simp <;> with_reducible rfl)
      try simp only [Act.put]
      refine wpAnyH_take (i := 9) (oi := _) (v := ?_) rfl (by kernel_rfl) (by kernel_rfl) (by kernel_rfl) (fun _ _ _ h => h) (Or.inl ⟨by rfl, ?_⟩) (by assumption) ?_
      rotate_left
      · (intro w hSw; (try dsimp only at hSw); go_simp <;> with_reducible rfl)
      try simp only [Act.put]
      refine wpAnyH_take (i := 10) (oi := _) (v := ?_) rfl (by kernel_rfl) (by kernel_rfl) (by kernel_rfl) (fun _ _ _ h => h) (Or.inl ⟨by rfl, ?_⟩) (by assumption) ?_
      rotate_left
      · (intro w hSw; (try dsimp only at hSw); go_simp <;> with_reducible rfl)
      try simp only [Act.put]
      refine wpAnyH_take (i := 11) (oi := _) (v := ?_) rfl (by kernel_rfl) (by kernel_rfl) (by kernel_rfl) (fun _ _ _ h => h) (Or.inl ⟨by rfl, ?_⟩) (by assumption) ?_
      rotate_left
      · (intro w hSw; (try dsimp only at hSw); go_simp <;> with_reducible rfl)
      try simp only [Act.put]
      refine wpAnyH_take (i := 12) (oi := _) (v := ?_) rfl (by kernel_rfl) (by kernel_rfl) (by kernel_rfl) (fun _ _ _ h => h) (Or.inl ⟨by rfl, ?_⟩) (by assumption) ?_
      rotate_left
      · (intro w hSw; (try dsimp only at hSw); go_simp <;> with_reducible rfl)
      try simp only [Act.put]
      refine wpAnyH_take (i := 13) (oi := _) (v := ?_) rfl (by kernel_rfl) (by kernel_rfl) (by kernel_rfl) (fun _ _ _ h => h) (Or.inl ⟨by rfl, ?_⟩) (by assumption) ?_
      rotate_left
      · (intro w hSw; (try dsimp only at hSw); go_simp <;> with_reducible rfl)
      try simp only [Act.put]
      refine wpAnyH_take (i := 14) (oi := _) (v := ?_) rfl (by kernel_rfl) (by kernel_rfl) (by kernel_rfl) (fun _ _ _ h => h) (Or.inl ⟨by rfl, ?_⟩) (by assumption) ?_
      rotate_left
      · (intro w hSw; (try dsimp only at hSw); go_simp <;> with_reducible rfl)
      try simp only [Act.put]
      refine wpAnyH_take (i := 15) (oi := _) (v := ?_) rfl (by kernel_rfl) (by kernel_rfl) (by kernel_rfl) (fun _ _ _ h => h) (Or.inl ⟨by rfl, ?_⟩) (by assumption) ?_
      rotate_left
      · (intro w hSw; (try dsimp only at hSw); go_simp <;> with_reducible rfl)
      try simp only [Act.put]
      refine wpAnyH_done (by kernel_rfl) ?_ _
      have gK := hHeld.2.2.2.2.2.2.2.2.2.2
      clear hHeld K2
      have K2 := Lib.hid gK.out
      clear gK
      clear e1 e2
      have hB := HBB.out
      go_wp2_with fail
      have K2 := Lib.hid (KS.out.trans K2.out)
      try simp only [hB2]
      have HXY2 : Hid ((X == Y) = B ∧ (X.take (min X.length Y.length) == Y.take (min X.length Y.length)) = B) := by rw [← hB]; exact HXY.out
      clear hB hB2 HXY
      obtain ⟨h1, h2⟩ := HXY2.out
      have hxt' := hxt.out
      have hyt' := hyt.out
      go_wp2_with fail
      go_quiet (fail)
      go_wp2_with fail
      go_ret
      exact ⟨rfl, by first | exact K2.out | exact K2.out.drewN _ | exact kp_any K2.out | exact kp_any1 K2.out⟩
    · have hct : c.tmod 4 = 2 := HCT.out
      go_wp2_with fail
      refine wp_region_held_drew (S := fun w' => w'.cell? ⟨w.heap.size, 0, none⟩ = some (.int .u8 c) ∧ w'.cell? ⟨w.heap.size, 1, none⟩ = some (.int .i64 n) ∧ w'.cell? ⟨w.heap.size, 2, none⟩ = some (.string ⟨s.toArray⟩) ∧ w'.cell? ⟨w.heap.size, 3, none⟩ = some (.slice a3 l3 c3) ∧ w'.cell? ⟨w.heap.size, 4, none⟩ = some (v4) ∧ w'.cell? ⟨w.heap.size + 1, 0, none⟩ = some (.int .u8 c2) ∧ w'.cell? ⟨w.heap.size + 1, 1, none⟩ = some (.int .i64 n2) ∧ w'.cell? ⟨w.heap.size + 1, 2, none⟩ = some (.string ⟨s2.toArray⟩) ∧ w'.cell? ⟨w.heap.size + 1, 3, none⟩ = some (.slice b3 m3 d3) ∧ w'.cell? ⟨w.heap.size + 1, 4, none⟩ = some (u4) ∧ Hid (Kp w1 w' none)) (by kernel_rfl) ?_ (fun hHeld => ?_)
      · exact ⟨ck HBa.out ((K2.out.drew)) 0 rfl, ck HBa.out ((K2.out.drew)) 1 rfl, ck HBa.out ((K2.out.drew)) 2 rfl, ck HBa.out ((K2.out.drew)) 3 rfl, ck HBa.out ((K2.out.drew)) 4 rfl, ck HBb.out ((K2.out.drew)) 0 rfl, ck HBb.out ((K2.out.drew)) 1 rfl, ck HBb.out ((K2.out.drew)) 2 rfl, ck HBb.out ((K2.out.drew)) 3 rfl, ck HBb.out ((K2.out.drew)) 4 rfl, Lib.hid ((K2.out.drew))⟩
      refine wpAnyH_take (i := 0) (oi := _) (v := ?_) rfl (by kernel_rfl) (by kernel_rfl) (by kernel_rfl) (fun _ _ _ h => h) (Or.inl ⟨by rfl, ?_⟩) (by assumption) ?_
      rotate_left
      · (intro w hSw; (try dsimp only at hSw); go_simp <;> with_reducible rfl)
      try simp only [Act.put, List.setIfInBounds_toArray]
      refine wpAnyH_take (i := 1) (oi := _) (v := ?_) rfl (by kernel_rfl) (by kernel_rfl) (by kernel_rfl) (fun _ _ _ h => h) (Or.inl ⟨by rfl, ?_⟩) (by assumption) ?_
      rotate_left
      · (intro w hSw; (try dsimp only at hSw); go_simp <;> with_reducible rfl)
      try simp only [Act.put]
      refine wpAnyH_take (i := 2) (oi := _) (v := ?_) rfl (by kernel_rfl) (by kernel_rfl) (by kernel_rfl) (fun _ _ _ h => h) (Or.inl ⟨by rfl, ?_⟩) (by assumption) ?_
      rotate_left
      · (intro w hSw; (try dsimp only at hSw); go_simp <;> with_reducible rfl)
      try simp only [Act.put]
      refine wpAnyH_take (i := 3) (oi := _) (v := ?_) rfl (by kernel_rfl) (by kernel_rfl) (by kernel_rfl) (fun _ _ _ h => h) (Or.inl ⟨by rfl, ?_⟩) (by assumption) ?_
      rotate_left
      · (intro w hSw; (try dsimp only at hSw); go_simp <;> with_reducible rfl)
      try simp only [Act.put]
      refine wpAnyH_take (i := 4) (oi := _) (v := ?_) rfl (by kernel_rfl) (by kernel_rfl) (by kernel_rfl) (fun _ _ _ h => h) (Or.inl ⟨by rfl, ?_⟩) (by assumption) ?_
      rotate_left
      · (intro w hSw; (try dsimp only at hSw); go_simp <;> with_reducible rfl)
      try simp only [Act.put]
      refine wpAnyH_take (i := 5) (oi := _) (v := ?_) rfl (by kernel_rfl) (by kernel_rfl) (by kernel_rfl) (fun _ _ _ h => h) (Or.inl ⟨by rfl, ?_⟩) (by assumption) ?_
      rotate_left
      · (intro w hSw; (try dsimp only at hSw); go_simp <;> with_reducible rfl)
      try simp only [Act.put]
      refine wpAnyH_take (i := 6) (oi := _) (v := ?_) rfl (by kernel_rfl) (by kernel_rfl) (by kernel_rfl) (fun _ _ _ h => h) (Or.inl ⟨by rfl, ?_⟩) (by assumption) ?_
      rotate_left
      · (intro w hSw; (try dsimp only at hSw); go_simp <;> with_reducible rfl)
      try simp only [Act.put]
      refine wpAnyH_take (i := 7) (oi := _) (v := ?_) rfl (by kernel_rfl) (by kernel_rfl) (by kernel_rfl) (fun _ _ _ h => h) (Or.inl ⟨by rfl, ?_⟩) (by assumption) ?_
      rotate_left
      · (intro w hSw; (try dsimp only at hSw); go_simp <;> with_reducible rfl)
      try simp only [Act.put]
      refine wpAnyH_take (i := 8) (oi := _) (v := ?_) rfl (by kernel_rfl) (by kernel_rfl) (by kernel_rfl) (fun _ _ _ h => h) (Or.inl ⟨by rfl, ?_⟩) (by assumption) ?_
      rotate_left
      · (intro w hSw; (try dsimp only at hSw); go_simp <;> with_reducible rfl)
      try simp only [Act.put]
      refine wpAnyH_take (i := 9) (oi := _) (v := ?_) rfl (by kernel_rfl) (by kernel_rfl) (by kernel_rfl) (fun _ _ _ h => h) (Or.inl ⟨by rfl, ?_⟩) (by assumption) ?_
      rotate_left
      · (intro w hSw; (try dsimp only at hSw); go_simp <;> with_reducible rfl)
      try simp only [Act.put]
      refine wpAnyH_take (i := 10) (oi := _) (v := ?_) rfl (by kernel_rfl) (by kernel_rfl) (by kernel_rfl) (fun _ _ _ h => h) (Or.inl ⟨by rfl, ?_⟩) (by assumption) ?_
      rotate_left
      · (intro w hSw; (try dsimp only at hSw); go_simp <;> with_reducible rfl)
      try simp only [Act.put]
      refine wpAnyH_take (i := 11) (oi := _) (v := ?_) rfl (by kernel_rfl) (by kernel_rfl) (by kernel_rfl) (fun _ _ _ h => h) (Or.inl ⟨by rfl, ?_⟩) (by assumption) ?_
      rotate_left
      · (intro w hSw; (try dsimp only at hSw); go_simp <;> with_reducible rfl)
      try simp only [Act.put]
      refine wpAnyH_take (i := 12) (oi := _) (v := ?_) rfl (by kernel_rfl) (by kernel_rfl) (by kernel_rfl) (fun _ _ _ h => h) (Or.inl ⟨by rfl, ?_⟩) (by assumption) ?_
      rotate_left
      · (intro w hSw; (try dsimp only at hSw); go_simp <;> with_reducible rfl)
      try simp only [Act.put]
      refine wpAnyH_take (i := 13) (oi := _) (v := ?_) rfl (by kernel_rfl) (by kernel_rfl) (by kernel_rfl) (fun _ _ _ h => h) (Or.inl ⟨by rfl, ?_⟩) (by assumption) ?_
      rotate_left
      · (intro w hSw; (try dsimp only at hSw); go_simp <;> with_reducible rfl)
      try simp only [Act.put]
      refine wpAnyH_ready (rs := [14]) (by kernel_rfl) (by simp) ?_
      refine AllReadyH.cons (o := _) rfl (fun K hK => ?_) AllReadyH.nil
      have gK := hHeld.2.2.2.2.2.2.2.2.2.2
      go_simp
      rw [HXL.out, HXL2.out]
      refine (sameInts_any _ _ xs xs2 _ (HVa.out.row.keep (kpo gK)) (HVb.out.row.keep (kpo gK)) (by omega)).mono ?_
      rintro e w7 ⟨rfl, n7, rfl⟩
      try go_wp2_with fail
      refine hK.out _ _ ?_ (fun hHeld2 => ?_)
      · exact ⟨ck HBa.out ((K2.out.drewN _)) 0 rfl, ck HBa.out ((K2.out.drewN _)) 1 rfl, ck HBa.out ((K2.out.drewN _)) 2 rfl, ck HBa.out ((K2.out.drewN _)) 3 rfl, ck HBa.out ((K2.out.drewN _)) 4 rfl, ck HBb.out ((K2.out.drewN _)) 0 rfl, ck HBb.out ((K2.out.drewN _)) 1 rfl, ck HBb.out ((K2.out.drewN _)) 2 rfl, ck HBb.out ((K2.out.drewN _)) 3 rfl, ck HBb.out ((K2.out.drewN _)) 4 rfl, Lib.hid ((K2.out.drewN _))⟩
      clear hK K hHeld gK
      have hHeld := hHeld2
      clear hHeld2
      try simp only [Act.put, List.setIfInBounds_toArray, List.set_cons_zero, List.set_cons_succ]
      refine wpAnyH_take (i := 15) (oi := _) (v := ?_) rfl (by kernel_rfl) (by kernel_rfl) (by kernel_rfl) (fun _ _ _ h => h) (Or.inl ⟨by rfl, ?_⟩) (by assumption) ?_
      rotate_left
      · (intro w hSw; (try dsimp only at hSw); go_simp <;> with_reducible rfl)
      try simp only [Act.put, List.setIfInBounds_toArray]
      refine wpAnyH_done (by kernel_rfl) ?_ _
      have gK := hHeld.2.2.2.2.2.2.2.2.2.2
      clear hHeld K2
      have K2 := Lib.hid gK.out
      clear gK
      obtain ⟨B, hB⟩ : ∃ B, sameN 2 n n2 s s2 xs xs2 ts ts2 = B := ⟨_, rfl⟩
      have hB2 : decide (xs = xs2) = B := hB
      have K2 := Lib.hid (KS.out.trans K2.out)
      try simp only [hB2]
      have HXY2 : Hid ((X == Y) = B ∧ (X.take (min X.length Y.length) == Y.take (min X.length Y.length)) = B) := by rw [← hB]; exact HXY.out
      clear hB hB2 HXY
      obtain ⟨h1, h2⟩ := HXY2.out
      have hxt' := hxt.out
      have hyt' := hyt.out
      go_wp2_with fail
      go_quiet (fail)
      go_wp2_with fail
      go_ret
      exact ⟨rfl, by first | exact K2.out | exact K2.out.drewN _ | exact kp_any K2.out | exact kp_any1 K2.out⟩
    · have hct : c.tmod 4 = 3 := HCT.out
      go_wp2_with fail
      refine wp_region_held_drew (S := fun w' => w'.cell? ⟨w.heap.size, 0, none⟩ = some (.int .u8 c) ∧ w'.cell? ⟨w.heap.size, 1, none⟩ = some (.int .i64 n) ∧ w'.cell? ⟨w.heap.size, 2, none⟩ = some (.string ⟨s.toArray⟩) ∧ w'.cell? ⟨w.heap.size, 3, none⟩ = some (.slice a3 l3 c3) ∧ w'.cell? ⟨w.heap.size, 4, none⟩ = some (v4) ∧ w'.cell? ⟨w.heap.size + 1, 0, none⟩ = some (.int .u8 c2) ∧ w'.cell? ⟨w.heap.size + 1, 1, none⟩ = some (.int .i64 n2) ∧ w'.cell? ⟨w.heap.size + 1, 2, none⟩ = some (.string ⟨s2.toArray⟩) ∧ w'.cell? ⟨w.heap.size + 1, 3, none⟩ = some (.slice b3 m3 d3) ∧ w'.cell? ⟨w.heap.size + 1, 4, none⟩ = some (u4) ∧ Hid (Kp w1 w' none)) (by kernel_rfl) ?_ (fun hHeld => ?_)
      · exact ⟨ck HBa.out ((K2.out.drew)) 0 rfl, ck HBa.out ((K2.out.drew)) 1 rfl, ck HBa.out ((K2.out.drew)) 2 rfl, ck HBa.out ((K2.out.drew)) 3 rfl, ck HBa.out ((K2.out.drew)) 4 rfl, ck HBb.out ((K2.out.drew)) 0 rfl, ck HBb.out ((K2.out.drew)) 1 rfl, ck HBb.out ((K2.out.drew)) 2 rfl, ck HBb.out ((K2.out.drew)) 3 rfl, ck HBb.out ((K2.out.drew)) 4 rfl, Lib.hid ((K2.out.drew))⟩
      refine wpAnyH_take (i := 0) (oi := _) (v := ?_) rfl (by kernel_rfl) (by kernel_rfl) (by kernel_rfl) (fun _ _ _ h => h) (Or.inl ⟨by rfl, ?_⟩) (by assumption) ?_
      rotate_left
      · (intro w hSw; (try dsimp only at hSw); go_simp <;> with_reducible rfl)
      try simp only [Act.put, List.setIfInBounds_toArray]
      refine wpAnyH_take (i := 1) (oi := _) (v := ?_) rfl (by kernel_rfl) (by kernel_rfl) (by kernel_rfl) (fun _ _ _ h => h) (Or.inl ⟨by rfl, ?_⟩) (by assumption) ?_
      rotate_left
      · (intro w hSw; (try dsimp only at hSw); go_simp <;> with_reducible rfl)
      try simp only [Act.put]
      refine wpAnyH_take (i := 3) (oi := _) (v := ?_) rfl (by kernel_rfl) (by kernel_rfl) (by kernel_rfl) (fun _ _ _ h => h) (Or.inl ⟨by rfl, ?_⟩) (by assumption) ?_
      rotate_left
      · (intro w hSw; (try dsimp only at hSw); go_simp <;> with_reducible rfl)
      try simp only [Act.put]
      refine wpAnyH_take (i := 4) (oi := _) (v := ?_) rfl (by kernel_rfl) (by kernel_rfl) (by kernel_rfl) (fun _ _ _ h => h) (Or.inl ⟨by rfl, ?_⟩) (by assumption) ?_
      rotate_left
      · (intro w hSw; (try dsimp only at hSw); go_simp <;> with_reducible rfl)
      try simp only [Act.put]
      refine wpAnyH_ready (rs := [2]) (by kernel_rfl) (by simp) ?_
      refine AllReadyH.cons (o := _) rfl (fun K hK => ?_) AllReadyH.nil
      have gK := hHeld.2.2.2.2.2.2.2.2.2.2
      go_simp
      refine (cut_any _ ts _ (HVa.out.t.keep (kpo gK)) HVa.out.tn HVa.out.tl).mono ?_
      rintro e w7 ⟨v7, rfl, hv7, k7⟩
      have HQ7 := Lib.hid (own_isRow hv7)
      clear hv7
      try go_wp2_with fail
      refine hK.out _ _ ?_ (fun hHeld2 => ?_)
      · exact ⟨ck HBa.out ((kpt gK k7)) 0 rfl, ck HBa.out ((kpt gK k7)) 1 rfl, ck HBa.out ((kpt gK k7)) 2 rfl, ck HBa.out ((kpt gK k7)) 3 rfl, ck HBa.out ((kpt gK k7)) 4 rfl, ck HBb.out ((kpt gK k7)) 0 rfl, ck HBb.out ((kpt gK k7)) 1 rfl, ck HBb.out ((kpt gK k7)) 2 rfl, ck HBb.out ((kpt gK k7)) 3 rfl, ck HBb.out ((kpt gK k7)) 4 rfl, Lib.hid ((kpt gK k7))⟩
      clear hK K hHeld gK
      have hHeld := hHeld2
      clear hHeld2
      try simp only [Act.put, List.setIfInBounds_toArray, List.set_cons_zero, List.set_cons_succ]
      refine wpAnyH_ready (rs := [5]) (by kernel_rfl) (by simp) ?_
      refine AllReadyH.cons (o := _) rfl (fun K hK => ?_) AllReadyH.nil
      have gK := hHeld.2.2.2.2.2.2.2.2.2.2
      go_simp
      refine (cut_any _ ts2 _ (HVb.out.t.keep (kpo gK)) HVb.out.tn HVb.out.tl).mono ?_
      rintro e w8 ⟨v8, rfl, hv8, k8⟩
      have HQ8 := Lib.hid (own_isRow hv8)
      have HQ7b := Lib.hid (HQ7.out.keep k8)
      clear hv8
      try go_wp2_with fail
      refine hK.out _ _ ?_ (fun hHeld2 => ?_)
      · exact ⟨ck HBa.out ((kpt gK k8)) 0 rfl, ck HBa.out ((kpt gK k8)) 1 rfl, ck HBa.out ((kpt gK k8)) 2 rfl, ck HBa.out ((kpt gK k8)) 3 rfl, ck HBa.out ((kpt gK k8)) 4 rfl, ck HBb.out ((kpt gK k8)) 0 rfl, ck HBb.out ((kpt gK k8)) 1 rfl, ck HBb.out ((kpt gK k8)) 2 rfl, ck HBb.out ((kpt gK k8)) 3 rfl, ck HBb.out ((kpt gK k8)) 4 rfl, Lib.hid ((kpt gK k8))⟩
      clear hK K hHeld gK
      have hHeld := hHeld2
      clear hHeld2
      try simp only [Act.put, List.setIfInBounds_toArray, List.set_cons_zero, List.set_cons_succ]
      refine wpAnyH_ready (rs := [6]) (by kernel_rfl) (by simp) ?_
      refine AllReadyH.cons (o := _) rfl (fun K hK => ?_) AllReadyH.nil
      have gK := hHeld.2.2.2.2.2.2.2.2.2.2
      go_simp
      refine (sameTexts_any _ _ (cutL ts) (cutL ts2) _ HQ7b.out HQ8.out (by have := cutL_len ts; omega)).mono ?_
      rintro e w9 ⟨rfl, n9, rfl⟩
      try go_wp2_with fail
      refine hK.out _ _ ?_ (fun hHeld2 => ?_)
      · exact ⟨ck HBa.out (((kpo gK).drewN n9)) 0 rfl, ck HBa.out (((kpo gK).drewN n9)) 1 rfl, ck HBa.out (((kpo gK).drewN n9)) 2 rfl, ck HBa.out (((kpo gK).drewN n9)) 3 rfl, ck HBa.out (((kpo gK).drewN n9)) 4 rfl, ck HBb.out (((kpo gK).drewN n9)) 0 rfl, ck HBb.out (((kpo gK).drewN n9)) 1 rfl, ck HBb.out (((kpo gK).drewN n9)) 2 rfl, ck HBb.out (((kpo gK).drewN n9)) 3 rfl, ck HBb.out (((kpo gK).drewN n9)) 4 rfl, Lib.hid (((kpo gK).drewN n9))⟩
      clear hK K hHeld gK
      have hHeld := hHeld2
      clear hHeld2
      try simp only [Act.put, List.setIfInBounds_toArray, List.set_cons_zero, List.set_cons_succ]
      refine wpAnyH_take (i := 7) (oi := _) (v := ?_) rfl (by kernel_rfl) (by kernel_rfl) (by kernel_rfl) (fun _ _ _ h => h) (Or.inl ⟨by rfl, ?_⟩) (by assumption) ?_
      rotate_left
      · (intro w hSw; (try dsimp only at hSw); go_simp <;> with_reducible rfl)
      try simp only [Act.put, List.setIfInBounds_toArray]
      refine wpAnyH_done (by kernel_rfl) ?_ _
      have gK := hHeld.2.2.2.2.2.2.2.2.2.2
      clear hHeld K2
      have K2 := Lib.hid gK.out
      clear gK
      obtain ⟨B, hB⟩ : ∃ B, sameN 3 n n2 s s2 xs xs2 ts ts2 = B := ⟨_, rfl⟩
      have hB2 : decide (cutL ts = cutL ts2) = B := hB
      have K2 := Lib.hid (KS.out.trans K2.out)
      try simp only [hB2]
      have HXY2 : Hid ((X == Y) = B ∧ (X.take (min X.length Y.length) == Y.take (min X.length Y.length)) = B) := by rw [← hB]; exact HXY.out
      clear hB hB2 HXY
      obtain ⟨h1, h2⟩ := HXY2.out
      have hxt' := hxt.out
      have hyt' := hyt.out
      go_wp2_with fail
      go_quiet (fail)
      go_wp2_with fail
      go_ret
      exact ⟨rfl, by first | exact K2.out | exact K2.out.drewN _ | exact kp_any K2.out | exact kp_any1 K2.out⟩


end Go.Proofs.YtfcbogoahangoaaDoor
