/- Numbers drawn from a list, one after the other: each within its bound. Condition: bounds of at most 10^6; no other. -/
import Derived.Test.YtljjbdbgedmadaaGreatDoorVe
namespace Go.Proofs.YtljjbdbgedmadaaGreatDoor
open Go.RowKit

theorem tmod_range (n m : Int) (hm : 0 < m) : -m < n.tmod m ∧ n.tmod m < m := by
  constructor
  · rcases Int.lt_or_le n 0 with h | h
    · have e : n.tmod m = -((-n).tmod m) := by rw [Int.neg_tmod]; omega
      have := Int.tmod_lt_of_pos (-n) hm
      omega
    · have := Int.tmod_nonneg m h
      omega
  · exact Int.tmod_lt_of_pos n hm
def rem (n m : Int) : Int := (n.tmod m + m) % m
theorem rem_range (n m : Int) (h : 0 < m) : 0 ≤ rem n m ∧ rem n m < m := ⟨Int.emod_nonneg _ (by omega), Int.emod_lt_of_pos _ h⟩
set_option maxHeartbeats 1000000 in
set_option maxRecDepth 100000 in
theorem mod_any (n m : Int) (w : World) (h0 : 0 < m) (h1 : m ≤ 1000000) :
    Calls Tryz.prog 18 #[.int .i64 n, .int .i64 m] w fun E w' => E = .returned (.int .i64 (rem n m)) ∧ w' = w := by
  obtain ⟨a, ha⟩ : ∃ a, n.tmod m = a := ⟨_, rfl⟩
  have hr := tmod_range n m h0
  rw [ha] at hr
  have hs : wrap64 (a + m) = a + m := wrap_mid (by omega) (by omega)
  obtain ⟨s, hsv⟩ : ∃ s, a + m = s := ⟨_, rfl⟩
  have HR : Hid (rem n m = s % m) := Lib.hid (by unfold rem; rw [ha, hsv])
  have hs0 : 0 ≤ s := by omega
  rw [hsv] at hs
  have HV : Hid (0 ≤ s % m ∧ s % m < m) := Lib.hid ⟨Int.emod_nonneg s (by omega), Int.emod_lt_of_pos s h0⟩
  have hm : (m == 0) = false := by simp; omega
  clear hr
  go_enter Tryz.func18, Tryz.ntmps18
  go_wp2_with fail
  go_ret
  exact ⟨ret_int HR.out.symm, rfl⟩

/-- A length of the machine. -/
def LenOk (n : Nat) : Prop := n ≤ 9223372036854775807
/-- What draws from a list: where it stands. -/
def DrawAt (D : Nat) (ao : Option Addr) (n cap : Nat) (w : World) : Prop := ∃ at_ : Nat, w.heap[D]? = some (.cells #[.slice ao n cap, .int .i64 at_] 90 (0, 0)) ∧ at_ ≤ n
/-- What a number drawn is. -/
def Drew (D : Nat) (ao : Option Addr) (n cap : Nat) (w : World) (m : Int) (E : Ending) (w' : World) : Prop := ∃ v : Int, E = .returned (.int .i64 v) ∧ (0 ≤ v ∧ v < m) ∧ DrawAt D ao n cap w' ∧ Kp w w' (some D)

set_option maxHeartbeats 4000000 in
set_option maxRecDepth 100000 in
theorem next_any (l : List Int) (n : Nat) (hn : l.length = n) (D : Nat) (ao : Option Addr) (cap : Nat) (m : Int) (W w : World) (hl : LiesAt 1 intVal W ao cap l) (hD : W.heap.size ≤ D) (hW : Kp W w none) (hd : DrawAt D ao n cap w) (h0 : 0 < m) (h1 : m ≤ 1000000) (hn2 : LenOk n) :
    Calls Tryz.prog 37 #[.pointer (some ⟨D, 0, none⟩), .int .i64 m] w (Drew D ao n cap w m) := by
  obtain ⟨k, hb, hk⟩ := hd
  have c0 : w.cell? ⟨D, 0, none⟩ = some (.slice ao n cap) := by have := Lib.cell_of_heap hb 0; simpa using this
  have c1 : w.cell? ⟨D, 1, none⟩ = some (.int .i64 k) := by have := Lib.cell_of_heap hb 1; simpa using this
  have f1 : w.frozen? ⟨D, 1, none⟩ = false := Lib.frozen_of_heap hb 1
  have HB := Lib.hid hb
  have FL := Lib.hid hl
  have HN := Lib.hid hn
  have HWK := Lib.hid hW
  have hk0 : (0 : Int) ≤ (k : Int) := Int.natCast_nonneg _
  have hn0 : (0 : Int) ≤ (n : Int) := Int.natCast_nonneg _
  clear hb hl hn hW
  by_cases hlt : k < n
  · have hk1 : ¬ (n : Int) ≤ (k : Int) := by omega
    have hk2 : (k : Int) < (n : Int) := by omega
    obtain ⟨b, off, rfl, hbs, hcap, hr⟩ := FL.out.int k (by have := HN.out; omega)
    have hv0 := hr k (by have := HN.out; omega)
    obtain ⟨x, hx⟩ : ∃ x, l[k]'(by have := HN.out; omega) = x := ⟨_, rfl⟩
    rw [hx] at hv0
    have hv1 : w.cell? ⟨b, off + k, none⟩ = some (.int .i64 x) := (HWK.out.below.cell (p := ⟨b, off + k, none⟩) hbs).trans hv0
    have hcap2 : n ≤ cap := by have := HN.out; omega
    have hw1 : wrap64 ((k : Int) + 1) = (k : Int) + 1 := by have := hn2; unfold LenOk at this; unfold wrap64; omega
    have HV1 := Lib.hid hv1
    have HDW : Hid (D ≠ b) := Lib.hid (by omega)
    obtain ⟨v, hv⟩ : ∃ v, rem x m = v := ⟨_, rfl⟩
    have HMM : Hid (∀ V, Calls Tryz.prog 18 #[.int .i64 x, .int .i64 m] V fun E w' => E = .returned (.int .i64 v) ∧ w' = V) := Lib.hid (fun V => by rw [← hv]; exact mod_any x m V h0 h1)
    have HVR : Hid (0 ≤ v ∧ v < m) := Lib.hid (by rw [← hv]; exact rem_range x m h0)
    clear hx hv0 hr hcap hv1 hv
    go_enter Tryz.func37, Tryz.ntmps37
    go_wp2_with fail
    go_quiet (fail)
    have KQ : Hid (Kp w (w.drewN nq) none) := Lib.hid ((Kp.refl w none).drewN nq)
    generalize w.drewN nq = wz at *
    have hbz := (KQ.out.block D (lt_of_block HB.out) (by simp)).trans HB.out
    have g0 : wz.cell? ⟨D, 0, none⟩ = some (.slice (some ⟨b, off, none⟩) n cap) := by have := Lib.cell_of_heap hbz 0; simpa using this
    have g1 : wz.cell? ⟨D, 1, none⟩ = some (.int .i64 k) := by have := Lib.cell_of_heap hbz 1; simpa using this
    have g2 : wz.frozen? ⟨D, 1, none⟩ = false := Lib.frozen_of_heap hbz 1
    have hs := heap_set (o := 1) (v := .int .i64 ((k : Int) + 1)) hbz
    have HS := Lib.hid hs
    have KS : Hid (Kp wz (wz.setCell ⟨D, 1, none⟩ (.int .i64 ((k : Int) + 1))) (some D)) := Lib.hid ((Kp.refl wz (some D)).set _)
    have e0 : (wz.setCell ⟨D, 1, none⟩ (.int .i64 ((k : Int) + 1))).cell? ⟨D, 0, none⟩ = some (.slice (some ⟨b, off, none⟩) n cap) := by have := Lib.cell_of_heap hs 0; simpa using this
    have e1 : (wz.setCell ⟨D, 1, none⟩ (.int .i64 ((k : Int) + 1))).cell? ⟨D, 1, none⟩ = some (.int .i64 ((k : Int) + 1)) := by have := Lib.cell_of_heap hs 1; simpa using this
    have hvz : wz.cell? ⟨b, off + k, none⟩ = some (.int .i64 x) := (KQ.out.below.cell (p := ⟨b, off + k, none⟩) (World.block_lt_of_cell? _ _ HV1.out)).trans HV1.out
    have e2 : (wz.setCell ⟨D, 1, none⟩ (.int .i64 ((k : Int) + 1))).cell? ⟨b, off + k, none⟩ = some (.int .i64 x) := (KS.out.cell_far ⟨b, off + k, none⟩ (World.block_lt_of_cell? _ _ hvz) (by have := HDW.out; simp; omega)).trans hvz
    clear hbz hs c0 c1 f1 hvz
    go_wp2_with fail
    clear g0 g1 g2 hw1
    generalize wz.setCell ⟨D, 1, none⟩ (.int .i64 ((k : Int) + 1)) = wy at *
    have hq1 : wrap64 ((k : Int) + 1 - 1) = (k : Int) := by have := hn2; unfold LenOk at this; unfold wrap64; omega
    have hq2 : IntKind.i64.wrap ((k : Int) + 1 - 1) = (k : Int) := by have := hn2; unfold LenOk at this; rw [IntKind.wrap_i64]; omega
    have hq3 : wrap64 (k : Int) = (k : Int) := by have := hn2; unfold LenOk at this; unfold wrap64; omega
    go_quiet ((refine (HMM.out _).mono ?_; rintro e wq ⟨rfl, rfl⟩; exact ⟨rfl, _, rfl⟩))
    have KF : Hid (Kp w (wy.drewN nq) (some D)) := Lib.hid (((KQ.out.weak (some D)).trans KS.out).drewN _)
    go_wp2_with fail
    go_ret
    exact ⟨v, rfl, HVR.out, ⟨k + 1, HS.out, hlt⟩, KF.out⟩
  · have hk1 : (n : Int) ≤ (k : Int) := by omega
    go_enter Tryz.func37, Tryz.ntmps37
    go_wp2_with fail
    go_quiet (fail)
    go_wp2_with fail
    go_ret
    exact ⟨0, rfl, ⟨Int.le_refl _, h0⟩, ⟨k, HB.out, hk⟩, (Kp.refl w _).drewN nq⟩

end Go.Proofs.YtljjbdbgedmadaaGreatDoor
