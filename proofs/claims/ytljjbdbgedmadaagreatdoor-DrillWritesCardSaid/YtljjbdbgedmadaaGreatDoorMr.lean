/- The reference's rectangles with round corners (round). Conditions: a point within 60, sizes from 0 to 9. -/
import Derived.Test.YtljjbdbgedmadaaGreatDoorMk
import Derived.Test.YtljjbdbgedmadaaGreatDoorSh
import Derived.Test.YtljjbdbgedmadaaGreatDoorAp
set_option maxHeartbeats 8000000
set_option maxRecDepth 100000
namespace Go.Proofs.YtljjbdbgedmadaaGreatDoor
open Go.RowKit
theorem rline90_any (ax ay bx bY : Int) (w : World) : Calls Tryz.prog 90 #[.agg #[I6 ax, I6 ay], .agg #[I6 bx, I6 bY]] w fun E w' => E = .returned (.agg #[I6 1, I6 ax, I6 ay, I6 bx, I6 bY, I6 0, I6 0]) ∧ Kp w w' none := by
 go_enter Tryz.func90, Tryz.ntmps90
 go_wp2_with fail
 go_returns
 exact ⟨rfl, (((Kp.refl w none).alloc _).alloc _).alloc _⟩
theorem Bs.keepFar {A N p : Nat} {kind r : Int} {es : List Pl.Ed} {u : Value} {w w' : World} (h : Bs A N kind es r u w) (k : Kp w w' (some p)) (hp : A ≠ p) (hu : ∀ q, u.ownBlock = some q → q ≠ p) : Bs A N kind es r u w' :=
 ⟨(k.block A h.lt (by simpa using hp)).trans h.1, ⟨h.2.1.1, Nat.le_trans h.2.1.2 k.size⟩, h.2.2.kept k (by
  cases e : u.ownBlock with
  | none => exact .inl rfl
  | some b => exact .inr (fun e2 => hu b e (Option.some.inj e2)))⟩
structure QR (w : World) (wd ht : Int) (k : Nat) (ax ay : Int) (es : List Pl.Ed) (u : Value) (M X : Nat) (V : World) : Prop where
 kp : Kp w V none
 rz : V.heap[w.heap.size + 1]? = some (.cells #[I6 0, .slice none 0 0, I6 0] 50 (0, 0))
 sz : V.heap[w.heap.size + 1 + 1 + 1 + 1]? = some (.cells #[I6 wd, I6 ht] 254 (0, 0))
 at_ : V.heap[w.heap.size + 1 + 1 + 1]? = some (.cells #[I6 ax, I6 ay] 42 (0, 0))
 bs : Bs (w.heap.size + 1 + 1) (w.heap.size + 1 + 1 + 1 + 1 + 1) 2 es 0 u V
 m : V.heap[M]? = some (.cells #[I6 0, I6 0, I6 (k : Int), .bool false] 44 (0, 0))
 mm : w.heap.size + 1 + 1 + 1 + 1 + 1 ≤ M
 hu : ∀ q, u.ownBlock = some q → q < M
 lo : X ≤ V.heap.size
variable {w V V' : World} {wd ht : Int} {k : Nat} {ax ay : Int} {es : List Pl.Ed} {u : Value} {M X : Nat}
theorem QR.keep (h : QR w wd ht k ax ay es u M X V) (kk : Kp V V' none) : QR w wd ht k ax ay es u M X V' := ⟨h.kp.trans kk, blk h.rz kk, blk h.sz kk, blk h.at_ kk, h.bs.keep kk, blk h.m kk, h.mm, h.hu, Nat.le_trans h.lo kk.size⟩
theorem QR.low (h : QR w wd ht k ax ay es u M X V) : QR w wd ht k ax ay es u M 0 V := ⟨h.kp, h.rz, h.sz, h.at_, h.bs, h.m, h.mm, h.hu, Nat.zero_le _⟩
theorem QR.up (h : QR w wd ht k ax ay es u M X V) : QR w wd ht k ax ay es u M V.heap.size V := ⟨h.kp, h.rz, h.sz, h.at_, h.bs, h.m, h.mm, h.hu, Nat.le_refl _⟩
theorem QR.row {B : Nat} (h : QR w wd ht k ax ay es u M X V) (kk : Kp V V' (some B)) (hB : M < B) : QR w wd ht k ax ay es u M X V' := by
 have hm := h.mm
 have ne : ∀ b, b ≤ M → ∀ q, some B = some q → q ≠ b := fun b hb q hq => by injection hq with hq; omega
 exact ⟨Kp.of_own h.kp kk (by omega), res_kept h.rz kk (ne _ (by omega)), res_kept h.sz kk (ne _ (by omega)), res_kept h.at_ kk (ne _ (by omega)), h.bs.keepFar kk (by omega) (fun q hq => by have := h.hu q hq; omega), res_kept h.m kk (ne _ (Nat.le_refl _)), h.mm, h.hu, Nat.le_trans h.lo kk.size⟩
def RdRel (w : World) (wd ht : Int) (iv : Value) (wr : World) : Prop := ∃ (k : Nat) (ax ay : Int) (es : List Pl.Ed) (u : Value), k ≤ 4 ∧ iv = I6 (k : Int) ∧ es.length = 2 * k ∧ Box (70 + 30 * (k : Int)) ax ay ∧ Kp w wr none ∧
 wr.heap[w.heap.size + 1]? = some (.cells #[I6 0, .slice none 0 0, I6 0] 50 (0, 0)) ∧ wr.heap[w.heap.size + 1 + 1 + 1 + 1]? = some (.cells #[I6 wd, I6 ht] 254 (0, 0)) ∧ wr.heap[w.heap.size + 1 + 1 + 1]? = some (.cells #[I6 ax, I6 ay] 42 (0, 0)) ∧ Bs (w.heap.size + 1 + 1) (w.heap.size + 1 + 1 + 1 + 1 + 1) 2 es 0 u wr
def AreaIs (w : World) (E : Ending) (w' : World) : Prop := ∃ (ea : Option Addr) (m ec : Nat), E = .returned (.agg #[I6 2, .slice ea m ec, I6 0]) ∧ Kp w w' none
theorem round_start (w : World) (px py ax ay wd ht : Int) : ∃ V : World, V = ((((w.alloc (.cells #[I6 px, I6 py] 42)).alloc (.cells #[I6 0, .slice none 0 0, I6 0] 50)).alloc (.cells #[I6 2, .slice none 0 0, I6 0] 50)).alloc (.cells #[I6 ax, I6 ay] 42)).alloc (.cells #[I6 wd, I6 ht] 254) ∧ Kp w V none ∧ V.heap[w.heap.size + 1]? = some (.cells #[I6 0, .slice none 0 0, I6 0] 50 (0, 0)) ∧ V.heap[w.heap.size + 1 + 1 + 1 + 1]? = some (.cells #[I6 wd, I6 ht] 254 (0, 0)) ∧ V.heap[w.heap.size + 1 + 1 + 1]? = some (.cells #[I6 ax, I6 ay] 42 (0, 0)) ∧ Bs (w.heap.size + 1 + 1) (w.heap.size + 1 + 1 + 1 + 1 + 1) 2 [] 0 (.slice none 0 0) V := by
 obtain ⟨w1, h1⟩ : ∃ x, w.alloc (.cells #[I6 px, I6 py] 42) = x := ⟨_, rfl⟩
 have s1 : w1.heap.size = w.heap.size + 1 := by rw [← h1]; simp
 have k1 : Kp w w1 none := by rw [← h1]; exact (Kp.refl w none).alloc _
 obtain ⟨w2, h2⟩ : ∃ x, w1.alloc (.cells #[I6 0, .slice none 0 0, I6 0] 50) = x := ⟨_, rfl⟩
 have s2 : w2.heap.size = w.heap.size + 1 + 1 := by rw [← h2, ← s1]; simp
 have k2 : Kp w1 w2 none := by rw [← h2]; exact (Kp.refl w1 none).alloc _
 have b2 := heap_alloc_new w1 (.cells #[I6 0, .slice none 0 0, I6 0] 50)
 rw [s1, h2] at b2; obtain ⟨w3, h3⟩ : ∃ x, w2.alloc (.cells #[I6 2, .slice none 0 0, I6 0] 50) = x := ⟨_, rfl⟩
 have s3 : w3.heap.size = w.heap.size + 1 + 1 + 1 := by rw [← h3, ← s2]; simp
 have k3 : Kp w2 w3 none := by rw [← h3]; exact (Kp.refl w2 none).alloc _
 have b3 := heap_alloc_new w2 (.cells #[I6 2, .slice none 0 0, I6 0] 50)
 rw [s2, h3] at b3; obtain ⟨w4, h4⟩ : ∃ x, w3.alloc (.cells #[I6 ax, I6 ay] 42) = x := ⟨_, rfl⟩
 have s4 : w4.heap.size = w.heap.size + 1 + 1 + 1 + 1 := by rw [← h4, ← s3]; simp
 have k4 : Kp w3 w4 none := by rw [← h4]; exact (Kp.refl w3 none).alloc _
 have b4 := heap_alloc_new w3 (.cells #[I6 ax, I6 ay] 42)
 rw [s3, h4] at b4; obtain ⟨w5, h5⟩ : ∃ x, w4.alloc (.cells #[I6 wd, I6 ht] 254) = x := ⟨_, rfl⟩
 have s5 : w5.heap.size = w.heap.size + 1 + 1 + 1 + 1 + 1 := by rw [← h5, ← s4]; simp
 have k5 : Kp w4 w5 none := by rw [← h5]; exact (Kp.refl w4 none).alloc _
 have b5 := heap_alloc_new w4 (.cells #[I6 wd, I6 ht] 254)
 rw [s4, h5] at b5; refine ⟨w5, by rw [← h5, ← h4, ← h3, ← h2, ← h1], k1.trans (k2.trans (k3.trans (k4.trans k5))), blk b2 (k3.trans (k4.trans k5)), b5, blk b4 k5, blk b3 (k4.trans k5), ⟨by omega, by omega⟩, rfl, .inl ⟨rfl, rfl⟩⟩
theorem round_any (px py r wd ht : Int) (w : World) (hp : Box 60 px py) (hr : 0 ≤ r ∧ r ≤ 9) (hw : 0 ≤ wd ∧ wd ≤ 9) (hh : 0 ≤ ht ∧ ht ≤ 9) : Calls Tryz.prog 89 #[.agg #[I6 px, I6 py], I6 r, I6 wd, I6 ht] w (AreaIs w) := by
 have HRB := oh hr; have HWB := oh hw; have HHB := oh hh; have hw0 : wrap64 (px + r) = px + r := by unfold Box at hp; exact wrap_mid (by omega) (by omega)
 have HB0 : Hid (Box 70 (px + r) py) := oh (by unfold Box at *; omega)
 obtain ⟨ax0, hax0⟩ : ∃ z, px + r = z := ⟨_, rfl⟩
 rw [hax0] at hw0 HB0; obtain ⟨i0, hi, hz0, hz1, hz2⟩ := info_parts infoEd
 obtain ⟨X0, hX0, hk0, hr0, hs0, ha0, hb0⟩ := round_start w px py ax0 py wd ht
 have HX0 := oh hX0; have HK0 := oh hk0; have HR0 := oh hr0; have HS0 := oh hs0; have HA0 := oh ha0; have HBS0 := oh hb0; clear hp hr hw hh hX0 hk0 hr0 hs0 ha0 hb0; go_enter Tryz.func89, Tryz.ntmps89
 go_wp2_with fail
 try rw [hax0]
 try rw [← HX0.out]
 clear hw0 hax0 HX0; go_loopw [12] (fun iv wr => RdRel w wd ht iv wr) (fun iv _ => 4 - (intOf iv).toNat)
 case atStart => exact ⟨0, ax0, py, [], .slice none 0 0, by omega, rfl, rfl, by simpa using HB0.out, HK0.out, HR0.out, HS0.out, HA0.out, HBS0.out⟩
 case round =>
  obtain ⟨k, ax, ay, es, u, hk, rfl, hlen, hbox, hkp, hrz, hsz, hat, hbs⟩ := hrel; have HLEN := oh hlen; have HBX := oh hbox; have HKP := oh hkp; have HRZ := oh hrz; have HSZ := oh hsz; have HATT := oh hat; have HBS := oh hbs
  have hk0 := nn k; clear hlen hbox hkp hrz hsz hat hbs HK0 HR0 HS0 HA0 HBS0 HB0
  by_cases hlt : k < 4
  ·have hk1 : (k : Int) < 4 := by omega
   obtain ⟨j, hj⟩ : ∃ j : Nat, k % 2 = j := ⟨_, rfl⟩
   have hmod : (k : Int).tmod 2 = (j : Int) := by rw [Int.tmod_eq_emod_of_nonneg hk0, ← hj]; simp
   have hj0 := nn j; have hj2 : (j : Int) < 2 := by omega
   obtain ⟨sk, hsk⟩ : ∃ z, (if j = 0 then wd else ht) = z := ⟨_, rfl⟩
   have HSB : Hid ((0 ≤ sk ∧ sk ≤ 9) ∧ (0 ≤ r ∧ r ≤ 9)) := oh ⟨by have h1 := HWB.out; have h2 := HHB.out; rw [← hsk]; split <;> omega, HRB.out⟩
   have HSK : Hid (∀ V : World, V.heap[w.heap.size + 1 + 1 + 1 + 1]? = some (.cells #[I6 wd, I6 ht] 254 (0, 0)) → V.cell? ⟨w.heap.size + 1 + 1 + 1 + 1, j, none⟩ = some (I6 sk)) := oh fun V hV => by
    have : j = 0 ∨ j = 1 := by omega
    rcases this with h | h
    ·subst h; rw [← hsk]; exact hcell hV 0 rfl
    ·subst h; rw [← hsk]; exact hcell hV 1 rfl
   clear hj hsk; obtain ⟨v1, hv1⟩ : ∃ z, (Pl.turn (k : Int) ⟨sk, 0⟩).x = z := ⟨_, rfl⟩
   obtain ⟨v2, hv2⟩ : ∃ z, (Pl.turn (k : Int) ⟨sk, 0⟩).y = z := ⟨_, rfl⟩
   have hbX : Box 9 sk 0 := by have := HSB.out; unfold Box; omega
   have htX := turn_box (k : Int) hbX
   rw [hv1, hv2] at htX; have HAP : Hid (∀ V, Calls Tryz.prog 136 #[.agg #[I6 0, I6 0, I6 (k : Int), .bool false], .agg #[I6 sk, I6 0]] V fun E w' => E = .returned (.agg #[I6 v1, I6 v2]) ∧ Kp V w' none) := oh (fun V => by have h := apply_turn (k : Int) sk 0 V hbX (by omega); rw [hv1, hv2] at h; exact h)
   obtain ⟨nx, hnx⟩ : ∃ z, ax + v1 = z := ⟨_, rfl⟩
   obtain ⟨ny, hny⟩ : ∃ z, ay + v2 = z := ⟨_, rfl⟩
   have HAD : Hid (∀ V, Calls Tryz.prog 135 #[.agg #[I6 ax, I6 ay], .agg #[I6 v1, I6 v2]] V fun E w' => E = .returned (.agg #[I6 nx, I6 ny]) ∧ Kp V w' none) := oh (fun V => by rw [← hnx, ← hny]; have h1 := HBX.out; unfold Box at h1 htX; exact radd_any ax ay v1 v2 V (by unfold Mid; omega) (by unfold Mid; omega) (by unfold Mid; omega) (by unfold Mid; omega))
   have HB1 : Hid (Box (79 + 30 * (k : Int)) nx ny) := oh (by have h1 := HBX.out; unfold Box at *; omega)
   clear hv1 hv2 hbX htX hnx hny; go_upto_region 9 with fail
   have ka := (Kp.refl wr none).alloc (.cells #[I6 0, I6 0, I6 (k : Int), .bool false] 44)
   have HQ : Hid (QR w wd ht k ax ay es u wr.heap.size (wr.alloc (.cells #[I6 0, I6 0, I6 (k : Int), .bool false] 44)).heap.size (wr.alloc (.cells #[I6 0, I6 0, I6 (k : Int), .bool false] 44))) := oh (QR.up (X := 0) ⟨HKP.out.trans ka, blk HRZ.out ka, blk HSZ.out ka, blk HATT.out ka, HBS.out.keep ka, heap_alloc_new wr _, HBS.out.2.1.2, fun q hq => (HBS.out.2.2.lt q hq).2, Nat.zero_le _⟩)
   obtain ⟨M, hM⟩ : ∃ x, wr.heap.size = x := ⟨_, rfl⟩
   obtain ⟨XX, hXX⟩ : ∃ x, (wr.alloc (.cells #[I6 0, I6 0, I6 (k : Int), .bool false] 44)).heap.size = x := ⟨_, rfl⟩
   rw [hXX] at HQ
   generalize wr.alloc (.cells #[I6 0, I6 0, I6 (k : Int), .bool false] 44) = X at *
   rw [hM] at HQ ⊢; have HMX : Hid (M < XX) := oh (by have := lt_of_block HQ.out.m; omega)
   clear hM hXX ka HKP HRZ HSZ HATT HBS; go_cut [14] from 34 to 42 (fun s14 wx => ∃ B : Nat, s14 = .pointer (some ⟨B, 0, none⟩) ∧ QR w wd ht k ax ay es u M 0 wx ∧ wx.heap[B]? = some (.cells #[I6 nx, I6 ny] 42 (0, 0)) ∧ M < B)
   case first =>
    replace HQ := oh (HQ.out.keep (Kp.refl X none).drew); refine wp_region_last (fun V => V.cell? ⟨w.heap.size + 1 + 1 + 1, 0, none⟩ = some (I6 ax) ∧ V.cell? ⟨w.heap.size + 1 + 1 + 1, 1, none⟩ = some (I6 ay) ∧ V.cell? ⟨M, 0, none⟩ = some (I6 0) ∧ V.cell? ⟨M, 1, none⟩ = some (I6 0) ∧ V.cell? ⟨M, 2, none⟩ = some (I6 (k : Int)) ∧ V.cell? ⟨M, 3, none⟩ = some (.bool false) ∧ V.cell? ⟨w.heap.size + 1 + 1 + 1 + 1, j, none⟩ = some (I6 sk)) 10 (by kernel_rfl) ?_ (fun eh => ?_)
    ·exact ⟨hcell HQ.out.at_ 0 rfl, hcell HQ.out.at_ 1 rfl, hcell HQ.out.m 0 rfl, hcell HQ.out.m 1 rfl, hcell HQ.out.m 2 rfl, hcell HQ.out.m 3 rfl, (HSK.out _ HQ.out.sz)⟩
    generalize X.drew = Y at *
    refine tjL 0 rfl ?_; refine tjL 1 rfl ?_; refine tjL 2 rfl ?_; refine tjL 3 rfl ?_; refine tjL 4 rfl ?_; refine tjL 5 rfl ?_; refine tjL 6 rfl ?_
    refine rdD 7 9 rfl rfl (fun K hK => ?_) (fun K hK => ?_)
    ·clear eh; go_simp; refine (HAP.out _).mono ?_
     rintro E V1 ⟨rfl, kk⟩; replace HQ := oh (HQ.out.keep kk); clear kk; try go_wp2_with fail
     refine hK.out _ _ ?_ (fun eh => ?_)
     ·exact ⟨hcell HQ.out.at_ 0 rfl, hcell HQ.out.at_ 1 rfl, hcell HQ.out.m 0 rfl, hcell HQ.out.m 1 rfl, hcell HQ.out.m 2 rfl, hcell HQ.out.m 3 rfl, (HSK.out _ HQ.out.sz)⟩
     clear hK K; try simp only [Act.put, sm]
     refine rdD 8 9 rfl rfl (fun K hK => ?_) (fun K hK => ?_)
     ·clear eh; go_simp; refine (HAD.out _).mono ?_
      rintro E V2 ⟨rfl, kk⟩; replace HQ := oh (HQ.out.keep kk); clear kk; try go_wp2_with fail
      refine hK.out _ _ ?_ (fun eh => ?_)
      ·exact ⟨hcell HQ.out.at_ 0 rfl, hcell HQ.out.at_ 1 rfl, hcell HQ.out.m 0 rfl, hcell HQ.out.m 1 rfl, hcell HQ.out.m 2 rfl, hcell HQ.out.m 3 rfl, (HSK.out _ HQ.out.sz)⟩
      clear hK K; try simp only [Act.put, sm]
      refine rdL 9 rfl (fun K hK => ?_); clear eh; go_simp; have ka := (Kp.refl V2 none).alloc (.cells #[I6 0, I6 0] 42)
      have HND : Hid (XX ≤ V2.heap.size) := oh (by exact HQ.out.lo)
      replace HQ := oh (HQ.out.keep ka)
      have HN := oh (heap_alloc_new V2 (.cells #[I6 0, I6 0] 42))
      clear ka; try go_wp2_with fail
      refine hK.out _ _ ?_ (fun eh => ?_)
      ·exact ⟨hcell HQ.out.at_ 0 rfl, hcell HQ.out.at_ 1 rfl, hcell HQ.out.m 0 rfl, hcell HQ.out.m 1 rfl, hcell HQ.out.m 2 rfl, hcell HQ.out.m 3 rfl, (HSK.out _ HQ.out.sz)⟩
      clear hK K; try simp only [Act.put, sm]
      generalize V2.alloc (.cells #[I6 0, I6 0] 42) = V3 at *
      refine rdE rfl (fun K hK => ?_)
      have f0 := fz HN.out 0
      have f1 := fz HN.out 1
      have z0 := hcell HN.out 0 rfl
      have z1 := hcell HN.out 1 rfl
      clear eh; go_simp; try go_wp2_with fail
      refine hK.out _ _ ?_
      clear hK K f0 f1 z0 z1; try simp only [Act.put, sm]
      refine wpAnyL_done (by kernel_rfl) ?_ _
      have hs := heap_two HN.out (I6 nx) (I6 ny)
      have kk := hs.2
      have HS := oh hs.1
      have HQ9 := oh ((HQ.out.row kk (Nat.lt_of_lt_of_le HMX.out HND.out)).low)
      clear hs kk; go_wp2_with fail
      go_meet
      exact ⟨_, rfl, HQ9.out, HS.out, Nat.lt_of_lt_of_le HMX.out HND.out⟩
     ·clear eh; go_simp; have ka := (Kp.refl V1 none).alloc (.cells #[I6 0, I6 0] 42)
      have HND : Hid (XX ≤ V1.heap.size) := oh (by exact HQ.out.lo)
      replace HQ := oh (HQ.out.keep ka)
      have HN := oh (heap_alloc_new V1 (.cells #[I6 0, I6 0] 42))
      clear ka; try go_wp2_with fail
      refine hK.out _ _ ?_ (fun eh => ?_)
      ·exact ⟨hcell HQ.out.at_ 0 rfl, hcell HQ.out.at_ 1 rfl, hcell HQ.out.m 0 rfl, hcell HQ.out.m 1 rfl, hcell HQ.out.m 2 rfl, hcell HQ.out.m 3 rfl, (HSK.out _ HQ.out.sz)⟩
      clear hK K; try simp only [Act.put, sm]
      generalize V1.alloc (.cells #[I6 0, I6 0] 42) = V4 at *
      refine rdL 8 rfl (fun K hK => ?_); clear eh; go_simp; refine (HAD.out _).mono ?_
      rintro E V5 ⟨rfl, kk⟩; replace HQ := oh (HQ.out.keep kk); replace HN := oh (blk HN.out kk); clear kk; try go_wp2_with fail
      refine hK.out _ _ ?_ (fun eh => ?_)
      ·exact ⟨hcell HQ.out.at_ 0 rfl, hcell HQ.out.at_ 1 rfl, hcell HQ.out.m 0 rfl, hcell HQ.out.m 1 rfl, hcell HQ.out.m 2 rfl, hcell HQ.out.m 3 rfl, (HSK.out _ HQ.out.sz)⟩
      clear hK K; try simp only [Act.put, sm]
      refine rdE rfl (fun K hK => ?_)
      have f0 := fz HN.out 0
      have f1 := fz HN.out 1
      have z0 := hcell HN.out 0 rfl
      have z1 := hcell HN.out 1 rfl
      clear eh; go_simp; try go_wp2_with fail
      refine hK.out _ _ ?_
      clear hK K f0 f1 z0 z1; try simp only [Act.put, sm]
      refine wpAnyL_done (by kernel_rfl) ?_ _
      have hs := heap_two HN.out (I6 nx) (I6 ny)
      have kk := hs.2
      have HS := oh hs.1
      have HQ9 := oh ((HQ.out.row kk (Nat.lt_of_lt_of_le HMX.out HND.out)).low)
      clear hs kk; go_wp2_with fail
      go_meet
      exact ⟨_, rfl, HQ9.out, HS.out, Nat.lt_of_lt_of_le HMX.out HND.out⟩
    ·clear eh; go_simp; have ka := (Kp.refl Y none).alloc (.cells #[I6 0, I6 0] 42)
     have HND : Hid (XX ≤ Y.heap.size) := oh (by exact HQ.out.lo)
     replace HQ := oh (HQ.out.keep ka)
     have HN := oh (heap_alloc_new Y (.cells #[I6 0, I6 0] 42))
     clear ka; try go_wp2_with fail
     refine hK.out _ _ ?_ (fun eh => ?_)
     ·exact ⟨hcell HQ.out.at_ 0 rfl, hcell HQ.out.at_ 1 rfl, hcell HQ.out.m 0 rfl, hcell HQ.out.m 1 rfl, hcell HQ.out.m 2 rfl, hcell HQ.out.m 3 rfl, (HSK.out _ HQ.out.sz)⟩
     clear hK K; try simp only [Act.put, sm]
     generalize Y.alloc (.cells #[I6 0, I6 0] 42) = V6 at *
     refine rdL 7 rfl (fun K hK => ?_); clear eh; go_simp; refine (HAP.out _).mono ?_
     rintro E V7 ⟨rfl, kk⟩; replace HQ := oh (HQ.out.keep kk); replace HN := oh (blk HN.out kk); clear kk; try go_wp2_with fail
     refine hK.out _ _ ?_ (fun eh => ?_)
     ·exact ⟨hcell HQ.out.at_ 0 rfl, hcell HQ.out.at_ 1 rfl, hcell HQ.out.m 0 rfl, hcell HQ.out.m 1 rfl, hcell HQ.out.m 2 rfl, hcell HQ.out.m 3 rfl, (HSK.out _ HQ.out.sz)⟩
     clear hK K; try simp only [Act.put, sm]
     refine rdL 8 rfl (fun K hK => ?_); clear eh; go_simp; refine (HAD.out _).mono ?_
     rintro E V8 ⟨rfl, kk⟩; replace HQ := oh (HQ.out.keep kk); replace HN := oh (blk HN.out kk); clear kk; try go_wp2_with fail
     refine hK.out _ _ ?_ (fun eh => ?_)
     ·exact ⟨hcell HQ.out.at_ 0 rfl, hcell HQ.out.at_ 1 rfl, hcell HQ.out.m 0 rfl, hcell HQ.out.m 1 rfl, hcell HQ.out.m 2 rfl, hcell HQ.out.m 3 rfl, (HSK.out _ HQ.out.sz)⟩
     clear hK K; try simp only [Act.put, sm]
     refine rdE rfl (fun K hK => ?_)
     have f0 := fz HN.out 0
     have f1 := fz HN.out 1
     have z0 := hcell HN.out 0 rfl
     have z1 := hcell HN.out 1 rfl
     clear eh; go_simp; try go_wp2_with fail
     refine hK.out _ _ ?_
     clear hK K f0 f1 z0 z1; try simp only [Act.put, sm]
     refine wpAnyL_done (by kernel_rfl) ?_ _
     have hs := heap_two HN.out (I6 nx) (I6 ny)
     have kk := hs.2
     have HS := oh hs.1
     have HQ9 := oh ((HQ.out.row kk (Nat.lt_of_lt_of_le HMX.out HND.out)).low)
     clear hs kk; go_wp2_with fail
     go_meet
     exact ⟨_, rfl, HQ9.out, HS.out, Nat.lt_of_lt_of_le HMX.out HND.out⟩
   case rest =>
    obtain ⟨B1, rfl, hq, hn, hnd⟩ := hcut; clear HQ HMX
    have HQ := oh hq.up
    have HN := oh hn; have HND := oh hnd; have HNL := oh (lt_of_block hn); have HMX := oh (lt_of_block hq.m)
    obtain ⟨X2, hX2⟩ : ∃ x, wc.heap.size = x := ⟨_, rfl⟩
    rw [hX2] at HQ HNL HMX; clear hq hn hnd hX2 XX; obtain ⟨v3, hv3⟩ : ∃ z, (Pl.turn (k : Int) ⟨0, r⟩).x = z := ⟨_, rfl⟩
    obtain ⟨v4, hv4⟩ : ∃ z, (Pl.turn (k : Int) ⟨0, r⟩).y = z := ⟨_, rfl⟩
    have hb1 : Box 9 0 r := by have := HSB.out; unfold Box; omega
    have ht1 := turn_box (k : Int) hb1
    rw [hv3, hv4] at ht1; have HAP : Hid (∀ V, Calls Tryz.prog 136 #[.agg #[I6 0, I6 0, I6 (k : Int), .bool false], .agg #[I6 0, I6 r]] V fun E w' => E = .returned (.agg #[I6 v3, I6 v4]) ∧ Kp V w' none) := oh (fun V => by have h := apply_turn (k : Int) 0 r V hb1 (by omega); rw [hv3, hv4] at h; exact h)
    obtain ⟨cx, hcx⟩ : ∃ z, nx + v3 = z := ⟨_, rfl⟩
    obtain ⟨cy, hcy⟩ : ∃ z, ny + v4 = z := ⟨_, rfl⟩
    have HAD : Hid (∀ V, Calls Tryz.prog 135 #[.agg #[I6 nx, I6 ny], .agg #[I6 v3, I6 v4]] V fun E w' => E = .returned (.agg #[I6 cx, I6 cy]) ∧ Kp V w' none) := oh (fun V => by rw [← hcx, ← hcy]; have h1 := HB1.out; unfold Box at h1 ht1; exact radd_any nx ny v3 v4 V (by unfold Mid; omega) (by unfold Mid; omega) (by unfold Mid; omega) (by unfold Mid; omega))
    have HB2 : Hid (Box (88 + 30 * (k : Int)) cx cy) := oh (by have h1 := HB1.out; unfold Box at *; omega)
    clear hv3 hv4 hb1 ht1 hcx hcy; go_upto_region 10 with fail
    go_cut [15] from 43 to 48 (fun s15 wx => ∃ B : Nat, s15 = .pointer (some ⟨B, 0, none⟩) ∧ QR w wd ht k ax ay es u M 0 wx ∧ wx.heap[B1]? = some (.cells #[I6 nx, I6 ny] 42 (0, 0)) ∧ wx.heap[B]? = some (.cells #[I6 cx, I6 cy] 42 (0, 0)) ∧ M < B)
    case first =>
     replace HQ := oh (HQ.out.keep (Kp.refl wc none).drew); replace HN := oh (blk HN.out (Kp.refl wc none).drew); refine wp_region_last (fun V => V.cell? ⟨B1, 0, none⟩ = some (I6 nx) ∧ V.cell? ⟨B1, 1, none⟩ = some (I6 ny) ∧ V.cell? ⟨M, 0, none⟩ = some (I6 0) ∧ V.cell? ⟨M, 1, none⟩ = some (I6 0) ∧ V.cell? ⟨M, 2, none⟩ = some (I6 (k : Int)) ∧ V.cell? ⟨M, 3, none⟩ = some (.bool false)) 7 (by kernel_rfl) ?_ (fun eh => ?_)
     ·exact ⟨hcell HN.out 0 rfl, hcell HN.out 1 rfl, hcell HQ.out.m 0 rfl, hcell HQ.out.m 1 rfl, hcell HQ.out.m 2 rfl, hcell HQ.out.m 3 rfl⟩
     generalize wc.drew = Y at *
     refine tjL 0 rfl ?_; refine tjL 1 rfl ?_; refine tjL 2 rfl ?_; refine tjL 3 rfl ?_
     refine rdD 4 6 rfl rfl (fun K hK => ?_) (fun K hK => ?_)
     ·clear eh; go_simp; refine (HAP.out _).mono ?_
      rintro E V1 ⟨rfl, kk⟩; replace HQ := oh (HQ.out.keep kk); replace HN := oh (blk HN.out kk); clear kk; try go_wp2_with fail
      refine hK.out _ _ ?_ (fun eh => ?_)
      ·exact ⟨hcell HN.out 0 rfl, hcell HN.out 1 rfl, hcell HQ.out.m 0 rfl, hcell HQ.out.m 1 rfl, hcell HQ.out.m 2 rfl, hcell HQ.out.m 3 rfl⟩
      clear hK K; try simp only [Act.put, sm]
      refine rdD 5 6 rfl rfl (fun K hK => ?_) (fun K hK => ?_)
      ·clear eh; go_simp; refine (HAD.out _).mono ?_
       rintro E V2 ⟨rfl, kk⟩; replace HQ := oh (HQ.out.keep kk); replace HN := oh (blk HN.out kk); clear kk; try go_wp2_with fail
       refine hK.out _ _ ?_ (fun eh => ?_)
       ·exact ⟨hcell HN.out 0 rfl, hcell HN.out 1 rfl, hcell HQ.out.m 0 rfl, hcell HQ.out.m 1 rfl, hcell HQ.out.m 2 rfl, hcell HQ.out.m 3 rfl⟩
       clear hK K; try simp only [Act.put, sm]
       refine rdL 6 rfl (fun K hK => ?_); clear eh; go_simp; have ka := (Kp.refl V2 none).alloc (.cells #[I6 0, I6 0] 42)
       have HCD : Hid (X2 ≤ V2.heap.size) := oh (by exact HQ.out.lo)
       replace HQ := oh (HQ.out.keep ka); replace HN := oh (blk HN.out ka)
       have HC := oh (heap_alloc_new V2 (.cells #[I6 0, I6 0] 42))
       clear ka; try go_wp2_with fail
       refine hK.out _ _ ?_ (fun eh => ?_)
       ·exact ⟨hcell HN.out 0 rfl, hcell HN.out 1 rfl, hcell HQ.out.m 0 rfl, hcell HQ.out.m 1 rfl, hcell HQ.out.m 2 rfl, hcell HQ.out.m 3 rfl⟩
       clear hK K; try simp only [Act.put, sm]
       generalize V2.alloc (.cells #[I6 0, I6 0] 42) = V3 at *
       refine rdE rfl (fun K hK => ?_)
       have f0 := fz HC.out 0
       have f1 := fz HC.out 1
       have z0 := hcell HC.out 0 rfl
       have z1 := hcell HC.out 1 rfl
       clear eh; go_simp; try go_wp2_with fail
       refine hK.out _ _ ?_
       clear hK K f0 f1 z0 z1; try simp only [Act.put, sm]
       refine wpAnyL_done (by kernel_rfl) ?_ _
       have hs := heap_two HC.out (I6 cx) (I6 cy)
       have kk := hs.2
       have HS := oh hs.1
       have HQ9 := oh ((HQ.out.row kk (Nat.lt_of_lt_of_le HMX.out HCD.out)).low)
       have HN9 := oh ((kk.block _ (lt_of_block HN.out) (by have := HCD.out; have := HNL.out; simp; omega)).trans HN.out)
       clear hs kk; go_wp2_with fail
       go_meet
       exact ⟨_, rfl, HQ9.out, HN9.out, HS.out, Nat.lt_of_lt_of_le HMX.out HCD.out⟩
      ·clear eh; go_simp; have ka := (Kp.refl V1 none).alloc (.cells #[I6 0, I6 0] 42)
       have HCD : Hid (X2 ≤ V1.heap.size) := oh (by exact HQ.out.lo)
       replace HQ := oh (HQ.out.keep ka); replace HN := oh (blk HN.out ka)
       have HC := oh (heap_alloc_new V1 (.cells #[I6 0, I6 0] 42))
       clear ka; try go_wp2_with fail
       refine hK.out _ _ ?_ (fun eh => ?_)
       ·exact ⟨hcell HN.out 0 rfl, hcell HN.out 1 rfl, hcell HQ.out.m 0 rfl, hcell HQ.out.m 1 rfl, hcell HQ.out.m 2 rfl, hcell HQ.out.m 3 rfl⟩
       clear hK K; try simp only [Act.put, sm]
       generalize V1.alloc (.cells #[I6 0, I6 0] 42) = V4 at *
       refine rdL 5 rfl (fun K hK => ?_); clear eh; go_simp; refine (HAD.out _).mono ?_
       rintro E V5 ⟨rfl, kk⟩; replace HQ := oh (HQ.out.keep kk); replace HN := oh (blk HN.out kk); replace HC := oh (blk HC.out kk); clear kk; try go_wp2_with fail
       refine hK.out _ _ ?_ (fun eh => ?_)
       ·exact ⟨hcell HN.out 0 rfl, hcell HN.out 1 rfl, hcell HQ.out.m 0 rfl, hcell HQ.out.m 1 rfl, hcell HQ.out.m 2 rfl, hcell HQ.out.m 3 rfl⟩
       clear hK K; try simp only [Act.put, sm]
       refine rdE rfl (fun K hK => ?_)
       have f0 := fz HC.out 0
       have f1 := fz HC.out 1
       have z0 := hcell HC.out 0 rfl
       have z1 := hcell HC.out 1 rfl
       clear eh; go_simp; try go_wp2_with fail
       refine hK.out _ _ ?_
       clear hK K f0 f1 z0 z1; try simp only [Act.put, sm]
       refine wpAnyL_done (by kernel_rfl) ?_ _
       have hs := heap_two HC.out (I6 cx) (I6 cy)
       have kk := hs.2
       have HS := oh hs.1
       have HQ9 := oh ((HQ.out.row kk (Nat.lt_of_lt_of_le HMX.out HCD.out)).low)
       have HN9 := oh ((kk.block _ (lt_of_block HN.out) (by have := HCD.out; have := HNL.out; simp; omega)).trans HN.out)
       clear hs kk; go_wp2_with fail
       go_meet
       exact ⟨_, rfl, HQ9.out, HN9.out, HS.out, Nat.lt_of_lt_of_le HMX.out HCD.out⟩
     ·clear eh; go_simp; have ka := (Kp.refl Y none).alloc (.cells #[I6 0, I6 0] 42)
      have HCD : Hid (X2 ≤ Y.heap.size) := oh (by exact HQ.out.lo)
      replace HQ := oh (HQ.out.keep ka); replace HN := oh (blk HN.out ka)
      have HC := oh (heap_alloc_new Y (.cells #[I6 0, I6 0] 42))
      clear ka; try go_wp2_with fail
      refine hK.out _ _ ?_ (fun eh => ?_)
      ·exact ⟨hcell HN.out 0 rfl, hcell HN.out 1 rfl, hcell HQ.out.m 0 rfl, hcell HQ.out.m 1 rfl, hcell HQ.out.m 2 rfl, hcell HQ.out.m 3 rfl⟩
      clear hK K; try simp only [Act.put, sm]
      generalize Y.alloc (.cells #[I6 0, I6 0] 42) = V6 at *
      refine rdL 4 rfl (fun K hK => ?_); clear eh; go_simp; refine (HAP.out _).mono ?_
      rintro E V7 ⟨rfl, kk⟩; replace HQ := oh (HQ.out.keep kk); replace HN := oh (blk HN.out kk); replace HC := oh (blk HC.out kk); clear kk; try go_wp2_with fail
      refine hK.out _ _ ?_ (fun eh => ?_)
      ·exact ⟨hcell HN.out 0 rfl, hcell HN.out 1 rfl, hcell HQ.out.m 0 rfl, hcell HQ.out.m 1 rfl, hcell HQ.out.m 2 rfl, hcell HQ.out.m 3 rfl⟩
      clear hK K; try simp only [Act.put, sm]
      refine rdL 5 rfl (fun K hK => ?_); clear eh; go_simp; refine (HAD.out _).mono ?_
      rintro E V8 ⟨rfl, kk⟩; replace HQ := oh (HQ.out.keep kk); replace HN := oh (blk HN.out kk); replace HC := oh (blk HC.out kk); clear kk; try go_wp2_with fail
      refine hK.out _ _ ?_ (fun eh => ?_)
      ·exact ⟨hcell HN.out 0 rfl, hcell HN.out 1 rfl, hcell HQ.out.m 0 rfl, hcell HQ.out.m 1 rfl, hcell HQ.out.m 2 rfl, hcell HQ.out.m 3 rfl⟩
      clear hK K; try simp only [Act.put, sm]
      refine rdE rfl (fun K hK => ?_)
      have f0 := fz HC.out 0
      have f1 := fz HC.out 1
      have z0 := hcell HC.out 0 rfl
      have z1 := hcell HC.out 1 rfl
      clear eh; go_simp; try go_wp2_with fail
      refine hK.out _ _ ?_
      clear hK K f0 f1 z0 z1; try simp only [Act.put, sm]
      refine wpAnyL_done (by kernel_rfl) ?_ _
      have hs := heap_two HC.out (I6 cx) (I6 cy)
      have kk := hs.2
      have HS := oh hs.1
      have HQ9 := oh ((HQ.out.row kk (Nat.lt_of_lt_of_le HMX.out HCD.out)).low)
      have HN9 := oh ((kk.block _ (lt_of_block HN.out) (by have := HCD.out; have := HNL.out; simp; omega)).trans HN.out)
      clear hs kk; go_wp2_with fail
      go_meet
      exact ⟨_, rfl, HQ9.out, HN9.out, HS.out, Nat.lt_of_lt_of_le HMX.out HCD.out⟩
    case rest =>
     obtain ⟨B2, rfl, hq, hn, hc, hcd⟩ := hcut; clear HQ HMX HN HNL
     have HQ := oh hq.up
     have HN := oh hn; have HC := oh hc; have HCD := oh hcd; have HNL := oh (lt_of_block hn); have HCL := oh (lt_of_block hc); have HMX := oh (lt_of_block hq.m); clear hq hn hc hcd X2
     obtain ⟨X3, hX3⟩ : ∃ x, wc.heap.size = x := ⟨_, rfl⟩
     rw [hX3] at HQ HNL HCL HMX; clear hX3; obtain ⟨v5, hv5⟩ : ∃ z, (Pl.turn (k : Int) ⟨r, 0⟩).x = z := ⟨_, rfl⟩
     obtain ⟨v6, hv6⟩ : ∃ z, (Pl.turn (k : Int) ⟨r, 0⟩).y = z := ⟨_, rfl⟩
     have hb2 : Box 9 r 0 := by have := HSB.out; unfold Box; omega
     have ht2 := turn_box (k : Int) hb2
     rw [hv5, hv6] at ht2; have HAP : Hid (∀ V, Calls Tryz.prog 136 #[.agg #[I6 0, I6 0, I6 (k : Int), .bool false], .agg #[I6 r, I6 0]] V fun E w' => E = .returned (.agg #[I6 v5, I6 v6]) ∧ Kp V w' none) := oh (fun V => by have h := apply_turn (k : Int) r 0 V hb2 (by omega); rw [hv5, hv6] at h; exact h)
     obtain ⟨ex, hex⟩ : ∃ z, cx + v5 = z := ⟨_, rfl⟩
     obtain ⟨ey, hey⟩ : ∃ z, cy + v6 = z := ⟨_, rfl⟩
     have HAD : Hid (∀ V, Calls Tryz.prog 135 #[.agg #[I6 cx, I6 cy], .agg #[I6 v5, I6 v6]] V fun E w' => E = .returned (.agg #[I6 ex, I6 ey]) ∧ Kp V w' none) := oh (fun V => by rw [← hex, ← hey]; have h1 := HB2.out; unfold Box at h1 ht2; exact radd_any cx cy v5 v6 V (by unfold Mid; omega) (by unfold Mid; omega) (by unfold Mid; omega) (by unfold Mid; omega))
     have HB3 : Hid (Box (97 + 30 * (k : Int)) ex ey) := oh (by have h1 := HB2.out; unfold Box at *; omega)
     clear hv5 hv6 hb2 ht2 hex hey; go_upto_region 11 with fail
     go_cut [16] from 49 to 54 (fun s16 wx => ∃ B : Nat, s16 = .pointer (some ⟨B, 0, none⟩) ∧ QR w wd ht k ax ay es u M 0 wx ∧ wx.heap[B1]? = some (.cells #[I6 nx, I6 ny] 42 (0, 0)) ∧ wx.heap[B2]? = some (.cells #[I6 cx, I6 cy] 42 (0, 0)) ∧ wx.heap[B]? = some (.cells #[I6 ex, I6 ey] 42 (0, 0)) ∧ M < B)
     case first =>
      replace HQ := oh (HQ.out.keep (Kp.refl wc none).drew); replace HN := oh (blk HN.out (Kp.refl wc none).drew); replace HC := oh (blk HC.out (Kp.refl wc none).drew); refine wp_region_last (fun V => V.cell? ⟨B2, 0, none⟩ = some (I6 cx) ∧ V.cell? ⟨B2, 1, none⟩ = some (I6 cy) ∧ V.cell? ⟨M, 0, none⟩ = some (I6 0) ∧ V.cell? ⟨M, 1, none⟩ = some (I6 0) ∧ V.cell? ⟨M, 2, none⟩ = some (I6 (k : Int)) ∧ V.cell? ⟨M, 3, none⟩ = some (.bool false)) 7 (by kernel_rfl) ?_ (fun eh => ?_)
      ·exact ⟨hcell HC.out 0 rfl, hcell HC.out 1 rfl, hcell HQ.out.m 0 rfl, hcell HQ.out.m 1 rfl, hcell HQ.out.m 2 rfl, hcell HQ.out.m 3 rfl⟩
      generalize wc.drew = Y at *
      refine tjL 0 rfl ?_; refine tjL 1 rfl ?_; refine tjL 2 rfl ?_; refine tjL 3 rfl ?_
      refine rdD 4 6 rfl rfl (fun K hK => ?_) (fun K hK => ?_)
      ·clear eh; go_simp; refine (HAP.out _).mono ?_
       rintro E V1 ⟨rfl, kk⟩; replace HQ := oh (HQ.out.keep kk); replace HN := oh (blk HN.out kk); replace HC := oh (blk HC.out kk); clear kk; try go_wp2_with fail
       refine hK.out _ _ ?_ (fun eh => ?_)
       ·exact ⟨hcell HC.out 0 rfl, hcell HC.out 1 rfl, hcell HQ.out.m 0 rfl, hcell HQ.out.m 1 rfl, hcell HQ.out.m 2 rfl, hcell HQ.out.m 3 rfl⟩
       clear hK K; try simp only [Act.put, sm]
       refine rdD 5 6 rfl rfl (fun K hK => ?_) (fun K hK => ?_)
       ·clear eh; go_simp; refine (HAD.out _).mono ?_
        rintro E V2 ⟨rfl, kk⟩; replace HQ := oh (HQ.out.keep kk); replace HN := oh (blk HN.out kk); replace HC := oh (blk HC.out kk); clear kk; try go_wp2_with fail
        refine hK.out _ _ ?_ (fun eh => ?_)
        ·exact ⟨hcell HC.out 0 rfl, hcell HC.out 1 rfl, hcell HQ.out.m 0 rfl, hcell HQ.out.m 1 rfl, hcell HQ.out.m 2 rfl, hcell HQ.out.m 3 rfl⟩
        clear hK K; try simp only [Act.put, sm]
        refine rdL 6 rfl (fun K hK => ?_); clear eh; go_simp; have ka := (Kp.refl V2 none).alloc (.cells #[I6 0, I6 0] 42)
        have HED : Hid (X3 ≤ V2.heap.size) := oh (by exact HQ.out.lo)
        replace HQ := oh (HQ.out.keep ka); replace HN := oh (blk HN.out ka); replace HC := oh (blk HC.out ka)
        have HE := oh (heap_alloc_new V2 (.cells #[I6 0, I6 0] 42))
        clear ka; try go_wp2_with fail
        refine hK.out _ _ ?_ (fun eh => ?_)
        ·exact ⟨hcell HC.out 0 rfl, hcell HC.out 1 rfl, hcell HQ.out.m 0 rfl, hcell HQ.out.m 1 rfl, hcell HQ.out.m 2 rfl, hcell HQ.out.m 3 rfl⟩
        clear hK K; try simp only [Act.put, sm]
        generalize V2.alloc (.cells #[I6 0, I6 0] 42) = V3 at *
        refine rdE rfl (fun K hK => ?_)
        have f0 := fz HE.out 0
        have f1 := fz HE.out 1
        have z0 := hcell HE.out 0 rfl
        have z1 := hcell HE.out 1 rfl
        clear eh; go_simp; try go_wp2_with fail
        refine hK.out _ _ ?_
        clear hK K f0 f1 z0 z1; try simp only [Act.put, sm]
        refine wpAnyL_done (by kernel_rfl) ?_ _
        have hs := heap_two HE.out (I6 ex) (I6 ey)
        have kk := hs.2
        have HS := oh hs.1
        have HQ9 := oh ((HQ.out.row kk (Nat.lt_of_lt_of_le HMX.out HED.out)).low)
        have HN9 := oh ((kk.block _ (lt_of_block HN.out) (by have := HED.out; have := HNL.out; simp; omega)).trans HN.out)
        have HC9 := oh ((kk.block _ (lt_of_block HC.out) (by have := HED.out; have := HCL.out; simp; omega)).trans HC.out)
        clear hs kk; go_wp2_with fail
        go_meet
        exact ⟨_, rfl, HQ9.out, HN9.out, HC9.out, HS.out, Nat.lt_of_lt_of_le HMX.out HED.out⟩
       ·clear eh; go_simp; have ka := (Kp.refl V1 none).alloc (.cells #[I6 0, I6 0] 42)
        have HED : Hid (X3 ≤ V1.heap.size) := oh (by exact HQ.out.lo)
        replace HQ := oh (HQ.out.keep ka); replace HN := oh (blk HN.out ka); replace HC := oh (blk HC.out ka)
        have HE := oh (heap_alloc_new V1 (.cells #[I6 0, I6 0] 42))
        clear ka; try go_wp2_with fail
        refine hK.out _ _ ?_ (fun eh => ?_)
        ·exact ⟨hcell HC.out 0 rfl, hcell HC.out 1 rfl, hcell HQ.out.m 0 rfl, hcell HQ.out.m 1 rfl, hcell HQ.out.m 2 rfl, hcell HQ.out.m 3 rfl⟩
        clear hK K; try simp only [Act.put, sm]
        generalize V1.alloc (.cells #[I6 0, I6 0] 42) = V4 at *
        refine rdL 5 rfl (fun K hK => ?_); clear eh; go_simp; refine (HAD.out _).mono ?_
        rintro E V5 ⟨rfl, kk⟩; replace HQ := oh (HQ.out.keep kk); replace HN := oh (blk HN.out kk); replace HC := oh (blk HC.out kk); replace HE := oh (blk HE.out kk); clear kk; try go_wp2_with fail
        refine hK.out _ _ ?_ (fun eh => ?_)
        ·exact ⟨hcell HC.out 0 rfl, hcell HC.out 1 rfl, hcell HQ.out.m 0 rfl, hcell HQ.out.m 1 rfl, hcell HQ.out.m 2 rfl, hcell HQ.out.m 3 rfl⟩
        clear hK K; try simp only [Act.put, sm]
        refine rdE rfl (fun K hK => ?_)
        have f0 := fz HE.out 0
        have f1 := fz HE.out 1
        have z0 := hcell HE.out 0 rfl
        have z1 := hcell HE.out 1 rfl
        clear eh; go_simp; try go_wp2_with fail
        refine hK.out _ _ ?_
        clear hK K f0 f1 z0 z1; try simp only [Act.put, sm]
        refine wpAnyL_done (by kernel_rfl) ?_ _
        have hs := heap_two HE.out (I6 ex) (I6 ey)
        have kk := hs.2
        have HS := oh hs.1
        have HQ9 := oh ((HQ.out.row kk (Nat.lt_of_lt_of_le HMX.out HED.out)).low)
        have HN9 := oh ((kk.block _ (lt_of_block HN.out) (by have := HED.out; have := HNL.out; simp; omega)).trans HN.out)
        have HC9 := oh ((kk.block _ (lt_of_block HC.out) (by have := HED.out; have := HCL.out; simp; omega)).trans HC.out)
        clear hs kk; go_wp2_with fail
        go_meet
        exact ⟨_, rfl, HQ9.out, HN9.out, HC9.out, HS.out, Nat.lt_of_lt_of_le HMX.out HED.out⟩
      ·clear eh; go_simp; have ka := (Kp.refl Y none).alloc (.cells #[I6 0, I6 0] 42)
       have HED : Hid (X3 ≤ Y.heap.size) := oh (by exact HQ.out.lo)
       replace HQ := oh (HQ.out.keep ka); replace HN := oh (blk HN.out ka); replace HC := oh (blk HC.out ka)
       have HE := oh (heap_alloc_new Y (.cells #[I6 0, I6 0] 42))
       clear ka; try go_wp2_with fail
       refine hK.out _ _ ?_ (fun eh => ?_)
       ·exact ⟨hcell HC.out 0 rfl, hcell HC.out 1 rfl, hcell HQ.out.m 0 rfl, hcell HQ.out.m 1 rfl, hcell HQ.out.m 2 rfl, hcell HQ.out.m 3 rfl⟩
       clear hK K; try simp only [Act.put, sm]
       generalize Y.alloc (.cells #[I6 0, I6 0] 42) = V6 at *
       refine rdL 4 rfl (fun K hK => ?_); clear eh; go_simp; refine (HAP.out _).mono ?_
       rintro E V7 ⟨rfl, kk⟩; replace HQ := oh (HQ.out.keep kk); replace HN := oh (blk HN.out kk); replace HC := oh (blk HC.out kk); replace HE := oh (blk HE.out kk); clear kk; try go_wp2_with fail
       refine hK.out _ _ ?_ (fun eh => ?_)
       ·exact ⟨hcell HC.out 0 rfl, hcell HC.out 1 rfl, hcell HQ.out.m 0 rfl, hcell HQ.out.m 1 rfl, hcell HQ.out.m 2 rfl, hcell HQ.out.m 3 rfl⟩
       clear hK K; try simp only [Act.put, sm]
       refine rdL 5 rfl (fun K hK => ?_); clear eh; go_simp; refine (HAD.out _).mono ?_
       rintro E V8 ⟨rfl, kk⟩; replace HQ := oh (HQ.out.keep kk); replace HN := oh (blk HN.out kk); replace HC := oh (blk HC.out kk); replace HE := oh (blk HE.out kk); clear kk; try go_wp2_with fail
       refine hK.out _ _ ?_ (fun eh => ?_)
       ·exact ⟨hcell HC.out 0 rfl, hcell HC.out 1 rfl, hcell HQ.out.m 0 rfl, hcell HQ.out.m 1 rfl, hcell HQ.out.m 2 rfl, hcell HQ.out.m 3 rfl⟩
       clear hK K; try simp only [Act.put, sm]
       refine rdE rfl (fun K hK => ?_)
       have f0 := fz HE.out 0
       have f1 := fz HE.out 1
       have z0 := hcell HE.out 0 rfl
       have z1 := hcell HE.out 1 rfl
       clear eh; go_simp; try go_wp2_with fail
       refine hK.out _ _ ?_
       clear hK K f0 f1 z0 z1; try simp only [Act.put, sm]
       refine wpAnyL_done (by kernel_rfl) ?_ _
       have hs := heap_two HE.out (I6 ex) (I6 ey)
       have kk := hs.2
       have HS := oh hs.1
       have HQ9 := oh ((HQ.out.row kk (Nat.lt_of_lt_of_le HMX.out HED.out)).low)
       have HN9 := oh ((kk.block _ (lt_of_block HN.out) (by have := HED.out; have := HNL.out; simp; omega)).trans HN.out)
       have HC9 := oh ((kk.block _ (lt_of_block HC.out) (by have := HED.out; have := HCL.out; simp; omega)).trans HC.out)
       clear hs kk; go_wp2_with fail
       go_meet
       exact ⟨_, rfl, HQ9.out, HN9.out, HC9.out, HS.out, Nat.lt_of_lt_of_le HMX.out HED.out⟩
     case rest =>
      obtain ⟨B3, rfl, hq, hn, hc, he, hed⟩ := hcut; clear HQ HMX HN HNL HC HCL; have HQ := oh hq; have HN := oh hn; have HC := oh hc; have HE := oh he; have HED := oh hed; clear hq hn hc he hed X3; go_upto_region 12 with fail
      have HQ := oh (HQ.out.keep (Kp.refl wc none).drew)
      have HN := oh (blk HN.out (Kp.refl wc none).drew)
      have HC := oh (blk HC.out (Kp.refl wc none).drew)
      have HE := oh (blk HE.out (Kp.refl wc none).drew)
      refine wp_region_last (fun V => V.cell? ⟨w.heap.size + 1 + 1, 1, none⟩ = some u ∧ V.cell? ⟨w.heap.size + 1 + 1 + 1, 0, none⟩ = some (I6 ax) ∧ V.cell? ⟨w.heap.size + 1 + 1 + 1, 1, none⟩ = some (I6 ay) ∧ V.cell? ⟨B1, 0, none⟩ = some (I6 nx) ∧ V.cell? ⟨B1, 1, none⟩ = some (I6 ny) ∧ V.cell? ⟨B2, 0, none⟩ = some (I6 cx) ∧ V.cell? ⟨B2, 1, none⟩ = some (I6 cy) ∧ V.cell? ⟨B3, 0, none⟩ = some (I6 ex) ∧ V.cell? ⟨B3, 1, none⟩ = some (I6 ey)) 12 (by kernel_rfl) ?_ (fun eh => ?_)
      ·exact ⟨HQ.out.bs.cell, hcell HQ.out.at_ 0 rfl, hcell HQ.out.at_ 1 rfl, hcell HN.out 0 rfl, hcell HN.out 1 rfl, hcell HC.out 0 rfl, hcell HC.out 1 rfl, hcell HE.out 0 rfl, hcell HE.out 1 rfl⟩
      generalize wc.drew = Y at *
      refine tjL 0 rfl ?_; refine tjL 1 rfl ?_; refine tjL 2 rfl ?_; refine tjL 3 rfl ?_; refine tjL 5 rfl ?_; refine tjL 6 rfl ?_; refine tjL 7 rfl ?_; refine tjL 8 rfl ?_; refine rdL 4 rfl (fun K hK => ?_); clear eh; go_simp
      refine (rline90_any ax ay nx ny _).mono ?_
      rintro E V1 ⟨rfl, kk⟩; have HQ1 := oh (HQ.out.keep kk); have HN1 := oh (blk HN.out kk); have HC1 := oh (blk HC.out kk); have HE1 := oh (blk HE.out kk); clear kk HQ HN HC HE; try go_wp2_with fail
      refine hK.out _ _ ?_ (fun eh => ?_)
      ·exact ⟨HQ1.out.bs.cell, hcell HQ1.out.at_ 0 rfl, hcell HQ1.out.at_ 1 rfl, hcell HN1.out 0 rfl, hcell HN1.out 1 rfl, hcell HC1.out 0 rfl, hcell HC1.out 1 rfl, hcell HE1.out 0 rfl, hcell HE1.out 1 rfl⟩
      clear hK K; try simp only [Act.put, sm]
      refine rdL 9 rfl (fun K hK => ?_); clear eh; go_simp; try go_wp2_with fail
      have ka := (Kp.refl V1 none).alloc (.cells #[I6 1, I6 ax, I6 ay, I6 nx, I6 ny, I6 0, I6 0, I6 2, I6 nx, I6 ny, I6 ex, I6 ey, I6 cx, I6 cy] 123)
      have HQ := oh (HQ1.out.keep ka); have HN := oh (blk HN1.out ka); have HC := oh (blk HC1.out ka); have HE := oh (blk HE1.out ka)
      have HLS : Hid (IsList 7 edC (V1.alloc (.cells #[I6 1, I6 ax, I6 ay, I6 nx, I6 ny, I6 0, I6 0, I6 2, I6 nx, I6 ny, I6 ex, I6 ey, I6 cx, I6 cy] 123)) (.slice (some ⟨V1.heap.size, 0, none⟩) 2 2) [(⟨1, ⟨ax, ay⟩, ⟨nx, ny⟩, ⟨0, 0⟩⟩ : Pl.Ed), (⟨2, ⟨nx, ny⟩, ⟨ex, ey⟩, ⟨cx, cy⟩⟩ : Pl.Ed)]) := oh (ed_list2 (w := V1) (⟨1, ⟨ax, ay⟩, ⟨nx, ny⟩, ⟨0, 0⟩⟩ : Pl.Ed) (⟨2, ⟨nx, ny⟩, ⟨ex, ey⟩, ⟨cx, cy⟩⟩ : Pl.Ed))
      refine hK.out _ _ ?_ (fun eh => ?_)
      ·exact ⟨HQ.out.bs.cell, hcell HQ.out.at_ 0 rfl, hcell HQ.out.at_ 1 rfl, hcell HN.out 0 rfl, hcell HN.out 1 rfl, hcell HC.out 0 rfl, hcell HC.out 1 rfl, hcell HE.out 0 rfl, hcell HE.out 1 rfl⟩
      clear hK K ka HQ1 HN1 HC1 HE1; try simp only [Act.put, sm]
      generalize V1.alloc (.cells #[I6 1, I6 ax, I6 ay, I6 nx, I6 ny, I6 0, I6 0, I6 2, I6 nx, I6 ny, I6 ex, I6 ey, I6 cx, I6 cy] 123) = Z at *
      refine rdL 10 rfl (fun K hK => ?_); clear eh; refine step_app (f := edC) rfl (.tmp 56) (.tmp 64) (w.heap.size + 1 + 1 + 1 + 1 + 1) 48 123 rfl i0 _ 7 56 Tryz.underlying48 hi hz0 hz1 hz2 rfl (by omega) (fun _ => rfl) ed_one u es.length _ rfl HQ.out.bs.2.2 _ [(⟨1, ⟨ax, ay⟩, ⟨nx, ny⟩, ⟨0, 0⟩⟩ : Pl.Ed), (⟨2, ⟨nx, ny⟩, ⟨ex, ey⟩, ⟨cx, cy⟩⟩ : Pl.Ed)] rfl HLS.out (by have := HLEN.out; unfold maxLen; simp; omega) (by have := HLEN.out; simp; omega) HQ.out.bs.2.1.2 ?_
      intro v3 w3 ho hg _; obtain ⟨ea3, ec3, rfl⟩ := own_slice ho
      have HO3 : Hid (w3.ownsRow (w.heap.size + 1 + 1 + 1 + 1 + 1) 123 7 (.slice ea3 (es.length + [(⟨1, ⟨ax, ay⟩, ⟨nx, ny⟩, ⟨0, 0⟩⟩ : Pl.Ed), (⟨2, ⟨nx, ny⟩, ⟨ex, ey⟩, ⟨cx, cy⟩⟩ : Pl.Ed)].length) ec3) (es ++ [(⟨1, ⟨ax, ay⟩, ⟨nx, ny⟩, ⟨0, 0⟩⟩ : Pl.Ed), (⟨2, ⟨nx, ny⟩, ⟨ex, ey⟩, ⟨cx, cy⟩⟩ : Pl.Ed)]).length ((es ++ [(⟨1, ⟨ax, ay⟩, ⟨nx, ny⟩, ⟨0, 0⟩⟩ : Pl.Ed), (⟨2, ⟨nx, ny⟩, ⟨ex, ey⟩, ⟨cx, cy⟩⟩ : Pl.Ed)]).flatMap edC)) := oh (by rw [List.length_append, List.flatMap_append]; exact ho)
      have HG3 := oh hg; have HU : Hid (∀ q, u.ownBlock = some q → w.heap.size + 1 + 1 + 1 + 1 + 1 ≤ q ∧ q < M) := oh (fun q hq => ⟨(HQ.out.bs.2.2.lt q hq).1, HQ.out.hu q hq⟩)
      have HQ0 : Hid (QR w wd ht k ax ay es u M 0 Z) := oh HQ.out.low
      have HAT3 := oh (res_kept HQ.out.at_ hg (fun q hq => by have := (HU.out q hq).1; omega))
      have HRZ3 := oh (res_kept HQ.out.rz hg (fun q hq => by have := (HU.out q hq).1; omega))
      have HSZ3 := oh (res_kept HQ.out.sz hg (fun q hq => by have := (HU.out q hq).1; omega))
      have HN3 := oh (res_kept HN.out hg (fun q hq => by have := (HU.out q hq).2; have := HND.out; omega))
      have HC3 := oh (res_kept HC.out hg (fun q hq => by have := (HU.out q hq).2; have := HCD.out; omega))
      have HE3 := oh (res_kept HE.out hg (fun q hq => by have := (HU.out q hq).2; have := HED.out; omega))
      have hA3 : Hid (w3.heap[w.heap.size + 1 + 1]? = _) := oh (HQ.out.bs.other HG3.out)
      clear ho hg; try simp only [Act.put, sm]
      refine hK _ _ ?_ (fun eh => ?_)
      ·exact ⟨hcell hA3.out 1 rfl, hcell HAT3.out 0 rfl, hcell HAT3.out 1 rfl, hcell HN3.out 0 rfl, hcell HN3.out 1 rfl, hcell HC3.out 0 rfl, hcell HC3.out 1 rfl, hcell HE3.out 0 rfl, hcell HE3.out 1 rfl⟩
      clear hK K; try simp only [Act.put, sm]
      refine tjL 11 rfl ?_; refine rdE rfl (fun K hK => ?_)
      have f3 := fz hA3.out 1
      have c3 : w3.cell? ⟨w.heap.size + 1 + 1, 1, none⟩ = some u := hcell hA3.out 1 rfl
      clear eh; go_simp; try go_wp2_with fail
      refine hK.out _ _ ?_
      clear hK K f3 c3; try simp only [Act.put, sm]
      refine wpAnyL_done (by kernel_rfl) ?_ _
      have HF : Hid (Bs (w.heap.size + 1 + 1) (w.heap.size + 1 + 1 + 1 + 1 + 1) 2 (es ++ [(⟨1, ⟨ax, ay⟩, ⟨nx, ny⟩, ⟨0, 0⟩⟩ : Pl.Ed), (⟨2, ⟨nx, ny⟩, ⟨ex, ey⟩, ⟨cx, cy⟩⟩ : Pl.Ed)]) 0 (.slice ea3 (es.length + [(⟨1, ⟨ax, ay⟩, ⟨nx, ny⟩, ⟨0, 0⟩⟩ : Pl.Ed), (⟨2, ⟨nx, ny⟩, ⟨ex, ey⟩, ⟨cx, cy⟩⟩ : Pl.Ed)].length) ec3) (w3.setCell ⟨w.heap.size + 1 + 1, 1, none⟩ (.slice ea3 (es.length + [(⟨1, ⟨ax, ay⟩, ⟨nx, ny⟩, ⟨0, 0⟩⟩ : Pl.Ed), (⟨2, ⟨nx, ny⟩, ⟨ex, ey⟩, ⟨cx, cy⟩⟩ : Pl.Ed)].length) ec3))) := oh (HQ.out.bs.put HG3.out HO3.out rfl rfl)
      have ks : Kp w3 (w3.setCell ⟨w.heap.size + 1 + 1, 1, none⟩ (.slice ea3 (es.length + [(⟨1, ⟨ax, ay⟩, ⟨nx, ny⟩, ⟨0, 0⟩⟩ : Pl.Ed), (⟨2, ⟨nx, ny⟩, ⟨ex, ey⟩, ⟨cx, cy⟩⟩ : Pl.Ed)].length) ec3)) (some (w.heap.size + 1 + 1)) := (Kp.refl w3 (some (w.heap.size + 1 + 1))).set _
      have HKF : Hid (Kp w (w3.setCell ⟨w.heap.size + 1 + 1, 1, none⟩ (.slice ea3 (es.length + [(⟨1, ⟨ax, ay⟩, ⟨nx, ny⟩, ⟨0, 0⟩⟩ : Pl.Ed), (⟨2, ⟨nx, ny⟩, ⟨ex, ey⟩, ⟨cx, cy⟩⟩ : Pl.Ed)].length) ec3)) none) := oh (HQ.out.bs.far HQ.out.kp (by omega) HG3.out)
      have HATF := oh (res_kept HAT3.out ks (by intro q hq; injection hq with hq; omega))
      have HRZF := oh (res_kept HRZ3.out ks (by intro q hq; injection hq with hq; omega))
      have HSZF := oh (res_kept HSZ3.out ks (by intro q hq; injection hq with hq; omega))
      have HEF := oh (res_kept HE3.out ks (by have h1 := HQ0.out.mm; have h2 := HED.out; intro q hq; injection hq with hq; omega))
      have HUF : Hid (∀ q, (Value.slice ea3 (es.length + [(⟨1, ⟨ax, ay⟩, ⟨nx, ny⟩, ⟨0, 0⟩⟩ : Pl.Ed), (⟨2, ⟨nx, ny⟩, ⟨ex, ey⟩, ⟨cx, cy⟩⟩ : Pl.Ed)].length) ec3).ownBlock = some q → w.heap.size + 1 + 1 + 1 + 1 + 1 ≤ q) := oh (fun q hq => (HO3.out.lt q hq).1)
      clear ks HQ HN HC HE HN3 HC3 HE3 HAT3 HRZ3 HSZ3 hA3 HLS HG3; have HO3 := oh HF.out.2.2
      generalize hes2 : es ++ [(⟨1, ⟨ax, ay⟩, ⟨nx, ny⟩, ⟨0, 0⟩⟩ : Pl.Ed), (⟨2, ⟨nx, ny⟩, ⟨ex, ey⟩, ⟨cx, cy⟩⟩ : Pl.Ed)] = es2 at *
      have HL2 : Hid (es2.length = 2 * (k + 1)) := oh (by rw [← hes2, List.length_append, HLEN.out]; simp; omega)
      generalize w3.setCell ⟨w.heap.size + 1 + 1, 1, none⟩ (.slice ea3 (es.length + [(⟨1, ⟨ax, ay⟩, ⟨nx, ny⟩, ⟨0, 0⟩⟩ : Pl.Ed), (⟨2, ⟨nx, ny⟩, ⟨ex, ey⟩, ⟨cx, cy⟩⟩ : Pl.Ed)].length) ec3) = wF at *
      have z0 := hcell HEF.out 0 rfl
      have z1 := hcell HEF.out 1 rfl
      have x0 := hcell HATF.out 0 rfl
      have x1 := hcell HATF.out 1 rfl
      have f0 := fz HATF.out 0
      have f1 := fz HATF.out 1
      clear hes2; go_wp2_with fail
      try rw [wrap_mid (n := (k : Int) + 1) (by omega) (by omega)]
      have hs := heap_two HATF.out (I6 ex) (I6 ey)
      have HREL : Hid (RdRel w wd ht (I6 ((k : Int) + 1)) ((wF.setCell ⟨w.heap.size + 1 + 1 + 1, 0, none⟩ (I6 ex)).setCell ⟨w.heap.size + 1 + 1 + 1, 1, none⟩ (I6 ey))) := oh ⟨k + 1, ex, ey, es2, _, by omega, by push_cast; rfl, HL2.out, by have h := HB3.out; unfold Box at h ⊢; push_cast; omega, Kp.of_own HKF.out hs.2 (by omega), res_kept HRZF.out hs.2 (by intro q hq; injection hq with hq; omega), res_kept HSZF.out hs.2 (by intro q hq; injection hq with hq; omega), hs.1, HF.out.keepFar hs.2 (by omega) (fun q hq => by have := HUF.out q hq; omega)⟩
      have HME : Hid (4 - (intOf (I6 ((k : Int) + 1))).toNat < 4 - (intOf (I6 (k : Int))).toNat) := oh (by simp [intOf]; omega)
      clear hs z0 z1 x0 x1 f0 f1
      first | exact ⟨HREL.out, HME.out⟩ | (go_roundw; all_goals first | exact HREL.out | exact HME.out)
  ·have hk4 : k = 4 := by omega
   subst hk4; obtain ⟨ao, cap, hu⟩ := HBS.out.slice; subst hu
   have a0 := hcell HBS.out.1 0 rfl
   have a1 := hcell HBS.out.1 1 rfl
   have a2 := hcell HBS.out.1 2 rfl
   have f0 := fz HRZ.out 0
   have f1 := fz HRZ.out 1
   have f2 := fz HRZ.out 2
   have z0 := hcell HRZ.out 0 rfl
   have z1 := hcell HRZ.out 1 rfl
   have z2 := hcell HRZ.out 2 rfl
   go_wp2_with fail
   have hs1 := heap_set (o := 2) (v := I6 0) (heap_set (o := 1) (v := .slice ao es.length cap) (heap_set (o := 0) (v := I6 2) HRZ.out))
   have HS : Hid ((((wr.setCell ⟨w.heap.size + 1, 0, none⟩ (I6 2)).setCell ⟨w.heap.size + 1, 1, none⟩ (.slice ao es.length cap)).setCell ⟨w.heap.size + 1, 2, none⟩ (I6 0)).heap[w.heap.size + 1]? = some (.cells #[I6 2, .slice ao es.length cap, I6 0] 50 (0, 0))) := oh hs1
   have HKF := oh (Kp.of_own HKP.out ((((Kp.refl wr (some (w.heap.size + 1))).set (o := 0) (I6 2)).set (o := 1) (.slice ao es.length cap)).set (o := 2) (I6 0)) (by omega))
   clear hs1 a0 a1 a2 f0 f1 f2 z0 z1 z2
   generalize ((wr.setCell ⟨w.heap.size + 1, 0, none⟩ (I6 2)).setCell ⟨w.heap.size + 1, 1, none⟩ (.slice ao es.length cap)).setCell ⟨w.heap.size + 1, 2, none⟩ (I6 0) = wf at *
   have q0 := hcell HS.out 0 rfl
   have q1 := hcell HS.out 1 rfl
   have q2 := hcell HS.out 2 rfl
   exact bodyPost_ret (v := .agg #[I6 2, .slice ao es.length cap, I6 0]) (by simp [results, Tryz.results89, go_sem, q0, q1, q2]) rfl ⟨ao, es.length, cap, rfl, HKF.out⟩
end Go.Proofs.YtljjbdbgedmadaaGreatDoor
