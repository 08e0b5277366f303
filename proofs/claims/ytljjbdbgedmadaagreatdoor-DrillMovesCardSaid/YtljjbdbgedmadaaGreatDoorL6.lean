/- The law DrillMoves, run. Condition: lists of numbers that a machine holds. -/
import Derived.Test.YtljjbdbgedmadaaGreatDoorMh
import Derived.Test.YtljjbdbgedmadaaGreatDoorIv
import Derived.Test.YtljjbdbgedmadaaGreatDoorSn
import Derived.Test.YtljjbdbgedmadaaGreatDoorSd
namespace Pl
theorem inv_apply (m : Mo) (p : Pt) : apply (inv m) (apply m p) = p := by
 obtain ⟨⟨ax, ay⟩, t, b⟩ := m
 obtain ⟨x, y⟩ := p
 have h4 : t % 4 = 0 ∨ t % 4 = 1 ∨ t % 4 = 2 ∨ t % 4 = 3 := by omega
 cases b <;> rcases h4 with h | h | h | h <;> simp [inv, apply, add, turn, h] <;> omega
theorem inv_moveE (m : Mo) (e : Ed) (h : e.k = 1 ∨ e.k = 2 ∨ e.k = 3) : moveE (inv m) (moveE m e) = e := by
 have hm : (inv m).mirror = m.mirror := by unfold inv; cases m.mirror <;> rfl
 obtain ⟨k, a, b, c⟩ := e
 dsimp only at h
 unfold moveE
 dsimp only
 rw [inv_apply, inv_apply, hm]
 rcases h with rfl | rfl | rfl <;> cases m.mirror <;> simp [other, inv_apply]
theorem inv_moveS (m : Mo) (s : Sh) (h : ∀ e ∈ s.es, e.k = 1 ∨ e.k = 2 ∨ e.k = 3) : moveS (inv m) (moveS m s) = s := by
 obtain ⟨k, es, r⟩ := s
 dsimp only at h
 unfold moveS
 dsimp only
 rw [List.map_map]
 have : es.map (moveE (inv m) ∘ moveE m) = es := by
  conv => rhs; rw [← List.map_id es]
  exact List.map_congr_left (fun e he => inv_moveE m e (h e he))
 rw [this]
end Pl
namespace Go.Proofs.YtljjbdbgedmadaaGreatDoor
open Go.RowKit

theorem LiesRows.kept {w w' : World} {ao : Option Addr} {cap : Nat} {rows : List (List Int)} (h : LiesRows w ao cap rows) (k : Kp w w' none) : LiesRows w' ao cap rows := fun i hi => by
 obtain ⟨b, off, ra, rc, e, h1, h2, h3, h4, h5, h6⟩ := h i hi
 exact ⟨b, off, ra, rc, e, h1, Nat.lt_of_lt_of_le h2 k.size, (k.below.cell (p := ⟨b, off + i, none⟩) h2).trans h3, h4.keep k, h5, h6⟩
theorem info44 : (Tryz.prog.info? 44).map (·.size) = some 4 := by kernel_rfl
theorem range4 {w : World} {b : Nat} {x y z u : Value} (h0 : w.cell? ⟨b, 0, none⟩ = some x) (h1 : w.cell? ⟨b, 1, none⟩ = some y) (h2 : w.cell? ⟨b, 2, none⟩ = some z) (h3 : w.cell? ⟨b, 3, none⟩ = some u) : w.rangeAt b 0 #[x, y, z, u].toList := fun j v hv => by
 match j, hv with
 | 0, hv => rw [← hv]; exact h0
 | 1, hv => rw [← hv]; exact h1
 | 2, hv => rw [← hv]; exact h2
 | 3, hv => rw [← hv]; exact h3
 | n + 4, hv => cases hv
theorem inv_moveH (m : Pl.Mo) (h : Dl.Ho) (he : ∀ e ∈ h.s.es, e.k = 1 ∨ e.k = 2 ∨ e.k = 3) : moveH (Pl.inv m) (moveH m h) = h := by
 unfold moveH
 dsimp only
 rw [Pl.inv_moveS m h.s he]
theorem inv_mid {m : Pl.Mo} (h : Pl.Lim 1000 m.at_) : Mid (Pl.inv m).at_.x ∧ Mid (Pl.inv m).at_.y := by
 obtain ⟨⟨x, y⟩, t, b⟩ := m
 unfold Pl.Lim at h
 dsimp only at h
 have q : ∀ t b, Mid (Pl.apply ⟨⟨0, 0⟩, t, b⟩ ⟨x, y⟩).x ∧ Mid (Pl.apply ⟨⟨0, 0⟩, t, b⟩ ⟨x, y⟩).y := fun t b => apply_mid _ _ (by unfold Mid; dsimp only; omega) (by unfold Mid; dsimp only; omega) rfl
 unfold Pl.inv
 cases b
 ·have := q ((4 - t % 4) % 4) false
  unfold Mid at *
  dsimp only
  simp only [Bool.false_eq_true, if_false]
  omega
 ·have := q (t % 4) true
  unfold Mid at *
  dsimp only
  simp only [if_true]
  omega
/-- A coordinate of some thousands. -/
def SmE (b : Int) (e : Pl.Ed) : Prop := (e.k = 1 ∨ e.k = 2 ∨ e.k = 3) ∧ Pl.Lim b e.a ∧ Pl.Lim b e.b ∧ Pl.Lim b e.c
theorem SmE.mid {b : Int} {e : Pl.Ed} (h : SmE b e) (hb : b ≤ 100000) : MidE e := by
 obtain ⟨h1, h2, h3, h4⟩ := h
 unfold Pl.Lim at h2 h3 h4
 exact ⟨h1, by unfold MidP Mid; omega, by unfold MidP Mid; omega, by unfold MidP Mid; omega⟩
theorem apply_lim {b : Int} {m : Pl.Mo} {p : Pl.Pt} (h : Pl.Lim b p) (hm : Pl.Lim 1000 m.at_) : Pl.Lim (b + 1000) (Pl.apply m p) := by
 obtain ⟨⟨ax, ay⟩, t, mb⟩ := m
 obtain ⟨x, y⟩ := p
 unfold Pl.Lim at *
 unfold Pl.apply Pl.add Pl.turn
 dsimp only at *
 have h4 : t % 4 = 0 ∨ t % 4 = 1 ∨ t % 4 = 2 ∨ t % 4 = 3 := by omega
 cases mb <;> rcases h4 with h' | h' | h' | h' <;> simp [h'] <;> omega
theorem moveE_lim {b : Int} {m : Pl.Mo} {e : Pl.Ed} (h : SmE b e) (hm : Pl.Lim 1000 m.at_) : SmE (b + 1000) (Pl.moveE m e) := by
 obtain ⟨h1, h2, h3, h4⟩ := h
 refine ⟨?_, apply_lim h2 hm, apply_lim h3 hm, ?_⟩
 ·unfold Pl.moveE Pl.other
  dsimp only
  rcases h1 with h | h | h <;> rw [h] <;> cases m.mirror <;> simp
 ·unfold Pl.moveE
  dsimp only
  split
  ·unfold Pl.Lim at h4 ⊢; omega
  ·exact apply_lim h4 hm
theorem fine_sm {h : Dl.Ho} (hf : FineH h) : (0 < h.s.es.length ∧ h.s.es.length ≤ 8) ∧ ∀ e ∈ h.s.es, SmE 1000 e := by
 obtain ⟨h1, h2, h3⟩ := hf
 obtain ⟨a1, a2, _⟩ := Dl.chkH_parts h1
 obtain ⟨b1, b2, _⟩ := Dl.chk_facts a1 a2
 exact ⟨⟨List.length_pos_iff.2 b1, h2⟩, fun e he => ⟨(chkE_zero (b2 e he)).1, h3 e he⟩⟩
theorem ed_off {w : World} {B : Nat} {ao : Option Addr} {cap : Nat} {es : List Pl.Ed} {a0 a1 a2 a3 : Value} (h : LiesAt 7 edC w ao cap es) (h0 : 0 < es.length) (hb : w.heap[B]? = some (.cells #[a0, a1, a2, a3] 44 (0, 0))) : ∀ p, ao = some p → p.block ≠ B := fun p hp e => by
 obtain ⟨b, off, rfl, _, _, hc⟩ := h 0 h0
 obtain rfl := Option.some.inj hp
 dsimp only at e
 subst e
 have h1 := hc 6 (by simp [edC])
 rw [Lib.cell_of_heap hb] at h1
 have h2 : off + 0 * 7 + 6 = off + 2 + 4 := by omega
 rw [h2] at h1
 simp at h1
theorem HolesAt.own_keep {w w' : World} {B : Nat} {ao : Option Addr} {cap : Nat} {ts : List HT} (h : HolesAt w ao cap ts) (k : Kp w w' (some B)) (hb : (∀ p, ao = some p → p.block ≠ B) ∧ ∀ t ∈ ts, ∀ p, t.ea = some p → p.block ≠ B) : HolesAt w' ao cap ts :=
 ⟨h.1.keepRow k hb.1, fun t ht => (h.2 t ht).keepRow k (hb.2 t ht)⟩
set_option maxHeartbeats 16000000 in
set_option maxRecDepth 100000 in
theorem moves_any (rows : List (List Int)) (n : Nat) (hn : rows.length = n) (ao : Option Addr) (cap : Nat) (mx my mt : Int) (mb : Bool) (w : World) (he : Env w) (hl : LiesRows w ao cap rows) : Calls Tryz.prog 6 #[.slice ao n cap, .agg #[.int .i64 mx, .int .i64 my, .int .i64 mt, .bool mb]] w fun E w' => E = .returned (.bool true) ∧ Kp w w' none := by
 have HEN : Hid (∀ V, Kp w V none → Env V) := Lib.hid fun V k => he.kp0 k
 have HSN : Hid (∀ V, Kp w V none → _) := Lib.hid (fun V k => sanity_any V (he.kp0 k))
 have HMD : Hid (∀ V, Kp w V none → Calls Tryz.prog 12 #[.slice ao n cap] V (DrewHs V)) := Lib.hid fun V k => made12_any rows n hn ao cap V (hl.kept k)
 obtain ⟨ax, hax⟩ : ∃ z, mx.tmod 1000 = z := ⟨_, rfl⟩
 obtain ⟨ay, hay⟩ : ∃ z, my.tmod 1000 = z := ⟨_, rfl⟩
 obtain ⟨t, ht⟩ : ∃ z, rem mt 4 = z := ⟨_, rfl⟩
 have HA : Hid (Pl.Lim 1000 ⟨ax, ay⟩) := Lib.hid (by have h1 := tmod_range mx 1000 (by omega); have h2 := tmod_range my 1000 (by omega); rw [hax] at h1; rw [hay] at h2; unfold Pl.Lim; dsimp only; omega)
 have HAM : Hid (Mid ax ∧ Mid ay) := Lib.hid (by have := HA.out; unfold Pl.Lim at this; unfold Mid; dsimp only at this; omega)
 have HMOD : Hid (∀ V, Calls Tryz.prog 18 #[.int .i64 mt, .int .i64 4] V fun E w' => E = .returned (.int .i64 t) ∧ Kp V w' none) := Lib.hid fun V => (mod_any mt 4 V (by omega) (by omega)).mono fun E w' h => ⟨by rw [h.1, ht], by rw [h.2]; exact Kp.refl V none⟩
 have HAX := Lib.hid hax
 have HAY := Lib.hid hay
 clear he hl hn hax hay ht
 go_enter Tryz.func6, Tryz.ntmps6
 go_wp2_with fail
 have HB := Lib.hid (heap_alloc_new w (Obj.cells #[.int .i64 mx, .int .i64 my, .int .i64 mt, .bool mb] 44))
 have K0 := Lib.hid ((Kp.refl w none).alloc (Obj.cells #[.int .i64 mx, .int .i64 my, .int .i64 mt, .bool mb] 44))
 refine (HSN.out _ K0.out).mono ?_
 rintro E w1 ⟨rfl, k1⟩
 have K1 := Lib.hid (K0.out.trans k1)
 have HB0 := Lib.hid (blk HB.out k1)
 clear k1 K0 HB
 go_wp2_with fail
 refine (HMD.out _ K1.out).mono ?_
 rintro E w2 ⟨ts, bo, cb, hfine, h6, rfl, hh, hfr1, hfr2, k2⟩
 have HQ := Lib.hid (K1.out.trans k2)
 have HB := Lib.hid (blk HB0.out k2)
 have HL := Lib.hid hh
 obtain ⟨q, hq⟩ : ∃ q, ts.length = q := ⟨_, rfl⟩
 rw [hq] at h6 hfr2
 rw [hq]
 have HN := Lib.hid hq
 have HFI : Hid (∀ z ∈ ts, (0 < z.h.s.es.length ∧ z.h.s.es.length ≤ 8) ∧ ∀ e ∈ z.h.s.es, SmE 1000 e) := Lib.hid (fun z hz => fine_sm (hfine z hz))
 have HLN : Hid ((∀ p, bo = some p → p.block ≠ w.heap.size) ∧ ∀ t ∈ ts, ∀ p, t.ea = some p → p.block ≠ w.heap.size) := Lib.hid ⟨fun p hp => by have h1 := hfr1 p hp; have h2 := K1.out.size; have h3 := lt_of_block HB0.out; omega, fun t ht => ed_off (hh.2 t ht) (HFI.out t ht).1.1 HB.out⟩
 have HCA := Lib.hid hfr2.1
 have K2V := Lib.hid (Kp.refl w2 none)
 clear hfine hh hfr1 hfr2 k2 hq K1 HSN HEN HMD HB0
 have hax := HAX.out
 have hay := HAY.out
 have hq0 : (0 : Int) ≤ (q : Int) := Int.natCast_nonneg _
 go_upto_region 3 with fail
 have K2Vn := Lib.hid (K2V.out.trans (Kp.refl w2 none).drew)
 clear K2V
 have K2V := K2Vn
 clear K2Vn
 have HBn := Lib.hid (blk HB.out (Kp.refl w2 none).drew)
 clear HB
 have HB := HBn
 clear HBn
 refine wp_region_last (fun V => V.cell? ⟨w.heap.size, 0, none⟩ = some (.int .i64 mx) ∧ V.cell? ⟨w.heap.size, 1, none⟩ = some (.int .i64 my) ∧ V.cell? ⟨w.heap.size, 2, none⟩ = some (.int .i64 mt) ∧ V.cell? ⟨w.heap.size, 3, none⟩ = some (.bool mb) ∧ True) 15 (by kernel_rfl) ?_ (fun hHeld => ?_)
 ·exact ⟨hcell HB.out 0 rfl, hcell HB.out 1 rfl, hcell HB.out 2 rfl, hcell HB.out 3 rfl, trivial⟩
 generalize w2.drew = V0 at *
 refine tkL 0 rfl ?_
 try simp only [Act.put, sm]
 refine tkL 1 rfl ?_
 try simp only [Act.put, sm]
 refine tkL 2 rfl ?_
 try simp only [Act.put, sm]
 refine tkL 3 rfl ?_
 try simp only [Act.put, sm]
 refine tkL 4 rfl ?_
 try simp only [Act.put, sm]
 refine tkL 5 rfl ?_
 try simp only [Act.put, sm]
 refine tkL 6 rfl ?_
 try simp only [Act.put, sm]
 refine tkL 7 rfl ?_
 try simp only [Act.put, sm]
 refine tkL 8 rfl ?_
 try simp only [Act.put, sm]
 refine tkL 9 rfl ?_
 try simp only [Act.put, sm]
 refine tkL 10 rfl ?_
 try simp only [Act.put, sm]
 refine tkL 12 rfl ?_
 try simp only [Act.put, sm]
 refine tkL 13 rfl ?_
 try simp only [Act.put, sm]
 refine wpAnyL_ready (rs := [11]) (by kernel_rfl) (by simp) ?_
 refine AllReadyL.cons (o := _) rfl (fun K hK => ?_) AllReadyL.nil
 clear hHeld
 go_simp
 refine (HMOD.out _).mono ?_
 rintro E V1 ⟨rfl, kk⟩
 have K2Vn := Lib.hid (K2V.out.trans kk)
 clear K2V
 have K2V := K2Vn
 clear K2Vn
 have HBn := Lib.hid (blk HB.out kk)
 clear HB
 have HB := HBn
 clear HBn
 clear kk
 try go_wp2_with fail
 refine hK.out _ _ ?_ (fun hHeld => ?_)
 ·exact ⟨hcell HB.out 0 rfl, hcell HB.out 1 rfl, hcell HB.out 2 rfl, hcell HB.out 3 rfl, trivial⟩
 clear hK K
 try simp only [Act.put, sm]
 refine tkL 14 rfl ?_
 try simp only [Act.put, sm]
 refine wpAnyL_ready (rs := [15]) (by kernel_rfl) (by simp) ?_
 refine AllReadyL.last (o := _) rfl (fun K hK => ?_)
 have f0 := Lib.frozen_of_heap HB.out 0
 have f1 := Lib.frozen_of_heap HB.out 1
 have f2 := Lib.frozen_of_heap HB.out 2
 have f3 := Lib.frozen_of_heap HB.out 3
 have c0 := hcell HB.out 0 rfl
 have c1 := hcell HB.out 1 rfl
 have c2 := hcell HB.out 2 rfl
 have c3 := hcell HB.out 3 rfl
 clear hHeld
 go_simp
 try go_wp2_with fail
 refine hK.out _ _ ?_
 clear hK K f0 f1 f2 f3 c0 c1 c2 c3
 try simp only [Act.put, sm]
 refine wpAnyL_done (by kernel_rfl) ?_ _
 have hst := store4 HB.out (.int .i64 ax) (.int .i64 ay) (.int .i64 t) (.bool mb)
 have HL3 := Lib.hid ((HL.out.keep K2V.out).own_keep hst.2 HLN.out)
 have HQ3 := Lib.hid ((HQ.out.trans K2V.out).of_own hst.2 (Nat.le_refl _))
 have HB3 := Lib.hid hst.1
 clear hst HB HL HQ K2V HLN hax hay
 generalize ((((V1.setCell ⟨w.heap.size, 0, none⟩ (.int .i64 ax)).setCell ⟨w.heap.size, 1, none⟩ (.int .i64 ay)).setCell ⟨w.heap.size, 2, none⟩ (.int .i64 t)).setCell ⟨w.heap.size, 3, none⟩ (.bool mb)) = w3 at *
 have b0 := hcell HB3.out 0 rfl
 have b1 := hcell HB3.out 1 rfl
 have b2 := hcell HB3.out 2 rfl
 have b3 := hcell HB3.out 3 rfl
 go_wp2_with fail
 refine (move19_any ts q HN.out bo cb ax ay t mb w3 HL3.out HAM.out (fun z hz => ⟨(HFI.out z hz).1.1, by have := (HFI.out z hz).1.2; omega, fun e he => ((HFI.out z hz).2 e he).mid (by omega)⟩) (by omega)).mono ?_
 rintro E w4 ⟨us, uo, uc, hus, rfl, hua, k4⟩
 have hul : us.length = q := by have h := congrArg List.length hus; rw [List.length_map, List.length_map, HN.out] at h; exact h
 rw [hul]
 have HU := Lib.hid hua
 have HOT := Lib.hid (HL3.out.keep k4)
 have K4 := Lib.hid (HQ3.out.trans k4)
 have HRM : Hid (∀ V, Kp w4 V none → V.rangeAt w.heap.size 0 #[.int .i64 ax, .int .i64 ay, .int .i64 t, .bool mb].toList) := Lib.hid (fun V k => by
  have h := blk HB3.out (k4.trans k)
  exact range4 (hcell h 0 rfl) (hcell h 1 rfl) (hcell h 2 rfl) (hcell h 3 rfl))
 have HMC : Hid (∀ V, Kp w4 V none → V.cell? ⟨w.heap.size, 0, none⟩ = some (.int .i64 ax) ∧ V.cell? ⟨w.heap.size, 1, none⟩ = some (.int .i64 ay) ∧ V.cell? ⟨w.heap.size, 2, none⟩ = some (.int .i64 t) ∧ V.cell? ⟨w.heap.size, 3, none⟩ = some (.bool mb)) := Lib.hid (fun V k => by
  have h := blk HB3.out (k4.trans k)
  exact ⟨hcell h 0 rfl, hcell h 1 rfl, hcell h 2 rfl, hcell h 3 rfl⟩)
 obtain ⟨⟨⟨ix, iy⟩, it, ib⟩, hinv⟩ : ∃ z, Pl.inv ⟨⟨ax, ay⟩, t, mb⟩ = z := ⟨_, rfl⟩
 have himid := inv_mid (m := ⟨⟨ax, ay⟩, t, mb⟩) HA.out
 have HINV : Hid (∀ V, Calls Tryz.prog 22 #[.agg #[.int .i64 ax, .int .i64 ay, .int .i64 t, .bool mb]] V fun E w' => E = .returned (.agg #[.int .i64 ix, .int .i64 iy, .int .i64 it, .bool ib]) ∧ Kp V w' none) := Lib.hid fun V => by
  have h := inverse_any ⟨⟨ax, ay⟩, t, mb⟩ V HAM.out.1 HAM.out.2
  rw [hinv] at h
  exact h
 rw [hinv] at himid
 have hsm : ∀ z ∈ us, (0 < z.h.s.es.length ∧ z.h.s.es.length ≤ 8) ∧ ∀ e ∈ z.h.s.es, SmE 2000 e := fun z hz => by
  have h1 : z.h ∈ us.map (·.h) := List.mem_map_of_mem hz
  rw [hus] at h1
  obtain ⟨x, hx, e1⟩ := List.mem_map.1 h1
  rw [← e1]
  have h2 := HFI.out x hx
  refine ⟨?_, fun e he => ?_⟩
  ·show (0 < (x.h.s.es.map _).length ∧ (x.h.s.es.map _).length ≤ 8)
   rw [List.length_map]
   exact h2.1
  ·obtain ⟨e0, he0, e2⟩ := List.mem_map.1 (show e ∈ x.h.s.es.map _ from he)
   rw [← e2]
   exact moveE_lim (h2.2 e0 he0) HA.out
 have HMV2 : Hid (∀ V, Kp w4 V none → Calls Tryz.prog 19 #[.slice uo q uc, .agg #[.int .i64 ix, .int .i64 iy, .int .i64 it, .bool ib]] V fun E w' => ∃ (vs : List HT) (vo : Option Addr) (vc : Nat), vs.map (·.h) = ts.map (·.h) ∧ E = .returned (.slice vo q vc) ∧ HolesAt w' vo vc vs ∧ Kp V w' none) := Lib.hid fun V k => by
  refine (move19_any us q hul uo uc ix iy it ib V (hua.keep k) himid (fun z hz => ⟨(hsm z hz).1.1, by have := (hsm z hz).1.2; omega, fun e he => ((hsm z hz).2 e he).mid (by omega)⟩) (by omega)).mono ?_
  rintro E w' ⟨vs, vo, vc, hvs, rfl, hva, kv⟩
  have hvl : vs.length = q := by have h := congrArg List.length hvs; rw [List.length_map, List.length_map, hul] at h; exact h
  refine ⟨vs, vo, vc, ?_, by rw [hvl], hva, kv⟩
  rw [hvs, ← hinv]
  have h1 : us.map (fun x => moveH (Pl.inv ⟨⟨ax, ay⟩, t, mb⟩) x.h) = (us.map (·.h)).map (moveH (Pl.inv ⟨⟨ax, ay⟩, t, mb⟩)) := by rw [List.map_map]; rfl
  rw [h1, hus, List.map_map]
  refine List.map_congr_left fun x hx => ?_
  exact inv_moveH _ x.h (fun e he => ((HFI.out x hx).2 e he).1)
 have HSH : Hid (∀ V vo vc (vs : List HT), Kp w4 V none → vs.map (·.h) = ts.map (·.h) → HolesAt V vo vc vs → Calls Tryz.prog 17 #[.slice vo q vc, .slice bo q cb] V fun E w' => E = .returned (.bool true) ∧ Kp V w' none) := Lib.hid fun V vo vc vs k hv hva => by
  have hvl : vs.length = q := by have h := congrArg List.length hv; rw [List.length_map, List.length_map, HN.out] at h; exact h
  have h := hsame_any vs ts q q hvl HN.out vo bo vc cb V hva (HOT.out.keep k) (fun z hz => by
   have h1 : z.h ∈ vs.map (·.h) := List.mem_map_of_mem hz
   rw [hv] at h1
   obtain ⟨x, hx, e1⟩ := List.mem_map.1 h1
   have := (HFI.out x hx).1.2
   rw [← e1]; omega) (fun z hz => by have := (HFI.out z hz).1.2; omega) (by omega) (by omega)
  rw [decide_eq_true hv] at h
  exact h
 have HUS := Lib.hid hus
 have HUL := Lib.hid hul
 have HUC : Hid (∀ k, k < q → q ≤ uc) := Lib.hid fun k hk => by
  obtain ⟨_, _, _, h, _⟩ := hua.ho (k := k) (by omega)
  omega
 clear hus hul hua k4 hinv himid hsm HB3 HL3 HQ3 b0 b1 b2 b3
 go_wp2_with fail
 go_loopw [37] (fun i wr => ∃ k : Nat, k ≤ q ∧ i = .int .i64 k ∧ Kp w4 wr none) (fun i _ => q - (intOf i).toNat)
 case atStart => exact ⟨0, Nat.zero_le _, rfl, Kp.refl _ _⟩
 case round =>
  obtain ⟨k, hk, rfl, hK⟩ := hrel
  have HK := Lib.hid hK
  clear hK
  have hk0 : (0 : Int) ≤ (k : Int) := Int.natCast_nonneg _
  by_cases hlt : k < q
  ·have hk1 : (k : Int) < (q : Int) := by omega
   have hcu : q ≤ uc := HUC.out k hlt
   have hct : q ≤ cb := HCA.out
   obtain ⟨b, off, rfl, hcx1, hbs1, hcx⟩ := HU.out.ho (k := k) (by have := HUL.out; omega)
   obtain ⟨b2, off2, rfl, hcy1, hbs2, hcy⟩ := HOT.out.ho (k := k) (by have := HN.out; omega)
   have hd : (us[k]'(by have := HUL.out; omega)).h = moveH ⟨⟨ax, ay⟩, t, mb⟩ (ts[k]'(by have := HN.out; omega)).h := by
    have h : (us.map (fun z : HT => z.h))[k]'(by rw [List.length_map]; have := HUL.out; omega) = (ts.map (fun z : HT => moveH ⟨⟨ax, ay⟩, t, mb⟩ z.h))[k]'(by rw [List.length_map]; have := HN.out; omega) := by
     have h1 := HUS.out
     simp only [h1]
    simpa using h
   have hx4 := HU.out.2 _ (List.getElem_mem (show k < us.length by have := HUL.out; omega))
   have hyf := HFI.out _ (List.getElem_mem (show k < ts.length by have := HN.out; omega))
   have hy4 := HOT.out.2 _ (List.getElem_mem (show k < ts.length by have := HN.out; omega))
   obtain ⟨x, hx⟩ : ∃ z, us[k]'(by have := HUL.out; omega) = z := ⟨_, rfl⟩
   obtain ⟨y, hy⟩ : ∃ z, ts[k]'(by have := HN.out; omega) = z := ⟨_, rfl⟩
   rw [hx] at hcx hd hx4
   rw [hy] at hcy hd hyf hy4
   obtain ⟨⟨⟨sk, ses, sr⟩, xf, xt, xp⟩, xa, xc⟩ := x
   obtain ⟨⟨⟨yk, yes, yr⟩, hf, ht, hp⟩, ya, yc⟩ := y
   dsimp only at hcx hcy hd hx4 hyf hy4
   have e1 : xf = hf := congrArg Dl.Ho.f hd
   have e2 : xt = ht := congrArg Dl.Ho.t hd
   have e3 : xp = hp := congrArg Dl.Ho.pl hd
   have e4 : (⟨sk, ses, sr⟩ : Pl.Sh) = Pl.moveS ⟨⟨ax, ay⟩, t, mb⟩ ⟨yk, yes, yr⟩ := congrArg Dl.Ho.s hd
   subst e1
   subst e2
   subst e3
   obtain ⟨sn, hsn⟩ : ∃ z, ses.length = z := ⟨_, rfl⟩
   obtain ⟨yn, hyn⟩ : ∃ z, yes.length = z := ⟨_, rfl⟩
   have hss : sn = yn := by
    have h := congrArg (fun s : Pl.Sh => s.es.length) e4
    have h2 : ses.length = (yes.map (Pl.moveE ⟨⟨ax, ay⟩, t, mb⟩)).length := h
    rw [List.length_map] at h2
    omega
   rw [hsn] at hcx
   rw [hyn] at hcy hyf
   have HCX := Lib.hid hcx
   have HCY := Lib.hid hcy
   have HMS : Hid (∀ V, Kp w4 V none → Calls Tryz.prog 21 #[.agg #[.int .i64 yk, .slice ya yn yc, .int .i64 yr], .agg #[.int .i64 ax, .int .i64 ay, .int .i64 t, .bool mb]] V (fun E w' => ∃ (ez : Option Addr) (cz : Nat), E = .returned (.agg #[.int .i64 sk, .slice ez sn cz, .int .i64 sr]) ∧ LiesAt 7 edC w' ez cz ses ∧ True ∧ Kp V w' none)) := Lib.hid (fun V kv => by
    have h := smove_any yk yr ax ay t mb yes yn hyn ya yc V (hy4.keep kv) hyf.1.1 (by have := hyf.1.2; omega) (fun e he => (hyf.2 e he).mid (by omega)) HAM.out
    rw [← e4] at h
    refine h.mono ?_
    rintro E w' ⟨ez, cz, rfl, hl, _, kk⟩
    refine ⟨ez, cz, ?_, hl, trivial, kk⟩
    show Ending.returned (.agg #[.int .i64 sk, .slice ez ses.length cz, .int .i64 sr]) = _
    rw [hsn])
   have HSS : Hid (∀ V ez cz, Kp w4 V none → LiesAt 7 edC V ez cz ses → Calls Tryz.prog 20 #[.agg #[.int .i64 sk, .slice xa sn xc, .int .i64 sr], .agg #[.int .i64 sk, .slice ez sn cz, .int .i64 sr]] V fun E w' => E = .returned (.bool true) ∧ Kp V w' none) := Lib.hid (fun V ez cz kv hl => by
    have h := ssame_any sk sr sk sr ses ses sn sn hsn hsn xa ez xc cz V (hx4.keep kv) hl (by omega) (by omega)
    rw [decide_eq_true rfl] at h
    exact h)
   have HRX : Hid (∀ V, Kp w4 V none → V.rangeAt b (off + k * 6) #[.int .i64 sk, .slice xa sn xc, .int .i64 sr].toList) := Lib.hid fun V kv => range3 (HCX.out V kv).1 (HCX.out V kv).2.1 (HCX.out V kv).2.2.1
   have HRY : Hid (∀ V, Kp w4 V none → V.rangeAt b2 (off2 + k * 6) #[.int .i64 yk, .slice ya yn yc, .int .i64 yr].toList) := Lib.hid fun V kv => range3 (HCY.out V kv).1 (HCY.out V kv).2.1 (HCY.out V kv).2.2.1
   have hq6 : (q : Int) ≤ 6 := by omega
   clear hcx hcy hd hx4 hyf hy4 hx hy e4 hsn hyn hss hcx1 hcy1 hbs1 hbs2
   go_wp2_with fail
   refine wp_region_held_drew (S := fun V => V.cell? ⟨b, off + k * 6 + 3, none⟩ = some (.int .i64 xf) ∧ V.cell? ⟨b, off + k * 6 + 4, none⟩ = some (.int .i64 xt) ∧ V.cell? ⟨b, off + k * 6 + 5, none⟩ = some (.bool xp) ∧ V.cell? ⟨b2, off2 + k * 6 + 3, none⟩ = some (.int .i64 xf) ∧ V.cell? ⟨b2, off2 + k * 6 + 4, none⟩ = some (.int .i64 xt) ∧ V.cell? ⟨b2, off2 + k * 6 + 5, none⟩ = some (.bool xp) ∧ V.rangeAt b (off + k * 6) #[.int .i64 sk, .slice xa sn xc, .int .i64 sr].toList ∧ V.rangeAt b2 (off2 + k * 6) #[.int .i64 yk, .slice ya yn yc, .int .i64 yr].toList ∧ V.rangeAt w.heap.size 0 #[.int .i64 ax, .int .i64 ay, .int .i64 t, .bool mb].toList ∧ Hid (Kp w4 V none)) (by kernel_rfl) (⟨(HCX.out _ HK.out.drew).2.2.2.1, (HCX.out _ HK.out.drew).2.2.2.2.1, (HCX.out _ HK.out.drew).2.2.2.2.2, (HCY.out _ HK.out.drew).2.2.2.1, (HCY.out _ HK.out.drew).2.2.2.2.1, (HCY.out _ HK.out.drew).2.2.2.2.2, HRX.out _ HK.out.drew, HRY.out _ HK.out.drew, HRM.out _ HK.out.drew, Lib.hid HK.out.drew⟩) (fun hHeld => ?_)
   refine tkH 0 rfl ?_
   try simp only [Act.put, sm]
   refine tkH 1 rfl ?_
   try simp only [Act.put, sm]
   refine tkH 5 rfl ?_
   try simp only [Act.put, sm]
   refine tkH 6 rfl ?_
   try simp only [Act.put, sm]
   refine wpAnyH_take (i := 10) rfl (by kernel_rfl) (by kernel_rfl) (by kernel_rfl) (fun _ _ _ h => h) (yieldsIf_load_mid (by rfl) _ _ rfl w.heap.size 0 rfl #[.int .i64 ax, .int .i64 ay, .int .i64 t, .bool mb].toList _ (fun _ h => h.2.2.2.2.2.2.2.2.1) Tryz.underlying44 rfl info44) (by assumption) ?_
   try simp only [Act.put, sm]
   refine tkH 2 rfl ?_
   try simp only [Act.put, sm]
   refine tkH 7 rfl ?_
   try simp only [Act.put, sm]
   refine tkH 3 rfl ?_
   try simp only [Act.put, sm]
   refine tkH 8 rfl ?_
   try simp only [Act.put, sm]
   refine wpAnyH_take (i := 4) rfl (by kernel_rfl) (by kernel_rfl) (by kernel_rfl) (fun _ _ _ h => h) (yieldsIf_load_mid (by rfl) _ _ rfl b (off + k * 6) rfl #[.int .i64 sk, .slice xa sn xc, .int .i64 sr].toList _ (fun _ h => h.2.2.2.2.2.2.1) Tryz.underlying50 rfl info50) (by assumption) ?_
   try simp only [Act.put, sm]
   refine wpAnyH_take (i := 9) rfl (by kernel_rfl) (by kernel_rfl) (by kernel_rfl) (fun _ _ _ h => h) (yieldsIf_load_mid (by rfl) _ _ rfl b2 (off2 + k * 6) rfl #[.int .i64 yk, .slice ya yn yc, .int .i64 yr].toList _ (fun _ h => h.2.2.2.2.2.2.2.1) Tryz.underlying50 rfl info50) (by assumption) ?_
   try simp only [Act.put, sm]
   refine wpAnyH_ready (rs := [11]) (by kernel_rfl) (by simp) ?_
   refine AllReadyH.cons (o := _) rfl (fun K hK => ?_) AllReadyH.nil
   have gK := hHeld.2.2.2.2.2.2.2.2.2
   clear hHeld
   go_simp
   refine (HMS.out _ gK.out).mono ?_
   rintro e V1 ⟨ez, cz, rfl, hlz, _, kk⟩
   have HLZ := Lib.hid hlz
   clear hlz
   try go_wp2_with fail
   refine hK.out _ _ (⟨(HCX.out _ (gK.out.trans kk)).2.2.2.1, (HCX.out _ (gK.out.trans kk)).2.2.2.2.1, (HCX.out _ (gK.out.trans kk)).2.2.2.2.2, (HCY.out _ (gK.out.trans kk)).2.2.2.1, (HCY.out _ (gK.out.trans kk)).2.2.2.2.1, (HCY.out _ (gK.out.trans kk)).2.2.2.2.2, HRX.out _ (gK.out.trans kk), HRY.out _ (gK.out.trans kk), HRM.out _ (gK.out.trans kk), Lib.hid (gK.out.trans kk)⟩) (fun hHeld => ?_)
   clear hK K gK kk
   try simp only [Act.put, sm]
   refine wpAnyH_ready (rs := [12]) (by kernel_rfl) (by simp) ?_
   refine AllReadyH.cons (o := _) rfl (fun K hK => ?_) AllReadyH.nil
   have gK := hHeld.2.2.2.2.2.2.2.2.2
   clear hHeld
   go_simp
   refine (HSS.out _ ez cz gK.out HLZ.out).mono ?_
   rintro e V2 ⟨rfl, kk⟩
   try go_wp2_with fail
   refine hK.out _ _ (⟨(HCX.out _ (gK.out.trans kk)).2.2.2.1, (HCX.out _ (gK.out.trans kk)).2.2.2.2.1, (HCX.out _ (gK.out.trans kk)).2.2.2.2.2, (HCY.out _ (gK.out.trans kk)).2.2.2.1, (HCY.out _ (gK.out.trans kk)).2.2.2.2.1, (HCY.out _ (gK.out.trans kk)).2.2.2.2.2, HRX.out _ (gK.out.trans kk), HRY.out _ (gK.out.trans kk), HRM.out _ (gK.out.trans kk), Lib.hid (gK.out.trans kk)⟩) (fun hHeld => ?_)
   clear hK K gK kk
   try simp only [Act.put, sm]
   refine tkH 13 rfl ?_
   try simp only [Act.put, sm]
   refine tkH 14 rfl ?_
   try simp only [Act.put, sm]
   refine tkH 15 rfl ?_
   try simp only [Act.put, sm]
   refine tkH 16 rfl ?_
   try simp only [Act.put, sm]
   refine tkH 20 rfl ?_
   try simp only [Act.put, sm]
   refine tkH 21 rfl ?_
   try simp only [Act.put, sm]
   refine tkH 17 rfl ?_
   try simp only [Act.put, sm]
   refine tkH 22 rfl ?_
   try simp only [Act.put, sm]
   refine tkH 18 rfl ?_
   try simp only [Act.put, sm]
   refine tkH 23 rfl ?_
   try simp only [Act.put, sm]
   refine tkH 19 rfl ?_
   try simp only [Act.put, sm]
   refine tkH 24 rfl ?_
   try simp only [Act.put, sm]
   refine tkH 25 rfl ?_
   try simp only [Act.put, sm]
   refine tkH 26 rfl ?_
   try simp only [Act.put, sm]
   refine tkH 27 rfl ?_
   try simp only [Act.put, sm]
   refine tkH 28 rfl ?_
   try simp only [Act.put, sm]
   refine tkH 29 rfl ?_
   try simp only [Act.put, sm]
   refine tkH 33 rfl ?_
   try simp only [Act.put, sm]
   refine tkH 34 rfl ?_
   try simp only [Act.put, sm]
   refine tkH 30 rfl ?_
   try simp only [Act.put, sm]
   refine tkH 35 rfl ?_
   try simp only [Act.put, sm]
   refine tkH 31 rfl ?_
   try simp only [Act.put, sm]
   refine tkH 36 rfl ?_
   try simp only [Act.put, sm]
   refine tkH 32 rfl ?_
   try simp only [Act.put, sm]
   refine tkH 37 rfl ?_
   try simp only [Act.put, sm]
   refine tkH 38 rfl ?_
   try simp only [Act.put, sm]
   refine tkH 39 rfl ?_
   try simp only [Act.put, sm]
   refine tkH 40 rfl ?_
   try simp only [Act.put, sm]
   refine tkH 41 rfl ?_
   try simp only [Act.put, sm]
   refine tkH 42 rfl ?_
   try simp only [Act.put, sm]
   refine tkH 46 rfl ?_
   try simp only [Act.put, sm]
   refine tkH 47 rfl ?_
   try simp only [Act.put, sm]
   refine tkH 43 rfl ?_
   try simp only [Act.put, sm]
   refine tkH 48 rfl ?_
   try simp only [Act.put, sm]
   refine tkH 44 rfl ?_
   try simp only [Act.put, sm]
   refine tkH 49 rfl ?_
   try simp only [Act.put, sm]
   refine tkH 45 rfl ?_
   try simp only [Act.put, sm]
   refine tkH 50 rfl ?_
   try simp only [Act.put, sm]
   refine tkH 51 rfl ?_
   try simp only [Act.put, sm]
   refine tkH 52 rfl ?_
   try simp only [Act.put, sm]
   refine wpAnyH_done (by kernel_rfl) ?_ _
   have K3 := Lib.hid hHeld.2.2.2.2.2.2.2.2.2.out
   clear hHeld
   go_wp2_with fail
   try rw [wrap_mid (n := (k : Int) + 1) (by omega) (by omega)]
   first | exact ⟨⟨k + 1, hlt, by go_num, K3.out⟩, by simp [intOf]; omega⟩ | (go_roundw; all_goals first | exact ⟨k + 1, hlt, by go_num, K3.out⟩ | (simp [intOf]; omega))
  ·have hkq : k = q := by omega
   subst hkq
   have m0 := (HMC.out _ HK.out).1
   have m1 := (HMC.out _ HK.out).2.1
   have m2 := (HMC.out _ HK.out).2.2.1
   have m3 := (HMC.out _ HK.out).2.2.2
   go_wp2_with fail
   refine (HINV.out _).mono ?_
   rintro E w5 ⟨rfl, k5⟩
   have K5 := Lib.hid (HK.out.trans k5)
   clear k5 m0 m1 m2 m3
   go_wp2_with fail
   refine (HMV2.out _ K5.out).mono ?_
   rintro E w6 ⟨vs, vo, vc, hvs, rfl, hva, k6⟩
   have K6 := Lib.hid (K5.out.trans k6)
   have HVS := Lib.hid hvs
   have HVA := Lib.hid hva
   clear k6 hvs hva
   go_wp2_with fail
   refine (HSH.out _ vo vc vs K6.out HVS.out HVA.out).mono ?_
   rintro E w7 ⟨rfl, k7⟩
   have K7 := Lib.hid (K4.out.trans (K6.out.trans k7))
   clear k7
   go_wp2_with fail
   go_ret
   exact ⟨rfl, K7.out⟩
end Go.Proofs.YtljjbdbgedmadaaGreatDoor
