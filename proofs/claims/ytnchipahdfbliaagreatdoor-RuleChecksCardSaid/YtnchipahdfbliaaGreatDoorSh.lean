/- The sizes of conditions, by the reference. Condition: at most 10^12 of them. -/
import Derived.Test.YtnchipahdfbliaaGreatDoorTx
namespace Go.Proofs.YtnchipahdfbliaaGreatDoor
open Go.RowKit

theorem range_a {w : World} {b : Nat} {T : TypeId} {c0 c1 c2 c3 c4 c5 c6 c7 c8 c9 c10 c11 c12 c13 c14 c15 c16 c17 c18 c19 : Value} (h : w.heap[b]? = some (.cells #[c0, c1, c2, c3, c4, c5, c6, c7, c8, c9, c10, c11, c12, c13, c14, c15, c16, c17, c18, c19] T (0, 0))) : w.rangeAt b 3 #[c3, c4, c5, c6, c7, c8, c9, c10].toList ∧ w.rangeAt b 11 #[c11, c12, c13, c14, c15, c16, c17, c18].toList := by
 constructor
 all_goals
  intro j v hv
  have hj : j < 8 := by have := (List.getElem?_eq_some_iff.1 hv).1; simpa using this
  have h8 : j = 0 ∨ j = 1 ∨ j = 2 ∨ j = 3 ∨ j = 4 ∨ j = 5 ∨ j = 6 ∨ j = 7 := by omega
  rcases h8 with rfl | rfl | rfl | rfl | rfl | rfl | rfl | rfl <;> exact hcell h _ (by simpa using hv)

def SizeR (c : Ru.Cond) : Prop := ∀ (w : World) (v : Value), Tree w c v → Calls Tryz.prog 30 #[cA c v] w fun e w' => e = .returned (.int .i64 (Ru.size c)) ∧ Kp w w' none
set_option maxHeartbeats 4000000 in
set_option maxRecDepth 100000 in
theorem sizeR_walk (c : Ru.Cond) (ps : List (Ru.Cond × Value)) (ao : Option Addr) (ca n : Nat) (w : World) (hn : ps.length = n) (hl : LiesAt 8 cC w ao ca ps) (ht : ∀ p ∈ ps, Tree w p.1 p.2) (hr : ∀ p ∈ ps, SizeR p.1) (S : Nat) (hS : Ru.sizes (ps.map (·.1)) + 1 = S) (hm : S ≤ 1000000000000) :
  Calls Tryz.prog 30 #[.agg #[.int .i64 c.op, str c.text, .int .i64 c.n, .int .i64 c.box.x0, .int .i64 c.box.y0, .int .i64 c.box.x1, .int .i64 c.box.y1, .slice ao n ca]] w fun e w' => e = .returned (.int .i64 (S : Int)) ∧ Kp w w' none := by
 have HL := Lib.hid hl; have HT := Lib.hid ht; have HR := Lib.hid hr; have HS := Lib.hid hS; have HN := Lib.hid hn
 have hlen : n ≤ 1000000000000 := by have := sizes_len (ps.map (·.1)); simp at this; omega
 have K1 : Hid (Kp w (w.alloc (.cells #[.int .i64 c.op, str c.text, .int .i64 c.n, .int .i64 c.box.x0, .int .i64 c.box.y0, .int .i64 c.box.x1, .int .i64 c.box.y1, .slice ao n ca] 40)) none) := Lib.hid ((Kp.refl _ _).alloc _)
 have HB := Lib.hid (heap_alloc_new w (.cells #[.int .i64 c.op, str c.text, .int .i64 c.n, .int .i64 c.box.x0, .int .i64 c.box.y0, .int .i64 c.box.x1, .int .i64 c.box.y1, .slice ao n ca] 40))
 have hn0 : (0 : Int) ≤ (n : Int) := by omega
 clear hl ht hr hS hn
 go_enter Tryz.func30, Tryz.ntmps30
 go_wp2_with fail
 generalize hW : w.alloc (.cells #[.int .i64 c.op, str c.text, .int .i64 c.n, .int .i64 c.box.x0, .int .i64 c.box.y0, .int .i64 c.box.x1, .int .i64 c.box.y1, .slice ao n ca] 40) = W0 at *
 clear hW
 go_loopw [3, 4] (fun m i wr => ∃ k : Nat, k ≤ n ∧ i = .int .i64 (k : Int) ∧ (∃ z : Nat, Hid (Ru.sizes ((ps.take k).map (·.1)) + 1 = z) ∧ m = .int .i64 (z : Int)) ∧ Hid (Kp W0 wr none)) (fun _ i _ => n - (intOf i).toNat)
 case atStart => exact ⟨0, Nat.zero_le _, rfl, ⟨1, Lib.hid (by simp [Ru.sizes]), rfl⟩, Lib.hid (Kp.refl _ _)⟩
 case round =>
  obtain ⟨k, hk, rfl, ⟨z, HZ, rfl⟩, HK⟩ := hrel
  have hk0 : (0 : Int) ≤ (k : Int) := by omega
  have hc7 : wr.cell? ⟨w.heap.size, 7, none⟩ = some (.slice ao n ca) := ckr HB.out HK.out (by simp) 7 rfl
  have hle := sizes_le_all (ps := ps) k
  have hzb : z ≤ 1000000000000 := by have := HS.out; have := HZ.out; omega
  by_cases hlt : k < n
  ·have hk1 : (k : Int) < (n : Int) := by omega
   have h1 : k < ps.length := by rw [HN.out]; exact hlt
   obtain ⟨q, hq⟩ : ∃ q, ps[k] = q := ⟨_, rfl⟩
   have hmem : q ∈ ps := by rw [← hq]; exact List.getElem_mem h1
   have hst := sizes_take h1
   have hle2 := sizes_le_all (ps := ps) (k + 1)
   rw [hq] at hst
   obtain ⟨y, hy⟩ : ∃ y, Ru.size q.1 = y := ⟨_, rfl⟩
   rw [hy] at hst
   have hzy : z + y ≤ 1000000000000 := by have := HS.out; have := HZ.out; omega
   have HZ2 : Hid (Ru.sizes ((ps.take (k + 1)).map (·.1)) + 1 = z + y) := Lib.hid (by have := HZ.out; omega)
   obtain ⟨a3, m3, p3, hq2⟩ := (HT.out q hmem).slice
   obtain ⟨b, off, hao, hbl, hrg⟩ := HL.out.range k h1 hq
   have hXE : cC q = #[.int .i64 q.1.op, str q.1.text, .int .i64 q.1.n, .int .i64 q.1.box.x0, .int .i64 q.1.box.y0, .int .i64 q.1.box.x1, .int .i64 q.1.box.y1, .slice a3 m3 p3].toList := by unfold cC; rw [hq2]
   rw [hXE] at hrg
   subst hao
   have HRG : Hid (wr.rangeAt b (off + k * 8) #[.int .i64 q.1.op, str q.1.text, .int .i64 q.1.n, .int .i64 q.1.box.x0, .int .i64 q.1.box.y0, .int .i64 q.1.box.x1, .int .i64 q.1.box.y1, .slice a3 m3 p3].toList) := Lib.hid (fun j v hv => by rw [(K1.out.trans HK.out).below.cell (p := ⟨b, off + k * 8 + j, none⟩) hbl]; exact hrg j v hv)
   have A : Calls Tryz.prog 30 #[.agg #[.int .i64 q.1.op, str q.1.text, .int .i64 q.1.n, .int .i64 q.1.box.x0, .int .i64 q.1.box.y0, .int .i64 q.1.box.x1, .int .i64 q.1.box.y1, .slice a3 m3 p3]] wr fun e w' => e = .returned (.int .i64 (y : Int)) ∧ Kp wr w' none := by
    have h := HR.out q hmem wr q.2 ((HT.out q hmem).keep (K1.out.trans HK.out))
    rw [hy, hq2] at h
    exact h
   clear hq hmem hst hle hle2 hy hq2 hrg hXE h1 hbl
   go_wp2_with (first | (refine wpList_load_mid (by rfl) 40 _ (by rfl) b (off + k * 8) (by rfl) #[.int .i64 q.1.op, str q.1.text, .int .i64 q.1.n, .int .i64 q.1.box.x0, .int .i64 q.1.box.y0, .int .i64 q.1.box.x1, .int .i64 q.1.box.y1, .slice a3 m3 p3].toList _ HRG.out Tryz.underlying40 (by rfl) info40s ?_) | (go_at_call 30; refine A.mono ?_; clear A; rintro e w2 ⟨rfl, hk2⟩))
   go_roundw
   case rel => exact ⟨k + 1, hlt, by go_num, ⟨z + y, HZ2, by go_num⟩, Lib.hid (HK.out.trans hk2)⟩
   case measure => simp [intOf]; omega
  ·obtain rfl : k = n := by omega
   have hall : z = S := by
    have h := HZ.out
    rw [List.take_of_length_le (by rw [HN.out]; exact Nat.le_refl _), HS.out] at h
    exact h.symm
   subst hall
   go_wp2_with fail
   go_ret
   exact ⟨rfl, K1.out.trans HK.out⟩
theorem sizeR_any (c : Ru.Cond) : Ru.size c ≤ 1000000000000 → SizeR c := by
 refine Ru.Cond.ind (P := fun c => Ru.size c ≤ 1000000000000 → SizeR c) (fun op t n b l ih hs w v hv => ?_) c
 generalize hc : Ru.Cond.mk op t n b l = c at hs hv
 obtain ⟨ps, f1, g1, t1⟩ := hv.open
 obtain ⟨ao, ca, e1, l1⟩ := g1.form
 subst e1
 have e2 : Ru.size c = Ru.sizes (ps.map (·.1)) + 1 := by rw [← f1, ← hc, Ru.size_mk]; rfl
 rw [e2]
 refine sizeR_walk c ps ao ca ps.length w rfl l1 t1 (fun p hp => ?_) _ rfl (by omega)
 have hm : p.1 ∈ c.l := by rw [f1]; exact List.mem_map.2 ⟨p, hp, rfl⟩
 have hm2 : p.1 ∈ l := by rw [← hc] at hm; exact hm
 have hsz := Ru.size_le hm2
 exact ih p.1 hm2 (by rw [← hc, Ru.size_mk] at hs; omega)
end Go.Proofs.YtnchipahdfbliaaGreatDoor
