/- Rules in memory: their cells; whether a name stood before. Conditions: lists of at most 10^12 rules. -/
import Derived.Test.YtnchipahdfbliaaGreatDoorSz
import Derived.Deep.MidRow
import Derived.Deep.WholeRow
namespace Go.Proofs.YtnchipahdfbliaaGreatDoor
open Go.RowKit

theorem LiesAt.range {α : Type} {m : Nat} {f : α → List Value} {w : World} {ao : Option Addr} {cap : Nat} {xs : List α} (h : LiesAt m f w ao cap xs) (k : Nat) (hk : k < xs.length) {p : α} (hp : xs[k] = p) : ∃ b off, ao = some ⟨b, off, none⟩ ∧ b < w.heap.size ∧ w.rangeAt b (off + k * m) (f p) := by
  obtain ⟨b, off, e, hb, _, hr⟩ := h k hk
  subst hp
  refine ⟨b, off, e, hb, fun j v hv => ?_⟩
  obtain ⟨hj, rfl⟩ := List.getElem?_eq_some_iff.1 hv
  exact hr j hj
theorem info42 : (Tryz.prog.info? 42).map (·.size) = some 20 := by kernel_rfl
/-- A whole struct stored into the block that was made last. -/
theorem wpList_store_new {P : Program} {ops : Array Oper} {rest : List Oper} {op : Oper} {a : Act} {w : World} {Q : Exit → Act → World → Prop} (hgd : op.guard = none) (ty : TypeId) (x y : Operand) (ho : op.op = .store ty x y)
    (c c' : Array Value) (t : TypeId) (hx : a.eval x = .pointer (some ⟨w.heap.size, 0, none⟩)) (hy : a.eval y = .agg c') (ht : ty = t) (hi : (P.info? ty).map (·.size) = some c'.size) (hs : c.size = c'.size) (h1 : ∀ v ∈ c'.toList, v.oneCell' = true)
    (h : wpList P ops Q rest (a.put op.dst undef) (w.alloc (.cells c' t))) : wpList P ops Q (op :: rest) a (w.alloc (.cells c t)) := by
  subst ht
  refine wpList_plain hgd fun K hK => ?_
  unfold Oper.wp execOp
  simp only [ho, hx, hy, Sem.run_bind, Result.andThen_ok, run_storeAt_new w ty c c' hi hs (Array.all_eq_true_iff_forall_mem.2 (fun v hv => h1 v (by simpa using hv)))]
  exact hK _ _ h
theorem LiesAt.take {α : Type} {m : Nat} {f : α → List Value} {w : World} {ao : Option Addr} {cap : Nat} {xs : List α} (h : LiesAt m f w ao cap xs) (k : Nat) : LiesAt m f w ao cap (xs.take k) := fun i hi => by
  have hi' : i < xs.length := by rw [List.length_take] at hi; omega
  obtain ⟨b, off, e, hb, hc, hr⟩ := h i hi'
  refine ⟨b, off, e, hb, by rw [List.length_take]; omega, fun j hj => ?_⟩
  have e2 : (xs.take k)[i] = xs[i] := List.getElem_take
  rw [e2] at hj
  rw [hr j hj]
  congr 1
  simp only [e2]
set_option maxHeartbeats 2000000 in
set_option maxRecDepth 100000 in
theorem twice1_any (p : RV) (x : List UInt8) (b : Nat) (w : World) (hc : w.cell? ⟨b, 0, none⟩ = some (str x)) (hb : b < w.heap.size) (ha : ∃ a1 a2 a3, p.a = .slice a1 a2 a3) (hb2 : ∃ a1 a2 a3, p.b = .slice a1 a2 a3) : Calls Tryz.prog 35 #[rA p, .pointer (some ⟨b, 0, none⟩)] w fun e w' => e = .returned (.bool (p.r.name == x)) ∧ Kp w w' none := by
  obtain ⟨⟨name, prio, what, value, ⟨o1, t1, n1, ⟨x10, y10, x11, y11⟩, l1⟩, ⟨o2, t2, n2, ⟨x20, y20, x21, y21⟩, l2⟩⟩, a, b2⟩ := p
  obtain ⟨a1, a2, a3, rfl⟩ := ha
  obtain ⟨b1, b4, b3, rfl⟩ := hb2
  obtain ⟨r, hr⟩ : ∃ r, (name == x) = r := ⟨_, rfl⟩
  have HR := Lib.hid hr
  unfold rA rC cC
  simp only [Ru.Cond.op, Ru.Cond.text, Ru.Cond.n, Ru.Cond.box, List.cons_append, List.nil_append]
  have hbne : b ≠ w.heap.size := by omega
  go_enter Tryz.func35, Tryz.ntmps35
  go_wp2_with fail
  go_ret
  exact ⟨ret_b (by first | rfl | (rw [HR.out])), (Kp.refl _ _).alloc _⟩
theorem RV.slices {w : World} {p : RV} (h : p.Tree w) : (∃ a1 a2 a3, p.a = .slice a1 a2 a3) ∧ ∃ a1 a2 a3, p.b = .slice a1 a2 a3 := ⟨h.1.slice, h.2.slice⟩
set_option maxHeartbeats 4000000 in
set_option maxRecDepth 100000 in
theorem indexRule_any (ps : List RV) (x : List UInt8) (bx : Nat) (ao : Option Addr) (cap : Nat) (w : World) (hc : w.cell? ⟨bx, 0, none⟩ = some (str x)) (hl : LiesAt 20 rC w ao cap ps) (ht : ∀ p ∈ ps, p.Tree w) (hm : ps.length ≤ 1000000000000) :
    Calls Tryz.prog 58 #[.slice ao ps.length cap, .func (.func 35) #[] #[.pointer (some ⟨bx, 0, none⟩)]] w fun e w' => (∃ n : Int, e = .returned (.int .i64 n) ∧ decide (0 ≤ n) = ps.any fun p => p.r.name == x) ∧ Kp w w' none := by
  have hbx := cell_lt hc
  have HL := Lib.hid hl
  have HT := Lib.hid ht
  have HX := Lib.hid hc
  clear hl ht hc
  go_enter Tryz.func58, Tryz.ntmps58
  go_wp2_with fail
  go_loopw [8] (fun i wr => ∃ k : Nat, k ≤ ps.length ∧ i = .int .i64 k ∧ Hid (∀ p ∈ ps.take k, (p.r.name == x) = false) ∧ Kp w wr none) (fun i _ => ps.length - (intOf i).toNat)
  case atStart => exact ⟨0, Nat.zero_le _, rfl, Lib.hid (fun _ h => (by cases h)), Kp.refl _ _⟩
  case round =>
    obtain ⟨k, hk, rfl, HC, hkp⟩ := hrel
    have HK := Lib.hid hkp
    have hbk := hkp.size
    clear hkp
    have hk0 : (0 : Int) ≤ (k : Int) := Int.natCast_nonneg _
    by_cases hlt : k < ps.length
    · obtain ⟨p, hp⟩ : ∃ p, ps[k] = p := ⟨_, rfl⟩
      have hmem : p ∈ ps := by rw [← hp]; exact List.getElem_mem hlt
      obtain ⟨b, off, hao, _, hrg⟩ := (HL.out.keep HK.out).range k hlt hp
      have sl := RV.slices (HT.out p hmem)
      have A := twice1_any p x bx wr ((HK.out.below.cell (p := ⟨bx, 0, none⟩) hbx).trans HX.out) (by omega) sl.1 sl.2
      have HN : Hid ((p.r.name == x) = false → ∀ q ∈ ps.take (k + 1), (q.r.name == x) = false) := Lib.hid (fun h q hq => by
        rw [List.take_succ_eq_append_getElem hlt, List.mem_append] at hq
        rcases hq with hq | hq
        · exact HC.out q hq
        · rw [List.mem_singleton] at hq; rw [hq, hp]; exact h)
      have HY : Hid ((p.r.name == x) = true → decide ((0 : Int) ≤ (k : Int)) = ps.any fun p => p.r.name == x) := Lib.hid (fun h => by
        rw [decide_eq_true hk0, List.any_eq_true.2 ⟨p, hmem, h⟩])
      have hk1 : (k : Int) < (ps.length : Int) := by omega
      subst hao
      clear hp hmem
      obtain ⟨rv, hrv⟩ : ∃ rv, (p.r.name == x) = rv := ⟨_, rfl⟩
      rw [hrv] at A HN HY
      clear hrv
      clear sl
      unfold rA at A
      have HRG := Lib.hid hrg
      clear hrg
      cases rv
      · have HN1 := Lib.hid (HN.out rfl)
        clear HN HY
        go_wp2_with (refine wpList_load_mid (by rfl) 42 _ (by rfl) b (off + k * 20) (by rfl) (rC p) _ HRG.out Tryz.underlying42 (by rfl) info42 ?_)
        refine A.mono ?_
        rintro e w1 ⟨rfl, k1⟩
        have K1 := Lib.hid (HK.out.trans k1)
        clear k1
        go_wp2_with fail
        go_roundw
        case rel => exact ⟨k + 1, hlt, by go_num, HN1, K1.out⟩
        case measure => simp [intOf]; omega
      · have HY1 := Lib.hid (HY.out rfl)
        clear HN HY
        go_wp2_with (refine wpList_load_mid (by rfl) 42 _ (by rfl) b (off + k * 20) (by rfl) (rC p) _ HRG.out Tryz.underlying42 (by rfl) info42 ?_)
        refine A.mono ?_
        rintro e w1 ⟨rfl, k1⟩
        go_wp2_with fail
        go_ret
        exact ⟨⟨k, rfl, HY1.out⟩, HK.out.trans k1⟩
    · have HA : Hid ((ps.any fun p => p.r.name == x) = false) := Lib.hid (List.any_eq_false.2 fun q hq h => by
        have h2 := HC.out q (by rw [List.take_of_length_le (by omega)]; exact hq)
        rw [h2] at h; cases h)
      have hkn1 : ¬ (k : Int) < (ps.length : Int) := by omega
      go_wp2_with fail
      go_ret
      exact ⟨⟨-1, rfl, by rw [HA.out]; rfl⟩, HK.out⟩
set_option maxHeartbeats 2000000 in
set_option maxRecDepth 100000 in
theorem containsRule_any (ps : List RV) (x : List UInt8) (bx : Nat) (ao : Option Addr) (cap : Nat) (w : World) (hc : w.cell? ⟨bx, 0, none⟩ = some (str x)) (hl : LiesAt 20 rC w ao cap ps) (ht : ∀ p ∈ ps, p.Tree w) (hm : ps.length ≤ 1000000000000) :
    Calls Tryz.prog 34 #[.slice ao ps.length cap, .func (.func 35) #[] #[.pointer (some ⟨bx, 0, none⟩)]] w fun e w' => e = .returned (.bool (ps.any fun p => p.r.name == x)) ∧ Kp w w' none := by
  have A := indexRule_any ps x bx ao cap w hc hl ht hm
  obtain ⟨r, hr2⟩ : ∃ r, (ps.any fun p => p.r.name == x) = r := ⟨_, rfl⟩
  rw [hr2] at A ⊢
  clear hl ht hc hr2
  go_enter Tryz.func34, Tryz.ntmps34
  go_wp2_with (go_at_call 58; refine A.mono ?_; rintro e w1 ⟨⟨n, rfl, hn⟩, hk⟩; have HN := Lib.hid hn; clear hn)
  go_ret
  exact ⟨ret_b HN.out, hk⟩
end Go.Proofs.YtnchipahdfbliaaGreatDoor
