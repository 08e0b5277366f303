/- The program's combination of two rows (combine). Condition: at most 4096 ranges in each row, each row of one shape. -/
import Derived.Test.YtpakiabnhdoijaaPw
import Derived.Test.YtpakiabnhdoijaaPk
import Derived.Deep.CutBlock
namespace Go.Proofs.Ytpakiabnhdoijaa
open Go.RowKit

def ends2 (s : Rc.Span) : List Int := [s.1, s.2]
def memB (l : List Rc.Span) (x : Int) : Bool := l.any fun s => decide (s.1 ≤ x ∧ x < s.2)
theorem memB_iff (l : List Rc.Span) (x : Int) : memB l x = true ↔ Rc.Mem x l := by
  unfold memB Rc.Mem
  simp only [List.any_eq_true, decide_eq_true_eq]
/-- The first i ranges end at or ahead of x. -/
def PreA (a : List Rc.Span) (i : Nat) (x : Int) : Prop := ∀ s ∈ a.take i, s.2 ≤ x
def AtA (a : List Rc.Span) (i : Nat) (x : Int) : Prop := i ≤ a.length ∧ PreA a i x ∧ ∀ h : i < a.length, x < a[i].2
theorem preA_step {a : List Rc.Span} {i : Nat} {x : Int} (h : PreA a i x) (hi : i < a.length) (hx : a[i].2 ≤ x) : PreA a (i + 1) x := fun s hs => by
  rw [List.take_succ_eq_append_getElem hi] at hs
  rcases List.mem_append.1 hs with hs | hs
  · exact h s hs
  · rw [List.mem_singleton] at hs; rw [hs]; exact hx
theorem preA_mono {a : List Rc.Span} {i : Nat} {x z : Int} (h : PreA a i x) (hx : x ≤ z) : PreA a i z := fun s hs => Int.le_trans (h s hs) hx
theorem memB_at {a : List Rc.Span} {i : Nat} {x : Int} (hc : Rc.Canon a) (h : AtA a i x) : memB a x = if h : i < a.length then decide (a[i].1 ≤ x) else false := by
  rw [Bool.eq_iff_iff, memB_iff]
  obtain ⟨h0, h1, h2⟩ := h
  have key : ∀ s ∈ a, s.1 ≤ x → x < s.2 → ∃ h : i < a.length, a[i].1 ≤ x := fun s hs hs1 hs2 => by
    obtain ⟨j, hj, rfl⟩ := List.getElem_of_mem hs
    by_cases hji : j < i
    · have := h1 a[j] (by rw [List.mem_take_iff_getElem]; exact ⟨j, by omega, rfl⟩)
      omega
    · have hi : i < a.length := by omega
      refine ⟨hi, ?_⟩
      by_cases e : j = i
      · subst e; exact hs1
      · have h3 := h2 hi
        have h4 := List.pairwise_iff_getElem.1 hc.ord i j hi hj (by omega)
        omega
  constructor
  · rintro ⟨s, hs, h3, h4⟩
    obtain ⟨hi, h5⟩ := key s hs h3 h4
    rw [dif_pos hi, decide_eq_true_eq]
    exact h5
  · intro h3
    by_cases hi : i < a.length
    · rw [dif_pos hi, decide_eq_true_eq] at h3
      exact ⟨a[i], List.getElem_mem hi, h3, h2 hi⟩
    · rw [dif_neg hi] at h3; cases h3
theorem ints_two (w : World) (x y : Int) (g : Nat) (hg : g = w.heap.size) : IsInts (w.alloc (Obj.cells #[.int .i64 x, .int .i64 y] 3)) (.slice (some ⟨g, 0, none⟩) 2 2) [x, y] := by
  subst hg
  refine .inr ⟨w.heap.size, 0, 2, rfl, by simp, by simp, fun k hk j hj => ?_⟩
  have hj0 : j = 0 := by simp [intVal] at hj; exact hj
  subst hj0
  have h := heap_alloc_new w (Obj.cells #[.int .i64 x, .int .i64 y] 3)
  rw [World.cell?]
  simp only [h]
  have : k = 0 ∨ k = 1 := by simp at hk; omega
  rcases this with rfl | rfl <;> rfl
theorem int_one : ∀ x : Int, ∀ u ∈ intVal x, u.oneCell' = true := by
  intro x u hu
  simp [intVal] at hu
  subst hu; rfl
theorem any_kq (n : Nat) (hn : n = 43 ∨ n = 45 ∨ n = 46) (a b : Bool) (w : World) : Calls Try.prog n #[.bool a, .bool b] w fun E w' => E = .returned (.bool (kFun n a b)) ∧ w' = w :=
  (any_k n hn a b w).mono fun _ _ h => ⟨h.1, h.2.symm⟩
theorem enters_k (n : Nat) (hn : n = 43 ∨ n = 45 ∨ n = 46) : ∀ args w, (callFunc n args).run Try.prog w = .ok (.enter n args) w := by
  rcases hn with rfl | rfl | rfl
  · exact enters_of Try.func43 (by kernel_rfl) rfl
  · exact enters_of Try.func45 (by kernel_rfl) rfl
  · exact enters_of Try.func46 (by kernel_rfl) rfl
/-- The loop that gathers the ends. -/
def ERel (W : World) (cat : List Rc.Span) (v i : Value) (wr : World) : Prop :=
  ∃ k : Nat, k ≤ cat.length ∧ i = .int .i64 k ∧ wr.ownsRow W.heap.size 3 1 v ((cat.take k).flatMap ends2).length (((cat.take k).flatMap ends2).flatMap intVal) ∧ Kp W wr none
theorem erel_step {W wq : World} {cat : List Rc.Span} {k : Nat} {u : Value} (h : k < cat.length) (ho : wq.ownsRow W.heap.size 3 1 u (((cat.take k).flatMap ends2).length + [cat[k].1, cat[k].2].length) (((cat.take k).flatMap ends2).flatMap intVal ++ [cat[k].1, cat[k].2].flatMap intVal)) (hk : Kp W wq none) : ERel W cat u (.int .i64 (k + 1)) wq :=
  ⟨k + 1, h, by go_num, by rw [List.take_succ_eq_append_getElem h, List.flatMap_append, List.length_append, List.flatMap_append]; simpa [ends2] using ho, hk⟩
theorem ends_len (cat : List Rc.Span) : (cat.flatMap ends2).length = cat.length * 2 := by
  induction cat with
  | nil => rfl
  | cons s l ih => rw [List.flatMap_cons, List.length_append, ih, List.length_cons]; simp [ends2]; omega
theorem ends_take_len (cat : List Rc.Span) (k : Nat) (h : k ≤ cat.length) : ((cat.take k).flatMap ends2).length = k * 2 := by rw [ends_len, List.length_take, Nat.min_eq_left h]
def endsOf (a b : List Rc.Span) : List Int := ((a ++ b).flatMap ends2).mergeSort fun x y => decide (x ≤ y)
theorem fillP_two {g : Int → Bool} {xs : List Int} {out : List Rc.Span} {k : Nat} (h : k + 1 < xs.length) : Rc.fill g (xs.drop k) out = Rc.fill g (xs.drop (k + 1)) (if xs[k] ≠ xs[k + 1] ∧ g xs[k] = true then Rc.push out xs[k] xs[k + 1] else out) := by
  rw [List.drop_eq_getElem_cons (by omega : k < xs.length), List.drop_eq_getElem_cons h]
  rfl
theorem drop_le {xs : List Int} (h : xs.Pairwise (· ≤ ·)) {k : Nat} (hk : k < xs.length) : ∀ y ∈ xs.drop (k + 1), xs[k] ≤ y := by
  have e := List.drop_eq_getElem_cons hk
  have h2 : (xs.drop k).Pairwise (· ≤ ·) := h.sublist (List.drop_sublist _ _)
  rw [e] at h2
  exact (List.pairwise_cons.1 h2).1
theorem sorted_int (l : List Int) : (l.mergeSort fun x y => decide (x ≤ y)).Pairwise (· ≤ ·) := by
  have h := List.pairwise_mergeSort (le := fun x y : Int => decide (x ≤ y)) (fun a b c h1 h2 => by simp at *; omega) (fun a b => by simp; omega) l
  exact h.imp (fun h => by simpa using h)
/-- The loop over the ends. -/
def CRel (W : World) (a b : List Rc.Span) (g : Int → Bool) (es : List Int) (fin : List Rc.Span) (v i k n : Value) (wr : World) : Prop :=
  ∃ (m i' k' : Nat) (out : List Rc.Span), m ≤ es.length ∧ n = .int .i64 m ∧ i' ≤ a.length ∧ i = .int .i64 i' ∧ k' ≤ b.length ∧ k = .int .i64 k' ∧ out.length ≤ m ∧ (∀ x ∈ es.drop m, PreA a i' x ∧ PreA b k' x) ∧ Rc.fill g (es.drop m) out = fin ∧ wr.ownsRow W.heap.size 24 2 v out.length (out.flatMap spanVal) ∧ Kp W wr none

set_option maxHeartbeats 16000000 in
set_option maxRecDepth 100000 in
theorem combP_core (kf : Nat) (hkf : kf = 43 ∨ kf = 45 ∨ kf = 46) (va vb : Value) (a b : List Rc.Span) (w : World) (ha : IsSpans w va a) (hb : IsSpans w vb b) (hla : a.length ≤ 4096) (hlb : b.length ≤ 4096) (ca : Rc.Canon a) (cb : Rc.Canon b) :
    Calls Try.prog 53 #[.agg #[.func (.func kf) #[] #[]], va, vb] w fun E w' => OwnSpans w E w' (Rc.fill (fun x => kFun kf (memB a x) (memB b x)) (endsOf a b) []) := by
  obtain ⟨aoa, capa, rfl, fa⟩ := ha.form
  obtain ⟨aob, capb, rfl, fb⟩ := hb.form
  have FA := Lib.hid fa
  have FB := Lib.hid fb
  have CA := Lib.hid ca
  have CB := Lib.hid cb
  obtain ⟨gg, hgg⟩ : ∃ g : Int → Bool, (fun x => kFun kf (memB a x) (memB b x)) = g := ⟨_, rfl⟩
  rw [hgg]
  have HGG : Hid (∀ x, gg x = kFun kf (memB a x) (memB b x)) := Lib.hid fun x => by rw [← hgg]
  clear hgg
  obtain ⟨fin, hfin⟩ : ∃ fin, Rc.fill gg (endsOf a b) [] = fin := ⟨_, rfl⟩
  rw [hfin]
  have HFIN := Lib.hid hfin
  have HAB : Hid (IsSpans w (.slice aoa a.length capa) a ∧ IsSpans w (.slice aob b.length capb) b) := Lib.hid ⟨ha, hb⟩
  clear hfin ca cb fa fb ha hb
  obtain ⟨i0, hi, hz0, hz1, hz2⟩ := info_parts infoSpan
  obtain ⟨i3, hi3, hz3, hz4, hz5⟩ := info_parts infoInt
  have hna : (0 : Int) ≤ (a.length : Int) := Int.natCast_nonneg _
  have hnb : (0 : Int) ≤ (b.length : Int) := Int.natCast_nonneg _
  have HK0 : Hid (Kp w (w.alloc (Obj.cells #[.func (.func kf) #[] #[]] 62)) none) := Lib.hid ((Kp.refl w none).alloc _)
  have HBX : Hid ((w.alloc (Obj.cells #[.func (.func kf) #[] #[]] 62)).cell? ⟨w.heap.size, 0, none⟩ = some (.func (.func kf) #[] #[])) := Lib.hid (by simp)
  go_enter Try.func53, Try.ntmps53
  go_wp2_with fail
  have KQ : Hid (Kp w ((w.alloc (Obj.cells #[.func (.func kf) #[] #[]] 62)).alloc (Obj.cells #[.slice aoa a.length capa, .slice aob b.length capb] 65)) none) := Lib.hid (HK0.out.alloc _)
  refine (concatSpan_any (w.heap.size + 1) (.slice aoa a.length capa) (.slice aob b.length capb) a b _ (by simp) (by simp) (by simp) (HAB.out.1.keep KQ.out) (HAB.out.2.keep KQ.out) (by omega) (by omega)).mono ?_
  rintro E w1 ⟨uc, rfl, hown, k1⟩
  have K1 := Lib.hid (KQ.out.trans k1)
  have KB1 : Hid (Kp (w.alloc (Obj.cells #[.func (.func kf) #[] #[]] 62)) w1 none) := Lib.hid (((Kp.refl _ none).alloc _).trans k1)
  obtain ⟨cat, hcat⟩ : ∃ c, a ++ b = c := ⟨_, rfl⟩
  have hcl : cat.length ≤ 8192 := by rw [← hcat, List.length_append]; omega
  rw [hcat] at hown
  obtain ⟨aoc, capc, rfl, fc⟩ := (isList_own (m := 2) (f := spanVal) (fun _ => rfl) hown).form
  have FC := Lib.hid fc
  have HCAT := Lib.hid hcat
  clear hown k1 fc hcat KQ HK0
  have hnc : (0 : Int) ≤ (cat.length : Int) := Int.natCast_nonneg _
  go_wp2_with fail
  go_loopw [7, 21] (fun v i wr => ERel w1 cat v i wr) (fun _ i _ => cat.length - (intOf i).toNat)
  case atStart => exact ⟨0, Nat.zero_le _, rfl, World.ownsRow_nil _ _ _ _, Kp.refl _ _⟩
  case round =>
    obtain ⟨k, hk, rfl, hown, hK⟩ := hrel
    have HO := Lib.hid hown
    have HK := Lib.hid hK
    clear hown hK
    have hk0 : (0 : Int) ≤ (k : Int) := Int.natCast_nonneg _
    by_cases hlt : k < cat.length
    · have hk1 : (k : Int) < (cat.length : Int) := by omega
      obtain ⟨bb, off, rfl, hb, hc, hr⟩ := FC.out k hlt
      obtain ⟨s, hx⟩ : ∃ s, cat[k] = s := ⟨_, rfl⟩
      have c0 : wr.cell? ⟨bb, off + k * 2, none⟩ = some (.int .i64 s.1) := (HK.out.below.cell (p := ⟨bb, off + k * 2 + 0, none⟩) hb).trans (by subst hx; exact hr 0 (by simp [spanVal]))
      have c1 : wr.cell? ⟨bb, off + k * 2 + 1, none⟩ = some (.int .i64 s.2) := (HK.out.below.cell (p := ⟨bb, off + k * 2 + 1, none⟩) hb).trans (by subst hx; exact hr 1 (by simp [spanVal]))
      have HST : Hid (∀ u wq, wq.ownsRow w1.heap.size 3 1 u (((cat.take k).flatMap ends2).length + [s.1, s.2].length) (((cat.take k).flatMap ends2).flatMap intVal ++ [s.1, s.2].flatMap intVal) → Kp w1 wq none → ERel w1 cat u (.int .i64 (k + 1)) wq) := Lib.hid fun u wq h1 h2 => erel_step hlt (by rw [hx]; exact h1) h2
      have hel : ((cat.take k).flatMap ends2).length ≤ 16384 := by rw [ends_take_len cat k hk]; omega
      clear hx hr
      obtain ⟨s0, s1⟩ := s
      simp only [] at c0 c1 HST
      generalize (cat.take k).flatMap ends2 = es at *
      have KC : Hid (Kp wr ((wr.alloc (Obj.cells #[.int .i64 s0, .int .i64 s1] 24)).alloc (Obj.cells #[.int .i64 s0, .int .i64 s1] 3)) none) := Lib.hid (((Kp.refl wr none).alloc _).alloc _)
      go_wp2_with (at_builtin; go_must (refine wpList_app (f := intVal) (by rfl) _ _ w1.heap.size 57 3 (by rfl) i3 _ 1 8 Try.underlying57 hi3 hz3 hz4 hz5 rfl (by omega) (fun _ => rfl) int_one u7 es.length (es.flatMap intVal) (by rfl) (HO.out.kept KC.out (by cases u7.ownBlock <;> simp)) (.slice (some ⟨wr.heap.size + 1, 0, none⟩) 2 2) [s0, s1] (by rfl) (ints_two (wr.alloc (Obj.cells #[.int .i64 s0, .int .i64 s1] 24)) s0 s1 _ (by simp)) (by unfold maxLen; simp; omega) (by simp; omega) (HK.out.trans KC.out).size ?_))
      intro v4 w4 ho4 hg4 _
      have HREL := Lib.hid (HST.out v4 w4 (by simpa using ho4) (Kp.row (HK.out.trans KC.out) hg4 (fun j hj => (HO.out.lt j hj).1)))
      clear ho4 hg4
      go_wp2_with fail
      go_roundw
      case rel => exact HREL.out
      case measure => simp [intOf]; omega
    · have hkx : k = cat.length := by omega
      have hk1 : ¬ (k : Int) < (cat.length : Int) := by omega
      obtain ⟨e0, he0⟩ : ∃ e, cat.flatMap ends2 = e := ⟨_, rfl⟩
      have HOE : Hid (wr.ownsRow w1.heap.size 3 1 u7 e0.length (e0.flatMap intVal)) := Lib.hid (by have := HO.out; rw [hkx, List.take_length, he0] at this; exact this)
      have hel : e0.length ≤ 16384 := by rw [← he0, ends_len]; omega
      have HE0 : Hid (endsOf a b = e0.mergeSort fun x y => decide (x ≤ y)) := Lib.hid (by unfold endsOf; rw [HCAT.out, he0])
      clear hkx he0 HO
      go_wp2_with fail
      refine (sortInts_own HOE.out (by omega)).mono ?_
      rintro E W3 ⟨rfl, ho3, k3⟩
      have K3 := Lib.hid (Kp.row HK.out k3 (fun j hj => (HOE.out.lt j hj).1))
      obtain ⟨es, hes⟩ : ∃ e, (e0.mergeSort fun x y => decide (x ≤ y)) = e := ⟨_, rfl⟩
      rw [hes] at ho3 HE0
      have hesl : es.length ≤ 16384 := by rw [← hes, List.length_mergeSort]; exact hel
      have HSORT : Hid (es.Pairwise (· ≤ ·)) := Lib.hid (by rw [← hes]; exact sorted_int e0)
      rw [HE0.out] at HFIN
      obtain ⟨aoe, cape, rfl, fe⟩ := (isList_own (m := 1) (f := intVal) (fun _ => rfl) ho3).form
      have FE := Lib.hid fe
      clear ho3 k3 fe hes HE0 HOE HK hel
      have K03 := Lib.hid (K1.out.trans K3.out)
      have cbx : Hid (∀ W, Kp W3 W none → W.cell? ⟨w.heap.size, 0, none⟩ = some (.func (.func kf) #[] #[])) := Lib.hid fun W kW => ((KB1.out.trans (K3.out.trans kW)).below.cell (p := ⟨w.heap.size, 0, none⟩) (by simp)).trans HBX.out
      have HFA : Hid (LiesAt 2 spanVal W3 aoa capa a) := Lib.hid (FA.out.keep K03.out)
      have HFB : Hid (LiesAt 2 spanVal W3 aob capb b) := Lib.hid (FB.out.keep K03.out)
      clear FA FB KB1 HBX HAB
      go_wp2_with fail
      go_loopw [6, 10, 11, 12] (fun v i k n wr => CRel W3 a b gg es fin v i k n wr) (fun _ _ _ n _ => es.length - (intOf n).toNat)
      case atStart => exact ⟨0, 0, 0, [], Nat.zero_le _, rfl, Nat.zero_le _, rfl, Nat.zero_le _, rfl, Nat.le_refl _, fun _ _ => ⟨fun _ h => by simp at h, fun _ h => by simp at h⟩, HFIN.out, World.ownsRow_nil _ _ _ _, Kp.refl _ _⟩
      case round =>
        obtain ⟨m, i', k', out, hm, rfl, hi', rfl, hk', rfl, hol, hpre, hfill, hown, hK⟩ := hrel
        have HF := Lib.hid hfill
        have HO := Lib.hid hown
        have HK := Lib.hid hK
        have HPRE := Lib.hid hpre
        clear hfill hown hK hpre
        have hm0 : (0 : Int) ≤ (m : Int) := Int.natCast_nonneg _
        have hm9 : (0 : Int) ≤ (m : Int) + 1 := by omega
        by_cases hlt : m + 1 < es.length
        · have hm1 : (m : Int) + 1 < (es.length : Int) := by omega
          have hm2 : (m : Int) < (es.length : Int) := by omega
          have hwk : IntKind.i64.wrap ((m : Int) + 1) = (m : Int) + 1 := wrap_nat (n := m + 1) (by omega)
          obtain ⟨bb, off, rfl, hb, hc, hr⟩ := FE.out.int m (by omega)
          obtain ⟨x, hx⟩ : ∃ x, es[m] = x := ⟨_, rfl⟩
          obtain ⟨z, hz⟩ : ∃ z, es[m + 1] = z := ⟨_, rfl⟩
          have c0 : wr.cell? ⟨bb, off + m, none⟩ = some (.int .i64 x) := (HK.out.below.cell (p := ⟨bb, off + m, none⟩) hb).trans (by rw [← hx]; exact hr m (by omega))
          have c1 : wr.cell? ⟨bb, off + (m + 1), none⟩ = some (.int .i64 z) := (HK.out.below.cell (p := ⟨bb, off + (m + 1), none⟩) hb).trans (by rw [← hz]; exact hr (m + 1) hlt)
          have HF2 : Hid (Rc.fill gg (es.drop (m + 1)) (if x ≠ z ∧ gg x = true then Rc.push out x z else out) = fin) := Lib.hid (by rw [← hx, ← hz, ← fillP_two hlt]; exact HF.out)
          have HPA : Hid (PreA a i' x ∧ PreA b k' x) := Lib.hid (HPRE.out x (by rw [← hx, List.drop_eq_getElem_cons (by omega)]; exact List.mem_cons_self))
          have HNX : Hid (∀ y ∈ es.drop (m + 1), x ≤ y) := Lib.hid (by rw [← hx]; exact drop_le HSORT.out (by omega))
          have CXA := cbx.out wr HK.out
          have LA := Lib.hid (HFA.out.keep HK.out)
          have LB := Lib.hid (HFB.out.keep HK.out)
          clear hx hz hr HF HPRE
          have hi0 : (0 : Int) ≤ (i' : Int) := Int.natCast_nonneg _
          have hk0' : (0 : Int) ≤ (k' : Int) := Int.natCast_nonneg _
          go_wp2_with fail
          go_quiet (fail)
          go_upto_block 4 with fail
          go_cut [10] from 35 to 141 (fun s10 wx => (∃ i2 : Nat, AtA a i2 x ∧ s10 = .int .i64 i2) ∧ wx = wr.drewN nq)
          case first =>
            go_wp2_with fail
            go_loopw [10] (fun v wq => (∃ j : Nat, j ≤ a.length ∧ v = .int .i64 j ∧ PreA a j x) ∧ wq = wr.drewN nq) (fun v _ => a.length - (intOf v).toNat)
            case atStart => exact ⟨⟨i', hi', rfl, HPA.out.1⟩, rfl⟩
            case round =>
              obtain ⟨⟨j, hj, rfl, hp⟩, hwq⟩ := hrel
              subst hwq
              have HP := Lib.hid hp
              clear hp
              have hj0 : (0 : Int) ≤ (j : Int) := Int.natCast_nonneg _
              by_cases hjt : j < a.length
              · have hj1 : (j : Int) < (a.length : Int) := by omega
                obtain ⟨b2, off2, rfl, hb2, hc2, hr2⟩ := LA.out j hjt
                obtain ⟨s, hs⟩ : ∃ s, a[j] = s := ⟨_, rfl⟩
                have d1 : (wr).cell? ⟨b2, off2 + j * 2 + 1, none⟩ = some (.int .i64 s.2) := by subst hs; exact hr2 1 (by simp [spanVal])
                have HSP : Hid (s.2 ≤ x → PreA a (j + 1) x) := Lib.hid fun h => preA_step HP.out hjt (by rw [hs]; exact h)
                have HSA : Hid (¬ s.2 ≤ x → AtA a j x) := Lib.hid fun h => ⟨hj, HP.out, fun _ => by rw [hs]; omega⟩
                clear hs hr2
                by_cases hle : s.2 ≤ x
                · go_wp2_with fail
                  go_roundw
                  case rel => exact ⟨⟨j + 1, hjt, by go_num, HSP.out hle⟩, by trivial⟩
                  case measure => simp [intOf]; omega
                · have hle2 : x < s.2 := by omega
                  go_wp2_with fail
                  go_meet
                  exact ⟨⟨j, HSA.out hle, rfl⟩, rfl⟩
              · have hj1 : ¬ (j : Int) < (a.length : Int) := by omega
                go_wp2_with fail
                go_meet
                exact ⟨⟨j, ⟨hj, HP.out, fun h => absurd h hjt⟩, rfl⟩, rfl⟩
          case rest =>
            obtain ⟨⟨i2, hi2, rfl⟩, hwc⟩ := hcut
            subst hwc
            have HI2 := Lib.hid hi2
            have hi2l := hi2.1
            have hi20 : (0 : Int) ≤ (i2 : Int) := Int.natCast_nonneg _
            clear hi2
            go_upto_block 6 with fail
            go_cut [11] from 35 to 141 (fun s11 wx => (∃ k2 : Nat, AtA b k2 x ∧ s11 = .int .i64 k2) ∧ wx = wr.drewN nq)
            case first =>
              go_wp2_with fail
              go_loopw [11] (fun v wq => (∃ j : Nat, j ≤ b.length ∧ v = .int .i64 j ∧ PreA b j x) ∧ wq = wr.drewN nq) (fun v _ => b.length - (intOf v).toNat)
              case atStart => exact ⟨⟨k', hk', rfl, HPA.out.2⟩, rfl⟩
              case round =>
                obtain ⟨⟨j, hj, rfl, hp⟩, hwq⟩ := hrel
                subst hwq
                have HP := Lib.hid hp
                clear hp
                have hj0 : (0 : Int) ≤ (j : Int) := Int.natCast_nonneg _
                by_cases hjt : j < b.length
                · have hj1 : (j : Int) < (b.length : Int) := by omega
                  obtain ⟨b2, off2, rfl, hb2, hc2, hr2⟩ := LB.out j hjt
                  obtain ⟨s, hs⟩ : ∃ s, b[j] = s := ⟨_, rfl⟩
                  have d1 : (wr).cell? ⟨b2, off2 + j * 2 + 1, none⟩ = some (.int .i64 s.2) := by subst hs; exact hr2 1 (by simp [spanVal])
                  have HSP : Hid (s.2 ≤ x → PreA b (j + 1) x) := Lib.hid fun h => preA_step HP.out hjt (by rw [hs]; exact h)
                  have HSA : Hid (¬ s.2 ≤ x → AtA b j x) := Lib.hid fun h => ⟨hj, HP.out, fun _ => by rw [hs]; omega⟩
                  clear hs hr2
                  by_cases hle : s.2 ≤ x
                  · go_wp2_with fail
                    go_roundw
                    case rel => exact ⟨⟨j + 1, hjt, by go_num, HSP.out hle⟩, by trivial⟩
                    case measure => simp [intOf]; omega
                  · have hle2 : x < s.2 := by omega
                    go_wp2_with fail
                    go_meet
                    exact ⟨⟨j, HSA.out hle, rfl⟩, rfl⟩
                · have hj1 : ¬ (j : Int) < (b.length : Int) := by omega
                  go_wp2_with fail
                  go_meet
                  exact ⟨⟨j, ⟨hj, HP.out, fun h => absurd h hjt⟩, rfl⟩, rfl⟩
            case rest =>
              obtain ⟨⟨k2, hk2, rfl⟩, hwc⟩ := hcut
              subst hwc
              have HK2 := Lib.hid hk2
              have hk2l := hk2.1
              have hk20 : (0 : Int) ≤ (k2 : Int) := Int.natCast_nonneg _
              clear hk2
              go_upto_region 17 with fail
              go_cut [115] from 35 to 141 (fun s115 wx => s115 = .bool (x == z || !gg x) ∧ ∃ q, wx = wr.drewN q)
              case first =>
                by_cases hxz : x = z
                · have hxb : (x == z) = true := by simpa using hxz
                  go_quiet (fail)
                  go_wp2_with fail
                  go_meet
                  exact ⟨by simp [hxz], _, World.drewN_drewN _ _ _⟩
                · have hxb : (x == z) = false := by simpa using hxz
                  have MA := memB_at CA.out HI2.out
                  have MB := memB_at CB.out HK2.out
                  by_cases hs : i2 < a.length
                  · by_cases ht : k2 < b.length
                    · have hs1 : (i2 : Int) < (a.length : Int) := by omega
                      obtain ⟨bs, os, rfl, hbs, hcs, hrs⟩ := LA.out i2 hs
                      obtain ⟨s, hss⟩ : ∃ s, a[i2] = s := ⟨_, rfl⟩
                      have es : wr.cell? ⟨bs, os + i2 * 2, none⟩ = some (.int .i64 s.1) := by subst hss; exact hrs 0 (by simp [spanVal])
                      rw [dif_pos hs, hss] at MA
                      clear hrs hss
                      have ht1 : (k2 : Int) < (b.length : Int) := by omega
                      obtain ⟨bt, ot, rfl, hbt, hct, hrt⟩ := LB.out k2 ht
                      obtain ⟨t, hts⟩ : ∃ s, b[k2] = s := ⟨_, rfl⟩
                      have et : wr.cell? ⟨bt, ot + k2 * 2, none⟩ = some (.int .i64 t.1) := by subst hts; exact hrt 0 (by simp [spanVal])
                      rw [dif_pos ht, hts] at MB
                      clear hrt hts
                      have HG : Hid (gg x = kFun kf (decide (s.1 ≤ x)) (decide (t.1 ≤ x))) := Lib.hid (by rw [HGG.out x, MA, MB])
                      clear MA MB
                      have EG := enters_k kf hkf
                      go_quiet ((refine (any_kq kf hkf _ _ _).mono ?_; rintro e wz ⟨rfl, rfl⟩; exact ⟨rfl, _, rfl⟩))
                      go_wp2_with fail
                      go_meet
                      exact ⟨by rw [HG.out, hxb, Bool.false_or], by first | exact ⟨_, rfl⟩ | exact ⟨_, World.drewN_drewN _ _ _⟩⟩
                    · have hs1 : (i2 : Int) < (a.length : Int) := by omega
                      obtain ⟨bs, os, rfl, hbs, hcs, hrs⟩ := LA.out i2 hs
                      obtain ⟨s, hss⟩ : ∃ s, a[i2] = s := ⟨_, rfl⟩
                      have es : wr.cell? ⟨bs, os + i2 * 2, none⟩ = some (.int .i64 s.1) := by subst hss; exact hrs 0 (by simp [spanVal])
                      rw [dif_pos hs, hss] at MA
                      clear hrs hss
                      have ht1 : ¬ (k2 : Int) < (b.length : Int) := by omega
                      rw [dif_neg ht] at MB
                      have HG : Hid (gg x = kFun kf (decide (s.1 ≤ x)) false) := Lib.hid (by rw [HGG.out x, MA, MB])
                      clear MA MB
                      have EG := enters_k kf hkf
                      go_quiet ((refine (any_kq kf hkf _ _ _).mono ?_; rintro e wz ⟨rfl, rfl⟩; exact ⟨rfl, _, rfl⟩))
                      go_wp2_with fail
                      go_meet
                      exact ⟨by rw [HG.out, hxb, Bool.false_or], by first | exact ⟨_, rfl⟩ | exact ⟨_, World.drewN_drewN _ _ _⟩⟩
                  · by_cases ht : k2 < b.length
                    · have hs1 : ¬ (i2 : Int) < (a.length : Int) := by omega
                      rw [dif_neg hs] at MA
                      have ht1 : (k2 : Int) < (b.length : Int) := by omega
                      obtain ⟨bt, ot, rfl, hbt, hct, hrt⟩ := LB.out k2 ht
                      obtain ⟨t, hts⟩ : ∃ s, b[k2] = s := ⟨_, rfl⟩
                      have et : wr.cell? ⟨bt, ot + k2 * 2, none⟩ = some (.int .i64 t.1) := by subst hts; exact hrt 0 (by simp [spanVal])
                      rw [dif_pos ht, hts] at MB
                      clear hrt hts
                      have HG : Hid (gg x = kFun kf false (decide (t.1 ≤ x))) := Lib.hid (by rw [HGG.out x, MA, MB])
                      clear MA MB
                      have EG := enters_k kf hkf
                      go_quiet ((refine (any_kq kf hkf _ _ _).mono ?_; rintro e wz ⟨rfl, rfl⟩; exact ⟨rfl, _, rfl⟩))
                      go_wp2_with fail
                      go_meet
                      exact ⟨by rw [HG.out, hxb, Bool.false_or], by first | exact ⟨_, rfl⟩ | exact ⟨_, World.drewN_drewN _ _ _⟩⟩
                    · have hs1 : ¬ (i2 : Int) < (a.length : Int) := by omega
                      rw [dif_neg hs] at MA
                      have ht1 : ¬ (k2 : Int) < (b.length : Int) := by omega
                      rw [dif_neg ht] at MB
                      have HG : Hid (gg x = kFun kf false false) := Lib.hid (by rw [HGG.out x, MA, MB])
                      clear MA MB
                      have EG := enters_k kf hkf
                      go_quiet ((refine (any_kq kf hkf _ _ _).mono ?_; rintro e wz ⟨rfl, rfl⟩; exact ⟨rfl, _, rfl⟩))
                      go_wp2_with fail
                      go_meet
                      exact ⟨by rw [HG.out, hxb, Bool.false_or], by first | exact ⟨_, rfl⟩ | exact ⟨_, World.drewN_drewN _ _ _⟩⟩
              case rest =>
                obtain ⟨rfl, q, hwq⟩ := hcut
                subst hwq
                obtain ⟨bt, hbt⟩ : ∃ bt, (x == z || !gg x) = bt := ⟨_, rfl⟩
                rw [hbt]
                have HNXT : Hid (∀ y ∈ es.drop (m + 1), PreA a i2 y ∧ PreA b k2 y) := Lib.hid fun y hy => ⟨preA_mono HI2.out.2.1 (HNX.out y hy), preA_mono HK2.out.2.1 (HNX.out y hy)⟩
                have HOq := Lib.hid (HO.out.kept ((Kp.refl wr none).drewN q) (by cases u6.ownBlock <;> simp))
                have HKq := Lib.hid (HK.out.drewN q)
                cases bt
                · have hxz : x ≠ z ∧ gg x = true := by simp at hbt; exact ⟨hbt.1, hbt.2⟩
                  rw [if_pos hxz] at HF2
                  clear hbt hxz
                  obtain ⟨L, hL⟩ : ∃ L, out.length = L := ⟨_, rfl⟩
                  rw [hL] at HO HOq hol
                  obtain ⟨bo, cap, rfl, hbo⟩ := own_form HO.out
                  rcases Rc.snoc_cases out with rfl | ⟨out', s, rfl⟩
                  · have HF3 : Hid _ := HF2
                    rw [push_new (by simp)] at HF3
                    have hL0 : L = 0 := hL.symm
                    subst hL0
                    have KC : Hid (Kp wr ((wr.drewN q).alloc (Obj.cells #[.int .i64 x, .int .i64 z] 24)) none) := Lib.hid (((Kp.refl wr none).drewN q).alloc _)
                    go_wp2_with (at_builtin; go_must (refine wpList_app (f := spanVal) (by rfl) _ _ W3.heap.size 65 24 (by rfl) i0 _ 2 16 Try.underlying65 hi hz0 hz1 hz2 rfl (by omega) (fun _ => rfl) span_one (.slice bo 0 cap) 0 (([] : List Rc.Span).flatMap spanVal) (by rfl) (HO.out.kept KC.out (by cases (Value.slice _ _ _).ownBlock <;> simp)) (.slice (some ⟨wr.heap.size, 0, none⟩) 1 1) [(x, z)] (by rfl) (spans_at (wr.drewN q) x z _ (by simp)) (by unfold maxLen; simp <;> omega) (by simp <;> omega) (HK.out.trans KC.out).size ?_))
                    intro v4 w4 ho4 hg4 _
                    have KA := Lib.hid (Kp.row (HK.out.trans KC.out) hg4 (fun j hj => (HO.out.lt j hj).1))
                    have OA := Lib.hid (own_push (out := ([] : List Rc.Span)) (n := 0) (s := (x, z)) (by simpa using ho4) (by simp))
                    clear ho4 hg4
                    go_wp2_with fail
                    go_roundw
                    case rel => exact ⟨m + 1, i2, k2, ([] : List Rc.Span) ++ [(x, z)], by omega, by go_num, hi2l, rfl, hk2l, rfl, by first | omega | (simp <;> omega), HNXT.out, HF3.out, OA.out, KA.out⟩
                    case measure => simp [intOf]; omega
                  · rw [List.length_append, List.length_singleton] at hL
                    subst hL
                    obtain ⟨g, rfl⟩ := hbo (by omega)
                    have hol0 : (0 : Int) ≤ (out'.length : Int) := Int.natCast_nonneg _
                    have hwo : IntKind.i64.wrap (out'.length : Int) = (out'.length : Int) := wrap_nat (n := out'.length) (by omega)
                    have hol1 : (out'.length : Int) < (out'.length : Int) + 1 := by omega
                    obtain ⟨o0, o1, o2⟩ := own_last HO.out
                    by_cases hs : s.2 = x
                    · subst hs
                      have HF3 : Hid _ := HF2
                      rw [push_on] at HF3
                      have OS : Hid (_ ∧ _) := Lib.hid (own_last_set (w := wr.drewN q) (base := W3.heap.size) (g := g) (cap := cap) (out := out') (s := s) HO.out z)
                      have KS := Lib.hid (Kp.of_own HKq.out OS.out.2 (HO.out.lt g rfl).1)
                      go_wp2_with fail
                      go_roundw
                      case rel => exact ⟨m + 1, i2, k2, out' ++ [(s.1, z)], by omega, by go_num, hi2l, rfl, hk2l, rfl, by first | omega | (simp <;> omega), HNXT.out, HF3.out, by rw [List.length_append, List.length_singleton]; exact OS.out.1, KS.out⟩
                      case measure => simp [intOf]; omega
                    · have HF3 : Hid _ := HF2
                      rw [push_new (by simpa using hs)] at HF3
                      have hs2 : (s.2 == x) = false := by simpa using hs
                      have KC : Hid (Kp wr ((wr.drewN q).alloc (Obj.cells #[.int .i64 x, .int .i64 z] 24)) none) := Lib.hid (((Kp.refl wr none).drewN q).alloc _)
                      go_wp2_with (at_builtin; go_must (refine wpList_app (f := spanVal) (by rfl) _ _ W3.heap.size 65 24 (by rfl) i0 _ 2 16 Try.underlying65 hi hz0 hz1 hz2 rfl (by omega) (fun _ => rfl) span_one (.slice (some ⟨g, 0, none⟩) (out'.length + 1) cap) (out'.length + 1) ((out' ++ [s]).flatMap spanVal) (by rfl) (HO.out.kept KC.out (by cases (Value.slice _ _ _).ownBlock <;> simp)) (.slice (some ⟨wr.heap.size, 0, none⟩) 1 1) [(x, z)] (by rfl) (spans_at (wr.drewN q) x z _ (by simp)) (by unfold maxLen; simp <;> omega) (by simp <;> omega) (HK.out.trans KC.out).size ?_))
                      intro v4 w4 ho4 hg4 _
                      have KA := Lib.hid (Kp.row (HK.out.trans KC.out) hg4 (fun j hj => (HO.out.lt j hj).1))
                      have OA := Lib.hid (own_push (out := (out' ++ [s])) (n := (out'.length + 1)) (s := (x, z)) (by simpa using ho4) (by simp))
                      clear ho4 hg4
                      go_wp2_with fail
                      go_roundw
                      case rel => exact ⟨m + 1, i2, k2, (out' ++ [s]) ++ [(x, z)], by omega, by go_num, hi2l, rfl, hk2l, rfl, by first | omega | (simp <;> omega), HNXT.out, HF3.out, OA.out, KA.out⟩
                      case measure => simp [intOf]; omega
                · have hxz : ¬ (x ≠ z ∧ gg x = true) := by rintro ⟨h1, h2⟩; rw [h2] at hbt; simp [h1] at hbt
                  rw [if_neg hxz] at HF2
                  have HF3 := HF2
                  clear hbt hxz HF2
                  go_wp2_with fail
                  go_roundw
                  case rel => exact ⟨m + 1, i2, k2, out, by omega, by go_num, hi2l, rfl, hk2l, rfl, by first | omega | (simp <;> omega), HNXT.out, HF3.out, HOq.out, HKq.out⟩
                  case measure => simp [intOf]; omega
        · have hm1 : ¬ (m : Int) + 1 < (es.length : Int) := by omega
          have HE : Hid (OwnSpans w (Ending.returned u6) wr fin) := Lib.hid ⟨u6, rfl, by have := HF.out; rw [fill_done hlt] at this; subst this; exact own_mono HO.out K03.out.size, K03.out.trans HK.out⟩
          go_wp2_with fail
          go_ret
          exact HE.out

/-- The program's combination of two rows is the row of the combination. -/
theorem combP_any (kf : Nat) (hkf : kf = 43 ∨ kf = 45 ∨ kf = 46) (va vb : Value) (ra rb : List Rc.Span) (a b : List Rc.Rect) (y : Int) (w : World) (ha : IsSpans w va ra) (hb : IsSpans w vb rb) (hla : ra.length ≤ 4096) (hlb : rb.length ≤ 4096) (ca : Rc.Canon ra ∧ ∀ x, Rc.Mem x ra ↔ Rc.cov a x y = true) (cb : Rc.Canon rb ∧ ∀ x, Rc.Mem x rb ↔ Rc.cov b x y = true) :
    Calls Try.prog 53 #[.agg #[.func (.func kf) #[] #[]], va, vb] w fun E w' => OwnSpans w E w' (Rc.rowS (kFun kf) a b y) := by
  have hk : Rc.Comb (kFun kf) := by rcases hkf with rfl | rfl | rfl; exact Rc.join_comb; exact Rc.meet_comb; exact Rc.less_comb
  have e : Rc.fill (fun x => kFun kf (memB ra x) (memB rb x)) (endsOf ra rb) [] = Rc.rowS (kFun kf) a b y := by
    refine Rc.comb_rows hk ca cb (ends := endsOf ra rb) (fun e => ?_) (sorted_int _) (fun x _ => ?_)
    · unfold endsOf
      rw [List.mem_mergeSort, List.mem_flatMap]
      simp [ends2]
    · have h : ∀ {r : List Rc.Span} {c : List Rc.Rect}, (∀ x, Rc.Mem x r ↔ Rc.cov c x y = true) → memB r x = Rc.cov c x y := fun h => by rw [Bool.eq_iff_iff, memB_iff, h]
      unfold Rc.wit
      rw [h ca.2, h cb.2]
  rw [← e]
  exact combP_core kf hkf va vb ra rb w ha hb hla hlb ca.1 cb.1

end Go.Proofs.Ytpakiabnhdoijaa
