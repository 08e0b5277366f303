/- ListsInverse' walk: what was written is read again; without its last bytes, or with one behind them, a file is refused. No condition but what its arguments read as. -/
import Derived.Test.YtldjhjbodhhnbaaDoorLl
namespace Go.Proofs.YtldjhjbodhhnbaaDoor
open Go.RowKit

theorem heap_new2 (w : World) (o p : Obj) : ((w.alloc o).alloc p).heap[w.heap.size + 1]? = some p := by
  have h := heap_alloc_new (w.alloc o) p
  rw [show (w.alloc o).heap.size = w.heap.size + 1 by simp] at h
  exact h
/-- A file that is cut off, and one with a byte behind it. -/
structure Odd (kind : List UInt8) (ks : List Li.Kd) (S : List UInt8) (d : Int) (bt : UInt8) (p q n1 n2 : Nat) : Prop where
  pos : 0 < S.length
  lt : S.length ≤ 6000
  q1 : d.tmod (S.length : Int) = (q : Int)
  q2 : d % (S.length : Int) = (q : Int)
  p1 : (S.length : Int) - 1 - (q : Int) = (p : Int)
  pl : p < S.length
  ql : q < S.length
  r1 : Li.readFile kind ks (S.take p) = .bad n1
  r2 : Li.readFile kind ks (S ++ [bt]) = .bad n2
  b1 : 1 ≤ n1 ∧ n1 ≤ 8000
  b2 : 1 ≤ n2 ∧ n2 ≤ 8000
theorem readL_most {kind : List UInt8} {ks : List Li.Kd} : ∀ (f : Nat) (s : List UInt8) (out : List (List Li.Fld)) (n k : Nat), Li.readL kind ks f s out n = .bad k → k ≤ n + s.length + 1
  | 0, s, out, n, k, h => by simp [Li.readL] at h; omega
  | f + 1, s, out, n, k, h => by
    unfold Li.readL at h
    split at h
    · injection h with h; omega
    · rename_i this rest hc
      have hl : s.length = this.length + rest.length + 1 := by rw [(Wr.cut1_some hc).1]; simp; omega
      split at h
      · split at h
        · cases h
        · injection h with h; omega
      · split at h
        · have := readL_most f _ _ _ _ h; omega
        · injection h with h; omega
theorem odd_of {kind : List UInt8} {ks : List Li.Kd} (hk : Li.Kind kind) {l : List (List Li.Fld)} (hg : ∀ x ∈ l, Li.Good ks x) {S : List UInt8} (hS : Li.fileOf kind l = S) (hl : S.length ≤ 6000) (d : Int) (hd : 0 ≤ d) (bt : UInt8) : ∃ p q n1 n2, Odd kind ks S d bt p q n1 n2 := by
  have hp : 0 < S.length := by rw [← hS]; unfold Li.fileOf; rw [List.length_append]; simp
  have h0 := Int.emod_nonneg d (show (S.length : Int) ≠ 0 by omega)
  have h1 := Int.emod_lt_of_pos d (show (0 : Int) < (S.length : Int) by omega)
  obtain ⟨q, hq⟩ : ∃ q : Nat, d % (S.length : Int) = (q : Int) := ⟨(d % (S.length : Int)).toNat, by omega⟩
  have hql : q < S.length := by omega
  have hpl : S.length - 1 - q < S.length := by omega
  obtain ⟨n1, b1, r1⟩ := Li.read_cut hk hg (k := S.length - 1 - q) (by rw [hS]; exact hpl)
  obtain ⟨n2, b2, r2⟩ := Li.read_more hk hg bt
  rw [hS] at r1 r2
  have m1 := readL_most _ _ _ _ _ r1
  have m2 := readL_most _ _ _ _ _ r2
  rw [List.length_take] at m1
  rw [List.length_append] at m2
  simp only [List.length_cons, List.length_nil] at m2
  exact ⟨S.length - 1 - q, q, n1, n2, hp, hl, by rw [Int.tmod_eq_emod_of_nonneg hd]; exact hq, hq, by omega, hpl, hql, r1, r2, ⟨b1, by omega⟩, ⟨b2, by omega⟩⟩
def TwoRel (wB : World) (v : Value) (wr : World) : Prop := ∃ j : Nat, j ≤ 2 ∧ v = .int .i64 j ∧ Kp wB wr none

set_option maxHeartbeats 8000000 in
set_option maxRecDepth 100000 in
theorem inverse_any (v0 v1 : Value) (xs0 xs1 : List (List Li.Fld)) (w : World) (he : Env w) (h0 : IsArg w v0 xs0) (h1 : IsArg w v1 xs1) (hg0 : ∀ x ∈ xs0, ArgEl Li.rowK x) (hg1 : ∀ x ∈ xs1, ArgEl Li.probeK x) (d : Int) (hd : 0 ≤ d) (hd2 : d < 65536) (bt : UInt8) :
    Calls Tryd.prog 6 #[v0, v1, .int .u16 d, .int .u8 bt.toNat] w fun E w' => E = .returned (.bool true) ∧ Kp w w' none := by
  have HE := Lib.hid he
  have H0 := Lib.hid h0
  have H1 := Lib.hid h1
  have G0 := Lib.hid hg0
  have G1 := Lib.hid hg1
  obtain ⟨ys0, hys0⟩ : ∃ ys, xs0.map cutX = ys := ⟨_, rfl⟩
  have hyl0 : ys0.length ≤ 8 := by rw [← hys0, List.length_map]; exact h0.len
  have hgy0 := hys0 ▸ cut_all hg0
  have hsy0 := hys0 ▸ cut_short hg0
  obtain ⟨S0, hS0⟩ : ∃ S, Li.fileOf Li.place ys0 = S := ⟨_, rfl⟩
  have hSl0 : S0.length ≤ 6000 := by rw [← hS0]; exact file_len rfl rfl hyl0 (fun x hx => (hgy0 x hx).1) hsy0
  obtain ⟨p0, q0, m10, m20, hod0⟩ := odd_of Li.place_kind (fun x hx => (hgy0 x hx).1) hS0 hSl0 d hd bt
  have HOK0 : Hid (Li.readFile Li.place Li.rowK S0 = .ok ys0) := Lib.hid (by have := Li.read_write (ks := Li.rowK) Li.place_kind (fun x hx => (hgy0 x hx).1) []; rw [List.append_nil, if_pos rfl, hS0] at this; exact this)
  have GY0 := Lib.hid hgy0
  have HS0 := Lib.hid hS0
  have HYS0 := Lib.hid hys0
  have OD0 := Lib.hid hod0
  have hpos0 : (0 : Int) < (S0.length : Int) := by have := hod0.pos; omega
  have hz0 : ((S0.length : Int) == 0) = false := beq_eq_false_iff_ne.2 (by omega)
  have hzn0 : (S0.length == 0) = false := beq_eq_false_iff_ne.2 (by omega)
  have hse0 : S0.isEmpty = false := by cases S0 <;> simp at hpos0 ⊢
  obtain ⟨ys1, hys1⟩ : ∃ ys, xs1.map cutX = ys := ⟨_, rfl⟩
  have hyl1 : ys1.length ≤ 8 := by rw [← hys1, List.length_map]; exact h1.len
  have hgy1 := hys1 ▸ cut_all hg1
  have hsy1 := hys1 ▸ cut_short hg1
  obtain ⟨S1, hS1⟩ : ∃ S, Li.fileOf Li.probe ys1 = S := ⟨_, rfl⟩
  have hSl1 : S1.length ≤ 6000 := by rw [← hS1]; exact file_len rfl rfl hyl1 (fun x hx => (hgy1 x hx).1) hsy1
  obtain ⟨p1, q1, m11, m21, hod1⟩ := odd_of Li.probe_kind (fun x hx => (hgy1 x hx).1) hS1 hSl1 d hd bt
  have HOK1 : Hid (Li.readFile Li.probe Li.probeK S1 = .ok ys1) := Lib.hid (by have := Li.read_write (ks := Li.probeK) Li.probe_kind (fun x hx => (hgy1 x hx).1) []; rw [List.append_nil, if_pos rfl, hS1] at this; exact this)
  have GY1 := Lib.hid hgy1
  have HS1 := Lib.hid hS1
  have HYS1 := Lib.hid hys1
  have OD1 := Lib.hid hod1
  have hpos1 : (0 : Int) < (S1.length : Int) := by have := hod1.pos; omega
  have hz1 : ((S1.length : Int) == 0) = false := beq_eq_false_iff_ne.2 (by omega)
  have hzn1 : (S1.length == 0) = false := beq_eq_false_iff_ne.2 (by omega)
  have hse1 : S1.isEmpty = false := by cases S1 <;> simp at hpos1 ⊢
  clear he h0 h1 hg0 hg1 hys0 hys1 hgy0 hgy1 hsy0 hsy1 hS0 hS1 hod0 hod1
  go_enter Tryd.func6, Tryd.ntmps6
  go_wp2_with fail
  refine (sanity_any _ HE.out).mono ?_
  rintro e w1 ⟨rfl, k⟩
  have K1 := Lib.hid k
  clear k
  go_wp2_with fail
  refine (rows_any v0 xs0 _ (H0.out.keep K1.out) G0.out).mono ?_
  rintro e w2 ⟨u2, rfl, hr, k⟩
  rw [HYS0.out] at hr
  have K2 := Lib.hid (K1.out.trans k)
  have R2 := Lib.hid hr
  clear hr k
  go_wp2_with fail
  refine (wrows_lit u2 ys0 S0 _ (HE.out.kp0 K2.out) R2.out (by omega) GY0.out HS0.out).mono ?_
  rintro e w3 ⟨rfl, k⟩
  have K3 := Lib.hid (K2.out.trans k)
  clear k R2
  go_wp2_with fail
  refine (probes_any v1 xs1 _ (H1.out.keep K3.out) G1.out).mono ?_
  rintro e w4 ⟨u4, rfl, hr, k⟩
  rw [HYS1.out] at hr
  have K4 := Lib.hid (K3.out.trans k)
  have R4 := Lib.hid hr
  clear hr k
  go_wp2_with fail
  refine (wprobes_lit u4 ys1 S1 _ (HE.out.kp0 K4.out) R4.out (by omega) GY1.out HS1.out).mono ?_
  rintro e w5 ⟨rfl, k⟩
  have K5 := Lib.hid (K4.out.trans k)
  clear k R4
  go_wp2_with fail
  refine (readRows_any S0 (.ok ys0) _ (HE.out.kp0 K5.out) (by omega) HOK0.out).mono ?_
  rintro e w6 ⟨⟨v6, rfl, hv⟩, k⟩
  have K6 := Lib.hid (K5.out.trans k)
  have R6 := Lib.hid (of_isRows hv (fun x hx => good_six (GY0.out x hx).1 rfl))
  clear hv k
  go_wp2_with fail
  refine (readProbes_any S1 (.ok ys1) _ (HE.out.kp0 K6.out) (by omega) HOK1.out).mono ?_
  rintro e w7 ⟨⟨v7, rfl, hv⟩, k⟩
  have K7 := Lib.hid (K6.out.trans k)
  have R6w7 := Lib.hid (R6.out.keep k)
  clear R6
  have R7 := Lib.hid (of_isRows hv (fun x hx => good_six (GY1.out x hx).1 rfl))
  clear hv k
  go_wp2_with fail
  refine (rows_any v0 xs0 _ (H0.out.keep K7.out) G0.out).mono ?_
  rintro e w8 ⟨u8, rfl, hr, k⟩
  rw [HYS0.out] at hr
  have K8 := Lib.hid (K7.out.trans k)
  have R6w8 := Lib.hid (R6w7.out.keep k)
  clear R6w7
  have R7w8 := Lib.hid (R7.out.keep k)
  clear R7
  have R8 := Lib.hid hr
  clear hr k
  go_wp2_with fail
  refine (sameRows_any v6 u8 ys0 _ R6w8.out R8.out (by omega) (fun x hx => (GY0.out x hx).1)).mono ?_
  rintro e w9 ⟨rfl, nn, hnn⟩
  have k : Kp w8 w9 none := by rw [← hnn]; exact (Kp.refl _ _).drewN _
  have K9 := Lib.hid (K8.out.trans k)
  have R7w9 := Lib.hid (R7w8.out.keep k)
  clear R7w8
  clear hnn k R6w8 R8
  go_wp2_with fail
  refine (probes_any v1 xs1 _ (H1.out.keep K9.out) G1.out).mono ?_
  rintro e w10 ⟨u10, rfl, hr, k⟩
  rw [HYS1.out] at hr
  have K10 := Lib.hid (K9.out.trans k)
  have R7w10 := Lib.hid (R7w9.out.keep k)
  clear R7w9
  have R10 := Lib.hid hr
  clear hr k
  go_wp2_with fail
  refine (sameProbes_any v7 u10 ys1 _ R7w10.out R10.out (by omega) (fun x hx => (GY1.out x hx).1)).mono ?_
  rintro e w11 ⟨rfl, nn, hnn⟩
  have k : Kp w10 w11 none := by rw [← hnn]; exact (Kp.refl _ _).drewN _
  have K11 := Lib.hid (K10.out.trans k)
  clear hnn k R7w10 R10
  go_wp2_with fail
  have hp0 : (0 : Int) ≤ (p0 : Int) := by omega
  have hp1 : (p0 : Int) ≤ (S0.length : Int) := by have := OD0.out.pl; omega
  have hl0 : (0 : Int) ≤ (S0.length : Int) := by omega
  have hln : ((S0.length : Int) == 0) = false := beq_eq_false_iff_ne.2 (by have := OD0.out.pos; omega)
  have hlne : ¬ (S0.length : Int) = 0 := by have := OD0.out.pos; omega
  have hq1 := OD0.out.q1
  have ewa : IntKind.i64.wrap d = d := by exact IntWalk.i64_in _ (by omega)
  have ewq : IntKind.i64.wrap (q0 : Int) = (q0 : Int) := by exact IntWalk.i64_in _ (by have := OD0.out.ql; have := OD0.out.lt; omega)
  have ew1 : IntKind.i64.wrap ((S0.length : Int) - 1) = (S0.length : Int) - 1 := by exact IntWalk.i64_in _ (by have := OD0.out.lt; have := OD0.out.pos; omega)
  have ew2 : IntKind.i64.wrap ((S0.length : Int) - 1 - (q0 : Int)) = (p0 : Int) := by rw [OD0.out.p1]; exact IntWalk.i64_in _ (by have := OD0.out.pl; have := OD0.out.lt; omega)
  obtain ⟨x10, hx1⟩ : ∃ x, S0.take p0 = x := ⟨_, rfl⟩
  have hex : (⟨S0.toArray⟩ : ByteArray).extract 0 p0 = ⟨x10.toArray⟩ := by rw [ext_take, hx1]
  obtain ⟨x20, hx2⟩ : ∃ x, S0 ++ [bt] = x := ⟨_, rfl⟩
  have hca : (⟨S0.toArray⟩ : ByteArray) ++ ⟨[bt].toArray⟩ = ⟨x20.toArray⟩ := by rw [cat_eq, hx2]
  have hca2 : (⟨S0.toArray⟩ : ByteArray) ++ ⟨#[bt]⟩ = ⟨x20.toArray⟩ := hca
  have g0 : (9223372036854775807 < S0.length + 1) = False := eq_false (by have := OD0.out.lt; omega)
  have hnl : ¬ S0 = [] := fun e => by have := OD0.out.pos; rw [e] at this; simp at this
  have hcv2 : (convert 34 9 (.slice (some ⟨w11.heap.size, 0, none⟩) 1 1)).run Tryd.prog ((w11.alloc (.cells #[.int .u8 bt.toNat] 5)).drew) = .ok (.string ⟨[bt].toArray⟩) ((w11.alloc (.cells #[.int .u8 bt.toNat] 5)).drew) := byte_conv bt w11.drew
  have HX1A := Lib.hid hx1
  have HX2A := Lib.hid hx2
  clear hx1 hx2
  go_wp2_with fail
  refine wp_region_held_drew (S := fun _ => True) (by kernel_rfl) ?_ (fun hHeld => ?_)
  · trivial
  refine wpAnyH_take (i := 0) (oi := _) (v := ?_) rfl (by kernel_rfl) (by kernel_rfl) (by kernel_rfl) (fun _ _ _ h => h) (Or.inl ⟨by rfl, ?_⟩) (by assumption) ?_
  rotate_left
  · (intro w hSw; (try dsimp only at hSw); go_simp <;> with_reducible rfl)
  try simp only [Act.put, List.getElem_toArray, List.getElem_cons_zero, List.setIfInBounds_toArray, List.set_cons_zero, List.set_cons_succ]
  refine wpAnyH_take (i := 1) (oi := _) (v := ?_) rfl (by kernel_rfl) (by kernel_rfl) (by kernel_rfl) (fun _ _ _ h => h) (Or.inl ⟨by rfl, ?_⟩) (by assumption) ?_
  rotate_left
  · (intro w hSw; (try dsimp only at hSw); go_simp <;> with_reducible rfl)
  try simp only [Act.put, List.getElem_toArray, List.getElem_cons_zero, List.getElem_cons_succ, List.setIfInBounds_toArray, List.set_cons_zero, List.set_cons_succ]
  refine wpAnyH_take (i := 2) (oi := _) (v := ?_) rfl (by kernel_rfl) (by kernel_rfl) (by kernel_rfl) (fun _ _ _ h => h) (Or.inl ⟨by rfl, ?_⟩) (by assumption) ?_
  rotate_left
  · (intro w hSw; (try dsimp only at hSw); go_simp <;> with_reducible rfl)
  try simp only [Act.put, List.getElem_toArray, List.getElem_cons_zero, List.getElem_cons_succ, List.setIfInBounds_toArray, List.set_cons_zero, List.set_cons_succ]
  refine wpAnyH_take (i := 3) (oi := _) (v := ?_) rfl (by kernel_rfl) (by kernel_rfl) (by kernel_rfl) (fun _ _ _ h => h) (Or.inl ⟨by rfl, ?_⟩) (by assumption) ?_
  rotate_left
  · (intro w hSw; (try dsimp only at hSw); go_simp <;> with_reducible rfl)
  try simp only [Act.put, List.getElem_toArray, List.getElem_cons_zero, List.getElem_cons_succ, List.setIfInBounds_toArray, List.set_cons_zero, List.set_cons_succ]
  refine wpAnyH_take (i := 4) (oi := _) (v := ?_) rfl (by kernel_rfl) (by kernel_rfl) (by kernel_rfl) (fun _ _ _ h => h) (Or.inl ⟨by rfl, ?_⟩) (by assumption) ?_
  rotate_left
  · (intro w hSw; (try dsimp only at hSw); go_simp <;> with_reducible rfl)
  try simp only [Act.put, List.getElem_toArray, List.getElem_cons_zero, List.getElem_cons_succ, List.setIfInBounds_toArray, List.set_cons_zero, List.set_cons_succ]
  refine wpAnyH_take (i := 5) (oi := _) (v := ?_) rfl (by kernel_rfl) (by kernel_rfl) (by kernel_rfl) (fun _ _ _ h => h) (Or.inl ⟨by rfl, ?_⟩) (by assumption) ?_
  rotate_left
  · (intro w hSw; (try dsimp only at hSw); go_simp <;> with_reducible rfl)
  try simp only [Act.put, List.getElem_toArray, List.getElem_cons_zero, List.getElem_cons_succ, List.setIfInBounds_toArray, List.set_cons_zero, List.set_cons_succ]
  refine wpAnyH_take (i := 6) (oi := _) (v := ?_) rfl (by kernel_rfl) (by kernel_rfl) (by kernel_rfl) (fun _ _ _ h => h) (Or.inl ⟨by rfl, ?_⟩) (by assumption) ?_
  rotate_left
  · (intro w hSw; (try dsimp only at hSw); go_simp <;> with_reducible rfl)
  try simp only [Act.put, List.getElem_toArray, List.getElem_cons_zero, List.getElem_cons_succ, List.setIfInBounds_toArray, List.set_cons_zero, List.set_cons_succ]
  refine wpAnyH_take (i := 7) (oi := _) (v := ?_) rfl (by kernel_rfl) (by kernel_rfl) (by kernel_rfl) (fun _ _ _ h => h) (Or.inl ⟨by rfl, ?_⟩) (by assumption) ?_
  rotate_left
  · (intro w hSw; (try dsimp only at hSw); go_simp <;> with_reducible rfl)
  try simp only [Act.put, List.getElem_toArray, List.getElem_cons_zero, List.getElem_cons_succ, List.setIfInBounds_toArray, List.set_cons_zero, List.set_cons_succ]
  refine wpAnyH_take (i := 8) (oi := _) (v := ?_) rfl (by kernel_rfl) (by kernel_rfl) (by kernel_rfl) (fun _ _ _ h => h) (Or.inl ⟨by rfl, ?_⟩) (by assumption) ?_
  rotate_left
  · (intro w hSw; (try dsimp only at hSw); go_simp <;> with_reducible rfl)
  try simp only [Act.put, List.getElem_toArray, List.getElem_cons_zero, List.getElem_cons_succ, List.setIfInBounds_toArray, List.set_cons_zero, List.set_cons_succ]
  refine wpAnyH_take (i := 9) (oi := _) (v := ?_) rfl (by kernel_rfl) (by kernel_rfl) (by kernel_rfl) (fun _ _ _ h => h) (Or.inl ⟨by rfl, ?_⟩) (by assumption) ?_
  rotate_left
  · (intro w hSw; (try dsimp only at hSw); go_simp <;> with_reducible rfl)
  try simp only [Act.put, List.getElem_toArray, List.getElem_cons_zero, List.getElem_cons_succ, List.setIfInBounds_toArray, List.set_cons_zero, List.set_cons_succ]
  refine wpAnyH_take (i := 10) (oi := _) (v := ?_) rfl (by kernel_rfl) (by kernel_rfl) (by kernel_rfl) (fun _ _ _ h => h) (Or.inl ⟨by rfl, ?_⟩) (by assumption) ?_
  rotate_left
  · (intro w hSw; (try dsimp only at hSw); go_simp <;> with_reducible rfl)
  try simp only [Act.put, List.getElem_toArray, List.getElem_cons_zero, List.getElem_cons_succ, List.setIfInBounds_toArray, List.set_cons_zero, List.set_cons_succ]
  refine wpAnyH_take (i := 11) (oi := _) (v := ?_) rfl (by kernel_rfl) (by kernel_rfl) (by kernel_rfl) (fun _ _ _ h => h) (Or.inl ⟨by rfl, ?_⟩) (by assumption) ?_
  rotate_left
  · (intro w hSw; (try dsimp only at hSw); go_simp <;> with_reducible rfl)
  try simp only [Act.put, List.getElem_toArray, List.getElem_cons_zero, List.getElem_cons_succ, List.setIfInBounds_toArray, List.set_cons_zero, List.set_cons_succ]
  refine wpAnyH_take (i := 12) (oi := _) (v := ?_) rfl (by kernel_rfl) (by kernel_rfl) (by kernel_rfl) (fun _ _ _ h => h) (Or.inl ⟨by rfl, ?_⟩) (by assumption) ?_
  rotate_left
  · (intro w hSw; (try dsimp only at hSw); go_simp <;> with_reducible rfl)
  try simp only [Act.put, List.getElem_toArray, List.getElem_cons_zero, List.getElem_cons_succ, List.setIfInBounds_toArray, List.set_cons_zero, List.set_cons_succ]
  refine wpAnyH_take (i := 18) (oi := _) (v := ?_) rfl (by kernel_rfl) (by kernel_rfl) (by kernel_rfl) (fun _ _ _ h => h) (Or.inl ⟨by rfl, ?_⟩) (by assumption) ?_
  rotate_left
  · (intro w hSw; (try dsimp only at hSw); go_simp <;> with_reducible rfl)
  try simp only [Act.put, List.getElem_toArray, List.getElem_cons_zero, List.getElem_cons_succ, List.setIfInBounds_toArray, List.set_cons_zero, List.set_cons_succ]
  refine wpAnyH_ready (rs := [13]) (by kernel_rfl) (by simp) ?_
  refine AllReadyH.cons (o := _) rfl (fun K hK => ?_) AllReadyH.nil
  clear hHeld
  go_simp
  try go_wp2_with fail
  refine hK.out _ _ trivial (fun hHeld => ?_)
  clear hK K
  try simp only [Act.put, List.getElem_toArray, List.getElem_cons_zero, List.getElem_cons_succ, List.setIfInBounds_toArray, List.set_cons_zero, List.set_cons_succ]
  refine wpAnyH_ready (rs := [14]) (by kernel_rfl) (by simp) ?_
  refine AllReadyH.cons (o := _) rfl (fun K hK => ?_) AllReadyH.nil
  clear hHeld
  go_simp
  try go_wp2_with fail
  refine hK.out _ _ trivial (fun hHeld => ?_)
  clear hK K
  try simp only [Act.put, List.getElem_toArray, List.getElem_cons_zero, List.getElem_cons_succ, List.setIfInBounds_toArray, List.set_cons_zero, List.set_cons_succ]
  refine wpAnyH_take (i := 15) (oi := _) (v := ?_) rfl (by kernel_rfl) (by kernel_rfl) (by kernel_rfl) (fun _ _ _ h => h) (Or.inl ⟨by rfl, ?_⟩) (by assumption) ?_
  rotate_left
  · (intro w hSw; (try dsimp only at hSw); go_simp <;> with_reducible rfl)
  try simp only [Act.put, List.getElem_toArray, List.getElem_cons_zero, List.getElem_cons_succ, List.setIfInBounds_toArray, List.set_cons_zero, List.set_cons_succ]
  refine wpAnyH_ready (rs := [16]) (by kernel_rfl) (by simp) ?_
  refine AllReadyH.cons (o := _) rfl (fun K hK => ?_) AllReadyH.nil
  clear hHeld
  go_simp
  try go_wp2_with fail
  refine hK.out _ _ trivial (fun hHeld => ?_)
  clear hK K
  try simp only [Act.put, List.getElem_toArray, List.getElem_cons_zero, List.getElem_cons_succ, List.setIfInBounds_toArray, List.set_cons_zero, List.set_cons_succ]
  refine wpAnyH_ready (rs := [17]) (by kernel_rfl) (by simp) ?_
  refine AllReadyH.cons (o := _) rfl (fun K hK => ?_) AllReadyH.nil
  clear hHeld
  go_simp
  try go_wp2_with fail
  refine hK.out _ _ trivial (fun hHeld => ?_)
  clear hK K hHeld
  refine wpAnyH_done (by kernel_rfl) ?_ _
  clear hnl hp0 hp1 hq1 ewa ewq ew1 ew2 hex hca hca2 g0 hcv2 hl0 hln hlne
  go_wp2_with fail
  have HBKA : Hid (((w11.alloc (.cells #[.int .u8 bt.toNat] 5)).alloc (.cells #[.string ⟨x10.toArray⟩, .string ⟨x20.toArray⟩] 9)).drew.heap[w11.heap.size + 1]? = some (.cells #[.string ⟨x10.toArray⟩, .string ⟨x20.toArray⟩] 9 (0, 0))) := Lib.hid (heap_new2 w11 _ _)
  have KBA : Hid (Kp w ((w11.alloc (.cells #[.int .u8 bt.toNat] 5)).alloc (.cells #[.string ⟨x10.toArray⟩, .string ⟨x20.toArray⟩] 9)).drew none) := Lib.hid (((K11.out.alloc _).alloc _).drew)
  obtain ⟨wBA, hwB⟩ : ∃ wB, ((w11.alloc (.cells #[.int .u8 bt.toNat] 5)).alloc (.cells #[.string ⟨x10.toArray⟩, .string ⟨x20.toArray⟩] 9)).drew = wB := ⟨_, rfl⟩
  rw [hwB] at HBKA KBA
  go_loopw [103] (fun v wr => TwoRel wBA v wr) (fun v _ => 2 - (intOf v).toNat)
  case atStart => exact ⟨0, by omega, rfl, by rw [← hwB]; exact Kp.refl _ _⟩
  case round =>
    clear hwB
    obtain ⟨j, hj, rfl, hK⟩ := hrel
    have KRA := Lib.hid (KBA.out.trans hK)
    have HKA := Lib.hid hK
    clear hK
    rcases (show j = 0 ∨ j = 1 ∨ j = 2 by omega) with rfl | rfl | rfl
    · have cX : wr.cell? ⟨w11.heap.size + 1, 0, none⟩ = some (.string ⟨x10.toArray⟩) := ckr HBKA.out HKA.out (by simp) 0 rfl
      have hm1 : ¬ (m10 : Int) < 1 := by have := OD0.out.b1; omega
      have hm2 : (1 : Int) ≤ (m10 : Int) := by have := OD0.out.b1; omega
      have hm3 : (m10 : Int) ≤ 8000 := by have := OD0.out.b1; omega
      go_wp2_with fail
      clear cX
      refine (readRows_any x10 (.bad m10) _ (HE.out.kp0 KRA.out) (by rw [← HX1A.out]; have := OD0.out.lt; simp; omega) (by rw [← HX1A.out]; exact OD0.out.r1)).mono ?_
      rintro e w9 ⟨rfl, k⟩
      have HREL : Hid (TwoRel wBA (.int .i64 1) w9) := Lib.hid ⟨1, by omega, rfl, HKA.out.trans k⟩
      clear k
      go_wp2_with fail
      first | exact ⟨HREL.out, by simp [intOf]⟩ | (go_roundw; all_goals first | exact HREL.out | (simp [intOf]; done) | ((repeat apply Exists.intro); exact ⟨HREL.out, rfl⟩))
    · have cX : wr.cell? ⟨w11.heap.size + 1, 1, none⟩ = some (.string ⟨x20.toArray⟩) := ckr HBKA.out HKA.out (by simp) 1 rfl
      have hm1 : ¬ (m20 : Int) < 1 := by have := OD0.out.b2; omega
      have hm2 : (1 : Int) ≤ (m20 : Int) := by have := OD0.out.b2; omega
      have hm3 : (m20 : Int) ≤ 8000 := by have := OD0.out.b2; omega
      go_wp2_with fail
      clear cX
      refine (readRows_any x20 (.bad m20) _ (HE.out.kp0 KRA.out) (by rw [← HX2A.out]; have := OD0.out.lt; simp; omega) (by rw [← HX2A.out]; exact OD0.out.r2)).mono ?_
      rintro e w9 ⟨rfl, k⟩
      have HREL : Hid (TwoRel wBA (.int .i64 2) w9) := Lib.hid ⟨2, by omega, rfl, HKA.out.trans k⟩
      clear k
      go_wp2_with fail
      first | exact ⟨HREL.out, by simp [intOf]⟩ | (go_roundw; all_goals first | exact HREL.out | (simp [intOf]; done) | ((repeat apply Exists.intro); exact ⟨HREL.out, rfl⟩))
    · go_wp2_with fail
      obtain ⟨wo, rfl⟩ : ∃ wo : World, wo = wr := ⟨_, rfl⟩
      have hp0 : (0 : Int) ≤ (p1 : Int) := by omega
      have hp1 : (p1 : Int) ≤ (S1.length : Int) := by have := OD1.out.pl; omega
      have hl0 : (0 : Int) ≤ (S1.length : Int) := by omega
      have hln : ((S1.length : Int) == 0) = false := beq_eq_false_iff_ne.2 (by have := OD1.out.pos; omega)
      have hlne : ¬ (S1.length : Int) = 0 := by have := OD1.out.pos; omega
      have hq1 := OD1.out.q1
      have ewa : IntKind.i64.wrap d = d := by exact IntWalk.i64_in _ (by omega)
      have ewq : IntKind.i64.wrap (q1 : Int) = (q1 : Int) := by exact IntWalk.i64_in _ (by have := OD1.out.ql; have := OD1.out.lt; omega)
      have ew1 : IntKind.i64.wrap ((S1.length : Int) - 1) = (S1.length : Int) - 1 := by exact IntWalk.i64_in _ (by have := OD1.out.lt; have := OD1.out.pos; omega)
      have ew2 : IntKind.i64.wrap ((S1.length : Int) - 1 - (q1 : Int)) = (p1 : Int) := by rw [OD1.out.p1]; exact IntWalk.i64_in _ (by have := OD1.out.pl; have := OD1.out.lt; omega)
      obtain ⟨x11, hx1⟩ : ∃ x, S1.take p1 = x := ⟨_, rfl⟩
      have hex : (⟨S1.toArray⟩ : ByteArray).extract 0 p1 = ⟨x11.toArray⟩ := by rw [ext_take, hx1]
      obtain ⟨x21, hx2⟩ : ∃ x, S1 ++ [bt] = x := ⟨_, rfl⟩
      have hca : (⟨S1.toArray⟩ : ByteArray) ++ ⟨[bt].toArray⟩ = ⟨x21.toArray⟩ := by rw [cat_eq, hx2]
      have hca2 : (⟨S1.toArray⟩ : ByteArray) ++ ⟨#[bt]⟩ = ⟨x21.toArray⟩ := hca
      have g0 : (9223372036854775807 < S1.length + 1) = False := eq_false (by have := OD1.out.lt; omega)
      have hnl : ¬ S1 = [] := fun e => by have := OD1.out.pos; rw [e] at this; simp at this
      have hcv2 : (convert 34 9 (.slice (some ⟨wo.heap.size, 0, none⟩) 1 1)).run Tryd.prog ((wo.alloc (.cells #[.int .u8 bt.toNat] 5)).drew) = .ok (.string ⟨[bt].toArray⟩) ((wo.alloc (.cells #[.int .u8 bt.toNat] 5)).drew) := byte_conv bt wo.drew
      have HX1B := Lib.hid hx1
      have HX2B := Lib.hid hx2
      clear hx1 hx2
      go_wp2_with fail
      refine wp_region_held_drew (S := fun _ => True) (by kernel_rfl) ?_ (fun hHeld => ?_)
      · trivial
      refine wpAnyH_take (i := 0) (oi := _) (v := ?_) rfl (by kernel_rfl) (by kernel_rfl) (by kernel_rfl) (fun _ _ _ h => h) (Or.inl ⟨by rfl, ?_⟩) (by assumption) ?_
      rotate_left
      · (intro w hSw; (try dsimp only at hSw); go_simp <;> with_reducible rfl)
      try simp only [Act.put, List.getElem_toArray, List.getElem_cons_zero, List.setIfInBounds_toArray, List.set_cons_zero, List.set_cons_succ]
      refine wpAnyH_take (i := 1) (oi := _) (v := ?_) rfl (by kernel_rfl) (by kernel_rfl) (by kernel_rfl) (fun _ _ _ h => h) (Or.inl ⟨by rfl, ?_⟩) (by assumption) ?_
      rotate_left
      · (intro w hSw; (try dsimp only at hSw); go_simp <;> with_reducible rfl)
      try simp only [Act.put, List.getElem_toArray, List.getElem_cons_zero, List.getElem_cons_succ, List.setIfInBounds_toArray, List.set_cons_zero, List.set_cons_succ]
      refine wpAnyH_take (i := 2) (oi := _) (v := ?_) rfl (by kernel_rfl) (by kernel_rfl) (by kernel_rfl) (fun _ _ _ h => h) (Or.inl ⟨by rfl, ?_⟩) (by assumption) ?_
      rotate_left
      · (intro w hSw; (try dsimp only at hSw); go_simp <;> with_reducible rfl)
      try simp only [Act.put, List.getElem_toArray, List.getElem_cons_zero, List.getElem_cons_succ, List.setIfInBounds_toArray, List.set_cons_zero, List.set_cons_succ]
      refine wpAnyH_take (i := 3) (oi := _) (v := ?_) rfl (by kernel_rfl) (by kernel_rfl) (by kernel_rfl) (fun _ _ _ h => h) (Or.inl ⟨by rfl, ?_⟩) (by assumption) ?_
      rotate_left
      · (intro w hSw; (try dsimp only at hSw); go_simp <;> with_reducible rfl)
      try simp only [Act.put, List.getElem_toArray, List.getElem_cons_zero, List.getElem_cons_succ, List.setIfInBounds_toArray, List.set_cons_zero, List.set_cons_succ]
      refine wpAnyH_take (i := 4) (oi := _) (v := ?_) rfl (by kernel_rfl) (by kernel_rfl) (by kernel_rfl) (fun _ _ _ h => h) (Or.inl ⟨by rfl, ?_⟩) (by assumption) ?_
      rotate_left
      · (intro w hSw; (try dsimp only at hSw); go_simp <;> with_reducible rfl)
      try simp only [Act.put, List.getElem_toArray, List.getElem_cons_zero, List.getElem_cons_succ, List.setIfInBounds_toArray, List.set_cons_zero, List.set_cons_succ]
      refine wpAnyH_take (i := 5) (oi := _) (v := ?_) rfl (by kernel_rfl) (by kernel_rfl) (by kernel_rfl) (fun _ _ _ h => h) (Or.inl ⟨by rfl, ?_⟩) (by assumption) ?_
      rotate_left
      · (intro w hSw; (try dsimp only at hSw); go_simp <;> with_reducible rfl)
      try simp only [Act.put, List.getElem_toArray, List.getElem_cons_zero, List.getElem_cons_succ, List.setIfInBounds_toArray, List.set_cons_zero, List.set_cons_succ]
      refine wpAnyH_take (i := 6) (oi := _) (v := ?_) rfl (by kernel_rfl) (by kernel_rfl) (by kernel_rfl) (fun _ _ _ h => h) (Or.inl ⟨by rfl, ?_⟩) (by assumption) ?_
      rotate_left
      · (intro w hSw; (try dsimp only at hSw); go_simp <;> with_reducible rfl)
      try simp only [Act.put, List.getElem_toArray, List.getElem_cons_zero, List.getElem_cons_succ, List.setIfInBounds_toArray, List.set_cons_zero, List.set_cons_succ]
      refine wpAnyH_take (i := 7) (oi := _) (v := ?_) rfl (by kernel_rfl) (by kernel_rfl) (by kernel_rfl) (fun _ _ _ h => h) (Or.inl ⟨by rfl, ?_⟩) (by assumption) ?_
      rotate_left
      · (intro w hSw; (try dsimp only at hSw); go_simp <;> with_reducible rfl)
      try simp only [Act.put, List.getElem_toArray, List.getElem_cons_zero, List.getElem_cons_succ, List.setIfInBounds_toArray, List.set_cons_zero, List.set_cons_succ]
      refine wpAnyH_take (i := 8) (oi := _) (v := ?_) rfl (by kernel_rfl) (by kernel_rfl) (by kernel_rfl) (fun _ _ _ h => h) (Or.inl ⟨by rfl, ?_⟩) (by assumption) ?_
      rotate_left
      · (intro w hSw; (try dsimp only at hSw); go_simp <;> with_reducible rfl)
      try simp only [Act.put, List.getElem_toArray, List.getElem_cons_zero, List.getElem_cons_succ, List.setIfInBounds_toArray, List.set_cons_zero, List.set_cons_succ]
      refine wpAnyH_take (i := 9) (oi := _) (v := ?_) rfl (by kernel_rfl) (by kernel_rfl) (by kernel_rfl) (fun _ _ _ h => h) (Or.inl ⟨by rfl, ?_⟩) (by assumption) ?_
      rotate_left
      · (intro w hSw; (try dsimp only at hSw); go_simp <;> with_reducible rfl)
      try simp only [Act.put, List.getElem_toArray, List.getElem_cons_zero, List.getElem_cons_succ, List.setIfInBounds_toArray, List.set_cons_zero, List.set_cons_succ]
      refine wpAnyH_take (i := 10) (oi := _) (v := ?_) rfl (by kernel_rfl) (by kernel_rfl) (by kernel_rfl) (fun _ _ _ h => h) (Or.inl ⟨by rfl, ?_⟩) (by assumption) ?_
      rotate_left
      · (intro w hSw; (try dsimp only at hSw); go_simp <;> with_reducible rfl)
      try simp only [Act.put, List.getElem_toArray, List.getElem_cons_zero, List.getElem_cons_succ, List.setIfInBounds_toArray, List.set_cons_zero, List.set_cons_succ]
      refine wpAnyH_take (i := 11) (oi := _) (v := ?_) rfl (by kernel_rfl) (by kernel_rfl) (by kernel_rfl) (fun _ _ _ h => h) (Or.inl ⟨by rfl, ?_⟩) (by assumption) ?_
      rotate_left
      · (intro w hSw; (try dsimp only at hSw); go_simp <;> with_reducible rfl)
      try simp only [Act.put, List.getElem_toArray, List.getElem_cons_zero, List.getElem_cons_succ, List.setIfInBounds_toArray, List.set_cons_zero, List.set_cons_succ]
      refine wpAnyH_take (i := 12) (oi := _) (v := ?_) rfl (by kernel_rfl) (by kernel_rfl) (by kernel_rfl) (fun _ _ _ h => h) (Or.inl ⟨by rfl, ?_⟩) (by assumption) ?_
      rotate_left
      · (intro w hSw; (try dsimp only at hSw); go_simp <;> with_reducible rfl)
      try simp only [Act.put, List.getElem_toArray, List.getElem_cons_zero, List.getElem_cons_succ, List.setIfInBounds_toArray, List.set_cons_zero, List.set_cons_succ]
      refine wpAnyH_take (i := 18) (oi := _) (v := ?_) rfl (by kernel_rfl) (by kernel_rfl) (by kernel_rfl) (fun _ _ _ h => h) (Or.inl ⟨by rfl, ?_⟩) (by assumption) ?_
      rotate_left
      · (intro w hSw; (try dsimp only at hSw); go_simp <;> with_reducible rfl)
      try simp only [Act.put, List.getElem_toArray, List.getElem_cons_zero, List.getElem_cons_succ, List.setIfInBounds_toArray, List.set_cons_zero, List.set_cons_succ]
      refine wpAnyH_ready (rs := [13]) (by kernel_rfl) (by simp) ?_
      refine AllReadyH.cons (o := _) rfl (fun K hK => ?_) AllReadyH.nil
      clear hHeld
      go_simp
      try go_wp2_with fail
      refine hK.out _ _ trivial (fun hHeld => ?_)
      clear hK K
      try simp only [Act.put, List.getElem_toArray, List.getElem_cons_zero, List.getElem_cons_succ, List.setIfInBounds_toArray, List.set_cons_zero, List.set_cons_succ]
      refine wpAnyH_ready (rs := [14]) (by kernel_rfl) (by simp) ?_
      refine AllReadyH.cons (o := _) rfl (fun K hK => ?_) AllReadyH.nil
      clear hHeld
      go_simp
      try go_wp2_with fail
      refine hK.out _ _ trivial (fun hHeld => ?_)
      clear hK K
      try simp only [Act.put, List.getElem_toArray, List.getElem_cons_zero, List.getElem_cons_succ, List.setIfInBounds_toArray, List.set_cons_zero, List.set_cons_succ]
      refine wpAnyH_take (i := 15) (oi := _) (v := ?_) rfl (by kernel_rfl) (by kernel_rfl) (by kernel_rfl) (fun _ _ _ h => h) (Or.inl ⟨by rfl, ?_⟩) (by assumption) ?_
      rotate_left
      · (intro w hSw; (try dsimp only at hSw); go_simp <;> with_reducible rfl)
      try simp only [Act.put, List.getElem_toArray, List.getElem_cons_zero, List.getElem_cons_succ, List.setIfInBounds_toArray, List.set_cons_zero, List.set_cons_succ]
      refine wpAnyH_ready (rs := [16]) (by kernel_rfl) (by simp) ?_
      refine AllReadyH.cons (o := _) rfl (fun K hK => ?_) AllReadyH.nil
      clear hHeld
      go_simp
      try go_wp2_with fail
      refine hK.out _ _ trivial (fun hHeld => ?_)
      clear hK K
      try simp only [Act.put, List.getElem_toArray, List.getElem_cons_zero, List.getElem_cons_succ, List.setIfInBounds_toArray, List.set_cons_zero, List.set_cons_succ]
      refine wpAnyH_ready (rs := [17]) (by kernel_rfl) (by simp) ?_
      refine AllReadyH.cons (o := _) rfl (fun K hK => ?_) AllReadyH.nil
      clear hHeld
      go_simp
      try go_wp2_with fail
      refine hK.out _ _ trivial (fun hHeld => ?_)
      clear hK K hHeld
      refine wpAnyH_done (by kernel_rfl) ?_ _
      clear hnl hp0 hp1 hq1 ewa ewq ew1 ew2 hex hca hca2 g0 hcv2 hl0 hln hlne
      go_wp2_with fail
      have HBKB : Hid (((wo.alloc (.cells #[.int .u8 bt.toNat] 5)).alloc (.cells #[.string ⟨x11.toArray⟩, .string ⟨x21.toArray⟩] 9)).drew.heap[wo.heap.size + 1]? = some (.cells #[.string ⟨x11.toArray⟩, .string ⟨x21.toArray⟩] 9 (0, 0))) := Lib.hid (heap_new2 wo _ _)
      have KBB : Hid (Kp w ((wo.alloc (.cells #[.int .u8 bt.toNat] 5)).alloc (.cells #[.string ⟨x11.toArray⟩, .string ⟨x21.toArray⟩] 9)).drew none) := Lib.hid (((KRA.out.alloc _).alloc _).drew)
      obtain ⟨wBB, hwB⟩ : ∃ wB, ((wo.alloc (.cells #[.int .u8 bt.toNat] 5)).alloc (.cells #[.string ⟨x11.toArray⟩, .string ⟨x21.toArray⟩] 9)).drew = wB := ⟨_, rfl⟩
      rw [hwB] at HBKB KBB
      go_loopw [143] (fun v wr => TwoRel wBB v wr) (fun v _ => 2 - (intOf v).toNat)
      case atStart => exact ⟨0, by omega, rfl, by rw [← hwB]; exact Kp.refl _ _⟩
      case round =>
        clear hwB
        obtain ⟨j, hj, rfl, hK⟩ := hrel
        have KRB := Lib.hid (KBB.out.trans hK)
        have HKB := Lib.hid hK
        clear hK
        rcases (show j = 0 ∨ j = 1 ∨ j = 2 by omega) with rfl | rfl | rfl
        · have cX : wr.cell? ⟨wo.heap.size + 1, 0, none⟩ = some (.string ⟨x11.toArray⟩) := ckr HBKB.out HKB.out (by simp) 0 rfl
          have hm1 : ¬ (m11 : Int) < 1 := by have := OD1.out.b1; omega
          have hm2 : (1 : Int) ≤ (m11 : Int) := by have := OD1.out.b1; omega
          have hm3 : (m11 : Int) ≤ 8000 := by have := OD1.out.b1; omega
          go_wp2_with fail
          clear cX
          refine (readProbes_any x11 (.bad m11) _ (HE.out.kp0 KRB.out) (by rw [← HX1B.out]; have := OD1.out.lt; simp; omega) (by rw [← HX1B.out]; exact OD1.out.r1)).mono ?_
          rintro e w9 ⟨rfl, k⟩
          have HREL : Hid (TwoRel wBB (.int .i64 1) w9) := Lib.hid ⟨1, by omega, rfl, HKB.out.trans k⟩
          clear k
          go_wp2_with fail
          first | exact ⟨HREL.out, by simp [intOf]⟩ | (go_roundw; all_goals first | exact HREL.out | (simp [intOf]; done) | ((repeat apply Exists.intro); exact ⟨HREL.out, rfl⟩))
        · have cX : wr.cell? ⟨wo.heap.size + 1, 1, none⟩ = some (.string ⟨x21.toArray⟩) := ckr HBKB.out HKB.out (by simp) 1 rfl
          have hm1 : ¬ (m21 : Int) < 1 := by have := OD1.out.b2; omega
          have hm2 : (1 : Int) ≤ (m21 : Int) := by have := OD1.out.b2; omega
          have hm3 : (m21 : Int) ≤ 8000 := by have := OD1.out.b2; omega
          go_wp2_with fail
          clear cX
          refine (readProbes_any x21 (.bad m21) _ (HE.out.kp0 KRB.out) (by rw [← HX2B.out]; have := OD1.out.lt; simp; omega) (by rw [← HX2B.out]; exact OD1.out.r2)).mono ?_
          rintro e w9 ⟨rfl, k⟩
          have HREL : Hid (TwoRel wBB (.int .i64 2) w9) := Lib.hid ⟨2, by omega, rfl, HKB.out.trans k⟩
          clear k
          go_wp2_with fail
          first | exact ⟨HREL.out, by simp [intOf]⟩ | (go_roundw; all_goals first | exact HREL.out | (simp [intOf]; done) | ((repeat apply Exists.intro); exact ⟨HREL.out, rfl⟩))
        · go_wp2_with fail
          go_ret
          exact ⟨rfl, KRB.out⟩

end Go.Proofs.YtldjhjbodhhnbaaDoor
