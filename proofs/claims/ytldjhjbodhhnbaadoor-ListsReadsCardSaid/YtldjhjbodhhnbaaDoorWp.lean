/- The lists' files, as the program writes them, for test points; and for lists that are empty. Conditions: at most 2^16 elements, strings of at most 2^10 bytes. -/
import Derived.Test.YtldjhjbodhhnbaaDoorWf
namespace Go.Proofs.YtldjhjbodhhnbaaDoor
open Go.RowKit

set_option maxHeartbeats 8000000 in
set_option maxRecDepth 100000 in
theorem writeProbe_row (b off cap : Nat) (kind : List UInt8) (hkind : kind.length ≤ 16) (xs : List (List Li.Fld)) (w : World) (he : Env w) (hb : b < w.heap.size) (_hcap : xs.length ≤ cap) (hl : xs.length ≤ 65536)
    (hrow : ∀ k, (h : k < xs.length) → ∀ j, (h2 : j < xs[k].length) → w.cell? ⟨b, off + k * 6 + j, none⟩ = some (fldVal xs[k][j])) (hg : ∀ x ∈ xs, Li.Good Li.probeK x ∧ Short x) :
    Calls Tryd.prog 28 #[.slice (some ⟨b, off, none⟩) xs.length cap, .string ⟨kind.toArray⟩, .func (.func 29) #[] #[]] w fun e w' => e = .returned (.string ⟨(Li.fileOf kind xs).toArray⟩) ∧ Kp w w' none := by
  have HE := Lib.hid he
  have HROW := Lib.hid hrow
  have HG := Lib.hid hg
  have hx6 : ∀ x ∈ xs, (∀ f ∈ x, f.ok) ∧ Short x ∧ x.length = 6 := fun x hx => ⟨(hg x hx).1.2, (hg x hx).2, by have := congrArg List.length (hg x hx).1.1; rw [List.length_map] at this; exact this⟩
  have HX6 := Lib.hid hx6
  have HLEN := Lib.hid (linesTo_length kind xs hx6 hkind)
  clear he hrow hg hx6
  have H0 := Lib.hid (Lib.IsBuilderF.of (Lib.fresh_isBuilder 71 5 w))
  have K0 : Hid (Kp w (w.alloc (.cells #[.pointer none, .slice none 0 0] 71)) none) := (Kp.refl _ _).alloc _
  go_enter Tryd.func28, Tryd.ntmps28
  go_wp2_with fail
  go_loopw [16] (fun i wr => OuterRel w kind xs i wr) (fun i _ => xs.length - (intOf i).toNat)
  case atStart => exact ⟨0, Nat.zero_le _, rfl, H0.out, K0.out⟩
  case round =>
    obtain ⟨k, hk, rfl, hB, hK⟩ := hrel
    have HB := Lib.hid hB
    have HK := Lib.hid hK
    clear hB hK H0 K0
    have hbz := HK.out.size
    have hL := HLEN.out k hk
    by_cases hlt : k < xs.length
    · obtain ⟨x, hx⟩ : ∃ x, xs[k] = x := ⟨_, rfl⟩
      have h6 := HX6.out x (by rw [← hx]; exact List.getElem_mem hlt)
      have hfl := flat_length x h6.1 h6.2.1
      have hx6 : x.length = 6 := h6.2.2
      have HXR : Hid (∀ j, (h2 : j < x.length) → w.cell? ⟨b, off + k * 6 + j, none⟩ = some (fldVal x[j])) := Lib.hid (by subst hx; exact HROW.out k hlt)
      have HGX : Hid (Li.Good Li.probeK x ∧ Short x) := Lib.hid (by subst hx; exact HG.out _ (List.getElem_mem hlt))
      have HX := Lib.hid hx
      clear hx h6
      have hk0 : (0 : Int) ≤ (k : Int) := Int.natCast_nonneg _
      have hk1 : (k : Int) < (xs.length : Int) := by omega
      go_wp2_with (first
        | (go_at_call 35; refine (writeString_any w.heap.size w.heap.size _ _ _ HB.out (wr_bound _ _ (by omega)) hbz).mono ?_; rintro e w1 ⟨rfl, h1, b1, _⟩; have H1 := Lib.hid h1; have B1 := Lib.hid b1; clear h1 b1)
        | (go_at_call 29; refine (probe_any _ _ _).mono ?_; rintro e w2 ⟨rfl, k2, h2⟩; have K2 := Lib.hid k2; have H2 := Lib.hid h2; clear k2 h2))
      obtain ⟨wo, rfl⟩ : ∃ wo : World, wo = wr := ⟨_, rfl⟩
      have HB1 : Hid (Bld w (linesTo kind xs k ++ kind) w1) := Lib.hid (.inr (by rw [← cells_str]; exact H1.out))
      have HB2 : Hid (Bld w (linesTo kind xs k ++ kind) w2) := Lib.hid (builder_kp HB1.out K2.out)
      have HK2 : Hid (Kp w w2 none) := Lib.hid ((Kp.of_below (HK.out.below.trans B1.out)).trans K2.out)
      have hz1 : w.heap.size ≤ w1.heap.size := by have := B1.out.size; omega
      have HNB : Hid (w1.heap.size ≠ w.heap.size) := Lib.hid (by have := lt_of_bld HB1.out; omega)
      clear H1 B1 HB HB1 K2
      obtain ⟨rc, ra, rb, rx, ry, rt, rfl, hirc, hirx, hiry, hirt⟩ := Li.good_probe HGX.out.1
      have HFT : Hid (∀ j, (flat (List.take j [Li.Fld.i rc, Li.Fld.s ra, Li.Fld.s rb, Li.Fld.i rx, Li.Fld.i ry, Li.Fld.i rt])).length ≤ 4718610) := Lib.hid (fun j => by
        have h1 := flat_length (List.take j [Li.Fld.i rc, Li.Fld.s ra, Li.Fld.s rb, Li.Fld.i rx, Li.Fld.i ry, Li.Fld.i rt]) (fun f hf => HGX.out.1.2 f (List.mem_of_mem_take hf)) (fun t ht => HGX.out.2 t (List.mem_of_mem_take ht))
        have h2 : (List.take j [Li.Fld.i rc, Li.Fld.s ra, Li.Fld.s rb, Li.Fld.i rx, Li.Fld.i ry, Li.Fld.i rt]).length ≤ 6 := by rw [List.length_take]; simp; omega
        omega)
      have HIrc := Lib.hid hirc
      have HIrx := Lib.hid hirx
      have HIry := Lib.hid hiry
      have HIrt := Lib.hid hirt
      have hsra : ra.length ≤ 262144 := HGX.out.2 ra (by simp)
      have hsrb : rb.length ≤ 262144 := HGX.out.2 rb (by simp)
      clear hirc hirx hiry hirt
      clear HGX
      have hfl6 : (linesTo kind xs k ++ kind).length + 6000000 ≤ 140737488355328 := by rw [List.length_append]; omega
      obtain ⟨l0, hl0⟩ : ∃ l0, linesTo kind xs k ++ kind = l0 := ⟨_, rfl⟩
      rw [hl0] at HB2 hfl6
      have HL0 := Lib.hid hl0
      clear hl0
      go_loopw [27] (fun i wr => InnerRel w l0 w1.heap.size (probeCells b (off + k * 6)) [Li.Fld.i rc, Li.Fld.s ra, Li.Fld.s rb, Li.Fld.i rx, Li.Fld.i ry, Li.Fld.i rt] i wr) (fun i _ => 6 - (intOf i).toNat)
      case atStart => exact ⟨0, Nat.zero_le _, rfl, by simpa [flat] using HB2.out, HK2.out, H2.out⟩
      case round =>
        obtain ⟨j, hj, rfl, hB, hK, hN⟩ := hrel
        have HB := Lib.hid hB
        have HK3 := Lib.hid hK
        have HN := Lib.hid hN
        clear hB hK hN HB2 HK2 H2
        have hbz3 := HK3.out.size
        have hbx : b < wr.heap.size := by omega
        obtain ⟨lj, hlj⟩ : ∃ lj, l0 ++ flat (List.take j [Li.Fld.i rc, Li.Fld.s ra, Li.Fld.s rb, Li.Fld.i rx, Li.Fld.i ry, Li.Fld.i rt]) = lj := ⟨_, rfl⟩
        have hljl : lj.length + 786460 ≤ 140737488355328 := by have := HFT.out j; rw [← hlj, List.length_append]; omega
        rw [hlj] at HB
        have HLJ := Lib.hid hlj
        clear hlj
        by_cases hj6 : j < 6
        · rcases (show j = 0 ∨ j = 1 ∨ j = 2 ∨ j = 3 ∨ j = 4 ∨ j = 5 by omega) with rfl | rfl | rfl | rfl | rfl | rfl
          · have cN : wr.cell? ⟨w1.heap.size, 0, none⟩ = some (.iface 79 (.pointer (some ⟨b, off + k * 6, none⟩))) := by rw [Lib.cell_of_heap HN.out]; rfl
            have cX : wr.cell? ⟨b, off + k * 6, none⟩ = some (.int .i64 rc) := by rw [HK3.out.below.cell (p := ⟨b, off + k * 6, none⟩) hb]; exact HXR.out 0 (by simp)
            go_wp2_with fail
            refine (writeByte_any w.heap.size w.heap.size _ 32 _ HB.out (bld_bound _ _ (by omega)) hbz3).mono ?_
            rintro e w3 ⟨rfl, h3, b3, x3⟩
            have HB3 : Hid (Bld w (lj ++ [32]) w3) := Lib.hid (.inr (by rw [← cells_lit _ 32 32 rfl]; exact h3))
            have HN3 := Lib.hid (kept20 HN.out x3 HNB.out)
            have HK4 : Hid (Kp w w3 none) := Lib.hid (Kp.of_below (HK3.out.below.trans b3))
            have cX3 : w3.cell? ⟨b, off + k * 6, none⟩ = some (.int .i64 rc) := by rw [HK4.out.below.cell (p := ⟨b, off + k * 6, none⟩) hb]; exact HXR.out 0 (by simp)
            clear h3 b3 x3 cN cX
            have tt : ∀ (p : Value) (w : World), (Instr.typeAssert (.iface 79 p) 20 79 true).run Tryd.prog w = .ok (.tuple #[p, .bool true]) w := fun p w => by kernel_rfl
            go_wp2_with fail
            refine (itoa_any rc _ (HE.out.kp0 HK4.out) (HIrc.out)).mono ?_
            rintro e w4 ⟨rfl, k4⟩
            have HB4 : Hid (Bld w (lj ++ [32]) w4) := Lib.hid (builder_kp HB3.out k4)
            have HN4 : Hid (w4.heap[w1.heap.size]? = some (.cells (probeCells b (off + k * 6)) 20 (0, 0))) := Lib.hid ((k4.block _ (lt_of_block HN3.out) (by simp)).trans HN3.out)
            have HK5 := Lib.hid (HK4.out.trans k4)
            have hz5 := HK5.out.size
            have hel : (Lib.itoa rc).length ≤ 786434 := by have := Wr.itoa_length rc HIrc.out; omega
            clear k4 cX3 tt
            go_wp2_with fail
            refine (writeString_any w.heap.size w.heap.size _ ⟨(Lib.itoa rc).toArray⟩ _ HB4.out (wr_bound _ _ (by rw [List.length_append]; simp; omega)) hz5).mono ?_
            rintro e w5 ⟨rfl, h5, b5, x5⟩
            have e5 : l0 ++ flat (List.take 1 [Li.Fld.i rc, Li.Fld.s ra, Li.Fld.s rb, Li.Fld.i rx, Li.Fld.i ry, Li.Fld.i rt]) = lj ++ [32] ++ Lib.itoa rc := by
              rw [flat_step _ 0 (by simp), ← List.append_assoc, HLJ.out]
              show lj ++ 32 :: Lib.itoa rc = _
              simp
            have HREL : Hid (InnerRel w l0 w1.heap.size (probeCells b (off + k * 6)) [Li.Fld.i rc, Li.Fld.s ra, Li.Fld.s rb, Li.Fld.i rx, Li.Fld.i ry, Li.Fld.i rt] (.int .i64 1) w5) := Lib.hid ⟨1, by simp, rfl, .inr (by rw [e5, ← cells_str]; exact h5), Kp.of_below (HK5.out.below.trans b5), kept20 HN4.out x5 HNB.out⟩
            clear h5 b5 x5 e5
            go_wp2_with fail
            first | exact ⟨HREL.out, by simp [intOf]⟩ | (go_roundw; all_goals first | exact HREL.out | (simp [intOf]; done) | ((repeat apply Exists.intro); exact ⟨HREL.out, rfl⟩))
          · have cN : wr.cell? ⟨w1.heap.size, 1, none⟩ = some (.iface 80 (.pointer (some ⟨b, off + k * 6 + 1, none⟩))) := by rw [Lib.cell_of_heap HN.out]; rfl
            have cX : wr.cell? ⟨b, off + k * 6 + 1, none⟩ = some (.string ⟨ra.toArray⟩) := by rw [HK3.out.below.cell (p := ⟨b, off + k * 6 + 1, none⟩) hb]; exact HXR.out 1 (by simp)
            go_wp2_with fail
            refine (writeByte_any w.heap.size w.heap.size _ 32 _ HB.out (bld_bound _ _ (by omega)) hbz3).mono ?_
            rintro e w3 ⟨rfl, h3, b3, x3⟩
            have HB3 : Hid (Bld w (lj ++ [32]) w3) := Lib.hid (.inr (by rw [← cells_lit _ 32 32 rfl]; exact h3))
            have HN3 := Lib.hid (kept20 HN.out x3 HNB.out)
            have HK4 : Hid (Kp w w3 none) := Lib.hid (Kp.of_below (HK3.out.below.trans b3))
            have cX3 : w3.cell? ⟨b, off + k * 6 + 1, none⟩ = some (.string ⟨ra.toArray⟩) := by rw [HK4.out.below.cell (p := ⟨b, off + k * 6 + 1, none⟩) hb]; exact HXR.out 1 (by simp)
            clear h3 b3 x3 cN cX
            have t79 : ∀ (p : Value) (w : World), (Instr.typeAssert (.iface 80 p) 20 79 true).run Tryd.prog w = .ok (.tuple #[.pointer none, .bool false]) w := fun p w => by kernel_rfl
            have tt : ∀ (p : Value) (w : World), (Instr.typeAssert (.iface 80 p) 20 80 true).run Tryd.prog w = .ok (.tuple #[p, .bool true]) w := fun p w => by kernel_rfl
            go_wp2_with fail
            refine (word_any ra _ (by omega)).mono ?_
            rintro e w4 ⟨rfl, k4⟩
            have HB4 : Hid (Bld w (lj ++ [32]) w4) := Lib.hid (builder_kp HB3.out k4)
            have HN4 : Hid (w4.heap[w1.heap.size]? = some (.cells (probeCells b (off + k * 6)) 20 (0, 0))) := Lib.hid ((k4.block _ (lt_of_block HN3.out) (by simp)).trans HN3.out)
            have HK5 := Lib.hid (HK4.out.trans k4)
            have hz5 := HK5.out.size
            have hel : (Li.word ra).length ≤ 786434 := by have := word_length ra; omega
            clear k4 cX3 tt t79
            go_wp2_with fail
            refine (writeString_any w.heap.size w.heap.size _ ⟨(Li.word ra).toArray⟩ _ HB4.out (wr_bound _ _ (by rw [List.length_append]; simp; omega)) hz5).mono ?_
            rintro e w5 ⟨rfl, h5, b5, x5⟩
            have e5 : l0 ++ flat (List.take 2 [Li.Fld.i rc, Li.Fld.s ra, Li.Fld.s rb, Li.Fld.i rx, Li.Fld.i ry, Li.Fld.i rt]) = lj ++ [32] ++ Li.word ra := by
              rw [flat_step _ 1 (by simp), ← List.append_assoc, HLJ.out]
              show lj ++ 32 :: Li.word ra = _
              simp
            have HREL : Hid (InnerRel w l0 w1.heap.size (probeCells b (off + k * 6)) [Li.Fld.i rc, Li.Fld.s ra, Li.Fld.s rb, Li.Fld.i rx, Li.Fld.i ry, Li.Fld.i rt] (.int .i64 2) w5) := Lib.hid ⟨2, by simp, rfl, .inr (by rw [e5, ← cells_str]; exact h5), Kp.of_below (HK5.out.below.trans b5), kept20 HN4.out x5 HNB.out⟩
            clear h5 b5 x5 e5
            go_wp2_with fail
            first | exact ⟨HREL.out, by simp [intOf]⟩ | (go_roundw; all_goals first | exact HREL.out | (simp [intOf]; done) | ((repeat apply Exists.intro); exact ⟨HREL.out, rfl⟩))
          · have cN : wr.cell? ⟨w1.heap.size, 2, none⟩ = some (.iface 80 (.pointer (some ⟨b, off + k * 6 + 2, none⟩))) := by rw [Lib.cell_of_heap HN.out]; rfl
            have cX : wr.cell? ⟨b, off + k * 6 + 2, none⟩ = some (.string ⟨rb.toArray⟩) := by rw [HK3.out.below.cell (p := ⟨b, off + k * 6 + 2, none⟩) hb]; exact HXR.out 2 (by simp)
            go_wp2_with fail
            refine (writeByte_any w.heap.size w.heap.size _ 32 _ HB.out (bld_bound _ _ (by omega)) hbz3).mono ?_
            rintro e w3 ⟨rfl, h3, b3, x3⟩
            have HB3 : Hid (Bld w (lj ++ [32]) w3) := Lib.hid (.inr (by rw [← cells_lit _ 32 32 rfl]; exact h3))
            have HN3 := Lib.hid (kept20 HN.out x3 HNB.out)
            have HK4 : Hid (Kp w w3 none) := Lib.hid (Kp.of_below (HK3.out.below.trans b3))
            have cX3 : w3.cell? ⟨b, off + k * 6 + 2, none⟩ = some (.string ⟨rb.toArray⟩) := by rw [HK4.out.below.cell (p := ⟨b, off + k * 6 + 2, none⟩) hb]; exact HXR.out 2 (by simp)
            clear h3 b3 x3 cN cX
            have t79 : ∀ (p : Value) (w : World), (Instr.typeAssert (.iface 80 p) 20 79 true).run Tryd.prog w = .ok (.tuple #[.pointer none, .bool false]) w := fun p w => by kernel_rfl
            have tt : ∀ (p : Value) (w : World), (Instr.typeAssert (.iface 80 p) 20 80 true).run Tryd.prog w = .ok (.tuple #[p, .bool true]) w := fun p w => by kernel_rfl
            go_wp2_with fail
            refine (word_any rb _ (by omega)).mono ?_
            rintro e w4 ⟨rfl, k4⟩
            have HB4 : Hid (Bld w (lj ++ [32]) w4) := Lib.hid (builder_kp HB3.out k4)
            have HN4 : Hid (w4.heap[w1.heap.size]? = some (.cells (probeCells b (off + k * 6)) 20 (0, 0))) := Lib.hid ((k4.block _ (lt_of_block HN3.out) (by simp)).trans HN3.out)
            have HK5 := Lib.hid (HK4.out.trans k4)
            have hz5 := HK5.out.size
            have hel : (Li.word rb).length ≤ 786434 := by have := word_length rb; omega
            clear k4 cX3 tt t79
            go_wp2_with fail
            refine (writeString_any w.heap.size w.heap.size _ ⟨(Li.word rb).toArray⟩ _ HB4.out (wr_bound _ _ (by rw [List.length_append]; simp; omega)) hz5).mono ?_
            rintro e w5 ⟨rfl, h5, b5, x5⟩
            have e5 : l0 ++ flat (List.take 3 [Li.Fld.i rc, Li.Fld.s ra, Li.Fld.s rb, Li.Fld.i rx, Li.Fld.i ry, Li.Fld.i rt]) = lj ++ [32] ++ Li.word rb := by
              rw [flat_step _ 2 (by simp), ← List.append_assoc, HLJ.out]
              show lj ++ 32 :: Li.word rb = _
              simp
            have HREL : Hid (InnerRel w l0 w1.heap.size (probeCells b (off + k * 6)) [Li.Fld.i rc, Li.Fld.s ra, Li.Fld.s rb, Li.Fld.i rx, Li.Fld.i ry, Li.Fld.i rt] (.int .i64 3) w5) := Lib.hid ⟨3, by simp, rfl, .inr (by rw [e5, ← cells_str]; exact h5), Kp.of_below (HK5.out.below.trans b5), kept20 HN4.out x5 HNB.out⟩
            clear h5 b5 x5 e5
            go_wp2_with fail
            first | exact ⟨HREL.out, by simp [intOf]⟩ | (go_roundw; all_goals first | exact HREL.out | (simp [intOf]; done) | ((repeat apply Exists.intro); exact ⟨HREL.out, rfl⟩))
          · have cN : wr.cell? ⟨w1.heap.size, 3, none⟩ = some (.iface 79 (.pointer (some ⟨b, off + k * 6 + 3, none⟩))) := by rw [Lib.cell_of_heap HN.out]; rfl
            have cX : wr.cell? ⟨b, off + k * 6 + 3, none⟩ = some (.int .i64 rx) := by rw [HK3.out.below.cell (p := ⟨b, off + k * 6 + 3, none⟩) hb]; exact HXR.out 3 (by simp)
            go_wp2_with fail
            refine (writeByte_any w.heap.size w.heap.size _ 32 _ HB.out (bld_bound _ _ (by omega)) hbz3).mono ?_
            rintro e w3 ⟨rfl, h3, b3, x3⟩
            have HB3 : Hid (Bld w (lj ++ [32]) w3) := Lib.hid (.inr (by rw [← cells_lit _ 32 32 rfl]; exact h3))
            have HN3 := Lib.hid (kept20 HN.out x3 HNB.out)
            have HK4 : Hid (Kp w w3 none) := Lib.hid (Kp.of_below (HK3.out.below.trans b3))
            have cX3 : w3.cell? ⟨b, off + k * 6 + 3, none⟩ = some (.int .i64 rx) := by rw [HK4.out.below.cell (p := ⟨b, off + k * 6 + 3, none⟩) hb]; exact HXR.out 3 (by simp)
            clear h3 b3 x3 cN cX
            have tt : ∀ (p : Value) (w : World), (Instr.typeAssert (.iface 79 p) 20 79 true).run Tryd.prog w = .ok (.tuple #[p, .bool true]) w := fun p w => by kernel_rfl
            go_wp2_with fail
            refine (itoa_any rx _ (HE.out.kp0 HK4.out) (HIrx.out)).mono ?_
            rintro e w4 ⟨rfl, k4⟩
            have HB4 : Hid (Bld w (lj ++ [32]) w4) := Lib.hid (builder_kp HB3.out k4)
            have HN4 : Hid (w4.heap[w1.heap.size]? = some (.cells (probeCells b (off + k * 6)) 20 (0, 0))) := Lib.hid ((k4.block _ (lt_of_block HN3.out) (by simp)).trans HN3.out)
            have HK5 := Lib.hid (HK4.out.trans k4)
            have hz5 := HK5.out.size
            have hel : (Lib.itoa rx).length ≤ 786434 := by have := Wr.itoa_length rx HIrx.out; omega
            clear k4 cX3 tt
            go_wp2_with fail
            refine (writeString_any w.heap.size w.heap.size _ ⟨(Lib.itoa rx).toArray⟩ _ HB4.out (wr_bound _ _ (by rw [List.length_append]; simp; omega)) hz5).mono ?_
            rintro e w5 ⟨rfl, h5, b5, x5⟩
            have e5 : l0 ++ flat (List.take 4 [Li.Fld.i rc, Li.Fld.s ra, Li.Fld.s rb, Li.Fld.i rx, Li.Fld.i ry, Li.Fld.i rt]) = lj ++ [32] ++ Lib.itoa rx := by
              rw [flat_step _ 3 (by simp), ← List.append_assoc, HLJ.out]
              show lj ++ 32 :: Lib.itoa rx = _
              simp
            have HREL : Hid (InnerRel w l0 w1.heap.size (probeCells b (off + k * 6)) [Li.Fld.i rc, Li.Fld.s ra, Li.Fld.s rb, Li.Fld.i rx, Li.Fld.i ry, Li.Fld.i rt] (.int .i64 4) w5) := Lib.hid ⟨4, by simp, rfl, .inr (by rw [e5, ← cells_str]; exact h5), Kp.of_below (HK5.out.below.trans b5), kept20 HN4.out x5 HNB.out⟩
            clear h5 b5 x5 e5
            go_wp2_with fail
            first | exact ⟨HREL.out, by simp [intOf]⟩ | (go_roundw; all_goals first | exact HREL.out | (simp [intOf]; done) | ((repeat apply Exists.intro); exact ⟨HREL.out, rfl⟩))
          · have cN : wr.cell? ⟨w1.heap.size, 4, none⟩ = some (.iface 79 (.pointer (some ⟨b, off + k * 6 + 4, none⟩))) := by rw [Lib.cell_of_heap HN.out]; rfl
            have cX : wr.cell? ⟨b, off + k * 6 + 4, none⟩ = some (.int .i64 ry) := by rw [HK3.out.below.cell (p := ⟨b, off + k * 6 + 4, none⟩) hb]; exact HXR.out 4 (by simp)
            go_wp2_with fail
            refine (writeByte_any w.heap.size w.heap.size _ 32 _ HB.out (bld_bound _ _ (by omega)) hbz3).mono ?_
            rintro e w3 ⟨rfl, h3, b3, x3⟩
            have HB3 : Hid (Bld w (lj ++ [32]) w3) := Lib.hid (.inr (by rw [← cells_lit _ 32 32 rfl]; exact h3))
            have HN3 := Lib.hid (kept20 HN.out x3 HNB.out)
            have HK4 : Hid (Kp w w3 none) := Lib.hid (Kp.of_below (HK3.out.below.trans b3))
            have cX3 : w3.cell? ⟨b, off + k * 6 + 4, none⟩ = some (.int .i64 ry) := by rw [HK4.out.below.cell (p := ⟨b, off + k * 6 + 4, none⟩) hb]; exact HXR.out 4 (by simp)
            clear h3 b3 x3 cN cX
            have tt : ∀ (p : Value) (w : World), (Instr.typeAssert (.iface 79 p) 20 79 true).run Tryd.prog w = .ok (.tuple #[p, .bool true]) w := fun p w => by kernel_rfl
            go_wp2_with fail
            refine (itoa_any ry _ (HE.out.kp0 HK4.out) (HIry.out)).mono ?_
            rintro e w4 ⟨rfl, k4⟩
            have HB4 : Hid (Bld w (lj ++ [32]) w4) := Lib.hid (builder_kp HB3.out k4)
            have HN4 : Hid (w4.heap[w1.heap.size]? = some (.cells (probeCells b (off + k * 6)) 20 (0, 0))) := Lib.hid ((k4.block _ (lt_of_block HN3.out) (by simp)).trans HN3.out)
            have HK5 := Lib.hid (HK4.out.trans k4)
            have hz5 := HK5.out.size
            have hel : (Lib.itoa ry).length ≤ 786434 := by have := Wr.itoa_length ry HIry.out; omega
            clear k4 cX3 tt
            go_wp2_with fail
            refine (writeString_any w.heap.size w.heap.size _ ⟨(Lib.itoa ry).toArray⟩ _ HB4.out (wr_bound _ _ (by rw [List.length_append]; simp; omega)) hz5).mono ?_
            rintro e w5 ⟨rfl, h5, b5, x5⟩
            have e5 : l0 ++ flat (List.take 5 [Li.Fld.i rc, Li.Fld.s ra, Li.Fld.s rb, Li.Fld.i rx, Li.Fld.i ry, Li.Fld.i rt]) = lj ++ [32] ++ Lib.itoa ry := by
              rw [flat_step _ 4 (by simp), ← List.append_assoc, HLJ.out]
              show lj ++ 32 :: Lib.itoa ry = _
              simp
            have HREL : Hid (InnerRel w l0 w1.heap.size (probeCells b (off + k * 6)) [Li.Fld.i rc, Li.Fld.s ra, Li.Fld.s rb, Li.Fld.i rx, Li.Fld.i ry, Li.Fld.i rt] (.int .i64 5) w5) := Lib.hid ⟨5, by simp, rfl, .inr (by rw [e5, ← cells_str]; exact h5), Kp.of_below (HK5.out.below.trans b5), kept20 HN4.out x5 HNB.out⟩
            clear h5 b5 x5 e5
            go_wp2_with fail
            first | exact ⟨HREL.out, by simp [intOf]⟩ | (go_roundw; all_goals first | exact HREL.out | (simp [intOf]; done) | ((repeat apply Exists.intro); exact ⟨HREL.out, rfl⟩))
          · have cN : wr.cell? ⟨w1.heap.size, 5, none⟩ = some (.iface 79 (.pointer (some ⟨b, off + k * 6 + 5, none⟩))) := by rw [Lib.cell_of_heap HN.out]; rfl
            have cX : wr.cell? ⟨b, off + k * 6 + 5, none⟩ = some (.int .i64 rt) := by rw [HK3.out.below.cell (p := ⟨b, off + k * 6 + 5, none⟩) hb]; exact HXR.out 5 (by simp)
            go_wp2_with fail
            refine (writeByte_any w.heap.size w.heap.size _ 32 _ HB.out (bld_bound _ _ (by omega)) hbz3).mono ?_
            rintro e w3 ⟨rfl, h3, b3, x3⟩
            have HB3 : Hid (Bld w (lj ++ [32]) w3) := Lib.hid (.inr (by rw [← cells_lit _ 32 32 rfl]; exact h3))
            have HN3 := Lib.hid (kept20 HN.out x3 HNB.out)
            have HK4 : Hid (Kp w w3 none) := Lib.hid (Kp.of_below (HK3.out.below.trans b3))
            have cX3 : w3.cell? ⟨b, off + k * 6 + 5, none⟩ = some (.int .i64 rt) := by rw [HK4.out.below.cell (p := ⟨b, off + k * 6 + 5, none⟩) hb]; exact HXR.out 5 (by simp)
            clear h3 b3 x3 cN cX
            have tt : ∀ (p : Value) (w : World), (Instr.typeAssert (.iface 79 p) 20 79 true).run Tryd.prog w = .ok (.tuple #[p, .bool true]) w := fun p w => by kernel_rfl
            go_wp2_with fail
            refine (itoa_any rt _ (HE.out.kp0 HK4.out) (HIrt.out)).mono ?_
            rintro e w4 ⟨rfl, k4⟩
            have HB4 : Hid (Bld w (lj ++ [32]) w4) := Lib.hid (builder_kp HB3.out k4)
            have HN4 : Hid (w4.heap[w1.heap.size]? = some (.cells (probeCells b (off + k * 6)) 20 (0, 0))) := Lib.hid ((k4.block _ (lt_of_block HN3.out) (by simp)).trans HN3.out)
            have HK5 := Lib.hid (HK4.out.trans k4)
            have hz5 := HK5.out.size
            have hel : (Lib.itoa rt).length ≤ 786434 := by have := Wr.itoa_length rt HIrt.out; omega
            clear k4 cX3 tt
            go_wp2_with fail
            refine (writeString_any w.heap.size w.heap.size _ ⟨(Lib.itoa rt).toArray⟩ _ HB4.out (wr_bound _ _ (by rw [List.length_append]; simp; omega)) hz5).mono ?_
            rintro e w5 ⟨rfl, h5, b5, x5⟩
            have e5 : l0 ++ flat (List.take 6 [Li.Fld.i rc, Li.Fld.s ra, Li.Fld.s rb, Li.Fld.i rx, Li.Fld.i ry, Li.Fld.i rt]) = lj ++ [32] ++ Lib.itoa rt := by
              rw [flat_step _ 5 (by simp), ← List.append_assoc, HLJ.out]
              show lj ++ 32 :: Lib.itoa rt = _
              simp
            have HREL : Hid (InnerRel w l0 w1.heap.size (probeCells b (off + k * 6)) [Li.Fld.i rc, Li.Fld.s ra, Li.Fld.s rb, Li.Fld.i rx, Li.Fld.i ry, Li.Fld.i rt] (.int .i64 6) w5) := Lib.hid ⟨6, by simp, rfl, .inr (by rw [e5, ← cells_str]; exact h5), Kp.of_below (HK5.out.below.trans b5), kept20 HN4.out x5 HNB.out⟩
            clear h5 b5 x5 e5
            go_wp2_with fail
            first | exact ⟨HREL.out, by simp [intOf]⟩ | (go_roundw; all_goals first | exact HREL.out | (simp [intOf]; done) | ((repeat apply Exists.intro); exact ⟨HREL.out, rfl⟩))
        · have hj66 : j = 6 := by simp at hj; omega
          subst hj66
          go_wp2_with fail
          refine (writeByte_any w.heap.size w.heap.size _ 10 _ HB.out (bld_bound _ _ (by omega)) hbz3).mono ?_
          rintro e w3 ⟨rfl, h3, b3, x3⟩
          have e5 : linesTo kind xs (k + 1) = lj ++ [10] := by
            rw [linesTo_step kind xs k hlt, HX.out, ← HLJ.out, ← HL0.out]
            show linesTo kind xs k ++ (kind ++ flat [Li.Fld.i rc, Li.Fld.s ra, Li.Fld.s rb, Li.Fld.i rx, Li.Fld.i ry, Li.Fld.i rt] ++ [10]) = linesTo kind xs k ++ kind ++ flat [Li.Fld.i rc, Li.Fld.s ra, Li.Fld.s rb, Li.Fld.i rx, Li.Fld.i ry, Li.Fld.i rt] ++ [10]
            simp
          have HREL : Hid (OuterRel w kind xs (.int .i64 (k + 1)) w3) := Lib.hid ⟨k + 1, hlt, by go_num, .inr (by rw [e5, ← cells_lit _ 10 10 rfl]; exact h3), Kp.of_below (HK3.out.below.trans b3)⟩
          clear h3 b3 x3 e5
          go_wp2_with fail
          first | exact ⟨HREL.out, by simp [intOf]; omega⟩ | (go_roundw; all_goals first | exact HREL.out | (simp [intOf]; omega) | ((repeat apply Exists.intro); exact ⟨HREL.out, rfl⟩))
    · obtain rfl : k = xs.length := by omega
      go_wp2_with fail
      refine (Tryd.Builder_String_any_k w.heap.size w.heap.size (linesTo kind xs xs.length) _ HB.out hbz).mono ?_
      rintro e w4 ⟨rfl, _, b4, _⟩
      have HK4 := Lib.hid (Kp.of_below (HK.out.below.trans b4))
      clear b4
      go_wp2_with fail
      refine (itoa_any xs.length _ (HE.out.kp0 HK4.out) (by unfold Wr.I64; omega)).mono ?_
      rintro e w5 ⟨rfl, k5⟩
      have HK5 := Lib.hid (HK4.out.trans k5)
      have hil := Wr.itoa_length xs.length (by unfold Wr.I64; omega)
      clear k5
      go_wp2_with fail
      go_ret
      exact ⟨ret_str (by rw [file_str]; unfold linesTo Li.fileOf Li.endOf; rw [List.take_length]), HK5.out⟩

set_option maxHeartbeats 2000000 in
set_option maxRecDepth 100000 in
theorem writeRow_nil (ao : Option Addr) (cap : Nat) (kind : List UInt8) (w : World) (he : Env w) :
    Calls Tryd.prog 24 #[.slice ao 0 cap, .string ⟨kind.toArray⟩, .func (.func 25) #[] #[]] w fun e w' => e = .returned (.string ⟨(Li.fileOf kind []).toArray⟩) ∧ Kp w w' none := by
  have HE := Lib.hid he
  clear he
  have H0 := Lib.hid (Lib.IsBuilderF.of (Lib.fresh_isBuilder 71 5 w))
  have K0 : Hid (Kp w (w.alloc (.cells #[.pointer none, .slice none 0 0] 71)) none) := (Kp.refl _ _).alloc _
  go_enter Tryd.func24, Tryd.ntmps24
  go_wp2_with fail
  go_loopw [16] (fun i wr => i = .int .i64 0 ∧ Bld w [] wr ∧ Kp w wr none) (fun i _ => 0)
  case atStart => exact ⟨rfl, H0.out, K0.out⟩
  case round =>
    clear H0 K0
    obtain ⟨rfl, hB, hK⟩ := hrel
    have HB := Lib.hid hB
    have HK := Lib.hid hK
    have hbz := hK.size
    clear hB hK
    go_wp2_with fail
    refine (Tryd.Builder_String_any_k w.heap.size w.heap.size [] _ HB.out hbz).mono ?_
    rintro e w4 ⟨rfl, _, b4, _⟩
    have HK4 := Lib.hid (Kp.of_below (HK.out.below.trans b4))
    clear b4
    go_wp2_with fail
    refine (itoa_any 0 _ (HE.out.kp0 HK4.out) (by unfold Wr.I64; omega)).mono ?_
    rintro e w5 ⟨rfl, k5⟩
    have HK5 := Lib.hid (HK4.out.trans k5)
    have hil := Wr.itoa_length 0 (by unfold Wr.I64; omega)
    clear k5
    go_wp2_with fail
    go_ret
    exact ⟨ret_str (file_str [] (Lib.itoa 0)), HK5.out⟩
theorem writeRows_any (v : Value) (xs : List (List Li.Fld)) (w : World) (he : Env w) (h : IsRows w v xs) (hl : xs.length ≤ 65536) (hg : ∀ x ∈ xs, Li.Good Li.rowK x ∧ Short x) :
    Calls Tryd.prog 9 #[v] w fun e w' => e = .returned (.string ⟨(Li.fileOf Li.place xs).toArray⟩) ∧ Kp w w' none := by
  have HE := Lib.hid he
  have HG := Lib.hid hg
  have HH := Lib.hid h
  clear he hg h
  rcases HH.out with ⟨ao, cap, rfl, rfl⟩ | ⟨b, off, cap, rfl, hc, hb, hr⟩
  · go_enter Tryd.func9, Tryd.ntmps9
    go_wp2_with fail
    refine (writeRow_nil ao cap Li.place _ HE.out).mono ?_
    rintro e w' ⟨rfl, k⟩
    have K := Lib.hid k
    clear k
    go_wp2_with fail
    go_ret
    exact ⟨rfl, K.out⟩
  · have HR := Lib.hid hr
    clear hr
    go_enter Tryd.func9, Tryd.ntmps9
    go_wp2_with fail
    refine (writeRow_row b off cap Li.place (by decide) xs _ HE.out hb hc hl HR.out HG.out).mono ?_
    rintro e w' ⟨rfl, k⟩
    have K := Lib.hid k
    clear k
    go_wp2_with fail
    go_ret
    exact ⟨rfl, K.out⟩

set_option maxHeartbeats 2000000 in
set_option maxRecDepth 100000 in
theorem writeProbe_nil (ao : Option Addr) (cap : Nat) (kind : List UInt8) (w : World) (he : Env w) :
    Calls Tryd.prog 28 #[.slice ao 0 cap, .string ⟨kind.toArray⟩, .func (.func 29) #[] #[]] w fun e w' => e = .returned (.string ⟨(Li.fileOf kind []).toArray⟩) ∧ Kp w w' none := by
  have HE := Lib.hid he
  clear he
  have H0 := Lib.hid (Lib.IsBuilderF.of (Lib.fresh_isBuilder 71 5 w))
  have K0 : Hid (Kp w (w.alloc (.cells #[.pointer none, .slice none 0 0] 71)) none) := (Kp.refl _ _).alloc _
  go_enter Tryd.func28, Tryd.ntmps28
  go_wp2_with fail
  go_loopw [16] (fun i wr => i = .int .i64 0 ∧ Bld w [] wr ∧ Kp w wr none) (fun i _ => 0)
  case atStart => exact ⟨rfl, H0.out, K0.out⟩
  case round =>
    clear H0 K0
    obtain ⟨rfl, hB, hK⟩ := hrel
    have HB := Lib.hid hB
    have HK := Lib.hid hK
    have hbz := hK.size
    clear hB hK
    go_wp2_with fail
    refine (Tryd.Builder_String_any_k w.heap.size w.heap.size [] _ HB.out hbz).mono ?_
    rintro e w4 ⟨rfl, _, b4, _⟩
    have HK4 := Lib.hid (Kp.of_below (HK.out.below.trans b4))
    clear b4
    go_wp2_with fail
    refine (itoa_any 0 _ (HE.out.kp0 HK4.out) (by unfold Wr.I64; omega)).mono ?_
    rintro e w5 ⟨rfl, k5⟩
    have HK5 := Lib.hid (HK4.out.trans k5)
    have hil := Wr.itoa_length 0 (by unfold Wr.I64; omega)
    clear k5
    go_wp2_with fail
    go_ret
    exact ⟨ret_str (file_str [] (Lib.itoa 0)), HK5.out⟩
theorem writeProbes_any (v : Value) (xs : List (List Li.Fld)) (w : World) (he : Env w) (h : IsRows w v xs) (hl : xs.length ≤ 65536) (hg : ∀ x ∈ xs, Li.Good Li.probeK x ∧ Short x) :
    Calls Tryd.prog 12 #[v] w fun e w' => e = .returned (.string ⟨(Li.fileOf Li.probe xs).toArray⟩) ∧ Kp w w' none := by
  have HE := Lib.hid he
  have HG := Lib.hid hg
  have HH := Lib.hid h
  clear he hg h
  rcases HH.out with ⟨ao, cap, rfl, rfl⟩ | ⟨b, off, cap, rfl, hc, hb, hr⟩
  · go_enter Tryd.func12, Tryd.ntmps12
    go_wp2_with fail
    refine (writeProbe_nil ao cap Li.probe _ HE.out).mono ?_
    rintro e w' ⟨rfl, k⟩
    have K := Lib.hid k
    clear k
    go_wp2_with fail
    go_ret
    exact ⟨rfl, K.out⟩
  · have HR := Lib.hid hr
    clear hr
    go_enter Tryd.func12, Tryd.ntmps12
    go_wp2_with fail
    refine (writeProbe_row b off cap Li.probe (by decide) xs _ HE.out hb hc hl HR.out HG.out).mono ?_
    rintro e w' ⟨rfl, k⟩
    have K := Lib.hid k
    clear k
    go_wp2_with fail
    go_ret
    exact ⟨rfl, K.out⟩

end Go.Proofs.YtldjhjbodhhnbaaDoor
