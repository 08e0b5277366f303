/- ListsReads' walk: both readers return what the reference returns. No condition but what its arguments read as. -/
import Derived.Test.YtldjhjbodhhnbaaDoorLc
import Derived.Test.YtldjhjbodhhnbaaDoorRrb
import Derived.Test.YtldjhjbodhhnbaaDoorAp
namespace Go.Proofs.YtldjhjbodhhnbaaDoor
open Go.RowKit

theorem rwriteRows_lit (v : Value) (xs : List (List Li.Fld)) (l : List UInt8) (w : World) (h : IsRows w v xs) (hl : xs.length ≤ 65536) (hg : ∀ x ∈ xs, Li.Good Li.rowK x ∧ Short x) (hw : Li.fileOf Li.place xs = l) :
    Calls Tryd.prog 11 #[v] w fun e w' => e = .returned (.string ⟨l.toArray⟩) ∧ Kp w w' none := hw ▸ rwriteRows_any v xs w h hl hg
theorem rwriteProbes_lit (v : Value) (xs : List (List Li.Fld)) (l : List UInt8) (w : World) (h : IsRows w v xs) (hl : xs.length ≤ 65536) (hg : ∀ x ∈ xs, Li.Good Li.probeK x ∧ Short x) (hw : Li.fileOf Li.probe xs = l) :
    Calls Tryd.prog 14 #[v] w fun e w' => e = .returned (.string ⟨l.toArray⟩) ∧ Kp w w' none := hw ▸ rwriteProbes_any v xs w h hl hg
theorem ext_200 (x : List UInt8) : (⟨x.toArray⟩ : ByteArray).extract 0 (min (x.length : Int) 200).toNat = ⟨(x.take 200).toArray⟩ := by
  rw [ext_take]; congr 2
  by_cases h : x.length ≤ 200
  · rw [List.take_of_length_le (by omega), List.take_of_length_le h]
  · congr 1; omega
def RsRel (wB : World) (v : Value) (wr : World) : Prop := ∃ j : Nat, j ≤ 6 ∧ v = .int .i64 j ∧ Kp wB wr none
theorem six_cells {w wr : World} {N : Nat} {x0 x1 x2 x3 x4 x5 : List UInt8} (h : w.heap[N]? = some (.cells #[.string ⟨x0.toArray⟩, .string ⟨x1.toArray⟩, .string ⟨x2.toArray⟩, .string ⟨x3.toArray⟩, .string ⟨x4.toArray⟩, .string ⟨x5.toArray⟩] 9 (0, 0))) (k : Kp w wr none) (j : Nat) (hj : j < 6) :
    wr.cell? ⟨N, j, none⟩ = some (.string ⟨([x0, x1, x2, x3, x4, x5][j]'(by simpa using hj)).toArray⟩) := by
  have : j = 0 ∨ j = 1 ∨ j = 2 ∨ j = 3 ∨ j = 4 ∨ j = 5 := by omega
  rcases this with rfl | rfl | rfl | rfl | rfl | rfl <;> exact ckr h k (by simp) _ rfl
theorem six_len {x0 x1 x2 x3 x4 x5 : List UInt8} (h0 : x0.length ≤ 12030) (h1 : x1.length ≤ 12030) (h2 : x2.length ≤ 12030) (h3 : x3.length ≤ 12030) (h4 : x4.length ≤ 12030) (h5 : x5.length ≤ 12030) : ∀ x ∈ [x0, x1, x2, x3, x4, x5], x.length ≤ 12030 := fun x hx => by
  simp only [List.mem_cons, List.not_mem_nil, or_false] at hx
  rcases hx with rfl | rfl | rfl | rfl | rfl | rfl <;> assumption
set_option maxHeartbeats 8000000 in
set_option maxRecDepth 100000 in
theorem reads_any (v0 v1 : Value) (xs0 xs1 : List (List Li.Fld)) (w : World) (he : Env w) (h0 : IsArg w v0 xs0) (h1 : IsArg w v1 xs1) (hg0 : ∀ x ∈ xs0, ArgEl Li.rowK x) (hg1 : ∀ x ∈ xs1, ArgEl Li.probeK x) (a c : Int) (ha : 0 ≤ a) (ha2 : a < 65536) (hc : 0 ≤ c) (hc2 : c < 256) (inn raw : List UInt8) (hin : inn.length ≤ 9223372036854775807) (hraw : raw.length ≤ 9223372036854775807) :
    Calls Tryd.prog 5 #[v0, v1, .agg #[.int .u16 a, .int .u8 c, .string ⟨inn.toArray⟩], .string ⟨raw.toArray⟩] w fun E w' => E = .returned (.bool true) ∧ Kp w w' none := by
  have HE := Lib.hid he
  have H0 := Lib.hid h0
  have H1 := Lib.hid h1
  have G0 := Lib.hid hg0
  have G1 := Lib.hid hg1
  have L0 := Lib.hid h0.len
  have L1 := Lib.hid h1.len
  clear he h0 h1 hg0 hg1
  obtain ⟨S0, hS0⟩ : ∃ S, Li.fileOf Li.place (xs0.map cutX) = S := ⟨_, rfl⟩
  have hl0 : S0.length ≤ 6000 := by rw [← hS0]; exact file_len (kind := Li.place) rfl rfl (by rw [List.length_map]; exact L0.out) (fun x hx => (cut_all G0.out x hx).1) (cut_short G0.out)
  have HS0 := Lib.hid hS0
  clear hS0
  obtain ⟨S1, hS1⟩ : ∃ S, Li.fileOf Li.probe (xs1.map cutX) = S := ⟨_, rfl⟩
  have hl1 : S1.length ≤ 6000 := by rw [← hS1]; exact file_len (kind := Li.probe) rfl rfl (by rw [List.length_map]; exact L1.out) (fun x hx => (cut_all G1.out x hx).1) (cut_short G1.out)
  have HS1 := Lib.hid hS1
  clear hS1
  obtain ⟨x4, hx4⟩ : ∃ x, S0 ++ S1 = x := ⟨_, rfl⟩
  have hcat : (⟨S0.toArray⟩ : ByteArray) ++ ⟨S1.toArray⟩ = ⟨x4.toArray⟩ := by rw [cat_eq, hx4]
  have hl4 : x4.length ≤ 12030 := by rw [← hx4, List.length_append]; omega
  clear hx4
  have g0 : (9223372036854775807 < S0.length + S1.length) = False := eq_false (by omega)
  obtain ⟨x5, hx5⟩ : ∃ x, raw.take 200 = x := ⟨_, rfl⟩
  have hex := ext_200 raw
  rw [hx5] at hex
  have hl5 : x5.length ≤ 12030 := by rw [← hx5, List.length_take]; omega
  clear hx5
  have hm0 : (0 : Int) ≤ min (raw.length : Int) 200 := by omega
  have hm1 : min (raw.length : Int) 200 ≤ (raw.length : Int) := by omega
  have HB0 := Lib.hid (heap_alloc_new w (.cells #[.int .u16 a, .int .u8 c, .string ⟨inn.toArray⟩] 41))
  have K0 := Lib.hid ((Kp.refl w none).alloc (.cells #[.int .u16 a, .int .u8 c, .string ⟨inn.toArray⟩] 41))
  go_enter Tryd.func5, Tryd.ntmps5
  go_wp2_with fail
  refine (sanity_any _ (HE.out.kp0 K0.out)).mono ?_
  rintro e w1 ⟨rfl, k⟩
  have K1 := Lib.hid (K0.out.trans k)
  have HB1 := Lib.hid ((k.block _ (lt_of_block HB0.out) (by simp)).trans HB0.out)
  clear k
  go_wp2_with fail
  refine (rows_any v0 xs0 _ (H0.out.keep K1.out) G0.out).mono ?_
  rintro e w2 ⟨u0, rfl, hr, k⟩
  have K2 := Lib.hid (K1.out.trans k)
  have HB2 := Lib.hid ((k.block _ (lt_of_block HB1.out) (by simp)).trans HB1.out)
  have R0 := Lib.hid hr
  clear hr k
  go_wp2_with fail
  refine (rwriteRows_lit u0 (xs0.map cutX) S0 _ R0.out (by rw [List.length_map]; have := L0.out; omega) (cut_all G0.out) HS0.out).mono ?_
  rintro e w3 ⟨rfl, k⟩
  have K3 := Lib.hid (K2.out.trans k)
  have HB3 := Lib.hid ((k.block _ (lt_of_block HB2.out) (by simp)).trans HB2.out)
  clear k
  go_wp2_with fail
  refine (probes_any v1 xs1 _ (H1.out.keep K3.out) G1.out).mono ?_
  rintro e w4 ⟨u1, rfl, hr, k⟩
  have K4 := Lib.hid (K3.out.trans k)
  have HB4 := Lib.hid ((k.block _ (lt_of_block HB3.out) (by simp)).trans HB3.out)
  have R1 := Lib.hid hr
  clear hr k
  go_wp2_with fail
  refine (rwriteProbes_lit u1 (xs1.map cutX) S1 _ R1.out (by rw [List.length_map]; have := L1.out; omega) (cut_all G1.out) HS1.out).mono ?_
  rintro e w5 ⟨rfl, k⟩
  have K5 := Lib.hid (K4.out.trans k)
  have HB5 := Lib.hid ((k.block _ (lt_of_block HB4.out) (by simp)).trans HB4.out)
  clear k
  go_wp2_with fail
  have K6 : Hid (Kp w w5.drew none) := Lib.hid K5.out.drew
  have HB6 : Hid (w5.drew.heap[w.heap.size]? = some (.cells #[.int .u16 a, .int .u8 c, .string ⟨inn.toArray⟩] 41 (0, 0))) := Lib.hid HB5.out
  refine wp_region_held_drew (S := fun w2 => w2.cell? ⟨w.heap.size, 0, none⟩ = some (.int .u16 a) ∧ w2.cell? ⟨w.heap.size, 1, none⟩ = some (.int .u8 c) ∧ w2.cell? ⟨w.heap.size, 2, none⟩ = some (.string ⟨inn.toArray⟩)) (by kernel_rfl) ?_ (fun hHeld => ?_)
  · exact ⟨by rw [Lib.cell_of_heap HB6.out]; rfl, by rw [Lib.cell_of_heap HB6.out]; rfl, by rw [Lib.cell_of_heap HB6.out]; rfl⟩
  refine wpAnyH_take (i := 0) (oi := _) (v := ?_) rfl (by kernel_rfl) (by kernel_rfl) (by kernel_rfl) (fun _ _ _ h => h) (Or.inl ⟨by rfl, ?_⟩) (by assumption) ?_
  rotate_left
  · (intro w hSw; (try dsimp only at hSw); go_simp <;> with_reducible rfl)
  try simp only [Act.put, List.getElem_toArray, List.getElem_cons_zero, List.setIfInBounds_toArray, List.set_cons_zero, List.set_cons_succ]
  refine wpAnyH_take (i := 1) (oi := _) (v := ?_) rfl (by kernel_rfl) (by kernel_rfl) (by kernel_rfl) (fun _ _ _ h => h) (Or.inl ⟨by rfl, ?_⟩) (by assumption) ?_
  rotate_left
  · (intro w hSw; (try dsimp only at hSw); go_simp <;> with_reducible rfl)
  try simp only [Act.put, List.getElem_toArray, List.getElem_cons_zero, List.getElem_cons_succ, List.setIfInBounds_toArray, List.set_cons_zero, List.set_cons_succ]
  refine wpAnyH_take (i := 2) (oi := _) (v := ?_) rfl (by kernel_rfl) (by kernel_rfl) (by kernel_rfl) (fun _ _ _ h => h) (Or.inl ⟨by rfl, ?_⟩) (by assumption) ?_
  rotate_left
  · (intro w hSw; (try dsimp only at hSw); go_simp <;> with_reducible rfl)
  try simp only [Act.put, List.getElem_toArray, List.getElem_cons_zero, List.getElem_cons_succ, List.setIfInBounds_toArray, List.set_cons_zero, List.set_cons_succ]
  refine wpAnyH_take (i := 3) (oi := _) (v := ?_) rfl (by kernel_rfl) (by kernel_rfl) (by kernel_rfl) (fun _ _ _ h => h) (Or.inl ⟨by rfl, ?_⟩) (by assumption) ?_
  rotate_left
  · (intro w hSw; (try dsimp only at hSw); go_simp <;> with_reducible rfl)
  try simp only [Act.put, List.getElem_toArray, List.getElem_cons_zero, List.getElem_cons_succ, List.setIfInBounds_toArray, List.set_cons_zero, List.set_cons_succ]
  refine wpAnyH_take (i := 5) (oi := _) (v := ?_) rfl (by kernel_rfl) (by kernel_rfl) (by kernel_rfl) (fun _ _ _ h => h) (Or.inl ⟨by rfl, ?_⟩) (by assumption) ?_
  rotate_left
  · (intro w hSw; (try dsimp only at hSw); go_simp <;> with_reducible rfl)
  try simp only [Act.put, List.getElem_toArray, List.getElem_cons_zero, List.getElem_cons_succ, List.setIfInBounds_toArray, List.set_cons_zero, List.set_cons_succ]
  refine wpAnyH_take (i := 6) (oi := _) (v := ?_) rfl (by kernel_rfl) (by kernel_rfl) (by kernel_rfl) (fun _ _ _ h => h) (Or.inl ⟨by rfl, ?_⟩) (by assumption) ?_
  rotate_left
  · (intro w hSw; (try dsimp only at hSw); go_simp <;> with_reducible rfl)
  try simp only [Act.put, List.getElem_toArray, List.getElem_cons_zero, List.getElem_cons_succ, List.setIfInBounds_toArray, List.set_cons_zero, List.set_cons_succ]
  refine wpAnyH_take (i := 8) (oi := _) (v := ?_) rfl (by kernel_rfl) (by kernel_rfl) (by kernel_rfl) (fun _ _ _ h => h) (Or.inl ⟨by rfl, ?_⟩) (by assumption) ?_
  rotate_left
  · (intro w hSw; (try dsimp only at hSw); go_simp <;> with_reducible rfl)
  try simp only [Act.put, List.getElem_toArray, List.getElem_cons_zero, List.getElem_cons_succ, List.setIfInBounds_toArray, List.set_cons_zero, List.set_cons_succ]
  refine wpAnyH_take (i := 9) (oi := _) (v := ?_) rfl (by kernel_rfl) (by kernel_rfl) (by kernel_rfl) (fun _ _ _ h => h) (Or.inl ⟨by rfl, ?_⟩) (by assumption) ?_
  rotate_left
  · (intro w hSw; (try dsimp only at hSw); go_simp <;> with_reducible rfl)
  try simp only [Act.put, List.getElem_toArray, List.getElem_cons_zero, List.getElem_cons_succ, List.setIfInBounds_toArray, List.set_cons_zero, List.set_cons_succ]
  refine wpAnyH_take (i := 10) (oi := _) (v := ?_) rfl (by kernel_rfl) (by kernel_rfl) (by kernel_rfl) (fun _ _ _ h => h) (Or.inl ⟨by rfl, ?_⟩) (by assumption) ?_
  rotate_left
  · (intro w hSw; (try dsimp only at hSw); go_simp <;> with_reducible rfl)
  try simp only [Act.put, List.getElem_toArray, List.getElem_cons_zero, List.getElem_cons_succ, List.setIfInBounds_toArray, List.set_cons_zero, List.set_cons_succ]
  refine wpAnyH_take (i := 11) (oi := _) (v := ?_) rfl (by kernel_rfl) (by kernel_rfl) (by kernel_rfl) (fun _ _ _ h => h) (Or.inl ⟨by rfl, ?_⟩) (by assumption) ?_
  rotate_left
  · (intro w hSw; (try dsimp only at hSw); go_simp <;> with_reducible rfl)
  try simp only [Act.put, List.getElem_toArray, List.getElem_cons_zero, List.getElem_cons_succ, List.setIfInBounds_toArray, List.set_cons_zero, List.set_cons_succ]
  refine wpAnyH_take (i := 12) (oi := _) (v := ?_) rfl (by kernel_rfl) (by kernel_rfl) (by kernel_rfl) (fun _ _ _ h => h) (Or.inl ⟨by rfl, ?_⟩) (by assumption) ?_
  rotate_left
  · (intro w hSw; (try dsimp only at hSw); go_simp <;> with_reducible rfl)
  try simp only [Act.put, List.getElem_toArray, List.getElem_cons_zero, List.getElem_cons_succ, List.setIfInBounds_toArray, List.set_cons_zero, List.set_cons_succ]
  refine wpAnyH_take (i := 13) (oi := _) (v := ?_) rfl (by kernel_rfl) (by kernel_rfl) (by kernel_rfl) (fun _ _ _ h => h) (Or.inl ⟨by rfl, ?_⟩) (by assumption) ?_
  rotate_left
  · (intro w hSw; (try dsimp only at hSw); go_simp <;> with_reducible rfl)
  try simp only [Act.put, List.getElem_toArray, List.getElem_cons_zero, List.getElem_cons_succ, List.setIfInBounds_toArray, List.set_cons_zero, List.set_cons_succ]
  refine wpAnyH_take (i := 14) (oi := _) (v := ?_) rfl (by kernel_rfl) (by kernel_rfl) (by kernel_rfl) (fun _ _ _ h => h) (Or.inl ⟨by rfl, ?_⟩) (by assumption) ?_
  rotate_left
  · (intro w hSw; (try dsimp only at hSw); go_simp <;> with_reducible rfl)
  try simp only [Act.put, List.getElem_toArray, List.getElem_cons_zero, List.getElem_cons_succ, List.setIfInBounds_toArray, List.set_cons_zero, List.set_cons_succ]
  refine wpAnyH_take (i := 15) (oi := _) (v := ?_) rfl (by kernel_rfl) (by kernel_rfl) (by kernel_rfl) (fun _ _ _ h => h) (Or.inl ⟨by rfl, ?_⟩) (by assumption) ?_
  rotate_left
  · (intro w hSw; (try dsimp only at hSw); go_simp <;> with_reducible rfl)
  try simp only [Act.put, List.getElem_toArray, List.getElem_cons_zero, List.getElem_cons_succ, List.setIfInBounds_toArray, List.set_cons_zero, List.set_cons_succ]
  refine wpAnyH_take (i := 18) (oi := _) (v := ?_) rfl (by kernel_rfl) (by kernel_rfl) (by kernel_rfl) (fun _ _ _ h => h) (Or.inl ⟨by rfl, ?_⟩) (by assumption) ?_
  rotate_left
  · (intro w hSw; (try dsimp only at hSw); go_simp <;> with_reducible rfl)
  try simp only [Act.put, List.getElem_toArray, List.getElem_cons_zero, List.getElem_cons_succ, List.setIfInBounds_toArray, List.set_cons_zero, List.set_cons_succ]
  refine wpAnyH_ready (rs := [4]) (by kernel_rfl) (by simp) ?_
  refine AllReadyH.cons (o := _) rfl (fun K hK => ?_) AllReadyH.nil
  clear hHeld
  go_simp
  refine (apply_any a c ha ha2 hc hc2 inn S0 hin (by omega) _).mono ?_
  rintro e w7 ⟨⟨x2, rfl, hr⟩, k⟩
  have HR2 : Hid (x2.length ≤ 12030) := Lib.hid (by omega)
  have K7 := Lib.hid (K6.out.trans k)
  have HB7 := Lib.hid ((k.block _ (lt_of_block HB6.out) (by simp)).trans HB6.out)
  clear hr k
  try go_wp2_with fail
  refine hK.out _ _ ⟨by rw [Lib.cell_of_heap HB7.out]; rfl, by rw [Lib.cell_of_heap HB7.out]; rfl, by rw [Lib.cell_of_heap HB7.out]; rfl⟩ (fun hHeld => ?_)
  clear hK K
  try simp only [Act.put, List.getElem_toArray, List.getElem_cons_zero, List.getElem_cons_succ, List.setIfInBounds_toArray, List.set_cons_zero, List.set_cons_succ]
  refine wpAnyH_ready (rs := [7]) (by kernel_rfl) (by simp) ?_
  refine AllReadyH.cons (o := _) rfl (fun K hK => ?_) AllReadyH.nil
  clear hHeld
  go_simp
  refine (apply_any a c ha ha2 hc hc2 inn S1 hin (by omega) _).mono ?_
  rintro e w8 ⟨⟨x3, rfl, hr⟩, k⟩
  have HR3 : Hid (x3.length ≤ 12030) := Lib.hid (by omega)
  have K8 := Lib.hid (K7.out.trans k)
  have HB8 := Lib.hid ((k.block _ (lt_of_block HB7.out) (by simp)).trans HB7.out)
  have HB9 := Lib.hid (alloc_keeps (o := .cells #[.string ⟨S0.toArray⟩, .string ⟨S1.toArray⟩, .string ⟨x2.toArray⟩, .string ⟨x3.toArray⟩, .string ⟨x4.toArray⟩, .string ⟨x5.toArray⟩] 9) HB8.out)
  clear hr k
  try go_wp2_with fail
  refine hK.out _ _ ⟨by rw [Lib.cell_of_heap HB8.out]; rfl, by rw [Lib.cell_of_heap HB8.out]; rfl, by rw [Lib.cell_of_heap HB8.out]; rfl⟩ (fun hHeld => ?_)
  clear hK K
  try simp only [Act.put, List.getElem_toArray, List.getElem_cons_zero, List.getElem_cons_succ, List.setIfInBounds_toArray, List.set_cons_zero, List.set_cons_succ]
  refine wpAnyH_ready (rs := [16]) (by kernel_rfl) (by simp) ?_
  refine AllReadyH.cons (o := _) rfl (fun K hK => ?_) AllReadyH.nil
  clear hHeld
  go_simp
  try go_wp2_with fail
  refine hK.out _ _ ⟨by rw [Lib.cell_of_heap HB9.out]; rfl, by rw [Lib.cell_of_heap HB9.out]; rfl, by rw [Lib.cell_of_heap HB9.out]; rfl⟩ (fun hHeld => ?_)
  clear hK K
  try simp only [Act.put, List.getElem_toArray, List.getElem_cons_zero, List.getElem_cons_succ, List.setIfInBounds_toArray, List.set_cons_zero, List.set_cons_succ]
  refine wpAnyH_ready (rs := [17]) (by kernel_rfl) (by simp) ?_
  refine AllReadyH.cons (o := _) rfl (fun K hK => ?_) AllReadyH.nil
  clear hHeld
  go_simp
  try go_wp2_with fail
  refine hK.out _ _ ⟨by rw [Lib.cell_of_heap HB9.out]; rfl, by rw [Lib.cell_of_heap HB9.out]; rfl, by rw [Lib.cell_of_heap HB9.out]; rfl⟩ (fun hHeld => ?_)
  clear hK K hHeld
  refine wpAnyH_done (by kernel_rfl) ?_ _
  clear hcat g0 hex hm0 hm1
  have HBK := Lib.hid (heap_alloc_new w8 (.cells #[.string ⟨S0.toArray⟩, .string ⟨S1.toArray⟩, .string ⟨x2.toArray⟩, .string ⟨x3.toArray⟩, .string ⟨x4.toArray⟩, .string ⟨x5.toArray⟩] 9))
  have KB : Hid (Kp w (w8.alloc (.cells #[.string ⟨S0.toArray⟩, .string ⟨S1.toArray⟩, .string ⟨x2.toArray⟩, .string ⟨x3.toArray⟩, .string ⟨x4.toArray⟩, .string ⟨x5.toArray⟩] 9)) none) := Lib.hid (K8.out.alloc _)
  obtain ⟨wB, hwB⟩ : ∃ wB, (w8.alloc (.cells #[.string ⟨S0.toArray⟩, .string ⟨S1.toArray⟩, .string ⟨x2.toArray⟩, .string ⟨x3.toArray⟩, .string ⟨x4.toArray⟩, .string ⟨x5.toArray⟩] 9)) = wB := ⟨_, rfl⟩
  rw [hwB] at HBK KB
  have HXL := Lib.hid (six_len (x0 := S0) (x1 := S1) (by omega) (by omega) HR2.out HR3.out hl4 hl5)
  go_wp2_with fail
  go_loopw [47] (fun v wr => RsRel wB v wr) (fun v _ => 6 - (intOf v).toNat)
  case atStart => exact ⟨0, by omega, rfl, by rw [← hwB]; exact Kp.refl _ _⟩
  case round =>
    clear hwB
    obtain ⟨j, hj, rfl, hK⟩ := hrel
    have KR := Lib.hid (KB.out.trans hK)
    have HK := Lib.hid hK
    clear hK
    have hj0 : (0 : Int) ≤ (j : Int) := by omega
    by_cases hlt : j < 6
    · have hj1 : (j : Int) < 6 := by omega
      obtain ⟨x, hx⟩ : ∃ x, [S0, S1, x2, x3, x4, x5][j]'(by simpa using hlt) = x := ⟨_, rfl⟩
      have cX : wr.cell? ⟨w8.heap.size, j, none⟩ = some (.string ⟨x.toArray⟩) := by rw [six_cells HBK.out HK.out j hlt, hx]
      have hxl : x.length ≤ 12030 := HXL.out x (by rw [← hx]; exact List.getElem_mem _)
      clear hx
      go_wp2_with fail
      clear cX
      cases ho0 : Li.readFile Li.place Li.rowK x with
      | ok l =>
        have hcan := Li.read_can ho0
        have hsh := file_short (kind := Li.place) (l := l) (N := 12030) (by rw [← hcan.1]; exact hxl)
        have HO := Lib.hid ho0
        have HCAN := Lib.hid hcan
        have HSH := Lib.hid hsh.1
        clear ho0 hcan hsh
        refine (readRows_any x _ _ (HE.out.kp0 KR.out) (by omega) HO.out).mono ?_
        rintro e wKRa0 ⟨⟨va, rfl, hv⟩, k⟩
        have KRa0 := Lib.hid (KR.out.trans k)
        have HVA := Lib.hid (of_isRows hv (fun x hx => good_six (HCAN.out.2 x hx) rfl))
        have KA := Lib.hid k
        clear hv k
        go_wp2_with fail
        refine (rreadRows_any x _ (by omega)).mono ?_
        rintro e wKRb0 hre
        rw [HO.out] at hre
        obtain ⟨⟨vb, rfl, hv⟩, k⟩ := hre
        have KRb0 := Lib.hid (KRa0.out.trans k)
        have HVB := Lib.hid (of_isRows hv (fun x hx => good_six (HCAN.out.2 x hx) rfl))
        have HVA2 := Lib.hid (HVA.out.keep k)
        have KB2 := Lib.hid (KA.out.trans k)
        clear hv k
        go_wp2_with fail
        refine (sameRows_any va vb l _ HVA2.out HVB.out (by have := HSH.out; omega) HCAN.out.2).mono ?_
        rintro e wKRc0 ⟨rfl, nn, hnn⟩
        have k : Kp wKRb0 wKRc0 none := by rw [← hnn]; exact (Kp.refl _ _).drewN _
        have KRc0 := Lib.hid (KRb0.out.trans k)
        have KC2 := Lib.hid (KB2.out.trans k)
        clear hnn k HO HCAN HSH HVA HVB HVA2 KA KB2
        go_wp2_with fail
        have KE := KC2
        clear KC2
        cases ho1 : Li.readFile Li.probe Li.probeK x with
        | ok l =>
          have hcan := Li.read_can ho1
          have hsh := file_short (kind := Li.probe) (l := l) (N := 12030) (by rw [← hcan.1]; exact hxl)
          have HO := Lib.hid ho1
          have HCAN := Lib.hid hcan
          have HSH := Lib.hid hsh.1
          clear ho1 hcan hsh
          refine (readProbes_any x _ _ (HE.out.kp0 KRc0.out) (by omega) HO.out).mono ?_
          rintro e wKRc0a1 ⟨⟨va, rfl, hv⟩, k⟩
          have KRc0a1 := Lib.hid (KRc0.out.trans k)
          have HVA := Lib.hid (of_isRows hv (fun x hx => good_six (HCAN.out.2 x hx) rfl))
          have KA := Lib.hid k
          clear hv k
          go_wp2_with fail
          refine (rreadProbes_any x _ (by omega)).mono ?_
          rintro e wKRc0b1 hre
          rw [HO.out] at hre
          obtain ⟨⟨vb, rfl, hv⟩, k⟩ := hre
          have KRc0b1 := Lib.hid (KRc0a1.out.trans k)
          have HVB := Lib.hid (of_isRows hv (fun x hx => good_six (HCAN.out.2 x hx) rfl))
          have HVA2 := Lib.hid (HVA.out.keep k)
          have KB2 := Lib.hid (KA.out.trans k)
          clear hv k
          go_wp2_with fail
          refine (sameProbes_any va vb l _ HVA2.out HVB.out (by have := HSH.out; omega) HCAN.out.2).mono ?_
          rintro e wKRc0c1 ⟨rfl, nn, hnn⟩
          have k : Kp wKRc0b1 wKRc0c1 none := by rw [← hnn]; exact (Kp.refl _ _).drewN _
          have KRc0c1 := Lib.hid (KRc0b1.out.trans k)
          have KC2 := Lib.hid (KB2.out.trans k)
          clear hnn k HO HCAN HSH HVA HVB HVA2 KA KB2
          go_wp2_with fail
          have HREL : Hid (RsRel wB (.int .i64 (j + 1)) wKRc0c1) := Lib.hid ⟨j + 1, hlt, by go_num, HK.out.trans (KE.out.trans KC2.out)⟩
          have HMU : Hid (6 - (intOf (.int .i64 ((j : Int) + 1))).toNat < 6 - (intOf (.int .i64 (j : Int))).toNat) := Lib.hid (by simp [intOf]; omega)
          first | exact ⟨HREL.out, HMU.out⟩ | (go_roundw; all_goals first | exact HREL.out | exact HMU.out | ((repeat apply Exists.intro); exact ⟨HREL.out, rfl⟩))
        | bad n =>
          have HO := Lib.hid ho1
          clear ho1
          refine (readProbes_any x _ _ (HE.out.kp0 KRc0.out) (by omega) HO.out).mono ?_
          rintro e wKRc0a1 ⟨rfl, k⟩
          have KRc0a1 := Lib.hid (KRc0.out.trans k)
          have KA := Lib.hid k
          clear k
          go_wp2_with fail
          refine (rreadProbes_any x _ (by omega)).mono ?_
          rintro e wKRc0b1 hre
          rw [HO.out] at hre
          obtain ⟨rfl, k⟩ := hre
          have KRc0b1 := Lib.hid (KRc0a1.out.trans k)
          have KB2 := Lib.hid (KA.out.trans k)
          clear k
          go_wp2_with fail
          refine (sameProbes_any (.slice none 0 0) (.slice none 0 0) [] _ (.inl ⟨_, _, rfl, rfl⟩) (.inl ⟨_, _, rfl, rfl⟩) (by simp) (by simp)).mono ?_
          rintro e wKRc0c1 ⟨rfl, nn, hnn⟩
          have k : Kp wKRc0b1 wKRc0c1 none := by rw [← hnn]; exact (Kp.refl _ _).drewN _
          have KRc0c1 := Lib.hid (KRc0b1.out.trans k)
          have KC2 := Lib.hid (KB2.out.trans k)
          clear hnn k HO KA KB2
          go_wp2_with fail
          have HREL : Hid (RsRel wB (.int .i64 (j + 1)) wKRc0c1) := Lib.hid ⟨j + 1, hlt, by go_num, HK.out.trans (KE.out.trans KC2.out)⟩
          have HMU : Hid (6 - (intOf (.int .i64 ((j : Int) + 1))).toNat < 6 - (intOf (.int .i64 (j : Int))).toNat) := Lib.hid (by simp [intOf]; omega)
          first | exact ⟨HREL.out, HMU.out⟩ | (go_roundw; all_goals first | exact HREL.out | exact HMU.out | ((repeat apply Exists.intro); exact ⟨HREL.out, rfl⟩))
      | bad n =>
        have HO := Lib.hid ho0
        clear ho0
        refine (readRows_any x _ _ (HE.out.kp0 KR.out) (by omega) HO.out).mono ?_
        rintro e wKRa0 ⟨rfl, k⟩
        have KRa0 := Lib.hid (KR.out.trans k)
        have KA := Lib.hid k
        clear k
        go_wp2_with fail
        refine (rreadRows_any x _ (by omega)).mono ?_
        rintro e wKRb0 hre
        rw [HO.out] at hre
        obtain ⟨rfl, k⟩ := hre
        have KRb0 := Lib.hid (KRa0.out.trans k)
        have KB2 := Lib.hid (KA.out.trans k)
        clear k
        go_wp2_with fail
        refine (sameRows_any (.slice none 0 0) (.slice none 0 0) [] _ (.inl ⟨_, _, rfl, rfl⟩) (.inl ⟨_, _, rfl, rfl⟩) (by simp) (by simp)).mono ?_
        rintro e wKRc0 ⟨rfl, nn, hnn⟩
        have k : Kp wKRb0 wKRc0 none := by rw [← hnn]; exact (Kp.refl _ _).drewN _
        have KRc0 := Lib.hid (KRb0.out.trans k)
        have KC2 := Lib.hid (KB2.out.trans k)
        clear hnn k HO KA KB2
        go_wp2_with fail
        have KE := KC2
        clear KC2
        cases ho1 : Li.readFile Li.probe Li.probeK x with
        | ok l =>
          have hcan := Li.read_can ho1
          have hsh := file_short (kind := Li.probe) (l := l) (N := 12030) (by rw [← hcan.1]; exact hxl)
          have HO := Lib.hid ho1
          have HCAN := Lib.hid hcan
          have HSH := Lib.hid hsh.1
          clear ho1 hcan hsh
          refine (readProbes_any x _ _ (HE.out.kp0 KRc0.out) (by omega) HO.out).mono ?_
          rintro e wKRc0a1 ⟨⟨va, rfl, hv⟩, k⟩
          have KRc0a1 := Lib.hid (KRc0.out.trans k)
          have HVA := Lib.hid (of_isRows hv (fun x hx => good_six (HCAN.out.2 x hx) rfl))
          have KA := Lib.hid k
          clear hv k
          go_wp2_with fail
          refine (rreadProbes_any x _ (by omega)).mono ?_
          rintro e wKRc0b1 hre
          rw [HO.out] at hre
          obtain ⟨⟨vb, rfl, hv⟩, k⟩ := hre
          have KRc0b1 := Lib.hid (KRc0a1.out.trans k)
          have HVB := Lib.hid (of_isRows hv (fun x hx => good_six (HCAN.out.2 x hx) rfl))
          have HVA2 := Lib.hid (HVA.out.keep k)
          have KB2 := Lib.hid (KA.out.trans k)
          clear hv k
          go_wp2_with fail
          refine (sameProbes_any va vb l _ HVA2.out HVB.out (by have := HSH.out; omega) HCAN.out.2).mono ?_
          rintro e wKRc0c1 ⟨rfl, nn, hnn⟩
          have k : Kp wKRc0b1 wKRc0c1 none := by rw [← hnn]; exact (Kp.refl _ _).drewN _
          have KRc0c1 := Lib.hid (KRc0b1.out.trans k)
          have KC2 := Lib.hid (KB2.out.trans k)
          clear hnn k HO HCAN HSH HVA HVB HVA2 KA KB2
          go_wp2_with fail
          have HREL : Hid (RsRel wB (.int .i64 (j + 1)) wKRc0c1) := Lib.hid ⟨j + 1, hlt, by go_num, HK.out.trans (KE.out.trans KC2.out)⟩
          have HMU : Hid (6 - (intOf (.int .i64 ((j : Int) + 1))).toNat < 6 - (intOf (.int .i64 (j : Int))).toNat) := Lib.hid (by simp [intOf]; omega)
          first | exact ⟨HREL.out, HMU.out⟩ | (go_roundw; all_goals first | exact HREL.out | exact HMU.out | ((repeat apply Exists.intro); exact ⟨HREL.out, rfl⟩))
        | bad n =>
          have HO := Lib.hid ho1
          clear ho1
          refine (readProbes_any x _ _ (HE.out.kp0 KRc0.out) (by omega) HO.out).mono ?_
          rintro e wKRc0a1 ⟨rfl, k⟩
          have KRc0a1 := Lib.hid (KRc0.out.trans k)
          have KA := Lib.hid k
          clear k
          go_wp2_with fail
          refine (rreadProbes_any x _ (by omega)).mono ?_
          rintro e wKRc0b1 hre
          rw [HO.out] at hre
          obtain ⟨rfl, k⟩ := hre
          have KRc0b1 := Lib.hid (KRc0a1.out.trans k)
          have KB2 := Lib.hid (KA.out.trans k)
          clear k
          go_wp2_with fail
          refine (sameProbes_any (.slice none 0 0) (.slice none 0 0) [] _ (.inl ⟨_, _, rfl, rfl⟩) (.inl ⟨_, _, rfl, rfl⟩) (by simp) (by simp)).mono ?_
          rintro e wKRc0c1 ⟨rfl, nn, hnn⟩
          have k : Kp wKRc0b1 wKRc0c1 none := by rw [← hnn]; exact (Kp.refl _ _).drewN _
          have KRc0c1 := Lib.hid (KRc0b1.out.trans k)
          have KC2 := Lib.hid (KB2.out.trans k)
          clear hnn k HO KA KB2
          go_wp2_with fail
          have HREL : Hid (RsRel wB (.int .i64 (j + 1)) wKRc0c1) := Lib.hid ⟨j + 1, hlt, by go_num, HK.out.trans (KE.out.trans KC2.out)⟩
          have HMU : Hid (6 - (intOf (.int .i64 ((j : Int) + 1))).toNat < 6 - (intOf (.int .i64 (j : Int))).toNat) := Lib.hid (by simp [intOf]; omega)
          first | exact ⟨HREL.out, HMU.out⟩ | (go_roundw; all_goals first | exact HREL.out | exact HMU.out | ((repeat apply Exists.intro); exact ⟨HREL.out, rfl⟩))
    · obtain rfl : j = 6 := by omega
      go_wp2_with fail
      go_ret
      exact ⟨rfl, KR.out⟩

end Go.Proofs.YtldjhjbodhhnbaaDoor
