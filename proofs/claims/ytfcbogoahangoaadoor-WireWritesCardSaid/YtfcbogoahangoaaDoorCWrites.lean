/- WireWrites: for all integers and strings, the serializations are equal to those of the reference. No condition. -/
import Derived.Test.YtfcbogoahangoaaDoorWl
import Derived.Test.YtfcbogoahangoaaDoorLg
import Derived.Test.YtfcbogoahangoaaDoorTie
import Derived.Test.YtfcbogoahangoaaDoorCards
import Derived.SevenTiedAt
namespace Go.Proofs.YtfcbogoahangoaaDoor.wireWrites
open Go.ChangeShapes Go.WideShapes Go.ChangeAt Go.RowKit
open Go.ChangeMaps (open_string shut_string)

theorem laidOut : laidOutB Tryd.prog = true := by kernel_rfl
set_option maxRecDepth 100000 in
theorem lifted (os : Os) (started : os.Started) (H : Type) (enc : TypeId × Value → H) :
    ReturnsInHanded {} Tryd.checked os 3 .any (fun w args => (Rows.wireWritesSpec.pre enc Tryd.prog Tryd.f3 [] false w args ∧ laidMetH Tryd.prog laidAll w) ∧ sizedMet enc Tryd.prog Tryd.f3 (OpenSpec.ofChange Rows.wireWritesSpec) false w args)
      (Rows.wireWritesSpec.post enc Tryd.prog Tryd.f3 false true false false) := by
  refine returns_all (C := Tryd.checked) (X := fun w _ => laidMetH Tryd.prog laidAll w) (fun _ _ _ hh h => h.of_heap hh) own started (by kernel_rfl) Tryd.func3
    (ChangeSpec.witness_shaped (enc := enc) (C := Tryd.checked) (os := os) (X := fun w _ => laidMetH Tryd.prog laidAll w) false (World.doorLaid Tryd.prog 400 os) #[.slice none 0 0, .slice none 0 0] 8 rfl (World.shaped_of_RefB (by kernel_rfl) (by kernel_rfl)) (by kernel_rfl) (by kernel_rfl) (by kernel_rfl) (door_met os _)) ?_
  intro W base args ds gs before hval0 hW hreach hL hsh
  have hval : ∀ (j : Nat) t v, Tryd.f3.params[j]? = some t → args[j]? = some v → Value.okWide Tryd.prog W .any base t v := hval0
  have hW' := hW
  obtain ⟨p, q, hA0, hV, rfl, hfz, hnd⟩ := hW
  have hA : DataW.TrodAll enc Tryd.prog W 0 (fun _ => true) true Tryd.f3.params.toList args.toList ds p := hA0
  rw [Tryd.params3] at hA hval
  obtain ⟨v0, v1, d0, d1, p0, p1, rfl, rfl, rfl, h0, h1⟩ := trodAll_two hA
  obtain ⟨rfl, rfl⟩ := trodVars_none hV
  have env := env_of hL (mx_of W hsh)
  clear hA0 hval0
  simp only [List.append_nil] at hW'
  have hlt : ∀ x ∈ p0 ++ p1, x.block < W.heap.size := fun x hx => by simpa using hW'.lt x hx
  obtain ⟨a0, len0, cap0, rfl⟩ := okWide_slice Tryd.underlying22 (hval 0 22 v0 rfl rfl)
  have hk0 := h0
  obtain ⟨fuel0, hf0⟩ := h0
  have hlt0 : ∀ x ∈ p0, x.block < W.heap.size := fun x hx => hlt x (by simp [hx])
  have hargs0 : ∀ (W' : World), Below W.heap.size W W' → DataW.Trod enc Tryd.prog W' 0 (fun b => decide (b < W.heap.size)) true 22 (.slice a0 len0 cap0) d0 p0 :=
    fun W' hn => Below.trod laidOut (by kernel_rfl) (of_decide_eq_true (by kernel_rfl)) hk0 hn hlt0
  obtain ⟨xs0, hxl0, hxr0, hxI0, hxc0, hxm0⟩ : ∃ xs : List Int, xs.length = len0 ∧ IsRow W (.slice a0 xs.length cap0) (xs.map vInt) ∧ (∀ y ∈ xs, Wr.I64 y) ∧ len0 ≤ cap0 ∧ cap0 ≤ 9223372036854775807 := by
    rcases open_ints Tryd.underlying22 Tryd.underlying3 cells3 hf0 with ⟨hcs, _⟩ | ⟨a, len', cap', zs, hcs, _, hl, hmx, hz, _, hcell, hwz⟩
    · simp [Value.cells] at hcs
      obtain ⟨rfl, rfl, rfl⟩ := hcs
      exact ⟨[], rfl, .inl ⟨_, _, rfl, rfl⟩, by simp, by omega, by omega⟩
    · simp [Value.cells] at hcs
      obtain ⟨rfl, rfl, rfl⟩ := hcs
      unfold maxLen at hmx
      have hzl : len0 ≤ zs.length := by rw [hz]; split <;> omega
      refine ⟨zs.take len0, by simp; omega, ?_, fun y hy => i64_of_wf (hwz y (List.mem_of_mem_take hy)), hl, hmx⟩
      rcases Nat.eq_zero_or_pos len0 with h0 | hpos
      · rw [h0]; exact .inl ⟨_, _, rfl, rfl⟩
      · obtain ⟨b, off, rfl, hc⟩ := ints_at hcell (by omega)
        refine .inr ⟨b, off, cap0, by simp only [List.length_map], by simp only [List.length_map]; simp; omega, cell_lt (hc 0 (by omega)), fun i hi => ?_⟩
        rw [List.length_map] at hi
        have hi' : i < len0 := by simp at hi; omega
        rw [hc i (by omega)]
        have hiz : i < zs.length := by omega
        simp [hi', hiz, List.getD, vInt]
  obtain ⟨a1, len1, cap1, rfl⟩ := okWide_slice Tryd.underlying23 (hval 1 23 v1 rfl rfl)
  have hk1 := h1
  obtain ⟨fuel1, hf1⟩ := h1
  have hlt1 : ∀ x ∈ p1, x.block < W.heap.size := fun x hx => hlt x (by simp [hx])
  have hargs1 : ∀ (W' : World), Below W.heap.size W W' → DataW.Trod enc Tryd.prog W' 0 (fun b => decide (b < W.heap.size)) true 23 (.slice a1 len1 cap1) d1 p1 :=
    fun W' hn => Below.trod laidOut (by kernel_rfl) (of_decide_eq_true (by kernel_rfl)) hk1 hn hlt1
  obtain ⟨xs1, hxl1, hxr1, hxI1, hxc1, hxm1⟩ : ∃ xs : List (List UInt8), xs.length = len1 ∧ IsRow W (.slice a1 xs.length cap1) (xs.map vStr) ∧ (∀ y ∈ xs, y.length ≤ 9223372036854775807) ∧ len1 ≤ cap1 ∧ cap1 ≤ 9223372036854775807 := by
    rcases open_strings Tryd.underlying23 Tryd.underlying9 cells9 hf1 with ⟨hcs, _⟩ | ⟨a, len', cap', zs, hcs, _, hl, hmx, hz, _, hcell, hwz⟩
    · simp [Value.cells] at hcs
      obtain ⟨rfl, rfl, rfl⟩ := hcs
      exact ⟨[], rfl, .inl ⟨_, _, rfl, rfl⟩, by simp, by omega, by omega⟩
    · simp [Value.cells] at hcs
      obtain ⟨rfl, rfl, rfl⟩ := hcs
      unfold maxLen at hmx
      have hzl : len1 ≤ zs.length := by rw [hz]; split <;> omega
      refine ⟨(zs.take len1).map (fun s => s.data.toList), by simp; omega, ?_, fun y hy => ?_, hl, hmx⟩
      · rcases Nat.eq_zero_or_pos len1 with h0 | hpos
        · rw [h0]; exact .inl ⟨_, _, rfl, rfl⟩
        · obtain ⟨b, off, rfl, hc⟩ := strs_at hcell (by omega)
          refine .inr ⟨b, off, cap1, by simp only [List.length_map], by simp only [List.length_map]; simp; omega, cell_lt (hc 0 (by omega)), fun i hi => ?_⟩
          rw [List.length_map] at hi
          have hi' : i < len1 := by simp at hi; omega
          rw [hc i (by omega)]
          have hiz : i < zs.length := by omega
          simp [hi', hiz, List.getD, vStr]
      · obtain ⟨s, hs, rfl⟩ := List.mem_map.1 hy
        have := hwz s (List.mem_of_mem_take hs)
        unfold maxLen at this
        show s.data.toList.length ≤ _
        simpa using this
  have hwk : Calls Tryd.prog 3 #[.slice a0 len0 cap0, .slice a1 len1 cap1] W fun E w' => E = .returned (.bool true) ∧ Kp W w' none := by
    have hr1 := hxr1
    rw [hxl1] at hr1
    exact writes_any a0 cap0 len0 (xs0.take 40) _ xs1 W env (by rw [List.length_take, hxl0, Nat.min_comm]) hxc0 (by omega) (isRow_take hxr0 40) (fun y hy => hxI0 y (List.mem_of_mem_take hy)) hr1 (by omega) hxI1
  refine hwk.mono fun e W' ⟨he, hk⟩ => ?_
  subst he
  exact ⟨_, rfl, _, _, _, [], _, [], hW', trodAll_mk1 (shut_bool Tryd.underlying4 true), trodAll_mk2 (hargs0 _ hk.below) (hargs1 _ hk.below), rfl, hk.below.frame _, fun h => by cases h⟩

theorem over : Rows.WireWritesSaid :=
  OpenClaim.holds_of_wide 3 Tryd.f3 rfl rfl rfl rfl rfl rfl rfl ⟨rfl, rfl, rfl, rfl, rfl⟩ rfl rfl rfl rfl rfl (by kernel_rfl) Tryd.func3 (by kernel_rfl)
    (of_decide_eq_true (by kernel_rfl)) (by unfold Func.isWrapper; first | (rw [if_pos (by decide +kernel)]; kernel_rfl) | (rw [if_neg (by decide +kernel)]; exact ⟨rfl, rfl⟩))
    (fun os started H enc _ => lifted os started H enc)

theorem proved : Rows.WireWritesCardSaid :=
  Claim7.holds_tied_plain_at .later [] [.data, .data, .data, .sentinel, .sentinel] true (true, "564806e1a8bc403a51147083875dde262bc1bd159e06155676be73610486d059") true
    over (fun _ h => by cases h) (by kernel_rfl) (fun _ h => by cases h) wireWrites_row_tie rfl ⟨rfl, rfl⟩ (by kernel_rfl) rfl
    (fun f fn hf hfn => by
      obtain rfl : f = 3 := Option.some.inj ((show Tryd.prog.funcNamed "etchant/etchantlaw03.WireWrites" = some 3 by kernel_rfl).symm.trans hf) |>.symm
      obtain rfl : fn = Tryd.f3 := (Option.some.inj (Tryd.func3.symm.trans hfn)).symm
      exact ⟨by kernel_rfl, fun j t ht => by
        rw [Tryd.params3] at ht
        have hm : t ∈ [22, 23] := by simpa using Array.mem_of_getElem? ht
        have hall : ([22, 23].all fun u => !Tryd.prog.wantsStandIn u) = true := by kernel_rfl
        exact (show Tryd.prog.wantsStandIn t = false by simpa using List.all_eq_true.1 hall t hm)⟩)
    (by kernel_rfl)
#print axioms proved
end Go.Proofs.YtfcbogoahangoaaDoor.wireWrites
