/- DrillRaw: both readers agree on any texts, and on lines behind the beginning of a file. No condition. -/
import Derived.Test.YtljjbdbgedmadaaGreatDoorL4
import Derived.Test.YtljjbdbgedmadaaGreatDoorLf
import Derived.Test.YtljjbdbgedmadaaGreatDoorTie
import Derived.Test.YtljjbdbgedmadaaGreatDoorCards
import Derived.SevenTiedAt
import Derived.Carry
namespace Go.Proofs.YtljjbdbgedmadaaGreatDoor.drillRaw
open Go.ChangeShapes Go.WideShapes Go.ChangeAt Go.RowKit

set_option maxRecDepth 100000 in
theorem lifted (os : Os) (started : os.Started) (H : Type) (enc : TypeId × Value → H) :
    ReturnsInHanded {} Tryz.checked os 4 .any (fun w args => (Rows.drillRawSpec.pre enc Tryz.prog Tryz.f4 [] false w args ∧ laidMetH Tryz.prog laidAll w) ∧ sizedMet enc Tryz.prog Tryz.f4 (OpenSpec.ofChange Rows.drillRawSpec) false w args)
      (Rows.drillRawSpec.post enc Tryz.prog Tryz.f4 false true false false) := by
  refine returns_all (C := Tryz.checked) (X := fun w _ => laidMetH Tryz.prog laidAll w) (fun _ _ _ hh h => h.of_heap hh) own started (by kernel_rfl) Tryz.func4
    (ChangeSpec.witness_shaped (enc := enc) (C := Tryz.checked) (os := os) (X := fun w _ => laidMetH Tryz.prog laidAll w) false (World.laidAll Tryz.prog os laidAll) #[.string ⟨#[]⟩, .slice none 0 0] 8 (World.laidAll_os _ _ _) (World.shaped_of_ZipB (by kernel_rfl) (by kernel_rfl)) (by kernel_rfl) (by kernel_rfl) (by kernel_rfl) (door_met os _)) ?_
  intro W base args ds gs before hval0 hW hreach hL hsh
  have hval : ∀ (j : Nat) t v, Tryz.f4.params[j]? = some t → args[j]? = some v → Value.okWide Tryz.prog W .any base t v := hval0
  have hW' := hW
  obtain ⟨p, q, hA0, hV, rfl, hfz, hnd⟩ := hW
  have hA : DataW.TrodAll enc Tryz.prog W 0 (fun _ => true) true Tryz.f4.params.toList args.toList ds p := hA0
  rw [Tryz.params4] at hA hval
  obtain ⟨v0, v1, d0, d1, p0, p1, rfl, rfl, rfl, h0, h1⟩ := trodAll_two hA
  obtain ⟨rfl, rfl⟩ := trodVars_none hV
  have env := env_of hL (mx_of W hsh)
  clear hA0 hval0
  simp only [List.append_nil] at hW'
  have hlt : ∀ x ∈ p0 ++ p1, x.block < W.heap.size := fun x hx => by simpa using hW'.lt x (by simpa using hx)
  have hlt0 : ∀ x ∈ p0, x.block < W.heap.size := fun x hx => hlt x (by simp [hx])
  have hargs0 : ∀ (W' : World), Below W.heap.size W W' → DataW.Trod enc Tryz.prog W' 0 (fun b => decide (b < W.heap.size)) true 9 v0 d0 p0 :=
    fun W' hn => Below.trod laidOut (by kernel_rfl) (of_decide_eq_true (by kernel_rfl)) h0 hn hlt0
  obtain ⟨s0, hse0, _, _, hs0⟩ := Go.ChangeMaps.open_string Tryz.underlying9 (hval 0 9 v0 rfl rfl) h0
  have hsz0 : s0.data.toList.length ≤ 9223372036854775807 := by have := hs0; unfold maxLen at this; show s0.data.toList.length ≤ _; simpa using this
  have hsb0 : (⟨s0.data.toList.toArray⟩ : ByteArray) = s0 := by cases s0; simp
  have hlt1 : ∀ x ∈ p1, x.block < W.heap.size := fun x hx => hlt x (by simp [hx])
  have hargs1 : ∀ (W' : World), Below W.heap.size W W' → DataW.Trod enc Tryz.prog W' 0 (fun b => decide (b < W.heap.size)) true 32 v1 d1 p1 :=
    fun W' hn => Below.trod laidOut (by kernel_rfl) (of_decide_eq_true (by kernel_rfl)) h1 hn hlt1
  obtain ⟨ao1, xs1, cap1, rfl, hl1, hn1, hx1⟩ := open_strs h1 (by obtain ⟨a, l, c, e⟩ := okWide_slice Tryz.underlying32 (hval 1 32 v1 rfl rfl); rw [e]; rfl)
  have hwk : Calls Tryz.prog 4 #[v0, .slice ao1 xs1.length cap1] W fun E w' => E = .returned (.bool true) ∧ Kp W w' none := by rw [hse0, ← hsb0]; exact raw_any s0.data.toList xs1 _ rfl ao1 cap1 W env hl1 hn1 hsz0 hx1
  refine hwk.mono fun e W' ⟨he, hk⟩ => ?_
  subst he
  exact ⟨_, rfl, _, _, _, [], _, [], hW', trodAll_mk1 (shut_bool Tryz.underlying4 true), trodAll_mk2 (hargs0 _ hk.below) (hargs1 _ hk.below), rfl, hk.below.frame _, fun h => by cases h⟩

theorem over : Rows.DrillRawSaid :=
  OpenClaim.holds_of_wide 4 Tryz.f4 rfl rfl rfl rfl rfl rfl rfl ⟨rfl, rfl, rfl, rfl, rfl⟩ rfl rfl rfl rfl rfl (by kernel_rfl) Tryz.func4 (by kernel_rfl)
    (of_decide_eq_true (by kernel_rfl)) (by unfold Func.isWrapper; first | (rw [if_pos (by decide +kernel)]; kernel_rfl) | (rw [if_neg (by decide +kernel)]; exact ⟨rfl, rfl⟩))
    (fun os started H enc _ => lifted os started H enc)

theorem proved : Rows.DrillRawCardSaid :=
  Claim7.holds_tied_plain_at .later [] [.data, .data, .data, .data, .sentinel, .sentinel, .pinned] true (true, "623eb398c08899d195d5c54c7f3ae3f8f3dab2dff1427779530895eb4a20ea92") true
    over (fun _ h => by cases h) (by kernel_rfl) (fun _ h => by cases h) drillRaw_row_tie rfl ⟨rfl, rfl⟩ (by kernel_rfl) rfl
    (fun f fn hf hfn => by
      obtain rfl : f = 4 := Option.some.inj ((show Tryz.prog.funcNamed "etchant/etchantlaw38.DrillRaw" = some 4 by kernel_rfl).symm.trans hf) |>.symm
      obtain rfl : fn = Tryz.f4 := (Option.some.inj (Tryz.func4.symm.trans hfn)).symm
      exact ⟨by kernel_rfl, fun j t ht => by
        rw [Tryz.params4] at ht
        have hm : t ∈ [9, 32] := by simpa using Array.mem_of_getElem? ht
        have hall : ([9, 32].all fun u => !Tryz.prog.wantsStandIn u) = true := by kernel_rfl
        exact (show Tryz.prog.wantsStandIn t = false by simpa using List.all_eq_true.1 hall t hm)⟩)
    (by kernel_rfl)
#print axioms proved
end Go.Proofs.YtljjbdbgedmadaaGreatDoor.drillRaw
