/- DrillWrites: Write and Norm agree with the reference, for holes that can be written, and any among them. No condition. -/
import Derived.Test.YtljjbdbgedmadaaGreatDoorL9
import Derived.Test.YtljjbdbgedmadaaGreatDoorLw
import Derived.Test.YtljjbdbgedmadaaGreatDoorJWrites
import Derived.Test.YtljjbdbgedmadaaGreatDoorTie
import Derived.Test.YtljjbdbgedmadaaGreatDoorCards
import Derived.SevenTiedAt
import Derived.Carry
namespace Go.Proofs.YtljjbdbgedmadaaGreatDoor.drillWrites
open Go.ChangeShapes Go.WideShapes Go.ChangeAt Go.RowKit

set_option maxRecDepth 100000 in
theorem lifted (os : Os) (started : os.Started) (H : Type) (enc : TypeId × Value → H) :
    ReturnsInHanded {} Tryz.checked os 7 .any (fun w args => (Rows.drillWritesSpec.pre enc Tryz.prog Tryz.f7 [] false w args ∧ laidMetH Tryz.prog laidAll w) ∧ sizedMet enc Tryz.prog Tryz.f7 (OpenSpec.ofChange Rows.drillWritesSpec) false w args)
      (Rows.drillWritesSpec.post enc Tryz.prog Tryz.f7 false true false false) := by
  refine returns_all (C := Tryz.checked) (X := fun w _ => laidMetH Tryz.prog laidAll w) (fun _ _ _ hh h => h.of_heap hh) own started (by kernel_rfl) Tryz.func7
    (ChangeSpec.witness_shaped (enc := enc) (C := Tryz.checked) (os := os) (X := fun w _ => laidMetH Tryz.prog laidAll w) false (World.laidAll Tryz.prog os laidAll) #[.slice none 0 0, .slice none 0 0] 8 (World.laidAll_os _ _ _) (World.shaped_of_ZipB (by kernel_rfl) (by kernel_rfl)) (by kernel_rfl) (by kernel_rfl) (by kernel_rfl) (door_met os _)) ?_
  intro W base args ds gs before hval0 hW hreach hL hsh
  have hval : ∀ (j : Nat) t v, Tryz.f7.params[j]? = some t → args[j]? = some v → Value.okWide Tryz.prog W .any base t v := hval0
  have hW' := hW
  obtain ⟨p, q, hA0, hV, rfl, hfz, hnd⟩ := hW
  have hA : DataW.TrodAll enc Tryz.prog W 0 (fun _ => true) true Tryz.f7.params.toList args.toList ds p := hA0
  rw [Tryz.params7] at hA hval
  obtain ⟨v0, v1, d0, d1, p0, p1, rfl, rfl, rfl, h0, h1⟩ := trodAll_two hA
  obtain ⟨rfl, rfl⟩ := trodVars_none hV
  have env := env_of hL (mx_of W hsh)
  clear hA0 hval0
  simp only [List.append_nil] at hW'
  have hlt : ∀ x ∈ p0 ++ p1, x.block < W.heap.size := fun x hx => by simpa using hW'.lt x (by simpa using hx)
  have hlt0 : ∀ x ∈ p0, x.block < W.heap.size := fun x hx => hlt x (by simp [hx])
  have hargs0 : ∀ (W' : World), Below W.heap.size W W' → DataW.Trod enc Tryz.prog W' 0 (fun b => decide (b < W.heap.size)) true 22 v0 d0 p0 :=
    fun W' hn => Below.trod laidOut (by kernel_rfl) (of_decide_eq_true (by kernel_rfl)) h0 hn hlt0
  obtain ⟨ao0, xs0, cap0, rfl, hl0, _⟩ := open_rows h0 (by obtain ⟨a, l, c, e⟩ := okWide_slice Tryz.underlying22 (hval 0 22 v0 rfl rfl); rw [e]; rfl)
  have hlt1 : ∀ x ∈ p1, x.block < W.heap.size := fun x hx => hlt x (by simp [hx])
  have hargs1 : ∀ (W' : World), Below W.heap.size W W' → DataW.Trod enc Tryz.prog W' 0 (fun b => decide (b < W.heap.size)) true 30 v1 d1 p1 :=
    fun W' hn => Below.trod laidOut (by kernel_rfl) (of_decide_eq_true (by kernel_rfl)) h1 hn hlt1
  obtain ⟨ao1, xs1, cap1, rfl, hl1, _, _, hq1, _⟩ := open_holes h1 (by obtain ⟨a, l, c, e⟩ := okWide_slice Tryz.underlying30 (hval 1 30 v1 rfl rfl); rw [e]; rfl)
  have hwk : Calls Tryz.prog 7 #[.slice ao0 xs0.length cap0, .slice ao1 xs1.length cap1] W fun E w' => E = .returned (.bool true) ∧ Kp W w' none := by exact writes_any xs0 _ rfl ao0 cap0 xs1 _ rfl ao1 cap1 W env hl0 hl1 hq1
  refine hwk.mono fun e W' ⟨he, hk⟩ => ?_
  subst he
  exact ⟨_, rfl, _, _, _, [], _, [], hW', trodAll_mk1 (shut_bool Tryz.underlying4 true), trodAll_mk2 (hargs0 _ hk.below) (hargs1 _ hk.below), rfl, hk.below.frame _, fun h => by cases h⟩

theorem over : Rows.DrillWritesSaid :=
  OpenClaim.holds_of_wide 7 Tryz.f7 rfl rfl rfl rfl rfl rfl rfl ⟨rfl, rfl, rfl, rfl, rfl⟩ rfl rfl rfl rfl rfl (by kernel_rfl) Tryz.func7 jf
    (of_decide_eq_true (by kernel_rfl)) (by unfold Func.isWrapper; first | (rw [if_pos (by decide +kernel)]; kernel_rfl) | (rw [if_neg (by decide +kernel)]; exact ⟨rfl, rfl⟩))
    (fun os started H enc _ => lifted os started H enc)

theorem proved : Rows.DrillWritesCardSaid :=
  Claim7.holds_tied_plain_at .later [] [.data, .data, .data, .data, .sentinel, .sentinel, .pinned] true (true, "623eb398c08899d195d5c54c7f3ae3f8f3dab2dff1427779530895eb4a20ea92") true
    over (fun _ h => by cases h) (by kernel_rfl) (fun _ h => by cases h) drillWrites_row_tie rfl ⟨rfl, rfl⟩ (by kernel_rfl) rfl
    (fun f fn hf hfn => by
      obtain rfl : f = 7 := Option.some.inj ((show Tryz.prog.funcNamed "etchant/etchantlaw38.DrillWrites" = some 7 by kernel_rfl).symm.trans hf) |>.symm
      obtain rfl : fn = Tryz.f7 := (Option.some.inj (Tryz.func7.symm.trans hfn)).symm
      exact ⟨by kernel_rfl, fun j t ht => by
        rw [Tryz.params7] at ht
        have hm : t ∈ [22, 30] := by simpa using Array.mem_of_getElem? ht
        have hall : ([22, 30].all fun u => !Tryz.prog.wantsStandIn u) = true := by kernel_rfl
        exact (show Tryz.prog.wantsStandIn t = false by simpa using List.all_eq_true.1 hall t hm)⟩)
    (by kernel_rfl)
#print axioms proved
end Go.Proofs.YtljjbdbgedmadaaGreatDoor.drillWrites
