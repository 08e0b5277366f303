/- RuleParses: both readers agree on texts in which something is changed, and on any. No condition. -/
import Derived.Test.YtnchipahdfbliaaGreatDoorL4
import Derived.Test.YtnchipahdfbliaaGreatDoorLh
import Derived.Test.YtnchipahdfbliaaGreatDoorTie
import Derived.Test.YtnchipahdfbliaaGreatDoorCards
import Derived.SevenTiedAt
import Derived.Carry
namespace Go.Proofs.YtnchipahdfbliaaGreatDoor.ruleParses
open Go.ChangeShapes Go.WideShapes Go.ChangeAt Go.RowKit

set_option maxRecDepth 100000 in
theorem lifted (os : Os) (started : os.Started) (H : Type) (enc : TypeId × Value → H) :
  ReturnsInHanded {} Tryz.checked os 4 .any (fun w args => (Rows.ruleParsesSpec.pre enc Tryz.prog Tryz.f4 [] false w args ∧ laidMetH Tryz.prog laidAll w) ∧ sizedMet enc Tryz.prog Tryz.f4 (OpenSpec.ofChange Rows.ruleParsesSpec) false w args)
   (Rows.ruleParsesSpec.post enc Tryz.prog Tryz.f4 false true false false) := by
 refine returns_all (C := Tryz.checked) (X := fun w _ => laidMetH Tryz.prog laidAll w) (fun _ _ _ hh h => h.of_heap hh) own started (by kernel_rfl) Tryz.func4
  (ChangeSpec.witness_shaped (enc := enc) (C := Tryz.checked) (os := os) (X := fun w _ => laidMetH Tryz.prog laidAll w) false (World.laidAll Tryz.prog os laidAll) #[.slice none 0 0, .agg #[.int .u16 0, .int .u16 0], .string ⟨#[]⟩] 8 (World.laidAll_os _ _ _) (World.shaped_of_ZipB (by kernel_rfl) (by kernel_rfl)) (by kernel_rfl) (by kernel_rfl) (by kernel_rfl) (door_met os _)) ?_
 intro W base args ds gs before hval0 hW hreach hL hsh
 have hval : ∀ (j : Nat) t v, Tryz.f4.params[j]? = some t → args[j]? = some v → Value.okWide Tryz.prog W .any base t v := hval0
 have hW' := hW
 obtain ⟨p, q, hA0, hV, rfl, hfz, hnd⟩ := hW
 have hA : DataW.TrodAll enc Tryz.prog W 0 (fun _ => true) true Tryz.f4.params.toList args.toList ds p := hA0
 rw [Tryz.params4] at hA hval
 obtain ⟨v0, v1, v2, d0, d1, d2, p0, p1, p2, rfl, rfl, rfl, h0, h1, h2⟩ := trodAll_three hA
 obtain ⟨rfl, rfl⟩ := trodVars_none hV
 have env := env_of hL (mx_of W hsh)
 clear hA0 hval0
 simp only [List.append_nil] at hW'
 have hlt : ∀ x ∈ p0 ++ p1 ++ p2, x.block < W.heap.size := fun x hx => by simpa using hW'.lt x (by simpa using hx)
 have hlt0 : ∀ x ∈ p0, x.block < W.heap.size := fun x hx => hlt x (by simp [hx])
 have hargs0 : ∀ (W' : World), Below W.heap.size W W' → DataW.Trod enc Tryz.prog W' 0 (fun b => decide (b < W.heap.size)) true 22 v0 d0 p0 :=
  fun W' hn => Below.trod laidOut (by kernel_rfl) (of_decide_eq_true (by kernel_rfl)) h0 hn hlt0
 obtain ⟨ao0, xs0, cap0, rfl, hl0, hn0⟩ := open_ints h0 (by obtain ⟨a, l, c, e⟩ := okWide_slice Tryz.underlying22 (hval 0 22 v0 rfl rfl); rw [e]; rfl)
 have hlt1 : ∀ x ∈ p1, x.block < W.heap.size := fun x hx => hlt x (by simp [hx])
 have hargs1 : ∀ (W' : World), Below W.heap.size W W' → DataW.Trod enc Tryz.prog W' 0 (fun b => decide (b < W.heap.size)) true 45 v1 d1 p1 :=
  fun W' hn => Below.trod laidOut (by kernel_rfl) (of_decide_eq_true (by kernel_rfl)) h1 hn hlt1
 obtain ⟨a1, b1, hke1, hn1, hm1⟩ := open_u16s (hval 1 45 v1 rfl rfl) h1
 subst hke1
 have hlt2 : ∀ x ∈ p2, x.block < W.heap.size := fun x hx => hlt x (by simp [hx])
 have hargs2 : ∀ (W' : World), Below W.heap.size W W' → DataW.Trod enc Tryz.prog W' 0 (fun b => decide (b < W.heap.size)) true 9 v2 d2 p2 :=
  fun W' hn => Below.trod laidOut (by kernel_rfl) (of_decide_eq_true (by kernel_rfl)) h2 hn hlt2
 obtain ⟨s2, hse2, _, _, hs2⟩ := Go.ChangeMaps.open_string Tryz.underlying9 (hval 2 9 v2 rfl rfl) h2
 have hsz2 : s2.data.toList.length ≤ 9223372036854775807 := by have := hs2; unfold maxLen at this; show s2.data.toList.length ≤ _; simpa using this
 have hsb2 : (⟨s2.data.toList.toArray⟩ : ByteArray) = s2 := by cases s2; simp
 have hwk : Calls Tryz.prog 4 #[.slice ao0 xs0.length cap0, .agg #[.int .u16 (a1 : Int), .int .u16 (b1 : Int)], v2] W fun E w' => E = .returned (.bool true) ∧ Kp W w' none := by rw [hse2, ← hsb2]; exact parses_any xs0 _ ao0 cap0 a1 b1 s2.data.toList W env hl0 rfl hn0 hn1 hm1 hsz2
 refine hwk.mono fun e W' ⟨he, hk⟩ => ?_
 subst he
 exact ⟨_, rfl, _, _, _, [], _, [], hW', trodAll_mk1 (shut_bool Tryz.underlying4 true), trodAll_mk3 (hargs0 _ hk.below) (hargs1 _ hk.below) (hargs2 _ hk.below), rfl, hk.below.frame _, fun h => by cases h⟩

theorem over : Rows.RuleParsesSaid :=
 OpenClaim.holds_of_wide 4 Tryz.f4 rfl rfl rfl rfl rfl rfl rfl ⟨rfl, rfl, rfl, rfl, rfl⟩ rfl rfl rfl rfl rfl (by kernel_rfl) Tryz.func4 (by kernel_rfl)
  (of_decide_eq_true (by kernel_rfl)) (by unfold Func.isWrapper; first | (rw [if_pos (by decide +kernel)]; kernel_rfl) | (rw [if_neg (by decide +kernel)]; exact ⟨rfl, rfl⟩))
  (fun os started H enc _ => lifted os started H enc)

theorem proved : Rows.RuleParsesCardSaid :=
 Claim7.holds_tied_plain_at .later [] [.data, .data, .data, .data, .sentinel, .sentinel, .pinned] true (true, "d126f9cdb3bc30c11472ed5ff85c2a45cb3c5159ef880dcf32245fc64880bbd8") true
  over (fun _ h => by cases h) (by kernel_rfl) (fun _ h => by cases h) ruleParses_row_tie rfl ⟨rfl, rfl⟩ (by kernel_rfl) rfl
  (fun f fn hf hfn => by
   obtain rfl : f = 4 := Option.some.inj ((show Tryz.prog.funcNamed "etchant/etchantlaw20.RuleParses" = some 4 by kernel_rfl).symm.trans hf) |>.symm
   obtain rfl : fn = Tryz.f4 := (Option.some.inj (Tryz.func4.symm.trans hfn)).symm
   exact ⟨by kernel_rfl, fun j t ht => by
    rw [Tryz.params4] at ht
    have hm : t ∈ [22, 45, 9] := by simpa using Array.mem_of_getElem? ht
    have hall : ([22, 45, 9].all fun u => !Tryz.prog.wantsStandIn u) = true := by kernel_rfl
    exact (show Tryz.prog.wantsStandIn t = false by simpa using List.all_eq_true.1 hall t hm)⟩)
  (by kernel_rfl)
#print axioms proved
end Go.Proofs.YtnchipahdfbliaaGreatDoor.ruleParses
