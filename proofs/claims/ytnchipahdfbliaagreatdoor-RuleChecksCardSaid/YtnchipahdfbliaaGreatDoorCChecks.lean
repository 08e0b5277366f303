/- RuleChecks: rules are checked, written and compared as by the reference. No condition. -/
import Derived.Test.YtnchipahdfbliaaGreatDoorL3
import Derived.Test.YtnchipahdfbliaaGreatDoorLr
import Derived.Test.YtnchipahdfbliaaGreatDoorTie
import Derived.Test.YtnchipahdfbliaaGreatDoorCards
import Derived.SevenTiedAt
import Derived.Carry
namespace Go.Proofs.YtnchipahdfbliaaGreatDoor.ruleChecks
open Go.ChangeShapes Go.WideShapes Go.ChangeAt Go.RowKit

set_option maxRecDepth 100000 in
theorem lifted (os : Os) (started : os.Started) (H : Type) (enc : TypeId × Value → H) :
  ReturnsInHanded {} Tryz.checked os 3 .any (fun w args => (Rows.ruleChecksSpec.pre enc Tryz.prog Tryz.f3 [] false w args ∧ laidMetH Tryz.prog laidAll w) ∧ sizedMet enc Tryz.prog Tryz.f3 (OpenSpec.ofChange Rows.ruleChecksSpec) false w args)
   (Rows.ruleChecksSpec.post enc Tryz.prog Tryz.f3 false true false false) := by
 refine returns_all (C := Tryz.checked) (X := fun w _ => laidMetH Tryz.prog laidAll w) (fun _ _ _ hh h => h.of_heap hh) own started (by kernel_rfl) Tryz.func3
  (ChangeSpec.witness_shaped (enc := enc) (C := Tryz.checked) (os := os) (X := fun w _ => laidMetH Tryz.prog laidAll w) false (World.laidAll Tryz.prog os laidAll) #[.slice none 0 0, .agg #[.int .i64 0, .int .i64 0, .int .i64 0, .int .i64 0, .int .i64 0, .int .i64 0], .slice none 0 0] 8 (World.laidAll_os _ _ _) (World.shaped_of_ZipB (by kernel_rfl) (by kernel_rfl)) (by kernel_rfl) (by kernel_rfl) (by kernel_rfl) (door_met os _)) ?_
 intro W base args ds gs before hval0 hW hreach hL hsh
 have hval : ∀ (j : Nat) t v, Tryz.f3.params[j]? = some t → args[j]? = some v → Value.okWide Tryz.prog W .any base t v := hval0
 have hW' := hW
 obtain ⟨p, q, hA0, hV, rfl, hfz, hnd⟩ := hW
 have hA : DataW.TrodAll enc Tryz.prog W 0 (fun _ => true) true Tryz.f3.params.toList args.toList ds p := hA0
 rw [Tryz.params3] at hA hval
 obtain ⟨v0, v1, v2, d0, d1, d2, p0, p1, p2, rfl, rfl, rfl, h0, h1, h2⟩ := trodAll_three hA
 obtain ⟨rfl, rfl⟩ := trodVars_none hV
 have env := env_of hL (mx_of W hsh)
 clear hA0 hval0
 simp only [List.append_nil] at hW'
 have hlt : ∀ x ∈ p0 ++ p1 ++ p2, x.block < W.heap.size := fun x hx => by simpa using hW'.lt x (by simpa using hx)
 have hlt0 : ∀ x ∈ p0, x.block < W.heap.size := fun x hx => hlt x (by simp [hx])
 have hargs0 : ∀ (W' : World), Below W.heap.size W W' → DataW.Trod enc Tryz.prog W' 0 (fun b => decide (b < W.heap.size)) true 22 v0 d0 p0 :=
  fun W' hn => Below.trod laidOut (by kernel_rfl) (of_decide_eq_true (by kernel_rfl)) h0 hn hlt0
 obtain ⟨ao0, xs0, cap0, rfl, hl0, hn0⟩ := open_ints h0 (by obtain ⟨a, l, c, e⟩ := okWide_slice Tryz.underlying22 (hval 0 22 v0 rfl rfl); rw [e]; rfl)
 have hlt1 : ∀ x ∈ p1, x.block < W.heap.size := fun x hx => hlt x (by simp [hx])
 have hargs1 : ∀ (W' : World), Below W.heap.size W W' → DataW.Trod enc Tryz.prog W' 0 (fun b => decide (b < W.heap.size)) true 24 v1 d1 p1 :=
  fun W' hn => Below.trod laidOut (by kernel_rfl) (of_decide_eq_true (by kernel_rfl)) h1 hn hlt1
 obtain ⟨y0, y1, y2, y3, y4, y5, hke1⟩ := open_six (hval 1 24 v1 rfl rfl) h1
 subst hke1
 have hlt2 : ∀ x ∈ p2, x.block < W.heap.size := fun x hx => hlt x (by simp [hx])
 have hargs2 : ∀ (W' : World), Below W.heap.size W W' → DataW.Trod enc Tryz.prog W' 0 (fun b => decide (b < W.heap.size)) true 25 v2 d2 p2 :=
  fun W' hn => Below.trod laidOut (by kernel_rfl) (of_decide_eq_true (by kernel_rfl)) h2 hn hlt2
 obtain ⟨ao2, xs2, cap2, rfl, hl2, hn2, htr2, hwr2⟩ := open_rules h2 (by obtain ⟨a, l, c, e⟩ := okWide_slice Tryz.underlying25 (hval 2 25 v2 rfl rfl); rw [e]; rfl)
 have hwk : Calls Tryz.prog 3 #[.slice ao0 xs0.length cap0, .agg #[.int .i64 y0, .int .i64 y1, .int .i64 y2, .int .i64 y3, .int .i64 y4, .int .i64 y5], .slice ao2 xs2.length cap2] W fun E w' => E = .returned (.bool true) ∧ Kp W w' none := by exact checks_any xs0 _ ao0 cap0 y0 y1 y2 y3 y4 y5 xs2 ao2 cap2 _ W env hl0 rfl hn0 hl2 rfl hn2 htr2 hwr2
 refine hwk.mono fun e W' ⟨he, hk⟩ => ?_
 subst he
 exact ⟨_, rfl, _, _, _, [], _, [], hW', trodAll_mk1 (shut_bool Tryz.underlying4 true), trodAll_mk3 (hargs0 _ hk.below) (hargs1 _ hk.below) (hargs2 _ hk.below), rfl, hk.below.frame _, fun h => by cases h⟩

theorem over : Rows.RuleChecksSaid :=
 OpenClaim.holds_of_wide 3 Tryz.f3 rfl rfl rfl rfl rfl rfl rfl ⟨rfl, rfl, rfl, rfl, rfl⟩ rfl rfl rfl rfl rfl (by kernel_rfl) Tryz.func3 (by kernel_rfl)
  (of_decide_eq_true (by kernel_rfl)) (by unfold Func.isWrapper; first | (rw [if_pos (by decide +kernel)]; kernel_rfl) | (rw [if_neg (by decide +kernel)]; exact ⟨rfl, rfl⟩))
  (fun os started H enc _ => lifted os started H enc)

theorem proved : Rows.RuleChecksCardSaid :=
 Claim7.holds_tied_plain_at .later [] [.data, .data, .data, .data, .sentinel, .sentinel, .pinned] true (true, "d126f9cdb3bc30c11472ed5ff85c2a45cb3c5159ef880dcf32245fc64880bbd8") true
  over (fun _ h => by cases h) (by kernel_rfl) (fun _ h => by cases h) ruleChecks_row_tie rfl ⟨rfl, rfl⟩ (by kernel_rfl) rfl
  (fun f fn hf hfn => by
   obtain rfl : f = 3 := Option.some.inj ((show Tryz.prog.funcNamed "etchant/etchantlaw20.RuleChecks" = some 3 by kernel_rfl).symm.trans hf) |>.symm
   obtain rfl : fn = Tryz.f3 := (Option.some.inj (Tryz.func3.symm.trans hfn)).symm
   exact ⟨by kernel_rfl, fun j t ht => by
    rw [Tryz.params3] at ht
    have hm : t ∈ [22, 24, 25] := by simpa using Array.mem_of_getElem? ht
    have hall : ([22, 24, 25].all fun u => !Tryz.prog.wantsStandIn u) = true := by kernel_rfl
    exact (show Tryz.prog.wantsStandIn t = false by simpa using List.all_eq_true.1 hall t hm)⟩)
  (by kernel_rfl)
#print axioms proved
end Go.Proofs.YtnchipahdfbliaaGreatDoor.ruleChecks
