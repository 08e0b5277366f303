/- PlotDiffers: different lists of drawings have different files, equal ones equal files. No condition. -/
import Derived.Test.YtggplbenliaodaaGreatDoorL5
import Derived.Test.YtggplbenliaodaaGreatDoorLf
import Derived.Test.YtggplbenliaodaaGreatDoorLg
import Derived.Test.YtggplbenliaodaaGreatDoorTie
import Derived.Test.YtggplbenliaodaaGreatDoorCards
import Derived.SevenTiedAt
namespace Go.Proofs.YtggplbenliaodaaGreatDoor.plotDiffers
open Go.ChangeShapes Go.WideShapes Go.ChangeAt Go.RowKit

set_option maxRecDepth 100000 in
theorem lifted (os : Os) (started : os.Started) (H : Type) (enc : TypeId × Value → H) :
    ReturnsInHanded {} Tryz.checked os 5 .any (fun w args => (Rows.plotDiffersSpec.pre enc Tryz.prog Tryz.f5 [] false w args ∧ laidMetH Tryz.prog laidAll w) ∧ sizedMet enc Tryz.prog Tryz.f5 (OpenSpec.ofChange Rows.plotDiffersSpec) false w args)
      (Rows.plotDiffersSpec.post enc Tryz.prog Tryz.f5 false true false false) := by
  refine returns_all (C := Tryz.checked) (X := fun w _ => laidMetH Tryz.prog laidAll w) (fun _ _ _ hh h => h.of_heap hh) own started (by kernel_rfl) Tryz.func5
    (ChangeSpec.witness_shaped (enc := enc) (C := Tryz.checked) (os := os) (X := fun w _ => laidMetH Tryz.prog laidAll w) false (World.doorLaid Tryz.prog 400 os) #[.slice none 0 0, .slice none 0 0, .agg #[.int .u8 0, .int .u8 0]] 8 rfl (World.shaped_of_RefB (by kernel_rfl) (by kernel_rfl)) (by kernel_rfl) (by kernel_rfl) (by kernel_rfl) (door_met os _)) ?_
  intro W base args ds gs before hval0 hW hreach hL hsh
  have hval : ∀ (j : Nat) t v, Tryz.f5.params[j]? = some t → args[j]? = some v → Value.okWide Tryz.prog W .any base t v := hval0
  have hW' := hW
  obtain ⟨p, q, hA0, hV, rfl, hfz, hnd⟩ := hW
  have hA : DataW.TrodAll enc Tryz.prog W 0 (fun _ => true) true Tryz.f5.params.toList args.toList ds p := hA0
  rw [Tryz.params5] at hA hval
  obtain ⟨v0, v1, v2, d0, d1, d2, p0, p1, p2, rfl, rfl, rfl, h0, h1, h2⟩ := trodAll_three hA
  obtain ⟨rfl, rfl⟩ := trodVars_none hV
  have env := env_of hL
  clear hA0 hval0
  simp only [List.append_nil] at hW'
  have hlt : ∀ x ∈ p0 ++ p1 ++ p2, x.block < W.heap.size := fun x hx => by simpa using hW'.lt x (by simpa using hx)
  have hlt0 : ∀ x ∈ p0, x.block < W.heap.size := fun x hx => hlt x (by simp [hx])
  have hargs0 : ∀ (W' : World), Below W.heap.size W W' → DataW.Trod enc Tryz.prog W' 0 (fun b => decide (b < W.heap.size)) true 22 v0 d0 p0 :=
    fun W' hn => Below.trod laidOut (by kernel_rfl) (of_decide_eq_true (by kernel_rfl)) h0 hn hlt0
  obtain ⟨ao0, rows0, cap0, rfl, hl0, hn0⟩ := open_rows h0 (by obtain ⟨a, l, c, e⟩ := okWide_slice Tryz.underlying22 (hval 0 22 v0 rfl rfl); rw [e]; rfl)
  have hlt1 : ∀ x ∈ p1, x.block < W.heap.size := fun x hx => hlt x (by simp [hx])
  have hargs1 : ∀ (W' : World), Below W.heap.size W W' → DataW.Trod enc Tryz.prog W' 0 (fun b => decide (b < W.heap.size)) true 22 v1 d1 p1 :=
    fun W' hn => Below.trod laidOut (by kernel_rfl) (of_decide_eq_true (by kernel_rfl)) h1 hn hlt1
  obtain ⟨ao1, rows1, cap1, rfl, hl1, hn1⟩ := open_rows h1 (by obtain ⟨a, l, c, e⟩ := okWide_slice Tryz.underlying22 (hval 1 22 v1 rfl rfl); rw [e]; rfl)
  have hlt2 : ∀ x ∈ p2, x.block < W.heap.size := fun x hx => hlt x (by simp [hx])
  have hargs2 : ∀ (W' : World), Below W.heap.size W W' → DataW.Trod enc Tryz.prog W' 0 (fun b => decide (b < W.heap.size)) true 44 v2 d2 p2 :=
    fun W' hn => Below.trod laidOut (by kernel_rfl) (of_decide_eq_true (by kernel_rfl)) h2 hn hlt2
  obtain ⟨b20, b21, rfl, hb20, hb21⟩ := open_bytes2 (hval 2 44 v2 rfl rfl) h2
  have hwk : Calls Tryz.prog 5 #[.slice ao0 rows0.length cap0, .slice ao1 rows1.length cap1, .agg #[.int .u8 b20, .int .u8 b21]] W fun E w' => E = .returned (.bool true) ∧ Kp W w' none := pdiffers_any rows0 rows1 _ _ rfl rfl ao0 ao1 cap0 cap1 b20 b21 hb20 hb21 W env hl0 hl1 hn0 hn1
  refine hwk.mono fun e W' ⟨he, hk⟩ => ?_
  subst he
  exact ⟨_, rfl, _, _, _, [], _, [], hW', trodAll_mk1 (shut_bool Tryz.underlying4 true), trodAll_mk3 (hargs0 _ hk.below) (hargs1 _ hk.below) (hargs2 _ hk.below), rfl, hk.below.frame _, fun h => by cases h⟩

theorem over : Rows.PlotDiffersSaid :=
  OpenClaim.holds_of_wide 5 Tryz.f5 rfl rfl rfl rfl rfl rfl rfl ⟨rfl, rfl, rfl, rfl, rfl⟩ rfl rfl rfl rfl rfl (by kernel_rfl) Tryz.func5 (by kernel_rfl)
    (of_decide_eq_true (by kernel_rfl)) (by unfold Func.isWrapper; first | (rw [if_pos (by decide +kernel)]; kernel_rfl) | (rw [if_neg (by decide +kernel)]; exact ⟨rfl, rfl⟩))
    (fun os started H enc _ => lifted os started H enc)

theorem proved : Rows.PlotDiffersCardSaid :=
  Claim7.holds_tied_plain_at .later [] [.data, .data, .data] true (true, "e67032c844a1b5eb970d2f62ef734c7dd7c74cf2efce4d5c4acc2ecf2d612272") false
    over (fun _ h => by cases h) (by kernel_rfl) (fun _ h => by cases h) plotDiffers_row_tie rfl ⟨rfl, rfl⟩ (by kernel_rfl) rfl
    (fun f fn hf hfn => by
      obtain rfl : f = 5 := Option.some.inj ((show Tryz.prog.funcNamed "etchant/etchantlaw36.PlotDiffers" = some 5 by kernel_rfl).symm.trans hf) |>.symm
      obtain rfl : fn = Tryz.f5 := (Option.some.inj (Tryz.func5.symm.trans hfn)).symm
      exact ⟨by kernel_rfl, fun j t ht => by
        rw [Tryz.params5] at ht
        have hm : t ∈ [22, 22, 44] := by simpa using Array.mem_of_getElem? ht
        have hall : ([22, 22, 44].all fun u => !Tryz.prog.wantsStandIn u) = true := by kernel_rfl
        exact (show Tryz.prog.wantsStandIn t = false by simpa using List.all_eq_true.1 hall t hm)⟩)
    (by kernel_rfl)
#print axioms proved
end Go.Proofs.YtggplbenliaodaaGreatDoor.plotDiffers
