/- WireReads: for every input and every sequence of calls, a reader returns what the reference returns, and has as many bytes left. No condition. -/
import Derived.Test.YtfcbogoahangoaaDoorRe
import Derived.Test.YtfcbogoahangoaaDoorLf
import Derived.Test.YtfcbogoahangoaaDoorTie
import Derived.Test.YtfcbogoahangoaaDoorCards
import Derived.SevenTiedAt
namespace Go.Proofs.YtfcbogoahangoaaDoor.wireReads
open Go.ChangeShapes Go.WideShapes Go.ChangeAt Go.RowKit
open Go.ChangeMaps (open_string shut_string)

theorem laidOut : laidOutB Tryd.prog = true := by kernel_rfl
set_option maxRecDepth 100000 in
theorem lifted (os : Os) (started : os.Started) (H : Type) (enc : TypeId × Value → H) :
    ReturnsInHanded {} Tryd.checked os 4 .any (fun w args => (Rows.wireReadsSpec.pre enc Tryd.prog Tryd.f4 [] false w args ∧ laidMetH Tryd.prog laidAll w) ∧ sizedMet enc Tryd.prog Tryd.f4 (OpenSpec.ofChange Rows.wireReadsSpec) false w args)
      (Rows.wireReadsSpec.post enc Tryd.prog Tryd.f4 false true false false) := by
  refine returns_all (C := Tryd.checked) (X := fun w _ => laidMetH Tryd.prog laidAll w) (fun _ _ _ hh h => h.of_heap hh) own started (by kernel_rfl) Tryd.func4
    (ChangeSpec.witness_shaped (enc := enc) (C := Tryd.checked) (os := os) (X := fun w _ => laidMetH Tryd.prog laidAll w) false (World.doorLaid Tryd.prog 400 os) #[.string ⟨#[]⟩, .slice none 0 0] 8 rfl (World.shaped_of_RefB (by kernel_rfl) (by kernel_rfl)) (by kernel_rfl) (by kernel_rfl) (by kernel_rfl) (door_met os _)) ?_
  intro W base args ds gs before hval0 hW hreach hL hsh
  have hval : ∀ (j : Nat) t v, Tryd.f4.params[j]? = some t → args[j]? = some v → Value.okWide Tryd.prog W .any base t v := hval0
  have hW' := hW
  obtain ⟨p, q, hA0, hV, rfl, hfz, hnd⟩ := hW
  have hA : DataW.TrodAll enc Tryd.prog W 0 (fun _ => true) true Tryd.f4.params.toList args.toList ds p := hA0
  rw [Tryd.params4] at hA hval
  obtain ⟨v0, v1, d0, d1, p0, p1, rfl, rfl, rfl, h0, h1⟩ := trodAll_two hA
  obtain ⟨rfl, rfl⟩ := trodVars_none hV
  have env := env_of hL (mx_of W hsh)
  clear hA0 hval0
  simp only [List.append_nil] at hW'
  have hlt : ∀ x ∈ p0 ++ p1, x.block < W.heap.size := fun x hx => by simpa using hW'.lt x hx
  obtain ⟨s, rfl, rfl, rfl, hs⟩ := open_string Tryd.underlying9 (hval 0 9 v0 rfl rfl) h0
  have hsz : s.data.toList.length ≤ 9223372036854775807 := by have := hs; unfold maxLen at this; show s.data.toList.length ≤ _; simpa using this
  have hse : (⟨s.data.toList.toArray⟩ : ByteArray) = s := by cases s; simp
  obtain ⟨a0, len, cap, rfl⟩ := okWide_slice Tryd.underlying31 (hval 1 31 v1 rfl rfl)
  have h1k := h1
  obtain ⟨fuel, hf⟩ := h1
  have hlt1 : ∀ x ∈ p1, x.block < W.heap.size := fun x hx => hlt x (by simp [hx])
  have hargs : ∀ (W' : World), Below W.heap.size W W' → DataW.Trod enc Tryd.prog W' 0 (fun b => decide (b < W.heap.size)) true 31 (.slice a0 len cap) d1 p1 :=
    fun W' hn => Below.trod laidOut (by kernel_rfl) (of_decide_eq_true (by kernel_rfl)) h1k hn hlt1
  have hwk : Calls Tryd.prog 4 #[.string s, .slice a0 len cap] W fun E w' => E = .returned (.bool true) ∧ Kp W w' none := by
    rw [← hse]
    rcases Nat.eq_zero_or_pos len with rfl | hpos
    · exact reads_nil a0 cap W _ hsz env
    · rcases open_ints Tryd.underlying31 Tryd.underlying5 cells5 hf with ⟨hcs, _⟩ | ⟨a, len', cap', zs, hcs, _, hl, hmx, hz, _, hcell, hwz⟩
      · simp [Value.cells] at hcs; omega
      · simp [Value.cells] at hcs
        obtain ⟨rfl, rfl, rfl⟩ := hcs
        have hzl : len ≤ zs.length := by rw [hz]; split <;> omega
        obtain ⟨b, off, rfl, hc⟩ := ints_at hcell (by omega)
        have hblk : b < W.heap.size := cell_lt (hc 0 (by omega))
        have htl : (zs.take len).length = len := by simp; omega
        have hmx' := hmx
        unfold maxLen at hmx'
        have := reads_row W s.data.toList hsz b off cap (zs.take len) (by omega) (by omega) hblk (fun k hk => by
          rw [htl] at hk
          have hkz : k < zs.length := by omega
          have hg : (zs.take len)[k]'(by omega) = zs[k] := List.getElem_take
          rw [hg, hc k hkz]
          have hw := hwz zs[k] (List.getElem_mem hkz)
          have h1 : IntKind.u8.min = 0 := rfl
          have h2 : IntKind.u8.max = 255 := rfl
          simp only [Lit.wf, Bool.and_eq_true, decide_eq_true_eq] at hw
          refine ⟨by simp [List.getD, hkz], by omega, by omega⟩) env
        rw [htl] at this
        exact this
  refine hwk.mono fun e W' ⟨he, hk⟩ => ?_
  subst he
  exact ⟨_, rfl, _, _, _, [], _, [], hW', trodAll_mk1 (shut_bool Tryd.underlying4 true), trodAll_mk2 (shut_string Tryd.underlying9 hs) (hargs _ hk.below), rfl, hk.below.frame _, fun h => by cases h⟩

theorem over : Rows.WireReadsSaid :=
  OpenClaim.holds_of_wide 4 Tryd.f4 rfl rfl rfl rfl rfl rfl rfl ⟨rfl, rfl, rfl, rfl, rfl⟩ rfl rfl rfl rfl rfl (by kernel_rfl) Tryd.func4 (by kernel_rfl)
    (of_decide_eq_true (by kernel_rfl)) (by unfold Func.isWrapper; first | (rw [if_pos (by decide +kernel)]; kernel_rfl) | (rw [if_neg (by decide +kernel)]; exact ⟨rfl, rfl⟩))
    (fun os started H enc _ => lifted os started H enc)

theorem proved : Rows.WireReadsCardSaid :=
  Claim7.holds_tied_plain_at .later [] [.data, .data, .data, .sentinel, .sentinel] true (true, "564806e1a8bc403a51147083875dde262bc1bd159e06155676be73610486d059") true
    over (fun _ h => by cases h) (by kernel_rfl) (fun _ h => by cases h) wireReads_row_tie rfl ⟨rfl, rfl⟩ (by kernel_rfl) rfl
    (fun f fn hf hfn => by
      obtain rfl : f = 4 := Option.some.inj ((show Tryd.prog.funcNamed "etchant/etchantlaw03.WireReads" = some 4 by kernel_rfl).symm.trans hf) |>.symm
      obtain rfl : fn = Tryd.f4 := (Option.some.inj (Tryd.func4.symm.trans hfn)).symm
      exact ⟨by kernel_rfl, fun j t ht => by
        rw [Tryd.params4] at ht
        have hm : t ∈ [9, 31] := by simpa using Array.mem_of_getElem? ht
        have hall : ([9, 31].all fun u => !Tryd.prog.wantsStandIn u) = true := by kernel_rfl
        exact (show Tryd.prog.wantsStandIn t = false by simpa using List.all_eq_true.1 hall t hm)⟩)
    (by kernel_rfl)
#print axioms proved
end Go.Proofs.YtfcbogoahangoaaDoor.wireReads
