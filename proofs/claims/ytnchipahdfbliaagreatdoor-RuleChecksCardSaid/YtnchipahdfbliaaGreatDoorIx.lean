/- A rune beyond ASCII is in no ASCII string: strings.IndexRune, ContainsRune. Condition: the string has from 4 to 1000 bytes, all below 128. -/
import Derived.Test.YtnchipahdfbliaaGreatDoorBase
import Derived.Test.YtnchipahdfbliaaGreatDoorShelf
import Derived.Laws.Runes
import Derived.Deep.LoopGhost
import Derived.WalkMore
import Derived.ScopeJumps
namespace Go.Proofs.YtnchipahdfbliaaGreatDoor
open Go.RowKit

theorem below_kp {w w' : World} (h : Below w.heap.size w w') : Kp w w' none := Kp.of_below h

set_option maxHeartbeats 2000000 in
set_option maxRecDepth 1000000 in
theorem indexRune_error (s : ByteArray) (hs : ∀ k, (h : k < s.size) → s[k].toNat < 128) (w : World) :
  Calls Tryz.prog 86 #[.string s, .int .i32 65533] w fun e w' => e = .returned (.int .i64 (-1)) ∧ Below w.heap.size w w' := by
 go_enter Tryz.func86, Tryz.ntmps86
 go_wp2
 go_loopg [] s.size (fun gf wx => ∃ pos : Nat, wx.heap[w.heap.size]? = some (.stringIter s pos) ∧ Below w.heap.size w wx ∧ s.size ≤ pos + gf)
 case atStart => exact ⟨0, World.iter_heap w s 0, (Below.refl _ w).alloc (Nat.le_refl _) _, by omega⟩
 case round =>
  obtain ⟨pos, hit, hbw, hfu⟩ := hrel
  by_cases hps : pos < s.size
  ·obtain ⟨g', rfl⟩ : ∃ g', gk = g' + 1 := ⟨gk - 1, by omega⟩
   have hnx : ∀ ty, (Instr.next (.pointer (some ⟨w.heap.size, 0, none⟩)) true ty).run Tryz.prog wr = _ := fun ty => Lib.run_next_ascii_at wr w.heap.size s pos ty hit hps (hs pos hps)
   have hit2 := Lib.iterAt_heap wr w.heap.size s pos (pos + 1) hit
   have hbw2 := Lib.below_iterAt hbw (k := w.heap.size) (Nat.le_refl _) s (pos + 1)
   have hne : (((s[pos].toNat : Nat) : Int) == 65533) = false := by
    have := hs pos hps
    simp; omega
   obtain ⟨W, hWd⟩ : ∃ W, wr.iterAt w.heap.size s (pos + 1) = W := ⟨_, rfl⟩
   rw [hWd] at hnx hit2 hbw2
   obtain ⟨R, hR⟩ : ∃ R : Nat, s[pos].toNat = R := ⟨_, rfl⟩
   rw [hR] at hnx hne
   clear hR hWd
   go_wp2
   go_roundg g'
   case measure => omega
   case rel => exact ⟨pos + 1, hit2, hbw2, by omega⟩
  ·have hnx : ∀ ty, (Instr.next (.pointer (some ⟨w.heap.size, 0, none⟩)) true ty).run Tryz.prog wr = _ := fun ty => Lib.run_next_end_at wr w.heap.size s pos ty hit hps
   go_wp2
   go_ret
   exact ⟨rfl, hbw⟩

set_option maxHeartbeats 2000000 in
set_option maxRecDepth 1000000 in
theorem indexRune_bad (s : ByteArray) (r : Int) (h0 : 128 ≤ r) (h3 : (r == 65533) = false) (hv : Lib.validRune r = false) (w : World) :
  Calls Tryz.prog 86 #[.string s, .int .i32 r] w fun e w' => e = .returned (.int .i64 (-1)) ∧ Below w.heap.size w w' := by
 have c1 := Tryz.utf8_ValidRune r w
 rw [hv] at c1
 clear hv
 go_enter Tryz.func86, Tryz.ntmps86
 go_wp2_with (go_at_call 109; refine c1.mono ?_; rintro e w' ⟨rfl, rfl⟩)
 go_ret
 exact ⟨rfl, Below.refl _ _⟩
theorem indexByte_far (s : ByteArray) (a : Nat) (c : UInt8) (hs : ∀ b ∈ s.data.toList, b.toNat < 128) (hc : 128 ≤ c.toNat) : Lib.indexByte (s.extract a s.size).data.toList c = -1 := by
 have h : ∀ b ∈ (s.extract a s.size).data.toList, b ≠ c := fun b hb e => by have := hs b (mem_extract hb); rw [e] at this; omega
 generalize (s.extract a s.size).data.toList = l at h
 rw [Wr.indexByte_cut c l, Wr.cut1_none.2 (fun hm => h c hm rfl)]
set_option maxHeartbeats 2000000 in
set_option maxRecDepth 1000000 in
theorem indexRune_far (s : ByteArray) (hs : ∀ b ∈ s.data.toList, b.toNat < 128) (hn : 4 ≤ s.size) (hmx : s.size ≤ 1000) (r : Int) (h0 : 128 ≤ r) (h3 : (r == 65533) = false) (hv : Lib.validRune r = true) (w : World) :
  Calls Tryz.prog 86 #[.string s, .int .i32 r] w fun e w' => e = .returned (.int .i64 (-1)) ∧ Below w.heap.size w w' := by
 have c1 := Tryz.utf8_ValidRune r w
 rw [hv] at c1
 have hv2 : Utf8.valid r = true := by rw [validRune_eq]; exact hv
 obtain ⟨q1, q2, q3⟩ := encode_facts r hv2 h0
 clear hv hv2
 obtain ⟨q, hq⟩ : ∃ q, Utf8.encode r = q := ⟨_, rfl⟩
 rw [hq] at q1 q2
 simp only [hq] at q3
 have q4 := q3 (by omega)
 clear q3
 have hcv : ∀ w, (convert 21 9 (.int .i32 r)).run Tryz.prog w = .ok (.string q) w := fun w => by rw [run_convert_int_string w 21 9 .i32 r (by kernel_rfl) Tryz.underlying9, hq]
 obtain ⟨m, hm⟩ : ∃ m, q.size = m + 1 := ⟨q.size - 1, by omega⟩
 have hlt : m < q.size := by omega
 obtain ⟨c, hc⟩ : ∃ c, q[m]'hlt = c := ⟨_, rfl⟩
 have hcc : 128 ≤ c.toNat := by subst hc; simpa [hm] using q4
 have hms : m < s.size := by omega
 have cI : ∀ v, Calls Tryz.prog 108 #[.string (s.extract (m + 1) s.size), .int .u8 (c.toNat : Int)] v fun e v' => e = .returned (.int .i64 (-1)) ∧ v' = v := fun v => by
  have h := Tryz.strings_IndexByte (s.extract (m + 1) s.size) (c.toNat : Int) v
  have e : ((c.toNat : Int)).toNat.toUInt8 = c := by simp
  rw [e, indexByte_far s (m + 1) c hs hcc] at h
  exact h
 clear q4 hq
 have hne : (((s[m]'hms).toNat : Int) == (c.toNat : Int)) = false := by
  have := hs (s[m]'hms) (Array.getElem_mem_toList (xs := s.data) hms)
  simp; omega
 have hne2 : (((s[m]'hms).toNat : Int) != (c.toNat : Int)) = true := by simp [bne, hne]
 have HS := Lib.hid hs
 clear hs
 go_enter Tryz.func86, Tryz.ntmps86
 go_wp2_with (go_at_call 109; refine c1.mono ?_; rintro e w' ⟨rfl, rfl⟩)
 go_step3
 go_wp2_with fail
 refine wp_loop_rounds 1 ?_
 rw [rounds_succ]
 go_wp2_with fail
 go_step3
 go_wp2_with fail
 go_quiet (fail)
 go_wp2_with fail
 have hix : ∀ v, (Instr.index 9 (.string q) (.int .i64 (m : Int))).run Tryz.prog v = .ok (.int .u8 (c.toNat : Int)) v := fun v => by
  have e : (m : Int).toNat = m := rfl
  simp [Instr.index, hm, hc, go_sem]
 have w1 : IntKind.i64.wrap ((m : Int) + 1) = (m : Int) + 1 := wrap_small _ (by omega) (by omega)
 have b1 : (0 : Int) ≤ (m : Int) + 1 := by omega
 have b2 : (m : Int) + 1 ≤ (s.size : Int) := by omega
 have b3 : ((m : Int) + 1).toNat = m + 1 := by omega
 go_quiet ((go_at_call 108; refine (cI _).mono ?_; rintro e wz ⟨rfl, rfl⟩; exact ⟨rfl, _, rfl⟩))
 go_wp2_with fail
 all_goals
  rw [Exit.noGoto_ret]
  go_wp2_with fail
  rw [Exit.noGoto_ret]
  go_ret
  exact ⟨rfl, Kp.below ((Kp.refl _ none).drewN _)⟩

theorem indexRune_any (s : ByteArray) (hs : ∀ b ∈ s.data.toList, b.toNat < 128) (hn : 4 ≤ s.size) (hmx : s.size ≤ 1000) (r : Int) (h0 : 128 ≤ r) (w : World) :
  Calls Tryz.prog 86 #[.string s, .int .i32 r] w fun e w' => e = .returned (.int .i64 (-1)) ∧ Below w.heap.size w w' := by
 by_cases h3 : r = 65533
 ·subst h3; exact indexRune_error s (fun k h => hs _ (Array.getElem_mem_toList (xs := s.data) h)) w
 ·have h3' : (r == 65533) = false := by simpa using h3
  cases hv : Lib.validRune r with
  | false => exact indexRune_bad s r h0 h3' hv w
  | true => exact indexRune_far s hs hn hmx r h0 h3' hv w
set_option maxHeartbeats 1000000 in
theorem containsRune_far (s : ByteArray) (hs : ∀ b ∈ s.data.toList, b.toNat < 128) (hn : 4 ≤ s.size) (hmx : s.size ≤ 1000) (r : Int) (h0 : 128 ≤ r) (w : World) :
  Calls Tryz.prog 57 #[.string s, .int .i32 r] w fun e w' => e = .returned (.bool false) ∧ Below w.heap.size w w' := by
 have c1 := indexRune_any s hs hn hmx r h0 w
 have HS := Lib.hid hs
 clear hs
 go_enter Tryz.func57, Tryz.ntmps57
 go_wp2_with (go_at_call 86; refine c1.mono ?_; rintro e w' ⟨rfl, hb⟩)
 go_ret
 exact ⟨rfl, hb⟩

/-! ### What a name may hold -/
def nameAll : List UInt8 := [97, 98, 99, 100, 101, 102, 103, 104, 105, 106, 107, 108, 109, 110, 111, 112, 113, 114, 115, 116, 117, 118, 119, 120, 121, 122, 65, 66, 67, 68, 69, 70, 71, 72, 73, 74, 75, 76, 77, 78, 79, 80, 81, 82, 83, 84, 85, 86, 87, 88, 89, 90, 48, 49, 50, 51, 52, 53, 54, 55, 56, 57, 95, 43, 45]
def nameB : ByteArray := ⟨nameAll.toArray⟩
theorem nameAll_lt : ∀ b ∈ nameB.data.toList, b.toNat < 128 := by decide
/-- The test that a rune is none that a name may hold. -/
def notName (x : Nat) : Bool := if x < 128 then !(Ru.nameC (UInt8.ofNat x)) else true
theorem index_mem (l : List UInt8) (c : UInt8) : decide (0 ≤ Lib.indexByte l c) = l.contains c := by
 rw [Wr.indexByte_cut c l]
 cases h : Wr.cut1 c l with
 | none =>
  have := Wr.cut1_none.1 h
  simp [this]
 | some p =>
  obtain ⟨d, r⟩ := p
  have h2 := (Wr.cut1_some h).1
  have : c ∈ l := by rw [h2]; simp
  simp [this]
theorem nameC_mem : ∀ c : UInt8, nameAll.contains c = Ru.nameC c := by
 have h : ∀ i : Fin 256, nameAll.contains (UInt8.ofNat i.val) = Ru.nameC (UInt8.ofNat i.val) := by decide +kernel
 intro c
 have := h ⟨c.toNat, c.toNat_lt⟩
 simpa using this
set_option maxHeartbeats 1000000 in
set_option maxRecDepth 100000 in
theorem right1_any (x : Nat) (hx : x ≤ 1114111) (b : Nat) (W : World) (hc : W.cell? ⟨b, 0, none⟩ = some (.string nameB)) :
  Calls Tryz.prog 56 (#[encR x] ++ #[.pointer (some ⟨b, 0, none⟩)]) W fun e w' => e = .returned (.bool (notName x)) ∧ Below W.heap.size W w' := by
 have c1 : Calls Tryz.prog 57 #[.string nameB, .int .i32 (x : Int)] W fun e w' => e = .returned (.bool (!(notName x))) ∧ Below W.heap.size W w' := by
  unfold notName
  by_cases h : x < 128
  ·rw [if_pos h]
   have h1 := Tryz.strings_ContainsRune_ascii nameB x W (by omega) (by omega)
   refine h1.mono ?_
   rintro e w' ⟨rfl, rfl⟩
   refine ⟨?_, Below.refl _ _⟩
   rw [index_mem]
   have e2 : nameB.data.toList = nameAll := rfl
   have e3 : ((x : Int)).toNat.toUInt8 = UInt8.ofNat x := by simp
   rw [e2, e3, nameC_mem, Bool.not_not]
  ·rw [if_neg h]
   exact containsRune_far nameB nameAll_lt (by decide) (by decide) x (by omega) W
 obtain ⟨n, hn⟩ : ∃ n, notName x = n := ⟨_, rfl⟩
 obtain ⟨q, hq⟩ : ∃ q, nameB = q := ⟨_, rfl⟩
 rw [hq] at c1 hc
 rw [hn] at c1 ⊢
 clear hn hq
 show Calls Tryz.prog 56 #[.int .i32 (x : Int), .pointer (some ⟨b, 0, none⟩)] W _
 go_enter Tryz.func56, Tryz.ntmps56
 go_wp2_with (go_at_call 57; refine c1.mono ?_; rintro e w' ⟨rfl, hb⟩)
 go_ret
 exact ⟨by simp, hb⟩
end Go.Proofs.YtnchipahdfbliaaGreatDoor
