/- What the laws make of lists of strings, and the reference's serializations, walked. No condition but what strings and slices can be. -/
import Derived.Test.YtfcbogoahangoaaDoorCa
import Derived.StillTactics
import Derived.Laws.Pointers
import Derived.Deep.RegionHeld3
import Derived.Deep.AppendLies
namespace Go.Proofs.YtfcbogoahangoaaDoor
open Go.RowKit

theorem rint_any (n : Int) (w : World) (hn : Wr.I64 n) : Calls Tryd.prog 13 #[.int .i64 n] w fun e w' => e = .returned (.string ⟨(Wr.wInt n).toArray⟩) ∧ Kp w w' none := by
  have hl := Wr.itoa_length n hn
  have HN := Lib.hid hn
  clear hn
  go_enter Tryd.func13, Tryd.ntmps13
  go_wp2_with (go_at_call 39; refine (dec_any _ HN.out _).mono ?_; rintro e w' ⟨rfl, k⟩; have K := Lib.hid k; clear k)
  go_ret
  exact ⟨ret_str (by rw [show (⟨#[59]⟩ : ByteArray) = ⟨([59] : List UInt8).toArray⟩ from rfl, cat_eq]; rfl), K.out⟩
theorem rtext_any (s : List UInt8) (w : World) (hn : s.length < 2147483648) : Calls Tryd.prog 15 #[.string ⟨s.toArray⟩] w fun e w' => e = .returned (.string ⟨(Wr.wText s).toArray⟩) ∧ Kp w w' none := by
  have hI : Wr.I64 (s.length : Int) := by unfold Wr.I64; omega
  have hl := Wr.itoa_length s.length hI
  have HN := Lib.hid hI
  clear hI
  go_enter Tryd.func15, Tryd.ntmps15
  go_wp2_with (go_at_call 39; refine (dec_any _ HN.out _).mono ?_; rintro e w' ⟨rfl, k⟩; have K := Lib.hid k; clear k)
  go_ret
  exact ⟨ret_str (by rw [show (⟨#[58]⟩ : ByteArray) = ⟨([58] : List UInt8).toArray⟩ from rfl, cat_eq, cat_eq]; rfl), K.out⟩

def cutL (ts : List (List UInt8)) : List (List UInt8) := (ts.take 20).map (·.take 100)
def cutK (ts : List (List UInt8)) (k : Nat) : List (List UInt8) := (ts.take k).map (·.take 100)
theorem cutK_step (ts : List (List UInt8)) (k : Nat) (h : k < ts.length) : cutK ts (k + 1) = cutK ts k ++ [ts[k].take 100] := by
  unfold cutK; rw [List.take_succ_eq_append_getElem h, List.map_append]; rfl
theorem cutK_len (ts : List (List UInt8)) (k : Nat) : (cutK ts k).length ≤ k := by unfold cutK; rw [List.length_map]; exact List.length_take_le _ _
theorem cutL_len (ts : List (List UInt8)) : (cutL ts).length ≤ 20 := cutK_len ts 20
theorem cutL_mem (ts : List (List UInt8)) : ∀ x ∈ cutL ts, x.length ≤ 100 := by
  intro x h
  obtain ⟨y, _, rfl⟩ := List.mem_map.1 h
  exact List.length_take_le _ _
theorem ext_min (x : List UInt8) (c : Nat) : (⟨x.toArray⟩ : ByteArray).extract 0 (min (x.length : Int) (c : Int)).toNat = ⟨(x.take c).toArray⟩ := by
  rw [ext_take]
  by_cases h : x.length ≤ c
  · rw [List.take_of_length_le h, List.take_of_length_le (by omega)]
  · congr 3; omega
theorem cut_nil (ao : Option Addr) (cap : Nat) (w : World) : Calls Tryd.prog 11 #[.slice ao 0 cap] w fun e w' => e = .returned (.slice none 0 0) ∧ w = w' := by
  go_enter Tryd.func11, Tryd.ntmps11
  go_wp2
  go_loopw [3, 4] (fun v i wr => v = .slice none 0 0 ∧ i = .int .i64 0 ∧ w = wr) (fun _ _ _ => 0)
  case atStart => exact ⟨rfl, rfl, rfl⟩
  case round =>
    obtain ⟨rfl, rfl, rfl⟩ := hrel
    go_wp2
    go_ret
    exact ⟨rfl, rfl⟩
def CutEnds (w : World) (ts : List (List UInt8)) (E : Ending) (w' : World) : Prop := ∃ v, E = .returned v ∧ w'.ownsRow w.heap.size 9 1 v (cutL ts).length ((cutL ts).map vStr) ∧ Kp w w' none
theorem CutEnds.mk {w w' : World} {ts : List (List UInt8)} {v : Value} {k : Nat} (hk : cutK ts k = cutL ts) (h : w'.ownsRow w.heap.size 9 1 v (cutK ts k).length ((cutK ts k).map vStr)) (kp : Kp w w' none) : CutEnds w ts (.returned v) w' := by
  rw [hk] at h; exact ⟨v, rfl, h, kp⟩
def CutRel (w : World) (ts : List (List UInt8)) (v i : Value) (wr : World) : Prop :=
  ∃ k : Nat, k ≤ ts.length ∧ k ≤ 20 ∧ i = .int .i64 k ∧ wr.ownsRow w.heap.size 9 1 v (cutK ts k).length ((cutK ts k).map vStr) ∧ Kp w wr none

set_option maxHeartbeats 1000000 in
set_option maxRecDepth 100000 in
theorem cut_row (b off cap : Nat) (ts : List (List UInt8)) (w : World) (hb : b < w.heap.size) (_hcap : ts.length ≤ cap) (_hn : ts.length ≤ 9223372036854775807) (hrow : ∀ i, i < ts.length → w.cell? ⟨b, off + i, none⟩ = (ts.map vStr)[i]?) (hl : ∀ x ∈ ts, x.length ≤ 9223372036854775807) :
    Calls Tryd.prog 11 #[.slice (some ⟨b, off, none⟩) ts.length cap] w (CutEnds w ts) := by
  have HR := Lib.hid hrow
  have HL := Lib.hid hl
  clear hrow hl
  go_enter Tryd.func11, Tryd.ntmps11
  go_wp2
  go_loopw [3, 4] (fun v i wr => CutRel w ts v i wr) (fun _ i _ => 20 - (intOf i).toNat)
  case atStart => exact ⟨0, Nat.zero_le _, by omega, rfl, World.ownsRow_nil _ _ _ _, Kp.refl _ _⟩
  case round =>
    obtain ⟨k, hk, hk20, rfl, hown, hK⟩ := hrel
    have HO := Lib.hid hown
    have HK := Lib.hid hK
    clear hown hK
    by_cases hlt : k < ts.length
    · by_cases h20 : k < 20
      · obtain ⟨x, hx⟩ : ∃ x, ts[k] = x := ⟨_, rfl⟩
        have hxl : x.length ≤ 9223372036854775807 := by rw [← hx]; exact HL.out _ (List.getElem_mem hlt)
        have hc : wr.cell? ⟨b, off + k, none⟩ = some (.string ⟨x.toArray⟩) := by
          rw [HK.out.below.cell (p := ⟨b, off + k, none⟩) hb, HR.out k hlt]; simp [hlt, vStr, hx]
        have HX := Lib.hid hx
        have hck := cutK_len ts k
        clear hx
        obtain ⟨i0, hi, hz0, hz1, hz2⟩ := info_parts info9
        have ag := own_ne HO.out hb
        have hk0 : (0 : Int) ≤ (k : Int) := Int.natCast_nonneg _
        have hk1 : (k : Int) < (ts.length : Int) := by omega
        have hm0 : (0 : Int) ≤ min (x.length : Int) 100 := by omega
        have hm1 : min (x.length : Int) 100 ≤ (x.length : Int) := by omega
        have hbz := HK.out.size
        have hbb : b < wr.heap.size := by omega
        have hcm : (cutK ts k).length + 1 ≤ maxLen := by unfold maxLen; omega
        have hcb : ((cutK ts k).length + 1) * 16 ≤ 140737488355328 := by omega
        go_wp2
        go_region_held3 (fun w' => w'.cell? ⟨b, off + k, none⟩ = some (.string ⟨x.toArray⟩))
          (first
            | go_keep
            | (go_split_ands
               rw [hgrow.cell_far _ (by simp; omega) (Ne.symm ag)]; assumption))
          ((refine step_append_lies _ (by rfl) _ _ _ (by rfl) w.heap.size 9 i0 _ 1 16 Tryd.underlying23 hi hz0 hz1 hz2 rfl (by omega) u3 (cutK ts k).length ((cutK ts k).map vStr) (by rfl) ((HO.out.alloc _).drew)
              ⟨wr.heap.size, 0, none⟩ 1 1 [.string ((⟨x.toArray⟩ : ByteArray).extract 0 (min (x.length : Int) 100).toNat)] (by rfl) (by rfl) (World.news_of_block (cs := #[.string ((⟨x.toArray⟩ : ByteArray).extract 0 (min (x.length : Int) 100).toNat)]) (t := 9) (fr := (0, 0)) (heap_alloc_new wr _)) (by simp [Value.oneCell'])
              (by omega) hcm hcb (by simp; omega) (wr.heap.size + 1) (by simp) ?_; intro gg cap1 w1 hown1 hgrow hat hlt1))
        have HO1 := Lib.hid hown1
        have HG := Lib.hid hgrow
        clear hown1 hgrow hat hlt1
        go_wp2
        have hrel : CutRel w ts (.slice (some ⟨gg, 0, none⟩) ((cutK ts k).length + 1) cap1) (.int .i64 (k + 1)) w1 := by
          refine ⟨k + 1, by omega, by omega, by go_num, ?_, Kp.row ((HK.out.alloc _).drew) HG.out (fun j hj => (HO.out.lt j hj).1)⟩
          rw [cutK_step ts k hlt, HX.out, List.map_append, List.length_append]
          have h := HO1.out
          rw [show (⟨x.toArray⟩ : ByteArray).extract 0 (min (x.length : Int) 100).toNat = ⟨(x.take 100).toArray⟩ from ext_min x 100] at h
          exact h
        first | exact ⟨hrel, by simp [intOf]; omega⟩ | (go_roundw; all_goals first | exact hrel | (simp [intOf]; omega) | ((repeat apply Exists.intro); exact ⟨hrel, rfl⟩))
      · go_wp2
        go_ret
        exact CutEnds.mk (k := k) (by rw [show k = 20 by omega]; rfl) HO.out HK.out
    · go_wp2
      go_ret
      exact CutEnds.mk (k := k) (by unfold cutK cutL; rw [List.take_of_length_le (by omega), List.take_of_length_le (by omega)]) HO.out HK.out

theorem IsRow.keep {w w' : World} {v : Value} {xs : List Value} (h : IsRow w v xs) (k : Kp w w' none) : IsRow w' v xs := by
  rcases h with h | ⟨b, off, cap, hv, hc, hb, hr⟩
  · exact .inl h
  · exact .inr ⟨b, off, cap, hv, hc, Nat.lt_of_lt_of_le hb k.size, fun i hi => by rw [k.below.cell (p := ⟨b, off + i, none⟩) hb]; exact hr i hi⟩
theorem cut_any (v : Value) (ts : List (List UInt8)) (w : World) (h : IsRow w v (ts.map vStr)) (hn : ts.length ≤ 9223372036854775807) (hl : ∀ x ∈ ts, x.length ≤ 9223372036854775807) : Calls Tryd.prog 11 #[v] w (CutEnds w ts) := by
  rcases h with ⟨ao, cap, rfl, h⟩ | ⟨b, off, cap, rfl, hcap, hb, hc⟩
  · rw [List.map_eq_nil_iff.1 h]
    refine (cut_nil ao cap w).mono ?_
    rintro e w' ⟨rfl, rfl⟩
    exact ⟨_, rfl, World.ownsRow_nil _ _ _ _, Kp.refl _ _⟩
  · rw [List.length_map] at hcap hc ⊢
    exact cut_row b off cap ts w hb hcap hn hc hl


def RListRelI (w : World) (xs : List (Int)) (s i : Value) (wr : World) : Prop :=
  ∃ k : Nat, k ≤ xs.length ∧ i = .int .i64 k ∧ s = .string ⟨(soFar Wr.wInt xs k).toArray⟩ ∧ Kp w wr none

set_option maxHeartbeats 1000000 in
set_option maxRecDepth 100000 in
theorem rlistI_row (b off cap : Nat) (xs : List (Int)) (w : World) (hb : b < w.heap.size) (_hcap : xs.length ≤ cap) (hrow : ∀ i, i < xs.length → w.cell? ⟨b, off + i, none⟩ = (xs.map vInt)[i]?) (hI : ∀ x ∈ xs, Wr.I64 x) (hl : xs.length < 65536) :
    Calls Tryd.prog 17 #[.slice (some ⟨b, off, none⟩) xs.length cap] w (fun e w' => e = .returned (.string ⟨(Wr.wInts xs).toArray⟩) ∧ Kp w w' none) := by
  have HR := Lib.hid hrow
  have HII := Lib.hid hI
  have hlen : ∀ k, (soFar Wr.wInt xs k).length ≤ 21 * xs.length + 1 := fun k => soFar_length _ _ _ _ (fun x hx => wInt_length x (hI x hx))
  have HLEN := Lib.hid hlen
  clear hrow hI hlen
  go_enter Tryd.func17, Tryd.ntmps17
  go_wp2
  go_loopw [3, 4] (fun s i wr => RListRelI w xs s i wr) (fun _ i _ => xs.length - (intOf i).toNat)
  case atStart => exact ⟨0, Nat.zero_le _, rfl, rfl, Kp.refl _ _⟩
  case round =>
    obtain ⟨k, hk, rfl, rfl, hK⟩ := hrel
    have HK := Lib.hid hK
    clear hK
    have hL1 := HLEN.out k
    by_cases hlt : k < xs.length
    · have hc : wr.cell? ⟨b, off + k, none⟩ = some (vInt xs[k]) := by
        rw [HK.out.below.cell (p := ⟨b, off + k, none⟩) hb, HR.out k hlt]; simp [hlt]
      have HX := Lib.hid (HII.out xs[k] (List.getElem_mem hlt))
      have hstep := soFar_step Wr.wInt xs k hlt
      generalize hx : xs[k] = x at hc HX hstep
      have HST := Lib.hid hstep
      have hL2 : (Wr.wInt x).length ≤ 21 := wInt_length x HX.out
      clear hx hstep
      unfold vInt at hc
      generalize hsf : soFar Wr.wInt xs k = sf at hL1 HST
      have HSF := Lib.hid hsf
      clear hsf
      go_wp2_with (go_at_call 13; refine (rint_any x _ HX.out).mono ?_; rintro e w2 ⟨rfl, k2⟩; have K2 := Lib.hid k2; clear k2)
      have hrel : RListRelI w xs (.string ((⟨sf.toArray⟩ : ByteArray) ++ ⟨(Wr.wInt x).toArray⟩)) (.int .i64 (k + 1)) w2 := ⟨k + 1, by omega, by go_num, by rw [cat_eq, HST.out], HK.out.trans K2.out⟩
      first | exact ⟨hrel, by simp [intOf]; omega⟩ | (go_roundw; all_goals first | exact hrel | (simp [intOf]; omega) | ((repeat apply Exists.intro); exact ⟨hrel, rfl⟩))
    · have hkn : k = xs.length := by omega
      subst hkn
      generalize hsf : soFar Wr.wInt xs xs.length = sf at hL1
      have HSF := Lib.hid hsf
      clear hsf
      go_wp2
      go_ret
      exact ⟨ret_str (by rw [show (⟨#[93]⟩ : ByteArray) = ⟨([93] : List UInt8).toArray⟩ from rfl, cat_eq, ← HSF.out]; simp [soFar, Wr.wInts]), HK.out⟩

set_option maxHeartbeats 1000000 in
theorem rlistI_nil (ao : Option Addr) (cap : Nat) (w : World) : Calls Tryd.prog 17 #[.slice ao 0 cap] w (fun e w' => e = .returned (.string ⟨(Wr.wInts []).toArray⟩) ∧ Kp w w' none) := by
  go_enter Tryd.func17, Tryd.ntmps17
  go_wp2
  go_loopw [3, 4] (fun s i wr => s = .string ⟨#[91]⟩ ∧ i = .int .i64 0 ∧ w = wr) (fun _ _ _ => 0)
  case atStart => exact ⟨rfl, rfl, rfl⟩
  case round =>
    obtain ⟨rfl, rfl, rfl⟩ := hrel
    go_wp2
    go_ret
    exact ⟨ret_str rfl, Kp.refl _ _⟩

theorem rints_any (v : Value) (xs : List (Int)) (w : World) (h : IsRow w v (xs.map vInt)) (hI : ∀ x ∈ xs, Wr.I64 x) (hl : xs.length < 65536) :
    Calls Tryd.prog 17 #[v] w (fun e w' => e = .returned (.string ⟨(Wr.wInts xs).toArray⟩) ∧ Kp w w' none) := by
  rcases h with ⟨ao, cap, rfl, h⟩ | ⟨b, off, cap, rfl, hcap, hb, hc⟩
  · rw [List.map_eq_nil_iff.1 h]; exact rlistI_nil ao cap w
  · rw [List.length_map] at hcap hc ⊢
    exact rlistI_row b off cap xs w hb hcap hc hI hl

def RListRelT (w : World) (xs : List (List UInt8)) (s i : Value) (wr : World) : Prop :=
  ∃ k : Nat, k ≤ xs.length ∧ i = .int .i64 k ∧ s = .string ⟨(soFar Wr.wText xs k).toArray⟩ ∧ Kp w wr none

set_option maxHeartbeats 1000000 in
set_option maxRecDepth 100000 in
theorem rlistT_row (b off cap : Nat) (xs : List (List UInt8)) (w : World) (hb : b < w.heap.size) (_hcap : xs.length ≤ cap) (hrow : ∀ i, i < xs.length → w.cell? ⟨b, off + i, none⟩ = (xs.map vStr)[i]?) (hI : ∀ x ∈ xs, x.length ≤ 1048576) (hl : xs.length < 65536) :
    Calls Tryd.prog 19 #[.slice (some ⟨b, off, none⟩) xs.length cap] w (fun e w' => e = .returned (.string ⟨(Wr.wTexts xs).toArray⟩) ∧ Kp w w' none) := by
  have HR := Lib.hid hrow
  have HII := Lib.hid hI
  have hlen : ∀ k, (soFar Wr.wText xs k).length ≤ 1048600 * xs.length + 1 := fun k => soFar_length _ _ _ _ (fun x hx => wText_length x (hI x hx))
  have HLEN := Lib.hid hlen
  clear hrow hI hlen
  go_enter Tryd.func19, Tryd.ntmps19
  go_wp2
  go_loopw [3, 4] (fun s i wr => RListRelT w xs s i wr) (fun _ i _ => xs.length - (intOf i).toNat)
  case atStart => exact ⟨0, Nat.zero_le _, rfl, rfl, Kp.refl _ _⟩
  case round =>
    obtain ⟨k, hk, rfl, rfl, hK⟩ := hrel
    have HK := Lib.hid hK
    clear hK
    have hL1 := HLEN.out k
    by_cases hlt : k < xs.length
    · have hc : wr.cell? ⟨b, off + k, none⟩ = some (vStr xs[k]) := by
        rw [HK.out.below.cell (p := ⟨b, off + k, none⟩) hb, HR.out k hlt]; simp [hlt]
      have HX := Lib.hid (HII.out xs[k] (List.getElem_mem hlt))
      have hstep := soFar_step Wr.wText xs k hlt
      generalize hx : xs[k] = x at hc HX hstep
      have HST := Lib.hid hstep
      have hL2 : (Wr.wText x).length ≤ 1048600 := wText_length x HX.out
      clear hx hstep
      unfold vStr at hc
      generalize hsf : soFar Wr.wText xs k = sf at hL1 HST
      have HSF := Lib.hid hsf
      clear hsf
      go_wp2_with (go_at_call 15; refine (rtext_any x _ (by have := HX.out; omega)).mono ?_; rintro e w2 ⟨rfl, k2⟩; have K2 := Lib.hid k2; clear k2)
      have hrel : RListRelT w xs (.string ((⟨sf.toArray⟩ : ByteArray) ++ ⟨(Wr.wText x).toArray⟩)) (.int .i64 (k + 1)) w2 := ⟨k + 1, by omega, by go_num, by rw [cat_eq, HST.out], HK.out.trans K2.out⟩
      first | exact ⟨hrel, by simp [intOf]; omega⟩ | (go_roundw; all_goals first | exact hrel | (simp [intOf]; omega) | ((repeat apply Exists.intro); exact ⟨hrel, rfl⟩))
    · have hkn : k = xs.length := by omega
      subst hkn
      generalize hsf : soFar Wr.wText xs xs.length = sf at hL1
      have HSF := Lib.hid hsf
      clear hsf
      go_wp2
      go_ret
      exact ⟨ret_str (by rw [show (⟨#[93]⟩ : ByteArray) = ⟨([93] : List UInt8).toArray⟩ from rfl, cat_eq, ← HSF.out]; simp [soFar, Wr.wTexts]), HK.out⟩

set_option maxHeartbeats 1000000 in
theorem rlistT_nil (ao : Option Addr) (cap : Nat) (w : World) : Calls Tryd.prog 19 #[.slice ao 0 cap] w (fun e w' => e = .returned (.string ⟨(Wr.wTexts []).toArray⟩) ∧ Kp w w' none) := by
  go_enter Tryd.func19, Tryd.ntmps19
  go_wp2
  go_loopw [3, 4] (fun s i wr => s = .string ⟨#[91]⟩ ∧ i = .int .i64 0 ∧ w = wr) (fun _ _ _ => 0)
  case atStart => exact ⟨rfl, rfl, rfl⟩
  case round =>
    obtain ⟨rfl, rfl, rfl⟩ := hrel
    go_wp2
    go_ret
    exact ⟨ret_str rfl, Kp.refl _ _⟩

theorem rtexts_any (v : Value) (xs : List (List UInt8)) (w : World) (h : IsRow w v (xs.map vStr)) (hI : ∀ x ∈ xs, x.length ≤ 1048576) (hl : xs.length < 65536) :
    Calls Tryd.prog 19 #[v] w (fun e w' => e = .returned (.string ⟨(Wr.wTexts xs).toArray⟩) ∧ Kp w w' none) := by
  rcases h with ⟨ao, cap, rfl, h⟩ | ⟨b, off, cap, rfl, hcap, hb, hc⟩
  · rw [List.map_eq_nil_iff.1 h]; exact rlistT_nil ao cap w
  · rw [List.length_map] at hcap hc ⊢
    exact rlistT_row b off cap xs w hb hcap hc hI hl

end Go.Proofs.YtfcbogoahangoaaDoor
