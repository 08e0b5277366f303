/- The serializations of the package wire, walked. Conditions: lists shorter than 2^31, texts of at most 2^20 bytes. -/
import Derived.Test.YtfcbogoahangoaaDoorEl
namespace Go.Proofs.YtfcbogoahangoaaDoor
open Go.RowKit

theorem cat_eq (a b : List UInt8) : ((⟨a.toArray⟩ : ByteArray) ++ ⟨b.toArray⟩) = ⟨(a ++ b).toArray⟩ := ByteArray.mk_append_mk a b

theorem wint_any (n : Int) (w : World) (he : Env w) (hn : Wr.I64 n) : Calls Tryd.prog 12 #[.int .i64 n] w fun e w' => e = .returned (.string ⟨(Wr.wInt n).toArray⟩) ∧ Kp w w' none := by
  have hl := Wr.itoa_length n hn
  go_enter Tryd.func12, Tryd.ntmps12
  go_wp2_with (go_at_call 38; refine (itoa_any _ _ he hn).mono ?_; rintro e w' ⟨rfl, k1⟩; have K1 := Lib.hid k1; clear k1)
  go_ret
  exact ⟨ret_str (cat_eq (Lib.itoa n) [59]), K1.out⟩
theorem wtext_any (s : List UInt8) (w : World) (he : Env w) (hn : s.length < 2147483648) : Calls Tryd.prog 14 #[.string ⟨s.toArray⟩] w fun e w' => e = .returned (.string ⟨(Wr.wText s).toArray⟩) ∧ Kp w w' none := by
  have hl := Wr.itoa_length s.length (by unfold Wr.I64; omega)
  go_enter Tryd.func14, Tryd.ntmps14
  go_wp2_with (go_at_call 38; refine (itoa_any _ _ he (by unfold Wr.I64; omega)).mono ?_; rintro e w' ⟨rfl, k1⟩; have K1 := Lib.hid k1; clear k1)
  go_ret
  exact ⟨ret_str (by rw [show (⟨#[58]⟩ : ByteArray) = ⟨[58].toArray⟩ from rfl, cat_eq, cat_eq]; rfl), K1.out⟩

/-- A slice of one-cell elements, empty or not, and what it reads as. -/
def IsRow (w : World) (v : Value) (xs : List Value) : Prop :=
  (∃ ao cap, v = .slice ao 0 cap ∧ xs = []) ∨ ∃ b off cap, v = .slice (some ⟨b, off, none⟩) xs.length cap ∧ xs.length ≤ cap ∧ b < w.heap.size ∧ ∀ i, i < xs.length → w.cell? ⟨b, off + i, none⟩ = xs[i]?

theorem wInt_length (n : Int) (h : Wr.I64 n) : (Wr.wInt n).length ≤ 21 := by have := Wr.itoa_length n h; simp [Wr.wInt]; omega
theorem wText_length (s : List UInt8) (h : s.length ≤ 1048576) : (Wr.wText s).length ≤ 1048600 := by have := Wr.itoa_length s.length (by unfold Wr.I64; omega); simp [Wr.wText]; omega
theorem flat_length {α : Type} (f : α → List UInt8) (m : Nat) : ∀ (l : List α), (∀ x ∈ l, (f x).length ≤ m) → (l.flatMap f).length ≤ m * l.length
  | [], _ => by simp
  | x :: l, h => by
    have a := flat_length f m l (fun y hy => h y (by simp [hy]))
    have b := h x (by simp)
    rw [List.flatMap_cons, List.length_append, List.length_cons, Nat.mul_add]; omega

/-- What the builder holds behind k elements. -/
def soFar {α : Type} (f : α → List UInt8) (xs : List α) (k : Nat) : List UInt8 := 91 :: (xs.take k).flatMap f
theorem soFar_step {α : Type} (f : α → List UInt8) (xs : List α) (k : Nat) (h : k < xs.length) : soFar f xs (k + 1) = soFar f xs k ++ f xs[k] := by
  unfold soFar
  rw [List.take_succ_eq_append_getElem h, List.flatMap_append]
  simp only [List.flatMap_cons, List.flatMap_nil, List.append_nil, List.cons_append]
theorem soFar_length {α : Type} (f : α → List UInt8) (xs : List α) (m k : Nat) (h : ∀ x ∈ xs, (f x).length ≤ m) : (soFar f xs k).length ≤ m * xs.length + 1 := by
  have a := flat_length f m (xs.take k) (fun x hx => h x (List.mem_of_mem_take hx))
  have b : (xs.take k).length ≤ xs.length := List.length_take_le' ..
  have c := Nat.mul_le_mul_left m b
  simp only [soFar, List.length_cons]; omega
theorem cells_lit (l : List UInt8) (c : UInt8) (n : Int) (h : (c.toNat : Int) = n) : Lib.byteCells l ++ [.int .u8 n] = Lib.byteCells (l ++ [c]) := by
  rw [Lib.byteCells_append, ← h]; rfl
theorem cells_str (l s : List UInt8) : Lib.byteCells l ++ Lib.strCells ⟨s.toArray⟩ = Lib.byteCells (l ++ s) := by
  rw [Lib.byteCells_append, Lib.strCells_eq]

theorem builder_kp {B b : Nat} {bs : List Value} {w w' : World} (h : Lib.IsBuilderF 67 5 B b bs w) (k : Kp w w' none) : Lib.IsBuilderF 67 5 B b bs w' := by
  have key : ∀ p, Lib.BuilderAtF 67 5 B b p bs w → Lib.BuilderAtF 67 5 B b p bs w' := by
    rintro p ⟨hB, v, hb, ⟨hl, ho⟩, hne⟩
    refine ⟨hB, v, (k.block b (lt_of_block hb) (by simp)).trans hb, ⟨hl, ?_⟩, hne⟩
    rcases ho with ho | ⟨g, cap, cur, fz, hv, hg, hh, r⟩
    · exact .inl ho
    · exact .inr ⟨g, cap, cur, fz, hv, hg, (k.block g (lt_of_block hh) (by simp)).trans hh, r⟩
  exact h.elim (fun x => .inl (key _ x)) (fun x => .inr (key _ x))
theorem wr_bound (a s : List UInt8) (h : a.length + s.length ≤ 140737488355328) : (Lib.byteCells a).length + (⟨s.toArray⟩ : ByteArray).size ≤ 140737488355328 := by
  have e : (⟨s.toArray⟩ : ByteArray).size = s.length := by show s.toArray.size = _; simp
  rw [e]; simpa [Lib.byteCells] using h

def ListRelI (w : World) (xs : List Int) (i : Value) (wr : World) : Prop :=
  ∃ k : Nat, k ≤ xs.length ∧ i = .int .i64 k ∧ Lib.IsBuilderF 67 5 w.heap.size w.heap.size (Lib.byteCells (soFar Wr.wInt xs k)) wr ∧ Kp w wr none

set_option maxHeartbeats 1000000 in
set_option maxRecDepth 100000 in
theorem listI_row (b off cap : Nat) (xs : List Int) (w : World) (he : Env w) (hb : b < w.heap.size) (_hcap : xs.length ≤ cap) (hrow : ∀ i, i < xs.length → w.cell? ⟨b, off + i, none⟩ = (xs.map vInt)[i]?) (hI : ∀ x ∈ xs, Wr.I64 x) (hl : xs.length < 65536) :
    Calls Tryd.prog 40 #[.slice (some ⟨b, off, none⟩) xs.length cap, .func (.func 12) #[] #[]] w (fun e w' => e = .returned (.string ⟨(Wr.wInts xs).toArray⟩) ∧ Kp w w' none) := by
  have HR := Lib.hid hrow
  have HE := Lib.hid he
  have HII := Lib.hid hI
  have hlen : ∀ k, (soFar Wr.wInt xs k).length ≤ 21 * xs.length + 1 := fun k => soFar_length _ _ _ _ (fun x hx => wInt_length x (hI x hx))
  have HLEN := Lib.hid hlen
  clear hrow he hI hlen
  have H0 := Lib.hid (Lib.IsBuilderF.of (Lib.fresh_isBuilder 67 5 w))
  have K0 : Hid (Kp w (w.alloc (.cells #[.pointer none, .slice none 0 0] 67)) none) := (Kp.refl _ _).alloc _
  go_enter Tryd.func40, Tryd.ntmps40
  go_wp2_with (first | (go_at_call 50; refine (writeByte_any w.heap.size w.heap.size [] _ _ H0.out (by simp) (by simp)).mono ?_; rintro e w1 ⟨rfl, h1, b1, _⟩; have H1 := Lib.hid h1; have B1 := Lib.hid b1; clear h1 b1))
  go_loopw [11] (fun i wr => ListRelI w xs i wr) (fun i _ => xs.length - (intOf i).toNat)
  case atStart => exact ⟨0, Nat.zero_le _, rfl, .inr (by simpa [soFar, Lib.byteCells] using H1.out), Kp.of_below ((K0.out.below).trans B1.out)⟩
  case round =>
    obtain ⟨k, hk, rfl, hB, hK⟩ := hrel
    have HB := Lib.hid hB
    have HK := Lib.hid hK
    clear hB hK
    by_cases hlt : k < xs.length
    · have hc : wr.cell? ⟨b, off + k, none⟩ = some (vInt xs[k]) := by
        rw [HK.out.below.cell (p := ⟨b, off + k, none⟩) hb, HR.out k hlt]; simp [hlt]
      have HX := Lib.hid (HII.out xs[k] (List.getElem_mem hlt))
      generalize hx : xs[k] = x at hc HX
      have HXE := Lib.hid hx
      clear hx
      unfold vInt at hc
      have hL1 := HLEN.out k
      have hL2 : (Wr.wInt x).length ≤ 21 := by have := HX.out; have hx := x; exact wInt_length x HX.out
      go_wp2_with (first | (go_at_call 12; refine (wint_any _ _ (HE.out.kp0 HK.out) HX.out).mono ?_; rintro e w2 ⟨rfl, k2⟩; have K2 := Lib.hid k2; clear k2; have HB2 := Lib.hid (builder_kp HB.out K2.out)) | (go_at_call 51; refine (writeString_any w.heap.size w.heap.size _ _ _ HB2.out (wr_bound _ _ (by omega)) (by have := HK.out.size; have := K2.out.size; omega)).mono ?_; rintro e w3 ⟨rfl, h3, b3, _⟩; have H3 := Lib.hid h3; have B3 := Lib.hid b3; clear h3 b3))
      go_roundw
      case rel => 
        have hrel : ListRelI w xs (.int .i64 (k + 1)) w3 := ⟨k + 1, hlt, by go_num, .inr (by rw [soFar_step _ _ _ hlt, ← cells_str, HXE.out]; exact H3.out), Kp.of_below ((HK.out.below.trans (K2.out.below.mono HK.out.size)).trans B3.out)⟩
        first | exact hrel | ((repeat apply Exists.intro); exact ⟨hrel, rfl⟩)
      case measure => simp [intOf]; omega
    · have hkn : k = xs.length := by omega
      subst hkn
      go_wp2_with (first | (go_at_call 50; refine (writeByte_any w.heap.size w.heap.size _ _ _ HB.out (by have := HLEN.out xs.length; simp [Lib.byteCells]; omega) (by have := HK.out.size; omega)).mono ?_; rintro e w2 ⟨rfl, h2, b2, _⟩; have H2 := Lib.hid h2; have B2 := Lib.hid b2; clear h2 b2) | (go_at_call 52; refine (Tryd.Builder_String_any_k w.heap.size w.heap.size (soFar Wr.wInt xs xs.length ++ [93]) _ (.inr (by rw [← cells_lit _ 93 93 rfl]; exact H2.out)) (by have := HK.out.size; have := B2.out.size; omega)).mono ?_; rintro e w4 ⟨rfl, _, b4, _⟩; have B4 := Lib.hid b4; clear b4))
      go_ret
      exact ⟨ret_str (by simp [soFar, Wr.wInts]), Kp.of_below ((HK.out.below.trans B2.out).trans B4.out)⟩


set_option maxHeartbeats 1000000 in
set_option maxRecDepth 100000 in
theorem listI_nil (ao : Option Addr) (cap : Nat) (w : World) : Calls Tryd.prog 40 #[.slice ao 0 cap, .func (.func 12) #[] #[]] w (fun e w' => e = .returned (.string ⟨(Wr.wInts []).toArray⟩) ∧ Kp w w' none) := by
  have H0 := Lib.hid (Lib.IsBuilderF.of (Lib.fresh_isBuilder 67 5 w))
  have K0 : Hid (Kp w (w.alloc (.cells #[.pointer none, .slice none 0 0] 67)) none) := (Kp.refl _ _).alloc _
  go_enter Tryd.func40, Tryd.ntmps40
  go_wp2_with (first | (go_at_call 50; refine (writeByte_any w.heap.size w.heap.size [] _ _ H0.out (by simp) (by simp)).mono ?_; rintro e w1 ⟨rfl, h1, b1, _⟩; have H1 := Lib.hid h1; have B1 := Lib.hid b1; clear h1 b1))
  go_loopw [11] (fun i wr => ListRelI w [] i wr) (fun _ _ => 0)
  case atStart => exact ⟨0, Nat.zero_le _, rfl, .inr (by simpa [soFar, Lib.byteCells] using H1.out), Kp.of_below ((K0.out.below).trans B1.out)⟩
  case round =>
    obtain ⟨k, hk, rfl, hB, hK⟩ := hrel
    have HB := Lib.hid hB
    have HK := Lib.hid hK
    clear hB hK
    simp only [List.length_nil, Nat.le_zero_eq] at hk
    subst hk
    go_wp2_with (first | (go_at_call 50; refine (writeByte_any w.heap.size w.heap.size _ _ _ HB.out (by simp [Lib.byteCells, soFar]) (by have := HK.out.size; omega)).mono ?_; rintro e w2 ⟨rfl, h2, b2, _⟩; have H2 := Lib.hid h2; have B2 := Lib.hid b2; clear h2 b2) | (go_at_call 52; refine (Tryd.Builder_String_any_k w.heap.size w.heap.size (soFar Wr.wInt [] 0 ++ [93]) _ (.inr (by rw [← cells_lit _ 93 93 rfl]; exact H2.out)) (by have := HK.out.size; have := B2.out.size; omega)).mono ?_; rintro e w4 ⟨rfl, _, b4, _⟩; have B4 := Lib.hid b4; clear b4))
    go_ret
    exact ⟨ret_str rfl, Kp.of_below ((HK.out.below.trans B2.out).trans B4.out)⟩

theorem listI_any (v : Value) (xs : List Int) (w : World) (he : Env w) (h : IsRow w v (xs.map vInt)) (hI : ∀ x ∈ xs, Wr.I64 x) (hl : xs.length < 65536) :
    Calls Tryd.prog 40 #[v, .func (.func 12) #[] #[]] w (fun e w' => e = .returned (.string ⟨(Wr.wInts xs).toArray⟩) ∧ Kp w w' none) := by
  rcases h with ⟨ao, cap, rfl, h⟩ | ⟨b, off, cap, rfl, hcap, hb, hc⟩
  · rw [List.map_eq_nil_iff.1 h]; exact listI_nil ao cap w
  · rw [List.length_map] at hcap hc ⊢
    exact listI_row b off cap xs w he hb hcap hc hI hl

theorem wints_any (v : Value) (xs : List Int) (w : World) (he : Env w) (h : IsRow w v (xs.map vInt)) (hI : ∀ x ∈ xs, Wr.I64 x) (hl : xs.length < 65536) :
    Calls Tryd.prog 16 #[v] w (fun e w' => e = .returned (.string ⟨(Wr.wInts xs).toArray⟩) ∧ Kp w w' none) := by
  have H := Lib.hid (listI_any v xs w he h hI hl)
  clear h he hI
  go_enter Tryd.func16, Tryd.ntmps16
  go_wp2_with (go_at_call 40; refine H.out.mono ?_; rintro e w' ⟨rfl, k⟩; have K := Lib.hid k; clear k)
  go_ret
  exact ⟨rfl, K.out⟩
def ListRelT (w : World) (xs : List (List UInt8)) (i : Value) (wr : World) : Prop :=
  ∃ k : Nat, k ≤ xs.length ∧ i = .int .i64 k ∧ Lib.IsBuilderF 67 5 w.heap.size w.heap.size (Lib.byteCells (soFar Wr.wText xs k)) wr ∧ Kp w wr none

set_option maxHeartbeats 1000000 in
set_option maxRecDepth 100000 in
theorem listT_row (b off cap : Nat) (xs : List (List UInt8)) (w : World) (he : Env w) (hb : b < w.heap.size) (_hcap : xs.length ≤ cap) (hrow : ∀ i, i < xs.length → w.cell? ⟨b, off + i, none⟩ = (xs.map vStr)[i]?) (hI : ∀ x ∈ xs, x.length ≤ 1048576) (hl : xs.length < 65536) :
    Calls Tryd.prog 41 #[.slice (some ⟨b, off, none⟩) xs.length cap, .func (.func 14) #[] #[]] w (fun e w' => e = .returned (.string ⟨(Wr.wTexts xs).toArray⟩) ∧ Kp w w' none) := by
  have HR := Lib.hid hrow
  have HE := Lib.hid he
  have HII := Lib.hid hI
  have hlen : ∀ k, (soFar Wr.wText xs k).length ≤ 1048600 * xs.length + 1 := fun k => soFar_length _ _ _ _ (fun x hx => wText_length x (hI x hx))
  have HLEN := Lib.hid hlen
  clear hrow he hI hlen
  have H0 := Lib.hid (Lib.IsBuilderF.of (Lib.fresh_isBuilder 67 5 w))
  have K0 : Hid (Kp w (w.alloc (.cells #[.pointer none, .slice none 0 0] 67)) none) := (Kp.refl _ _).alloc _
  go_enter Tryd.func41, Tryd.ntmps41
  go_wp2_with (first | (go_at_call 50; refine (writeByte_any w.heap.size w.heap.size [] _ _ H0.out (by simp) (by simp)).mono ?_; rintro e w1 ⟨rfl, h1, b1, _⟩; have H1 := Lib.hid h1; have B1 := Lib.hid b1; clear h1 b1))
  go_loopw [11] (fun i wr => ListRelT w xs i wr) (fun i _ => xs.length - (intOf i).toNat)
  case atStart => exact ⟨0, Nat.zero_le _, rfl, .inr (by simpa [soFar, Lib.byteCells] using H1.out), Kp.of_below ((K0.out.below).trans B1.out)⟩
  case round =>
    obtain ⟨k, hk, rfl, hB, hK⟩ := hrel
    have HB := Lib.hid hB
    have HK := Lib.hid hK
    clear hB hK
    by_cases hlt : k < xs.length
    · have hc : wr.cell? ⟨b, off + k, none⟩ = some (vStr xs[k]) := by
        rw [HK.out.below.cell (p := ⟨b, off + k, none⟩) hb, HR.out k hlt]; simp [hlt]
      have HX := Lib.hid (HII.out xs[k] (List.getElem_mem hlt))
      generalize hx : xs[k] = x at hc HX
      have HXE := Lib.hid hx
      clear hx
      unfold vStr at hc
      have hL1 := HLEN.out k
      have hL2 : (Wr.wText x).length ≤ 1048600 := by have := HX.out; have hx := x; exact wText_length x HX.out
      go_wp2_with (first | (go_at_call 14; refine (wtext_any _ _ (HE.out.kp0 HK.out) (by have := HX.out; omega)).mono ?_; rintro e w2 ⟨rfl, k2⟩; have K2 := Lib.hid k2; clear k2; have HB2 := Lib.hid (builder_kp HB.out K2.out)) | (go_at_call 51; refine (writeString_any w.heap.size w.heap.size _ _ _ HB2.out (wr_bound _ _ (by omega)) (by have := HK.out.size; have := K2.out.size; omega)).mono ?_; rintro e w3 ⟨rfl, h3, b3, _⟩; have H3 := Lib.hid h3; have B3 := Lib.hid b3; clear h3 b3))
      go_roundw
      case rel => 
        have hrel : ListRelT w xs (.int .i64 (k + 1)) w3 := ⟨k + 1, hlt, by go_num, .inr (by rw [soFar_step _ _ _ hlt, ← cells_str, HXE.out]; exact H3.out), Kp.of_below ((HK.out.below.trans (K2.out.below.mono HK.out.size)).trans B3.out)⟩
        first | exact hrel | ((repeat apply Exists.intro); exact ⟨hrel, rfl⟩)
      case measure => simp [intOf]; omega
    · have hkn : k = xs.length := by omega
      subst hkn
      go_wp2_with (first | (go_at_call 50; refine (writeByte_any w.heap.size w.heap.size _ _ _ HB.out (by have := HLEN.out xs.length; simp [Lib.byteCells]; omega) (by have := HK.out.size; omega)).mono ?_; rintro e w2 ⟨rfl, h2, b2, _⟩; have H2 := Lib.hid h2; have B2 := Lib.hid b2; clear h2 b2) | (go_at_call 52; refine (Tryd.Builder_String_any_k w.heap.size w.heap.size (soFar Wr.wText xs xs.length ++ [93]) _ (.inr (by rw [← cells_lit _ 93 93 rfl]; exact H2.out)) (by have := HK.out.size; have := B2.out.size; omega)).mono ?_; rintro e w4 ⟨rfl, _, b4, _⟩; have B4 := Lib.hid b4; clear b4))
      go_ret
      exact ⟨ret_str (by simp [soFar, Wr.wTexts]), Kp.of_below ((HK.out.below.trans B2.out).trans B4.out)⟩


set_option maxHeartbeats 1000000 in
set_option maxRecDepth 100000 in
theorem listT_nil (ao : Option Addr) (cap : Nat) (w : World) : Calls Tryd.prog 41 #[.slice ao 0 cap, .func (.func 14) #[] #[]] w (fun e w' => e = .returned (.string ⟨(Wr.wTexts []).toArray⟩) ∧ Kp w w' none) := by
  have H0 := Lib.hid (Lib.IsBuilderF.of (Lib.fresh_isBuilder 67 5 w))
  have K0 : Hid (Kp w (w.alloc (.cells #[.pointer none, .slice none 0 0] 67)) none) := (Kp.refl _ _).alloc _
  go_enter Tryd.func41, Tryd.ntmps41
  go_wp2_with (first | (go_at_call 50; refine (writeByte_any w.heap.size w.heap.size [] _ _ H0.out (by simp) (by simp)).mono ?_; rintro e w1 ⟨rfl, h1, b1, _⟩; have H1 := Lib.hid h1; have B1 := Lib.hid b1; clear h1 b1))
  go_loopw [11] (fun i wr => ListRelT w [] i wr) (fun _ _ => 0)
  case atStart => exact ⟨0, Nat.zero_le _, rfl, .inr (by simpa [soFar, Lib.byteCells] using H1.out), Kp.of_below ((K0.out.below).trans B1.out)⟩
  case round =>
    obtain ⟨k, hk, rfl, hB, hK⟩ := hrel
    have HB := Lib.hid hB
    have HK := Lib.hid hK
    clear hB hK
    simp only [List.length_nil, Nat.le_zero_eq] at hk
    subst hk
    go_wp2_with (first | (go_at_call 50; refine (writeByte_any w.heap.size w.heap.size _ _ _ HB.out (by simp [Lib.byteCells, soFar]) (by have := HK.out.size; omega)).mono ?_; rintro e w2 ⟨rfl, h2, b2, _⟩; have H2 := Lib.hid h2; have B2 := Lib.hid b2; clear h2 b2) | (go_at_call 52; refine (Tryd.Builder_String_any_k w.heap.size w.heap.size (soFar Wr.wText [] 0 ++ [93]) _ (.inr (by rw [← cells_lit _ 93 93 rfl]; exact H2.out)) (by have := HK.out.size; have := B2.out.size; omega)).mono ?_; rintro e w4 ⟨rfl, _, b4, _⟩; have B4 := Lib.hid b4; clear b4))
    go_ret
    exact ⟨ret_str rfl, Kp.of_below ((HK.out.below.trans B2.out).trans B4.out)⟩

theorem listT_any (v : Value) (xs : List (List UInt8)) (w : World) (he : Env w) (h : IsRow w v (xs.map vStr)) (hI : ∀ x ∈ xs, x.length ≤ 1048576) (hl : xs.length < 65536) :
    Calls Tryd.prog 41 #[v, .func (.func 14) #[] #[]] w (fun e w' => e = .returned (.string ⟨(Wr.wTexts xs).toArray⟩) ∧ Kp w w' none) := by
  rcases h with ⟨ao, cap, rfl, h⟩ | ⟨b, off, cap, rfl, hcap, hb, hc⟩
  · rw [List.map_eq_nil_iff.1 h]; exact listT_nil ao cap w
  · rw [List.length_map] at hcap hc ⊢
    exact listT_row b off cap xs w he hb hcap hc hI hl

theorem wtexts_any (v : Value) (xs : List (List UInt8)) (w : World) (he : Env w) (h : IsRow w v (xs.map vStr)) (hI : ∀ x ∈ xs, x.length ≤ 1048576) (hl : xs.length < 65536) :
    Calls Tryd.prog 18 #[v] w (fun e w' => e = .returned (.string ⟨(Wr.wTexts xs).toArray⟩) ∧ Kp w w' none) := by
  have H := Lib.hid (listT_any v xs w he h hI hl)
  clear h he hI
  go_enter Tryd.func18, Tryd.ntmps18
  go_wp2_with (go_at_call 41; refine H.out.mono ?_; rintro e w' ⟨rfl, k⟩; have K := Lib.hid k; clear k)
  go_ret
  exact ⟨rfl, K.out⟩
end Go.Proofs.YtfcbogoahangoaaDoor
