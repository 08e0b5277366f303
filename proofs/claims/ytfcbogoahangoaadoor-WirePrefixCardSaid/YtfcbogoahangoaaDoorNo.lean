/- WireNothing, walked. No condition but what the library's variables hold. -/
import Derived.Test.YtfcbogoahangoaaDoorSn
import Derived.Test.YtfcbogoahangoaaDoorRb
import Derived.LaidEql
namespace Go.Proofs.YtfcbogoahangoaaDoor
open Go.RowKit

theorem undec_nil (k : Nat) : Undec k (some []) := by unfold Undec; split <;> rfl
theorem decodes_at (n : Int) (h0 : 0 ≤ n) (h4 : n < 4) (r : Nat) (st : Option (List UInt8)) (w : World) (he : Env w) (hr : 6 ≤ r) (hs : (st.getD []).length < 2147483648) (h : RdIs w r st) (hu : Undec n.toNat st) : Calls Tryd.prog 36 #[.pointer (some ⟨r, 0, none⟩), .int .i64 n] w fun E w' => E = .returned (.bool true) ∧ RdIs w' r none ∧ Kp w w' (some r) := by
  obtain ⟨k, rfl⟩ := Int.eq_ofNat_of_zero_le h0
  exact decodes_any k (by omega) r st w he hr hs h hu
theorem decodes_nil_at (n : Int) (h0 : 0 ≤ n) (h4 : n < 4) (w : World) : Calls Tryd.prog 36 #[.pointer none, .int .i64 n] w fun E w' => E = .returned (.bool true) ∧ w = w' := by
  obtain ⟨k, rfl⟩ := Int.eq_ofNat_of_zero_le h0
  exact decodes_nil k (by omega) w

def NothRel (w wb : World) (r b c : Nat) (i : Value) (wr : World) : Prop :=
  ∃ k : Nat, k ≤ 3 ∧ i = .int .i64 k ∧ (k ≤ 1 → RdIs wr r (some [])) ∧ (k ≤ 2 → RdIs wr b (some [])) ∧ wr.heap[c]? = some (.cells #[.pointer none, .pointer (some ⟨r, 0, none⟩), .pointer (some ⟨b, 0, none⟩)] 32 (0, 0)) ∧ Kp w wr none ∧ wb.heap.size ≤ wr.heap.size

set_option maxHeartbeats 2000000 in
set_option maxRecDepth 100000 in
theorem nothing_any (c : Int) (h0 : 0 ≤ c) (h255 : c < 256) (w : World) (he : Env w) : Calls Tryd.prog 9 #[.int .u8 c] w fun E w' => E = .returned (.bool true) ∧ Kp w w' none := by
  have HE := Lib.hid he
  clear he
  go_enter Tryd.func9, Tryd.ntmps9
  go_wp2_with fail
  refine (sanity_any _ HE.out).mono ?_
  rintro e w1 ⟨rfl, k⟩
  have K1 := Lib.hid k
  clear k
  go_wp2_with fail
  refine (new_any [] _).mono ?_
  rintro e w2 ⟨rfl, h2, k2⟩
  have hsz : (w1.alloc (.cells #[.string ⟨#[]⟩, .bool false] 53)).heap.size = w1.heap.size + 1 := by simp
  rw [hsz] at h2
  have R1 : Hid (RdIs (w2.alloc (.cells #[.pointer none, .pointer (some ⟨w1.heap.size, 0, none⟩), .pointer (some ⟨w1.heap.size + 1, 0, none⟩)] 32)) w1.heap.size (some [])) := by
    have h1 : RdIs (w1.alloc (.cells #[.string ⟨#[]⟩, .bool false] 53)) w1.heap.size (some []) := heap_alloc_new w1 _
    exact (h1.keep k2 (by simp)).keep ((Kp.refl _ none).alloc _) (by simp)
  have R2 : Hid (RdIs (w2.alloc (.cells #[.pointer none, .pointer (some ⟨w1.heap.size, 0, none⟩), .pointer (some ⟨w1.heap.size + 1, 0, none⟩)] 32)) (w1.heap.size + 1) (some [])) := h2.keep ((Kp.refl _ none).alloc _) (by simp)
  have C3 : Hid ((w2.alloc (.cells #[.pointer none, .pointer (some ⟨w1.heap.size, 0, none⟩), .pointer (some ⟨w1.heap.size + 1, 0, none⟩)] 32)).heap[w2.heap.size]? = some (.cells #[.pointer none, .pointer (some ⟨w1.heap.size, 0, none⟩), .pointer (some ⟨w1.heap.size + 1, 0, none⟩)] 32 (0, 0))) := heap_alloc_new w2 _
  have K2 := Lib.hid (((K1.out.alloc (.cells #[.string ⟨#[]⟩, .bool false] 53)).trans k2).alloc (.cells #[.pointer none, .pointer (some ⟨w1.heap.size, 0, none⟩), .pointer (some ⟨w1.heap.size + 1, 0, none⟩)] 32))
  have hz2 : w1.heap.size + 2 ≤ w2.heap.size := by have := k2.size; have := h2.lt; omega
  have hz1 : 6 ≤ w1.heap.size := by have := HE.out.big; have := K1.out.size; omega
  have HSZ1 := Lib.hid K1.out.size
  clear h2 k2 hsz
  go_wp2_with fail
  go_loopw [12] (fun i wr => NothRel w w w1.heap.size (w1.heap.size + 1) w2.heap.size i wr) (fun i _ => 3 - (intOf i).toNat)
  case atStart => exact ⟨0, by omega, rfl, fun _ => R1.out, fun _ => R2.out, C3.out, K2.out, K2.out.size⟩
  case round =>
    obtain ⟨k, hk, rfl, hr1, hr2, hc3, hK, hsz⟩ := hrel
    have HC := Lib.hid hc3
    have HK := Lib.hid hK
    have HSZ := Lib.hid hsz
    have c0 : wr.cell? ⟨w2.heap.size, 0, none⟩ = some (.pointer none) := by simp [World.cell?, hc3]
    have c1 : wr.cell? ⟨w2.heap.size, 1, none⟩ = some (.pointer (some ⟨w1.heap.size, 0, none⟩)) := by simp [World.cell?, hc3]
    have c2 : wr.cell? ⟨w2.heap.size, 2, none⟩ = some (.pointer (some ⟨w1.heap.size + 1, 0, none⟩)) := by simp [World.cell?, hc3]
    have HR1 := Lib.hid hr1
    have HR2 := Lib.hid hr2
    clear hc3 hK hsz hr1 hr2 R1 R2 C3 K2
    match k, hk with
    | 0, _ =>
      go_wp2_with (first | (go_at_call 32; refine (left_nil _).mono ?_; rintro e w' ⟨rfl, rfl⟩) | (go_at_call 34; refine (bad_nil _).mono ?_; rintro e w' ⟨rfl, rfl⟩) | (go_at_call 36; refine (decodes_nil_at _ (by omega) (by omega) _).mono ?_; rintro e w' ⟨rfl, rfl⟩))
      go_roundw
      case rel => exact ⟨1, by omega, rfl, fun _ => HR1.out (by omega), fun _ => HR2.out (by omega), HC.out, HK.out, HSZ.out⟩
      case measure => simp [intOf]
    | 1, _ =>
      have H1 := Lib.hid (HR1.out (by omega))
      go_wp2_with (first | (go_at_call 32; refine (left_any _ _ _ (by first | exact H2.out | exact H1.out)).mono ?_; rintro e w' ⟨rfl, rfl⟩) | (go_at_call 34; refine (bad_any _ _ _ (by first | exact H2.out | exact H1.out)).mono ?_; rintro e w' ⟨rfl, rfl⟩) | (go_at_call 36; refine (decodes_at _ (by omega) (by omega) _ _ _ (HE.out.kp0 HK.out) (by omega) (by simp) H1.out (undec_nil _)).mono ?_; rintro e w' ⟨rfl, h2, k2⟩; have H2 := Lib.hid h2; have K2 := Lib.hid k2; clear h2 k2))
      go_roundw
      case rel => exact ⟨2, by omega, rfl, fun h => by omega, fun _ => (HR2.out (by omega)).keep K2.out (by simp), (K2.out.block _ (lt_of_block HC.out) (by simp; omega)).trans HC.out, Kp.of_own HK.out K2.out (by have := HSZ1.out; omega), by have := K2.out.size; have := HSZ.out; omega⟩
      case measure => simp [intOf]
    | 2, _ =>
      have H1 := Lib.hid (HR2.out (by omega))
      go_wp2_with (first | (go_at_call 32; refine (left_any _ _ _ (by first | exact H2.out | exact H1.out)).mono ?_; rintro e w' ⟨rfl, rfl⟩) | (go_at_call 34; refine (bad_any _ _ _ (by first | exact H2.out | exact H1.out)).mono ?_; rintro e w' ⟨rfl, rfl⟩) | (go_at_call 36; refine (decodes_at _ (by omega) (by omega) _ _ _ (HE.out.kp0 HK.out) (by omega) (by simp) H1.out (undec_nil _)).mono ?_; rintro e w' ⟨rfl, h2, k2⟩; have H2 := Lib.hid h2; have K2 := Lib.hid k2; clear h2 k2))
      go_roundw
      case rel => exact ⟨3, by omega, rfl, fun h => by omega, fun h => by omega, (K2.out.block _ (lt_of_block HC.out) (by simp; omega)).trans HC.out, Kp.of_own HK.out K2.out (by have := HSZ1.out; omega), by have := K2.out.size; have := HSZ.out; omega⟩
      case measure => simp [intOf]
    | 3, _ =>
      go_wp2
      go_ret
      exact ⟨rfl, HK.out⟩

end Go.Proofs.YtfcbogoahangoaaDoor
