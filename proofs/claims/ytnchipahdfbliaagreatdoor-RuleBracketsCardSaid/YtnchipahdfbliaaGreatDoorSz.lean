/- The sizes of conditions, by the program. Condition: at most 10^12 of them. -/
import Derived.Test.YtnchipahdfbliaaGreatDoorRv
namespace Go.Proofs.YtnchipahdfbliaaGreatDoor
open Go.RowKit

theorem Tree.slice {w : World} {c : Ru.Cond} {v : Value} (h : Tree w c v) : ∃ ao n cap, v = .slice ao n cap := by
  obtain ⟨ps, _, hl, _⟩ := h.open
  obtain ⟨ao, cap, e, _⟩ := hl.form
  exact ⟨ao, _, cap, e⟩
theorem sizes_take {ps : List (Ru.Cond × Value)} {k : Nat} (hk : k < ps.length) : Ru.sizes ((ps.take (k + 1)).map (·.1)) = Ru.sizes ((ps.take k).map (·.1)) + Ru.size ps[k].1 := by
  rw [List.take_succ_eq_append_getElem hk, List.map_append, Ru.sizes_app]; simp [Ru.sizes]
theorem sizes_le_all {ps : List (Ru.Cond × Value)} (k : Nat) : Ru.sizes ((ps.take k).map (·.1)) ≤ Ru.sizes (ps.map (·.1)) := by
  have h := congrArg (fun x => Ru.sizes (x.map (·.1))) (List.take_append_drop k ps)
  simp only [List.map_append, Ru.sizes_app] at h
  omega
theorem sizes_len : ∀ (l : List Ru.Cond), l.length ≤ Ru.sizes l
  | [] => by simp
  | c :: l => by have := sizes_len l; have := Ru.size_pos c; rw [Ru.sizes, List.length_cons]; omega
def SizeIs (c : Ru.Cond) : Prop := ∀ (w : World) (v : Value), Tree w c v → Calls Tryz.prog 38 #[cA c v] w fun e w' => e = .returned (.int .i64 (Ru.size c)) ∧ Kp w w' none
set_option maxHeartbeats 4000000 in
set_option maxRecDepth 100000 in
theorem size_walk (op : Int) (t : List UInt8) (n x0 y0 x1 y1 : Int) (ps : List (Ru.Cond × Value)) (ao : Option Addr) (cap : Nat) (w : World) (hl : LiesAt 8 cC w ao cap ps) (ht : ∀ p ∈ ps, Tree w p.1 p.2) (hr : ∀ p ∈ ps, SizeIs p.1) (hm : Ru.sizes (ps.map (·.1)) + 1 ≤ 1000000000000) :
    Calls Tryz.prog 38 #[.agg #[.int .i64 op, str t, .int .i64 n, .int .i64 x0, .int .i64 y0, .int .i64 x1, .int .i64 y1, .slice ao ps.length cap]] w fun e w' => e = .returned (.int .i64 ((Ru.sizes (ps.map (·.1)) + 1 : Nat) : Int)) ∧ Kp w w' none := by
  obtain ⟨S, hS⟩ : ∃ S, Ru.sizes (ps.map (·.1)) + 1 = S := ⟨_, rfl⟩
  rw [hS] at hm ⊢
  have HL := Lib.hid hl
  have HT := Lib.hid ht
  have HR := Lib.hid hr
  have HS := Lib.hid hS
  have hlen : ps.length ≤ 1000000000000 := by have := sizes_len (ps.map (·.1)); simp at this; omega
  clear hl ht hr hS
  go_enter Tryz.func38, Tryz.ntmps38
  go_wp2_with fail
  have K1 : Hid (Kp w (w.alloc (.cells #[.int .i64 op, str t, .int .i64 n, .int .i64 x0, .int .i64 y0, .int .i64 x1, .int .i64 y1, .slice ao ps.length cap] 40)) none) := Lib.hid ((Kp.refl _ _).alloc _)
  go_loopw [3, 9] (fun m i wr => ∃ k : Nat, k ≤ ps.length ∧ i = .int .i64 k ∧ m = .int .i64 ((Ru.sizes ((ps.take k).map (·.1)) + 1 : Nat) : Int) ∧ Kp w wr none) (fun _ i _ => ps.length - (intOf i).toNat)
  case atStart => exact ⟨0, Nat.zero_le _, rfl, rfl, K1.out⟩
  case round =>
    obtain ⟨k, hk, rfl, rfl, hkp⟩ := hrel
    have HK := Lib.hid hkp
    clear hkp
    have hk0 : (0 : Int) ≤ (k : Int) := Int.natCast_nonneg _
    have hle := sizes_le_all (ps := ps) k
    obtain ⟨q, hq⟩ : ∃ q, Ru.sizes ((ps.take k).map (·.1)) + 1 = q := ⟨_, rfl⟩
    rw [hq]
    have hqb : q ≤ 1000000000000 := by have := HS.out; omega
    by_cases hlt : k < ps.length
    · obtain ⟨p, hp⟩ : ∃ p, ps[k] = p := ⟨_, rfl⟩
      have hmem : p ∈ ps := by rw [← hp]; exact List.getElem_mem hlt
      obtain ⟨b, off, hao, c0, c1, c2, c3, c4, c5, c6, c7⟩ := cond_cells (HL.out.keep HK.out) k hlt hp
      have hst := sizes_take hlt
      have hle2 := sizes_le_all (ps := ps) (k + 1)
      rw [hp] at hst
      have hsz := Ru.size_pos p.1
      obtain ⟨z, hz⟩ : ∃ z, Ru.size p.1 = z := ⟨_, rfl⟩
      have A : ∀ u, Kp w u none → Calls Tryz.prog 38 #[cA p.1 p.2] u fun e w' => e = .returned (.int .i64 (z : Int)) ∧ Kp u w' none := fun u hu => by rw [← hz]; exact HR.out p hmem u p.2 ((HT.out p hmem).keep hu)
      rw [hz] at hst hsz
      have hqz : q + z ≤ 1000000000000 := by have := HS.out; omega
      have HQ : Hid (Ru.sizes ((ps.take (k + 1)).map (·.1)) + 1 = q + z) := Lib.hid (by omega)
      have hk1 : (k : Int) < (ps.length : Int) := by omega
      have hv2 := (HT.out p hmem).slice
      subst hao
      clear hp hmem hst hle hle2 hq hz
      obtain ⟨⟨op', t', n', ⟨a0, b0, a1, b1⟩, l'⟩, v'⟩ := p
      unfold cA at A
      simp only [Ru.Cond.op, Ru.Cond.text, Ru.Cond.n, Ru.Cond.box] at *
      obtain ⟨ao2, m2, cap2, rfl⟩ := hv2
      have KA : Hid (Kp w (wr.alloc (.cells #[.int .i64 op', str t', .int .i64 n', .int .i64 a0, .int .i64 b0, .int .i64 a1, .int .i64 b1, .slice ao2 m2 cap2] 40)) none) := Lib.hid (HK.out.alloc _)
      go_wp2_with (go_at_call 38; refine (A _ KA.out).mono ?_; rintro e w1 ⟨rfl, k1⟩; have K2 := Lib.hid (KA.out.trans k1); clear k1)
      go_roundw
      case rel => exact ⟨k + 1, hlt, by go_num, by rw [HQ.out]; go_num, K2.out⟩
      case measure => simp [intOf]; omega
    · obtain rfl : k = ps.length := by omega
      have HE : Hid (q = S) := Lib.hid (by rw [← hq, ← HS.out, List.take_length])
      clear hle hq
      go_wp2_with fail
      go_ret
      exact ⟨by rw [HE.out]; rfl, HK.out⟩
theorem sizeIs (c : Ru.Cond) : Ru.size c ≤ 1000000000000 → SizeIs c := by
  refine Ru.Cond.ind (P := fun c => Ru.size c ≤ 1000000000000 → SizeIs c) (fun op t n b l ih hs w v ht => ?_) c
  obtain ⟨ps, hps, hl, hts⟩ := ht.open
  have hps : l = ps.map (·.1) := hps
  subst hps
  rw [Ru.size_mk] at hs ⊢
  obtain ⟨ao, cap, rfl, hx⟩ := hl.form
  exact size_walk op t n b.x0 b.y0 b.x1 b.y1 ps ao cap w hx hts (fun p hp => ih p.1 (List.mem_map_of_mem hp) (by have := Ru.size_le (List.mem_map_of_mem (f := (·.1)) hp); omega)) hs
end Go.Proofs.YtnchipahdfbliaaGreatDoor
