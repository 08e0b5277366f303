/- The iterator of a shape's joints: what it yields, whatever the loop's body does, as long as it keeps what lay before. Condition: at most 2^16 edges; at least one. -/
import Derived.Test.YtljjbdbgedmadaaGreatDoorEn
import Derived.RangeFuncNested
import Derived.RangeFuncBound
import Derived.RangeFuncCalls
import Derived.RangeFuncLeaves
import Derived.Shelf.Abstract
import Derived.Shelf.RegionOpen
import Derived.OwnWalkIn
import Derived.TacticsInMore
import Derived.LoopNIn
import Derived.LoopIn
import Derived.Test.YtljjbdbgedmadaaGreatDoorCk
import Derived.Test.YtljjbdbgedmadaaGreatDoorPlA
namespace Go.Proofs.YtljjbdbgedmadaaGreatDoor
open Go.RowKit Go.Shelf
open Pl (pairs joints pairs_length pairs_take joints_open joints_closed)

def encP (x : Pl.Ed × Pl.Ed) : Array Value := #[.agg (edV x.1), .agg (edV x.2)]

attribute [local go_sem] Oper.semAt_some
set_option maxHeartbeats 8000000 in
set_option maxRecDepth 100000 in
theorem joints_iter (n : Nat) (hn : 1 ≤ n) (l : List Pl.Ed) (closed : Bool) (ao : Option Addr) (cap : Nat) (w : World) (Bl Bc : Nat) (hBl : w.cell? ⟨Bl, 0, none⟩ = some (.slice ao l.length cap)) (hBc : w.cell? ⟨Bc, 0, none⟩ = some (.bool closed)) (hl : LiesAt 7 edC w ao cap l) (h0 : 0 < l.length) (hlen : l.length ≤ 65536) :
    SeqStopsK Fence.wide n Tryz.prog 177 #[.pointer (some ⟨Bl, 0, none⟩), .pointer (some ⟨Bc, 0, none⟩)] encP (Below w.heap.size) (fun xs => xs = joints l closed) (fun pre => ∀ p ∈ pre, p ∈ joints l closed) (joints l closed).length w := by
  intro L J Jx W hW hJ hJx hY hj0
  refine callsIn_wide.2 ?_
  change Calls Tryz.prog 177 #[.func (.yield L) #[] #[], .pointer (some ⟨Bl, 0, none⟩), .pointer (some ⟨Bc, 0, none⟩)] W _
  have KW : ∀ V, Below w.heap.size W V → Kp w V none := fun V h => Kp.of_below (hW.trans h)
  have CB : Hid (∀ V, Below w.heap.size W V → V.cell? ⟨Bl, 0, none⟩ = some (.slice ao l.length cap) ∧ V.cell? ⟨Bc, 0, none⟩ = some (.bool closed)) := Lib.hid fun V h =>
    ⟨((KW V h).below.cell (p := ⟨Bl, 0, none⟩) (World.block_lt_of_cell? _ _ hBl)).trans hBl, ((KW V h).below.cell (p := ⟨Bc, 0, none⟩) (World.block_lt_of_cell? _ _ hBc)).trans hBc⟩
  have FL : Hid (∀ (k : Nat) (hk : k < l.length), ∃ b off, ao = some ⟨b, off, none⟩ ∧ l.length ≤ cap ∧ ∀ V, Below w.heap.size W V →
    V.cell? ⟨b, off + k * 7, none⟩ = some (.int .i64 l[k].k) ∧ V.cell? ⟨b, off + k * 7 + 1, none⟩ = some (.int .i64 l[k].a.x) ∧ V.cell? ⟨b, off + k * 7 + 2, none⟩ = some (.int .i64 l[k].a.y) ∧ V.cell? ⟨b, off + k * 7 + 3, none⟩ = some (.int .i64 l[k].b.x) ∧ V.cell? ⟨b, off + k * 7 + 4, none⟩ = some (.int .i64 l[k].b.y) ∧ V.cell? ⟨b, off + k * 7 + 5, none⟩ = some (.int .i64 l[k].c.x) ∧ V.cell? ⟨b, off + k * 7 + 6, none⟩ = some (.int .i64 l[k].c.y)) := Lib.hid fun k hk => by
    obtain ⟨b, off, e, hc, _, hr⟩ := hl.ed hk
    exact ⟨b, off, e, hc, fun V h => hr V (KW V h)⟩
  have HJ := Lib.hid hJ
  have HY := Lib.hid hY
  have HJ0 := Lib.hid hj0
  have HB0 : Hid (w.heap.size ≤ W.heap.size) := Lib.hid hW.size
  clear hl hBl hBc hJ hJx hY hj0 hW KW
  have hn0 : (0 : Int) ≤ (l.length : Int) := Int.natCast_nonneg _
  have hm : Tryz.prog.follows .mixedOrders = true := by kernel_rfl
  have HMEM : Hid (∀ p ∈ pairs l, p ∈ joints l closed) := Lib.hid fun p hp => by unfold joints; exact List.mem_append_left _ hp
  have HJL : Hid ((pairs l).length ≤ (joints l closed).length ∧ (joints l closed).take (pairs l).length = pairs l) := Lib.hid (by unfold joints; simp)
  go_enter Tryz.func177, Tryz.ntmps177
  refine (wpIn_wide (n := n)).1 ?_
  gi_wp2
  gi_loopw [4] (fun i wr => ∃ k : Nat, k + 1 ≤ l.length ∧ i = .int .i64 ((k : Int) + 1) ∧ J ((pairs l).take k) wr ∧ Below w.heap.size W wr) (fun i _ => l.length - (intOf i).toNat)
  case atStart => exact ⟨0, h0, rfl, HJ0.out, Below.refl _ _⟩
  case round =>
    obtain ⟨k, hk, rfl, hJk, hbw⟩ := hrel
    have HJK := Lib.hid hJk
    have HBW := Lib.hid hbw
    obtain ⟨c0, c1⟩ := CB.out wr hbw
    clear hJk
    have hk0 : (0 : Int) ≤ (k : Int) := Int.natCast_nonneg _
    by_cases hlt : k + 1 < l.length
    · have hk2 : (k : Int) + 1 < (l.length : Int) := by omega
      have hk3 : (k : Int) < (l.length : Int) := by omega
      have hw1 : wrap64 ((k : Int) + 1 + 1) = (k : Int) + 1 + 1 := by unfold wrap64; omega
      have hw2 : wrap64 ((k : Int) + 1 - 1) = (k : Int) := by unfold wrap64; omega
      have hw3 : wrap64 (k : Int) = (k : Int) := by unfold wrap64; omega
      have hw4 : IntKind.i64.wrap ((k : Int) + 1 - 1) = (k : Int) := by rw [IntKind.wrap_i64]; omega
      have hw5 : IntKind.i64.wrap (k : Int) = (k : Int) := by rw [IntKind.wrap_i64]; omega
      obtain ⟨b, off, rfl, hcap, hce⟩ := FL.out k (by omega)
      obtain ⟨b', off', hao, _, hce1⟩ := FL.out (k + 1) hlt
      injection hao with hao
      injection hao with e1 e2
      subst e1; subst e2
      have hd := hce wr hbw
      have he := hce1 wr hbw
      clear hce hce1 hbw
      have HPT := Lib.hid (pairs_take l k hlt)
      obtain ⟨y, hy⟩ : ∃ y, l[k] = y := ⟨_, rfl⟩
      obtain ⟨z, hz⟩ : ∃ z, l[k + 1] = z := ⟨_, rfl⟩
      rw [hy] at hd HPT
      rw [hz] at he HPT
      clear hy hz
      obtain ⟨d0, d1, d2, d3, d4, d5, d6⟩ := hd
      obtain ⟨e0, e1, e2, e3, e4, e5, e6⟩ := he
      have hJd : J ((pairs l).take k) wr.drew := HJ.out _ wr _ none HJK.out (Kp.refl wr none).drew (fun r e => by cases e)
      obtain ⟨fn, tmps, assign, body, hyd, hR⟩ := HY.out ((pairs l).take k) (y, z) wr.drew hJd (by rw [List.length_take]; have := HJL.out.1; have := pairs_length l; omega)
      dsimp only [encP, edV] at hyd
      have HRR : Hid (RoundIn Fence.wide (n - 1) Tryz.prog L fn tmps assign body wr.drew fun e W' => ∃ b : Bool, e = .returned (.bool b) ∧ ((b = true ∧ J ((pairs l).take (k + 1)) W' ∧ Below w.heap.size wr.drew W') ∨ (b = false ∧ Jx ((pairs l).take k ++ [(y, z)]) W'))) := Lib.hid (hR.mono (by
        rintro e W3 (⟨rfl, hJ3, hk3⟩ | ⟨rfl, hJx3⟩)
        · exact ⟨true, rfl, .inl ⟨rfl, by rw [HPT.out]; exact hJ3, hk3⟩⟩
        · exact ⟨false, rfl, .inr ⟨rfl, hJx3⟩⟩))
      clear hR hJd
      gi_wp2
      gi_region_with_o (refine HRR.out.mono ?_; rintro e W3 ⟨b, rfl, hb⟩)
      all_goals
        rcases hb with ⟨rfl, hJ3, hk3⟩ | ⟨rfl, hJx3⟩
        · have HREL : Hid (J ((pairs l).take (k + 1)) W3 ∧ Below w.heap.size W W3) := Lib.hid ⟨hJ3, (HBW.out.drew).trans hk3⟩
          clear hJ3 hk3
          gi_wp2
          go_roundw
          case rel => exact ⟨k + 1, by omega, by go_num, HREL.out.1, HREL.out.2⟩
          case measure => simp [intOf]; omega
        · gi_wp2
          refine bodyPost_ret (results_none rfl _ _ _) rfl ?_
          exact ⟨⟨_, rfl⟩, .inr ⟨_, fun p hp => HMEM.out p (List.mem_of_mem_take (HPT.out.symm ▸ hp)), hJx3⟩⟩
    · have hk2 : ¬ (k : Int) + 1 < (l.length : Int) := by omega
      have hkl : k + 1 = l.length := by omega
      have HJP : Hid (J (pairs l) wr) := Lib.hid (by have := HJK.out; rw [List.take_of_length_le (by rw [pairs_length]; omega)] at this; exact this)
      cases closed
      · gi_wp2
        go_end0
        have hj : J (joints l false) wr := by rw [joints_open]; exact HJP.out
        first
          | exact ⟨⟨_, rfl⟩, .inl hj⟩
          | exact ⟨⟨_, rfl⟩, .inl ⟨_, rfl, hj⟩⟩
          | exact .inl hj
      · have HJC := Lib.hid (joints_closed l h0)
        rw [HJC.out] at HY HJL
        have hw1 : wrap64 ((l.length : Int) - 1) = (k : Int) := by unfold wrap64; omega
        have hw4 : IntKind.i64.wrap ((l.length : Int) - 1) = (k : Int) := by rw [IntKind.wrap_i64]; omega
        have hk3 : (k : Int) < (l.length : Int) := by omega
        have hk4 : (0 : Int) < (l.length : Int) := by omega
        obtain ⟨b, off, rfl, hcap, hce⟩ := FL.out k (by omega)
        obtain ⟨b', off', hao, _, hce1⟩ := FL.out 0 h0
        injection hao with hao
        injection hao with e1 e2
        subst e1; subst e2
        have hd := hce wr hbw
        have he := hce1 wr hbw
        clear hce hce1 hbw
        obtain ⟨y, hy⟩ : ∃ y, l[k] = y := ⟨_, rfl⟩
        obtain ⟨z, hz⟩ : ∃ z, l[0] = z := ⟨_, rfl⟩
        have hy2 : l[l.length - 1] = y := by rw [← hy]; congr 1; omega
        rw [hy] at hd
        rw [hz] at he HY HJL HJC
        rw [hy2] at HY HJL HJC
        clear hy hz hy2
        simp only [Nat.zero_mul, Nat.add_zero] at he
        obtain ⟨d0, d1, d2, d3, d4, d5, d6⟩ := hd
        obtain ⟨e0, e1, e2, e3, e4, e5, e6⟩ := he
        have hJd : J (pairs l) wr.drew := HJ.out _ wr _ none HJP.out (Kp.refl wr none).drew (fun r e => by cases e)
        obtain ⟨fn, tmps, assign, body, hyd, hR⟩ := HY.out (pairs l) (y, z) wr.drew hJd (by simp)
        dsimp only [encP, edV] at hyd
        have HRR : Hid (RoundIn Fence.wide (n - 1) Tryz.prog L fn tmps assign body wr.drew fun e W' => ∃ b : Bool, e = .returned (.bool b) ∧ ((b = true ∧ J (pairs l ++ [(y, z)]) W' ∧ Below w.heap.size wr.drew W') ∨ (b = false ∧ Jx (pairs l ++ [(y, z)]) W'))) := Lib.hid (hR.mono (by
          rintro e W3 (⟨rfl, hJ3, hk3⟩ | ⟨rfl, hJx3⟩)
          · exact ⟨true, rfl, .inl ⟨rfl, hJ3, hk3⟩⟩
          · exact ⟨false, rfl, .inr ⟨rfl, hJx3⟩⟩))
        clear hR hJd
        gi_wp2
        gi_region_with_o (refine HRR.out.mono ?_; rintro e W3 ⟨b, rfl, hb⟩)
        all_goals
          gi_wp2
          go_end0
          rcases hb with ⟨rfl, hJ3, hk3⟩ | ⟨rfl, hJx3⟩
          · first
              | exact ⟨⟨_, rfl⟩, .inl (HJC.out.symm ▸ hJ3)⟩
              | exact ⟨⟨_, rfl⟩, .inl ⟨_, rfl, HJC.out.symm ▸ hJ3⟩⟩
              | exact .inl (HJC.out.symm ▸ hJ3)
          · first
              | exact ⟨⟨_, rfl⟩, .inr ⟨_, fun p hp => HJC.out.symm ▸ hp, hJx3⟩⟩
              | exact .inr ⟨_, fun p hp => HJC.out.symm ▸ hp, hJx3⟩

end Go.Proofs.YtljjbdbgedmadaaGreatDoor
