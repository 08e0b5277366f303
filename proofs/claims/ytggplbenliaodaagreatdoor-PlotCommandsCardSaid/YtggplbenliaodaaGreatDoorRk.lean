/- The reference's test of a shape. Condition: at most 10^6 edges. -/
import Derived.Test.YtggplbenliaodaaGreatDoorRc
import Derived.Test.YtggplbenliaodaaGreatDoorPlA
namespace Go.Proofs.YtggplbenliaodaaGreatDoor
open Go.RowKit

theorem ret_bool {a b : Bool} (h : a = b) : Ending.returned (.bool a) = .returned (.bool b) := by rw [h]
set_option maxHeartbeats 4000000 in
set_option maxRecDepth 100000 in
theorem rchain_any (es : List Pl.Ed) (n : Nat) (hn : es.length = n) (ao : Option Addr) (cap : Nat) (w : World) (hes : LiesAt 7 edC w ao cap es) (hl : n ≤ 1000000) :
    Calls Tryz.prog 60 #[.slice ao n cap] w fun E w' => E = .returned (.bool (Pl.chain es)) ∧ Kp w w' none := by
  have FE := Lib.hid hes
  have HN := Lib.hid hn
  obtain ⟨fin, hfin⟩ : ∃ f, Pl.chain es = f := ⟨_, rfl⟩
  have HFIN := Lib.hid hfin
  rw [hfin]
  clear hes hn hfin
  have hn0 : (0 : Int) ≤ (n : Int) := Int.natCast_nonneg _
  go_enter Tryz.func60, Tryz.ntmps60
  go_wp2_with fail
  go_loopw [3] (fun i wr => ∃ k : Nat, (k + 1 ≤ n ∨ k = 0) ∧ i = .int .i64 ((k : Int) + 1) ∧ Pl.chain es = Pl.chain (es.drop k) ∧ Kp w wr none) (fun i _ => n - (intOf i).toNat)
  case atStart => exact ⟨0, .inr rfl, rfl, rfl, Kp.refl _ _⟩
  case round =>
    obtain ⟨k, hk, rfl, hch, hK⟩ := hrel
    have HC := Lib.hid hch
    have HK := Lib.hid hK
    clear hch hK
    have hk0 : (0 : Int) ≤ (k : Int) := Int.natCast_nonneg _
    by_cases hlt : k + 1 < n
    · have hk2 : (k : Int) + 1 < (n : Int) := by omega
      have hk3 : (k : Int) < (n : Int) := by omega
      have hk9 : (0 : Int) ≤ (k : Int) + 1 := by omega
      obtain ⟨b, off, rfl, hcap, hb, hce⟩ := FE.out.ed (k := k) (by have := HN.out; omega)
      obtain ⟨b', off', hao, _, _, hce1⟩ := FE.out.ed (k := k + 1) (by have := HN.out; omega)
      injection hao with hao
      injection hao with e1 e2
      subst e1; subst e2
      have hcap2 : n ≤ cap := by have := HN.out; omega
      have hw2 : wrap64 ((k : Int) + 1 - 1) = (k : Int) := by unfold wrap64; omega
      have hw3 : wrap64 (k : Int) = (k : Int) := by unfold wrap64; omega
      have hw4 : IntKind.i64.wrap ((k : Int) + 1 - 1) = (k : Int) := by rw [IntKind.wrap_i64]; omega
      have hw5 : IntKind.i64.wrap (k : Int) = (k : Int) := by rw [IntKind.wrap_i64]; omega
      have HW1 : Hid (wrap64 ((k : Int) + 1 + 1) = (k : Int) + 1 + 1) := Lib.hid (by unfold wrap64; omega)
      have hd := hce wr HK.out
      have he := hce1 wr HK.out
      have HST : Hid (Pl.chain (es.drop k) = (decide ((es[k]'(by have := HN.out; omega)).b = (es[k + 1]'(by have := HN.out; omega)).a) && Pl.chain (es.drop (k + 1)))) := Lib.hid (Pl.chain_drop es k (by have := HN.out; omega))
      obtain ⟨y, hy⟩ : ∃ y, es[k]'(by have := HN.out; omega) = y := ⟨_, rfl⟩
      obtain ⟨z, hz⟩ : ∃ z, es[k + 1]'(by have := HN.out; omega) = z := ⟨_, rfl⟩
      rw [hy] at hd HST
      rw [hz] at he HST
      clear hy hz hcap hce hce1
      obtain ⟨yk, ya, ⟨ybx, yby⟩, yc⟩ := y
      obtain ⟨zk, ⟨zax, zay⟩, zb, zc⟩ := z
      dsimp only at hd he HST
      obtain ⟨_, _, _, d3, d4, _, _⟩ := hd
      obtain ⟨_, z1, z2, _, _, _, _⟩ := he
      by_cases t1 : ybx = zax
      · by_cases t2 : yby = zay
        · have HR : Hid (Pl.chain es = Pl.chain (es.drop (k + 1))) := Lib.hid (by rw [HC.out, HST.out, t1, t2]; simp)
          have q1 : (zax == ybx) = true := by simp [t1]
          have q2 : (zay == yby) = true := by simp [t2]
          clear t1 t2 hk HST HC
          go_wp2_with fail
          go_quiet (fail)
          have KQ := Lib.hid (HK.out.drewN nq)
          clear hw2 hw3 hw4 hw5
          have hw1 := HW1.out
          go_wp2_with fail
          first | exact ⟨⟨k + 1, .inl hlt, by go_num, HR.out, KQ.out⟩, by simp [intOf]; omega⟩ | (go_roundw; all_goals first | exact ⟨k + 1, .inl hlt, by go_num, HR.out, KQ.out⟩ | (simp [intOf]; omega))
        · have HR : Hid (fin = false) := Lib.hid (by rw [← HFIN.out, HC.out, HST.out, t1]; simp [t2])
          have q1 : (zax == ybx) = true := by simp [t1]
          have q2 : (zay == yby) = false := by simpa using fun h => t2 h.symm
          clear t1 t2 hk HST HC
          go_wp2_with fail
          go_quiet (fail)
          have KQ := Lib.hid (HK.out.drewN nq)
          go_wp2_with fail
          go_ret
          exact ⟨ret_bool HR.out.symm, KQ.out⟩
      · have HR : Hid (fin = false) := Lib.hid (by rw [← HFIN.out, HC.out, HST.out]; simp [t1])
        have q1 : (zax == ybx) = false := by simpa using fun h => t1 h.symm
        clear t1 hk HST HC
        go_wp2_with fail
        go_quiet (fail)
        have KQ := Lib.hid (HK.out.drewN nq)
        go_wp2_with fail
        go_ret
        exact ⟨ret_bool HR.out.symm, KQ.out⟩
    · have hk2 : ¬ (k : Int) + 1 < (n : Int) := by omega
      have HR : Hid (fin = true) := Lib.hid (by rw [← HFIN.out, HC.out, Pl.chain_end es k (by have := HN.out; omega)])
      go_wp2_with fail
      go_ret
      exact ⟨ret_bool HR.out.symm, HK.out⟩

end Go.Proofs.YtggplbenliaodaaGreatDoor
