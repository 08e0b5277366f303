/- The law DrillInverts, run. Conditions: lists of numbers that a machine holds, a number below 65536. -/
import Derived.Test.YtljjbdbgedmadaaGreatDoorMy
import Derived.Test.YtljjbdbgedmadaaGreatDoorSn
namespace Go.Proofs.YtljjbdbgedmadaaGreatDoor
open Go.RowKit

theorem LiesRows.keep {w w' : World} {ao : Option Addr} {cap : Nat} {rows : List (List Int)} (h : LiesRows w ao cap rows) (k : Kp w w' none) : LiesRows w' ao cap rows := fun i hi => by
  obtain ⟨b, off, ra, rc, e, h1, h2, h3, h4, h5, h6⟩ := h i hi
  exact ⟨b, off, ra, rc, e, h1, Nat.lt_of_lt_of_le h2 k.size, (k.below.cell (p := ⟨b, off + i, none⟩) h2).trans h3, h4.keep k, h5, h6⟩
theorem fine_few {ts : List HT} (h : ∀ t ∈ ts, FineH t.h) : (∀ x ∈ ts.map (·.h), Dl.chkH x = 0) ∧ ∀ x ∈ ts.map (·.h), x.s.es.length ≤ 1000000 := by
  constructor <;> intro x hx <;> obtain ⟨t, ht, rfl⟩ := List.mem_map.1 hx
  · exact (h t ht).1
  · have := (h t ht).2.1; omega
theorem take_ext0 (t : List UInt8) (n : Nat) : (⟨t.toArray⟩ : ByteArray).extract 0 n = ⟨(t.take n).toArray⟩ := by
  apply ByteArray.ext; rw [ByteArray.data_extract]; simp
set_option maxHeartbeats 8000000 in
set_option maxRecDepth 100000 in
theorem inverts_any (rows : List (List Int)) (n : Nat) (hn : rows.length = n) (ao : Option Addr) (cap : Nat) (a0 : Nat) (h0 : a0 < 65536) (w : World) (he : Env w) (hl : LiesRows w ao cap rows) : Calls Tryz.prog 5 #[.slice ao n cap, .int .u16 (a0 : Int)] w fun E w' => E = .returned (.bool true) ∧ Kp w w' none := by
  have HEN : Hid (∀ V, Kp w V none → Env V) := Lib.hid fun V k => he.kp0 k
  have HSN := Lib.hid (sanity_any w he)
  have HMD : Hid (∀ V, Kp w V none → Calls Tryz.prog 12 #[.slice ao n cap] V (DrewHs V)) := Lib.hid fun V k => made12_any rows n hn ao cap V (hl.keep k)
  clear he hl hn
  go_enter Tryz.func5, Tryz.ntmps5
  go_wp2_with fail
  refine HSN.out.mono ?_
  rintro E w1 ⟨rfl, k1⟩
  have K1 := Lib.hid k1
  clear k1
  go_wp2_with fail
  refine (HMD.out _ K1.out).mono ?_
  rintro E w2 ⟨ts, bo, cb, hfine, h6, rfl, hh, _, _, k2⟩
  have K2 := Lib.hid (K1.out.trans k2)
  have HH := Lib.hid hh
  obtain ⟨hc1, hc2⟩ := fine_few hfine
  obtain ⟨q, hq⟩ : ∃ q, ts.length = q := ⟨_, rfl⟩
  obtain ⟨l, hll⟩ : ∃ l, ts.map (·.h) = l := ⟨_, rfl⟩
  have hlq : l.length = q := by rw [← hll, List.length_map, hq]
  have hw := Dl.write_few (l := l) (by rw [← hll]; exact hc1) (by omega)
  obtain ⟨T, hT⟩ : ∃ t, Dl.fileT l = t := ⟨_, rfl⟩
  rw [hT] at hw
  have HWR := Lib.hid (write_any ts q hq bo cb w2 (HEN.out _ K2.out) hh (by omega))
  rw [hll, hw.1] at HWR
  have hbk := Dl.back (l := l) (by rw [hw.1])
  rw [hw.1] at hbk
  dsimp only at hbk
  have HR1 : Hid (∀ V, Kp w V none → Calls Tryz.prog 16 #[str T] V fun E w' => (∃ ao cap us, E = .returned (.tuple #[.slice ao q cap, .int .i64 0, .int .i64 0]) ∧ us.map (·.h) = l ∧ HolesAt w' ao cap us) ∧ Kp V w' none) := Lib.hid fun V k => read_known hlq hbk V (HEN.out V k) (by omega)
  have hT0 : 0 < T.length := hw.2.1
  obtain ⟨m, hm⟩ : ∃ m : Nat, a0 % T.length = m := ⟨_, rfl⟩
  have hmT : m < T.length := by rw [← hm]; exact Nat.mod_lt _ hT0
  obtain ⟨n1, hn1, hct⟩ := Dl.cut (l := l) (by rw [hw.1]) (k := m) (by rw [hw.1]; exact hmT)
  rw [hw.1] at hct
  dsimp only at hct
  have HR2 : Hid (∀ V, Kp w V none → Calls Tryz.prog 16 #[str (T.take m)] V fun E w' => (∃ ao cap, E = .returned (.tuple #[.slice ao 0 cap, .int .i64 n1, .int .i64 4])) ∧ Kp V w' none) := Lib.hid fun V k => by
    have h := read_any (T.take m) V (HEN.out V k) (by rw [List.length_take]; omega)
    rw [hct] at h
    refine h.mono fun E w' hh => ?_
    obtain ⟨kk, ao, cap, us, hus, hE, _, _⟩ := hh
    have : us.length = 0 := by have := congrArg List.length hus; simpa using this
    exact ⟨⟨ao, cap, by rw [hE, this]⟩, kk⟩
  have HSH : Hid (∀ V bo cb (us : List HT) (co : Option Addr) cc (ts : List HT), us.map (·.h) = l → HolesAt V bo cb us → ts.map (·.h) = l → HolesAt V co cc ts → Calls Tryz.prog 17 #[.slice bo q cb, .slice co q cc] V fun E w' => E = .returned (.bool true) ∧ Kp V w' none) := Lib.hid fun V bo cb us co cc ts hu hub ht htb => by
    have hsm : ∀ x ∈ l, x.s.es.length ≤ 1000000 := by rw [← hll]; exact hc2
    have h := hsame_any us ts q q ((hol_len hu).trans hlq) ((hol_len ht).trans hlq) bo co cb cc V hub htb (hol_small hu hsm) (hol_small ht hsm) (by omega) (by omega)
    rw [hu, ht, decide_eq_true rfl] at h
    exact h
  have HTS := Lib.hid hll
  have hTB : T.length ≤ 262144 := hw.2.2
  have hmz : ((T.length : Int) == 0) = false := beq_eq_false_iff_ne.2 (by omega)
  have hmod : (a0 : Int).tmod (T.length : Int) = (m : Int) := by rw [Int.tmod_eq_emod_of_nonneg (by omega), ← hm]; simp
  have hext : (⟨T.toArray⟩ : ByteArray).extract 0 m = ⟨(T.take m).toArray⟩ := take_ext0 T m
  have hm0 : (0 : Int) ≤ (m : Int) := Int.natCast_nonneg _
  have hm1 : (m : Int) ≤ (T.length : Int) := by omega
  have ha0 : (0 : Int) ≤ (a0 : Int) := Int.natCast_nonneg _
  have ha1 : (a0 : Int) ≤ 65535 := by omega
  have HMZ := Lib.hid hmz
  have HMOD := Lib.hid hmod
  have HEXT := Lib.hid hext
  have HT0 := Lib.hid hT0
  have HM1 := Lib.hid hm1
  have HTB := Lib.hid hTB
  have HMT := Lib.hid hmT
  have HN1 := Lib.hid hn1
  rw [hq]
  clear hfine h6 hh k2 hc1 hc2 hq hw hT hbk hm hct hll hlq h0 hmz hmod hext hT0 hm1 hTB hmT hn1
  go_wp2_with fail
  refine HWR.out.mono ?_
  rintro E w3 ⟨rfl, k3⟩
  have K3 := Lib.hid (K2.out.trans k3)
  have HH3 := Lib.hid (HH.out.keep k3)
  clear k3 HH HWR
  have hmz := HMZ.out
  have hne : ¬ T = [] := fun e => by have := HT0.out; rw [e] at this; simp at this
  go_wp2_with fail
  refine (HR1.out _ K3.out).mono ?_
  rintro E w4 ⟨⟨co, cc, us, rfl, hus, hub⟩, k4⟩
  have K4 := Lib.hid (K3.out.trans k4)
  have HH4 := Lib.hid (HH3.out.keep k4)
  have HUS := Lib.hid hus
  have HUB := Lib.hid hub
  clear k4 hus hub HH3
  have hmod := HMOD.out
  have hext := HEXT.out
  have hm1 := HM1.out
  go_wp2_with fail
  refine (HR2.out _ K4.out).mono ?_
  rintro E w5 ⟨⟨eo, ec, rfl⟩, k5⟩
  have K5 := Lib.hid (K4.out.trans k5)
  have HH5 := Lib.hid (HH4.out.keep k5)
  have HUB5 := Lib.hid (HUB.out.keep k5)
  clear k5 hmod hext hm1 hmz hne
  have hn1 := HN1.out
  go_wp2_with fail
  refine (HSH.out _ _ _ _ _ _ _ HUS.out HUB5.out HTS.out HH5.out).mono ?_
  rintro E w6 ⟨rfl, k6⟩
  have K6 := Lib.hid (K5.out.trans k6)
  clear k6
  go_wp2_with fail
  go_ret
  exact ⟨rfl, K6.out⟩
end Go.Proofs.YtljjbdbgedmadaaGreatDoor
