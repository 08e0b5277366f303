/- The reference's buses: ends. Conditions: strings of at most 2^47 bytes. -/
import Derived.Test.YtnchipahdfbliaaGreatDoorRna
namespace Go.Proofs.YtnchipahdfbliaaGreatDoor
open Go.RowKit

/-- What a bus is, by the reference. -/
def busI (s : List UInt8) : Option (List UInt8 × Int × Int) := match Wr.cut1 91 s with
 | none => none
 | some (name, rest) => match rest.getLast? with
  | some 93 => if Ru.nameR name then (Ru.endsI rest.dropLast).map fun p => (name, p.1, p.2) else none
  | _ => none
theorem bus_ref (s : List UInt8) : Ru.bus s = busI s := by
 unfold Ru.bus busI
 simp only [Ru.ends_ref]
 rfl
def EndsOut (o : Option (List UInt8 × Int × Int)) (e : Ending) : Prop := match o with
 | some (nm, a, b) => e = .returned (.tuple #[str nm, .int .i64 a, .int .i64 b, .bool true])
 | none => e = .returned (.tuple #[.string ⟨#[]⟩, .int .i64 0, .int .i64 0, .bool false])
theorem byte_last {s : List UInt8} {c : UInt8} (h : s.getLast? = some c) : ∀ h', (⟨s.toArray⟩ : ByteArray)[s.length - 1]'h' = c := fun h' => by
 rw [List.getLast?_eq_getElem?] at h
 have h2 := (List.getElem?_eq_some_iff.1 h)
 exact (show s.toArray[s.length - 1]'_ = s[s.length - 1]'h2.1 by simp).trans h2.2
theorem last_app (a : List UInt8) (c : UInt8) (r : List UInt8) : (a ++ c :: r).getLast? = some (r.getLast?.getD c) := by
 rw [List.getLast?_append, List.getLast?_cons]; rfl

theorem results_tmp4 {fn : Func} {t u v x : Tmp} (h : fn.results = #[.tmp t, .tmp u, .tmp v, .tmp x]) (tmps : Array Value) (P : Program) (w : World) :
  (results fn tmps).run P w = .ok (.tuple #[tmps.getD t undef, tmps.getD u undef, tmps.getD v undef, tmps.getD x undef]) w := by
 simp [results, h]
theorem getLast_drop {m : List UInt8} {z : UInt8} : (m ++ [z]).getLast? = some z := by simp

set_option maxHeartbeats 4000000 in
set_option maxRecDepth 100000 in
theorem ends12_any (s : List UInt8) (hs : s.length ≤ 140737488355328) (w : World) : Calls Tryz.prog 151 #[str s] w fun e w' => EndsOut (busI s) e ∧ w' = w := by
 have c1 := find_any s 91 hs w
 have hl0 : (0 : Int) ≤ (s.length : Int) := by omega
 cases hc : Wr.cut1 91 s with
 | none =>
  have HO : Hid (busI s = none) := Lib.hid (by unfold busI; rw [hc])
  have e0 : findI 91 s = -1 := by unfold findI; rw [hc]
  rw [e0] at c1
  clear hc e0
  go_enter Tryz.func151, Tryz.ntmps151
  go_wp2_with (first | (go_at_call 158; first | (refine c1.mono ?_; rintro e w1 ⟨rfl, rfl⟩; clear c1) | (refine c3.mono ?_; rintro e w1 ⟨rfl, rfl⟩; clear c3)) | (go_at_call 63; refine c2.mono ?_; rintro e w1 ⟨rfl, rfl⟩; clear c2) | (go_at_call 159; first | (refine c4.mono ?_; rintro e w1 ⟨rfl, rfl⟩; clear c4) | (refine c5.mono ?_; rintro e w1 ⟨rfl, rfl⟩; clear c5) | (refine c6.mono ?_; rintro e w1 ⟨rfl, rfl⟩; clear c6)))
  try simp only [Exit.inBlock, Exit.then]
  refine bodyPost_ret (results_tmp4 rfl _ _ _) rfl ?_
  exact ⟨by rw [HO.out]; rfl, rfl⟩
 | some p =>
  obtain ⟨name, rest⟩ := p
  obtain ⟨hse, hnn⟩ := Wr.cut1_some hc
  have e0 : findI 91 s = (name.length : Int) := by unfold findI; rw [hc]
  rw [e0] at c1
  have hlen : s.length = name.length + (rest.length + 1) := by rw [hse, List.length_append, List.length_cons]
  have hneg : ¬ (name.length : Int) < 0 := by omega
  obtain ⟨z, hzz⟩ : ∃ z, rest.getLast?.getD 91 = z := ⟨_, rfl⟩
  have hz : s.getLast? = some z := by rw [hse, last_app, hzz]
  have hx := byte_last hz
  by_cases h93 : z.toNat = 93
  ·have hz93 : z = 93 := UInt8.toNat_inj.1 h93
   have e93 : ((z.toNat : Int) != 93) = false := by rw [h93]; rfl
   have hrl : rest.getLast? = some 93 := by
    cases h : rest.getLast? with
    | none => rw [h] at hzz; rw [← hzz] at hz93; exact absurd hz93 (by decide)
    | some y => rw [h] at hzz; rw [← hz93, ← hzz]; rfl
   obtain ⟨m, hm⟩ := List.getLast?_eq_some_iff.1 hrl
   have hdl : rest.dropLast = m := by rw [hm]; simp
   have hml : s.length = name.length + (m.length + 2) := by rw [hlen, hm, List.length_append]; rfl
   have hB0 : busI s = if Ru.nameR name then (Ru.endsI m).map fun p => (name, p.1, p.2) else none := by
    unfold busI; rw [hc]; dsimp only; rw [hrl]; rw [hdl]; rfl
   have hx1 : (⟨s.toArray⟩ : ByteArray).extract 0 name.length = ⟨name.toArray⟩ := by
    rw [ext_take, hse]; simp
   have hx2 : (⟨s.toArray⟩ : ByteArray).extract (name.length + 1) (s.length - 1) = ⟨m.toArray⟩ := by
    rw [ext_mid, hml, show name.length + (m.length + 2) - 1 = name.length + (m.length + 1) by omega, hse, hm]
    congr 2
    simp [List.take_append, List.drop_append, List.take_of_length_le]
   have c2 := right12_any name (by omega) w
   have c3 := find_any m 46 (by omega) w
   have c4 := index12_any m (by omega) w
   have HB0 := Lib.hid hB0
   have HSE := Lib.hid hse
   have hn0 : (name.length : Int) + 1 ≤ (s.length : Int) - 1 := by omega
   have hn1 : (1 : Int) ≤ (s.length : Int) := by omega
   have hn2 : name.length + 1 ≤ s.length - 1 := by omega
   have hn3 : 1 ≤ s.length := by omega
   have hmb : m.length ≤ 140737488355328 := by omega
   clear hB0 hrl hdl hm hz hz93 hc hnn hse h93 e0 hzz hlen hml
   cases hn : Ru.nameR name with
   | false =>
    rw [hn] at c2
    have HO : Hid (busI s = none) := Lib.hid (by rw [HB0.out, hn]; rfl)
    clear hn
    go_enter Tryz.func151, Tryz.ntmps151
    go_wp2_with (first | (go_at_call 158; first | (refine c1.mono ?_; rintro e w1 ⟨rfl, rfl⟩; clear c1) | (refine c3.mono ?_; rintro e w1 ⟨rfl, rfl⟩; clear c3)) | (go_at_call 63; refine c2.mono ?_; rintro e w1 ⟨rfl, rfl⟩; clear c2) | (go_at_call 159; first | (refine c4.mono ?_; rintro e w1 ⟨rfl, rfl⟩; clear c4) | (refine c5.mono ?_; rintro e w1 ⟨rfl, rfl⟩; clear c5) | (refine c6.mono ?_; rintro e w1 ⟨rfl, rfl⟩; clear c6)))
    try simp only [Exit.inBlock, Exit.then]
    refine bodyPost_ret (results_tmp4 rfl _ _ _) rfl ?_
    exact ⟨by rw [HO.out]; rfl, rfl⟩
   | true =>
    rw [hn] at c2
    have HB1 : Hid (busI s = (Ru.endsI m).map fun p => (name, p.1, p.2)) := Lib.hid (by rw [HB0.out, hn]; rfl)
    clear hn HB0
    obtain ⟨g, hg⟩ : ∃ g, Ru.idxR m = g := ⟨_, rfl⟩
    have hgb := Ru.idxR_bound m
    rw [hg] at c4 hgb
    cases hd : Wr.cut1 46 m with
    | none =>
     have e2 : findI 46 m = -1 := by unfold findI; rw [hd]
     rw [e2] at c3
     obtain ⟨a, ha⟩ : ∃ a, g = a := ⟨_, rfl⟩
     subst ha
     obtain ⟨b, hb⟩ : ∃ b, g = b := ⟨_, rfl⟩
     have HB : Hid (busI s = (Ru.pairR g g).map fun p => (name, p.1, p.2)) := Lib.hid (by rw [HB1.out]; unfold Ru.endsI; rw [hd]; dsimp only; rw [hg])
     clear hd e2 HB1 hg hb
     by_cases q0 : g < 0
     ·have HO : Hid (busI s = none) := Lib.hid (by rw [HB.out]; unfold Ru.pairR; rw [if_pos (by omega)]; rfl)
      go_enter Tryz.func151, Tryz.ntmps151
      go_wp2_with (first | (go_at_call 158; first | (refine c1.mono ?_; rintro e w1 ⟨rfl, rfl⟩; clear c1) | (refine c3.mono ?_; rintro e w1 ⟨rfl, rfl⟩; clear c3)) | (go_at_call 63; refine c2.mono ?_; rintro e w1 ⟨rfl, rfl⟩; clear c2) | (go_at_call 159; first | (refine c4.mono ?_; rintro e w1 ⟨rfl, rfl⟩; clear c4) | (refine c5.mono ?_; rintro e w1 ⟨rfl, rfl⟩; clear c5) | (refine c6.mono ?_; rintro e w1 ⟨rfl, rfl⟩; clear c6)))
      try simp only [Exit.inBlock, Exit.then]
      refine bodyPost_ret (results_tmp4 rfl _ _ _) rfl ?_
      exact ⟨by rw [HO.out]; rfl, rfl⟩
     ·have HO : Hid (busI s = some (name, g, g)) := Lib.hid (by rw [HB.out]; unfold Ru.pairR; rw [if_neg (by omega)]; rfl)
      have hgg : g - g = 0 := by omega
      go_enter Tryz.func151, Tryz.ntmps151
      go_wp2_with (first | (go_at_call 158; first | (refine c1.mono ?_; rintro e w1 ⟨rfl, rfl⟩; clear c1) | (refine c3.mono ?_; rintro e w1 ⟨rfl, rfl⟩; clear c3)) | (go_at_call 63; refine c2.mono ?_; rintro e w1 ⟨rfl, rfl⟩; clear c2) | (go_at_call 159; first | (refine c4.mono ?_; rintro e w1 ⟨rfl, rfl⟩; clear c4) | (refine c5.mono ?_; rintro e w1 ⟨rfl, rfl⟩; clear c5) | (refine c6.mono ?_; rintro e w1 ⟨rfl, rfl⟩; clear c6)))
      try simp only [Exit.inBlock, Exit.then]
      refine bodyPost_ret (results_tmp4 rfl _ _ _) rfl ?_
      exact ⟨by rw [HO.out]; rfl, rfl⟩
    | some p2 =>
     obtain ⟨f, t⟩ := p2
     obtain ⟨hme, hfn⟩ := Wr.cut1_some hd
     have e2 : findI 46 m = (f.length : Int) := by unfold findI; rw [hd]
     rw [e2] at c3
     have hfl : m.length = f.length + (t.length + 1) := by rw [hme, List.length_append, List.length_cons]
     have hf0 : (0 : Int) ≤ (f.length : Int) := by omega
     have HB2 : Hid (busI s = (if t.head? = some 46 then Ru.pairR (Ru.idxR f) (Ru.idxR t.tail) else none).map fun p => (name, p.1, p.2)) := Lib.hid (by rw [HB1.out]; unfold Ru.endsI; rw [hd])
     have hfm : f.length ≤ m.length := by omega
     clear hd e2 HB1 hg hfn
     cases t with
     | nil =>
      have HO : Hid (busI s = none) := Lib.hid (by rw [HB2.out]; rfl)
      have e3 : (m.length : Int) ≤ (f.length : Int) + 1 := by simp at hfl; omega
      clear hme hfl
      go_enter Tryz.func151, Tryz.ntmps151
      go_wp2_with (first | (go_at_call 158; first | (refine c1.mono ?_; rintro e w1 ⟨rfl, rfl⟩; clear c1) | (refine c3.mono ?_; rintro e w1 ⟨rfl, rfl⟩; clear c3)) | (go_at_call 63; refine c2.mono ?_; rintro e w1 ⟨rfl, rfl⟩; clear c2) | (go_at_call 159; first | (refine c4.mono ?_; rintro e w1 ⟨rfl, rfl⟩; clear c4) | (refine c5.mono ?_; rintro e w1 ⟨rfl, rfl⟩; clear c5) | (refine c6.mono ?_; rintro e w1 ⟨rfl, rfl⟩; clear c6)))
      try simp only [Exit.inBlock, Exit.then]
      refine bodyPost_ret (results_tmp4 rfl _ _ _) rfl ?_
      exact ⟨by rw [HO.out]; rfl, rfl⟩
     | cons y t =>
      have e3 : ¬ (m.length : Int) ≤ (f.length : Int) + 1 := by simp at hfl; omega
      have hlt1 : f.length + 1 < m.length := by simp at hfl; omega
      have hy : ∀ h', (⟨m.toArray⟩ : ByteArray)[f.length + 1]'h' = y := fun h' => (show m.toArray[f.length + 1]'_ = m[f.length + 1]'hlt1 by simp).trans (by
       have h1 : m[f.length + 1]? = some y := by rw [hme]; simp
       exact (List.getElem?_eq_some_iff.1 h1).2)
      by_cases h46 : y.toNat = 46
      ·have hy46 : y = 46 := UInt8.toNat_inj.1 h46
       have e46 : ((y.toNat : Int) != 46) = false := by rw [h46]; rfl
       have hx3 : (⟨m.toArray⟩ : ByteArray).extract 0 f.length = ⟨f.toArray⟩ := by rw [ext_take, hme]; simp
       have hx4 : (⟨m.toArray⟩ : ByteArray).extract (f.length + 2) m.length = ⟨t.toArray⟩ := by
        rw [ext_drop, hme]; congr 2; simp
       have hfl2 : f.length ≤ m.length := by omega
       have hfl3 : f.length + 2 ≤ m.length := by simp at hfl; omega
       have htl : t.length ≤ m.length := by simp at hfl; omega
       have c5 := index12_any f (by omega) w
       have c6 := index12_any t (by omega) w
       obtain ⟨a, ha⟩ : ∃ a, Ru.idxR f = a := ⟨_, rfl⟩
       obtain ⟨b, hb⟩ : ∃ b, Ru.idxR t = b := ⟨_, rfl⟩
       have hab := Ru.idxR_bound f
       have hbb := Ru.idxR_bound t
       have HB : Hid (busI s = (Ru.pairR a b).map fun p => (name, p.1, p.2)) := Lib.hid (by rw [HB2.out, if_pos (by rw [hy46]; rfl), ha]; show (Ru.pairR a (Ru.idxR t)).map _ = _; rw [hb])
       rw [ha] at c5 hab
       rw [hb] at c6 hbb
       clear HB2 ha hb hy46 h46 hme hfl
       by_cases q0 : a < 0
       ·have HO : Hid (busI s = none) := Lib.hid (by rw [HB.out]; unfold Ru.pairR; rw [if_pos (by omega)]; rfl)
        go_enter Tryz.func151, Tryz.ntmps151
        go_wp2_with (first | (go_at_call 158; first | (refine c1.mono ?_; rintro e w1 ⟨rfl, rfl⟩; clear c1) | (refine c3.mono ?_; rintro e w1 ⟨rfl, rfl⟩; clear c3)) | (go_at_call 63; refine c2.mono ?_; rintro e w1 ⟨rfl, rfl⟩; clear c2) | (go_at_call 159; first | (refine c4.mono ?_; rintro e w1 ⟨rfl, rfl⟩; clear c4) | (refine c5.mono ?_; rintro e w1 ⟨rfl, rfl⟩; clear c5) | (refine c6.mono ?_; rintro e w1 ⟨rfl, rfl⟩; clear c6)))
        try simp only [Exit.inBlock, Exit.then]
        refine bodyPost_ret (results_tmp4 rfl _ _ _) rfl ?_
        exact ⟨by rw [HO.out]; rfl, rfl⟩
       ·skip
        by_cases q1 : b < 0
        ·have HO : Hid (busI s = none) := Lib.hid (by rw [HB.out]; unfold Ru.pairR; rw [if_pos (by omega)]; rfl)
         go_enter Tryz.func151, Tryz.ntmps151
         go_wp2_with (first | (go_at_call 158; first | (refine c1.mono ?_; rintro e w1 ⟨rfl, rfl⟩; clear c1) | (refine c3.mono ?_; rintro e w1 ⟨rfl, rfl⟩; clear c3)) | (go_at_call 63; refine c2.mono ?_; rintro e w1 ⟨rfl, rfl⟩; clear c2) | (go_at_call 159; first | (refine c4.mono ?_; rintro e w1 ⟨rfl, rfl⟩; clear c4) | (refine c5.mono ?_; rintro e w1 ⟨rfl, rfl⟩; clear c5) | (refine c6.mono ?_; rintro e w1 ⟨rfl, rfl⟩; clear c6)))
         try simp only [Exit.inBlock, Exit.then]
         refine bodyPost_ret (results_tmp4 rfl _ _ _) rfl ?_
         exact ⟨by rw [HO.out]; rfl, rfl⟩
        ·skip
         by_cases q2 : 15 < a - b
         ·have HO : Hid (busI s = none) := Lib.hid (by rw [HB.out]; unfold Ru.pairR; rw [if_pos (by omega)]; rfl)
          go_enter Tryz.func151, Tryz.ntmps151
          go_wp2_with (first | (go_at_call 158; first | (refine c1.mono ?_; rintro e w1 ⟨rfl, rfl⟩; clear c1) | (refine c3.mono ?_; rintro e w1 ⟨rfl, rfl⟩; clear c3)) | (go_at_call 63; refine c2.mono ?_; rintro e w1 ⟨rfl, rfl⟩; clear c2) | (go_at_call 159; first | (refine c4.mono ?_; rintro e w1 ⟨rfl, rfl⟩; clear c4) | (refine c5.mono ?_; rintro e w1 ⟨rfl, rfl⟩; clear c5) | (refine c6.mono ?_; rintro e w1 ⟨rfl, rfl⟩; clear c6)))
          try simp only [Exit.inBlock, Exit.then]
          refine bodyPost_ret (results_tmp4 rfl _ _ _) rfl ?_
          exact ⟨by rw [HO.out]; rfl, rfl⟩
         ·skip
          by_cases q3 : 15 < b - a
          ·have HO : Hid (busI s = none) := Lib.hid (by rw [HB.out]; unfold Ru.pairR; rw [if_pos (by omega)]; rfl)
           go_enter Tryz.func151, Tryz.ntmps151
           go_wp2_with (first | (go_at_call 158; first | (refine c1.mono ?_; rintro e w1 ⟨rfl, rfl⟩; clear c1) | (refine c3.mono ?_; rintro e w1 ⟨rfl, rfl⟩; clear c3)) | (go_at_call 63; refine c2.mono ?_; rintro e w1 ⟨rfl, rfl⟩; clear c2) | (go_at_call 159; first | (refine c4.mono ?_; rintro e w1 ⟨rfl, rfl⟩; clear c4) | (refine c5.mono ?_; rintro e w1 ⟨rfl, rfl⟩; clear c5) | (refine c6.mono ?_; rintro e w1 ⟨rfl, rfl⟩; clear c6)))
           try simp only [Exit.inBlock, Exit.then]
           refine bodyPost_ret (results_tmp4 rfl _ _ _) rfl ?_
           exact ⟨by rw [HO.out]; rfl, rfl⟩
          ·skip
           have HO : Hid (busI s = some (name, a, b)) := Lib.hid (by rw [HB.out]; unfold Ru.pairR; rw [if_neg (by omega)]; rfl)
           go_enter Tryz.func151, Tryz.ntmps151
           go_wp2_with (first | (go_at_call 158; first | (refine c1.mono ?_; rintro e w1 ⟨rfl, rfl⟩; clear c1) | (refine c3.mono ?_; rintro e w1 ⟨rfl, rfl⟩; clear c3)) | (go_at_call 63; refine c2.mono ?_; rintro e w1 ⟨rfl, rfl⟩; clear c2) | (go_at_call 159; first | (refine c4.mono ?_; rintro e w1 ⟨rfl, rfl⟩; clear c4) | (refine c5.mono ?_; rintro e w1 ⟨rfl, rfl⟩; clear c5) | (refine c6.mono ?_; rintro e w1 ⟨rfl, rfl⟩; clear c6)))
           try simp only [Exit.inBlock, Exit.then]
           refine bodyPost_ret (results_tmp4 rfl _ _ _) rfl ?_
           exact ⟨by rw [HO.out]; rfl, rfl⟩
      ·have e46 : ((y.toNat : Int) != 46) = true := by simp; omega
       have HO : Hid (busI s = none) := Lib.hid (by rw [HB2.out, if_neg (by intro h; simp at h; exact h46 (by rw [h]; rfl))]; rfl)
       clear h46 hme HB2 hfl
       go_enter Tryz.func151, Tryz.ntmps151
       go_wp2_with (first | (go_at_call 158; first | (refine c1.mono ?_; rintro e w1 ⟨rfl, rfl⟩; clear c1) | (refine c3.mono ?_; rintro e w1 ⟨rfl, rfl⟩; clear c3)) | (go_at_call 63; refine c2.mono ?_; rintro e w1 ⟨rfl, rfl⟩; clear c2) | (go_at_call 159; first | (refine c4.mono ?_; rintro e w1 ⟨rfl, rfl⟩; clear c4) | (refine c5.mono ?_; rintro e w1 ⟨rfl, rfl⟩; clear c5) | (refine c6.mono ?_; rintro e w1 ⟨rfl, rfl⟩; clear c6)))
       try simp only [Exit.inBlock, Exit.then]
       refine bodyPost_ret (results_tmp4 rfl _ _ _) rfl ?_
       exact ⟨by rw [HO.out]; rfl, rfl⟩
  ·have e93 : ((z.toNat : Int) != 93) = true := by simp; omega
   have HO : Hid (busI s = none) := Lib.hid (by
    unfold busI; rw [hc]; dsimp only
    split
    ·rename_i h
     rw [h] at hzz
     exact absurd (by rw [← hzz]; rfl) h93
    ·rfl)
   have hn1 : (1 : Int) ≤ (s.length : Int) := by omega
   have hn3 : 1 ≤ s.length := by omega
   clear hz hc hnn hse h93 e0 hzz hlen
   go_enter Tryz.func151, Tryz.ntmps151
   go_wp2_with (first | (go_at_call 158; first | (refine c1.mono ?_; rintro e w1 ⟨rfl, rfl⟩; clear c1) | (refine c3.mono ?_; rintro e w1 ⟨rfl, rfl⟩; clear c3)) | (go_at_call 63; refine c2.mono ?_; rintro e w1 ⟨rfl, rfl⟩; clear c2) | (go_at_call 159; first | (refine c4.mono ?_; rintro e w1 ⟨rfl, rfl⟩; clear c4) | (refine c5.mono ?_; rintro e w1 ⟨rfl, rfl⟩; clear c5) | (refine c6.mono ?_; rintro e w1 ⟨rfl, rfl⟩; clear c6)))
   try simp only [Exit.inBlock, Exit.then]
   refine bodyPost_ret (results_tmp4 rfl _ _ _) rfl ?_
   exact ⟨by rw [HO.out]; rfl, rfl⟩
end Go.Proofs.YtnchipahdfbliaaGreatDoor
