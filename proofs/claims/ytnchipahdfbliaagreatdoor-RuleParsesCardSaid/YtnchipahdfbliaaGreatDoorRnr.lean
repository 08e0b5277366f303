/- The reference's words of a line. Condition: a string of at most 10^9 bytes.
  The reference's line: the plain chain of its readings, and the words for what a rule is about. No condition. -/
import Derived.Test.YtnchipahdfbliaaGreatDoorNx
import Derived.Test.YtnchipahdfbliaaGreatDoorRnl
import Derived.Test.YtnchipahdfbliaaGreatDoorRnp

namespace Go.Proofs.YtnchipahdfbliaaGreatDoor
open Go.RowKit

theorem strs_flat : ∀ (l : List (List UInt8)), l.flatMap strVal = l.map str
 | [] => rfl
 | x :: l => by rw [List.flatMap_cons, strs_flat l]; rfl
theorem own_set {w : World} {base n g cap k : Nat} {e : TypeId} {row : List Value} (h : w.ownsRow base e 1 (.slice (some ⟨g, 0, none⟩) n cap) n row) (_hk : k < n) (u : Value) : (w.setCell ⟨g, k, none⟩ u).ownsRow base e 1 (.slice (some ⟨g, 0, none⟩) n cap) n (row.set k u) := by
 refine ⟨by rw [List.length_set]; exact h.1, ?_⟩
 rcases h.2 with ⟨h1, _⟩ | ⟨g', cap', cur, h1, h2, h3, h4, h5, h6, h7⟩
 ·cases h1
 ·injection h1 with h1 _ h8
  injection h1 with h1
  injection h1 with h1
  subst h1; subst h8
  refine .inr ⟨_, _, _, rfl, h2, heap_set (o := k) (v := u) h3, h4, h5, by simpa using h6, ?_⟩
  rw [← h7]
  simp [List.take_set]
theorem pieces_end (e c : UInt8) : ∀ (l : List UInt8) (fr : List (List UInt8)) (la : List UInt8), Ru.pieces e l = fr ++ [la] → (c = e → Ru.pieces e (l ++ [c]) = fr ++ [la] ++ [[]]) ∧ (c ≠ e → Ru.pieces e (l ++ [c]) = fr ++ [la ++ [c]])
 | [], fr, la, h => by
  have h : [([] : List UInt8)] = fr ++ [la] := h
  cases fr with
  | nil =>
   have h2 : [] = la := by simpa using h
   subst h2
   exact ⟨fun hc => by simp [Ru.pieces, hc], fun hc => by simp [Ru.pieces, hc]⟩
  | cons x fr => simp at h
 | d :: l, fr, la, h => by
  rw [List.cons_append]
  by_cases hd : d = e
  ·rw [Ru.pieces, if_pos hd] at h ⊢
   cases fr with
   | nil =>
    have h3 := Ru.pieces_ne e l
    have h4 : Ru.pieces e l = [] := by simpa using congrArg List.tail h
    exact absurd h4 h3
   | cons x fr =>
    rw [List.cons_append] at h
    injection h with h1 h2
    subst h1
    obtain ⟨i1, i2⟩ := pieces_end e c l fr la h2
    exact ⟨fun hc => by rw [i1 hc]; rfl, fun hc => by rw [i2 hc]; rfl⟩
  ·rw [Ru.pieces, if_neg hd] at h ⊢
   cases hp : Ru.pieces e l with
   | nil => exact absurd hp (Ru.pieces_ne e l)
   | cons p r =>
    rw [hp] at h
    have h : (d :: p) :: r = fr ++ [la] := h
    cases fr with
    | nil =>
     rw [List.nil_append] at h
     injection h with h1 h2
     subst h1; subst h2
     obtain ⟨i1, i2⟩ := pieces_end e c l [] p hp
     exact ⟨fun hc => by rw [i1 hc]; rfl, fun hc => by rw [i2 hc]; rfl⟩
    | cons x fr =>
     rw [List.cons_append] at h
     injection h with h1 h2
     subst h1; subst h2
     obtain ⟨i1, i2⟩ := pieces_end e c l (p :: fr) la hp
     exact ⟨fun hc => by rw [i1 hc]; rfl, fun hc => by rw [i2 hc]; rfl⟩
set_option maxHeartbeats 8000000 in
set_option maxRecDepth 100000 in
theorem wordsR_any (s : List UInt8) (hs : s.length ≤ 1000000000) (w : World) : Calls Tryz.prog 79 #[str s] w (StrsIs (Ru.pieces 32 s) w) := by
 have hl0 : (0 : Int) ≤ (s.length : Int) := by omega
 have HOA : Hid ((w.alloc (.cells #[.string ⟨#[]⟩] 9)).ownsRow w.heap.size 9 1 (.slice (some ⟨w.heap.size, 0, none⟩) 1 1) 1 ([([] : List UInt8)].flatMap strVal)) := Lib.hid ⟨rfl, .inr ⟨w.heap.size, 1, #[.string ⟨#[]⟩], rfl, Nat.le_refl _, heap_alloc_new w _, Nat.le_refl _, by unfold maxLen; omega, rfl, rfl⟩⟩
 go_enter Tryz.func79, Tryz.ntmps79
 go_wp2_with fail
 go_loopw [3, 4] (fun lv i wr => ∃ (k q : Nat) (fr : List (List UInt8)) (la : List UInt8), k ≤ s.length ∧ q ≤ k ∧ i = .int .i64 (k : Int) ∧ fr.length = q ∧ la.length ≤ k ∧ Hid (wr.ownsRow w.heap.size 9 1 lv (q + 1) ((fr ++ [la]).flatMap strVal)) ∧ Hid (Ru.pieces 32 (s.take k) = fr ++ [la]) ∧ Hid (Kp w wr none)) (fun _ i _ => s.length - (intOf i).toNat)
 case atStart => exact ⟨0, 0, [], [], Nat.zero_le _, Nat.le_refl _, rfl, rfl, Nat.zero_le _, HOA, Lib.hid rfl, Lib.hid ((Kp.refl _ _).alloc _)⟩
 case round =>
  obtain ⟨k, q, fr, la, hk, hqk, rfl, hfr, hla, HOW, HPC, HK⟩ := hrel
  have hk0 : (0 : Int) ≤ (k : Int) := by omega
  obtain ⟨lo, lcap, hlv⟩ := own_slice HOW.out
  subst hlv
  have hfl : (fr ++ [la]).length = q + 1 := by rw [List.length_append, hfr]; rfl
  by_cases hlt : k < s.length
  ·have hk1 : (k : Int) < (s.length : Int) := by omega
   obtain ⟨c, hc⟩ : ∃ c, s[k] = c := ⟨_, rfl⟩
   have hx : ∀ h', (⟨s.toArray⟩ : ByteArray)[k]'h' = c := fun h' => (show s.toArray[k]'_ = s[k] by simp).trans hc
   have htk : s.take (k + 1) = s.take k ++ [c] := by rw [List.take_add_one, List.getElem?_eq_getElem hlt, hc]; rfl
   obtain ⟨i1, i2⟩ := pieces_end 32 c (s.take k) fr la HPC.out
   rw [← htk] at i1 i2
   by_cases h32 : c.toNat = 32
   ·have e32 : ((c.toNat : Int) == 32) = true := by rw [h32]; rfl
    have HP2 := Lib.hid (i1 (UInt8.toNat_inj.1 h32))
    obtain ⟨i0, hi, hz0, hz1, hz2⟩ := info_parts info9
    have hcm : q + 1 + 1 ≤ maxLen := by unfold maxLen; omega
    have hcb : (q + 1 + 1) * 16 ≤ 140737488355328 := by omega
    have hzr := HK.out.size
    clear h32 hc htk i1 i2
    go_wp2_with (at_builtin; go_must (refine wpList_append_lies _ (by rfl) _ _ _ (by rfl) w.heap.size 9 i0 _ 1 16 Tryz.underlying68 hi hz0 hz1 hz2 rfl (by omega) (.slice lo (q + 1) lcap) (q + 1) ((fr ++ [la]).flatMap strVal) (by rfl) (own_kp HOW.out ((Kp.refl _ _).alloc _)) ⟨wr.heap.size, 0, none⟩ 1 1 #[.string ⟨#[]⟩].toList (by rfl) (by rfl) (World.news_of_block (cs := #[.string ⟨#[]⟩]) (t := 9) (fr := (0, 0)) (heap_alloc_new wr _)) (by simp [Value.oneCell']) (by omega) hcm hcb (by simp; omega) (wr.heap.size + 1) (by simp) ?_))
    intro gg capg w5 hown5 hgrow5 hor5 hgl5
    have HOW5 : Hid (w5.ownsRow w.heap.size 9 1 (.slice (some ⟨gg, 0, none⟩) (q + 1 + 1) capg) (q + 1 + 1) ((fr ++ [la] ++ [[]]).flatMap strVal)) := Lib.hid (by
     have e : ((fr ++ [la] ++ [[]] : List (List UInt8)).flatMap strVal) = fr.flatMap strVal ++ (strVal la ++ [.string ⟨#[]⟩]) := by simp [strVal]
     rw [e]; exact hown5)
    have HK5 : Hid (Kp w w5 none) := Lib.hid (Kp.row (HK.out.alloc _) hgrow5 (fun r hr => (HOW.out.lt r hr).1))
    clear hown5 hgrow5 hor5
    go_wp2_with fail
    go_roundw
    case rel => exact ⟨k + 1, q + 1, fr ++ [la], [], hlt, by omega, by go_num, hfl, Nat.zero_le _, HOW5, HP2, HK5⟩
    case measure => simp [intOf]; omega
   ·have e32 : ((c.toNat : Int) == 32) = false := by simp; omega
    have HP2 := Lib.hid (i2 (fun h => h32 (by rw [h]; rfl)))
    have HTK := Lib.hid htk
    clear h32 hc htk i1 i2
    obtain ⟨g, hlo, hgb, hcq, hqc, hfq, hgl⟩ : ∃ g, lo = some ⟨g, 0, none⟩ ∧ w.heap.size ≤ g ∧ wr.cell? ⟨g, q, none⟩ = some (str la) ∧ q + 1 ≤ lcap ∧ wr.frozen? ⟨g, q, none⟩ = false ∧ g < wr.heap.size := by
     rcases HOW.out.2 with ⟨_, h2⟩ | ⟨g, cap', cur, h1, h2, h3, h4, h5, h6, h7⟩
     ·omega
     ·injection h1 with h1 _ h8
      subst h8
      refine ⟨g, h1, h2, hcell h3 q ?_, h4, Lib.frozen_of_heap h3 q, lt_of_block h3⟩
      have e : (cur.toList.take ((q + 1) * 1))[q]? = ((fr ++ [la]).flatMap strVal)[q]? := by rw [h7]
      rw [List.getElem?_take_of_lt (by omega)] at e
      have e2 : ((fr ++ [la]).flatMap strVal)[q]? = some (str la) := by
       have e3 : fr.flatMap strVal = fr.map str := strs_flat fr
       rw [List.flatMap_append, e3, List.getElem?_append_right (by simp; omega)]
       simp [hfr, strVal]
      rw [e2] at e
      simpa using e
    subst hlo
    have HOS := HOW
    have hq0 : (0 : Int) ≤ (q : Int) := by omega
    have hsub : (((q + 1 : Nat) : Int)) - 1 = (q : Int) := by omega
    have hw1 : IntKind.i64.wrap (((q + 1 : Nat) : Int) - 1) = (q : Int) := by rw [IntKind.wrap_i64]; omega
    have hw2 : IntKind.i64.wrap ((k : Int) + 1) = (k : Int) + 1 := by rw [IntKind.wrap_i64]; omega
    have hw3 : IntKind.i64.wrap (q : Int) = (q : Int) := by rw [IntKind.wrap_i64]; omega
    have hq1 : (q : Int) < (q : Int) + 1 := by omega
    have hk2 : (0 : Int) ≤ (k : Int) + 1 := by omega
    have hk3 : (k : Int) + 1 ≤ (s.length : Int) := by omega
    have hk4 : (k : Int) ≤ (k : Int) + 1 := by omega
    have hxs : (⟨s.toArray⟩ : ByteArray).extract k (k + 1) = ⟨#[c]⟩ := by
     rw [ext_mid]
     congr 1
     rw [HTK.out, List.drop_append_of_le_length (by rw [List.length_take]; omega)]
     simp
    have hcat : (⟨la.toArray⟩ : ByteArray) ++ ⟨#[c]⟩ = ⟨(la ++ [c]).toArray⟩ := cat_eq la [c]
    have hsn : ¬ 9223372036854775807 < la.length + 1 := by omega
    go_upto_region 7 with fail
    have kD : Kp wr wr.drew none := (Kp.refl _ _).drew
    have HOD := Lib.hid (own_kp HOW.out kD)
    have HKD := Lib.hid (HK.out.trans kD)
    refine wp_region_last (fun V => V.cell? ⟨g, q, none⟩ = some (str la) ∧ V.frozen? ⟨g, q, none⟩ = false) 17 (by kernel_rfl) ⟨(kD.below.cell (p := ⟨g, q, none⟩) hgl).trans hcq, hfq⟩ (fun hHeld => ?_)
    generalize wr.drew = v0 at *
    refine tkL 0 rfl ?_
    try simp only [Act.put, sm]
    refine tkL 1 rfl ?_
    try simp only [Act.put, sm]
    refine tkL 2 rfl ?_
    try simp only [Act.put, sm]
    refine tkL 3 rfl ?_
    try simp only [Act.put, sm]
    refine tkL 4 rfl ?_
    try simp only [Act.put, sm]
    refine tkL 5 rfl ?_
    try simp only [Act.put, sm]
    refine tkL 6 rfl ?_
    try simp only [Act.put, sm]
    refine tkL 7 rfl ?_
    try simp only [Act.put, sm]
    refine tkL 8 rfl ?_
    try simp only [Act.put, sm]
    refine tkL 9 rfl ?_
    try simp only [Act.put, sm]
    refine tkL 10 rfl ?_
    try simp only [Act.put, sm]
    refine tkL 11 rfl ?_
    try simp only [Act.put, sm]
    refine tkL 12 rfl ?_
    try simp only [Act.put, sm]
    refine tkL 13 rfl ?_
    try simp only [Act.put, sm]
    refine tkL 14 rfl ?_
    try simp only [Act.put, sm]
    refine tkL 15 rfl ?_
    try simp only [Act.put, sm]
    refine tkL 16 rfl ?_
    try simp only [Act.put, sm]
    refine wpAnyL_ready (rs := [17]) (by kernel_rfl) (by simp) ?_
    refine AllReadyL.last (o := _) rfl (fun K hK => ?_)
    have hc7 := hHeld.1
    have hf7 := hHeld.2
    clear hHeld
    go_simp
    refine hK.out _ _ ?_
    clear hK K hc7 hf7
    try simp only [Act.put, sm]
    refine wpAnyL_done (by kernel_rfl) ?_ _
    have ks : Kp v0 (v0.setCell ⟨g, q, none⟩ (str (la ++ [c]))) (some g) := (Kp.refl _ _).set _
    have HKS := Lib.hid (Kp.of_own HKD.out ks hgb)
    have HOS : Hid ((v0.setCell ⟨g, q, none⟩ (str (la ++ [c]))).ownsRow w.heap.size 9 1 (.slice (some ⟨g, 0, none⟩) (q + 1) lcap) (q + 1) ((fr ++ [la ++ [c]]).flatMap strVal)) := Lib.hid (by
     have h := own_set HOD.out (k := q) (by omega) (str (la ++ [c]))
     have e : ((fr ++ [la]).flatMap strVal).set q (str (la ++ [c])) = (fr ++ [la ++ [c]]).flatMap strVal := by
      rw [strs_flat, strs_flat, List.map_append, List.map_append, List.set_append_right _ _ (by simp; omega)]
      simp [hfr]
     rw [← e]; exact h)
    clear ks
    go_wp2_with fail
    go_roundw
    case rel => exact ⟨k + 1, q, fr, la ++ [c], hlt, by omega, by go_num, hfr, by rw [List.length_append]; simp; omega, HOS, HP2, HKS⟩
    case measure => simp [intOf]; omega
  ·obtain rfl : k = s.length := by omega
   have HP2 : Hid (Ru.pieces 32 s = fr ++ [la]) := Lib.hid (by have := HPC.out; rwa [List.take_length] at this)
   have HOW2 : Hid (wr.ownsRow w.heap.size 9 1 (.slice lo (q + 1) lcap) (fr ++ [la]).length ((fr ++ [la]).flatMap strVal)) := Lib.hid (by rw [hfl]; exact HOW.out)
   have HLI := Lib.hid (own_lies (m := 1) (f := strVal) (fun _ => rfl) HOW2.out).2
   have HFL := Lib.hid hfl
   clear hfl
   go_wp2_with fail
   go_ret
   exact ⟨⟨_, _, by rw [HP2.out, HFL.out]; rfl, by rw [HP2.out]; exact HLI.out⟩, HK.out⟩
end Go.Proofs.YtnchipahdfbliaaGreatDoor

namespace Go.Proofs.YtnchipahdfbliaaGreatDoor
open Go.RowKit

theorem lineW_chain {ws : Ru.Ws} {nm wh : List UInt8} {prio v : Int} {a b : Ru.Cond} {st1 st2 st3 st4 st5 st6 st7 st8 stE : Option Ru.Ws} (h1 : st1 = Ru.must Ru.kwRule ws) (h2n : nm = ((st1.bind Ru.next).map (·.1)).getD []) (h2 : st2 = (st1.bind Ru.next).map (·.2)) (h3v : ∀ n r, st2.bind Ru.number = some (n, r) → prio = n) (h3 : st3 = (st2.bind Ru.number).map (·.2)) (h4n : wh = ((st3.bind Ru.next).map (·.1)).getD []) (h4 : st4 = (st3.bind Ru.next).map (·.2)) (h5 : st5 = if Ru.whatOf wh = 0 then none else st4) (h6v : ∀ n r, st5.bind Ru.number = some (n, r) → v = n) (h6 : st6 = (st5.bind Ru.number).map (·.2)) (h7 : st7 = st6.bind (Ru.must Ru.kwWhen)) (h8v : ∀ c r, st7.bind (Ru.orc (Ru.fac (st7.getD []).length)) = some (c, r) → c = a) (h8 : st8 = (st7.bind (Ru.orc (Ru.fac (st7.getD []).length))).map (·.2))
  (hE : (Ru.whatOf wh = 1 → ∃ st9, st9 = st8.bind (Ru.must Ru.kwTo) ∧ (∀ c r, st9.bind (Ru.orc (Ru.fac (st9.getD []).length)) = some (c, r) → c = b) ∧ stE = (st9.bind (Ru.orc (Ru.fac (st9.getD []).length))).map (·.2)) ∧ (Ru.whatOf wh ≠ 1 → b = Ru.cAny ∧ stE = st8)) :
  Ru.lineW ws = if stE = some [] then some ⟨nm, prio, Ru.whatOf wh, v, a, b⟩ else none := by
 have d8 : st8 = none → stE = none := fun h => by
  by_cases hw : Ru.whatOf wh = 1
  ·obtain ⟨st9, e1, _, e2⟩ := hE.1 hw
   rw [h] at e1
   have e1 : st9 = none := e1
   rw [e1] at e2; exact e2
  ·rw [(hE.2 hw).2, h]
 have d7 : st7 = none → stE = none := fun h => d8 (by rw [h8, h]; rfl)
 have d6 : st6 = none → stE = none := fun h => d7 (by rw [h7, h]; rfl)
 have d5 : st5 = none → stE = none := fun h => d6 (by rw [h6, h]; rfl)
 have d4 : st4 = none → stE = none := fun h => d5 (by rw [h5, h]; split <;> rfl)
 have d3 : st3 = none → stE = none := fun h => d4 (by rw [h4, h]; rfl)
 have d2 : st2 = none → stE = none := fun h => d3 (by rw [h3, h]; rfl)
 have d1 : st1 = none → stE = none := fun h => d2 (by rw [h2, h]; rfl)
 have no : stE = none → (if stE = some [] then some (⟨nm, prio, Ru.whatOf wh, v, a, b⟩ : Ru.Rule) else none) = none := fun h => by rw [if_neg (by rw [h]; simp)]
 unfold Ru.lineW
 cases q1 : Ru.must Ru.kwRule ws with
 | none => rw [no (d1 (by rw [h1, q1]))]; rfl
 | some r1 =>
  rw [q1] at h1
  subst h1
  simp only [Option.bind_some] at h2n h2 ⊢
  cases q2 : Ru.next r1 with
  | none => rw [q2] at h2; rw [no (d2 h2)]; rfl
  | some p2 =>
   obtain ⟨x2, r2⟩ := p2
   rw [q2] at h2 h2n
   simp only [Option.map_some, Option.getD_some] at h2 h2n
   subst h2; subst h2n
   simp only [Option.bind_some] at h3v h3 ⊢
   cases q3 : Ru.number r2 with
   | none => rw [q3] at h3; rw [no (d3 h3)]; rfl
   | some p3 =>
    obtain ⟨x3, r3⟩ := p3
    have e3 := h3v x3 r3 q3
    rw [q3] at h3
    simp only [Option.map_some] at h3
    subst h3; subst e3
    simp only [Option.bind_some] at h4n h4 ⊢
    cases q4 : Ru.next r3 with
    | none => rw [q4] at h4; rw [no (d4 h4)]; rfl
    | some p4 =>
     obtain ⟨x4, r4⟩ := p4
     rw [q4] at h4 h4n
     simp only [Option.map_some, Option.getD_some] at h4 h4n
     subst h4; subst h4n
     simp only [Option.bind_some]
     by_cases w0 : Ru.whatOf wh = 0
     ·rw [if_pos w0] at h5
      rw [no (d5 h5), w0]
      cases Ru.number r4 with
      | none => rfl
      | some p5 =>
       simp only [Option.bind_some]
       cases Ru.must Ru.kwWhen p5.2 with
       | none => rfl
       | some r6 =>
        simp only [Option.bind_some]
        cases Ru.orc (Ru.fac r6.length) r6 with
        | none => rfl
        | some p7 => rfl
     ·rw [if_neg w0] at h5
      subst h5
      simp only [Option.bind_some] at h6v h6
      cases q6 : Ru.number r4 with
      | none => rw [q6] at h6; rw [no (d6 h6)]; rfl
      | some p6 =>
       obtain ⟨x6, r6⟩ := p6
       have e6 := h6v x6 r6 q6
       rw [q6] at h6
       simp only [Option.map_some] at h6
       subst h6; subst e6
       simp only [Option.bind_some] at h7 ⊢
       cases q7 : Ru.must Ru.kwWhen r6 with
       | none => rw [q7] at h7; rw [no (d7 h7)]; rfl
       | some r7 =>
        rw [q7] at h7
        subst h7
        simp only [Option.bind_some, Option.getD_some] at h8v h8 ⊢
        cases q8 : Ru.orc (Ru.fac r7.length) r7 with
        | none => rw [q8] at h8; rw [no (d8 h8)]; rfl
        | some p8 =>
         obtain ⟨x8, r8⟩ := p8
         have e8 := h8v x8 r8 q8
         rw [q8] at h8
         simp only [Option.map_some] at h8
         subst h8; subst e8
         simp only [Option.bind_some]
         by_cases w1 : Ru.whatOf wh = 1
         ·obtain ⟨st9, e9, hb, eE⟩ := hE.1 w1
          rw [if_pos w1]
          simp only [Option.bind_some] at e9
          cases q9 : Ru.must Ru.kwTo r8 with
          | none =>
           rw [q9] at e9
           rw [e9] at eE
           rw [no eE]; rfl
          | some r9 =>
           rw [q9] at e9
           subst e9
           simp only [Option.bind_some, Option.getD_some] at hb eE ⊢
           cases q10 : Ru.orc (Ru.fac r9.length) r9 with
           | none => rw [q10] at eE; rw [no eE]; rfl
           | some p10 =>
            obtain ⟨x10, r10⟩ := p10
            have e10 := hb x10 r10 q10
            rw [q10] at eE
            simp only [Option.map_some] at eE
            subst eE; subst e10
            simp only [Option.bind_some, Option.some.injEq, w1]
         ·obtain ⟨eb, eE⟩ := hE.2 w1
          subst eE; subst eb
          rw [if_neg w1]
          have hp : 0 < Ru.whatOf wh := by have := (what_range wh).1; omega
          simp only [Option.some.injEq, hp, true_and]
theorem what_iff (k : Nat) (h1 : 1 ≤ k) (h4 : k ≤ 4) (wh : List UInt8) : Ru.whats.getD (k - 1) [] = wh ↔ Ru.whatOf wh = (k : Int) := by
 constructor
 ·rintro rfl
  have : k = 1 ∨ k = 2 ∨ k = 3 ∨ k = 4 := by omega
  rcases this with rfl | rfl | rfl | rfl <;> decide
 ·intro h
  unfold Ru.whatOf at h
  cases hi : Ru.whats.idxOf? wh with
  | none => rw [hi] at h; simp at h; omega
  | some j =>
   rw [hi] at h
   have hj : j + 1 = k := by simp at h; omega
   obtain ⟨hlt, h2, _⟩ := List.idxOf?_eq_some_iff.1 hi
   have h2 : Ru.whats[j] = wh := by simpa using h2
   rw [show k - 1 = j by omega, List.getD_eq_getElem?_getD, List.getElem?_eq_getElem hlt]
   exact h2
theorem whatsR_any (n : Nat) (h1 : 1 ≤ n) (h4 : n ≤ 4) (w : World) : Calls Tryz.prog 47 #[.int .i64 (n : Int)] w fun e w' => e = .returned (str (Ru.whats.getD (n - 1) [])) ∧ Kp w w' none := by
 have : n = 1 ∨ n = 2 ∨ n = 3 ∨ n = 4 := by omega
 rcases this with rfl | rfl | rfl | rfl
 all_goals
  go_enter Tryz.func47, Tryz.ntmps47
  go_wp2
  go_ret
  exact ⟨rfl, (Kp.refl _ _).alloc _⟩
end Go.Proofs.YtnchipahdfbliaaGreatDoor
