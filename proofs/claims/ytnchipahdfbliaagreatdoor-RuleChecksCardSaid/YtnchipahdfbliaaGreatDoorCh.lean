/- The program's Check. Conditions: what a machine holds. -/
import Derived.Test.YtnchipahdfbliaaGreatDoorRv
import Derived.Outline
namespace Go.Proofs.YtnchipahdfbliaaGreatDoor
open Go.RowKit

/-- What a rule's strings and conditions take. -/
def Fit (r : Ru.Rule) : Prop := r.name.length ≤ 1000000000 ∧ Short r.a ∧ Short r.b ∧ Ru.size r.a ≤ 1000000000000 ∧ Ru.size r.b ≤ 1000000000000
theorem one_ne {r : Ru.Rule} {before : List (List UInt8)} {l : List Ru.Rule} {c : Int} (h : Ru.one r before = c) (hc : c ≠ 0) : Ru.checkL before (r :: l) = c := by
 rw [Ru.checkL, if_neg (by rw [h]; exact hc), h]
theorem one_go {r : Ru.Rule} {before : List (List UInt8)} {l : List Ru.Rule} (h : Ru.one r before = 0) : Ru.checkL before (r :: l) = Ru.checkL (before ++ [r.name]) l := by
 rw [Ru.checkL, if_pos h]
theorem any_name (ps : List RV) (x : List UInt8) : (ps.any fun p => p.r.name == x) = decide (x ∈ ps.map (·.r.name)) := by
 rw [Bool.eq_iff_iff, List.any_eq_true, decide_eq_true_iff, List.mem_map]
 constructor
 ·rintro ⟨p, hp, h⟩; exact ⟨p, hp, by simpa using h⟩
 ·rintro ⟨p, hp, h⟩; exact ⟨p, hp, by simpa using h⟩

set_option maxHeartbeats 16000000 in
set_option maxRecDepth 100000 in
theorem check_walk (ps : List RV) (ao : Option Addr) (cap : Nat) (w : World) (he : Env w) (hl : LiesAt 20 rC w ao cap ps) (ht : ∀ p ∈ ps, p.Tree w) (hf : ∀ p ∈ ps, Fit p.r) (hm : ps.length ≤ 24) :
  Calls Tryz.prog 13 #[.slice ao ps.length cap] w fun e w' => e = .returned (.int .i64 (Ru.checkL [] (ps.map (·.r)))) ∧ Kp w w' none := by
 have HL := Lib.hid hl
 have HT := Lib.hid ht
 have HF := Lib.hid hf
 have HE := Lib.hid he
 clear hl ht hf he
 have hm0 : ¬ (24 : Int) < (ps.length : Int) := by omega
 go_enter Tryz.func13, Tryz.ntmps13
 go_wp2_with fail
 go_loopw [10] (fun i wr => ∃ k : Nat, k ≤ ps.length ∧ i = .int .i64 k ∧ Hid (Ru.checkL [] (ps.map (·.r)) = Ru.checkL ((ps.take k).map (·.r.name)) ((ps.drop k).map (·.r))) ∧ Kp w wr none) (fun i _ => ps.length - (intOf i).toNat)
 case atStart => exact ⟨0, Nat.zero_le _, rfl, Lib.hid (by simp), Kp.refl _ _⟩
 case round =>
  obtain ⟨k, hk, rfl, HC, hkp⟩ := hrel
  have HK := Lib.hid hkp
  have hbk := hkp.size
  clear hkp
  have hk0 : (0 : Int) ≤ (k : Int) := Int.natCast_nonneg _
  by_cases hlt : k < ps.length
  ·obtain ⟨p, hp⟩ : ∃ p, ps[k] = p := ⟨_, rfl⟩
   have hmem : p ∈ ps := by rw [← hp]; exact List.getElem_mem hlt
   obtain ⟨b, off, hao, _, hrg⟩ := (HL.out.keep HK.out).range k hlt hp
   have htr := HT.out p hmem
   have hfit := HF.out p hmem
   obtain ⟨⟨a1, a2, a3, hva⟩, b1, b2, b3, hvb⟩ := RV.slices htr
   have hk1 : (k : Int) < (ps.length : Int) := by omega
   have hdrop : ps.drop k = p :: ps.drop (k + 1) := by rw [List.drop_eq_getElem_cons hlt, hp]
   have htake : (ps.take (k + 1)).map (·.r.name) = (ps.take k).map (·.r.name) ++ [p.r.name] := by rw [List.take_succ_eq_append_getElem hlt, List.map_append, hp]; rfl
   have HC1 : Hid (Ru.checkL [] (ps.map (·.r)) = Ru.checkL ((ps.take k).map (·.r.name)) (p.r :: (ps.drop (k + 1)).map (·.r))) := Lib.hid (by rw [HC.out, hdrop]; rfl)
   have HTK := Lib.hid htake
   have HRG : Hid (wr.rangeAt b (off + k * 20) #[str p.r.name, .int .i64 p.r.prio, .int .i64 p.r.what, .int .i64 p.r.a.op, str p.r.a.text, .int .i64 p.r.a.n, .int .i64 p.r.a.box.x0, .int .i64 p.r.a.box.y0, .int .i64 p.r.a.box.x1, .int .i64 p.r.a.box.y1, .slice a1 a2 a3, .int .i64 p.r.b.op, str p.r.b.text, .int .i64 p.r.b.n, .int .i64 p.r.b.box.x0, .int .i64 p.r.b.box.y0, .int .i64 p.r.b.box.x1, .int .i64 p.r.b.box.y1, .slice b1 b2 b3, .int .i64 p.r.value].toList) := Lib.hid (by have e : rC p = #[str p.r.name, .int .i64 p.r.prio, .int .i64 p.r.what, .int .i64 p.r.a.op, str p.r.a.text, .int .i64 p.r.a.n, .int .i64 p.r.a.box.x0, .int .i64 p.r.a.box.y0, .int .i64 p.r.a.box.x1, .int .i64 p.r.a.box.y1, .slice a1 a2 a3, .int .i64 p.r.b.op, str p.r.b.text, .int .i64 p.r.b.n, .int .i64 p.r.b.box.x0, .int .i64 p.r.b.box.y0, .int .i64 p.r.b.box.x1, .int .i64 p.r.b.box.y1, .slice b1 b2 b3, .int .i64 p.r.value].toList := (by unfold rC cC; rw [hva, hvb]; rfl); rw [← e]; exact hrg)
   have KA : Hid (Kp wr (wr.alloc (.cells #[str p.r.name, .int .i64 p.r.prio, .int .i64 p.r.what, .int .i64 p.r.a.op, str p.r.a.text, .int .i64 p.r.a.n, .int .i64 p.r.a.box.x0, .int .i64 p.r.a.box.y0, .int .i64 p.r.a.box.x1, .int .i64 p.r.a.box.y1, .slice a1 a2 a3, .int .i64 p.r.b.op, str p.r.b.text, .int .i64 p.r.b.n, .int .i64 p.r.b.box.x0, .int .i64 p.r.b.box.y0, .int .i64 p.r.b.box.x1, .int .i64 p.r.b.box.y1, .slice b1 b2 b3, .int .i64 p.r.value] 42)) none) := Lib.hid ((Kp.refl _ _).alloc _)
   have C34 : ∀ u, Kp wr u none → u.cell? ⟨wr.heap.size, 0, none⟩ = some (str p.r.name) → Calls Tryz.prog 34 #[.slice (some ⟨b, off, none⟩) k cap, .func (.func 35) #[] #[.pointer (some ⟨wr.heap.size, 0, none⟩)]] u fun e w' => e = .returned (.bool (decide (p.r.name ∈ (ps.take k).map (·.r.name)))) ∧ Kp u w' none := fun u hu hc => by
    have h := containsRule_any (ps.take k) p.r.name wr.heap.size ao cap u hc (((HL.out.keep HK.out).keep hu).take k) (fun q hq => (HT.out q (List.mem_of_mem_take hq)).keep (HK.out.trans hu)) (by rw [List.length_take]; omega)
    rw [any_name, List.length_take, Nat.min_eq_left (by omega), hao] at h
    exact h
   have C37a : ∀ u, Kp wr u none → Calls Tryz.prog 37 #[.agg #[.int .i64 p.r.a.op, str p.r.a.text, .int .i64 p.r.a.n, .int .i64 p.r.a.box.x0, .int .i64 p.r.a.box.y0, .int .i64 p.r.a.box.x1, .int .i64 p.r.a.box.y1, .slice a1 a2 a3]] u fun e w' => e = .returned (.bool (Ru.right p.r.a)) ∧ Kp u w' none := fun u hu => by
    have h := rightIs p.r.a hfit.2.1 u p.a (HE.out.kp0 (HK.out.trans hu)) (htr.1.keep (HK.out.trans hu))
    rw [hva] at h; exact h
   have C37b : ∀ u, Kp wr u none → Calls Tryz.prog 37 #[.agg #[.int .i64 p.r.b.op, str p.r.b.text, .int .i64 p.r.b.n, .int .i64 p.r.b.box.x0, .int .i64 p.r.b.box.y0, .int .i64 p.r.b.box.x1, .int .i64 p.r.b.box.y1, .slice b1 b2 b3]] u fun e w' => e = .returned (.bool (Ru.right p.r.b)) ∧ Kp u w' none := fun u hu => by
    have h := rightIs p.r.b hfit.2.2.1 u p.b (HE.out.kp0 (HK.out.trans hu)) (htr.2.keep (HK.out.trans hu))
    rw [hvb] at h; exact h
   have C38a : ∀ u, Kp wr u none → Calls Tryz.prog 38 #[.agg #[.int .i64 p.r.a.op, str p.r.a.text, .int .i64 p.r.a.n, .int .i64 p.r.a.box.x0, .int .i64 p.r.a.box.y0, .int .i64 p.r.a.box.x1, .int .i64 p.r.a.box.y1, .slice a1 a2 a3]] u fun e w' => e = .returned (.int .i64 (Ru.size p.r.a)) ∧ Kp u w' none := fun u hu => by
    have h := sizeIs p.r.a hfit.2.2.2.1 u p.a (htr.1.keep (HK.out.trans hu))
    rw [hva] at h; exact h
   have C38b : ∀ u, Kp wr u none → Calls Tryz.prog 38 #[.agg #[.int .i64 p.r.b.op, str p.r.b.text, .int .i64 p.r.b.n, .int .i64 p.r.b.box.x0, .int .i64 p.r.b.box.y0, .int .i64 p.r.b.box.x1, .int .i64 p.r.b.box.y1, .slice b1 b2 b3]] u fun e w' => e = .returned (.int .i64 (Ru.size p.r.b)) ∧ Kp u w' none := fun u hu => by
    have h := sizeIs p.r.b hfit.2.2.2.2 u p.b (htr.2.keep (HK.out.trans hu))
    rw [hvb] at h; exact h
   have hname := hfit.1
   have hk9 : (k : Int) ≤ (cap : Int) := by
    obtain ⟨_, _, _, _, hc, _⟩ := (HL.out k hlt)
    omega
   subst hao
   clear hp hmem htr hfit hva hvb hdrop htake hrg
   go_wp2_with (first | (refine wpList_load_mid (by rfl) 42 _ (by rfl) b (off + k * 20) (by rfl) #[str p.r.name, .int .i64 p.r.prio, .int .i64 p.r.what, .int .i64 p.r.a.op, str p.r.a.text, .int .i64 p.r.a.n, .int .i64 p.r.a.box.x0, .int .i64 p.r.a.box.y0, .int .i64 p.r.a.box.x1, .int .i64 p.r.a.box.y1, .slice a1 a2 a3, .int .i64 p.r.b.op, str p.r.b.text, .int .i64 p.r.b.n, .int .i64 p.r.b.box.x0, .int .i64 p.r.b.box.y0, .int .i64 p.r.b.box.x1, .int .i64 p.r.b.box.y1, .slice b1 b2 b3, .int .i64 p.r.value].toList _ HRG.out Tryz.underlying42 (by rfl) info42 ?_) | (refine wpList_store_new (by rfl) 42 _ _ (by rfl) #[.string ⟨#[]⟩, .int .i64 0, .int .i64 0, .int .i64 0, .string ⟨#[]⟩, .int .i64 0, .int .i64 0, .int .i64 0, .int .i64 0, .int .i64 0, .slice none 0 0, .int .i64 0, .string ⟨#[]⟩, .int .i64 0, .int .i64 0, .int .i64 0, .int .i64 0, .int .i64 0, .slice none 0 0, .int .i64 0] #[str p.r.name, .int .i64 p.r.prio, .int .i64 p.r.what, .int .i64 p.r.a.op, str p.r.a.text, .int .i64 p.r.a.n, .int .i64 p.r.a.box.x0, .int .i64 p.r.a.box.y0, .int .i64 p.r.a.box.x1, .int .i64 p.r.a.box.y1, .slice a1 a2 a3, .int .i64 p.r.b.op, str p.r.b.text, .int .i64 p.r.b.n, .int .i64 p.r.b.box.x0, .int .i64 p.r.b.box.y0, .int .i64 p.r.b.box.x1, .int .i64 p.r.b.box.y1, .slice b1 b2 b3, .int .i64 p.r.value] 42 (by rfl) (by rfl) rfl info42 (by rfl) (by simp [Value.oneCell']) ?_))
   refine (right_any p.r.name (by omega) _).mono ?_
   rintro e w1 ⟨rfl, hk1⟩
   have hK1 := Lib.hid ((KA.out).trans hk1)
   have hl1 : wr.heap.size < w1.heap.size := (by have hh := hk1.size; (try simp at hh); omega)
   obtain ⟨hcc1, hff1⟩ := bcell hk1
   clear hk1
   by_cases q1 : Ru.nameR p.r.name = true
   case neg =>
    have q1' : Ru.nameR p.r.name = false := by simpa using q1
    have HRES : Hid (Ru.checkL [] (ps.map (·.r)) = 20) := Lib.hid (by rw [HC1.out]; exact one_ne (by unfold Ru.one; rw [if_pos q1']) (by decide))
    clear q1 C34 C37a C37b C38a C38b
    go_wp2_with fail
    go_ret
    exact ⟨by rw [HRES.out]; rfl, HK.out.trans hK1.out⟩
   go_wp2_with fail
   refine (C34 _ hK1.out (by go_simp)).mono ?_
   rintro e w2 ⟨rfl, hk2⟩
   have hK2 := Lib.hid ((hK1.out).trans hk2)
   have hl2 : wr.heap.size < w2.heap.size := (by have hh := hk2.size; (try simp at hh); omega)
   obtain ⟨hcc2, hff2⟩ := bcell hk2
   clear hk2
   by_cases q2 : p.r.name ∈ (ps.take k).map (·.r.name)
   case pos =>
    have HRES : Hid (Ru.checkL [] (ps.map (·.r)) = 6) := Lib.hid (by rw [HC1.out]; exact one_ne (by unfold Ru.one; rw [if_neg (by rw [q1]; decide), if_pos q2]) (by decide))
    rw [decide_eq_true q2]
    clear q1 q2 C34 C37a C37b C38a C38b
    go_wp2_with fail
    go_ret
    exact ⟨by rw [HRES.out]; rfl, HK.out.trans hK2.out⟩
   rw [decide_eq_false q2]
   go_wp2_with fail
   refine (within_any p.r.prio 0 1000 _).mono ?_
   rintro e w3 ⟨rfl, rfl⟩
   by_cases q3 : 0 ≤ p.r.prio ∧ p.r.prio ≤ 1000
   case neg =>
    have HRES : Hid (Ru.checkL [] (ps.map (·.r)) = 3) := Lib.hid (by rw [HC1.out]; exact one_ne (by unfold Ru.one; rw [if_neg (by rw [q1]; decide), if_neg q2, if_pos (by omega)]) (by decide))
    rw [decide_eq_false q3]
    clear q1 q2 q3 C34 C37a C37b C38a C38b
    go_wp2_with fail
    go_ret
    exact ⟨by rw [HRES.out]; rfl, HK.out.trans hK2.out⟩
   rw [decide_eq_true q3]
   go_wp2_with fail
   refine (within_any p.r.what 1 4 _).mono ?_
   rintro e w3 ⟨rfl, rfl⟩
   by_cases q4 : 1 ≤ p.r.what ∧ p.r.what ≤ 4
   case neg =>
    have HRES : Hid (Ru.checkL [] (ps.map (·.r)) = 40) := Lib.hid (by rw [HC1.out]; exact one_ne (by unfold Ru.one; rw [if_neg (by rw [q1]; decide), if_neg q2, if_neg (by omega), if_pos (by omega)]) (by decide))
    rw [decide_eq_false q4]
    clear q1 q2 q3 q4 C34 C37a C37b C38a C38b
    go_wp2_with fail
    go_ret
    exact ⟨by rw [HRES.out]; rfl, HK.out.trans hK2.out⟩
   rw [decide_eq_true q4]
   go_wp2_with fail
   refine (within_any p.r.value 0 4194304 _).mono ?_
   rintro e w3 ⟨rfl, rfl⟩
   by_cases q5 : 0 ≤ p.r.value ∧ p.r.value ≤ 4194304
   case neg =>
    have HRES : Hid (Ru.checkL [] (ps.map (·.r)) = 3) := Lib.hid (by rw [HC1.out]; exact one_ne (by unfold Ru.one; rw [if_neg (by rw [q1]; decide), if_neg q2, if_neg (by omega), if_neg (by omega), if_pos (by omega)]) (by decide))
    rw [decide_eq_false q5]
    clear q1 q2 q3 q4 q5 C34 C37a C37b C38a C38b
    go_wp2_with fail
    go_ret
    exact ⟨by rw [HRES.out]; rfl, HK.out.trans hK2.out⟩
   rw [decide_eq_true q5]
   go_wp2_with fail
   refine (C37a _ hK2.out).mono ?_
   rintro e w4 ⟨rfl, hk4⟩
   have hK4 := Lib.hid ((hK2.out).trans hk4)
   have hl4 : wr.heap.size < w4.heap.size := (by have hh := hk4.size; (try simp at hh); omega)
   obtain ⟨hcc4, hff4⟩ := bcell hk4
   clear hk4
   by_cases q6 : Ru.right p.r.a = true
   case neg =>
    have q6' : Ru.right p.r.a = false := by simpa using q6
    have HRES : Hid (Ru.checkL [] (ps.map (·.r)) = 40) := Lib.hid (by rw [HC1.out]; exact one_ne (by unfold Ru.one; rw [if_neg (by rw [q1]; decide), if_neg q2, if_neg (by omega), if_neg (by omega), if_neg (by omega), if_pos (.inl q6')]) (by decide))
    rw [q6']
    clear q1 q2 q3 q4 q5 q6 q6' C34 C37a C37b C38a C38b
    go_wp2_with fail
    go_ret
    exact ⟨by rw [HRES.out]; rfl, HK.out.trans hK4.out⟩
   rw [q6]
   go_wp2_with fail
   refine (C37b _ hK4.out).mono ?_
   rintro e w5 ⟨rfl, hk5⟩
   have hK5 := Lib.hid ((hK4.out).trans hk5)
   have hl5 : wr.heap.size < w5.heap.size := (by have hh := hk5.size; (try simp at hh); omega)
   obtain ⟨hcc5, hff5⟩ := bcell hk5
   clear hk5
   by_cases q7 : Ru.right p.r.b = true
   case neg =>
    have q7' : Ru.right p.r.b = false := by simpa using q7
    have HRES : Hid (Ru.checkL [] (ps.map (·.r)) = 40) := Lib.hid (by rw [HC1.out]; exact one_ne (by unfold Ru.one; rw [if_neg (by rw [q1]; decide), if_neg q2, if_neg (by omega), if_neg (by omega), if_neg (by omega), if_pos (.inr q7')]) (by decide))
    rw [q7']
    clear q1 q2 q3 q4 q5 q6 q7 q7' C34 C37a C37b C38a C38b
    go_wp2_with fail
    go_ret
    exact ⟨by rw [HRES.out]; rfl, HK.out.trans hK5.out⟩
   rw [q7]
   obtain ⟨za, hza⟩ : ∃ z, Ru.size p.r.a = z := ⟨_, rfl⟩
   obtain ⟨zb, hzb⟩ : ∃ z, Ru.size p.r.b = z := ⟨_, rfl⟩
   rw [hza] at C38a
   rw [hzb] at C38b
   have D38a := Lib.hid C38a
   have D38b := Lib.hid C38b
   clear C34 C37a C37b C38a C38b
   have d2 : w5.cell? ⟨wr.heap.size, 2, none⟩ = some (.int .i64 p.r.what) := by go_simp
   have E2 : Hid (∀ V, Kp w5 V none → V.cell? ⟨wr.heap.size, 2, none⟩ = some (.int .i64 p.r.what)) := Lib.hid (fun V hV => (hV.below.cell (p := ⟨wr.heap.size, 2, none⟩) hl5).trans d2)
   have d3 : w5.cell? ⟨wr.heap.size, 3, none⟩ = some (.int .i64 p.r.a.op) := by go_simp
   have E3 : Hid (∀ V, Kp w5 V none → V.cell? ⟨wr.heap.size, 3, none⟩ = some (.int .i64 p.r.a.op)) := Lib.hid (fun V hV => (hV.below.cell (p := ⟨wr.heap.size, 3, none⟩) hl5).trans d3)
   have d4 : w5.cell? ⟨wr.heap.size, 4, none⟩ = some (str p.r.a.text) := by go_simp
   have E4 : Hid (∀ V, Kp w5 V none → V.cell? ⟨wr.heap.size, 4, none⟩ = some (str p.r.a.text)) := Lib.hid (fun V hV => (hV.below.cell (p := ⟨wr.heap.size, 4, none⟩) hl5).trans d4)
   have d5 : w5.cell? ⟨wr.heap.size, 5, none⟩ = some (.int .i64 p.r.a.n) := by go_simp
   have E5 : Hid (∀ V, Kp w5 V none → V.cell? ⟨wr.heap.size, 5, none⟩ = some (.int .i64 p.r.a.n)) := Lib.hid (fun V hV => (hV.below.cell (p := ⟨wr.heap.size, 5, none⟩) hl5).trans d5)
   have d6 : w5.cell? ⟨wr.heap.size, 6, none⟩ = some (.int .i64 p.r.a.box.x0) := by go_simp
   have E6 : Hid (∀ V, Kp w5 V none → V.cell? ⟨wr.heap.size, 6, none⟩ = some (.int .i64 p.r.a.box.x0)) := Lib.hid (fun V hV => (hV.below.cell (p := ⟨wr.heap.size, 6, none⟩) hl5).trans d6)
   have d7 : w5.cell? ⟨wr.heap.size, 7, none⟩ = some (.int .i64 p.r.a.box.y0) := by go_simp
   have E7 : Hid (∀ V, Kp w5 V none → V.cell? ⟨wr.heap.size, 7, none⟩ = some (.int .i64 p.r.a.box.y0)) := Lib.hid (fun V hV => (hV.below.cell (p := ⟨wr.heap.size, 7, none⟩) hl5).trans d7)
   have d8 : w5.cell? ⟨wr.heap.size, 8, none⟩ = some (.int .i64 p.r.a.box.x1) := by go_simp
   have E8 : Hid (∀ V, Kp w5 V none → V.cell? ⟨wr.heap.size, 8, none⟩ = some (.int .i64 p.r.a.box.x1)) := Lib.hid (fun V hV => (hV.below.cell (p := ⟨wr.heap.size, 8, none⟩) hl5).trans d8)
   have d9 : w5.cell? ⟨wr.heap.size, 9, none⟩ = some (.int .i64 p.r.a.box.y1) := by go_simp
   have E9 : Hid (∀ V, Kp w5 V none → V.cell? ⟨wr.heap.size, 9, none⟩ = some (.int .i64 p.r.a.box.y1)) := Lib.hid (fun V hV => (hV.below.cell (p := ⟨wr.heap.size, 9, none⟩) hl5).trans d9)
   have d10 : w5.cell? ⟨wr.heap.size, 10, none⟩ = some (.slice a1 a2 a3) := by go_simp
   have E10 : Hid (∀ V, Kp w5 V none → V.cell? ⟨wr.heap.size, 10, none⟩ = some (.slice a1 a2 a3)) := Lib.hid (fun V hV => (hV.below.cell (p := ⟨wr.heap.size, 10, none⟩) hl5).trans d10)
   have d11 : w5.cell? ⟨wr.heap.size, 11, none⟩ = some (.int .i64 p.r.b.op) := by go_simp
   have E11 : Hid (∀ V, Kp w5 V none → V.cell? ⟨wr.heap.size, 11, none⟩ = some (.int .i64 p.r.b.op)) := Lib.hid (fun V hV => (hV.below.cell (p := ⟨wr.heap.size, 11, none⟩) hl5).trans d11)
   have d12 : w5.cell? ⟨wr.heap.size, 12, none⟩ = some (str p.r.b.text) := by go_simp
   have E12 : Hid (∀ V, Kp w5 V none → V.cell? ⟨wr.heap.size, 12, none⟩ = some (str p.r.b.text)) := Lib.hid (fun V hV => (hV.below.cell (p := ⟨wr.heap.size, 12, none⟩) hl5).trans d12)
   have d13 : w5.cell? ⟨wr.heap.size, 13, none⟩ = some (.int .i64 p.r.b.n) := by go_simp
   have E13 : Hid (∀ V, Kp w5 V none → V.cell? ⟨wr.heap.size, 13, none⟩ = some (.int .i64 p.r.b.n)) := Lib.hid (fun V hV => (hV.below.cell (p := ⟨wr.heap.size, 13, none⟩) hl5).trans d13)
   have d14 : w5.cell? ⟨wr.heap.size, 14, none⟩ = some (.int .i64 p.r.b.box.x0) := by go_simp
   have E14 : Hid (∀ V, Kp w5 V none → V.cell? ⟨wr.heap.size, 14, none⟩ = some (.int .i64 p.r.b.box.x0)) := Lib.hid (fun V hV => (hV.below.cell (p := ⟨wr.heap.size, 14, none⟩) hl5).trans d14)
   have d15 : w5.cell? ⟨wr.heap.size, 15, none⟩ = some (.int .i64 p.r.b.box.y0) := by go_simp
   have E15 : Hid (∀ V, Kp w5 V none → V.cell? ⟨wr.heap.size, 15, none⟩ = some (.int .i64 p.r.b.box.y0)) := Lib.hid (fun V hV => (hV.below.cell (p := ⟨wr.heap.size, 15, none⟩) hl5).trans d15)
   have d16 : w5.cell? ⟨wr.heap.size, 16, none⟩ = some (.int .i64 p.r.b.box.x1) := by go_simp
   have E16 : Hid (∀ V, Kp w5 V none → V.cell? ⟨wr.heap.size, 16, none⟩ = some (.int .i64 p.r.b.box.x1)) := Lib.hid (fun V hV => (hV.below.cell (p := ⟨wr.heap.size, 16, none⟩) hl5).trans d16)
   have d17 : w5.cell? ⟨wr.heap.size, 17, none⟩ = some (.int .i64 p.r.b.box.y1) := by go_simp
   have E17 : Hid (∀ V, Kp w5 V none → V.cell? ⟨wr.heap.size, 17, none⟩ = some (.int .i64 p.r.b.box.y1)) := Lib.hid (fun V hV => (hV.below.cell (p := ⟨wr.heap.size, 17, none⟩) hl5).trans d17)
   have d18 : w5.cell? ⟨wr.heap.size, 18, none⟩ = some (.slice b1 b2 b3) := by go_simp
   have E18 : Hid (∀ V, Kp w5 V none → V.cell? ⟨wr.heap.size, 18, none⟩ = some (.slice b1 b2 b3)) := Lib.hid (fun V hV => (hV.below.cell (p := ⟨wr.heap.size, 18, none⟩) hl5).trans d18)
   clear d2 d3 d4 d5 d6 d7 d8 d9 d10 d11 d12 d13 d14 d15 d16 d17 d18
   go_wp2_with fail
   refine wp_region_held_drew (S := fun V => V.cell? ⟨wr.heap.size, 3, none⟩ = some (.int .i64 p.r.a.op) ∧ V.cell? ⟨wr.heap.size, 4, none⟩ = some (str p.r.a.text) ∧ V.cell? ⟨wr.heap.size, 5, none⟩ = some (.int .i64 p.r.a.n) ∧ V.cell? ⟨wr.heap.size, 6, none⟩ = some (.int .i64 p.r.a.box.x0) ∧ V.cell? ⟨wr.heap.size, 7, none⟩ = some (.int .i64 p.r.a.box.y0) ∧ V.cell? ⟨wr.heap.size, 8, none⟩ = some (.int .i64 p.r.a.box.x1) ∧ V.cell? ⟨wr.heap.size, 9, none⟩ = some (.int .i64 p.r.a.box.y1) ∧ V.cell? ⟨wr.heap.size, 10, none⟩ = some (.slice a1 a2 a3) ∧ V.cell? ⟨wr.heap.size, 11, none⟩ = some (.int .i64 p.r.b.op) ∧ V.cell? ⟨wr.heap.size, 12, none⟩ = some (str p.r.b.text) ∧ V.cell? ⟨wr.heap.size, 13, none⟩ = some (.int .i64 p.r.b.n) ∧ V.cell? ⟨wr.heap.size, 14, none⟩ = some (.int .i64 p.r.b.box.x0) ∧ V.cell? ⟨wr.heap.size, 15, none⟩ = some (.int .i64 p.r.b.box.y0) ∧ V.cell? ⟨wr.heap.size, 16, none⟩ = some (.int .i64 p.r.b.box.x1) ∧ V.cell? ⟨wr.heap.size, 17, none⟩ = some (.int .i64 p.r.b.box.y1) ∧ V.cell? ⟨wr.heap.size, 18, none⟩ = some (.slice b1 b2 b3) ∧ Hid (Kp w5 V none)) (by kernel_rfl) ?_ (fun hHeld => ?_)
   ·exact ⟨E3.out _ ((Kp.refl w5 none).drew), E4.out _ ((Kp.refl w5 none).drew), E5.out _ ((Kp.refl w5 none).drew), E6.out _ ((Kp.refl w5 none).drew), E7.out _ ((Kp.refl w5 none).drew), E8.out _ ((Kp.refl w5 none).drew), E9.out _ ((Kp.refl w5 none).drew), E10.out _ ((Kp.refl w5 none).drew), E11.out _ ((Kp.refl w5 none).drew), E12.out _ ((Kp.refl w5 none).drew), E13.out _ ((Kp.refl w5 none).drew), E14.out _ ((Kp.refl w5 none).drew), E15.out _ ((Kp.refl w5 none).drew), E16.out _ ((Kp.refl w5 none).drew), E17.out _ ((Kp.refl w5 none).drew), E18.out _ ((Kp.refl w5 none).drew), Lib.hid ((Kp.refl w5 none).drew)⟩
   refine wpAnyH_take (i := 0) (oi := _) (v := ?_) rfl (by kernel_rfl) (by kernel_rfl) (by kernel_rfl) (fun _ _ _ h => h) (Or.inl ⟨by rfl, ?_⟩) (by assumption) ?_
   rotate_left
   ·(intro w hSw; (try dsimp only at hSw); go_simp <;> with_reducible rfl)
   try simp only [Act.put, List.getElem_toArray, List.getElem_cons_zero, List.setIfInBounds_toArray, List.set_cons_zero, List.set_cons_succ]
   refine wpAnyH_take (i := 1) (oi := _) (v := ?_) rfl (by kernel_rfl) (by kernel_rfl) (by kernel_rfl) (fun _ _ _ h => h) (Or.inl ⟨by rfl, ?_⟩) (by assumption) ?_
   rotate_left
   ·(intro w hSw; (try dsimp only at hSw); go_simp <;> with_reducible rfl)
   try simp only [Act.put, List.getElem_toArray, List.getElem_cons_zero, List.getElem_cons_succ, List.setIfInBounds_toArray, List.set_cons_zero, List.set_cons_succ]
   refine wpAnyH_take (i := 3) (oi := _) (v := ?_) rfl (by kernel_rfl) (by kernel_rfl) (by kernel_rfl) (fun _ _ _ h => h) (Or.inl ⟨by rfl, ?_⟩) (by assumption) ?_
   rotate_left
   ·(intro w hSw; (try dsimp only at hSw); go_simp <;> with_reducible rfl)
   try simp only [Act.put, List.getElem_toArray, List.getElem_cons_zero, List.getElem_cons_succ, List.setIfInBounds_toArray, List.set_cons_zero, List.set_cons_succ]
   refine wpAnyH_take (i := 4) (oi := _) (v := ?_) rfl (by kernel_rfl) (by kernel_rfl) (by kernel_rfl) (fun _ _ _ h => h) (Or.inl ⟨by rfl, ?_⟩) (by assumption) ?_
   rotate_left
   ·(intro w hSw; (try dsimp only at hSw); go_simp <;> with_reducible rfl)
   try simp only [Act.put, List.getElem_toArray, List.getElem_cons_zero, List.getElem_cons_succ, List.setIfInBounds_toArray, List.set_cons_zero, List.set_cons_succ]
   refine wpAnyH_ready (rs := [2]) (by kernel_rfl) (by simp) ?_
   refine AllReadyH.cons (o := _) rfl (fun K hK => ?_) AllReadyH.nil
   have gK := hHeld.2.2.2.2.2.2.2.2.2.2.2.2.2.2.2.2
   clear hHeld
   go_simp
   refine (D38a.out _ (hK5.out.trans gK.out)).mono ?_
   rintro e w6 ⟨rfl, hk6⟩
   have kk := gK.out.trans hk6
   clear hk6
   try go_wp2_with fail
   refine hK.out _ _ ?_ (fun hHeld => ?_)
   ·exact ⟨E3.out _ kk, E4.out _ kk, E5.out _ kk, E6.out _ kk, E7.out _ kk, E8.out _ kk, E9.out _ kk, E10.out _ kk, E11.out _ kk, E12.out _ kk, E13.out _ kk, E14.out _ kk, E15.out _ kk, E16.out _ kk, E17.out _ kk, E18.out _ kk, Lib.hid kk⟩
   clear hK K gK
   try simp only [Act.put, List.getElem_toArray, List.getElem_cons_zero, List.getElem_cons_succ, List.setIfInBounds_toArray, List.set_cons_zero, List.set_cons_succ]
   clear kk
   refine wpAnyH_ready (rs := [5]) (by kernel_rfl) (by simp) ?_
   refine AllReadyH.cons (o := _) rfl (fun K hK => ?_) AllReadyH.nil
   have gK := hHeld.2.2.2.2.2.2.2.2.2.2.2.2.2.2.2.2
   clear hHeld
   go_simp
   refine (D38b.out _ (hK5.out.trans gK.out)).mono ?_
   rintro e w7 ⟨rfl, hk7⟩
   have kk := gK.out.trans hk7
   have HK7 := Lib.hid (hK5.out.trans kk)
   have f2 := E2.out _ kk
   have f11 := E11.out _ kk
   clear hk7
   try go_wp2_with fail
   refine hK.out _ _ ?_ (fun hHeld => ?_)
   ·exact ⟨E3.out _ kk, E4.out _ kk, E5.out _ kk, E6.out _ kk, E7.out _ kk, E8.out _ kk, E9.out _ kk, E10.out _ kk, E11.out _ kk, E12.out _ kk, E13.out _ kk, E14.out _ kk, E15.out _ kk, E16.out _ kk, E17.out _ kk, E18.out _ kk, Lib.hid kk⟩
   clear hK K gK
   try simp only [Act.put, List.getElem_toArray, List.getElem_cons_zero, List.getElem_cons_succ, List.setIfInBounds_toArray, List.set_cons_zero, List.set_cons_succ]
   clear kk
   refine wpAnyH_take (i := 6) (oi := _) (v := ?_) rfl (by kernel_rfl) (by kernel_rfl) (by kernel_rfl) (fun _ _ _ h => h) (Or.inl ⟨by rfl, ?_⟩) (by assumption) ?_
   rotate_left
   ·(intro w hSw; (try dsimp only at hSw); go_simp <;> with_reducible rfl)
   try simp only [Act.put, List.getElem_toArray, List.getElem_cons_zero, List.getElem_cons_succ, List.setIfInBounds_toArray, List.set_cons_zero, List.set_cons_succ]
   refine wpAnyH_take (i := 7) (oi := _) (v := ?_) rfl (by kernel_rfl) (by kernel_rfl) (by kernel_rfl) (fun _ _ _ h => h) (Or.inl ⟨by rfl, ?_⟩) (by assumption) ?_
   rotate_left
   ·(intro w hSw; (try dsimp only at hSw); go_simp <;> with_reducible rfl)
   try simp only [Act.put, List.getElem_toArray, List.getElem_cons_zero, List.getElem_cons_succ, List.setIfInBounds_toArray, List.set_cons_zero, List.set_cons_succ]
   refine wpAnyH_ready (rs := [8]) (by kernel_rfl) (by simp) ?_
   refine AllReadyH.cons (o := _) rfl (fun K hK => ?_) AllReadyH.nil
   have gK := hHeld.2.2.2.2.2.2.2.2.2.2.2.2.2.2.2.2
   clear hHeld
   go_simp
   try go_wp2_with fail
   refine hK.out _ _ ?_ (fun hHeld => ?_)
   ·exact ⟨E3.out _ gK.out, E4.out _ gK.out, E5.out _ gK.out, E6.out _ gK.out, E7.out _ gK.out, E8.out _ gK.out, E9.out _ gK.out, E10.out _ gK.out, E11.out _ gK.out, E12.out _ gK.out, E13.out _ gK.out, E14.out _ gK.out, E15.out _ gK.out, E16.out _ gK.out, E17.out _ gK.out, E18.out _ gK.out, Lib.hid gK.out⟩
   clear hK K gK
   try simp only [Act.put, List.getElem_toArray, List.getElem_cons_zero, List.getElem_cons_succ, List.setIfInBounds_toArray, List.set_cons_zero, List.set_cons_succ]
   clear hHeld
   refine wpAnyH_done (by kernel_rfl) ?_ _
   by_cases q8 : (20 : Int) < max (za : Int) (zb : Int)
   case pos =>
    have HRES : Hid (Ru.checkL [] (ps.map (·.r)) = 2) := Lib.hid (by rw [HC1.out]; exact one_ne (by unfold Ru.one; rw [if_neg (by rw [q1]; decide), if_neg q2, if_neg (by omega), if_neg (by omega), if_neg (by omega), if_neg (by rw [q6, q7]; decide), if_pos (by rw [hza, hzb]; omega)]) (by decide))
    go_wp2_with fail
    go_ret
    exact ⟨by rw [HRES.out]; rfl, HK.out.trans HK7.out⟩
   by_cases q9 : p.r.what = 1
   case pos =>
    have q9b : (p.r.what != 1) = false := by simp [q9]
    have H0 : Hid (Ru.one p.r ((ps.take k).map (·.r.name)) = 0) := Lib.hid (by unfold Ru.one; rw [if_neg (by rw [q1]; decide), if_neg q2, if_neg (by omega), if_neg (by omega), if_neg (by omega), if_neg (by rw [q6, q7]; decide), if_neg (by rw [hza, hzb]; omega), if_neg (fun h => h.1 q9)])
    have HN : Hid (Ru.checkL [] (ps.map (·.r)) = Ru.checkL ((ps.take (k + 1)).map (·.r.name)) ((ps.drop (k + 1)).map (·.r))) := Lib.hid (by rw [HC1.out, one_go H0.out, HTK.out])
    go_wp2_with fail
    go_roundw
    case rel => exact ⟨k + 1, hlt, by go_num, HN, HK.out.trans HK7.out⟩
    case measure => simp [intOf]; omega
   have q9b : (p.r.what != 1) = true := by simpa using q9
   by_cases q10 : p.r.b.op = 1
   case pos =>
    have q10b : (p.r.b.op != 1) = false := by simp [q10]
    have H0 : Hid (Ru.one p.r ((ps.take k).map (·.r.name)) = 0) := Lib.hid (by unfold Ru.one; rw [if_neg (by rw [q1]; decide), if_neg q2, if_neg (by omega), if_neg (by omega), if_neg (by omega), if_neg (by rw [q6, q7]; decide), if_neg (by rw [hza, hzb]; omega), if_neg (fun h => h.2 q10)])
    have HN : Hid (Ru.checkL [] (ps.map (·.r)) = Ru.checkL ((ps.take (k + 1)).map (·.r.name)) ((ps.drop (k + 1)).map (·.r))) := Lib.hid (by rw [HC1.out, one_go H0.out, HTK.out])
    go_wp2_with fail
    go_roundw
    case rel => exact ⟨k + 1, hlt, by go_num, HN, HK.out.trans HK7.out⟩
    case measure => simp [intOf]; omega
   have q10b : (p.r.b.op != 1) = true := by simpa using q10
   have HRES : Hid (Ru.checkL [] (ps.map (·.r)) = 40) := Lib.hid (by rw [HC1.out]; exact one_ne (by unfold Ru.one; rw [if_neg (by rw [q1]; decide), if_neg q2, if_neg (by omega), if_neg (by omega), if_neg (by omega), if_neg (by rw [q6, q7]; decide), if_neg (by rw [hza, hzb]; omega), if_pos ⟨q9, q10⟩]) (by decide))
   go_wp2_with fail
   go_ret
   exact ⟨by rw [HRES.out]; rfl, HK.out.trans HK7.out⟩
  ·have HA : Hid (Ru.checkL [] (ps.map (·.r)) = 0) := Lib.hid (by rw [HC.out, List.drop_of_length_le (by omega)]; rfl)
   have hkn1 : ¬ (k : Int) < (ps.length : Int) := by omega
   go_wp2_with fail
   go_ret
   exact ⟨by rw [HA.out]; rfl, HK.out⟩
end Go.Proofs.YtnchipahdfbliaaGreatDoor
