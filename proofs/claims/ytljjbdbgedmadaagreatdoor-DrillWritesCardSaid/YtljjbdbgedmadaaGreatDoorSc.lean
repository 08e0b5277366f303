/- The numbers of a line of the form of a pattern (scanned). Condition: lines of at most 10^9 bytes. -/
import Derived.Test.YtljjbdbgedmadaaGreatDoorSq
set_option maxHeartbeats 16000000
set_option maxRecDepth 100000
namespace Go.Proofs.YtljjbdbgedmadaaGreatDoor
open Go.RowKit
def Pat (pat p : List UInt8) (ps : List (List UInt8)) : Prop := Lib.countB (⟨pat.toArray⟩ : ByteArray) ⟨#[35]⟩ = ps.length ∧ Lib.splitB (⟨#[35]⟩ : ByteArray) 0 ps.length ⟨pat.toArray⟩ = (p :: ps).map fun l => (⟨l.toArray⟩ : ByteArray)
def ScanIs (x : Option (List Int)) (w : World) (E : Ending) (w' : World) : Prop := (match x with
 | some ns => ∃ ao cap, E = .returned (.tuple #[.slice ao ns.length cap, .bool true]) ∧ LiesAt 1 intVal w' ao cap ns ∧ ∀ q, ao = some q → w.heap.size ≤ q.block
 | none => ∃ ao n cap, E = .returned (.tuple #[.slice ao n cap, .bool false])) ∧ Kp w w' none
theorem scan_no {x : Option (List Int)} {w w' : World} (h : x = none) (ao : Option Addr) (n cap : Nat) (k : Kp w w' none) : ScanIs x w (.returned (.tuple #[.slice ao n cap, .bool false])) w' := by subst h; exact ⟨⟨ao, n, cap, rfl⟩, k⟩
def ScRel (p : List UInt8) (ps : List (List UInt8)) (s : List UInt8) (k : Nat) (ms : List Int) (r : List UInt8) : Prop := match k with
 | 0 => ms = [] ∧ r = s
 | j + 1 => Dl.scan p ps s = (Dl.scanR (ps.drop j) r).map (ms ++ ·) ∧ ms.length = j
def ScLoop (p : List UInt8) (ps : List (List UInt8)) (s : List UInt8) (w : World) (A : Array Value) (v0 v6 i : Value) (wr : World) : Prop := ∃ (k : Nat) (ms : List Int) (r : List UInt8), k ≤ ps.length + 1 ∧ i = I6 k ∧ v0 = str r ∧ wr.ownsRow (w.heap.size + 1) 3 1 v6 ms.length (ms.flatMap intVal) ∧ Kp w wr none ∧ wr.heap[w.heap.size]? = some (.cells A 9 (0, 0)) ∧ r.length ≤ s.length ∧ ms.length ≤ k ∧ ScRel p ps s k ms r
theorem take_ext (r tl : List UInt8) (h : tl = r.takeWhile Dl.numC) : (⟨r.toArray⟩ : ByteArray).extract 0 tl.length = ⟨tl.toArray⟩ := by
 have e : r.take tl.length = tl := by
  obtain ⟨e, _⟩ := Dl.tw_split Dl.numC r
  rw [← h] at e
  conv => lhs; rw [e]
  simp
 apply ByteArray.ext
 rw [ByteArray.data_extract]
 show r.toArray.extract 0 tl.length = tl.toArray
 rw [List.extract_toArray]
 congr 1
theorem drop_ext (r tl dl : List UInt8) (h : tl = r.takeWhile Dl.numC) (hd : dl = r.dropWhile Dl.numC) : (⟨r.toArray⟩ : ByteArray).extract tl.length (⟨r.toArray⟩ : ByteArray).size = ⟨dl.toArray⟩ := by
 have e : r.drop tl.length = dl := by
  obtain ⟨e, _⟩ := Dl.tw_split Dl.numC r
  rw [← h, ← hd] at e
  conv => lhs; rw [e]
  simp
 rw [size_str]
 apply ByteArray.ext
 rw [ByteArray.data_extract]
 show r.toArray.extract tl.length r.length = dl.toArray
 rw [List.extract_toArray]
 congr 1
 rw [List.extract_eq_take_drop, e]; rw [List.take_of_length_le]; rw [← e, List.length_drop]; omega
theorem mag_trim (n : Int) : (Lib.trimPrefix (Lib.itoa n) [45]).length = (Wr.mag (Lib.itoa n)).length := by
 unfold Lib.trimPrefix Lib.itoa Lib.hasPrefix Wr.mag
 by_cases h : n < 0
 ·rw [if_pos h]; rfl
 ·rw [if_neg h]; have hh := Wr.dec_head n.toNat
  cases hd : Lib.decDigits n.toNat with
  | nil => rfl
  | cons c l =>
   rw [hd] at hh; simp only [Wr.neg, List.head?_cons] at hh
   have hc : ¬ c = 45 := by intro e; subst e; simp at hh
   have hc2 : (45 == c) = false := by simpa using fun e => hc e.symm
   simp [List.isPrefixOf, hc2, Wr.neg, hc]
theorem scanned_any (pat p : List UInt8) (ps : List (List UInt8)) (hpat : Pat pat p ps) (hps : ps.length ≤ 100) (hpl : pat.length ≤ 1000) (s : List UInt8) (hs : s.length ≤ 1000000000) (w : World) (he : Env w) :
  Calls Tryz.prog 186 #[str s, str pat] w fun E w' => ScanIs (Dl.scan p ps s) w E w' := by
 obtain ⟨m0, hm0⟩ := he.mx
 have cs := Tryz.strings_Split ⟨pat.toArray⟩ ⟨#[35]⟩ m0 w (by rw [size_str]; omega) hm0 (by decide)
 rw [hpat.1, hpat.2] at cs
 replace cs : Calls Tryz.prog 213 #[str pat, .string ⟨#[35]⟩] w fun e w' => e = .returned (.slice (some ⟨w.heap.size, 0, none⟩) (ps.length + 1) (ps.length + 1)) ∧ w' = w.alloc (.cells ((p :: ps).map str).toArray 9) := by
  refine cs.mono ?_
  rintro e w' ⟨rfl, rfl⟩; rw [List.map_map]; exact ⟨rfl, rfl⟩
 obtain ⟨A, hA⟩ : ∃ A, ((p :: ps).map str).toArray = A := ⟨_, rfl⟩
 have HA : Hid (∀ k, (h : k < (p :: ps).length) → A[k]? = some (str (p :: ps)[k])) := oh fun k h => by rw [← hA, List.getElem?_toArray, List.getElem?_map, List.getElem?_eq_getElem h]; rfl
 rw [hA] at cs; have HCS := oh cs; clear hA; have HE := oh he; obtain ⟨i0, hi, hz0, hz1, hz2⟩ := info_parts infoInt
 obtain ⟨n, hn⟩ : ∃ n, ps.length + 1 = n := ⟨_, rfl⟩
 rw [hn] at HCS; have hn0 := nn n; have hn9 : n ≤ 101 := by omega
 have HBN := oh (heap_alloc_new w (.cells A 9))
 have KB : Hid (Kp w (w.alloc (.cells A 9)) none) := oh ((Kp.refl w none).alloc _)
 have HSZ : Hid (w.heap.size + 1 ≤ (w.alloc (.cells A 9)).heap.size) := oh (by simp)
 clear hm0 cs he hpat; have HN := oh hn; clear hn; go_enter Tryz.func186, Tryz.ntmps186
 go_wp2_with (go_at_call 213; refine HCS.out.mono ?_; rintro e w1 ⟨rfl, hw1⟩)
 subst hw1
 generalize w.alloc (.cells A 9) = w1 at *
 go_loopw [0, 6, 17] (fun v0 v6 i wr => ScLoop p ps s w A v0 v6 i wr) (fun _ _ i _ => n - (intOf i).toNat)
 case atStart => exact ⟨0, [], s, Nat.zero_le _, rfl, rfl, ⟨by rfl, .inl ⟨rfl, rfl⟩⟩, KB.out, HBN.out, Nat.le_refl _, Nat.zero_le _, rfl, rfl⟩
 case round =>
  obtain ⟨k, ms, r, hk, rfl, rfl, hown, hkp, hbn, hrl, hml, hsc⟩ := hrel; have HO := oh hown; have HK := oh hkp; have HB := oh hbn; have HSC := oh hsc; clear hown hkp hbn hsc KB HBN HCS
  have hk0 := nn k
  by_cases hlt : k < n
  ·have hk1 : (k : Int) < (n : Int) := by omega
   have hkl : k < (p :: ps).length := by rw [List.length_cons, HN.out]; exact hlt
   obtain ⟨part, hpart⟩ : ∃ x, (p :: ps)[k] = x := ⟨_, rfl⟩
   have c0 : wr.cell? ⟨w.heap.size, k, none⟩ = some (str part) := by
    rw [Lib.cell_of_heap HB.out, HA.out k hkl, hpart]
   have HPT := oh hpart; clear hpart
   cases k with
   | zero =>
    have hp0 : part = p := by rw [← HPT.out]; rfl
    subst hp0; obtain ⟨hms, hrs⟩ := HSC.out; subst hms; subst hrs; rw [show ((0 : Nat) : Int) = 0 from rfl]
    cases hst : Dl.strip part r with
    | none =>
     have HC := oh (fun V => cut_no r part V hst)
     have HR : Hid (Dl.scan part ps r = none) := oh (by unfold Dl.scan; rw [hst]; rfl)
     clear hst; go_wp2_with (go_at_call 218; refine (HC.out _).mono ?_; rintro e w2 ⟨⟨r2, rfl⟩, rfl⟩)
     go_ret2
     exact scan_no HR.out none 0 0 HK.out
    | some r2 =>
     have HC := oh (fun V => cut_yes r part r2 V hst)
     have HR : Hid (Dl.scan part ps r = (Dl.scanR (ps.drop 0) r2).map ([] ++ ·)) := oh (by unfold Dl.scan; rw [hst]; simp)
     have HL := oh (strip_len hst); clear hst
     go_wp2_with (go_at_call 218; refine (HC.out _).mono ?_; rintro e w2 ⟨rfl, rfl⟩)
     have HREL : Hid (ScLoop part ps r w A (str r2) u6 (I6 1) wr) := oh ⟨1, [], r2, by omega, by go_num, rfl, HO.out, HK.out, HB.out, HL.out, by simp, HR.out, rfl⟩
     first | exact ⟨HREL.out, by simp [intOf]; omega⟩ | (go_roundw; all_goals first | exact HREL.out | (simp [intOf]; omega))
   | succ j =>
    have hjn : j < ps.length := by have := HN.out; omega
    obtain ⟨hsc1, hsc2⟩ := HSC.out
    have hdr : ps.drop j = part :: ps.drop (j + 1) := by
     rw [List.drop_eq_getElem_cons hjn]; have := HPT.out
     simp only [List.getElem_cons_succ] at this
     rw [this]
    rw [hdr] at hsc1; obtain ⟨tl, htl⟩ : ∃ x, r.takeWhile Dl.numC = x := ⟨_, rfl⟩
    obtain ⟨dl, hdl⟩ : ∃ x, r.dropWhile Dl.numC = x := ⟨_, rfl⟩
    obtain ⟨hsp, _, _⟩ := Dl.tw_split Dl.numC r
    rw [htl, hdl] at hsp; have hrlen : r.length = tl.length + dl.length := by rw [hsp, List.length_append]
    have HX1 := oh (take_ext r tl htl.symm); have HX2 := oh (drop_ext r tl dl htl.symm hdl.symm)
    have HIN : Hid (∀ V, Calls Tryz.prog 214 #[str r, .func (.func 215) #[] #[]] V fun e w' => e = .returned (I6 (if tl.length < r.length then (tl.length : Int) else -1)) ∧ Kp V w' none) := oh fun V => by have := index_num r V; rw [htl] at this; exact this
    have HDP := hsc1; rw [Dl.scanR, htl, hdl] at HDP; have HD := oh HDP; have HML := oh hsc2; have HPA := oh hdr; clear hsc1 hsc2 hdr HDP HSC htl hdl hsp; have ht0 : (0 : Int) ≤ (tl.length : Int) := Int.natCast_nonneg _
    obtain ⟨e0, he0⟩ : ∃ x, (if tl.length < r.length then (tl.length : Int) else -1) = x := ⟨_, rfl⟩
    rw [he0] at HIN
    have HE0 : Hid ((e0 = (tl.length : Int) ∧ tl.length < r.length) ∨ (e0 = -1 ∧ tl.length = r.length)) := oh (by
     by_cases hh : tl.length < r.length
     ·rw [if_pos hh] at he0; exact .inl ⟨he0.symm, hh⟩
     ·rw [if_neg hh] at he0; exact .inr ⟨he0.symm, by omega⟩)
    clear he0; obtain ⟨t, htn⟩ : ∃ x, tl.length = x := ⟨_, rfl⟩
    rw [htn] at HE0 HX1 HX2 ht0 hrlen; have HTN := oh htn; clear htn; rw [show ((j + 1 : Nat) : Int) = (j : Int) + 1 from by omega]; have hj0 := nn j; have hpos : (0 : Int) < (j : Int) + 1 := by omega
    have hkn : (j : Int) + 1 < (n : Int) := by omega
    have c1 : wr.cell? ⟨w.heap.size, j + 1, none⟩ = some (str part) := c0
    obtain ⟨s0, hs0⟩ : ∃ s0 : ByteArray, ⟨r.toArray⟩ = s0 := ⟨_, rfl⟩
    have hs0n : s0.size = r.length := by rw [← hs0]; exact size_str r
    show Code.wp _ _ _ _ _
    simp only [str] at HIN ⊢
    rw [hs0] at HX1 HX2 HIN ⊢; have HS0 := oh hs0; have HSN := oh hs0n; clear hk hk0 hk1 c0; have htr : t ≤ r.length := by omega
    have hts : (t : Int) ≤ (s0.size : Int) := by omega
    have hsz9 : (s0.size : Int) ≤ 1000000000 := by omega
    clear hs0n hs0; go_upto_if 27 with (go_at_call 214; refine (HIN.out _).mono ?_; rintro e w2 ⟨rfl, k2⟩; have K2 := oh k2; clear k2)
    go_cut [27, 9] from 28 to 29 (fun _ x wx => x = I6 (t : Int) ∧ wx = w2)
    case first =>
     rcases HE0.out with ⟨h1, h2⟩ | ⟨h1, h2⟩
     ·subst h1; have h3 : ¬ (t : Int) < 0 := by omega
      clear h2; go_wp2_with fail
      go_meet
      exact ⟨rfl, rfl⟩
     ·subst h1; subst h2; go_wp2_with fail
      go_meet
      exact ⟨by rw [HSN.out], rfl⟩
    case rest =>
     obtain ⟨rfl, hwc⟩ := hcut
     have hwc := hwc.symm
     subst hwc; have HENV : Hid (∀ V, Kp wr V none → Env V) := oh fun V kv => HE.out.kp0 (HK.out.trans kv)
     have hx1 := HX1.out; have htl9 : tl.length ≤ 281474976710656 := by have := HTN.out; omega
     by_cases ho : ∃ v, Lib.atoiAll tl = .ok v
     ·obtain ⟨v, hv⟩ := ho
      have hI := Wr.atoi_range hv
      have hp := parse_ok hv
      have HCA := oh (fun V => atoi_yes tl v V htl9 hv)
      have HIT0 := oh (fun V (kv : Kp w2 V none) => itoa64 v V (HENV.out _ (K2.out.trans kv)) hI)
      clear hv htl9
      by_cases heq : Lib.itoa v = tl
      ·rw [if_pos heq] at hp; have hcn := Dl.canon_of hp
       have hmg := mag_trim v
       rw [heq] at hmg; have HTR0 := oh (fun V => Tryz.strings_TrimPrefix ⟨tl.toArray⟩ ⟨#[45]⟩ V)
       obtain ⟨z, hz⟩ : ∃ z, Lib.trimPrefix tl [45] = z := ⟨_, rfl⟩
       rw [hz] at hmg; rw [← hmg] at hcn
       have HTR : Hid (∀ V, Calls Tryz.prog 217 #[.string ⟨tl.toArray⟩, .string ⟨#[45]⟩] V fun e w' => e = .returned (str z) ∧ w' = V) := oh fun V => by
        have h := HTR0.out V
        have e1 : (⟨#[45]⟩ : ByteArray).data.toList = [45] := rfl
        rw [data_str, e1, hz] at h; exact h
       have HIT : Hid (∀ V, Kp w2 V none → Calls Tryz.prog 98 #[I6 v] V fun e w' => e = .returned (.string ⟨tl.toArray⟩) ∧ Kp V w' none) := oh fun V kv => by have := HIT0.out V kv; rw [heq] at this; exact this
       have hb1 : (tl == tl) = true := by simp
       have hb2 : (tl != tl) = false := by simp
       clear HTR0 HIT0 hz hmg heq hp
       by_cases hl : z.length ≤ 9
       ·rw [if_pos hl] at hcn
        have HD2 : Hid (Dl.scan p ps s = (match Dl.strip part dl with | some r => (Dl.scanR (ps.drop (j + 1)) r).map (v :: ·) | none => none).map (ms ++ ·)) := oh (by
         rw [HD.out, hcn]
         cases Dl.strip part dl <;> rfl)
        have hz9 : ¬ (9 : Int) < (z.length : Int) := by omega
        clear hcn hl; go_upto_region 10 with (go_at_call 216; refine (HCA.out _).mono ?_; rintro e w4 ⟨rfl, k4⟩; have KW := oh k4; have K4 := oh (K2.out.trans k4); clear k4)
        have HIT2 : Hid (∀ V, Kp w4 V none → Calls Tryz.prog 98 #[I6 v] V fun e w' => e = .returned (.string ⟨tl.toArray⟩) ∧ Kp V w' none) := oh fun V kv => HIT.out V (KW.out.trans kv)
        refine wp_region_held_drew (S := fun V => Hid (Kp w4 V none)) (by kernel_rfl) (oh (Kp.refl _ none).drew) (fun eh => ?_)
        refine tjH 0 rfl ?_; refine tjH 1 rfl ?_; refine tjH 2 rfl ?_; refine tjH 3 rfl ?_; refine tjH 5 rfl ?_; refine tjH 6 rfl ?_; refine tjH 7 rfl ?_; refine rdH 4 rfl (fun K hK => ?_); have gK := eh; clear eh; go_simp
        refine (HIT2.out _ gK.out).mono ?_
        rintro e CW1 ⟨rfl, kk⟩; try go_wp2_with fail
        refine hK.out _ _ (oh (gK.out.trans kk)) (fun eh => ?_)
        clear hK K gK kk; try simp only [Act.put, sm]
        refine tjH 8 rfl ?_; refine tjH 9 rfl ?_; refine tjH 10 rfl ?_; refine tjH 11 rfl ?_; refine tjH 12 rfl ?_; refine tjH 13 rfl ?_; refine rdH 14 rfl (fun K hK => ?_); have gK := eh; clear eh; go_simp
        refine (HTR.out _).mono ?_
        rintro e CW9 ⟨rfl, rfl⟩; have kk := Kp.refl CW9 none
        try go_wp2_with fail
        refine hK.out _ _ (oh (gK.out.trans kk)) (fun eh => ?_)
        clear hK K gK kk; try simp only [Act.put, sm]
        refine tjH 15 rfl ?_; refine tjH 16 rfl ?_; refine tjH 17 rfl ?_
        refine wpAnyH_done (by kernel_rfl) ?_ _
        have KC := oh eh.out
        clear eh hb1 hb2; have hx2 := HX2.out
        cases hst : Dl.strip part dl with
        | none =>
         have HC := oh (fun V => cut_no dl part V hst)
         have HR : Hid (Dl.scan p ps s = none) := oh (by rw [HD2.out, hst]; rfl)
         clear hst
         go_wp2_with (first | (at_builtin; go_must (refine wpList_app (f := intVal) rfl (.tmp 55) (.tmp 57) (w.heap.size + 1) 83 3 rfl i0 _ 1 8 Tryz.underlying83 hi hz0 hz1 hz2 rfl (by omega) (fun _ => rfl) (by intro x u hu; simp [intVal] at hu; subst hu; rfl) u6 ms.length _ rfl (own_kp HO.out ((K4.out.trans KC.out).trans ((Kp.refl _ none).alloc _))) _ [v] rfl (int_list v) (by unfold maxLen; simp; omega) (by simp; omega) (by have := (K4.out.trans KC.out).size; have := HK.out.size; have := HSZ.out; have := lt_of_block HB.out; simp; omega) ?_); intro v3 w7 ho hg _; have HO7 := oh ho; have HG7 := oh hg; have KC2 := oh (K4.out.trans KC.out); have KA := oh (Kp.row (HK.out.trans (KC2.out.trans ((Kp.refl _ none).alloc _))) hg (fun q hq => by have := (HO.out.lt q hq).1; omega)); clear ho hg) | (go_at_call 218; refine (HC.out _).mono ?_; rintro e w8 ⟨⟨r2, rfl⟩, rfl⟩) | fail)
         go_ret2
         exact scan_no HR.out none 0 0 KA.out
        | some r2 =>
         have HC := oh (fun V => cut_yes dl part r2 V hst)
         have HR : Hid (Dl.scan p ps s = (Dl.scanR (ps.drop (j + 1)) r2).map ((ms ++ [v]) ++ ·)) := oh (by
          rw [HD2.out, hst, Option.map_map]
          congr 1
          funext x
          simp)
         have hst2 := strip_len hst
         have HL : Hid (r2.length ≤ s.length) := oh (by omega)
         clear hst hst2
         go_wp2_with (first | (at_builtin; go_must (refine wpList_app (f := intVal) rfl (.tmp 55) (.tmp 57) (w.heap.size + 1) 83 3 rfl i0 _ 1 8 Tryz.underlying83 hi hz0 hz1 hz2 rfl (by omega) (fun _ => rfl) (by intro x u hu; simp [intVal] at hu; subst hu; rfl) u6 ms.length _ rfl (own_kp HO.out ((K4.out.trans KC.out).trans ((Kp.refl _ none).alloc _))) _ [v] rfl (int_list v) (by unfold maxLen; simp; omega) (by simp; omega) (by have := (K4.out.trans KC.out).size; have := HK.out.size; have := HSZ.out; have := lt_of_block HB.out; simp; omega) ?_); intro v3 w7 ho hg _; have HO7 := oh ho; have HG7 := oh hg; have KC2 := oh (K4.out.trans KC.out); have KA := oh (Kp.row (HK.out.trans (KC2.out.trans ((Kp.refl _ none).alloc _))) hg (fun q hq => by have := (HO.out.lt q hq).1; omega)); clear ho hg) | (go_at_call 218; refine (HC.out _).mono ?_; rintro e w8 ⟨rfl, rfl⟩) | fail)
         have HREL : Hid (ScLoop p ps s w A (str r2) v3 (I6 ((j : Int) + 1 + 1)) w7) := oh ⟨j + 2, ms ++ [v], r2, by omega, by go_num, rfl, by rw [List.length_append, List.flatMap_append]; exact HO7.out, KA.out, res_kept (blk HB.out (KC2.out.trans ((Kp.refl _ none).alloc _))) HG7.out (fun q hq => by have := (HO.out.lt q hq).1; omega), HL.out, by rw [List.length_append]; have := HML.out; simp only [List.length_cons, List.length_nil]; omega, HR.out, by rw [List.length_append, HML.out]; rfl⟩
         first | exact ⟨HREL.out, by simp [intOf]; omega⟩ | (go_roundw; all_goals first | exact HREL.out | (simp [intOf]; omega))
       ·rw [if_neg hl] at hcn; have HR : Hid (Dl.scan p ps s = none) := oh (by rw [HD.out, hcn]; rfl)
        have hz9 : (9 : Int) < (z.length : Int) := by omega
        clear hcn hl; go_upto_region 10 with (go_at_call 216; refine (HCA.out _).mono ?_; rintro e w4 ⟨rfl, k4⟩; have KW := oh k4; have K4 := oh (K2.out.trans k4); clear k4)
        have HIT2 : Hid (∀ V, Kp w4 V none → Calls Tryz.prog 98 #[I6 v] V fun e w' => e = .returned (.string ⟨tl.toArray⟩) ∧ Kp V w' none) := oh fun V kv => HIT.out V (KW.out.trans kv)
        refine wp_region_held_drew (S := fun V => Hid (Kp w4 V none)) (by kernel_rfl) (oh (Kp.refl _ none).drew) (fun eh => ?_)
        refine tjH 0 rfl ?_; refine tjH 1 rfl ?_; refine tjH 2 rfl ?_; refine tjH 3 rfl ?_; refine tjH 5 rfl ?_; refine tjH 6 rfl ?_; refine tjH 7 rfl ?_; refine rdH 4 rfl (fun K hK => ?_); have gK := eh; clear eh; go_simp
        refine (HIT2.out _ gK.out).mono ?_
        rintro e CW1 ⟨rfl, kk⟩; try go_wp2_with fail
        refine hK.out _ _ (oh (gK.out.trans kk)) (fun eh => ?_)
        clear hK K gK kk; try simp only [Act.put, sm]
        refine tjH 8 rfl ?_; refine tjH 9 rfl ?_; refine tjH 10 rfl ?_; refine tjH 11 rfl ?_; refine tjH 12 rfl ?_; refine tjH 13 rfl ?_; refine rdH 14 rfl (fun K hK => ?_); have gK := eh; clear eh; go_simp
        refine (HTR.out _).mono ?_
        rintro e CW9 ⟨rfl, rfl⟩; have kk := Kp.refl CW9 none
        try go_wp2_with fail
        refine hK.out _ _ (oh (gK.out.trans kk)) (fun eh => ?_)
        clear hK K gK kk; try simp only [Act.put, sm]
        refine tjH 15 rfl ?_; refine tjH 16 rfl ?_; refine tjH 17 rfl ?_
        refine wpAnyH_done (by kernel_rfl) ?_ _
        have KC := oh eh.out
        clear eh hb1 hb2; go_wp2_with fail
        go_ret2
        exact scan_no HR.out none 0 0 (HK.out.trans (K4.out.trans KC.out))
      ·rw [if_neg heq] at hp; have HR : Hid (Dl.scan p ps s = none) := oh (by rw [HD.out, Dl.canon_no hp]; rfl)
       obtain ⟨it, hit⟩ : ∃ x, Lib.itoa v = x := ⟨_, rfl⟩
       have hb1 : (it == tl) = false := by rw [← hit]; simpa using heq
       have hb2 : (it != tl) = true := by simp [bne, hb1]
       have HIT1 : Hid (∀ V, Kp w2 V none → Calls Tryz.prog 98 #[I6 v] V fun e w' => e = .returned (.string ⟨it.toArray⟩) ∧ Kp V w' none) := oh fun V kv => by have := HIT0.out V kv; rw [hit] at this; exact this
       clear heq hp HIT0 hit; go_upto_region 10 with (go_at_call 216; refine (HCA.out _).mono ?_; rintro e w4 ⟨rfl, k4⟩; have KW := oh k4; have K4 := oh (K2.out.trans k4); clear k4)
       have HIT : Hid (∀ V, Kp w4 V none → Calls Tryz.prog 98 #[I6 v] V fun e w' => e = .returned (.string ⟨it.toArray⟩) ∧ Kp V w' none) := oh fun V kv => HIT1.out V (KW.out.trans kv)
       refine wp_region_held_drew (S := fun V => Hid (Kp w4 V none)) (by kernel_rfl) (oh (Kp.refl _ none).drew) (fun eh => ?_)
       refine tjH 0 rfl ?_; refine tjH 1 rfl ?_; refine tjH 2 rfl ?_; refine tjH 3 rfl ?_; refine tjH 5 rfl ?_; refine tjH 6 rfl ?_; refine tjH 7 rfl ?_; refine rdH 4 rfl (fun K hK => ?_); have gK := eh; clear eh; go_simp
       refine (HIT.out _ gK.out).mono ?_
       rintro e BW1 ⟨rfl, kk⟩; try go_wp2_with fail
       refine hK.out _ _ (oh (gK.out.trans kk)) (fun eh => ?_)
       clear hK K gK kk; try simp only [Act.put, sm]
       refine tjH 8 rfl ?_; refine tjH 9 rfl ?_; refine tjH 10 rfl ?_; refine tjU 11 rfl ?_; refine tjU 12 rfl ?_; refine tjU 13 rfl ?_; refine tjU 14 rfl ?_; refine tjU 15 rfl ?_; refine tjU 16 rfl ?_; refine tjH 17 rfl ?_
       refine wpAnyH_done (by kernel_rfl) ?_ _
       have KC := oh eh.out
       clear eh hb1 hb2; go_wp2_with fail
       go_ret2
       exact scan_no HR.out none 0 0 (HK.out.trans (K4.out.trans KC.out))
     ·have hno : ∀ v, Lib.atoiAll tl ≠ .ok v := fun v hv => ho ⟨v, hv⟩
      have HCA := oh (fun V (hV : Kp wr V none) => atoi_no tl V (HENV.out V hV) htl9 hno)
      have HR : Hid (Dl.scan p ps s = none) := oh (by rw [HD.out, Dl.canon_no (parse_no hno)]; rfl)
      clear ho hno htl9; go_upto_region 10 with (go_at_call 216; refine (HCA.out _ K2.out).mono ?_; rintro e w4 ⟨⟨v, N, rfl⟩, k4⟩; have K4 := oh (K2.out.trans k4); clear k4)
      go_quiet (fail)
      go_wp2_with fail
      go_ret2
      exact scan_no HR.out none 0 0 (HK.out.trans (K4.out.drewN nq))
  ·have hk1 : ¬ (k : Int) < (n : Int) := by omega
   have hkn : k = ps.length + 1 := by have := HN.out; omega
   subst hkn; obtain ⟨hsc1, hsc2⟩ := HSC.out; rw [List.drop_length] at hsc1; have HDP := hsc1; rw [Dl.scanR] at HDP
   obtain ⟨ao, cap, rfl⟩ := own_slice HO.out
   have HFR : Hid (∀ q, ao = some q → w.heap.size ≤ q.block) := oh fun q hq => by
    subst hq; have := (HO.out.lt q.block (by cases q; rfl)).1
    omega
   have HLI := oh (own_lies (m := 1) (f := intVal) (fun _ => rfl) HO.out)
   cases r with
   | nil =>
    have HR : Hid (Dl.scan p ps s = some ms) := oh (by rw [HDP]; simp)
    clear hsc1 hsc2 HDP HSC; go_wp2_with fail
    go_ret2
    exact ⟨by rw [HR.out]; exact ⟨ao, cap, rfl, HLI.out.2, HFR.out⟩, HK.out⟩
   | cons c l =>
    have HR : Hid (Dl.scan p ps s = none) := oh (by rw [HDP]; simp)
    clear hsc1 hsc2 HDP HSC; go_wp2_with fail
    go_ret2
    exact scan_no HR.out _ _ _ HK.out
end Go.Proofs.YtljjbdbgedmadaaGreatDoor
