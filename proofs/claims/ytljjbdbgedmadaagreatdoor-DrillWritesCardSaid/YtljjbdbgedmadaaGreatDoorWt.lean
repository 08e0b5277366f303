/- The program's file of holes. Condition: at most 10^6 holes. -/
import Derived.Test.YtljjbdbgedmadaaGreatDoorSo
import Derived.Test.YtljjbdbgedmadaaGreatDoorWp
import Derived.Test.YtljjbdbgedmadaaGreatDoorHs
import Derived.Test.YtljjbdbgedmadaaGreatDoorDrA
set_option maxHeartbeats 16000000
set_option maxRecDepth 100000
namespace Go.Proofs.YtljjbdbgedmadaaGreatDoor
open Go.RowKit Go.Lib
def WrIs (w : World) (E : Ending) (w' : World) (r : List UInt8 × Int) : Prop := E = .returned (.tuple #[.string ⟨r.1.toArray⟩, I6 r.2]) ∧ Kp w w' none
theorem wr_is {w w' : World} {t : List UInt8} {e : Int} {r : List UInt8 × Int} (hr : r = (t, e)) (k : Kp w w' none) : WrIs w (.returned (.tuple #[.string ⟨t.toArray⟩, I6 e])) w' r := ⟨by rw [hr], k⟩
theorem kp_belowB {W w w' : World} {B : Nat} (h : Kp W w none) (k : Below B w w') (hB : W.heap.size ≤ B) : Kp W w' none :=
 ⟨k.os.trans h.os, k.tape.trans h.tape, k.output.trans h.output, Nat.le_trans h.size k.size, fun g hg hr => (k.block g (by omega)).trans (h.block g hg hr)⟩
theorem compact_le (zs : List Int) : (Lib.compact zs).length ≤ zs.length := by
 unfold Lib.compact Lib.compactUpTo; rw [List.length_map]
 exact Nat.le_trans (List.length_filter_le _ _) (by simp)
theorem write_bad {l : List Dl.Ho} (h : Dl.firstBad l ≠ 0) : Dl.write l = ([], Dl.firstBad l) := by unfold Dl.write; rw [if_pos h]
theorem write_many {l : List Dl.Ho} (h : Dl.firstBad l = 0) (h2 : 990 < (Dl.radii l).length) : Dl.write l = ([], 2) := by unfold Dl.write; rw [if_neg (by rw [h]; simp), if_pos h2]
theorem write_long {l : List Dl.Ho} (h : Dl.firstBad l = 0) (h3 : 262144 < (Dl.fileT l).length) : Dl.write l = ([], 2) := by unfold Dl.write; rw [if_neg (by rw [h]; simp)]; by_cases h2 : 990 < (Dl.radii l).length; rw [if_pos h2]; rw [if_neg h2, if_pos h3]
theorem write_ok {l : List Dl.Ho} (h : Dl.firstBad l = 0) (h2 : ¬ 990 < (Dl.radii l).length) (h3 : ¬ 262144 < (Dl.fileT l).length) : Dl.write l = (Dl.fileT l, 0) := by unfold Dl.write; rw [if_neg (by rw [h]; simp), if_neg h2, if_neg h3]
theorem idx_same {rs : List Int} {r : Int} (h : r ∈ rs) : Lib.idxOf (rs.take rs.length) r = (rs.idxOf r : Int) := by
 have hi : rs.idxOf r < rs.length := List.idxOf_lt_length_of_mem h
 refine Lib.idxOf_hit rs rs.length (rs.idxOf r) r hi (Nat.le_refl _) (by rw [List.getD_eq_getElem?_getD, List.getElem?_eq_getElem hi]; simp) (fun j hj => ?_)
 have hj2 : j < rs.length := by omega
 rw [List.getD_eq_getElem?_getD, List.getElem?_eq_getElem hj2]; simp only [Option.getD_some]
 intro e; have := List.not_of_lt_findIdx (p := (· == r)) (xs := rs) hj
 simp [e] at this
theorem index_any (rs : List Int) (r : Int) (n : Nat) (hn : rs.length = n) (ao : Option Addr) (cap : Nat) (w : World) (h : LiesAt 1 intVal w ao cap rs) (hr : r ∈ rs) (hl : n ≤ 1000000) :
  Calls Tryz.prog 47 #[.slice ao n cap, I6 r] w fun E w' => E = .returned (I6 (rs.idxOf r : Int)) ∧ w = w' := by
 subst hn; obtain ⟨b, off, rfl, hb, hc, hcell⟩ := h.int 0 (List.length_pos_of_mem hr)
 refine (Tryz.slices_Index_int b off rs.length cap rs r w (Nat.le_refl _) (by omega) (fun j hj => ?_)).mono ?_
 ·rw [hcell j hj, List.getD_eq_getElem?_getD, List.getElem?_eq_getElem hj]; rfl
 ·rintro E w' ⟨rfl, rfl⟩; exact ⟨by rw [idx_same hr], rfl⟩
theorem wrap_prev (m : Nat) (h : m ≤ 2000000) : wrap64 ((m : Int) + 1 - 1) = (m : Int) ∧ IntKind.i64.wrap ((m : Int) + 1 - 1) = (m : Int) ∧ wrap64 (m : Int) = (m : Int) ∧ IntKind.i64.wrap (m : Int) = (m : Int) :=
 ⟨by unfold wrap64; omega, by rw [IntKind.wrap_i64]; omega, by unfold wrap64; omega, by rw [IntKind.wrap_i64]; omega⟩
def W1Rel (hs : List Dl.Ho) (w : World) (v i : Value) (wr : World) : Prop := ∃ k : Nat, k ≤ hs.length ∧ i = I6 k ∧ wr.ownsRow w.heap.size 3 1 v k (((hs.take k).map (·.s.r)).flatMap intVal) ∧ (∀ j, (hj2 : j < hs.length) → j < k → Dl.chkH hs[j] = 0) ∧ Kp w wr none
theorem radii_step {hs : List Dl.Ho} {k : Nat} (h : k < hs.length) : ((hs.take (k + 1)).map (·.s.r)).flatMap intVal = ((hs.take k).map (·.s.r)).flatMap intVal ++ [hs[k].s.r].flatMap intVal := by
 rw [List.take_succ_eq_append_getElem h, List.map_append, List.flatMap_append]; rfl
theorem sort_any (hs : List Dl.Ho) (n : Nat) (hn : hs.length = n) (hl : n ≤ 1000000) (base : Nat) (v : Value) (w : World) (h : w.ownsRow base 3 1 v n ((hs.map (·.s.r)).flatMap intVal)) :
  Calls Tryz.prog 43 #[v] w fun E w' => E = .returned (.tuple #[]) ∧ Kp w w' v.ownBlock ∧ Calls Tryz.prog 44 #[v] w' fun E w'' => ∃ ao cap, E = .returned (.slice ao (Dl.radii hs).length cap) ∧ Kp w w'' v.ownBlock ∧ LiesAt 1 intVal w'' ao cap (Dl.radii hs) := by
 obtain ⟨xs, hxs⟩ : ∃ xs, hs.map (·.s.r) = xs := ⟨_, rfl⟩
 have hlen : xs.length = n := by rw [← hxs, List.length_map, hn]
 rw [hxs] at h; rw [← hlen] at h; refine (sortInts_own h (by omega)).mono ?_
 rintro E w1 ⟨rfl, h1, k1⟩; refine ⟨rfl, k1, ?_⟩
 have hl1 : (xs.mergeSort fun x y => decide (x ≤ y)).length = xs.length := List.length_mergeSort _
 refine (compactInts_own h1 (by rw [hl1]; omega) (compact_le _)).mono ?_
 rintro E w2 ⟨ao, cap, rfl, k2, h2⟩; rw [← hxs, Dl.compact_radii] at h2 ⊢; refine ⟨ao, cap, rfl, k1.trans k2, fun k hk => ?_⟩
 obtain ⟨g, cur, e, _, hc, hg, hcs⟩ := h2 (by omega)
 refine ⟨g, 0, e, lt_of_block hg, hc, fun j hj => ?_⟩
 have hj1 : j < 1 := by simpa [intVal] using hj
 have hj0 : j = 0 := by omega
 subst hj0; have := hcs k hk
 rw [Lib.cell_of_heap hg]; simpa [intVal] using this
def W2Rel (l0 : List UInt8) (rs : List Int) (b : Nat) (W : World) (i : Value) (wr : World) : Prop := ∃ k : Nat, k ≤ rs.length ∧ i = I6 k ∧ Wr W.heap.size b (l0 ++ Dl.toolsTo rs k) wr ∧ Kp W wr none
def W3Rel (l1 : List UInt8) (rs : List Int) (hs : List Dl.Ho) (b : Nat) (W : World) (i : Value) (wr : World) : Prop := ∃ k : Nat, k ≤ hs.length ∧ i = I6 k ∧ Wr W.heap.size b (l1 ++ Dl.holesT rs none (hs.take k)) wr ∧ Kp W wr none
structure HoSt (W : World) (b hb : Nat) (l : List UInt8) (cs : Array Value) (V : World) : Prop where
 wr : Wr W.heap.size b l V
 off : Off b V hb
 blk : V.heap[hb]? = some (.cells cs 52 (0, 0))
 kp : Kp W V none
theorem HoSt.keep {W : World} {b hb : Nat} {l : List UInt8} {cs : Array Value} {V V' : World} (h : HoSt W b hb l cs V) (k : Kp V V' none) : HoSt W b hb l cs V' :=
 ⟨h.wr.kp k, h.off.kp k h.wr.lt, Go.Proofs.YtljjbdbgedmadaaGreatDoor.blk h.blk k, h.kp.trans k⟩
theorem HoSt.more {W : World} {b hb : Nat} {l l' : List UInt8} {cs : Array Value} {V V' : World} (h : HoSt W b hb l cs V) (h' : Wr W.heap.size b l' V') (k : Kw b V V') : HoSt W b hb l' cs V' :=
 ⟨h', h.off.kw k, (h.off.same k).trans h.blk, h.wr.kpw h.kp k⟩
theorem holeT_first (rs : List Int) (h : Dl.Ho) : Dl.holeT rs none h = Dl.spanLn h ++ Dl.selLn rs h.s.r ++ Dl.pathT h.s := rfl
theorem holeT_next (rs : List Int) (q h : Dl.Ho) : Dl.holeT rs (some q) h = (if Dl.sameSpan h q then [] else Dl.spanLn h) ++ (if h.s.r = q.s.r then [] else Dl.selLn rs h.s.r) ++ Dl.pathT h.s := rfl
theorem spanLn_parts (h : Dl.Ho) (w : List UInt8) (hw : w = if h.pl then Dl.kPlated else Dl.kPlain) : Dl.spanLn h = Dl.ln (List.flatMap partT [.s [59, 115, 112, 97, 110, 32], .n h.f, .s [32], .n h.t, .s [32], .s w]) := by
 subst hw; simp [Dl.spanLn, Dl.kSpan, partT]
theorem write_any (ts : List HT) (n : Nat) (hn : ts.length = n) (ao : Option Addr) (cap : Nat) (w : World) (he : Env w) (hts : HolesAt w ao cap ts) (hl : n ≤ 1000000) :
  Calls Tryz.prog 15 #[.slice ao n cap] w fun E w' => WrIs w E w' (Dl.write (ts.map (·.h))) := by
 obtain ⟨hs, hhs⟩ : ∃ hs, ts.map (·.h) = hs := ⟨_, rfl⟩
 have hln : hs.length = n := by rw [← hhs, List.length_map, hn]
 have HGET : Hid (∀ k, (h1 : k < ts.length) → (h2 : k < hs.length) → ts[k].h = hs[k]) := oh fun k h1 h2 => by subst hhs; simp
 rw [hhs]; have HTN := oh hn; have HHN := oh hln; have HE := oh he; have HT := oh hts; have h8 : 8 ≤ w.heap.size := he.big
 obtain ⟨fin, hfin⟩ : ∃ f, Dl.write hs = f := ⟨_, rfl⟩
 have HFIN := oh hfin; rw [hfin]; clear he hts hfin hhs hn hln; obtain ⟨i0, hi, hz0, hz1, hz2⟩ := info_parts infoInt
 have hn0 := nn n; go_enter Tryz.func15, Tryz.ntmps15
 go_wp2_with fail
 go_loopw [4, 16] (fun v i wr => W1Rel hs w v i wr) (fun _ i _ => n - (intOf i).toNat)
 case atStart => exact ⟨0, Nat.zero_le _, rfl, ⟨by rfl, .inl ⟨rfl, rfl⟩⟩, fun j _ hj => absurd hj (Nat.not_lt_zero _), Kp.refl _ _⟩
 case round =>
  obtain ⟨k, hk, rfl, hown, hgood, hkp⟩ := hrel; have HO := oh hown; have HG := oh hgood; have HK := oh hkp; clear hown hgood hkp
  have hk0 := nn k
  by_cases hlt : k < n
  ·have hk1 : (k : Int) < (n : Int) := by omega
   have hltT : k < ts.length := by rw [HTN.out]; exact hlt
   have hltH : k < hs.length := by rw [HHN.out]; exact hlt
   obtain ⟨bo, off, rfl, hcap, hbo, hcells⟩ := HT.out.ho hltT
   rw [HTN.out] at hcap; obtain ⟨⟨h, ea, ec⟩, ht⟩ : ∃ t, ts[k] = t := ⟨_, rfl⟩
   have hgh := HGET.out k hltT hltH
   rw [ht] at hcells hgh; dsimp only at hcells hgh
   have HLE := oh (HT.out.2 ⟨h, ea, ec⟩ (by rw [← ht]; exact List.getElem_mem hltT))
   obtain ⟨sn, hsn⟩ : ∃ n, h.s.es.length = n := ⟨_, rfl⟩
   rw [hsn] at hcells; obtain ⟨e0, e1, e2, e3, e4, e5⟩ := hcells wr HK.out
   have k1 : Kp wr (wr.alloc (.cells #[I6 h.s.k, .slice ea sn ec, I6 h.s.r, I6 h.f, I6 h.t, .bool h.pl] 52)) none := (Kp.refl wr none).alloc _
   have HBH := oh (heap_alloc_new wr (.cells #[I6 h.s.k, .slice ea sn ec, I6 h.s.r, I6 h.f, I6 h.t, .bool h.pl] 52))
   have HCK := oh (fun V (kv : Kp wr V none) => checked_any h sn hsn ea ec V (HLE.out.keep (HK.out.trans kv)))
   have HRS : Hid (((hs.take (k + 1)).map (·.s.r)).flatMap intVal = ((hs.take k).map (·.s.r)).flatMap intVal ++ [h.s.r].flatMap intVal) := oh (by rw [radii_step hltH, hgh])
   have HCE : Hid (Dl.chkH hs[k] = Dl.chkH h) := oh (by rw [hgh])
   have K1 := oh k1; obtain ⟨e, hce⟩ : ∃ e, Dl.chkH h = e := ⟨_, rfl⟩
   rw [hce] at HCE; have HCK2 : Hid (∀ V, Kp wr V none → Calls Tryz.prog 42 #[.agg #[I6 h.s.k, .slice ea sn ec, I6 h.s.r, I6 h.f, I6 h.t, .bool h.pl]] V fun E w' => E = .returned (I6 e) ∧ Kp V w' none) := oh fun V kv => by have := HCK.out V kv; rw [hce] at this; exact this
   clear hgh ht k1 hcells hce HCK hsn
   by_cases hez : e = 0
   ·subst hez
    go_wp2_with (first
     | (go_at_call 42; refine (HCK2.out _ K1.out).mono ?_; rintro E w2 ⟨rfl, k2⟩; have K2 := oh (K1.out.trans k2); have z2 := ck HBH.out k2 2 rfl; clear k2)
     | (at_builtin; go_must (refine wpList_app (f := intVal) rfl (.tmp 25) (.tmp 29) w.heap.size 83 3 rfl i0 _ 1 8 Tryz.underlying83 hi hz0 hz1 hz2 rfl (by omega) (fun _ => rfl) (by intro x u hu; simp [intVal] at hu; subst hu; rfl) u4 k _ rfl (own_kp HO.out (K2.out.trans ((Kp.refl _ none).alloc _))) _ [h.s.r] rfl (int_list h.s.r) (by unfold maxLen; simp; omega) (by simp; omega) (by have := HK.out.size; have := K2.out.size; simp; omega) ?_); intro v3 w3 ho hg _; have HO3 := oh ho; have HG3 := oh hg; clear ho hg)
     | fail)
    have HREL : Hid (W1Rel hs w v3 (I6 (k + 1)) w3) := oh ⟨k + 1, hltH, by go_num, by rw [HRS.out]; exact HO3.out, fun j hj2 hj => by
     by_cases hjk : j = k
     ·subst hjk; exact HCE.out
     ·exact HG.out j hj2 (by omega), Kp.row (HK.out.trans (K2.out.trans ((Kp.refl _ none).alloc _))) HG3.out (fun q hq => (HO.out.lt q hq).1)⟩
    first | exact ⟨HREL.out, by simp [intOf]; omega⟩ | (go_roundw; all_goals first | exact HREL.out | (simp [intOf]; omega))
   ·have he1 : (e == 0) = false := by simpa using hez
    have he2 : (e != 0) = true := by simpa using hez
    have HFE : Hid (fin = ([], e)) := oh (by
     have hb := Dl.firstBad_at hltH (fun i hi => HG.out i (by omega) hi) (by rw [HCE.out]; exact hez)
     rw [HCE.out] at hb; rw [← HFIN.out, write_bad (by rw [hb]; exact hez), hb])
    clear hez; go_wp2_with (go_at_call 42; refine (HCK2.out _ K1.out).mono ?_; rintro E w2 ⟨rfl, k2⟩; have K2 := oh (HK.out.trans (K1.out.trans k2)); clear k2)
    go_ret2
    exact wr_is (t := []) HFE.out K2.out
  ·have hk1 : ¬ (k : Int) < (n : Int) := by omega
   have hkn : k = n := by have := HHN.out; omega
   subst hkn
   have HFZ : Hid (Dl.firstBad hs = 0) := oh (Dl.firstBad_all fun h hh => by
    obtain ⟨j, hj, rfl⟩ := List.getElem_of_mem hh
    exact HG.out j hj (by have := HHN.out; omega))
   have HGD : Hid (∀ h ∈ hs, Dl.chkH h = 0) := oh (Dl.firstBad_zero HFZ.out)
   have HSO := oh (sort_any hs k HHN.out hl w.heap.size u4 wr (by have := HO.out; rw [List.take_of_length_le (by rw [HHN.out]; exact Nat.le_refl _)] at this; exact this))
   have HOW : Hid (∀ q, u4.ownBlock = some q → w.heap.size ≤ q) := oh fun q hq => (HO.out.lt q hq).1
   obtain ⟨rs, hrs⟩ : ∃ rs, Dl.radii hs = rs := ⟨_, rfl⟩
   have HRS := oh hrs; rw [hrs] at HSO; have hrl : rs.length ≤ 1000000 := by rw [← hrs]; exact Nat.le_trans (Dl.radii_len hs) (by rw [HHN.out]; exact hl)
   have hr0 : (0 : Int) ≤ (rs.length : Int) := Int.natCast_nonneg _
   clear HO HG hk hrs
   by_cases hmany : 990 < rs.length
   ·have hm1 : (990 : Int) < (rs.length : Int) := by omega
    have HFE : Hid (fin = ([], 2)) := oh (by rw [← HFIN.out, write_many HFZ.out (by rw [HRS.out]; exact hmany)])
    clear hmany; go_wp2_with (first
    | (go_at_call 43; refine HSO.out.mono ?_; rintro E w2 ⟨rfl, k2, c44⟩; have HC44 := oh c44; clear c44; have K2 := oh (Kp.row HK.out k2 (fun q hq => HOW.out q hq)); clear k2)
    | (go_at_call 44; refine HC44.out.mono ?_; rintro E w3 ⟨ra, rc, rfl, k3, hla⟩; have K3 := oh (Kp.row HK.out k3 (fun q hq => HOW.out q hq)); have HLA := oh hla; clear k3 hla)
    | fail)
    go_ret2
    exact wr_is (t := []) HFE.out K3.out
   have hm1 : ¬ (990 : Int) < (rs.length : Int) := by omega
   have HFM : Hid (¬ 262144 < (Dl.fileT hs).length → fin = (Dl.fileT hs, 0)) := oh fun h => by rw [← HFIN.out, write_ok HFZ.out (by rw [HRS.out]; exact hmany) h]
   have HFL : Hid (262144 < (Dl.fileT hs).length → fin = ([], 2)) := oh fun h => by rw [← HFIN.out, write_long HFZ.out h]
   have HR990 : Hid (rs.length ≤ 990) := oh (by omega)
   have HRG : Hid (∀ r ∈ rs, 1 ≤ r ∧ r ≤ 4194304) := oh fun r hr => by
    rw [← HRS.out] at hr; obtain ⟨h, hh, rfl⟩ := Dl.mem_radii.1 hr
    obtain ⟨c1, c2, c3, _⟩ := Dl.chkH_parts (HGD.out h hh)
    have := Dl.chk_facts c1 c2
    omega
   have HFLEN : Hid ((Dl.fileT hs).length ≤ 20 + 2040 * 1000000) := oh (by have := Dl.file_len HGD.out (by rw [HRS.out]; exact HR990.out); rw [HHN.out] at this; omega)
   clear HFIN hmany
   go_upto_region 15 with (first
    | (go_at_call 43; refine HSO.out.mono ?_; rintro E w2 ⟨rfl, k2, c44⟩; have HC44 := oh c44; clear c44; have K2 := oh (Kp.row HK.out k2 (fun q hq => HOW.out q hq)); clear k2)
    | (go_at_call 44; refine HC44.out.mono ?_; rintro E w3 ⟨ra, rc, rfl, k3, hla⟩; have K3 := oh (Kp.row HK.out k3 (fun q hq => HOW.out q hq)); have HLA := oh hla; clear k3 hla)
    | fail)
   have KX0 : Hid (Kp w3 (w3.alloc (.cells #[.pointer none, .slice none 0 0] 104)) none) := oh ((Kp.refl _ none).alloc _)
   have HW0 : Hid (Wr w3.heap.size w3.heap.size [] (w3.alloc (.cells #[.pointer none, .slice none 0 0] 104))) := oh ⟨Nat.le_refl _, .pointer none, .slice none 0 0, .inl rfl, heap_alloc_new w3 _, ⟨by rfl, .inl ⟨rfl, rfl⟩⟩, by simp [Value.ownBlock]⟩
   generalize w3.alloc (.cells #[.pointer none, .slice none 0 0] 104) = X at *
   obtain ⟨b, hb⟩ : ∃ b, w3.heap.size = b := ⟨_, rfl⟩
   have h83 : 8 ≤ w3.heap.size := Nat.le_trans h8 K3.out.size
   have HENV : Hid (∀ V, Kp w3 V none → Env V) := oh fun V k => HE.out.kp0 (K3.out.trans k)
   have HTS := oh (HT.out.keep K3.out)
   rw [show Wr w3.heap.size w3.heap.size [] X = Wr w3.heap.size b [] X by rw [hb]] at HW0
   rw [hb]; clear hb HSO HOW HC44 HT HE; go_wp2_with fail
   refine (wline_at (HENV.out _ KX0.out) HW0.out h83 [.s [77, 52, 56]] _ _ _ rfl rfl rfl (by simp) (by simp [partOk]) (Dl.ln Dl.kM48) (by simp [partT, Dl.kM48]) (by decide) KX0.out.size).mono ?_
   rintro e w4 ⟨rfl, h4, k4⟩; have HW4 := oh h4; have K4 := oh (HW0.out.kpw KX0.out k4); clear h4 k4 HW0 KX0; go_wp2_with fail
   refine (wline_at (HENV.out _ K4.out) HW4.out h83 [.s [59, 101, 116, 99, 104, 97, 110, 116]] _ _ _ rfl rfl rfl (by simp) (by simp [partOk]) (Dl.ln Dl.kEt) (by simp [partT, Dl.kEt]) (by decide) K4.out.size).mono ?_
   rintro e w5 ⟨rfl, h5, k5⟩; have HW5 : Hid (Wr w3.heap.size b (Dl.ln Dl.kM48 ++ Dl.ln Dl.kEt) w5) := oh (by simpa using h5)
   have K5 := oh (HW4.out.kpw K4.out k5); clear h5 k5 HW4 K4
   obtain ⟨l0, hl0⟩ : ∃ l, Dl.ln Dl.kM48 ++ Dl.ln Dl.kEt = l := ⟨_, rfl⟩
   rw [hl0] at HW5; have HL0 := oh hl0; have hl0n : l0.length = 13 := by rw [← hl0]; rfl
   clear hl0; go_wp2_with fail
   go_loopw [51] (fun i wr => W2Rel l0 rs b w3 i wr) (fun i _ => rs.length - (intOf i).toNat)
   case atStart => exact ⟨0, Nat.zero_le _, rfl, by simpa [Dl.toolsTo] using HW5.out, K5.out⟩
   case round =>
    obtain ⟨j, hj, rfl, hwr, hkp⟩ := hrel; have HW := oh hwr; have HKJ := oh hkp; clear hwr hkp HW5 K5
    have hj0 := nn j
    by_cases hlt : j < rs.length
    ·have hj1 : (j : Int) < (rs.length : Int) := by omega
     obtain ⟨g, off, rfl, hg, hcap, hcell⟩ := HLA.out.int j hlt
     obtain ⟨r, hr⟩ : ∃ r, rs[j] = r := ⟨_, rfl⟩
     have c0 := (HKJ.out.below.cell (p := ⟨g, off + j, none⟩) hg).trans (hcell j hlt)
     rw [hr] at c0; have hrr := HRG.out r (by rw [← hr]; exact List.getElem_mem _)
     have HTS2 : Hid (Dl.toolsTo rs (j + 1) = Dl.toolsTo rs j ++ Dl.toolLn j r) := oh (by rw [Dl.tools_step rs hlt, hr])
     have htl := Dl.tools_len HR990.out HRG.out (j + 1) hlt
     have hlb : (l0 ++ Dl.toolsTo rs j).length + (Dl.toolLn j r).length ≤ 140737488355328 := by
      rw [HTS2.out, List.length_append] at htl; rw [List.length_append]; have := HR990.out; omega
     have HREL : Hid (∀ V, Wr w3.heap.size b ((l0 ++ Dl.toolsTo rs j) ++ Dl.toolLn j r) V → Kw b wr V → W2Rel l0 rs b w3 (I6 (j + 1)) V) := oh fun V h1 k1 => ⟨j + 1, hlt, by go_num, by rw [HTS2.out, ← List.append_assoc]; exact h1, HW.out.kpw HKJ.out k1⟩
     obtain ⟨lk, hlk⟩ : ∃ l, l0 ++ Dl.toolsTo rs j = l := ⟨_, rfl⟩
     rw [hlk] at HREL HW hlb; have HLB := oh hlb; have HMI : Hid (Mid ((j : Int) + 1) ∧ Mid (2 * r)) := oh (by have := HR990.out; unfold Mid; omega)
     have hw1 : wrap64 ((j : Int) + 1) = (j : Int) + 1 := wrap_mid (by omega) (by omega)
     have hw2 : wrap64 (2 * r) = 2 * r := wrap_mid (by omega) (by omega)
     clear hr hlk htl hlb hcell hcap hg hrr; go_wp2_with fail
     refine (wline_at (HENV.out _ HKJ.out) HW.out h83 [.s [84], .n ((j : Int) + 1), .s [67], .n (2 * r)] _ _ _ rfl rfl rfl (by simp) (by simp [partOk]; exact HMI.out) (Dl.toolLn j r) (by simp [Dl.toolLn, partT]) HLB.out HKJ.out.size).mono ?_
     rintro e w6 ⟨rfl, h6, k6⟩; have HR := oh (HREL.out _ h6 k6); clear h6 k6 hw1 hw2; go_wp2_with fail
     first | exact ⟨HR.out, by simp [intOf]; omega⟩ | (go_roundw; all_goals first | exact HR.out | (simp [intOf]; omega))
    ·have hj1 : ¬ (j : Int) < (rs.length : Int) := by omega
     have hjn : j = rs.length := by omega
     subst hjn; have htl := Dl.tools_len HR990.out HRG.out rs.length (Nat.le_refl _)
     clear hj; go_wp2_with fail
     refine (wline_at (HENV.out _ HKJ.out) HW.out h83 [.s [37]] _ _ _ rfl rfl rfl (by simp) (by simp [partOk]) (Dl.ln Dl.kPc) (by simp [partT, Dl.kPc]) (by rw [List.length_append, Dl.ln_len]; have := HR990.out; simp only [Dl.kPc, List.length_cons, List.length_nil]; omega) HKJ.out.size).mono ?_
     rintro e w6 ⟨rfl, h6, k6⟩; have K6 := oh (HW.out.kpw HKJ.out k6)
     obtain ⟨l1, hl1⟩ : ∃ l, (l0 ++ Dl.toolsTo rs rs.length) ++ Dl.ln Dl.kPc = l := ⟨_, rfl⟩
     rw [hl1] at h6; have HW6 := oh h6; have HFILE : Hid (Dl.fileT hs = (l1 ++ Dl.holesT rs none hs) ++ Dl.ln Dl.kM30) := oh (by unfold Dl.fileT; rw [HRS.out, ← hl1, ← HL0.out])
     have HLEN3 : Hid (∀ j, (l1 ++ Dl.holesT rs none (hs.take j)).length ≤ 20 + 2040 * 1000000) := oh fun j => by
      have h1 := Dl.holes_le rs hs j
      have h2 := HFLEN.out; rw [HFILE.out, List.length_append, List.length_append] at h2; rw [List.length_append]; omega
     clear h6 k6 hl1 HW HKJ htl; go_wp2_with fail
     go_loopw [74] (fun i wr => W3Rel l1 rs hs b w3 i wr) (fun i _ => k - (intOf i).toNat)
     case atStart => exact ⟨0, Nat.zero_le _, rfl, by simpa [Dl.holesT] using HW6.out, K6.out⟩
     case round =>
      obtain ⟨j, hj, rfl, hwr, hkp⟩ := hrel; have HW := oh hwr; have HKJ := oh hkp; clear hwr hkp HW6 K6
      have hj0 := nn j
      by_cases hlt : j < k
      ·have hj1 : (j : Int) < (k : Int) := by omega
       have hltT : j < ts.length := by rw [HTN.out]; exact hlt
       have hltH : j < hs.length := by rw [HHN.out]; exact hlt
       obtain ⟨bo, off, rfl, hcap, hbo, hcells⟩ := HTS.out.ho hltT
       rw [HTN.out] at hcap; obtain ⟨⟨h, ea, ec⟩, ht⟩ : ∃ t, ts[j] = t := ⟨_, rfl⟩
       have hgh := HGET.out j hltT hltH
       rw [ht] at hcells hgh; dsimp only at hcells hgh
       have HLE := oh (HTS.out.2 ⟨h, ea, ec⟩ (by rw [← ht]; exact List.getElem_mem hltT))
       obtain ⟨sn, hsn⟩ : ∃ n, h.s.es.length = n := ⟨_, rfl⟩
       rw [hsn] at hcells; obtain ⟨e0, e1, e2, e3, e4, e5⟩ := hcells wr HKJ.out
       have hhm : h ∈ hs := by rw [hgh]; exact List.getElem_mem hltH
       obtain ⟨c1, c2, c3, c4⟩ := Dl.chkH_parts (HGD.out h hhm)
       obtain ⟨f1, f2, _, f4, f5⟩ := Dl.chk_facts c1 c2
       have HPA : Hid (h.s.es ≠ [] ∧ (∀ e ∈ h.s.es, Pl.chkE e = 0) ∧ sn ≤ 40 ∧ h.s.es.length = sn ∧ (Mid h.f ∧ Mid h.t)) := oh ⟨f1, f2, by rw [← hsn]; exact Dl.chk_40 c1, hsn, by have := Dl.spanR_iff.1 c4; unfold Mid; omega⟩
       have HRM : Hid (h.s.r ∈ rs) := oh (by rw [← HRS.out]; exact Dl.mem_radii.2 ⟨h, hhm, rfl⟩)
       have HSTEP : Hid (Dl.holesT rs none (hs.take (j + 1)) = Dl.holesT rs none (hs.take j) ++ Dl.holeT rs (Dl.prev hs j) h) := oh (by rw [Dl.holes_step rs hltH, ← hgh])
       have HLN := oh (HLEN3.out (j + 1))
       clear hcells hgh ht hsn c1 c2 c3 c4 f1 f2 f4 f5 hhm; have k1 : Kp wr (wr.alloc (.cells #[I6 h.s.k, .slice ea sn ec, I6 h.s.r, I6 h.f, I6 h.t, .bool h.pl] 52)) none := (Kp.refl wr none).alloc _
       have HBH := oh (heap_alloc_new wr (.cells #[I6 h.s.k, .slice ea sn ec, I6 h.s.r, I6 h.f, I6 h.t, .bool h.pl] 52))
       have HOF := oh (Off.new HW.out (.cells #[I6 h.s.k, .slice ea sn ec, I6 h.s.r, I6 h.f, I6 h.t, .bool h.pl] 52))
       have K1 := oh k1; obtain ⟨lj, hlj⟩ : ∃ l, l1 ++ Dl.holesT rs none (hs.take j) = l := ⟨_, rfl⟩
       have HLJ := oh hlj; rw [hlj] at HW; clear k1 hlj; go_upto_region 26 with fail
       clear e0 e1 e2 e3 e4 e5
       generalize wr.alloc (.cells #[I6 h.s.k, .slice ea sn ec, I6 h.s.r, I6 h.f, I6 h.t, .bool h.pl] 52) = Y at *
       have HST0 : Hid (HoSt w3 b wr.heap.size lj #[I6 h.s.k, .slice ea sn ec, I6 h.s.r, I6 h.f, I6 h.t, .bool h.pl] Y) := oh ⟨HW.out.kp K1.out, HOF.out, HBH.out, HKJ.out.trans K1.out⟩
       obtain ⟨hb, hhb⟩ : ∃ x, wr.heap.size = x := ⟨_, rfl⟩
       rw [hhb] at HST0 ⊢; have HKW : Hid (∀ V, Kp Y V none → Kp w3 V none) := oh fun V kv => HKJ.out.trans (K1.out.trans kv)
       clear HBH HOF hhb HW
       obtain ⟨tb, htb⟩ : ∃ t : Bool, (match Dl.prev hs j with | none => true | some q => !Dl.sameSpan h q) = t := ⟨_, rfl⟩
       obtain ⟨tc, htc⟩ : ∃ t : Bool, (match Dl.prev hs j with | none => true | some q => decide (h.s.r ≠ q.s.r)) = t := ⟨_, rfl⟩
       have HHT : Hid (Dl.holeT rs (Dl.prev hs j) h = (if tb then Dl.spanLn h else []) ++ (if tc then Dl.selLn rs h.s.r else []) ++ Dl.pathT h.s) := oh (by
        rw [← htb, ← htc]
        cases Dl.prev hs j with
        | none => simp [holeT_first]
        | some q =>
         rw [holeT_next]
         cases hsp : Dl.sameSpan h q <;> by_cases hr : h.s.r = q.s.r <;> simp [hsp, hr])
       go_cut [90] from 79 to 90 (fun t wx => t = .bool tb ∧ Kp Y wx none)
       case first =>
        cases j with
        | zero =>
         have htb2 : tb = true := by rw [← htb]; rfl
         subst htb2; clear htb htc; rw [show ((0 : Nat) : Int) = 0 from rfl]; go_quiet (fail)
         go_wp2_with fail
         go_meet
         exact ⟨rfl, (Kp.refl _ _).drewN nq⟩
        | succ m =>
         have hm0 := nn m; have hmT : m < ts.length := by omega
         have hmH : m < hs.length := by omega
         obtain ⟨⟨q, qa, qc⟩, hq⟩ : ∃ t, ts[m] = t := ⟨_, rfl⟩
         have hgq := HGET.out m hmT hmH
         rw [hq] at hgq; dsimp only at hgq
         obtain ⟨qn, hqn⟩ : ∃ n, q.s.es.length = n := ⟨_, rfl⟩
         obtain ⟨bo', off', hao, _, hrg⟩ := HTS.out.1.range m hmT hq
         injection hao with hao; injection hao with e1 e2; subst e1; subst e2
         have hrg2 : w3.rangeAt bo (off + m * 6) #[I6 q.s.k, .slice qa qn qc, I6 q.s.r, I6 q.f, I6 q.t, .bool q.pl].toList := by have := hrg; unfold htC at this; dsimp only at this; rw [hqn] at this; exact this
         have HS26 : Hid (∀ V, Kp Y V none → V.rangeAt hb 0 #[I6 h.s.k, .slice ea sn ec, I6 h.s.r, I6 h.f, I6 h.t, .bool h.pl].toList ∧ V.rangeAt bo (off + m * 6) #[I6 q.s.k, .slice qa qn qc, I6 q.s.r, I6 q.f, I6 q.t, .bool q.pl].toList ∧ Hid (Kp Y V none)) := oh fun V kv => ⟨range_blk (HST0.out.keep kv).blk, fun i v hv => ((HKW.out V kv).below.cell (p := ⟨bo, off + m * 6 + i, none⟩) hbo).trans (hrg2 i v hv), oh kv⟩
         have hsb : tb = !Dl.sameSpan h q := by rw [← htb, Dl.prev_pos hltH, hgq]
         obtain ⟨sb, hsb2⟩ : ∃ x, Dl.sameSpan h q = x := ⟨_, rfl⟩
         have HSP : Hid (∀ V, Calls Tryz.prog 46 #[.agg #[I6 h.s.k, .slice ea sn ec, I6 h.s.r, I6 h.f, I6 h.t, .bool h.pl], .agg #[I6 q.s.k, .slice qa qn qc, I6 q.s.r, I6 q.f, I6 q.t, .bool q.pl]] V fun E w' => E = .returned (.bool sb) ∧ Kp V w' none) := oh fun V => by rw [← hsb2]; exact same_span h.s.k h.s.r h.f h.t h.pl ea sn ec q.s.k q.s.r q.f q.t q.pl qa qn qc V
         rw [hsb2] at hsb; subst hsb; have HHC := oh (show k ≤ cap by omega)
         have hcast : ((m + 1 : Nat) : Int) = (m : Int) + 1 := by omega
         rw [hcast]; have HCAST := oh hcast; clear hcast; have hq1 : ((m : Int) + 1 == 0) = false := by simp; omega
         have hmk : (m : Int) < (k : Int) := by omega
         obtain ⟨hw3, hw4, hw5, hw6⟩ := wrap_prev m (by omega)
         clear htb htc hrg hrg2 hsb2 hqn hq hgq hlt; refine wp_region_held_drew (S := fun V => V.rangeAt hb 0 #[I6 h.s.k, .slice ea sn ec, I6 h.s.r, I6 h.f, I6 h.t, .bool h.pl].toList ∧ V.rangeAt bo (off + m * 6) #[I6 q.s.k, .slice qa qn qc, I6 q.s.r, I6 q.f, I6 q.t, .bool q.pl].toList ∧ Hid (Kp Y V none)) (by kernel_rfl) (HS26.out _ (Kp.refl _ none).drew) (fun eh => ?_)
         refine tjH 0 rfl ?_; refine tjH 1 rfl ?_; refine tjH 2 rfl ?_
         refine wpAnyH_take (i := 3) rfl (by kernel_rfl) (by kernel_rfl) (by kernel_rfl) (fun _ _ _ h => h) (yieldsIf_load_mid (by rfl) _ _ rfl hb 0 rfl #[I6 h.s.k, .slice ea sn ec, I6 h.s.r, I6 h.f, I6 h.t, .bool h.pl].toList _ (fun _ h => h.1) Tryz.underlying52 rfl info52) (by assumption) ?_
         try simp only [Act.put, sm]
         refine tjH 4 rfl ?_; refine tjH 5 rfl ?_; refine tjH 6 rfl ?_; refine tjH 7 rfl ?_
         refine wpAnyH_take (i := 8) rfl (by kernel_rfl) (by kernel_rfl) (by kernel_rfl) (fun _ _ _ h => h) (yieldsIf_load_mid (by rfl) _ _ rfl bo (off + m * 6) rfl #[I6 q.s.k, .slice qa qn qc, I6 q.s.r, I6 q.f, I6 q.t, .bool q.pl].toList _ (fun _ h => h.2.1) Tryz.underlying52 rfl info52) (by assumption) ?_
         try simp only [Act.put, sm]
         refine rdH 9 rfl (fun K hK => ?_); have gK := eh.2.2; clear eh; go_simp
         refine (HSP.out _).mono ?_
         rintro e U1 ⟨rfl, kk⟩; try go_wp2_with fail
         refine hK.out _ _ (HS26.out _ (gK.out.trans kk)) (fun eh => ?_)
         clear hK K gK kk; try simp only [Act.put, sm]
         refine tjH 10 rfl ?_; refine tjH 11 rfl ?_
         refine wpAnyH_done (by kernel_rfl) ?_ _
         have hk9 := eh.2.2.out
         clear hw3 hw4 hw5 hw6 eh; go_wp2_with fail
         rw [← HCAST.out]; go_meet
         exact ⟨rfl, hk9⟩
       case rest =>
        obtain ⟨rfl, hkc⟩ := hcut; have HST1 := oh (HST0.out.keep hkc)
        have HB4 : Hid (lj.length + (if tb then Dl.spanLn h else []).length + (if tc then Dl.selLn rs h.s.r else []).length + (Dl.pathT h.s).length ≤ 20 + 2040 * 1000000) := oh (by
         have h1 := HLN.out; rw [HSTEP.out, ← List.append_assoc, HLJ.out, HHT.out] at h1; simp only [List.length_append] at h1 ⊢
         omega)
        have HTC : Hid ((match Dl.prev hs j with | none => true | some q => decide (h.s.r ≠ q.s.r)) = tc) := oh htc
        clear hkc HST0 K1 HKW HLN htb htc; go_upto_if 90 with fail
        go_cut [90, 13] from 93 to 106 (fun t _ wx => t = .bool tb ∧ HoSt w3 b hb (lj ++ (if tb then Dl.spanLn h else [])) #[I6 h.s.k, .slice ea sn ec, I6 h.s.r, I6 h.f, I6 h.t, .bool h.pl] wx)
        case first =>
         cases tb with
         | false =>
          go_wp2_with fail
          go_meet
          exact ⟨rfl, by simpa using HST1.out⟩
         | true =>
          obtain ⟨word, hword⟩ : ∃ x, x = (if h.pl then Dl.kPlated else Dl.kPlain) := ⟨_, rfl⟩
          have HSL := oh (spanLn_parts h word hword)
          have HB5 : Hid (lj.length + (Dl.spanLn h).length ≤ 140737488355328) := oh (by have := HB4.out; simp only [if_true] at this; omega)
          have z3 := hcell HST1.out.blk 3 rfl
          have z4 := hcell HST1.out.blk 4 rfl
          have z5 : wc.cell? ⟨hb, 5, none⟩ = some (.bool h.pl) := hcell HST1.out.blk 5 rfl
          by_cases hp : h.pl = true
          ·rw [hp] at z5 hword
           replace hword : word = [112, 108, 97, 116, 101, 100] := hword
           subst hword; clear hp; go_wp2_with fail
           refine (wline_at (HENV.out _ HST1.out.kp) HST1.out.wr h83 [.s [59, 115, 112, 97, 110, 32], .n h.f, .s [32], .n h.t, .s [32], .s [112, 108, 97, 116, 101, 100]] _ _ _ rfl rfl rfl (by simp) (by simp [partOk]; exact HPA.out.2.2.2.2) (Dl.spanLn h) HSL.out HB5.out HST1.out.kp.size).mono ?_
           rintro e V6 ⟨rfl, h6, k6⟩; have HN := oh (HST1.out.more h6 k6); clear h6 k6 z3 z4 z5; go_wp2_with fail
           go_meet
           exact ⟨rfl, by simpa using HN.out⟩
          ·replace hp : h.pl = false := by simpa using hp
           rw [hp] at z5 hword
           replace hword : word = [112, 108, 97, 105, 110] := hword
           subst hword; clear hp; go_wp2_with fail
           refine (wline_at (HENV.out _ HST1.out.kp) HST1.out.wr h83 [.s [59, 115, 112, 97, 110, 32], .n h.f, .s [32], .n h.t, .s [32], .s [112, 108, 97, 105, 110]] _ _ _ rfl rfl rfl (by simp) (by simp [partOk]; exact HPA.out.2.2.2.2) (Dl.spanLn h) HSL.out HB5.out HST1.out.kp.size).mono ?_
           rintro e V6 ⟨rfl, h6, k6⟩; have HN := oh (HST1.out.more h6 k6); clear h6 k6 z3 z4 z5; go_wp2_with fail
           go_meet
           exact ⟨rfl, by simpa using HN.out⟩
        case rest =>
         obtain ⟨rfl, HST2⟩ := hcut; have HS2 := oh HST2
         obtain ⟨l2, hl2⟩ : ∃ l, lj ++ (if tb then Dl.spanLn h else []) = l := ⟨_, rfl⟩
         have hl2n : l2.length = lj.length + (if tb then Dl.spanLn h else []).length := by rw [← hl2, List.length_append]
         have HB6 : Hid (l2.length + (if tc then Dl.selLn rs h.s.r else []).length + (Dl.pathT h.s).length ≤ 20 + 2040 * 1000000) := oh (by have := HB4.out; omega)
         have HL2 := oh hl2; rw [hl2] at HS2; clear HST2 HST1 hl2 hl2n HB4; go_upto_region 31 with fail
         go_cut [121] from 107 to 121 (fun t wx => t = .bool tc ∧ HoSt w3 b hb l2 #[I6 h.s.k, .slice ea sn ec, I6 h.s.r, I6 h.f, I6 h.t, .bool h.pl] wx)
         case first =>
          cases j with
          | zero =>
           have htc2 : tc = true := by rw [← HTC.out]; rfl
           subst htc2; rw [show ((0 : Nat) : Int) = 0 from rfl]; go_quiet (fail)
           go_wp2_with fail
           go_meet
           exact ⟨rfl, HS2.out.keep ((Kp.refl _ _).drewN nq)⟩
          | succ m =>
           have hm0 := nn m; have hmT : m < ts.length := by omega
           have hmH : m < hs.length := by omega
           obtain ⟨⟨q, qa, qc⟩, hq⟩ : ∃ t, ts[m] = t := ⟨_, rfl⟩
           have hgq := HGET.out m hmT hmH
           rw [hq] at hgq; dsimp only at hgq
           obtain ⟨bo', off', hao, _, _, hcells⟩ := HTS.out.ho hmT
           injection hao with hao; injection hao with e1 e2; subst e1; subst e2
           obtain ⟨_, _, y2, _, _, _⟩ := hcells wc HS2.out.kp
           rw [hq] at y2; dsimp only at y2
           have z2 := hcell HS2.out.blk 2 rfl
           have htc2 : decide (h.s.r ≠ q.s.r) = tc := by rw [← HTC.out, Dl.prev_pos hltH, hgq]
           have hcast : ((m + 1 : Nat) : Int) = (m : Int) + 1 := by omega
           rw [hcast]; have HCAST := oh hcast; clear hcast; have hq1 : ((m : Int) + 1 == 0) = false := by simp; omega
           have hmk : (m : Int) < (k : Int) := by omega
           have HKC := oh (HS2.out.keep (Kp.refl _ _))
           obtain ⟨hw3, hw4, hw5, hw6⟩ := wrap_prev m (by omega)
           obtain ⟨qr, hqr⟩ : ∃ x, q.s.r = x := ⟨_, rfl⟩
           rw [hqr] at y2 htc2; clear hcells hgq hq hqr hlt
           by_cases hr : h.s.r = qr
           ·have hr1 : (h.s.r == qr) = true := by simpa using hr
            have hr2 : (h.s.r != qr) = false := by simpa using hr
            have htf : tc = false := by rw [← htc2]; simpa using hr
            subst htf; clear htc2 hr; go_quiet (fail)
            clear hw3 hw4 hw5 hw6; go_wp2_with fail
            rw [← HCAST.out]; go_meet
            exact ⟨rfl, HS2.out.keep ((Kp.refl _ _).drewN nq)⟩
           ·have hr1 : (h.s.r == qr) = false := by simpa using hr
            have hr2 : (h.s.r != qr) = true := by simpa using hr
            have htf : tc = true := by rw [← htc2]; simpa using hr
            subst htf; clear htc2 hr; go_quiet (fail)
            clear hw3 hw4 hw5 hw6; go_wp2_with fail
            rw [← HCAST.out]; go_meet
            exact ⟨rfl, HS2.out.keep ((Kp.refl _ _).drewN nq)⟩
         case rest =>
          obtain ⟨rfl, HST3⟩ := hcut; have HS3 := oh HST3; clear HST3 HS2
          go_upto_if 121 with fail
          go_cut [121] from 122 to 132 (fun t wx => t = .bool tc ∧ HoSt w3 b hb (l2 ++ (if tc then Dl.selLn rs h.s.r else [])) #[I6 h.s.k, .slice ea sn ec, I6 h.s.r, I6 h.f, I6 h.t, .bool h.pl] wx)
          case first =>
           cases tc with
           | false =>
            go_wp2_with fail
            go_meet
            exact ⟨rfl, by simpa using HS3.out⟩
           | true =>
            have HIX := oh (fun V (kv : Kp w3 V none) => index_any rs h.s.r rs.length rfl ra rc V (HLA.out.keep kv) HRM.out hrl)
            have hix : rs.idxOf h.s.r ≤ 1000000 := Nat.le_trans List.idxOf_le_length hrl
            obtain ⟨ix, hixe⟩ : ∃ x, rs.idxOf h.s.r = x := ⟨_, rfl⟩
            rw [hixe] at HIX hix; have HSE : Hid (Dl.selLn rs h.s.r = Dl.ln (List.flatMap partT [.s [84], .n ((ix : Int) + 1)])) := oh (by unfold Dl.selLn; rw [hixe]; simp [partT])
            have HB7 : Hid (l2.length + (Dl.selLn rs h.s.r).length ≤ 140737488355328) := oh (by have := HB6.out; simp only [if_true] at this; omega)
            have HMX : Hid (Mid ((ix : Int) + 1)) := oh (by unfold Mid; omega)
            have hw1 : wrap64 ((ix : Int) + 1) = (ix : Int) + 1 := wrap_mid (by omega) (by omega)
            have z2 := hcell HS3.out.blk 2 rfl
            clear hixe hix; go_wp2_with (go_at_call 47; refine (HIX.out _ HS3.out.kp).mono ?_; rintro e w7 ⟨rfl, rfl⟩)
            refine (wline_at (HENV.out _ HS3.out.kp) HS3.out.wr h83 [.s [84], .n ((ix : Int) + 1)] _ _ _ rfl rfl rfl (by simp) (by simp [partOk]; exact HMX.out) (Dl.selLn rs h.s.r) HSE.out HB7.out HS3.out.kp.size).mono ?_
            rintro e V6 ⟨rfl, h6, k6⟩; have HN := oh (HS3.out.more h6 k6); clear h6 k6 z2 hw1; go_wp2_with fail
            go_meet
            exact ⟨rfl, by simpa using HN.out⟩
          case rest =>
           obtain ⟨rfl, HST4⟩ := hcut; have HS4 := oh HST4
           obtain ⟨l3, hl3⟩ : ∃ l, l2 ++ (if tc then Dl.selLn rs h.s.r else []) = l := ⟨_, rfl⟩
           have hl3n : l3.length = l2.length + (if tc then Dl.selLn rs h.s.r else []).length := by rw [← hl3, List.length_append]
           have HB8 : Hid (l3.length ≤ 140737488300000) := oh (by have := HB6.out; omega)
           rw [hl3] at HS4; have HPT := oh (path_any b l3 h.s sn HPA.out.2.2.2.1 ea ec w3 wc HS4.out.wr HS4.out.kp (HENV.out _ HS4.out.kp) h83 HLE.out HPA.out.2.1 HPA.out.1 HPA.out.2.2.1 HB8.out)
           have HNEXT : Hid (l1 ++ Dl.holesT rs none (hs.take (j + 1)) = l3 ++ Dl.pathT h.s) := oh (by rw [HSTEP.out, ← List.append_assoc, HLJ.out, HHT.out, ← hl3, ← HL2.out]; simp only [List.append_assoc])
           have z0 := hcell HS4.out.blk 0 rfl
           have z1 := hcell HS4.out.blk 1 rfl
           have z2 := hcell HS4.out.blk 2 rfl
           clear HST4 HS3 hl3 hl3n HB6; go_wp2_with (go_at_call 48; refine HPT.out.mono ?_; rintro e w8 ⟨rfl, h8', k8⟩; have HR : Hid (W3Rel l1 rs hs b w3 (I6 (j + 1)) w8) := oh ⟨j + 1, hltH, by go_num, by rw [HNEXT.out]; exact h8', HS4.out.wr.kpw HS4.out.kp k8⟩; clear h8' k8)
           first | exact ⟨HR.out, by simp [intOf]; omega⟩ | (go_roundw; all_goals first | exact HR.out | (simp [intOf]; omega))
      ·have hj1 : ¬ (j : Int) < (k : Int) := by omega
       have hjk : j = hs.length := by have := HHN.out; omega
       have HWZ : Hid (Wr w3.heap.size b (l1 ++ Dl.holesT rs none hs) wr) := oh (by have := HW.out; rw [hjk, List.take_length] at this; exact this)
       have hlz : (l1 ++ Dl.holesT rs none hs).length + 4 ≤ 140737488355328 := by have := HLEN3.out hs.length; rw [List.take_length] at this; omega
       have HFN : Hid (Dl.fileT hs ≠ []) := oh (by rw [HFILE.out]; simp [Dl.ln])
       obtain ⟨ft, hft⟩ : ∃ x, Dl.fileT hs = x := ⟨_, rfl⟩
       rw [hft] at HFM HFL HFN HFILE; clear hjk HW hft; have hstop : True := trivial
       go_wp2_with fail
       refine (wline_at (HENV.out _ HKJ.out) HWZ.out h83 [.s [77, 51, 48]] _ _ _ rfl rfl rfl (by simp) (by simp [partOk]) (Dl.ln Dl.kM30) (by simp [partT, Dl.kM30]) (by simp only [Dl.ln, Dl.kM30, ll] at hlz ⊢; omega) HKJ.out.size).mono ?_
       rintro e w7 ⟨rfl, h7, k7⟩; rw [← HFILE.out] at h7; have HW7 := oh h7; have K7 := oh (K3.out.trans (HWZ.out.kpw HKJ.out k7))
       have KB7 := oh (HWZ.out.kpw HKJ.out k7); clear h7 k7
       by_cases hbig : 262144 < ft.length
       ·have hbig2 : (262144 : Int) < (ft.length : Int) := by omega
        have HFE := oh (HFL.out hbig); clear hbig
        go_wp2_with (go_at_call 49; refine (len_any _ _ _ _ HW7.out).mono ?_; rintro E w9 ⟨rfl, rfl⟩)
        go_ret2
        exact wr_is (t := []) HFE.out K7.out
       ·have hbig2 : ¬ (262144 : Int) < (ft.length : Int) := by omega
        have HFE := oh (HFM.out hbig); clear hbig
        go_wp2_with (first | (go_at_call 49; refine (len_any _ _ _ _ HW7.out).mono ?_; rintro E w9 ⟨rfl, rfl⟩) | (go_at_call 50; refine (string_any _ _ _ _ HW7.out HFN.out).mono ?_; rintro E w10 ⟨rfl, k10⟩; have K10 := oh (kp_belowB K7.out k10 K3.out.size); clear k10))
        go_ret2
        exact wr_is (t := ft) HFE.out K10.out
end Go.Proofs.YtljjbdbgedmadaaGreatDoor
