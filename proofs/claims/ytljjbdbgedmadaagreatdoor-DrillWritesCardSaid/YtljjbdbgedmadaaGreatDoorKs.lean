/- The library's insertion sort at holes, as norm puts them in order; SortStableFunc at fewer than 20 holes; drill.Norm. Conditions: fewer than 20 holes, each of at most 1000 edges, coordinates of 64 bits. -/
import Derived.Test.YtljjbdbgedmadaaGreatDoorKb
import Derived.Test.YtljjbdbgedmadaaGreatDoorSo
import Derived.Test.YtljjbdbgedmadaaGreatDoorMz
set_option maxHeartbeats 4000000
set_option maxRecDepth 100000
namespace Go.Proofs.YtljjbdbgedmadaaGreatDoor
open Go.RowKit Go.Sort
theorem flatK_flat {α : Type} [Inhabited α] (enc : α → List Value) (k : Nat) (hk : ∀ x, (enc x).length = k) (h0 : 0 < k) (d : Array α) : (flatK enc k d).toList = d.toList.flatMap enc := by
 have hl : (d.toList.flatMap enc).length = d.size * k := by rw [flat_len (m := k) (f := enc) hk, Array.length_toList]
 apply List.ext_getElem?
 intro t
 by_cases ht : t < d.size * k
 ·have hq : t / k < d.toList.length := by rw [Array.length_toList]; exact (Nat.div_lt_iff_lt_mul h0).2 ht
  have hr : t % k < (enc d.toList[t / k]).length := by rw [hk]; exact Nat.mod_lt _ h0
  have e : t / k * k + t % k = t := by rw [Nat.mul_comm]; exact Nat.div_add_mod t k
  have h1 := flat_get k enc hk d.toList (t / k) (t % k) hq hr
  rw [e] at h1
  rw [h1, List.getElem?_eq_getElem (by rw [Array.length_toList, size_flatK]; exact ht), Array.getElem_toList]
  have h2 := get_flatK enc k d t ht
  have hsz : t < (flatK enc k d).size := by rw [size_flatK]; exact ht
  rw [getElem!_pos (flatK enc k d) t hsz] at h2
  have hq2 : t / k < d.size := by rw [← Array.length_toList]; exact hq
  rw [h2, getElem!_pos d (t / k) hq2, getElem!_pos (enc d[t / k]) (t % k) (by simpa using hr)]
  simp
 ·rw [List.getElem?_eq_none (by rw [Array.length_toList, size_flatK]; omega), List.getElem?_eq_none (by omega)]
abbrev HOff (w : World) (v : Value) := { t : HT // LiesOff 7 edC w t.ea t.ec t.h.s.es v }
instance (w : World) (v : Value) : Inhabited (HOff w v) := ⟨⟨⟨⟨⟨0, [], 0⟩, 0, 0, false⟩, none, 0⟩, fun _ h => absurd h (by simp)⟩⟩
def oEnc {w : World} {v : Value} (t : HOff w v) : List Value := htC t.1
def oCf {w : World} {v : Value} (x y : HOff w v) : Int := cmpL (Dl.keyH x.1.h) (Dl.keyH y.1.h)
theorem oCf_lt {w : World} {v : Value} : (ltOf (oCf (w := w) (v := v))) = fun x y => Dl.ltH x.1.h y.1.h := by
 funext x y
 unfold ltOf oCf Dl.ltH
 exact cmpL_lt _ _
theorem cmpLays107 (w : World) (g n cap : Nat) (KB KS : Nat) (hk : KeysAt w KB KS) (h1 : KB ≠ g) (h2 : KS ≠ g) (size : Nat) :
  CmpLays Tryz.prog 107 #[.pointer (some ⟨KB, 0, none⟩)] (oEnc (w := w) (v := .slice (some ⟨g, 0, none⟩) n cap)) 6 oCf g 0 size w := by
 intro m os dk _ x y
 have kz : Kp w (sortWorldK oEnc 6 w g 0 m dk os) (some g) := grownBy_put id _
 have far : ∀ b o, b < w.heap.size → b ≠ g → (sortWorldK oEnc 6 w g 0 m dk os).cell? ⟨b, o, none⟩ = w.cell? ⟨b, o, none⟩ := fun b o hb hne => World.grownBy.cell_far kz ⟨b, o, none⟩ hb (fun e => hne (Option.some.inj e))
 obtain ⟨b1, b2, c, q0, q1, q2, q3, q4, q5⟩ := hk
 exact by107 x.1 y.1 KB KS _ ⟨Nat.lt_of_lt_of_le b1 kz.size, Nat.lt_of_lt_of_le b2 kz.size, (far _ _ b1 h1).trans c, (far _ _ b2 h2).trans q0, (far _ _ b2 h2).trans q1, (far _ _ b2 h2).trans q2, (far _ _ b2 h2).trans q3, (far _ _ b2 h2).trans q4, (far _ _ b2 h2).trans q5⟩ (x.2.keep kz).at (y.2.keep kz).at
def Sorted (base : Nat) (v : Value) (ts : List HT) (w : World) (E : Ending) (w' : World) : Prop := E = .returned (.tuple #[]) ∧ ∃ us : List HT, us.map (·.h) = Dl.norm (ts.map (·.h)) ∧ w'.ownsRow base 52 6 v us.length (us.flatMap htC) ∧ (∀ t ∈ us, LiesOff 7 edC w' t.ea t.ec t.h.s.es v) ∧ Kp w w' v.ownBlock
theorem sort163 {w : World} {base n cap g : Nat} (ts : List HT) (hn : ts.length = n) (ho : w.ownsRow base 52 6 (.slice (some ⟨g, 0, none⟩) n cap) n (ts.flatMap htC)) (hoff : ∀ t ∈ ts, LiesOff 7 edC w t.ea t.ec t.h.s.es (.slice (some ⟨g, 0, none⟩) n cap)) (KB KS : Nat) (hk : KeysAt w KB KS) (h1 : KB ≠ g) (h2 : KS ≠ g) (h20 : n < 20) :
  Calls Tryz.prog 163 #[.slice (some ⟨g, 0, none⟩) n cap, I6 0, I6 n, .func (.func 107) #[] #[.pointer (some ⟨KB, 0, none⟩)]] w (Sorted base (.slice (some ⟨g, 0, none⟩) n cap) ts w) := by
 obtain ⟨l, hl⟩ : ∃ l : List (HOff w (.slice (some ⟨g, 0, none⟩) n cap)), l = ts.attachWith _ hoff := ⟨_, rfl⟩
 have hval : l.map Subtype.val = ts := by rw [hl]; exact List.attachWith_map_subtype_val _
 have hlen : l.length = n := by have h := congrArg List.length hval; rw [List.length_map] at h; rw [h]; exact hn
 have hfl : (flatK oEnc 6 l.toArray).toList = ts.flatMap htC := by
  rw [flatK_flat oEnc 6 (fun _ => rfl) (by omega), ← hval, List.flatMap_map]; rfl
 have hH : HoldsK oEnc 6 w g 0 l.toArray := own_holds id ho _ (by rw [hfl, List.map_id])
 have hg : g < w.heap.size := (ho.lt g rfl).2
 have C := AnyQ.insertionSortCmpFunc Tryz.holeSort 6 Tryz.isAgg52 Tryz.sizeOf52 oEnc (fun _ => rfl) (fun x v hv => ht_one x.1 v hv) oCf 107 #[.pointer (some ⟨KB, 0, none⟩)] g 0 cap 0 n l.toArray w (enters_of Tryz.func107 (by kernel_rfl) rfl) (cmpLays107 w g n cap KB KS hk h1 h2 _) hH hg (Nat.zero_le _) (by simp [hlen]) (by simp [hlen]; omega)
 have hsz : (l.toArray.size) = n := by simp [hlen]
 have hins : Sort.insertionSort (ltOf oCf) l.toArray 0 n = (Dl.sortB (fun x y => Dl.ltH x.1.h y.1.h) l).toArray := by
  rw [oCf_lt, ← hlen]; exact Dl.insertion_list _ l
 rw [hins, hsz] at C
 refine C.mono ?_
 rintro E w' ⟨rfl, m, os, rfl⟩
 have hlen2 : (Dl.sortB (fun x y : HOff w (.slice (some ⟨g, 0, none⟩) n cap) => Dl.ltH x.1.h y.1.h) l).length = n := by rw [(Dl.sortB_perm _ l).length_eq, hlen]
 obtain ⟨s, hs⟩ : ∃ s, Dl.sortB (fun x y : HOff w (.slice (some ⟨g, 0, none⟩) n cap) => Dl.ltH x.1.h y.1.h) l = s := ⟨_, rfl⟩
 rw [hs] at hlen2 ⊢
 have kz : Kp w (sortWorldK oEnc 6 w g 0 m s.toArray os) (some g) := grownBy_put id _
 refine ⟨rfl, s.map Subtype.val, ?_, ?_, ?_, kz⟩
 ·have e := Dl.sortB_map (fun x : HOff w (.slice (some ⟨g, 0, none⟩) n cap) => x.1.h) Dl.ltH l
  rw [hs] at e; rw [List.map_map]; unfold Dl.norm; rw [← hval, List.map_map]
  exact e
 ·have := own_put (m := m) (os := os) id ho (flatK oEnc 6 s.toArray) (by rw [size_flatK]; simp [hlen2])
  rw [List.map_id, flatK_flat oEnc 6 (fun _ => rfl) (by omega)] at this; rw [List.length_map, hlen2, List.flatMap_map]
  exact this
 ·intro t ht
  obtain ⟨x, _, rfl⟩ := List.mem_map.1 ht
  exact x.2.keep kz
theorem stable106 (w : World) (v : Value) (n : Nat) (c : Value) (Q : Ending → World → Prop) (h20 : n < 20) (hs : Calls Tryz.prog 163 #[v, I6 0, I6 n, c] w Q) (hq : ∀ E w', Q E w' → E = .returned (.tuple #[])) : Calls Tryz.prog 106 #[v, I6 n, c] w Q := by
 have n1 : ¬ (20 : Int) ≤ (n : Int) := by omega
 have n2 : ¬ (20 : Int) < (n : Int) := by omega
 have HS := oh hs; have HQ := oh hq; clear hs hq
 go_enter Tryz.func106, Tryz.ntmps106
 go_upto_region 2 with fail
 refine wp_loop_rounds 1 ?_
 rw [rounds_succ]; go_upto_region 6 with fail
 go_wp2_with fail
 refine HS.out.mono ?_
 intro E w' hE
 obtain rfl := HQ.out _ _ hE
 have HE := oh hE; clear hE; go_upto_region 7 with fail
 refine wp_loop_rounds 1 ?_
 rw [rounds_succ]; go_wp2_with fail
 go_end0
 exact HE.out
theorem stable62 (w : World) (ao : Option Addr) (n cap : Nat) (c : Value) (Q : Ending → World → Prop) (h20 : n < 20) (hs : Calls Tryz.prog 163 #[.slice ao n cap, I6 0, I6 n, c] w Q) (hq : ∀ E w', Q E w' → E = .returned (.tuple #[])) : Calls Tryz.prog 62 #[.slice ao n cap, c] w Q := by
 have HS := oh (stable106 w _ n c Q h20 hs hq); have HQ := oh hq; clear hs hq
 go_enter Tryz.func62, Tryz.ntmps62
 go_wp2_with fail
 refine HS.out.mono ?_
 intro E w' hE
 obtain rfl := HQ.out _ _ hE
 have HE := oh hE; clear hE; go_wp2_with fail
 go_end0
 exact HE.out
theorem sort163_none (p : Option Addr) (cap : Nat) (fv : Value) (w : World) : Calls Tryz.prog 163 #[.slice p 0 cap, I6 0, I6 0, fv] w fun E w' => E = .returned (.tuple #[]) ∧ w' = w := by
 go_enter Tryz.func163, Tryz.ntmps163
 go_wp2
 refine wp_loop_rounds 1 ?_
 rw [rounds_succ]
 go_wp2
 go_end0
 exact ⟨rfl, rfl⟩
theorem by63 (v : Value) (ao : Option Addr) (n cap : Nat) (hv : v = .slice ao n cap) (w : World) : Calls Tryz.prog 63 #[v] w fun E w' => E = .returned (.func (.func 107) #[] #[.pointer (some ⟨w.heap.size, 0, none⟩)]) ∧ w' = w.alloc (.cells #[v] 205) := by
 subst hv
 go_enter Tryz.func63, Tryz.ntmps63
 go_wp2
 go_ret
 exact ⟨rfl, rfl⟩
theorem norm24 (ts : List HT) (n : Nat) (hn : ts.length = n) (ao : Option Addr) (cap : Nat) (w : World) (hl : HolesAt w ao cap ts) (hg : ∀ t ∈ ts, ZH t) (hn20 : n < 20) : Calls Tryz.prog 24 #[.slice ao n cap] w (ZMoved w (Dl.norm (ts.map (·.h)))) := by
 have HMV := oh (zmove19 ts n hn ao cap w hl hg (by omega))
 have HN := oh hn; clear hl hg hn
 go_enter Tryz.func24, Tryz.ntmps24
 go_wp2_with fail
 refine HMV.out.mono ?_
 rintro E w1 ⟨us, v, hus, rfl, hO, hoff, hk⟩
 have hlen : us.length = n := by rw [← HN.out, ← List.length_map (f := fun t : HT => t.h), hus, List.length_map]
 rw [hlen] at hO
 obtain ⟨ua, uc, rfl⟩ := own_slice hO
 have HUS := oh hus; have HO := oh hO; have HOFF := oh hoff; have HK := oh hk; have HL := oh hlen; clear hus hO hoff hk HMV hlen; go_upto_region 3 with fail
 go_wp2_with fail
 refine (by63 _ _ _ _ rfl _).mono ?_
 rintro E w2 ⟨rfl, hw2⟩
 have HK2 : Hid (Kp w1 w2 none) := oh (by rw [hw2]; exact ((Kp.refl w1 none).alloc _).alloc _)
 have HKA : Hid (KeysAt w2 (w1.heap.size + 1) w1.heap.size) := oh (by
  have hr := heap_alloc_new w1 (.cells #[.func (.func 64) #[] #[], .func (.func 65) #[] #[], .func (.func 61) #[] #[], .func (.func 66) #[] #[], .func (.func 67) #[] #[], .func (.func 69) #[] #[]] 129)
  have hr2 := blk hr ((Kp.refl _ none).alloc (.cells #[.slice (some ⟨w1.heap.size, 0, none⟩) 6 6] 205))
  rw [hw2]
  refine ⟨?_, ?_, ?_, hcell hr2 0 rfl, hcell hr2 1 rfl, hcell hr2 2 rfl, hcell hr2 3 rfl, hcell hr2 4 rfl, hcell hr2 5 rfl⟩
  ·simp
  ·simp; omega
  ·simp)
 have HSO : Hid (Calls Tryz.prog 62 #[.slice ua n uc, .func (.func 107) #[] #[.pointer (some ⟨w1.heap.size + 1, 0, none⟩)]] w2 (Sorted w.heap.size (.slice ua n uc) us w2)) := oh (by
  refine stable62 w2 ua n uc _ _ hn20 ?_ (fun E w' h => h.1)
  rcases HO.out.2 with ⟨he, h0⟩ | ⟨g, cp, _, he, _, _, _⟩
  ·subst h0; injection he with e1 e2 e3; subst e1; subst e3
   refine (sort163_none _ _ _ w2).mono ?_
   rintro E w' ⟨rfl, rfl⟩
   have hu : us = [] := List.length_eq_zero_iff.1 HL.out
   subst hu
   exact ⟨rfl, [], rfl, own_kp HO.out HK2.out, fun t h => absurd h (by simp), Kp.refl _ _⟩
  ·injection he with e1 e2 e3; subst e1; subst e3
   have hgl := (HO.out.lt g rfl).2
   exact sort163 us HL.out (own_kp HO.out HK2.out) (fun t ht => (HOFF.out t ht).keep (HK2.out.weak _)) _ _ HKA.out (by omega) (by omega) hn20)
 clear hw2; try go_wp2_with fail
 refine HSO.out.mono ?_
 rintro E w3 ⟨rfl, us2, hn2, ho2, hoff2, hk2⟩
 have HF : Hid (ZMoved w (Dl.norm (ts.map (·.h))) (.returned (.slice ua n uc)) w3) := oh ⟨us2, _, by rw [hn2, HUS.out], rfl, ho2, hoff2, Kp.row (HK.out.trans HK2.out) hk2 (fun q hq => (HO.out.lt q hq).1)⟩
 clear hn2 ho2 hoff2 hk2; go_wp2_with fail
 go_ret
 exact HF.out
end Go.Proofs.YtljjbdbgedmadaaGreatDoor
