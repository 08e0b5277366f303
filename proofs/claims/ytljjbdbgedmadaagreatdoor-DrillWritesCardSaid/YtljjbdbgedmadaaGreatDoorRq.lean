/- A point as the reference writes it. Condition: coordinates of at most 2^61.
   The tool of a radius, as the reference writes it. Condition: a radius that is there, at most a million radii.
   The reference's radii, in order. Condition: at most a million holes.
   The lines of a path, as the reference writes them. Condition: valid edges, at least one, at most 40. -/
import Derived.Test.YtljjbdbgedmadaaGreatDoorPt
import Derived.Test.YtljjbdbgedmadaaGreatDoorHs
import Derived.Laws.CopyOwn
import Derived.Test.YtljjbdbgedmadaaGreatDoorWp
set_option maxHeartbeats 8000000
set_option maxRecDepth 100000
namespace Go.Proofs.YtljjbdbgedmadaaGreatDoor
open Go.RowKit
theorem rpoint_any (px py : Int) (w : World) (hx : Mid px) (hy : Mid py) :
  Calls Tryz.prog 88 #[.agg #[I6 px, I6 py]] w fun e w' => e = .returned (.string ⟨(Pl.pnt 88 ⟨px, py⟩ 89).toArray⟩) ∧ Kp w w' none := by
 have HX := oh hx; have HY := oh hy; clear hx hy; have HBX := oh (heap_alloc_new w (.cells #[I6 px, I6 py] 42))
 go_enter Tryz.func88, Tryz.ntmps88
 go_wp2_with fail
 obtain ⟨q1, hq1⟩ : ∃ q : List UInt8, [88] ++ Lib.itoa px = q := ⟨_, rfl⟩
 have HBq1 : Hid ((⟨#[88]⟩ : ByteArray) ++ (⟨(Lib.itoa px).toArray⟩ : ByteArray) = ⟨(q1).toArray⟩) := oh (by rw [← hq1]; exact ByteArray.mk_append_mk _ _)
 have hlb1 : (Lib.itoa px).length ≤ 20 := itoa_length px HX.out
 have hbq1 : q1.length ≤ 21 := by rw [← hq1, List.length_append]; (try simp only [List.length_cons, List.length_nil]); omega
 have HGq1 : Hid ((9223372036854775807 < 1 + (Lib.itoa px).length) = False) := oh (eq_false (by (try simp only [List.length_cons, List.length_nil]); omega))
 have Hq1 := oh hq1; clear hq1 hlb1; obtain ⟨q2, hq2⟩ : ∃ q : List UInt8, q1 ++ [89] = q := ⟨_, rfl⟩
 have HBq2 : Hid ((⟨(q1).toArray⟩ : ByteArray) ++ (⟨#[89]⟩ : ByteArray) = ⟨(q2).toArray⟩) := oh (by rw [← hq2]; exact ByteArray.mk_append_mk _ _)
 have hbq2 : q2.length ≤ 22 := by rw [← hq2, List.length_append]; (try simp only [List.length_cons, List.length_nil]); omega
 have HGq2 : Hid ((9223372036854775807 < (q1).length + 1) = False) := oh (eq_false (by (try simp only [List.length_cons, List.length_nil]); omega))
 have Hq2 := oh hq2; clear hq2; obtain ⟨q3, hq3⟩ : ∃ q : List UInt8, q2 ++ Lib.itoa py = q := ⟨_, rfl⟩
 have HBq3 : Hid ((⟨(q2).toArray⟩ : ByteArray) ++ (⟨(Lib.itoa py).toArray⟩ : ByteArray) = ⟨(q3).toArray⟩) := oh (by rw [← hq3]; exact ByteArray.mk_append_mk _ _)
 have hlb3 : (Lib.itoa py).length ≤ 20 := itoa_length py HY.out
 have hbq3 : q3.length ≤ 42 := by rw [← hq3, List.length_append]; (try simp only [List.length_cons, List.length_nil]); omega
 have HGq3 : Hid ((9223372036854775807 < (q2).length + (Lib.itoa py).length) = False) := oh (eq_false (by (try simp only [List.length_cons, List.length_nil]); omega))
 have Hq3 := oh hq3; clear hq3 hlb3; clear hbq1 hbq2 hbq3; refine wp_region_held_drew (S := fun w' => w'.cell? ⟨w.heap.size, 0, none⟩ = some (I6 px) ∧ w'.cell? ⟨w.heap.size, 1, none⟩ = some (I6 py) ∧ Hid (Kp (w.alloc (.cells #[I6 px, I6 py] 42)) w' none)) (by kernel_rfl) ?_ (fun eh => ?_)
 ·exact ⟨ckr HBX.out (Kp.refl _ none).drew (by simp) 0 rfl, ckr HBX.out (Kp.refl _ none).drew (by simp) 1 rfl, oh (Kp.refl _ none).drew⟩
 refine tjH 0 rfl ?_; refine tjH 1 rfl ?_; refine tjH 5 rfl ?_; refine tjH 6 rfl ?_; refine rdH 2 rfl (fun K hK => ?_); have gK := eh.2.2; go_simp
 refine (dec_any px HX.out _).mono ?_
 rintro e w21 ⟨rfl, kk⟩; try go_wp2_with fail
 refine hK.out _ _ ?_ (fun hHeld2 => ?_)
 ·exact ⟨ck HBX.out (gK.out.trans kk) 0 rfl, ck HBX.out (gK.out.trans kk) 1 rfl, oh (gK.out.trans kk)⟩
 clear hK K eh gK kk; have eh := hHeld2; clear hHeld2; try simp only [Act.put, sm]
 have hq1 := HBq1.out; have g1 := HGq1.out; refine tjH 3 rfl ?_; clear g1 hq1; have hq2 := HBq2.out; have g2 := HGq2.out; refine tjH 4 rfl ?_; clear g2 hq2; refine rdH 7 rfl (fun K hK => ?_); have gK := eh.2.2; go_simp
 refine (dec_any py HY.out _).mono ?_
 rintro e w22 ⟨rfl, kk⟩; try go_wp2_with fail
 refine hK.out _ _ ?_ (fun hHeld2 => ?_)
 ·exact ⟨ck HBX.out (gK.out.trans kk) 0 rfl, ck HBX.out (gK.out.trans kk) 1 rfl, oh (gK.out.trans kk)⟩
 clear hK K eh gK kk; have eh := hHeld2; clear hHeld2; try simp only [Act.put, sm]
 have hq3 := HBq3.out; have g3 := HGq3.out; refine tjH 8 rfl ?_; clear g3 hq3; refine rdH 9 rfl (fun K hK => ?_); have gK := eh.2.2; go_simp; try go_wp2_with fail
 refine hK.out _ _ ?_ (fun hHeld2 => ?_)
 ·exact ⟨ck HBX.out gK.out 0 rfl, ck HBX.out gK.out 1 rfl, oh gK.out⟩
 have KZ := oh gK.out
 clear hK K eh hHeld2 gK; try simp only [Act.put, sm]
 refine wpAnyH_done (by kernel_rfl) ?_ _
 have HF : Hid (q3 = Pl.pnt 88 ⟨px, py⟩ 89) := oh (by rw [← Hq3.out, ← Hq2.out, ← Hq1.out]; unfold Pl.pnt; simp)
 go_wp2_with fail
 go_ret
 exact ⟨ret_str (by rw [HF.out]), ((Kp.refl w none).alloc _).trans KZ.out⟩
set_option maxHeartbeats 4000000
set_option maxRecDepth 100000
theorem rtool_any (rs : List Int) (r : Int) (n : Nat) (hn : rs.length = n) (ao : Option Addr) (cap : Nat) (w : World) (h : LiesAt 1 intVal w ao cap rs) (hr : r ∈ rs) (hl : n ≤ 1000000) :
  Calls Tryz.prog 35 #[.slice ao n cap, I6 r] w fun E w' => E = .returned (str ([84] ++ Lib.itoa ((rs.idxOf r : Nat) + 1 : Int))) ∧ Kp w w' none := by
 have FL := oh h; have HN := oh hn; have HR := oh hr; obtain ⟨fin, hfin⟩ : ∃ q, [84] ++ Lib.itoa ((rs.idxOf r : Nat) + 1 : Int) = q := ⟨_, rfl⟩
 have HFIN := oh hfin; rw [hfin]; clear h hn hr hfin; have hn0 := nn n; go_enter Tryz.func35, Tryz.ntmps35
 go_wp2_with fail
 go_loopw [5] (fun i wr => (∃ k : Nat, k ≤ n ∧ i = I6 k ∧ Hid (r ∉ rs.take k)) ∧ w = wr) (fun i _ => n - (intOf i).toNat)
 case atStart => exact ⟨⟨0, Nat.zero_le _, rfl, oh (by simp)⟩, rfl⟩
 case round =>
  obtain ⟨⟨k, hk, rfl, HNO⟩, rfl⟩ := hrel
  have hk0 := nn k
  by_cases hlt : k < n
  ·have hk1 : (k : Int) < (n : Int) := by omega
   have hlt2 : k < rs.length := by have := HN.out; omega
   obtain ⟨g, off, rfl, hg, hcap, hcell⟩ := FL.out.int k hlt2
   have c0 := hcell k hlt2
   have hcap2 : n ≤ cap := by have := HN.out; omega
   obtain ⟨x, hx⟩ : ∃ x, rs[k] = x := ⟨_, rfl⟩
   rw [hx] at c0
   by_cases hxr : x = r
   ·subst hxr; have hxx : (x == x) = true := by simp
    have hix : rs.idxOf x = k := by
     have hb : (rs.idxOf x) ≤ k := by
      rcases Nat.lt_or_ge k (rs.idxOf x) with h | h
      ·exact absurd (List.getElem_mem (l := rs) hlt2) (by intro _; have := List.not_of_lt_findIdx (p := (· == x)) (xs := rs) h; simp [hx] at this)
      ·exact h
     have hb2 : ¬ rs.idxOf x < k := fun h => HNO.out (by
      have hm : rs[rs.idxOf x]'(by omega) = x := List.getElem_idxOf (by omega)
      rw [← hm]; exact List.mem_take_iff_getElem.2 ⟨rs.idxOf x, by omega, rfl⟩)
     omega
    have HI := oh hix; have MQ : Hid (Mid ((k : Int) + 1)) := oh (by clear hix; unfold Mid; omega)
    have HF2 : Hid ([84] ++ Lib.itoa ((k : Int) + 1) = fin) := oh (by rw [← HFIN.out, HI.out])
    have HS1 : Hid ((⟨#[84]⟩ : ByteArray) ++ (⟨(Lib.itoa ((k : Int) + 1)).toArray⟩ : ByteArray) = ⟨fin.toArray⟩) := oh (by rw [← HF2.out]; exact ByteArray.mk_append_mk _ _)
    have HG1 : Hid ((9223372036854775807 < 1 + (Lib.itoa ((k : Int) + 1)).length) = False) := oh (eq_false (by clear hix; have := itoa_length ((k : Int) + 1) MQ.out; omega))
    clear hix hx hlt hcell hlt2 hcap; go_wp2_with (go_at_call 34; refine (dec_any ((k : Int) + 1) MQ.out _).mono ?_; rintro e w2 ⟨rfl, k2⟩; have K2 := oh k2; clear k2; have g1 := HG1.out; have s1 := HS1.out)
    go_ret
    exact ⟨rfl, K2.out⟩
   ·have hxf : (x == r) = false := by simpa using hxr
    have HN2 : Hid (r ∉ rs.take (k + 1)) := oh (by
     rw [List.take_succ_eq_append_getElem hlt2, List.mem_append, List.mem_singleton, hx]
     rintro (h | h)
     ·exact HNO.out h
     ·exact hxr h.symm)
    clear hx hxr hcell hcap; go_wp2_with fail
    first | exact ⟨⟨⟨k + 1, hlt, by go_num, HN2⟩, rfl⟩, by simp [intOf]; omega⟩ | (go_roundw; all_goals first | exact ⟨⟨k + 1, hlt, by go_num, HN2⟩, by trivial⟩ | (simp [intOf]; omega))
  ·exact absurd HR.out (by have := HNO.out; rwa [List.take_of_length_le (by have := HN.out; omega)] at this)
set_option maxHeartbeats 8000000
set_option maxRecDepth 100000
theorem radii_next {hs : List Dl.Ho} {k : Nat} (h : k < hs.length) : Dl.radii (hs.take (k + 1)) = Pl.ins hs[k].s.r (Dl.radii (hs.take k)) := by
 unfold Dl.radii
 rw [List.take_succ_eq_append_getElem h, List.map_append, List.foldl_append]; rfl
theorem ins_at {r : Int} : ∀ {l : List Int} {k : Nat}, k ≤ l.length → (∀ x ∈ l.take k, x < r) → (∀ x ∈ l.drop k, r < x) → Pl.ins r l = l.take k ++ r :: l.drop k
 | [], 0, _, _, _ => rfl
 | [], k + 1, h, _, _ => by simp at h
 | x :: l, 0, _, _, h => by
  have := h x (by simp)
  unfold Pl.ins
  rw [if_neg (by omega), if_neg (by omega)]; rfl
 | x :: l, k + 1, h0, h1, h2 => by
  have hx := h1 x (by simp)
  unfold Pl.ins
  rw [if_pos hx, ins_at (l := l) (k := k) (by simpa using h0) (fun y hy => h1 y (by simp [hy])) (fun y hy => h2 y (by simpa using hy))]
  rfl
theorem ins_has {r : Int} : ∀ {l : List Int} {k : Nat} (h : k < l.length), (∀ x ∈ l.take k, x < r) → l[k] = r → Pl.ins r l = l
 | [], _, h, _, _ => by simp at h
 | x :: l, 0, _, _, h => by
  simp only [List.getElem_cons_zero] at h
  unfold Pl.ins; rw [if_neg (by omega), if_pos h]
 | x :: l, k + 1, h0, h1, h2 => by
  have hx := h1 x (by simp)
  unfold Pl.ins
  rw [if_pos hx, ins_has (l := l) (k := k) (by simpa using h0) (fun y hy => h1 y (by simp [hy])) (by simpa using h2)]
theorem asc_take {l : List Int} (h : l.Pairwise (· < ·)) {k : Nat} (hk : k < l.length) : ∀ x ∈ l.take k, x < l[k] := by
 intro x hx; obtain ⟨i, hi, rfl⟩ := List.mem_take_iff_getElem.1 hx
 exact List.pairwise_iff_getElem.1 h i k (by omega) hk (by omega)
theorem ins_end {r : Int} {l : List Int} (h : l.Pairwise (· < ·)) {m : Nat} (hm : m < l.length) (hd : ∀ x ∈ l.drop (m + 1), r < x) : (l[m] = r → Pl.ins r l = l) ∧ (l[m] < r → Pl.ins r l = l.take (m + 1) ++ r :: l.drop (m + 1)) := by
 refine ⟨fun e => ins_has hm (fun x hx => by have := asc_take h hm x hx; omega) e, fun e => ins_at (by omega) (fun x hx => ?_) hd⟩
 rw [List.take_succ_eq_append_getElem hm, List.mem_append, List.mem_singleton] at hx
 rcases hx with hx | rfl
 ·have := asc_take h hm x hx; omega
 ·exact e
theorem splice_ins (A B R : List Value) (z u : Value) : (Go.splice (A ++ B ++ [z] ++ R) (A.length + 1) B).set A.length u = A ++ u :: B ++ R := by
 obtain ⟨y, ys, hy⟩ : ∃ y ys, B ++ [z] = y :: ys := by cases B with
  | nil => exact ⟨z, [], rfl⟩
  | cons b B => exact ⟨b, B ++ [z], rfl⟩
 have e1 : A ++ B ++ [z] ++ R = (A ++ [y]) ++ (ys ++ R) := by rw [List.append_assoc A, hy]; simp
 have e2 : (A ++ B ++ [z] ++ R).drop (A.length + 1 + B.length) = R := List.drop_left' (by simp; omega)
 have e3 : (A ++ B ++ [z] ++ R).take (A.length + 1) = A ++ [y] := by rw [e1]; exact List.take_left' (by simp)
 unfold Go.splice; rw [e2, e3, List.append_assoc, List.set_append]
 simp
theorem wrap_up (j : Nat) (h : j ≤ 1000000) : wrap64 ((j : Int) + 1) = ((j + 1 : Nat) : Int) ∧ IntKind.i64.wrap ((j : Int) + 1) = ((j + 1 : Nat) : Int) := ⟨by unfold wrap64; omega, by rw [IntKind.wrap_i64]; omega⟩
def RiRel (hs : List Dl.Ho) (w : World) (v i : Value) (wr : World) : Prop :=
 ∃ k : Nat, k ≤ hs.length ∧ i = I6 k ∧ wr.ownsRow w.heap.size 3 1 v (Dl.radii (hs.take k)).length ((Dl.radii (hs.take k)).flatMap intVal) ∧ Kp w wr none
theorem ints_len (xs : List Int) : (xs.flatMap intVal).length = xs.length := by rw [flat_len (m := 1) (fun _ => rfl), Nat.mul_one]
theorem ints_map (xs : List Int) : xs.flatMap intVal = xs.map fun x => I6 x := by
 induction xs with
 | nil => rfl
 | cons x xs ih => rw [List.flatMap_cons, ih]; rfl
theorem drop_at (xs : List Int) (j i : Nat) (v : Value) (h : ((xs.drop j).flatMap intVal)[i]? = some v) : j + i < xs.length ∧ (xs.flatMap intVal)[j + i]? = some v := by
 have hi : i < ((xs.drop j).flatMap intVal).length := (List.getElem?_eq_some_iff.1 h).1
 rw [ints_len, List.length_drop] at hi; rw [ints_map, List.map_drop, List.getElem?_drop, ← ints_map] at h; exact ⟨by omega, h⟩
theorem row_ins {w W : World} {g cap n j : Nat} {r : Int} {xs : List Int} {cur : Array Value} (hn : xs.length = n) (hj : j ≤ n) (hb : w.heap.size ≤ g) (hc : n + 1 ≤ cap) (hm : cap ≤ maxLen) (hcs : cur.size = cap * 1)
  (ht : cur.toList.take ((n + 1) * 1) = xs.flatMap intVal ++ [(0 : Int)].flatMap intVal) (hg : W.heap[g]? = some (.cells (Go.splice cur.toList (j + 1) ((xs.drop j).flatMap intVal)).toArray 3 (0, 0))) :
  (W.setCell ⟨g, j, none⟩ (I6 r)).ownsRow w.heap.size 3 1 (.slice (some ⟨g, 0, none⟩) (n + 1) cap) (xs.take j ++ r :: xs.drop j).length ((xs.take j ++ r :: xs.drop j).flatMap intVal) := by
 have hl : (xs.take j ++ r :: xs.drop j).length = n + 1 := by rw [List.length_append, List.length_cons, List.length_take, List.length_drop]; omega
 have hA : ((xs.take j).flatMap intVal).length = j := by rw [ints_len, List.length_take]; omega
 have hcur : cur.toList = (xs.take j).flatMap intVal ++ (xs.drop j).flatMap intVal ++ [I6 0] ++ cur.toList.drop (n + 1) := by
  conv => lhs; rw [← List.take_append_drop (n + 1) cur.toList]
  rw [Nat.mul_one] at ht; rw [ht]; conv => lhs; rw [← List.take_append_drop j xs, List.flatMap_append]
  rfl
 have hs := splice_ins ((xs.take j).flatMap intVal) ((xs.drop j).flatMap intVal) (cur.toList.drop (n + 1)) (I6 0) (I6 r)
 rw [hA, ← hcur] at hs; rw [hl]; refine ⟨by rw [ints_len, hl, Nat.mul_one], .inr ⟨g, cap, _, rfl, hb, heap_set hg, hc, hm, ?_, ?_⟩⟩
 ·have hX : ((xs.drop j).flatMap intVal).length = n - j := by rw [ints_len, List.length_drop, hn]
  rw [Array.size_setIfInBounds, List.size_toArray, length_splice _ _ _ (by rw [hX, Array.length_toList, hcs]; omega)]
  simpa using hcs
 ·rw [List.setIfInBounds_toArray, List.toList_toArray, hs, Nat.mul_one]; rw [show (xs.take j).flatMap intVal ++ I6 r :: (xs.drop j).flatMap intVal = (xs.take j ++ r :: xs.drop j).flatMap intVal by rw [List.flatMap_append, List.flatMap_cons]; rfl]
  exact List.take_append_of_le_length (by rw [ints_len, hl]; exact Nat.le_refl _) |>.trans (List.take_of_length_le (by rw [ints_len, hl]; exact Nat.le_refl _))
theorem own_open {w : World} {base n : Nat} {e : TypeId} {v : Value} {xs : List Value} (h : w.ownsRow base e 1 v n xs) (hn : 0 < n) : ∃ g cap, ∃ cur : Array Value, v = .slice (some ⟨g, 0, none⟩) n cap ∧ base ≤ g ∧ w.heap[g]? = some (.cells cur e (0, 0)) ∧ n ≤ cap ∧ cap ≤ maxLen ∧ cur.size = cap * 1 ∧ cur.toList.take (n * 1) = xs := by
 rcases h.2 with ⟨_, h0⟩ | h
 ·omega
 ·exact h
theorem radii_any (ts : List HT) (n : Nat) (hn : ts.length = n) (ao : Option Addr) (cap0 : Nat) (w : World) (hts : HolesAt w ao cap0 ts) (hl : n ≤ 1000000) :
  Calls Tryz.prog 33 #[.slice ao n cap0] w fun E w' => ∃ v, E = .returned v ∧ w'.ownsRow w.heap.size 3 1 v (Dl.radii (ts.map (·.h))).length ((Dl.radii (ts.map (·.h))).flatMap intVal) ∧ Kp w w' none := by
 have FD := oh hts; have HN := oh hn; obtain ⟨hs, hhs⟩ : ∃ hs, ts.map (·.h) = hs := ⟨_, rfl⟩
 rw [hhs]; have HHL : Hid (hs.length = n) := oh (by rw [← hhs, List.length_map, hn])
 have HHG : Hid (∀ k, (h1 : k < ts.length) → (h2 : k < hs.length) → hs[k] = ts[k].h) := oh (by subst hhs; intro k h1 h2; simp)
 clear hts hn hhs; have hn0 := nn n; obtain ⟨i0, hi, hz0, hz1, hz2⟩ := info_parts infoInt
 go_enter Tryz.func33, Tryz.ntmps33
 go_wp2_with fail
 go_loopw [3, 4] (fun v i wr => RiRel hs w v i wr) (fun _ i _ => n - (intOf i).toNat)
 case atStart => exact ⟨0, Nat.zero_le _, rfl, World.ownsRow_nil _ _ _ _, Kp.refl _ _⟩
 case round =>
  obtain ⟨k, hk, rfl, hown, hkp⟩ := hrel; have HK := oh hkp; clear hkp
  have hk0 := nn k
  by_cases hlt : k < n
  ·have hk1 : (k : Int) < (n : Int) := by omega
   have hlt2 : k < ts.length := by rw [HN.out]; exact hlt
   have hlt3 : k < hs.length := by rw [HHL.out]; exact hlt
   obtain ⟨b0, of0, hao, hcap, hb0, hcells⟩ := FD.out.ho hlt2
   subst hao; obtain ⟨_, _, e2, _⟩ := hcells wr HK.out
   have hcap2 : n ≤ cap0 := by have := HN.out; omega
   have hstep := radii_next hlt3
   rw [HHG.out k hlt2 hlt3] at hstep; obtain ⟨r, hr⟩ : ∃ r, ts[k].h.s.r = r := ⟨_, rfl⟩
   rw [hr] at e2 hstep; have hasc := Dl.radii_asc (hs.take k)
   have hlen := Dl.radii_len (hs.take k)
   rw [List.length_take] at hlen; obtain ⟨xs, hxs⟩ : ∃ xs, Dl.radii (hs.take k) = xs := ⟨_, rfl⟩
   rw [hxs] at hown hstep hasc hlen; have HASC := oh hasc
   have HMK : Hid (∀ (v : Value) (wq : World), wq.ownsRow w.heap.size 3 1 v (Pl.ins r xs).length ((Pl.ins r xs).flatMap intVal) → Kp w wq none → RiRel hs w v (I6 (k + 1)) wq) := oh fun v wq h1 k1 =>
    ⟨k + 1, hlt3, by go_num, by rw [hstep]; exact h1, k1⟩
   obtain ⟨m, hm⟩ : ∃ m, xs.length = m := ⟨_, rfl⟩
   rw [hm] at hown; obtain ⟨xo, xcap, rfl⟩ := own_slice hown
   have HFX := oh (own_lies (f := intVal) (xs := xs) (fun _ => rfl) (by rw [hm]; exact hown)).2
   have hml : m ≤ 1000000 := by omega
   have HOWN := oh hown; have HXL := oh hm; clear hasc hlen hxs hstep hr hcells hown hm hcap; have hm0 := nn m; go_wp2_with fail
   go_loopw [6] (fun i wq => (∃ j : Nat, j ≤ m ∧ i = I6 j ∧ Hid (∀ x ∈ xs.drop j, r < x)) ∧ wr = wq) (fun i _ => (intOf i).toNat)
   case atStart => exact ⟨⟨m, Nat.le_refl _, rfl, oh (by rw [List.drop_of_length_le (by rw [HXL.out]; exact Nat.le_refl _)]; simp)⟩, rfl⟩
   case round =>
    obtain ⟨⟨j, hjm, rfl, HD⟩, rfl⟩ := hrel
    have hj0 := nn j; have HJM := oh hjm
    by_cases hjz : 0 < j
    ·obtain ⟨p, hp⟩ : ∃ p, p + 1 = j := ⟨j - 1, by omega⟩
     have hjp : (0 : Int) < (j : Int) := by omega
     have hpm : p < xs.length := by have := HXL.out; omega
     obtain ⟨b1, of1, rfl, hb1, hcx, hrx⟩ := HFX.out.int p hpm
     have c1 := hrx p hpm
     have HEND := oh (ins_end HASC.out hpm (by rw [hp]; exact HD.out) (r := r))
     obtain ⟨x, hx⟩ : ∃ x, xs[p] = x := ⟨_, rfl⟩
     rw [hx] at c1 HEND; have hw1 : wrap64 ((j : Int) - 1) = (p : Int) := by subst hp; unfold wrap64; omega
     have hw1b : IntKind.i64.wrap ((j : Int) - 1) = (p : Int) := by subst hp; rw [IntKind.wrap_i64]; omega
     have hp0 := nn p; have hp1 : (p : Int) < (m : Int) := by omega
     have hp2 : p < m := by omega
     have hcx2 : m ≤ xcap := by have := HXL.out; omega
     have HP := oh hp
     by_cases hrx2 : r < x
     ·have HN2 : Hid (∀ y ∈ xs.drop p, r < y) := oh (by
       intro y hy; rw [List.drop_eq_getElem_cons hpm, List.mem_cons, hx, HP.out] at hy
       rcases hy with rfl | hy
       ·exact hrx2
       ·exact HD.out y hy)
      clear hx hp hrx hjm HEND hjz; go_wp2_with fail
      first | exact ⟨⟨⟨p, by omega, rfl, HN2⟩, rfl⟩, by simp [intOf]; omega⟩ | (go_roundw; all_goals first | exact ⟨⟨p, by omega, rfl, HN2⟩, by trivial⟩ | (have := HP.out; simp [intOf]; omega))
     ·by_cases hxe : x = r
      ·have HREL : Hid (RiRel hs w (.slice (some ⟨b1, of1, none⟩) m xcap) (I6 (k + 1)) wr) := oh (HMK.out _ _ (by rw [HEND.out.1 hxe, HXL.out]; exact HOWN.out) HK.out)
       subst hxe; clear hx HMK hp hrx hjz hjm HEND; go_wp2_with fail
       first | exact ⟨HREL.out, by simp [intOf]; omega⟩ | (go_roundw; all_goals first | exact HREL.out | (simp [intOf]; omega))
      ·have hxf : (x == r) = false := by simpa using hxe
       have HINS : Hid (Pl.ins r xs = xs.take j ++ r :: xs.drop j) := oh (by rw [← HP.out]; exact HEND.out.2 (by omega))
       clear hx hp hrx hxe hjz HEND HD
       go_wp2_with (first
        | (at_builtin; go_must (refine wpList_app (f := intVal) rfl (.tmp 45) (.tmp 46) w.heap.size 83 3 rfl i0 _ 1 8 Tryz.underlying83 hi hz0 hz1 hz2 rfl (by omega) (fun _ => rfl) (by intro x u hu; simp [intVal] at hu; subst hu; rfl) (.slice (some (⟨b1, of1, none⟩ : Addr)) m xcap) m _ rfl (own_kp HOWN.out ((Kp.refl _ none).alloc _)) _ [(0 : Int)] rfl (int_list 0) (by unfold maxLen; simp; omega) (by simp; omega) (by have := HK.out.size; simp; omega) ?_); intro v3 w3 ho hg _; obtain ⟨m1, hm1⟩ : ∃ x, m + [(0 : Int)].length = x := ⟨_, rfl⟩; rw [hm1] at ho; have HM1 : Hid (m + 1 = m1) := oh hm1; clear hm1; obtain ⟨g, cap, cur, rfl, hgb, hgh, hgc, hgm, hgs, hgt⟩ := own_open ho (by have := HM1.out; omega); have HG3 := oh (Kp.row (HK.out.trans ((Kp.refl _ none).alloc _)) hg (fun q hq => (HOWN.out.lt q hq).1)); have HGH := oh hgh; clear ho hg hgh)
        | fail)
       clear hw1 hw1b c1 hp0 hp1 hp2 hcx2 hrx2 hxf hjp hpm hcx hb1; have HCL : Hid (cur.toList.length = cap) := oh (by rw [Array.length_toList, hgs]; omega)
       obtain ⟨q, hq⟩ : ∃ q, j + 1 = q := ⟨_, rfl⟩
       have hq0 := nn q; have hq1 : (q : Int) ≤ (m1 : Int) := by have := HM1.out; omega
       have hq2 : q ≤ m1 := by omega
       have hj1 : (j : Int) ≤ (m1 : Int) := by have := HM1.out; omega
       have hj2 : j ≤ m1 := by omega
       have hjc : (cap = j) = False := eq_false (by have := HM1.out; omega)
       obtain ⟨hw2, hw3⟩ : wrap64 ((j : Int) + 1) = (q : Int) ∧ IntKind.i64.wrap ((j : Int) + 1) = (q : Int) := by rw [← hq]; exact wrap_up j (Nat.le_trans HJM.out hml)
       have HQ := oh hq; clear hq; have HR : Hid (w3.heap[g]? = some (.cells cur.toList.toArray 3 (0, 0))) := HGH
       refine wp_region_held_drew (S := fun V => Hid (Kp w V none)) (by kernel_rfl) (oh HG3.out.drew) (fun eh => ?_)
       refine tjH 0 rfl ?_; refine tjH 1 rfl ?_; refine tjH 2 rfl ?_; refine tjH 3 rfl ?_; refine tjH 4 rfl ?_; refine tjH 5 rfl ?_; refine tjH 6 rfl ?_; clear hw2 hw3; refine rdH 7 rfl (fun K hK => ?_); have gK := eh
       have gR : w3.drew.heap[g]? = some (.cells cur.toList.toArray 3 (0, 0)) := HR.out
       clear eh; refine step_copy_splice rfl (.tmp 51) (.tmp 54) 83 83 rfl 3 Tryz.underlying83 (by kernel_rfl) _ _ _ _ _ _ rfl rfl g q cur.toList 3 gR ((xs.drop j).flatMap intVal) ?len ?src ?fit (by intro u hu; obtain ⟨y, _, hy⟩ := List.mem_flatMap.1 hu; simp [intVal] at hy; subst hy; rfl) w.heap.size w gK.out.below hgb ?_
       case len => rw [ints_len, List.length_drop]; have := HQ.out; have := HM1.out; have := HXL.out; simp only [Nat.min_def]; split <;> omega
       case fit => rw [ints_len, List.length_drop, HCL.out]; have := HQ.out; have := HM1.out; have := HXL.out; omega
       case src =>
        intro h0; rw [ints_len, List.length_drop] at h0; have hqc : ¬ cap = q := by have := HQ.out; have := HM1.out; have := HXL.out; omega
        refine ⟨by simp [hqc], _, by simp; rfl, fun i u hu => ?_⟩
        obtain ⟨hi1, hi2⟩ := drop_at xs j i u hu
        have hce : cur.toList[j + i]? = some u := by
         have := congrArg (fun l => l[j + i]?) hgt
         simp only [List.getElem?_take] at this
         rw [if_pos (by have := HM1.out; have := HXL.out; omega), List.getElem?_append_left (by rw [ints_len]; exact hi1)] at this
         rw [this]; exact hi2
        have := hcell gR (j + i) (v := u) (by simpa using hce)
        rw [show (⟨g, j, none⟩ : Addr).add i = ⟨g, j + i, none⟩ by unfold Addr.add; split <;> simp_all]
        exact this
       intro w4 hw4 hb4; refine hK.out _ _ (oh (Kp.of_below hb4)) (fun _ => ?_)
       have HK4 := oh (Kp.of_below hb4)
       have HG4 := oh hw4.out
       clear hK K gK gR hw4 hb4; try simp only [Act.put, sm]
       refine wpAnyH_done (by kernel_rfl) ?_ _
       clear hq0 hq1 hq2 HGH HR HG3; have hg4 := HG4.out; have hjs : j < cur.toList.length := by rw [HCL.out]; have := HM1.out; omega
       obtain ⟨u0, hu0⟩ : ∃ u, (Go.splice cur.toList q ((xs.drop j).flatMap intVal)).toArray[j]? = some u := ⟨_, Array.getElem?_eq_getElem (by rw [List.size_toArray, length_splice]; exact hjs; rw [ints_len, List.length_drop, HCL.out]; have := HQ.out; have := HM1.out; have := HXL.out; omega)⟩
       have hc4 : w4.cell? ⟨g, j, none⟩ = some u0 := hcell hg4 j hu0
       have hf4 : w4.frozen? ⟨g, j, none⟩ = false := fz hg4 j
       have HREL : Hid (RiRel hs w (.slice (some ⟨g, 0, none⟩) m1 cap) (I6 (k + 1)) (w4.setCell ⟨g, j, none⟩ (I6 r))) := oh (HMK.out _ _ (by
        rw [HINS.out, ← HM1.out]; exact row_ins HXL.out HJM.out hgb (by have := HM1.out; omega) hgm hgs (by rw [HM1.out]; exact hgt) (by rw [HQ.out]; exact HG4.out)) (Kp.row HK4.out ((Kp.refl _ (some g)).set _) (fun x hx => by injection hx with hx; omega)))
       clear hu0 hg4 hgt hgs hgm HMK HINS; have hj3 : (j : Int) < (m1 : Int) := by have := HM1.out; omega
       have hj4 : j < m1 := by omega
       go_wp2_with fail
       first | exact ⟨HREL.out, by simp [intOf]; omega⟩ | (go_roundw; all_goals first | exact HREL.out | (simp [intOf]; omega))
    ·have hjp : ¬ (0 : Int) < (j : Int) := by omega
     have HINS : Hid (Pl.ins r xs = xs.take j ++ r :: xs.drop j) := oh (ins_at (by rw [HXL.out]; exact hjm) (fun x hx => by rw [show j = 0 by omega] at hx; simp at hx) HD.out)
     clear hjz HD
     go_wp2_with (first
      | (at_builtin; go_must (refine wpList_app (f := intVal) rfl (.tmp 45) (.tmp 46) w.heap.size 83 3 rfl i0 _ 1 8 Tryz.underlying83 hi hz0 hz1 hz2 rfl (by omega) (fun _ => rfl) (by intro x u hu; simp [intVal] at hu; subst hu; rfl) (.slice xo m xcap) m _ rfl (own_kp HOWN.out ((Kp.refl _ none).alloc _)) _ [(0 : Int)] rfl (int_list 0) (by unfold maxLen; simp; omega) (by simp; omega) (by have := HK.out.size; simp; omega) ?_); intro v3 w3 ho hg _; obtain ⟨m1, hm1⟩ : ∃ x, m + [(0 : Int)].length = x := ⟨_, rfl⟩; rw [hm1] at ho; have HM1 : Hid (m + 1 = m1) := oh hm1; clear hm1; obtain ⟨g, cap, cur, rfl, hgb, hgh, hgc, hgm, hgs, hgt⟩ := own_open ho (by have := HM1.out; omega); have HG3 := oh (Kp.row (HK.out.trans ((Kp.refl _ none).alloc _)) hg (fun q hq => (HOWN.out.lt q hq).1)); have HGH := oh hgh; clear ho hg hgh)
      | fail)
     skip
     have HCL : Hid (cur.toList.length = cap) := oh (by rw [Array.length_toList, hgs]; omega)
     obtain ⟨q, hq⟩ : ∃ q, j + 1 = q := ⟨_, rfl⟩
     have hq0 := nn q; have hq1 : (q : Int) ≤ (m1 : Int) := by have := HM1.out; omega
     have hq2 : q ≤ m1 := by omega
     have hj1 : (j : Int) ≤ (m1 : Int) := by have := HM1.out; omega
     have hj2 : j ≤ m1 := by omega
     have hjc : (cap = j) = False := eq_false (by have := HM1.out; omega)
     obtain ⟨hw2, hw3⟩ : wrap64 ((j : Int) + 1) = (q : Int) ∧ IntKind.i64.wrap ((j : Int) + 1) = (q : Int) := by rw [← hq]; exact wrap_up j (Nat.le_trans HJM.out hml)
     have HQ := oh hq; clear hq; have HR : Hid (w3.heap[g]? = some (.cells cur.toList.toArray 3 (0, 0))) := HGH
     refine wp_region_held_drew (S := fun V => Hid (Kp w V none)) (by kernel_rfl) (oh HG3.out.drew) (fun eh => ?_)
     refine tjH 0 rfl ?_; refine tjH 1 rfl ?_; refine tjH 2 rfl ?_; refine tjH 3 rfl ?_; refine tjH 4 rfl ?_; refine tjH 5 rfl ?_; refine tjH 6 rfl ?_; clear hw2 hw3; refine rdH 7 rfl (fun K hK => ?_); have gK := eh
     have gR : w3.drew.heap[g]? = some (.cells cur.toList.toArray 3 (0, 0)) := HR.out
     clear eh; refine step_copy_splice rfl (.tmp 51) (.tmp 54) 83 83 rfl 3 Tryz.underlying83 (by kernel_rfl) _ _ _ _ _ _ rfl rfl g q cur.toList 3 gR ((xs.drop j).flatMap intVal) ?len ?src ?fit (by intro u hu; obtain ⟨y, _, hy⟩ := List.mem_flatMap.1 hu; simp [intVal] at hy; subst hy; rfl) w.heap.size w gK.out.below hgb ?_
     case len => rw [ints_len, List.length_drop]; have := HQ.out; have := HM1.out; have := HXL.out; simp only [Nat.min_def]; split <;> omega
     case fit => rw [ints_len, List.length_drop, HCL.out]; have := HQ.out; have := HM1.out; have := HXL.out; omega
     case src =>
      intro h0; rw [ints_len, List.length_drop] at h0; have hqc : ¬ cap = q := by have := HQ.out; have := HM1.out; have := HXL.out; omega
      refine ⟨by simp [hqc], _, by simp; rfl, fun i u hu => ?_⟩
      obtain ⟨hi1, hi2⟩ := drop_at xs j i u hu
      have hce : cur.toList[j + i]? = some u := by
       have := congrArg (fun l => l[j + i]?) hgt
       simp only [List.getElem?_take] at this
       rw [if_pos (by have := HM1.out; have := HXL.out; omega), List.getElem?_append_left (by rw [ints_len]; exact hi1)] at this
       rw [this]; exact hi2
      have := hcell gR (j + i) (v := u) (by simpa using hce)
      rw [show (⟨g, j, none⟩ : Addr).add i = ⟨g, j + i, none⟩ by unfold Addr.add; split <;> simp_all]
      exact this
     intro w4 hw4 hb4; refine hK.out _ _ (oh (Kp.of_below hb4)) (fun _ => ?_)
     have HK4 := oh (Kp.of_below hb4)
     have HG4 := oh hw4.out
     clear hK K gK gR hw4 hb4; try simp only [Act.put, sm]
     refine wpAnyH_done (by kernel_rfl) ?_ _
     clear hq0 hq1 hq2 HGH HR HG3; have hg4 := HG4.out; have hjs : j < cur.toList.length := by rw [HCL.out]; have := HM1.out; omega
     obtain ⟨u0, hu0⟩ : ∃ u, (Go.splice cur.toList q ((xs.drop j).flatMap intVal)).toArray[j]? = some u := ⟨_, Array.getElem?_eq_getElem (by rw [List.size_toArray, length_splice]; exact hjs; rw [ints_len, List.length_drop, HCL.out]; have := HQ.out; have := HM1.out; have := HXL.out; omega)⟩
     have hc4 : w4.cell? ⟨g, j, none⟩ = some u0 := hcell hg4 j hu0
     have hf4 : w4.frozen? ⟨g, j, none⟩ = false := fz hg4 j
     have HREL : Hid (RiRel hs w (.slice (some ⟨g, 0, none⟩) m1 cap) (I6 (k + 1)) (w4.setCell ⟨g, j, none⟩ (I6 r))) := oh (HMK.out _ _ (by
      rw [HINS.out, ← HM1.out]; exact row_ins HXL.out HJM.out hgb (by have := HM1.out; omega) hgm hgs (by rw [HM1.out]; exact hgt) (by rw [HQ.out]; exact HG4.out)) (Kp.row HK4.out ((Kp.refl _ (some g)).set _) (fun x hx => by injection hx with hx; omega)))
     clear hu0 hg4 hgt hgs hgm HMK HINS; have hj3 : (j : Int) < (m1 : Int) := by have := HM1.out; omega
     have hj4 : j < m1 := by omega
     go_wp2_with fail
     first | exact ⟨HREL.out, by simp [intOf]; omega⟩ | (go_roundw; all_goals first | exact HREL.out | (simp [intOf]; omega))
  ·have hk1 : ¬ (k : Int) < (n : Int) := by omega
   have HE : Hid (wr.ownsRow w.heap.size 3 1 _ (Dl.radii hs).length ((Dl.radii hs).flatMap intVal)) := oh (by rw [List.take_of_length_le (by rw [HHL.out]; omega)] at hown; exact hown)
   clear hown; go_wp2_with fail
   go_ret
   exact ⟨_, rfl, HE.out, HK.out⟩
end Go.Proofs.YtljjbdbgedmadaaGreatDoor
set_option maxHeartbeats 8000000
set_option maxRecDepth 100000
namespace Go.Proofs.YtljjbdbgedmadaaGreatDoor
open Go.RowKit Go.Lib
theorem sumB (a b q : List UInt8) (h : a ++ b = q) : (⟨a.toArray⟩ : ByteArray) ++ ⟨b.toArray⟩ = ⟨q.toArray⟩ := by rw [cat_eq, h]
theorem info123s : (Tryz.prog.info? 123).map (·.size) = some 7 := by kernel_rfl
theorem info42 : (Tryz.prog.info? 42).map (·.size) = some 2 := by kernel_rfl
theorem wpList_store_blk {ops : Array Oper} {rest : List Oper} {op : Oper} {a : Act} {w : World} {Q : Exit → Act → World → Prop} (hgd : op.guard = none) (ty : TypeId) (x y : Operand) (ho : op.op = .store ty x y)
  (g : Nat) (old : Array Value) (t : TypeId) (hg : w.heap[g]? = some (.cells old t (0, 0))) (c' : Array Value) (hx : a.eval x = .pointer (some ⟨g, 0, none⟩)) (hy : a.eval y = .agg c') (hi : (Tryz.prog.info? ty).map (·.size) = some c'.size) (hs : old.size = c'.size) (h1 : ∀ v ∈ c'.toList, v.oneCell' = true)
  (h : ∀ V, V.heap[g]? = some (.cells c' t (0, 0)) → Kp w V (some g) → wpList Tryz.prog ops Q rest (a.put op.dst undef) V) : wpList Tryz.prog ops Q (op :: rest) a w := by
 refine wpList_plain hgd fun K hK => ?_
 unfold Oper.wp execOp
 simp only [ho, hx, hy, Instr.storeAt, Instr.sureAddr, Sem.run_bind, Sem.run_pure, Result.andThen_ok, run_storeVar_row w g t ty old c' hg hi hs (Array.all_eq_true_iff_forall_mem.2 (fun v hv => h1 v (by simpa using hv)))]
 have hlt := lt_of_block hg
 refine hK _ _ (h _ ?_ ⟨rfl, rfl, rfl, by simp [World.setRow], fun k _ hr => ?_⟩)
 ·have h' : w.heap[g] = .cells old t (0, 0) := by simpa [Array.getElem?_eq_getElem hlt] using hg
  show (w.heap.modify g _)[g]? = _
  rw [Array.getElem?_eq_getElem (by simpa using hlt), Array.getElem_modify_self, h']
 ·show (w.heap.modify g _)[k]? = _
  rw [Array.getElem?_modify, if_neg (fun e => hr (by rw [e]))]
theorem rpath_lone (sk sr : Int) (ax ay cx cy : Int) (ao : Option Addr) (cap : Nat) (w : World) (hes : LiesAt 7 edC w ao cap [⟨1, ⟨ax, ay⟩, ⟨ax, ay⟩, ⟨cx, cy⟩⟩]) (hm1 : Mid ax) (hm2 : Mid ay) :
  Calls Tryz.prog 36 #[.agg #[I6 sk, .slice ao 1 cap, I6 sr]] w fun e w' => e = .returned (str (Dl.ln (Pl.pnt 88 ⟨ax, ay⟩ 89))) ∧ Kp w w' none := by
 obtain ⟨bo, off, rfl, hcap, hbo, hcells⟩ := hes.ed (k := 0) (by simp)
 have hc0 := hcells _ ((Kp.refl w none).alloc (.cells #[I6 sk, .slice (some ⟨bo, off, none⟩) 1 cap, I6 sr] 50))
 simp only [List.length_cons, List.length_nil, Nat.zero_add] at hcap
 simp only [Nat.zero_mul, Nat.add_zero, List.getElem_cons_zero] at hc0
 obtain ⟨z0, z1, z2, z3, z4, z5, z6⟩ := hc0
 have hq1 : (ax == ax) = true := by simp
 have hq2 : (ay == ay) = true := by simp
 have k1 : Kp w ((w.alloc (.cells #[I6 sk, .slice (some ⟨bo, off, none⟩) 1 cap, I6 sr] 50)).alloc (.cells #[I6 1, I6 ax, I6 ay, I6 ax, I6 ay, I6 cx, I6 cy] 123)) none := ((Kp.refl w none).alloc _).alloc _
 have K1 := oh k1; have HPL := oh (pnt_length 88 ⟨ax, ay⟩ 89 hm1 hm2)
 have HRP := oh (fun V => rpoint_any ax ay V hm1 hm2)
 have HB2 := oh (heap_alloc_new (w.alloc (.cells #[I6 sk, .slice (some ⟨bo, off, none⟩) 1 cap, I6 sr] 50)) (.cells #[I6 1, I6 ax, I6 ay, I6 ax, I6 ay, I6 cx, I6 cy] 123))
 have hsz : (w.alloc (.cells #[I6 sk, .slice (some ⟨bo, off, none⟩) 1 cap, I6 sr] 50)).heap.size = w.heap.size + 1 := by simp
 rw [hsz] at HB2; obtain ⟨pt, hpt⟩ : ∃ q, Pl.pnt 88 ⟨ax, ay⟩ 89 = q := ⟨_, rfl⟩
 rw [hpt] at HPL HRP ⊢; obtain ⟨r1, hr1⟩ : ∃ q : List UInt8, pt ++ [10] = q := ⟨_, rfl⟩
 have HS1 : Hid ((⟨pt.toArray⟩ : ByteArray) ++ ⟨#[10]⟩ = ⟨r1.toArray⟩) := oh (sumB pt [10] r1 hr1)
 have HG1 : Hid ((9223372036854775807 < pt.length + 1) = False) := oh (eq_false (by have := HPL.out; omega))
 rw [show Dl.ln pt = r1 from hr1]; clear hes hcells hm1 hm2 k1 hsz hr1 hpt; go_enter Tryz.func36, Tryz.ntmps36
 go_upto_region 3 with fail
 clear z0 z1 z2 z3 z4 z5 z6 hq1 hq2
 generalize (w.alloc (.cells #[I6 sk, .slice (some ⟨bo, off, none⟩) 1 cap, I6 sr] 50)).alloc (.cells #[I6 1, I6 ax, I6 ay, I6 ax, I6 ay, I6 cx, I6 cy] 123) = X at *
 have x1 := hcell HB2.out 1 rfl
 have x2 := hcell HB2.out 2 rfl
 go_wp2_with fail
 refine (HRP.out _).mono ?_
 rintro e w2 ⟨rfl, k2⟩; have K2 := oh (K1.out.trans k2); clear k2 x1 x2; have s1 := HS1.out; have g1 := HG1.out; go_wp2_with fail
 go_ret
 exact ⟨rfl, K2.out⟩
def QRel (hd : List UInt8) (es : List Pl.Ed) (B : Array Value) (w : World) (v i : Value) (wr : World) : Prop :=
 ∃ (k : Nat) (cs : Array Value), k ≤ es.length ∧ i = I6 k ∧ v = str (hd ++ (es.take k).flatMap Dl.edgeLn) ∧ wr.heap[w.heap.size]? = some (.cells B 50 (0, 0)) ∧ wr.heap[w.heap.size + 1]? = some (.cells cs 123 (0, 0)) ∧ cs.size = 7 ∧ Kp w wr none
theorem rpath_slot (sk sr : Int) (es : List Pl.Ed) (n : Nat) (hn : es.length = n) (f : Pl.Ed) (hf : es[0]? = some f) (ao : Option Addr) (cap : Nat) (w : World) (hes : LiesAt 7 edC w ao cap es) (hv : ∀ e ∈ es, Pl.chkE e = 0) (h40 : n ≤ 40)
  (hno : ¬ (n = 1 ∧ f.k = 1 ∧ f.a = f.b)) :
  Calls Tryz.prog 36 #[.agg #[I6 sk, .slice ao n cap, I6 sr]] w fun e w' => e = .returned (str (Dl.ln (([71, 48, 48] : List UInt8) ++ Pl.pnt 88 f.a 89) ++ Dl.ln Dl.kM15 ++ es.flatMap Dl.edgeLn ++ Dl.ln Dl.kM16)) ∧ Kp w w' none := by
 have HV := oh hv; have HN := oh hn; have FE := oh hes; have HTL := oh (etake_le es hv)
 obtain ⟨hlt0, hf0⟩ := List.getElem?_eq_some_iff.1 hf
 have hn0 : (0 : Int) < (n : Int) := by omega
 have hn00 : 0 < n := by omega
 obtain ⟨bo, off, rfl, hcap, hbo, hcells⟩ := hes.ed hlt0
 rw [hn] at hcap; have hfv := hv f (by rw [← hf0]; exact List.getElem_mem _)
 rw [hf0] at hcells; obtain ⟨fk, ⟨fax, fay⟩, ⟨fbx, fby⟩, ⟨fcx, fcy⟩⟩ := f
 obtain ⟨_, hfa, _⟩ := chkE_zero hfv
 have hm1 := In.mid hfa.1
 have hm2 := In.mid hfa.2
 dsimp only at hm1 hm2 hno hcells ⊢
 have HPL := oh (pnt_length 88 ⟨fax, fay⟩ 89 hm1 hm2)
 have HRP := oh (fun V => rpoint_any fax fay V hm1 hm2)
 have k1 : Kp w ((w.alloc (.cells #[I6 sk, .slice (some ⟨bo, off, none⟩) n cap, I6 sr] 50)).alloc (.cells #[I6 fk, I6 fax, I6 fay, I6 fbx, I6 fby, I6 fcx, I6 fcy] 123)) none := ((Kp.refl w none).alloc _).alloc _
 have K1 := oh k1; have HB1 : Hid (((w.alloc (.cells #[I6 sk, .slice (some ⟨bo, off, none⟩) n cap, I6 sr] 50)).alloc (.cells #[I6 fk, I6 fax, I6 fay, I6 fbx, I6 fby, I6 fcx, I6 fcy] 123)).heap[w.heap.size]? = some (.cells #[I6 sk, .slice (some ⟨bo, off, none⟩) n cap, I6 sr] 50 (0, 0))) := oh (blk (heap_alloc_new w _) ((Kp.refl _ none).alloc _))
 have HBF : Hid (((w.alloc (.cells #[I6 sk, .slice (some ⟨bo, off, none⟩) n cap, I6 sr] 50)).alloc (.cells #[I6 fk, I6 fax, I6 fay, I6 fbx, I6 fby, I6 fcx, I6 fcy] 123)).heap[w.heap.size + 1]? = some (.cells #[I6 fk, I6 fax, I6 fay, I6 fbx, I6 fby, I6 fcx, I6 fcy] 123 (0, 0))) := oh (by have := heap_alloc_new (w.alloc (.cells #[I6 sk, .slice (some ⟨bo, off, none⟩) n cap, I6 sr] 50)) (.cells #[I6 fk, I6 fax, I6 fay, I6 fbx, I6 fby, I6 fcx, I6 fcy] 123); rwa [show (w.alloc (.cells #[I6 sk, .slice (some ⟨bo, off, none⟩) n cap, I6 sr] 50)).heap.size = w.heap.size + 1 by simp] at this)
 obtain ⟨z0, z1, z2, z3, z4, z5, z6⟩ := hcells _ ((Kp.refl w none).alloc (.cells #[I6 sk, .slice (some ⟨bo, off, none⟩) n cap, I6 sr] 50))
 simp only [Nat.zero_mul, Nat.add_zero] at z0 z1 z2 z3 z4 z5 z6
 obtain ⟨p0, hp0⟩ : ∃ q, Pl.pnt 88 ⟨fax, fay⟩ 89 = q := ⟨_, rfl⟩
 rw [hp0] at HPL HRP ⊢; obtain ⟨h1, hh1⟩ : ∃ q : List UInt8, [71, 48, 48] ++ p0 = q := ⟨_, rfl⟩
 have hl1 : h1.length ≤ 45 := by rw [← hh1, List.length_append]; have := HPL.out; simp only [List.length_cons, List.length_nil]; omega
 obtain ⟨hd, hhd⟩ : ∃ q : List UInt8, h1 ++ [10, 77, 49, 53, 10] = q := ⟨_, rfl⟩
 have hl2 : hd.length ≤ 50 := by rw [← hhd, List.length_append]; simp only [List.length_cons, List.length_nil]; omega
 have HS1 : Hid ((⟨#[71, 48, 48]⟩ : ByteArray) ++ (⟨p0.toArray⟩ : ByteArray) = ⟨h1.toArray⟩) := oh (sumB [71, 48, 48] p0 h1 hh1)
 have HG1 : Hid ((9223372036854775807 < 3 + p0.length) = False) := oh (eq_false (by have := HPL.out; omega))
 have HS2 : Hid ((⟨h1.toArray⟩ : ByteArray) ++ (⟨#[10, 77, 49, 53, 10]⟩ : ByteArray) = ⟨hd.toArray⟩) := oh (sumB h1 [10, 77, 49, 53, 10] hd hhd)
 have HG2 : Hid ((9223372036854775807 < h1.length + 5) = False) := oh (eq_false (by omega))
 have HLD := oh hl2; obtain ⟨fin, hfin⟩ : ∃ q, Dl.ln (([71, 48, 48] : List UInt8) ++ p0) ++ Dl.ln Dl.kM15 ++ es.flatMap Dl.edgeLn ++ Dl.ln Dl.kM16 = q := ⟨_, rfl⟩
 have HFIN : Hid ((hd ++ es.flatMap Dl.edgeLn) ++ [77, 49, 54, 10] = fin) := oh (by rw [← hfin, ← hhd, ← hh1]; simp [Dl.ln, Dl.kM15, Dl.kM16])
 rw [hfin]; clear hes hfv hfa hm1 hm2 k1 hcells hv hn hlt0 hf0 hf hh1 hhd hl1 hl2 hp0 hfin; have HNO := oh hno; clear hno; go_enter Tryz.func36, Tryz.ntmps36
 go_upto_region 2 with fail
 clear z0 z1 z2 z3 z4 z5 z6
 generalize (w.alloc (.cells #[I6 sk, .slice (some ⟨bo, off, none⟩) n cap, I6 sr] 50)).alloc (.cells #[I6 fk, I6 fax, I6 fay, I6 fbx, I6 fby, I6 fcx, I6 fcy] 123) = X at *
 have x0 := hcell HBF.out 0 rfl
 have x1 := hcell HBF.out 1 rfl
 have x2 := hcell HBF.out 2 rfl
 have x3 := hcell HBF.out 3 rfl
 have x4 := hcell HBF.out 4 rfl
 have b1 := hcell HB1.out 1 rfl
 go_cut [25] from 10 to 25 (fun t wx => t = .bool false ∧ wx = X)
 case first =>
  by_cases c1 : n = 1
  ·subst c1
   by_cases c2 : fk = 1
   ·subst c2
    by_cases c3 : fax = fbx
    ·subst c3; have c4 : (fay == fby) = false := by rw [beq_eq_false_iff_ne]; rintro rfl; exact HNO.out ⟨rfl, rfl, rfl⟩
     have c5 : (fax == fax) = true := by simp
     go_wp2_with fail
     go_meet
     exact ⟨rfl, rfl⟩
    ·have c4 : (fax == fbx) = false := by simpa using c3
     clear c3; go_wp2_with fail
     go_meet
     exact ⟨rfl, rfl⟩
   ·have c4 : (fk == 1) = false := by simpa using c2
    clear c2; go_wp2_with fail
    go_meet
    exact ⟨rfl, rfl⟩
  ·have c4 : ((n : Int) == 1) = false := by simp; omega
   clear c1; go_wp2_with fail
   go_meet
   exact ⟨rfl, rfl⟩
 case rest =>
  obtain ⟨rfl, hwc⟩ := hcut
  have hwc := hwc.symm
  subst hwc; go_wp2_with fail
  refine (HRP.out _).mono ?_
  rintro e w2 ⟨rfl, k2⟩; have K2 := oh (K1.out.trans k2); have HB2 := oh (blk HB1.out k2); have HF2 := oh (blk HBF.out k2); clear k2 x0 x1 x2 x3 x4 b1 HB1 HBF K1; have s1 := HS1.out; have g1 := HG1.out; have s2 := HS2.out; have g2 := HG2.out; go_wp2_with fail
  clear s1 g1 s2 g2; go_loopw [4, 5] (fun v i wr => QRel hd es #[I6 sk, .slice (some ⟨bo, off, none⟩) n cap, I6 sr] w v i wr) (fun _ i _ => n - (intOf i).toNat)
  case atStart => exact ⟨0, _, Nat.zero_le _, rfl, by simp, HB2.out, HF2.out, rfl, K2.out⟩
  case round =>
   obtain ⟨k, cs, hk, rfl, rfl, hb0, hb1, hcs, hKp⟩ := hrel; have HB0 := oh hb0; have HB1 := oh hb1; have HCS := oh hcs; have HK := oh hKp
   have b1 := hcell hb0 1 rfl
   clear hb0 hb1 hKp hcs HB2 HF2 K2; have hk0 := nn k
   by_cases hlt : k < n
   ·have hk1 : (k : Int) < (n : Int) := by omega
    have hlt2 : k < es.length := by have := HN.out; omega
    obtain ⟨e, hx⟩ : ∃ e, es[k] = e := ⟨_, rfl⟩
    obtain ⟨bo', off', hao, _, hbo2, hcells⟩ := FE.out.ed hlt2
    injection hao with hao; injection hao with e1 e2; subst e1; subst e2
    have hc0 := hcells _ HK.out
    have hev := HV.out e (by rw [← hx]; exact List.getElem_mem _)
    rw [hx] at hc0
    have HST : Hid (∀ (t : List UInt8) (ds : Array Value) wq, t = (hd ++ (es.take k).flatMap Dl.edgeLn) ++ Dl.edgeLn e → wq.heap[w.heap.size]? = some (.cells #[I6 sk, .slice (some ⟨bo, off, none⟩) n cap, I6 sr] 50 (0, 0)) → wq.heap[w.heap.size + 1]? = some (.cells ds 123 (0, 0)) → ds.size = 7 → Kp w wq none → QRel hd es #[I6 sk, .slice (some ⟨bo, off, none⟩) n cap, I6 sr] w (str t) (I6 (k + 1)) wq) := oh fun t ds wq h1 h2 h3 h4 k1 =>
     ⟨k + 1, ds, hlt2, by go_num, by rw [h1, eln_step es k hlt2, hx, ← List.append_assoc], h2, h3, h4, k1⟩
    have hlb : (hd ++ (es.take k).flatMap Dl.edgeLn).length ≤ 4000 := by rw [List.length_append]; have := HTL.out k; have := HN.out; have := HLD.out; omega
    obtain ⟨lk, hlk⟩ : ∃ q, hd ++ (es.take k).flatMap Dl.edgeLn = q := ⟨_, rfl⟩
    rw [hlk] at HST hlb ⊢; have hez := chkE_zero hev
    clear hlk hev hcells hx; obtain ⟨ek, ⟨ax, ay⟩, ⟨bx, bY⟩, ⟨cx, cy⟩⟩ := e
    dsimp only at hc0 hez
    obtain ⟨hek, ⟨ha1, ha2⟩, ⟨hb1, hb2⟩, ⟨hc1, hc2⟩, hz1, hz2⟩ := hez; clear hz1 hz2
    dsimp only at ha1 ha2 hb1 hb2 hc1 hc2
    have MB1 := oh (In.mid hb1); have MB2 := oh (In.mid hb2); have MD1 := oh (sub_mid hc1 ha1); have MD2 := oh (sub_mid hc2 ha2); have HLB := oh hlb; clear ha1 ha2 hb1 hb2 hc1 hc2 hlb; obtain ⟨c0, c1, c2, c3, c4, c5, c6⟩ := hc0
    obtain ⟨pt, hpt⟩ : ∃ q, Pl.pnt 88 ⟨bx, bY⟩ 89 = q := ⟨_, rfl⟩
    have HPTL : Hid (pt.length ≤ 42) := oh (by rw [← hpt]; exact pnt_length 88 ⟨bx, bY⟩ 89 MB1.out MB2.out)
    have HRQ : Hid (∀ V, Calls Tryz.prog 88 #[.agg #[I6 bx, I6 bY]] V fun e w' => e = .returned (.string ⟨pt.toArray⟩) ∧ Kp V w' none) := oh fun V => by rw [← hpt]; exact rpoint_any bx bY V MB1.out MB2.out
    have HPT := oh hpt; clear hpt
    rcases hek with rfl | rfl | rfl
    ·obtain ⟨r1, hr1⟩ : ∃ q : List UInt8, lk ++ [71, 48, 49] = q := ⟨_, rfl⟩
     have hl1 : r1.length ≤ 4003 := by rw [← hr1, List.length_append]; have := HLB.out; simp only [List.length_cons, List.length_nil]; omega
     obtain ⟨r2, hr2⟩ : ∃ q : List UInt8, r1 ++ pt = q := ⟨_, rfl⟩
     have hl2 : r2.length ≤ 4045 := by rw [← hr2, List.length_append]; have := HPTL.out; omega
     obtain ⟨r3, hr3⟩ : ∃ q : List UInt8, r2 ++ [10] = q := ⟨_, rfl⟩
     have HR1 := oh hr1; have HR2 := oh hr2; have HR3 := oh hr3; have g1 : (9223372036854775807 < lk.length + 3) = False := eq_false (by have := HLB.out; omega)
     have s1 : (⟨lk.toArray⟩ : ByteArray) ++ ⟨#[71, 48, 49]⟩ = ⟨r1.toArray⟩ := sumB lk [71, 48, 49] r1 hr1
     have g2 : (9223372036854775807 < r1.length + pt.length) = False := eq_false (by have := HPTL.out; omega)
     have s2 : (⟨r1.toArray⟩ : ByteArray) ++ ⟨pt.toArray⟩ = ⟨r2.toArray⟩ := sumB r1 pt r2 hr2
     have g3 : (9223372036854775807 < r2.length + 1) = False := eq_false (by omega)
     have s3 : (⟨r2.toArray⟩ : ByteArray) ++ ⟨#[10]⟩ = ⟨r3.toArray⟩ := sumB r2 [10] r3 hr3
     clear hr1 hr2 hr3 hl1 hl2
     go_wp2_with (first | (refine wpList_store_blk (by rfl) 123 _ _ (by rfl) (w.heap.size + 1) _ 123 HB1.out #[I6 1, I6 ax, I6 ay, I6 bx, I6 bY, I6 cx, I6 cy] (by rfl) (by rfl) info123s HCS.out (by simp [Value.oneCell']) (fun V hV hkV => ?_); have HV1 := oh hV; have HVB := oh (res_kept HB0.out hkV (by intro q hq; injection hq with hq; omega)); have HVK := oh (Kp.row HK.out hkV (fun q hq => by injection hq with hq; omega)); have y0 := hcell hV 0 rfl; have y3 := hcell hV 3 rfl; have y4 := hcell hV 4 rfl; clear hV hkV) | (go_at_call 88; refine (HRQ.out _).mono ?_; rintro e w2 ⟨rfl, k2⟩; have K2 := oh k2; clear k2))
     have HREL := oh (HST.out r3 _ w2 (by rw [← HR3.out, ← HR2.out, ← HR1.out, ← HPT.out]; simp [Dl.edgeLn, Dl.ln, Pl.gOf, Pl.arcT]) (blk HVB.out K2.out) (blk HV1.out K2.out) rfl (HVK.out.trans K2.out))
     first | exact ⟨HREL.out, by simp [intOf]; omega⟩ | (go_roundw; all_goals first | exact HREL.out | (simp [intOf]; omega))
    ·obtain ⟨dx, hdx⟩ : ∃ q, cx - ax = q := ⟨_, rfl⟩
     obtain ⟨dy, hdy⟩ : ∃ q, cy - ay = q := ⟨_, rfl⟩
     have HDX := oh hdx; have HDY := oh hdy; rw [hdx] at MD1; rw [hdy] at MD2; have HN1 : Hid (IntKind.i64.wrap (cx - ax) = dx) := oh (by rw [hdx, IntKind.wrap_i64]; have := MD1.out; unfold Mid at this; omega)
     have HN2 : Hid (IntKind.i64.wrap (cy - ay) = dy) := oh (by rw [hdy, IntKind.wrap_i64]; have := MD2.out; unfold Mid at this; omega)
     clear hdx hdy; obtain ⟨q1, hq1⟩ : ∃ zz : List UInt8, lk ++ [71, 48, 51] = zz := ⟨_, rfl⟩
     have Bq1 : Hid ((⟨(lk).toArray⟩ : ByteArray) ++ (⟨#[71, 48, 51]⟩ : ByteArray) = ⟨(q1).toArray⟩) := oh (by rw [← hq1]; exact ByteArray.mk_append_mk _ _)
     have laq1 : (lk).length ≤ 4000 := HLB.out
     have bq1 : q1.length ≤ 4003 := by rw [← hq1, List.length_append]; (try simp only [List.length_cons, List.length_nil]); omega
     have Gq1 : Hid ((9223372036854775807 < (lk).length + 3) = False) := oh (eq_false (by (try simp only [List.length_cons, List.length_nil]); omega))
     have Hq1 := oh hq1; clear hq1 laq1; obtain ⟨q2, hq2⟩ : ∃ zz : List UInt8, q1 ++ pt = zz := ⟨_, rfl⟩
     have Bq2 : Hid ((⟨(q1).toArray⟩ : ByteArray) ++ (⟨(pt).toArray⟩ : ByteArray) = ⟨(q2).toArray⟩) := oh (by rw [← hq2]; exact ByteArray.mk_append_mk _ _)
     have lbq2 : (pt).length ≤ 42 := HPTL.out
     have bq2 : q2.length ≤ 4045 := by rw [← hq2, List.length_append]; (try simp only [List.length_cons, List.length_nil]); omega
     have Gq2 : Hid ((9223372036854775807 < (q1).length + (pt).length) = False) := oh (eq_false (by (try simp only [List.length_cons, List.length_nil]); omega))
     have Hq2 := oh hq2; clear hq2 lbq2; obtain ⟨q3, hq3⟩ : ∃ zz : List UInt8, q2 ++ [73] = zz := ⟨_, rfl⟩
     have Bq3 : Hid ((⟨(q2).toArray⟩ : ByteArray) ++ (⟨#[73]⟩ : ByteArray) = ⟨(q3).toArray⟩) := oh (by rw [← hq3]; exact ByteArray.mk_append_mk _ _)
     have bq3 : q3.length ≤ 4046 := by rw [← hq3, List.length_append]; (try simp only [List.length_cons, List.length_nil]); omega
     have Gq3 : Hid ((9223372036854775807 < (q2).length + 1) = False) := oh (eq_false (by (try simp only [List.length_cons, List.length_nil]); omega))
     have Hq3 := oh hq3; clear hq3; obtain ⟨q4, hq4⟩ : ∃ zz : List UInt8, q3 ++ Lib.itoa dx = zz := ⟨_, rfl⟩
     have Bq4 : Hid ((⟨(q3).toArray⟩ : ByteArray) ++ (⟨(Lib.itoa dx).toArray⟩ : ByteArray) = ⟨(q4).toArray⟩) := oh (by rw [← hq4]; exact ByteArray.mk_append_mk _ _)
     have lbq4 : (Lib.itoa dx).length ≤ 20 := itoa_length dx MD1.out
     have bq4 : q4.length ≤ 4066 := by rw [← hq4, List.length_append]; (try simp only [List.length_cons, List.length_nil]); omega
     have Gq4 : Hid ((9223372036854775807 < (q3).length + (Lib.itoa dx).length) = False) := oh (eq_false (by (try simp only [List.length_cons, List.length_nil]); omega))
     have Hq4 := oh hq4; clear hq4 lbq4; obtain ⟨q5, hq5⟩ : ∃ zz : List UInt8, q4 ++ [74] = zz := ⟨_, rfl⟩
     have Bq5 : Hid ((⟨(q4).toArray⟩ : ByteArray) ++ (⟨#[74]⟩ : ByteArray) = ⟨(q5).toArray⟩) := oh (by rw [← hq5]; exact ByteArray.mk_append_mk _ _)
     have bq5 : q5.length ≤ 4067 := by rw [← hq5, List.length_append]; (try simp only [List.length_cons, List.length_nil]); omega
     have Gq5 : Hid ((9223372036854775807 < (q4).length + 1) = False) := oh (eq_false (by (try simp only [List.length_cons, List.length_nil]); omega))
     have Hq5 := oh hq5; clear hq5; obtain ⟨q6, hq6⟩ : ∃ zz : List UInt8, q5 ++ Lib.itoa dy = zz := ⟨_, rfl⟩
     have Bq6 : Hid ((⟨(q5).toArray⟩ : ByteArray) ++ (⟨(Lib.itoa dy).toArray⟩ : ByteArray) = ⟨(q6).toArray⟩) := oh (by rw [← hq6]; exact ByteArray.mk_append_mk _ _)
     have lbq6 : (Lib.itoa dy).length ≤ 20 := itoa_length dy MD2.out
     have bq6 : q6.length ≤ 4087 := by rw [← hq6, List.length_append]; (try simp only [List.length_cons, List.length_nil]); omega
     have Gq6 : Hid ((9223372036854775807 < (q5).length + (Lib.itoa dy).length) = False) := oh (eq_false (by (try simp only [List.length_cons, List.length_nil]); omega))
     have Hq6 := oh hq6; clear hq6 lbq6; obtain ⟨q7, hq7⟩ : ∃ zz : List UInt8, q6 ++ [10] = zz := ⟨_, rfl⟩
     have Bq7 : Hid ((⟨(q6).toArray⟩ : ByteArray) ++ (⟨#[10]⟩ : ByteArray) = ⟨(q7).toArray⟩) := oh (by rw [← hq7]; exact ByteArray.mk_append_mk _ _)
     have bq7 : q7.length ≤ 4088 := by rw [← hq7, List.length_append]; (try simp only [List.length_cons, List.length_nil]); omega
     have Gq7 : Hid ((9223372036854775807 < (q6).length + 1) = False) := oh (eq_false (by (try simp only [List.length_cons, List.length_nil]); omega))
     have Hq7 := oh hq7; clear hq7; clear bq1 bq2 bq3 bq4 bq5 bq6 bq7; go_upto_region 13 with (refine wpList_store_blk (by rfl) 123 _ _ (by rfl) (w.heap.size + 1) _ 123 HB1.out #[I6 2, I6 ax, I6 ay, I6 bx, I6 bY, I6 cx, I6 cy] (by rfl) (by rfl) info123s HCS.out (by simp [Value.oneCell']) (fun V hV hkV => ?_); have HV1 := oh hV; have HVB := oh (res_kept HB0.out hkV (by intro q hq; injection hq with hq; omega)); have HVK := oh (Kp.row HK.out hkV (fun q hq => by injection hq with hq; omega)); have y0 := hcell hV 0 rfl;  clear hV hkV)
     clear y0 c0 c1 c2 c3 c4 c5 c6 b1; obtain ⟨X1, hX1⟩ : ∃ x, x = V := ⟨_, rfl⟩
     subst hX1
     have CC : Hid (∀ Y, Kp X1 Y none → Y.rangeAt (w.heap.size + 1) 3 #[I6 bx, I6 bY].toList) := oh fun Y kv j u hu => by
      have := hcell (blk HV1.out kv) (3 + j) (v := u) (by
       have hj := (List.getElem?_eq_some_iff.1 hu).1
       simp at hj
       have : j = 0 ∨ j = 1 := by omega
       rcases this with rfl | rfl <;> simpa using hu)
      exact this
     have DD : Hid (∀ Y, Kp X1 Y none → Y.cell? ⟨w.heap.size + 1, 1, none⟩ = some (I6 ax) ∧ Y.cell? ⟨w.heap.size + 1, 2, none⟩ = some (I6 ay) ∧ Y.cell? ⟨w.heap.size + 1, 5, none⟩ = some (I6 cx) ∧ Y.cell? ⟨w.heap.size + 1, 6, none⟩ = some (I6 cy)) := oh fun Y kv => ⟨hcell (blk HV1.out kv) 1 rfl, hcell (blk HV1.out kv) 2 rfl, hcell (blk HV1.out kv) 5 rfl, hcell (blk HV1.out kv) 6 rfl⟩
     refine wp_region_held_drew (S := fun V => V.rangeAt (w.heap.size + 1) 3 #[I6 bx, I6 bY].toList ∧ V.cell? ⟨w.heap.size + 1, 1, none⟩ = some (I6 ax) ∧ V.cell? ⟨w.heap.size + 1, 2, none⟩ = some (I6 ay) ∧ V.cell? ⟨w.heap.size + 1, 5, none⟩ = some (I6 cx) ∧ V.cell? ⟨w.heap.size + 1, 6, none⟩ = some (I6 cy) ∧ Hid (Kp X1 V none)) (by kernel_rfl) (⟨CC.out _ (Kp.refl X1 none).drew, (DD.out _ (Kp.refl X1 none).drew).1, (DD.out _ (Kp.refl X1 none).drew).2.1, (DD.out _ (Kp.refl X1 none).drew).2.2.1, (DD.out _ (Kp.refl X1 none).drew).2.2.2, oh (Kp.refl X1 none).drew⟩) (fun eh => ?_)
     refine tjH 0 rfl ?_; refine tjH 2 rfl ?_; refine tjH 7 rfl ?_; refine tjH 10 rfl ?_; refine tjH 17 rfl ?_; refine tjH 20 rfl ?_
     have eq1 := Bq1.out
     have gq1 := Gq1.out
     refine tjH 1 rfl ?_; clear gq1 eq1
     refine wpAnyH_take (i := 3) rfl (by kernel_rfl) (by kernel_rfl) (by kernel_rfl) (fun _ _ _ h => h) (yieldsIf_load_mid (by rfl) _ _ rfl (w.heap.size + 1) 3 rfl #[I6 bx, I6 bY].toList _ (fun _ h => h.1) Tryz.underlying42 rfl info42) (by assumption) ?_
     try simp only [Act.put, sm]
     refine tjH 8 rfl ?_; refine tjH 11 rfl ?_; refine tjH 18 rfl ?_; refine tjH 21 rfl ?_; refine tjH 9 rfl ?_; refine tjH 12 rfl ?_; refine tjH 19 rfl ?_; refine tjH 22 rfl ?_; have hn1 := HN1.out; refine tjH 13 rfl ?_; clear hn1; have hn2 := HN2.out; refine tjH 23 rfl ?_; clear hn2; refine rdH 4 rfl (fun K hK => ?_); have gK := eh.2.2.2.2.2; clear eh; go_simp
     refine (HRQ.out _).mono ?_
     rintro e V1 ⟨rfl, kk⟩; try go_wp2_with fail
     refine hK.out _ _ (⟨CC.out _ (gK.out.trans kk), (DD.out _ (gK.out.trans kk)).1, (DD.out _ (gK.out.trans kk)).2.1, (DD.out _ (gK.out.trans kk)).2.2.1, (DD.out _ (gK.out.trans kk)).2.2.2, oh (gK.out.trans kk)⟩) (fun eh => ?_)
     clear hK K gK kk; try simp only [Act.put, sm]
     have eq2 := Bq2.out
     have gq2 := Gq2.out
     refine tjH 5 rfl ?_; clear gq2 eq2
     have eq3 := Bq3.out
     have gq3 := Gq3.out
     refine tjH 6 rfl ?_; clear gq3 eq3; refine rdH 14 rfl (fun K hK => ?_); have gK := eh.2.2.2.2.2; clear eh; go_simp
     refine (dec_any dx MD1.out _).mono ?_
     rintro e V2 ⟨rfl, kk⟩; try go_wp2_with fail
     refine hK.out _ _ (⟨CC.out _ (gK.out.trans kk), (DD.out _ (gK.out.trans kk)).1, (DD.out _ (gK.out.trans kk)).2.1, (DD.out _ (gK.out.trans kk)).2.2.1, (DD.out _ (gK.out.trans kk)).2.2.2, oh (gK.out.trans kk)⟩) (fun eh => ?_)
     clear hK K gK kk; try simp only [Act.put, sm]
     have eq4 := Bq4.out
     have gq4 := Gq4.out
     refine tjH 15 rfl ?_; clear gq4 eq4
     have eq5 := Bq5.out
     have gq5 := Gq5.out
     refine tjH 16 rfl ?_; clear gq5 eq5; refine rdH 24 rfl (fun K hK => ?_); have gK := eh.2.2.2.2.2; clear eh; go_simp
     refine (dec_any dy MD2.out _).mono ?_
     rintro e V3 ⟨rfl, kk⟩; try go_wp2_with fail
     refine hK.out _ _ (⟨CC.out _ (gK.out.trans kk), (DD.out _ (gK.out.trans kk)).1, (DD.out _ (gK.out.trans kk)).2.1, (DD.out _ (gK.out.trans kk)).2.2.1, (DD.out _ (gK.out.trans kk)).2.2.2, oh (gK.out.trans kk)⟩) (fun eh => ?_)
     clear hK K gK kk; try simp only [Act.put, sm]
     have eq6 := Bq6.out
     have gq6 := Gq6.out
     refine tjH 25 rfl ?_; clear gq6 eq6
     have eq7 := Bq7.out
     have gq7 := Gq7.out
     refine tjH 26 rfl ?_; clear gq7 eq7; refine rdH 27 rfl (fun K hK => ?_); have gK := eh.2.2.2.2.2; clear eh; go_simp; try go_wp2_with fail
     refine hK.out _ _ (⟨CC.out _ gK.out, (DD.out _ gK.out).1, (DD.out _ gK.out).2.1, (DD.out _ gK.out).2.2.1, (DD.out _ gK.out).2.2.2, oh gK.out⟩) (fun _ => ?_)
     have KZ := oh gK.out
     clear hK K gK; try simp only [Act.put, sm]
     refine wpAnyH_done (by kernel_rfl) ?_ _
     have HREL := oh (HST.out q7 _ _ (by rw [← Hq7.out, ← Hq6.out, ← Hq5.out, ← Hq4.out, ← Hq3.out, ← Hq2.out, ← Hq1.out, ← HPT.out, ← HDX.out, ← HDY.out]; simp [Dl.edgeLn, Dl.ln, Pl.gOf, Pl.arcT, Pl.pnt, Pl.sub]) (blk HVB.out KZ.out) (blk HV1.out KZ.out) rfl (HVK.out.trans KZ.out))
     go_wp2_with fail
     first | exact ⟨HREL.out, by simp [intOf]; omega⟩ | (go_roundw; all_goals first | exact HREL.out | (simp [intOf]; omega))
    ·obtain ⟨dx, hdx⟩ : ∃ q, cx - ax = q := ⟨_, rfl⟩
     obtain ⟨dy, hdy⟩ : ∃ q, cy - ay = q := ⟨_, rfl⟩
     have HDX := oh hdx; have HDY := oh hdy; rw [hdx] at MD1; rw [hdy] at MD2; have HN1 : Hid (IntKind.i64.wrap (cx - ax) = dx) := oh (by rw [hdx, IntKind.wrap_i64]; have := MD1.out; unfold Mid at this; omega)
     have HN2 : Hid (IntKind.i64.wrap (cy - ay) = dy) := oh (by rw [hdy, IntKind.wrap_i64]; have := MD2.out; unfold Mid at this; omega)
     clear hdx hdy; obtain ⟨q1, hq1⟩ : ∃ zz : List UInt8, lk ++ [71, 48, 50] = zz := ⟨_, rfl⟩
     have Bq1 : Hid ((⟨(lk).toArray⟩ : ByteArray) ++ (⟨#[71, 48, 50]⟩ : ByteArray) = ⟨(q1).toArray⟩) := oh (by rw [← hq1]; exact ByteArray.mk_append_mk _ _)
     have laq1 : (lk).length ≤ 4000 := HLB.out
     have bq1 : q1.length ≤ 4003 := by rw [← hq1, List.length_append]; (try simp only [List.length_cons, List.length_nil]); omega
     have Gq1 : Hid ((9223372036854775807 < (lk).length + 3) = False) := oh (eq_false (by (try simp only [List.length_cons, List.length_nil]); omega))
     have Hq1 := oh hq1; clear hq1 laq1; obtain ⟨q2, hq2⟩ : ∃ zz : List UInt8, q1 ++ pt = zz := ⟨_, rfl⟩
     have Bq2 : Hid ((⟨(q1).toArray⟩ : ByteArray) ++ (⟨(pt).toArray⟩ : ByteArray) = ⟨(q2).toArray⟩) := oh (by rw [← hq2]; exact ByteArray.mk_append_mk _ _)
     have lbq2 : (pt).length ≤ 42 := HPTL.out
     have bq2 : q2.length ≤ 4045 := by rw [← hq2, List.length_append]; (try simp only [List.length_cons, List.length_nil]); omega
     have Gq2 : Hid ((9223372036854775807 < (q1).length + (pt).length) = False) := oh (eq_false (by (try simp only [List.length_cons, List.length_nil]); omega))
     have Hq2 := oh hq2; clear hq2 lbq2; obtain ⟨q3, hq3⟩ : ∃ zz : List UInt8, q2 ++ [73] = zz := ⟨_, rfl⟩
     have Bq3 : Hid ((⟨(q2).toArray⟩ : ByteArray) ++ (⟨#[73]⟩ : ByteArray) = ⟨(q3).toArray⟩) := oh (by rw [← hq3]; exact ByteArray.mk_append_mk _ _)
     have bq3 : q3.length ≤ 4046 := by rw [← hq3, List.length_append]; (try simp only [List.length_cons, List.length_nil]); omega
     have Gq3 : Hid ((9223372036854775807 < (q2).length + 1) = False) := oh (eq_false (by (try simp only [List.length_cons, List.length_nil]); omega))
     have Hq3 := oh hq3; clear hq3; obtain ⟨q4, hq4⟩ : ∃ zz : List UInt8, q3 ++ Lib.itoa dx = zz := ⟨_, rfl⟩
     have Bq4 : Hid ((⟨(q3).toArray⟩ : ByteArray) ++ (⟨(Lib.itoa dx).toArray⟩ : ByteArray) = ⟨(q4).toArray⟩) := oh (by rw [← hq4]; exact ByteArray.mk_append_mk _ _)
     have lbq4 : (Lib.itoa dx).length ≤ 20 := itoa_length dx MD1.out
     have bq4 : q4.length ≤ 4066 := by rw [← hq4, List.length_append]; (try simp only [List.length_cons, List.length_nil]); omega
     have Gq4 : Hid ((9223372036854775807 < (q3).length + (Lib.itoa dx).length) = False) := oh (eq_false (by (try simp only [List.length_cons, List.length_nil]); omega))
     have Hq4 := oh hq4; clear hq4 lbq4; obtain ⟨q5, hq5⟩ : ∃ zz : List UInt8, q4 ++ [74] = zz := ⟨_, rfl⟩
     have Bq5 : Hid ((⟨(q4).toArray⟩ : ByteArray) ++ (⟨#[74]⟩ : ByteArray) = ⟨(q5).toArray⟩) := oh (by rw [← hq5]; exact ByteArray.mk_append_mk _ _)
     have bq5 : q5.length ≤ 4067 := by rw [← hq5, List.length_append]; (try simp only [List.length_cons, List.length_nil]); omega
     have Gq5 : Hid ((9223372036854775807 < (q4).length + 1) = False) := oh (eq_false (by (try simp only [List.length_cons, List.length_nil]); omega))
     have Hq5 := oh hq5; clear hq5; obtain ⟨q6, hq6⟩ : ∃ zz : List UInt8, q5 ++ Lib.itoa dy = zz := ⟨_, rfl⟩
     have Bq6 : Hid ((⟨(q5).toArray⟩ : ByteArray) ++ (⟨(Lib.itoa dy).toArray⟩ : ByteArray) = ⟨(q6).toArray⟩) := oh (by rw [← hq6]; exact ByteArray.mk_append_mk _ _)
     have lbq6 : (Lib.itoa dy).length ≤ 20 := itoa_length dy MD2.out
     have bq6 : q6.length ≤ 4087 := by rw [← hq6, List.length_append]; (try simp only [List.length_cons, List.length_nil]); omega
     have Gq6 : Hid ((9223372036854775807 < (q5).length + (Lib.itoa dy).length) = False) := oh (eq_false (by (try simp only [List.length_cons, List.length_nil]); omega))
     have Hq6 := oh hq6; clear hq6 lbq6; obtain ⟨q7, hq7⟩ : ∃ zz : List UInt8, q6 ++ [10] = zz := ⟨_, rfl⟩
     have Bq7 : Hid ((⟨(q6).toArray⟩ : ByteArray) ++ (⟨#[10]⟩ : ByteArray) = ⟨(q7).toArray⟩) := oh (by rw [← hq7]; exact ByteArray.mk_append_mk _ _)
     have bq7 : q7.length ≤ 4088 := by rw [← hq7, List.length_append]; (try simp only [List.length_cons, List.length_nil]); omega
     have Gq7 : Hid ((9223372036854775807 < (q6).length + 1) = False) := oh (eq_false (by (try simp only [List.length_cons, List.length_nil]); omega))
     have Hq7 := oh hq7; clear hq7; clear bq1 bq2 bq3 bq4 bq5 bq6 bq7; go_upto_region 15 with (refine wpList_store_blk (by rfl) 123 _ _ (by rfl) (w.heap.size + 1) _ 123 HB1.out #[I6 3, I6 ax, I6 ay, I6 bx, I6 bY, I6 cx, I6 cy] (by rfl) (by rfl) info123s HCS.out (by simp [Value.oneCell']) (fun V hV hkV => ?_); have HV1 := oh hV; have HVB := oh (res_kept HB0.out hkV (by intro q hq; injection hq with hq; omega)); have HVK := oh (Kp.row HK.out hkV (fun q hq => by injection hq with hq; omega)); have y0 := hcell hV 0 rfl;  clear hV hkV)
     clear y0 c0 c1 c2 c3 c4 c5 c6 b1; obtain ⟨X1, hX1⟩ : ∃ x, x = V := ⟨_, rfl⟩
     subst hX1
     have CC : Hid (∀ Y, Kp X1 Y none → Y.rangeAt (w.heap.size + 1) 3 #[I6 bx, I6 bY].toList) := oh fun Y kv j u hu => by
      have := hcell (blk HV1.out kv) (3 + j) (v := u) (by
       have hj := (List.getElem?_eq_some_iff.1 hu).1
       simp at hj
       have : j = 0 ∨ j = 1 := by omega
       rcases this with rfl | rfl <;> simpa using hu)
      exact this
     have DD : Hid (∀ Y, Kp X1 Y none → Y.cell? ⟨w.heap.size + 1, 1, none⟩ = some (I6 ax) ∧ Y.cell? ⟨w.heap.size + 1, 2, none⟩ = some (I6 ay) ∧ Y.cell? ⟨w.heap.size + 1, 5, none⟩ = some (I6 cx) ∧ Y.cell? ⟨w.heap.size + 1, 6, none⟩ = some (I6 cy)) := oh fun Y kv => ⟨hcell (blk HV1.out kv) 1 rfl, hcell (blk HV1.out kv) 2 rfl, hcell (blk HV1.out kv) 5 rfl, hcell (blk HV1.out kv) 6 rfl⟩
     refine wp_region_held_drew (S := fun V => V.rangeAt (w.heap.size + 1) 3 #[I6 bx, I6 bY].toList ∧ V.cell? ⟨w.heap.size + 1, 1, none⟩ = some (I6 ax) ∧ V.cell? ⟨w.heap.size + 1, 2, none⟩ = some (I6 ay) ∧ V.cell? ⟨w.heap.size + 1, 5, none⟩ = some (I6 cx) ∧ V.cell? ⟨w.heap.size + 1, 6, none⟩ = some (I6 cy) ∧ Hid (Kp X1 V none)) (by kernel_rfl) (⟨CC.out _ (Kp.refl X1 none).drew, (DD.out _ (Kp.refl X1 none).drew).1, (DD.out _ (Kp.refl X1 none).drew).2.1, (DD.out _ (Kp.refl X1 none).drew).2.2.1, (DD.out _ (Kp.refl X1 none).drew).2.2.2, oh (Kp.refl X1 none).drew⟩) (fun eh => ?_)
     refine tjH 0 rfl ?_; refine tjH 2 rfl ?_; refine tjH 7 rfl ?_; refine tjH 10 rfl ?_; refine tjH 17 rfl ?_; refine tjH 20 rfl ?_
     have eq1 := Bq1.out
     have gq1 := Gq1.out
     refine tjH 1 rfl ?_; clear gq1 eq1
     refine wpAnyH_take (i := 3) rfl (by kernel_rfl) (by kernel_rfl) (by kernel_rfl) (fun _ _ _ h => h) (yieldsIf_load_mid (by rfl) _ _ rfl (w.heap.size + 1) 3 rfl #[I6 bx, I6 bY].toList _ (fun _ h => h.1) Tryz.underlying42 rfl info42) (by assumption) ?_
     try simp only [Act.put, sm]
     refine tjH 8 rfl ?_; refine tjH 11 rfl ?_; refine tjH 18 rfl ?_; refine tjH 21 rfl ?_; refine tjH 9 rfl ?_; refine tjH 12 rfl ?_; refine tjH 19 rfl ?_; refine tjH 22 rfl ?_; have hn1 := HN1.out; refine tjH 13 rfl ?_; clear hn1; have hn2 := HN2.out; refine tjH 23 rfl ?_; clear hn2; refine rdH 4 rfl (fun K hK => ?_); have gK := eh.2.2.2.2.2; clear eh; go_simp
     refine (HRQ.out _).mono ?_
     rintro e V1 ⟨rfl, kk⟩; try go_wp2_with fail
     refine hK.out _ _ (⟨CC.out _ (gK.out.trans kk), (DD.out _ (gK.out.trans kk)).1, (DD.out _ (gK.out.trans kk)).2.1, (DD.out _ (gK.out.trans kk)).2.2.1, (DD.out _ (gK.out.trans kk)).2.2.2, oh (gK.out.trans kk)⟩) (fun eh => ?_)
     clear hK K gK kk; try simp only [Act.put, sm]
     have eq2 := Bq2.out
     have gq2 := Gq2.out
     refine tjH 5 rfl ?_; clear gq2 eq2
     have eq3 := Bq3.out
     have gq3 := Gq3.out
     refine tjH 6 rfl ?_; clear gq3 eq3; refine rdH 14 rfl (fun K hK => ?_); have gK := eh.2.2.2.2.2; clear eh; go_simp
     refine (dec_any dx MD1.out _).mono ?_
     rintro e V2 ⟨rfl, kk⟩; try go_wp2_with fail
     refine hK.out _ _ (⟨CC.out _ (gK.out.trans kk), (DD.out _ (gK.out.trans kk)).1, (DD.out _ (gK.out.trans kk)).2.1, (DD.out _ (gK.out.trans kk)).2.2.1, (DD.out _ (gK.out.trans kk)).2.2.2, oh (gK.out.trans kk)⟩) (fun eh => ?_)
     clear hK K gK kk; try simp only [Act.put, sm]
     have eq4 := Bq4.out
     have gq4 := Gq4.out
     refine tjH 15 rfl ?_; clear gq4 eq4
     have eq5 := Bq5.out
     have gq5 := Gq5.out
     refine tjH 16 rfl ?_; clear gq5 eq5; refine rdH 24 rfl (fun K hK => ?_); have gK := eh.2.2.2.2.2; clear eh; go_simp
     refine (dec_any dy MD2.out _).mono ?_
     rintro e V3 ⟨rfl, kk⟩; try go_wp2_with fail
     refine hK.out _ _ (⟨CC.out _ (gK.out.trans kk), (DD.out _ (gK.out.trans kk)).1, (DD.out _ (gK.out.trans kk)).2.1, (DD.out _ (gK.out.trans kk)).2.2.1, (DD.out _ (gK.out.trans kk)).2.2.2, oh (gK.out.trans kk)⟩) (fun eh => ?_)
     clear hK K gK kk; try simp only [Act.put, sm]
     have eq6 := Bq6.out
     have gq6 := Gq6.out
     refine tjH 25 rfl ?_; clear gq6 eq6
     have eq7 := Bq7.out
     have gq7 := Gq7.out
     refine tjH 26 rfl ?_; clear gq7 eq7; refine rdH 27 rfl (fun K hK => ?_); have gK := eh.2.2.2.2.2; clear eh; go_simp; try go_wp2_with fail
     refine hK.out _ _ (⟨CC.out _ gK.out, (DD.out _ gK.out).1, (DD.out _ gK.out).2.1, (DD.out _ gK.out).2.2.1, (DD.out _ gK.out).2.2.2, oh gK.out⟩) (fun _ => ?_)
     have KZ := oh gK.out
     clear hK K gK; try simp only [Act.put, sm]
     refine wpAnyH_done (by kernel_rfl) ?_ _
     have HREL := oh (HST.out q7 _ _ (by rw [← Hq7.out, ← Hq6.out, ← Hq5.out, ← Hq4.out, ← Hq3.out, ← Hq2.out, ← Hq1.out, ← HPT.out, ← HDX.out, ← HDY.out]; simp [Dl.edgeLn, Dl.ln, Pl.gOf, Pl.arcT, Pl.pnt, Pl.sub]) (blk HVB.out KZ.out) (blk HV1.out KZ.out) rfl (HVK.out.trans KZ.out))
     go_wp2_with fail
     first | exact ⟨HREL.out, by simp [intOf]; omega⟩ | (go_roundw; all_goals first | exact HREL.out | (simp [intOf]; omega))
   ·have hk1 : ¬ (k : Int) < (n : Int) := by omega
    have hall : es.take k = es := List.take_of_length_le (by have := HN.out; omega)
    rw [hall]; have hlb : (hd ++ es.flatMap Dl.edgeLn).length ≤ 4000 := by rw [List.length_append]; have := HTL.out k; rw [hall] at this; have := HN.out; have := HLD.out; omega
    obtain ⟨lk, hlk⟩ : ∃ q, hd ++ es.flatMap Dl.edgeLn = q := ⟨_, rfl⟩
    have hf := HFIN.out; rw [hlk] at hlb hf ⊢; have s3 : (⟨lk.toArray⟩ : ByteArray) ++ ⟨#[77, 49, 54, 10]⟩ = ⟨fin.toArray⟩ := sumB lk [77, 49, 54, 10] fin hf
    have g3 : (9223372036854775807 < lk.length + 4) = False := eq_false (by omega)
    clear hlk hf hall hlb; go_wp2_with fail
    go_ret
    exact ⟨rfl, HK.out⟩
theorem rpath_any (s : Pl.Sh) (n : Nat) (hn : s.es.length = n) (ao : Option Addr) (cap : Nat) (w : World) (hes : LiesAt 7 edC w ao cap s.es) (hv : ∀ e ∈ s.es, Pl.chkE e = 0) (h0 : s.es ≠ []) (h40 : n ≤ 40) :
  Calls Tryz.prog 36 #[.agg #[I6 s.k, .slice ao n cap, I6 s.r]] w fun e w' => e = .returned (str (Dl.pathT s)) ∧ Kp w w' none := by
 obtain ⟨f, hf⟩ : ∃ f, s.es[0]? = some f := by
  cases h : s.es with
  | nil => exact absurd h h0
  | cons e r => exact ⟨e, rfl⟩
 by_cases hc : n = 1 ∧ f.k = 1 ∧ f.a = f.b
 ·obtain ⟨h1, h2, h3⟩ := hc
  have he : s.es = [f] := by
   cases h : s.es with
   | nil => exact absurd h h0
   | cons e r =>
    rw [h] at hf hn
    have : r = [] := by cases r with
     | nil => rfl
     | cons _ _ => simp at hn; omega
    subst this; simpa using hf
  rw [pathT_lone he h2 h3]; have hfv := hv f (by rw [he]; simp)
  obtain ⟨fk, ⟨ax, ay⟩, fb, ⟨cx, cy⟩⟩ := f
  obtain ⟨_, hfa, _⟩ := chkE_zero hfv
  dsimp only at h2 h3 hfa
  subst h2; subst h3; subst h1; rw [he] at hes; exact rpath_lone s.k s.r ax ay cx cy ao cap w hes (In.mid hfa.1) (In.mid hfa.2)
 ·rw [pathT_slot hf (by rw [hn]; exact hc)]
  exact rpath_slot s.k s.r s.es n hn f hf ao cap w hes hv h40 hc
end Go.Proofs.YtljjbdbgedmadaaGreatDoor
