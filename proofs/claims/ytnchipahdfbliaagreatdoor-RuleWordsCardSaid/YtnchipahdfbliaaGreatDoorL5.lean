/- The law RuleWords, run. Condition: a list of numbers of a machine's length. -/
import Derived.Test.YtnchipahdfbliaaGreatDoorRnt
import Derived.Test.YtnchipahdfbliaaGreatDoorNx
import Derived.Test.YtnchipahdfbliaaGreatDoorSf
import Derived.Test.YtnchipahdfbliaaGreatDoorSg
import Derived.Great.BuildSlice
namespace Go.Proofs.YtnchipahdfbliaaGreatDoor
open Go.RowKit

theorem Ru.parseL_check : ∀ (ps : List (List UInt8)) (n : Int) (acc : List Ru.Rule), Ru.check (Ru.parseL n acc ps).1 = 0
 | [], _, _ => rfl
 | [z], n, acc => by
  rw [Ru.parseL]
  split
  ·rfl
  ·split
   ·assumption
   ·rfl
 | x :: y :: r, n, acc => by
  rw [Ru.parseL]
  cases Ru.line x with
  | none => rfl
  | some q => exact Ru.parseL_check (y :: r) _ _
theorem Ru.parse_check (s : List UInt8) : Ru.check (Ru.parse s).1 = 0 := by
 unfold Ru.parse
 split
 ·rfl
 ·exact Ru.parseL_check _ _ _
/-- The law's words. -/
def tab : List (List UInt8) := [[97, 110, 121], [110, 101, 116], [99, 108, 97, 115, 115], [107, 105, 110, 100], [108, 97, 121, 101, 114], [112, 97, 114, 116], [105, 110], [110, 111, 116], [97, 110, 100], [111, 114], [40], [41], [116, 111], [119, 104, 101, 110], [49], [50], [45, 53], [71, 78, 68], [112], [97, 110, 121, 32, 97, 110, 100, 32, 97, 110, 121], [97, 110, 121, 32, 111, 114, 32, 97, 110, 121], [107, 105, 110, 100, 32, 49], [105, 110, 32, 48, 32, 48, 32, 57, 32, 57], []]
theorem tab_len (j : Nat) : (tab.getD j []).length ≤ 11 := by
 rcases Nat.lt_or_ge j 24 with h | h
 ·have hm : tab.getD j [] ∈ tab := by
   have hl : j < tab.length := h
   rw [List.getD_eq_getElem?_getD, List.getElem?_eq_getElem hl]
   exact List.getElem_mem hl
  have ha : (tab.all fun x => decide (x.length ≤ 11)) = true := by decide +kernel
  simpa using List.all_eq_true.1 ha _ hm
 ·rw [List.getD_eq_getElem?_getD, List.getElem?_eq_none (show tab.length ≤ j from h)]; simp
def tabC : Array Value := #[.string ⟨#[97, 110, 121]⟩, .string ⟨#[110, 101, 116]⟩, .string ⟨#[99, 108, 97, 115, 115]⟩, .string ⟨#[107, 105, 110, 100]⟩, .string ⟨#[108, 97, 121, 101, 114]⟩, .string ⟨#[112, 97, 114, 116]⟩, .string ⟨#[105, 110]⟩, .string ⟨#[110, 111, 116]⟩, .string ⟨#[97, 110, 100]⟩, .string ⟨#[111, 114]⟩, .string ⟨#[40]⟩, .string ⟨#[41]⟩, .string ⟨#[116, 111]⟩, .string ⟨#[119, 104, 101, 110]⟩, .string ⟨#[49]⟩, .string ⟨#[50]⟩, .string ⟨#[45, 53]⟩, .string ⟨#[71, 78, 68]⟩, .string ⟨#[112]⟩, .string ⟨#[97, 110, 121, 32, 97, 110, 100, 32, 97, 110, 121]⟩, .string ⟨#[97, 110, 121, 32, 111, 114, 32, 97, 110, 121]⟩, .string ⟨#[107, 105, 110, 100, 32, 49]⟩, .string ⟨#[105, 110, 32, 48, 32, 48, 32, 57, 32, 57]⟩, .string ⟨#[]⟩]
theorem tab_cells (j : Nat) (h : j < 24) : tabC[j]? = some (str (tab.getD j [])) := by
 have hm : tabC = (tab.map str).toArray := rfl
 rw [hm, List.getElem?_toArray, List.getElem?_map, List.getD_eq_getElem?_getD, List.getElem?_eq_getElem (show j < tab.length from h)]
 rfl
theorem tabC_one : ∀ v ∈ tabC.toList, v.oneCell' = true := by
 have hm : tabC = (tab.map str).toArray := rfl
 rw [hm]
 intro v hv
 obtain ⟨x, _, rfl⟩ := List.mem_map.1 (by simpa using hv)
 rfl
theorem info53 : (Tryz.prog.info? 53).map (·.size) = some 3 := by kernel_rfl
theorem info51 : (Tryz.prog.info? 51).map (·.size) = some 24 := by kernel_rfl
theorem parse_len {f : FuncId} {t : List UInt8} {w : World} {x : List Ru.Rule × Int × Int} {A : List Ru.Rule} {a b : Int} (h : Calls Tryz.prog f #[str t] w (ParseIs x w)) (hx : x = (A, a, b)) :
  Calls Tryz.prog f #[str t] w fun e w' => ∃ (ps : List RV) (co : Option Addr) (pc mc : Nat), e = .returned (.tuple #[.slice co mc pc, .int .i64 a, .int .i64 b]) ∧ Hid (ps.length = mc ∧ A = ps.map (·.r) ∧ LiesAt 20 rC w' co pc ps ∧ (∀ q ∈ ps, q.Tree w') ∧ Kp w w' none) := by
 subst hx
 refine h.mono fun e w' ⟨⟨v, h1, h2⟩, h3⟩ => ?_
 obtain ⟨ps, co, pc, e1, e2, h4, h5⟩ := rules_len h2
 subst e2
 exact ⟨ps, co, pc, _, h1, Lib.hid ⟨rfl, e1, h4, h5, h3⟩⟩
set_option maxHeartbeats 16000000 in
set_option maxRecDepth 100000 in
theorem words_any (l : List Int) (n : Nat) (lo : Option Addr) (cap : Nat) (w : World) (he : Env w) (hl : LiesAt 1 intVal w lo cap l) (hn : l.length = n) (_hn2 : LenOk n) : Calls Tryz.prog 5 #[.slice lo n cap] w (SameIs true w) := by
 have HE := Lib.hid he
 have HL := Lib.hid hl
 have HN := Lib.hid hn
 have cS := sanity_any w he
 clear he hl hn
 go_enter Tryz.func5, Tryz.ntmps5
 go_wp2_with fail
 refine cS.mono ?_
 clear cS
 rintro e w1 ⟨rfl, k1⟩
 have K1 := Lib.hid k1
 clear k1
 go_wp2_with (first | (refine wpList_buildTo (by rfl) 51 _ (by rfl) (some 16) (by rfl) tabC (by kernel_rfl) ?_) | (refine wpList_store_new (by rfl) 51 _ _ (by rfl) #[.string ⟨#[]⟩, .string ⟨#[]⟩, .string ⟨#[]⟩, .string ⟨#[]⟩, .string ⟨#[]⟩, .string ⟨#[]⟩, .string ⟨#[]⟩, .string ⟨#[]⟩, .string ⟨#[]⟩, .string ⟨#[]⟩, .string ⟨#[]⟩, .string ⟨#[]⟩, .string ⟨#[]⟩, .string ⟨#[]⟩, .string ⟨#[]⟩, .string ⟨#[]⟩, .string ⟨#[]⟩, .string ⟨#[]⟩, .string ⟨#[]⟩, .string ⟨#[]⟩, .string ⟨#[]⟩, .string ⟨#[]⟩, .string ⟨#[]⟩, .string ⟨#[]⟩] tabC 51 (by rfl) (by rfl) rfl info51 (by rfl) tabC_one ?_; have HB := Lib.hid (heap_alloc_new w1 (.cells tabC 51)); have HA := Lib.hid ((Kp.refl w1 none).alloc (.cells tabC 51)); obtain ⟨wA, hwA⟩ : ∃ x, w1.alloc (.cells tabC 51) = x := ⟨_, rfl⟩; rw [hwA] at HB HA ⊢; obtain ⟨R, hR⟩ : ∃ x, w1.heap.size = x := ⟨_, rfl⟩; rw [hR] at HB ⊢; clear hwA hR))
 go_loopw [5, 6] (fun s5 i wr => ∃ (k : Nat) (z : List UInt8), k ≤ 40 ∧ k ≤ n ∧ i = .int .i64 (k : Int) ∧ s5 = str z ∧ z.length ≤ 21 + 12 * k ∧ Hid (Kp wA wr none)) (fun _ i _ => 40 - (intOf i).toNat)
 case atStart => exact ⟨0, [114, 117, 108, 101, 32, 97, 32, 49, 32, 99, 108, 101, 97, 114, 32, 53, 32, 119, 104, 101, 110], by omega, by omega, rfl, rfl, by decide, Lib.hid (Kp.refl _ _)⟩
 case round =>
  obtain ⟨k, z, hk, hkn, rfl, rfl, hz, HK⟩ := hrel
  have hk0 : (0 : Int) ≤ (k : Int) := by omega
  by_cases hlt : k < n ∧ k < 40
  ·have hk1 : (k : Int) < (n : Int) := by omega
   have hk2 : (k : Int) < 40 := by omega
   have h1 : k < l.length := by rw [HN.out]; omega
   obtain ⟨b, off, hao, hbl, hcap, hcl⟩ := (HL.out.keep ((K1.out.trans HA.out).trans HK.out)) k h1
   subst hao
   obtain ⟨v, hv⟩ : ∃ v, l[k] = v := ⟨_, rfl⟩
   have hcell : wr.cell? ⟨b, off + k, none⟩ = some (.int .i64 v) := by have := hcl 0 (by simp [intVal]); simpa [intVal, hv] using this
   have hrm := rem_range v 24 (by omega)
   have cM := mod_any v 24 wr (by omega) (by omega)
   obtain ⟨j, hj⟩ : ∃ j : Nat, rem v 24 = (j : Int) := ⟨(rem v 24).toNat, by omega⟩
   rw [hj] at cM hrm
   have hj0 : (0 : Int) ≤ (j : Int) := hrm.1
   have hj1 : (j : Int) < 24 := hrm.2
   obtain ⟨x, hx⟩ : ∃ x, tab.getD j [] = x := ⟨_, rfl⟩
   have hxl : x.length ≤ 11 := by rw [← hx]; exact tab_len j
   have htc : wr.cell? ⟨R, j, none⟩ = some (str x) := by rw [← hx]; exact ckr HB.out HK.out (by simp) j (tab_cells j (by omega))
   obtain ⟨f1, hf1⟩ : ∃ y, z ++ [32] = y := ⟨_, rfl⟩
   have hc1 : (⟨z.toArray⟩ : ByteArray) ++ ⟨#[32]⟩ = ⟨f1.toArray⟩ := by rw [← hf1]; exact cat_eq z [32]
   have hl1 : f1.length ≤ 22 + 12 * k := by rw [← hf1, List.length_append]; simp; omega
   obtain ⟨f2, hf2⟩ : ∃ y, f1 ++ x = y := ⟨_, rfl⟩
   have hc2 : (⟨f1.toArray⟩ : ByteArray) ++ ⟨x.toArray⟩ = ⟨f2.toArray⟩ := by rw [← hf2]; exact cat_eq f1 x
   have hl2 : f2.length ≤ 21 + 12 * (k + 1) := by rw [← hf2, List.length_append]; omega
   clear hf1 hf2 hx hj hv hrm hcl
   go_wp2_with (go_at_call 22; refine cM.mono ?_; rintro e w4 ⟨rfl, hw4⟩; subst w4)
   go_roundw
   case rel => exact ⟨k + 1, f2, by omega, by omega, by go_num, rfl, hl2, HK⟩
   case measure => simp [intOf]; omega
  ·go_upto_region 5 with fail
   go_cut [24] from 17 to 24 (fun s24 wx => s24 = .bool false ∧ wx = wr)
   case first =>
    by_cases hkn : k < n
    ·have h1 : (k : Int) < (n : Int) := by omega
     have h2 : ¬ (k : Int) < 40 := by omega
     go_wp2_with fail
     go_meet
     exact ⟨rfl, rfl⟩
    ·have h1 : ¬ (k : Int) < (n : Int) := by omega
     go_wp2_with fail
     go_meet
     exact ⟨rfl, rfl⟩
   case rest =>
    obtain ⟨rfl, rfl⟩ := hcut
    have hz1 : z.length ≤ 501 := by omega
    clear hz hlt
    obtain ⟨t0, ht0⟩ : ∃ y, z ++ [10] = y := ⟨_, rfl⟩
    have hc0 : (⟨z.toArray⟩ : ByteArray) ++ ⟨#[10]⟩ = ⟨t0.toArray⟩ := by rw [← ht0]; exact cat_eq z [10]
    have hl0 : t0.length ≤ 700 := by rw [← ht0, List.length_append]; simp; omega
    clear ht0
    obtain ⟨t1, ht1⟩ : ∃ y, z ++ [32, 116, 111, 32, 97, 110, 121, 10] = y := ⟨_, rfl⟩
    have hc1 : (⟨z.toArray⟩ : ByteArray) ++ ⟨#[32, 116, 111, 32, 97, 110, 121, 10]⟩ = ⟨t1.toArray⟩ := by rw [← ht1]; exact cat_eq z [32, 116, 111, 32, 97, 110, 121, 10]
    have hl1 : t1.length ≤ 700 := by rw [← ht1, List.length_append]; simp; omega
    clear ht1
    obtain ⟨t2, ht2⟩ : ∃ y, z ++ [32, 97, 110, 100, 32, 97, 110, 121, 32, 116, 111, 32, 97, 110, 121, 10, 114, 117, 108, 101, 32, 98, 32, 49, 32, 101, 100, 103, 101, 32, 53, 32, 119, 104, 101, 110, 32, 97, 110, 121, 10] = y := ⟨_, rfl⟩
    have hc2 : (⟨z.toArray⟩ : ByteArray) ++ ⟨#[32, 97, 110, 100, 32, 97, 110, 121, 32, 116, 111, 32, 97, 110, 121, 10, 114, 117, 108, 101, 32, 98, 32, 49, 32, 101, 100, 103, 101, 32, 53, 32, 119, 104, 101, 110, 32, 97, 110, 121, 10]⟩ = ⟨t2.toArray⟩ := by rw [← ht2]; exact cat_eq z [32, 97, 110, 100, 32, 97, 110, 121, 32, 116, 111, 32, 97, 110, 121, 10, 114, 117, 108, 101, 32, 98, 32, 49, 32, 101, 100, 103, 101, 32, 53, 32, 119, 104, 101, 110, 32, 97, 110, 121, 10]
    have hl2 : t2.length ≤ 700 := by rw [← ht2, List.length_append]; simp; omega
    clear ht2
    have HKw := Lib.hid ((K1.out.trans HA.out).trans HK.out)
    clear HB HK HL HN hk hkn
    go_wp2_with (refine wpList_store_new (by rfl) 53 _ _ (by rfl) #[.string ⟨#[]⟩, .string ⟨#[]⟩, .string ⟨#[]⟩] #[str t0, str t1, str t2] 53 (by rfl) (by rfl) rfl info53 (by rfl) (by simp [Value.oneCell']) ?_; have HB := Lib.hid (heap_alloc_new wc (.cells #[str t0, str t1, str t2] 53)); have HC := Lib.hid (HKw.out.alloc (.cells #[str t0, str t1, str t2] 53)); obtain ⟨wB, hwB⟩ : ∃ x, wc.alloc (.cells #[str t0, str t1, str t2] 53) = x := ⟨_, rfl⟩; rw [hwB] at HB HC ⊢; obtain ⟨S, hS⟩ : ∃ x, wc.heap.size = x := ⟨_, rfl⟩; rw [hS] at HB ⊢; clear hwB hS)
    go_loopw [8] (fun i wx => ∃ k : Nat, k ≤ 3 ∧ i = .int .i64 (k : Int) ∧ Hid (Kp wB wx none)) (fun i _ => 3 - (intOf i).toNat)
    case atStart => exact ⟨0, by omega, rfl, Lib.hid (Kp.refl _ _)⟩
    case round =>
     obtain ⟨m, hm, rfl, HM⟩ := hrel
     have hm0 : (0 : Int) ≤ (m : Int) := by omega
     by_cases hlt : m < 3
     ·have hm1 : (m : Int) < 3 := by omega
      obtain ⟨t, ht, htl⟩ : ∃ t : List UInt8, (#[str t0, str t1, str t2] : Array Value)[m]? = some (str t) ∧ t.length ≤ 700 := by
       have h3 : m = 0 ∨ m = 1 ∨ m = 2 := by omega
       rcases h3 with rfl | rfl | rfl
       ·exact ⟨t0, rfl, hl0⟩
       ·exact ⟨t1, rfl, hl1⟩
       ·exact ⟨t2, rfl, hl2⟩
      have hcell : wr.cell? ⟨S, m, none⟩ = some (str t) := ckr HB.out HM.out (by simp) m ht
      obtain ⟨A, a, b, hp⟩ : ∃ A a b, Ru.parse t = (A, a, b) := ⟨_, _, _, rfl⟩
      have HG := Lib.hid (Ru.check_good (by have := Ru.parse_check t; rw [hp] at this; exact this : Ru.check A = 0))
      have HE2 := Lib.hid (HE.out.kp0 (HC.out.trans HM.out))
      have cP := parse_len (parse_any t wr HE2.out) hp
      have cQ : Hid (∀ V, Calls Tryz.prog 20 #[str t] V _) := Lib.hid (fun V => parse_len (parseR_any t V) hp)
      have HTT := Lib.hid ht
      clear ht hp hl0 hl1 hl2 hc0 hc1 hc2
      have hbb : (b == b) = true := by simp
      have haa : (a == a) = true := by simp
      go_upto_region 13 with (go_at_call 19; refine cP.mono ?_; clear cP; rintro e w5 ⟨ps, co, pc, mc, rfl, H5⟩)
      have hcell2 : w5.cell? ⟨S, m, none⟩ = some (str t) := ckr HB.out (HM.out.trans H5.out.2.2.2.2) (by simp) m HTT.out
      have cQ5 := cQ.out w5
      clear hcell cQ
      go_upto_region 14 with (go_at_call 20; refine cQ5.mono ?_; clear cQ5; rintro e w6 ⟨qs, do_, qc, nc, rfl, H6⟩)
      have H7 := Lib.hid (HM.out.trans (H5.out.2.2.2.2.trans H6.out.2.2.2.2))
      have cX : Calls Tryz.prog 21 #[.slice co mc pc, .slice do_ nc qc] w6 (SameIs true w6) := by
       have h := same_all_any ps qs co do_ pc qc mc nc w6 H5.out.1 H6.out.1 (H5.out.2.2.1.keep H6.out.2.2.2.2) H6.out.2.2.1 (fun q hq => (H5.out.2.2.2.1 q hq).keep H6.out.2.2.2.2) H6.out.2.2.2.1 (fun y hy => good_fit (HG.out.2 y.r (by rw [H5.out.2.1]; exact List.mem_map_of_mem hy))) (by have h1 := HG.out.1; have h2 := H5.out.1; rw [H5.out.2.1, List.length_map] at h1; omega)
       rw [← H5.out.2.1, ← H6.out.2.1, eqB_t rfl] at h
       exact h
      clear hcell2
      go_wp2_with (go_at_call 21; refine cX.mono ?_; clear cX; rintro e w7 ⟨rfl, h7⟩; have H8 := Lib.hid (H7.out.trans h7); clear h7)
      go_roundw
      case rel => exact ⟨m + 1, by omega, by go_num, H8⟩
      case measure => simp [intOf]; omega
     ·obtain rfl : m = 3 := by omega
      go_wp2_with fail
      go_ret
      exact ⟨rfl, HC.out.trans HM.out⟩
end Go.Proofs.YtnchipahdfbliaaGreatDoor
