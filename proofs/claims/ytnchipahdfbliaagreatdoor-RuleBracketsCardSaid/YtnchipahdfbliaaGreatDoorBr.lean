/- The law RuleBrackets, run. Conditions: a list of numbers of a machine's length. -/
import Derived.Test.YtnchipahdfbliaaGreatDoorCd
import Derived.Test.YtnchipahdfbliaaGreatDoorSf
import Derived.Test.YtnchipahdfbliaaGreatDoorRuG
namespace Go.Proofs.YtnchipahdfbliaaGreatDoor
open Go.RowKit

set_option maxHeartbeats 16000000 in
set_option maxRecDepth 100000 in
theorem brackets_any (l : List Int) (n : Nat) (lo : Option Addr) (cap : Nat) (w : World) (he : Env w) (hl : LiesAt 1 intVal w lo cap l) (hn : l.length = n) (hn2 : LenOk n) : Calls Tryz.prog 7 #[.slice lo n cap] w (SameIs true w) := by
  have hdl := hl
  have HE := Lib.hid he
  have HL := Lib.hid hl
  have HN := Lib.hid hn
  clear he hl hn hdl
  have cS := sanity_any w HE.out
  go_enter Tryz.func7, Tryz.ntmps7
  go_wp2_with fail
  refine cS.mono ?_
  clear cS
  rintro e w1 ⟨rfl, k1⟩
  have K1 := Lib.hid k1
  clear k1
  have cC := cond_made n w1.heap.size lo cap w1 (Nat.le_refl _) (fun v m h1 h2 h3 h4 => draw_any l n HN.out w1.heap.size lo cap m w1 v (HL.out.keep K1.out) (Nat.le_refl _) h1 h2 h3 h4 hn2) 2 (by omega) (w1.alloc (.cells #[.slice lo n cap, .int .i64 0] 59)) ((Kp.refl _ _).alloc _) ⟨0, heap_alloc_new w1 _, Nat.zero_le _⟩
  have z2 : (w1.alloc (.cells #[.slice lo n cap, .int .i64 0] 59)).heap.size = w1.heap.size + 1 := by simp
  have K2 : Hid (Kp w (w1.alloc (.cells #[.slice lo n cap, .int .i64 0] 59)) none) := Lib.hid (K1.out.alloc _)
  have z1 := K1.out.size
  go_wp2_with fail
  refine cC.mono ?_
  clear cC
  rintro e w3 ⟨c, a, m, p, rfl, ht, hr, hs, hd, k3⟩
  have K3 : Hid (Kp w w3 none) := Lib.hid (Kp.of_own K2.out k3 z1)
  have hs13 : Ru.size c ≤ 13 := hs
  have HT := Lib.hid ht
  have z3 := k3.size
  clear hd k3 ht z2 hs K2
  go_upto_region 3 with (refine wpList_store_new (by rfl) 40 _ _ (by rfl) #[.int .i64 0, .string ⟨#[]⟩, .int .i64 0, .int .i64 0, .int .i64 0, .int .i64 0, .int .i64 0, .slice none 0 0] #[.int .i64 c.op, str c.text, .int .i64 c.n, .int .i64 c.box.x0, .int .i64 c.box.y0, .int .i64 c.box.x1, .int .i64 c.box.y1, .slice a m p] 40 (by rfl) (by rfl) rfl info40s (by rfl) (by simp [Value.oneCell']) ?_)
  try simp only [Act.put]
  have HB4 := Lib.hid (heap_alloc_new w3 (.cells #[.int .i64 c.op, str c.text, .int .i64 c.n, .int .i64 c.box.x0, .int .i64 c.box.y0, .int .i64 c.box.x1, .int .i64 c.box.y1, .slice a m p] 40))
  have K4 : Hid (Kp w (w3.alloc (.cells #[.int .i64 c.op, str c.text, .int .i64 c.n, .int .i64 c.box.x0, .int .i64 c.box.y0, .int .i64 c.box.x1, .int .i64 c.box.y1, .slice a m p] 40)) none) := Lib.hid (K3.out.alloc _)
  have HT4 := Lib.hid (HT.out.keep ((Kp.refl w3 none).alloc (.cells #[.int .i64 c.op, str c.text, .int .i64 c.n, .int .i64 c.box.x0, .int .i64 c.box.y0, .int .i64 c.box.x1, .int .i64 c.box.y1, .slice a m p] 40)))
  have z4 : (w3.alloc (.cells #[.int .i64 c.op, str c.text, .int .i64 c.n, .int .i64 c.box.x0, .int .i64 c.box.y0, .int .i64 c.box.x1, .int .i64 c.box.y1, .slice a m p] 40)).heap.size = w3.heap.size + 1 := by simp
  generalize hW4 : (w3.alloc (.cells #[.int .i64 c.op, str c.text, .int .i64 c.n, .int .i64 c.box.x0, .int .i64 c.box.y0, .int .i64 c.box.x1, .int .i64 c.box.y1, .slice a m p] 40)) = W4 at *
  clear hW4
  go_cut [5] from 15 to 17 (fun s5 wx => ∃ b5 : Nat, s5 = .pointer (some ⟨b5, 0, none⟩) ∧ Hid (wx.heap[b5]? = some (.cells #[.string ⟨#[114]⟩, .int .i64 0, .int .i64 3, .int .i64 c.op, str c.text, .int .i64 c.n, .int .i64 c.box.x0, .int .i64 c.box.y0, .int .i64 c.box.x1, .int .i64 c.box.y1, .slice a m p, .int .i64 1, .string ⟨#[]⟩, .int .i64 0, .int .i64 0, .int .i64 0, .int .i64 0, .int .i64 0, .slice none 0 0, .int .i64 0] 42 (0, 0))) ∧ w3.heap.size + 1 ≤ b5 ∧ Hid (Kp W4 wx none))
  case first =>
    have HS : Hid (∀ V, Kp W4 V none → V.rangeAt w3.heap.size 0 #[.int .i64 c.op, str c.text, .int .i64 c.n, .int .i64 c.box.x0, .int .i64 c.box.y0, .int .i64 c.box.x1, .int .i64 c.box.y1, .slice a m p].toList ∧ Hid (Kp W4 V none)) := Lib.hid fun V hV => ⟨range_blk (res_kept HB4.out hV (by simp)), Lib.hid hV⟩
    have kD : Kp W4 W4.drew none := (Kp.refl _ _).drew
    refine wp_region_held_drew (S := fun V => V.rangeAt w3.heap.size 0 #[.int .i64 c.op, str c.text, .int .i64 c.n, .int .i64 c.box.x0, .int .i64 c.box.y0, .int .i64 c.box.x1, .int .i64 c.box.y1, .slice a m p].toList ∧ Hid (Kp W4 V none)) (by kernel_rfl) (HS.out _ kD) (fun hHeld => ?_)
    have z40 := kD.size
    have KD := Lib.hid kD
    clear kD
    generalize W4.drew = v0 at *
    refine wpAnyH_take (i := 0) rfl (by kernel_rfl) (by kernel_rfl) (by kernel_rfl) (fun _ _ _ h => h) (yieldsIf_load_mid (by rfl) _ _ rfl w3.heap.size 0 rfl #[.int .i64 c.op, str c.text, .int .i64 c.n, .int .i64 c.box.x0, .int .i64 c.box.y0, .int .i64 c.box.x1, .int .i64 c.box.y1, .slice a m p].toList _ (fun _ h => h.1) Tryz.underlying40 rfl info40s) (by assumption) ?_
    try simp only [Act.put, sm]
    refine wpAnyH_ready (rs := [1, 3]) (by kernel_rfl) (by simp) ?_
    refine AllReadyH.cons (o := _) rfl (fun K hK => ?_) (AllReadyH.cons (o := _) rfl (fun K hK => ?_) AllReadyH.nil)
    · clear hHeld
      go_simp
      refine (anything_any _).mono ?_
      rintro e v1 ⟨rfl, kk⟩
      have Kv1 := Lib.hid (KD.out.trans kk)
      have zv1 := kk.size
      try go_wp2_with fail
      refine hK.out _ _ (HS.out _ Kv1.out) (fun hHeld => ?_)
      clear hK K
      try simp only [Act.put, sm]
      refine tkH 2 rfl ?_
      try simp only [Act.put, sm]
      refine wpAnyH_ready (rs := [3]) (by kernel_rfl) (by simp) ?_
      refine AllReadyH.cons (o := _) rfl (fun K hK => ?_) AllReadyH.nil
      clear hHeld
      go_simp
      have HZ := Lib.hid (heap_alloc_new v1 (.cells #[.string ⟨#[]⟩, .int .i64 0, .int .i64 0, .int .i64 0, .string ⟨#[]⟩, .int .i64 0, .int .i64 0, .int .i64 0, .int .i64 0, .int .i64 0, .slice none 0 0, .int .i64 0, .string ⟨#[]⟩, .int .i64 0, .int .i64 0, .int .i64 0, .int .i64 0, .int .i64 0, .slice none 0 0, .int .i64 0] 42))
      have ka := Kv1.out.alloc (.cells #[.string ⟨#[]⟩, .int .i64 0, .int .i64 0, .int .i64 0, .string ⟨#[]⟩, .int .i64 0, .int .i64 0, .int .i64 0, .int .i64 0, .int .i64 0, .slice none 0 0, .int .i64 0, .string ⟨#[]⟩, .int .i64 0, .int .i64 0, .int .i64 0, .int .i64 0, .int .i64 0, .slice none 0 0, .int .i64 0] 42)
      refine hK.out _ _ (HS.out _ ka) (fun hHeld => ?_)
      clear hK K
      try simp only [Act.put, sm]
      refine wpAnyH_ready (rs := [4]) (by kernel_rfl) (by simp) ?_
      refine AllReadyH.cons (o := _) rfl (fun K hK => ?_) AllReadyH.nil
      clear hHeld
      refine Eq.mpr (if_pos (by rfl)) ?_
      refine wp_store_blk 42 _ _ rfl v1.heap.size _ 42 HZ.out #[.string ⟨#[114]⟩, .int .i64 0, .int .i64 3, .int .i64 c.op, str c.text, .int .i64 c.n, .int .i64 c.box.x0, .int .i64 c.box.y0, .int .i64 c.box.x1, .int .i64 c.box.y1, .slice a m p, .int .i64 1, .string ⟨#[]⟩, .int .i64 0, .int .i64 0, .int .i64 0, .int .i64 0, .int .i64 0, .slice none 0 0, .int .i64 0] rfl rfl info42 rfl (by simp [Value.oneCell']) (fun V hV hkV => ?_)
      have kz := Kp.of_own ka hkV (by omega)
      refine hK.out _ _ (HS.out _ kz) (fun hHeld => ?_)
      clear hK K hHeld
      try simp only [Act.put, sm]
      refine wpAnyH_done (by kernel_rfl) ?_ _
      go_wp2_with fail
      go_meet
      exact ⟨v1.heap.size, rfl, Lib.hid hV, by omega, Lib.hid kz⟩
    · clear hHeld
      go_simp
      have hz0 := heap_alloc_new v0 (.cells #[.string ⟨#[]⟩, .int .i64 0, .int .i64 0, .int .i64 0, .string ⟨#[]⟩, .int .i64 0, .int .i64 0, .int .i64 0, .int .i64 0, .int .i64 0, .slice none 0 0, .int .i64 0, .string ⟨#[]⟩, .int .i64 0, .int .i64 0, .int .i64 0, .int .i64 0, .int .i64 0, .slice none 0 0, .int .i64 0] 42)
      have ka := KD.out.alloc (.cells #[.string ⟨#[]⟩, .int .i64 0, .int .i64 0, .int .i64 0, .string ⟨#[]⟩, .int .i64 0, .int .i64 0, .int .i64 0, .int .i64 0, .int .i64 0, .slice none 0 0, .int .i64 0, .string ⟨#[]⟩, .int .i64 0, .int .i64 0, .int .i64 0, .int .i64 0, .int .i64 0, .slice none 0 0, .int .i64 0] 42)
      refine hK.out _ _ (HS.out _ ka) (fun hHeld => ?_)
      clear hK K
      try simp only [Act.put, sm]
      refine wpAnyH_ready (rs := [1]) (by kernel_rfl) (by simp) ?_
      refine AllReadyH.cons (o := _) rfl (fun K hK => ?_) AllReadyH.nil
      clear hHeld
      go_simp
      refine (anything_any _).mono ?_
      rintro e v1 ⟨rfl, kk⟩
      have Kv1 := Lib.hid (ka.trans kk)
      have zv1 := kk.size
      try go_wp2_with fail
      refine hK.out _ _ (HS.out _ Kv1.out) (fun hHeld => ?_)
      clear hK K
      try simp only [Act.put, sm]
      have HZ := Lib.hid (res_kept hz0 kk (by simp))
      refine tkH 2 rfl ?_
      try simp only [Act.put, sm]
      refine wpAnyH_ready (rs := [4]) (by kernel_rfl) (by simp) ?_
      refine AllReadyH.cons (o := _) rfl (fun K hK => ?_) AllReadyH.nil
      clear hHeld
      refine Eq.mpr (if_pos (by rfl)) ?_
      refine wp_store_blk 42 _ _ rfl v0.heap.size _ 42 HZ.out #[.string ⟨#[114]⟩, .int .i64 0, .int .i64 3, .int .i64 c.op, str c.text, .int .i64 c.n, .int .i64 c.box.x0, .int .i64 c.box.y0, .int .i64 c.box.x1, .int .i64 c.box.y1, .slice a m p, .int .i64 1, .string ⟨#[]⟩, .int .i64 0, .int .i64 0, .int .i64 0, .int .i64 0, .int .i64 0, .slice none 0 0, .int .i64 0] rfl rfl info42 rfl (by simp [Value.oneCell']) (fun V hV hkV => ?_)
      have kz := Kp.of_own Kv1.out hkV (by omega)
      refine hK.out _ _ (HS.out _ kz) (fun hHeld => ?_)
      clear hK K hHeld
      try simp only [Act.put, sm]
      refine wpAnyH_done (by kernel_rfl) ?_ _
      go_wp2_with fail
      go_meet
      exact ⟨v0.heap.size, rfl, Lib.hid hV, by omega, Lib.hid kz⟩
  case rest =>
    obtain ⟨b5, rfl, HB5, hb5, HK5⟩ := hcut
    have HBB := Lib.hid (res_kept HB4.out HK5.out (by simp))
    have KV := Lib.hid (K4.out.trans HK5.out)
    have HTT := Lib.hid (HT4.out.keep HK5.out)
    have hsz5 := HK5.out.size
    have hlt5 := lt_of_block HB5.out
    clear HB4 HT4 HT
    have HR := Lib.hid hr
    have hsm : Ru.size c ≤ 20 := by omega
    have HFE : Hid (Fit (Ru.edgeR c)) := Lib.hid (good_fit (Ru.edge_good hr hsm))
    have ka : Kp wc (wc.alloc (.cells #[.string ⟨#[114]⟩, .int .i64 0, .int .i64 3, .int .i64 c.op, str c.text, .int .i64 c.n, .int .i64 c.box.x0, .int .i64 c.box.y0, .int .i64 c.box.x1, .int .i64 c.box.y1, .slice a m p, .int .i64 1, .string ⟨#[]⟩, .int .i64 0, .int .i64 0, .int .i64 0, .int .i64 0, .int .i64 0, .slice none 0 0, .int .i64 0] 42)) none := (Kp.refl _ _).alloc _
    obtain ⟨t, htx⟩ : ∃ t, Ru.tx c = t := ⟨_, rfl⟩
    have htl : t.length ≤ 4400 := by rw [← htx]; exact Ru.tx_len hr hsm
    obtain ⟨sl, hsl⟩ : ∃ sl, Ru.beginB ++ t ++ [10] = sl := ⟨_, rfl⟩
    have cT : Calls Tryz.prog 15 #[.slice (some ⟨wc.heap.size, 0, none⟩) 1 1] (wc.alloc (.cells #[.string ⟨#[114]⟩, .int .i64 0, .int .i64 3, .int .i64 c.op, str c.text, .int .i64 c.n, .int .i64 c.box.x0, .int .i64 c.box.y0, .int .i64 c.box.x1, .int .i64 c.box.y1, .slice a m p, .int .i64 1, .string ⟨#[]⟩, .int .i64 0, .int .i64 0, .int .i64 0, .int .i64 0, .int .i64 0, .slice none 0 0, .int .i64 0] 42)) fun e w' => e = .returned (.tuple #[str sl, .int .i64 0]) ∧ Kp (wc.alloc (.cells #[.string ⟨#[114]⟩, .int .i64 0, .int .i64 3, .int .i64 c.op, str c.text, .int .i64 c.n, .int .i64 c.box.x0, .int .i64 c.box.y0, .int .i64 c.box.x1, .int .i64 c.box.y1, .slice a m p, .int .i64 1, .string ⟨#[]⟩, .int .i64 0, .int .i64 0, .int .i64 0, .int .i64 0, .int .i64 0, .slice none 0 0, .int .i64 0] 42)) w' none := by
      have h := text_any [(⟨Ru.edgeR c, .slice a m p, .slice none 0 0⟩ : RV)] (some ⟨wc.heap.size, 0, none⟩) 1 (wc.alloc (.cells #[.string ⟨#[114]⟩, .int .i64 0, .int .i64 3, .int .i64 c.op, str c.text, .int .i64 c.n, .int .i64 c.box.x0, .int .i64 c.box.y0, .int .i64 c.box.x1, .int .i64 c.box.y1, .slice a m p, .int .i64 1, .string ⟨#[]⟩, .int .i64 0, .int .i64 0, .int .i64 0, .int .i64 0, .int .i64 0, .slice none 0 0, .int .i64 0] 42)) (HE.out.kp0 (KV.out.trans ka)) (lies_one (heap_alloc_new wc (.cells #[.string ⟨#[114]⟩, .int .i64 0, .int .i64 3, .int .i64 c.op, str c.text, .int .i64 c.n, .int .i64 c.box.x0, .int .i64 c.box.y0, .int .i64 c.box.x1, .int .i64 c.box.y1, .slice a m p, .int .i64 1, .string ⟨#[]⟩, .int .i64 0, .int .i64 0, .int .i64 0, .int .i64 0, .int .i64 0, .slice none 0 0, .int .i64 0] 42))) (fun p hp => by rw [List.mem_singleton] at hp; subst hp; exact ⟨(HTT.out.keep ka).tree, Tree.leaf rfl⟩) (fun p hp => by rw [List.mem_singleton] at hp; subst hp; exact HFE.out)
      have e : Ru.text [Ru.edgeR c] = (sl, 0) := by unfold Ru.text; rw [if_pos (Ru.edge_check hr hsm), Ru.text_edge hr, htx, hsl]
      have e2 : [(⟨Ru.edgeR c, .slice a m p, .slice none 0 0⟩ : RV)].map (·.r) = [Ru.edgeR c] := rfl
      rw [e2, e] at h
      exact h
    have hslen : sl.length = t.length + 22 := by rw [← hsl]; simp [Ru.beginB]
    have hx1 : (⟨sl.toArray⟩ : ByteArray).extract 0 21 = ⟨#[114, 117, 108, 101, 32, 114, 32, 48, 32, 101, 100, 103, 101, 32, 48, 32, 119, 104, 101, 110, 32]⟩ := by rw [ext_take, ← hsl]; rfl
    have hx2 : (⟨sl.toArray⟩ : ByteArray).extract 21 (t.length + 22 - 1) = ⟨t.toArray⟩ := by
      rw [show t.length + 22 - 1 = t.length + 21 by omega]
      rw [ext_mid, ← hsl]; congr 1
      have h1 : (Ru.beginB ++ t ++ [10]).take (t.length + 21) = Ru.beginB ++ t := by rw [List.take_append_of_le_length (by simp [Ru.beginB])]; exact List.take_of_length_le (by simp [Ru.beginB])
      rw [h1]; rfl
    have HTX := Lib.hid htx
    obtain ⟨q1, hq1⟩ : ∃ q, Ru.beginB ++ t = q := ⟨_, rfl⟩
    have hcat1 : (⟨#[114, 117, 108, 101, 32, 114, 32, 48, 32, 101, 100, 103, 101, 32, 48, 32, 119, 104, 101, 110, 32]⟩ : ByteArray) ++ ⟨t.toArray⟩ = ⟨q1.toArray⟩ := by rw [← hq1]; exact cat_eq Ru.beginB t
    have HQ1 : Hid (Ru.parse (q1 ++ [10]) = ([Ru.edgeR c], 0, 0) ∧ q1.length ≤ 6000) := Lib.hid ⟨by rw [← hq1, ← htx]; exact Ru.p_1 hr hsm, by rw [← hq1]; simp [Ru.beginB]; omega⟩
    obtain ⟨q2, hq2⟩ : ∃ q, Ru.beginB ++ [40, 32] ++ t = q := ⟨_, rfl⟩
    obtain ⟨r2, hr2⟩ : ∃ q, q2 ++ [32, 41] = q := ⟨_, rfl⟩
    have hcat2 : (⟨#[114, 117, 108, 101, 32, 114, 32, 48, 32, 101, 100, 103, 101, 32, 48, 32, 119, 104, 101, 110, 32, 40, 32]⟩ : ByteArray) ++ ⟨t.toArray⟩ = ⟨q2.toArray⟩ := by rw [← hq2]; exact cat_eq (Ru.beginB ++ [40, 32]) t
    have hcas2 : (⟨q2.toArray⟩ : ByteArray) ++ ⟨#[32, 41]⟩ = ⟨r2.toArray⟩ := by rw [← hr2]; exact cat_eq q2 [32, 41]
    have hql2 : q2.length ≤ 5000 := by rw [← hq2]; simp [Ru.beginB]; omega
    have HQ2 : Hid (Ru.parse (r2 ++ [10]) = ([Ru.edgeR c], 0, 0) ∧ r2.length ≤ 6000) := Lib.hid ⟨by rw [← hr2, ← hq2, ← htx]; exact Ru.p_2 hr hsm, by rw [← hr2]; simp; omega⟩
    clear hq2 hr2
    obtain ⟨q3, hq3⟩ : ∃ q, Ru.beginB ++ [40, 32, 40, 32] ++ t = q := ⟨_, rfl⟩
    obtain ⟨r3, hr3⟩ : ∃ q, q3 ++ [32, 41, 32, 41] = q := ⟨_, rfl⟩
    have hcat3 : (⟨#[114, 117, 108, 101, 32, 114, 32, 48, 32, 101, 100, 103, 101, 32, 48, 32, 119, 104, 101, 110, 32, 40, 32, 40, 32]⟩ : ByteArray) ++ ⟨t.toArray⟩ = ⟨q3.toArray⟩ := by rw [← hq3]; exact cat_eq (Ru.beginB ++ [40, 32, 40, 32]) t
    have hcas3 : (⟨q3.toArray⟩ : ByteArray) ++ ⟨#[32, 41, 32, 41]⟩ = ⟨r3.toArray⟩ := by rw [← hr3]; exact cat_eq q3 [32, 41, 32, 41]
    have hql3 : q3.length ≤ 5000 := by rw [← hq3]; simp [Ru.beginB]; omega
    have HQ3 : Hid (Ru.parse (r3 ++ [10]) = ([Ru.edgeR c], 0, 0) ∧ r3.length ≤ 6000) := Lib.hid ⟨by rw [← hr3, ← hq3, ← htx]; exact Ru.p_3 hr hsm, by rw [← hr3]; simp; omega⟩
    clear hq3 hr3
    obtain ⟨q4, hq4⟩ : ∃ q, Ru.beginB ++ [110, 111, 116, 32, 40, 32] ++ t = q := ⟨_, rfl⟩
    obtain ⟨r4, hr4⟩ : ∃ q, q4 ++ [32, 41] = q := ⟨_, rfl⟩
    have hcat4 : (⟨#[114, 117, 108, 101, 32, 114, 32, 48, 32, 101, 100, 103, 101, 32, 48, 32, 119, 104, 101, 110, 32, 110, 111, 116, 32, 40, 32]⟩ : ByteArray) ++ ⟨t.toArray⟩ = ⟨q4.toArray⟩ := by rw [← hq4]; exact cat_eq (Ru.beginB ++ [110, 111, 116, 32, 40, 32]) t
    have hcas4 : (⟨q4.toArray⟩ : ByteArray) ++ ⟨#[32, 41]⟩ = ⟨r4.toArray⟩ := by rw [← hr4]; exact cat_eq q4 [32, 41]
    have hql4 : q4.length ≤ 5000 := by rw [← hq4]; simp [Ru.beginB]; omega
    have HQ4 : Hid (Ru.parse (r4 ++ [10]) = ([Ru.edgeR (Ru.notC c)], 0, 0) ∧ r4.length ≤ 6000) := Lib.hid ⟨by rw [← hr4, ← hq4, ← htx]; exact Ru.p_4 hr (by omega), by rw [← hr4]; simp; omega⟩
    clear hq4 hr4
    clear hq1
    have HFN : Hid (Fit (Ru.edgeR (Ru.notC c))) := Lib.hid (good_fit (Ru.edge_good (Ru.not_right hr) (by rw [Ru.not_size]; omega)))
    have HCN : Hid (Ru.check [Ru.edgeR (Ru.notC c)] = 0) := Lib.hid (Ru.edge_check (Ru.not_right hr) (by rw [Ru.not_size]; omega))
    have hnl : ¬ ((t.length : Int) + 22 < 22) := by omega
    have R5 := Lib.hid (range_blk HB5.out)
    clear hsl htx hr
    have hx3 : (⟨sl.toArray⟩ : ByteArray).extract 21 (t.length + 21) = ⟨t.toArray⟩ := by rw [← hx2]; congr 1
    go_wp2_with (refine wpList_load_mid (by rfl) 42 _ (by rfl) b5 0 (by rfl) #[.string ⟨#[114]⟩, .int .i64 0, .int .i64 3, .int .i64 c.op, str c.text, .int .i64 c.n, .int .i64 c.box.x0, .int .i64 c.box.y0, .int .i64 c.box.x1, .int .i64 c.box.y1, .slice a m p, .int .i64 1, .string ⟨#[]⟩, .int .i64 0, .int .i64 0, .int .i64 0, .int .i64 0, .int .i64 0, .slice none 0 0, .int .i64 0].toList _ R5.out Tryz.underlying42 (by rfl) info42 ?_)
    refine cT.mono ?_
    clear cT
    rintro e w6 ⟨rfl, kk⟩
    have kk := ka.trans kk
    have HB5 := Lib.hid (res_kept HB5.out kk (by simp))
    have HBB := Lib.hid (res_kept HBB.out kk (by simp))
    have HTT := Lib.hid (HTT.out.keep kk)
    have KV := Lib.hid (KV.out.trans kk)
    have z6 := kk.size
    clear kk ka R5
    have HTT := Lib.hid (HTT.out.mono (T := fun b => b < w6.heap.size) (fun b hb _ => hb))
    have R5 := Lib.hid (range_blk HB5.out)
    have kA : Kp w6 (w6.alloc (.cells #[.string ⟨#[114]⟩, .int .i64 0, .int .i64 3, .int .i64 c.op, str c.text, .int .i64 c.n, .int .i64 c.box.x0, .int .i64 c.box.y0, .int .i64 c.box.x1, .int .i64 c.box.y1, .slice a m p, .int .i64 1, .string ⟨#[]⟩, .int .i64 0, .int .i64 0, .int .i64 0, .int .i64 0, .int .i64 0, .slice none 0 0, .int .i64 0] 42)) none := (Kp.refl _ _).alloc _
    have kB : Kp (w6.alloc (.cells #[.string ⟨#[114]⟩, .int .i64 0, .int .i64 3, .int .i64 c.op, str c.text, .int .i64 c.n, .int .i64 c.box.x0, .int .i64 c.box.y0, .int .i64 c.box.x1, .int .i64 c.box.y1, .slice a m p, .int .i64 1, .string ⟨#[]⟩, .int .i64 0, .int .i64 0, .int .i64 0, .int .i64 0, .int .i64 0, .slice none 0 0, .int .i64 0] 42)) ((w6.alloc (.cells #[.string ⟨#[114]⟩, .int .i64 0, .int .i64 3, .int .i64 c.op, str c.text, .int .i64 c.n, .int .i64 c.box.x0, .int .i64 c.box.y0, .int .i64 c.box.x1, .int .i64 c.box.y1, .slice a m p, .int .i64 1, .string ⟨#[]⟩, .int .i64 0, .int .i64 0, .int .i64 0, .int .i64 0, .int .i64 0, .slice none 0 0, .int .i64 0] 42)).alloc (.cells #[.int .i64 c.op, str c.text, .int .i64 c.n, .int .i64 c.box.x0, .int .i64 c.box.y0, .int .i64 c.box.x1, .int .i64 c.box.y1, .slice a m p] 40)) none := (Kp.refl _ _).alloc _
    have R4 : Hid ((w6.alloc (.cells #[.string ⟨#[114]⟩, .int .i64 0, .int .i64 3, .int .i64 c.op, str c.text, .int .i64 c.n, .int .i64 c.box.x0, .int .i64 c.box.y0, .int .i64 c.box.x1, .int .i64 c.box.y1, .slice a m p, .int .i64 1, .string ⟨#[]⟩, .int .i64 0, .int .i64 0, .int .i64 0, .int .i64 0, .int .i64 0, .slice none 0 0, .int .i64 0] 42)).rangeAt w3.heap.size 0 #[.int .i64 c.op, str c.text, .int .i64 c.n, .int .i64 c.box.x0, .int .i64 c.box.y0, .int .i64 c.box.x1, .int .i64 c.box.y1, .slice a m p].toList) := Lib.hid (range_blk (res_kept HBB.out kA (by simp)))
    go_wp2_with (first | (refine wpList_load_mid (by rfl) 42 _ (by rfl) b5 0 (by rfl) #[.string ⟨#[114]⟩, .int .i64 0, .int .i64 3, .int .i64 c.op, str c.text, .int .i64 c.n, .int .i64 c.box.x0, .int .i64 c.box.y0, .int .i64 c.box.x1, .int .i64 c.box.y1, .slice a m p, .int .i64 1, .string ⟨#[]⟩, .int .i64 0, .int .i64 0, .int .i64 0, .int .i64 0, .int .i64 0, .slice none 0 0, .int .i64 0].toList _ R5.out Tryz.underlying42 (by rfl) info42 ?_) | (refine wpList_store_new (by rfl) 42 _ _ (by rfl) #[.string ⟨#[]⟩, .int .i64 0, .int .i64 0, .int .i64 0, .string ⟨#[]⟩, .int .i64 0, .int .i64 0, .int .i64 0, .int .i64 0, .int .i64 0, .slice none 0 0, .int .i64 0, .string ⟨#[]⟩, .int .i64 0, .int .i64 0, .int .i64 0, .int .i64 0, .int .i64 0, .slice none 0 0, .int .i64 0] #[.string ⟨#[114]⟩, .int .i64 0, .int .i64 3, .int .i64 c.op, str c.text, .int .i64 c.n, .int .i64 c.box.x0, .int .i64 c.box.y0, .int .i64 c.box.x1, .int .i64 c.box.y1, .slice a m p, .int .i64 1, .string ⟨#[]⟩, .int .i64 0, .int .i64 0, .int .i64 0, .int .i64 0, .int .i64 0, .slice none 0 0, .int .i64 0] 42 (by rfl) (by rfl) rfl info42 (by rfl) (by simp [Value.oneCell']) ?_) | (refine wpList_load_mid (by rfl) 40 _ (by rfl) w3.heap.size 0 (by rfl) #[.int .i64 c.op, str c.text, .int .i64 c.n, .int .i64 c.box.x0, .int .i64 c.box.y0, .int .i64 c.box.x1, .int .i64 c.box.y1, .slice a m p].toList _ R4.out Tryz.underlying40 (by rfl) info40s ?_))
    refine (with_any 8 (some ⟨w6.heap.size + 1, 0, none⟩) 1 1 _).mono ?_
    rintro e w9 ⟨rfl, kk⟩
    have HB9 := Lib.hid (res_kept (res_kept (heap_alloc_new w6 (.cells #[.string ⟨#[114]⟩, .int .i64 0, .int .i64 3, .int .i64 c.op, str c.text, .int .i64 c.n, .int .i64 c.box.x0, .int .i64 c.box.y0, .int .i64 c.box.x1, .int .i64 c.box.y1, .slice a m p, .int .i64 1, .string ⟨#[]⟩, .int .i64 0, .int .i64 0, .int .i64 0, .int .i64 0, .int .i64 0, .slice none 0 0, .int .i64 0] 42)) kB (by simp)) kk (by simp))
    have HBN : Hid (w9.heap[w6.heap.size + 1]? = some (.cells #[.int .i64 c.op, str c.text, .int .i64 c.n, .int .i64 c.box.x0, .int .i64 c.box.y0, .int .i64 c.box.x1, .int .i64 c.box.y1, .slice a m p] 40 (0, 0))) := Lib.hid (res_kept (by have h := heap_alloc_new (w6.alloc (.cells #[.string ⟨#[114]⟩, .int .i64 0, .int .i64 3, .int .i64 c.op, str c.text, .int .i64 c.n, .int .i64 c.box.x0, .int .i64 c.box.y0, .int .i64 c.box.x1, .int .i64 c.box.y1, .slice a m p, .int .i64 1, .string ⟨#[]⟩, .int .i64 0, .int .i64 0, .int .i64 0, .int .i64 0, .int .i64 0, .slice none 0 0, .int .i64 0] 42)) (.cells #[.int .i64 c.op, str c.text, .int .i64 c.n, .int .i64 c.box.x0, .int .i64 c.box.y0, .int .i64 c.box.x1, .int .i64 c.box.y1, .slice a m p] 40); rw [show (w6.alloc (.cells #[.string ⟨#[114]⟩, .int .i64 0, .int .i64 3, .int .i64 c.op, str c.text, .int .i64 c.n, .int .i64 c.box.x0, .int .i64 c.box.y0, .int .i64 c.box.x1, .int .i64 c.box.y1, .slice a m p, .int .i64 1, .string ⟨#[]⟩, .int .i64 0, .int .i64 0, .int .i64 0, .int .i64 0, .int .i64 0, .slice none 0 0, .int .i64 0] 42)).heap.size = w6.heap.size + 1 by simp] at h; exact h) kk (by simp))
    have kk := (kA.trans kB).trans kk
    have HB5 := Lib.hid (res_kept HB5.out kk (by simp))
    have HBB := Lib.hid (res_kept HBB.out kk (by simp))
    have HTT := Lib.hid (HTT.out.keep kk)
    have KV := Lib.hid (KV.out.trans kk)
    have z9 := kk.size
    have hb5l := lt_of_block HB9.out
    clear kk kA kB R4 R5
    have hb5x : b5 < w6.heap.size := by omega
    go_wp2_with (first | (refine wpList_store_to (by rfl) 40 _ _ (by rfl) w6.heap.size 3 _ 42 HB9.out #[.int .i64 8, .string ⟨#[]⟩, .int .i64 0, .int .i64 0, .int .i64 0, .int .i64 0, .int .i64 0, .slice (some ⟨(w6.heap.size + 1), 0, none⟩) 1 1] (by rfl) (by rfl) info40s (by show 3 + 8 ≤ 20; omega) (by simp [Value.oneCell']) _ (put_a ..) (fun V hV hkV => ?_); have HV := Lib.hid hV; have HKV := Lib.hid hkV; have HB5 := Lib.hid (res_kept HB5.out hkV (by intro q hq; injection hq with hq; omega)); have HBN := Lib.hid (res_kept HBN.out hkV (by intro q hq; injection hq with hq; omega)); have R5 := Lib.hid (range_blk HB5.out); clear hV hkV) | (refine wpList_load_want (by rfl) 42 _ (by rfl) b5 0 (by rfl) #[.string ⟨#[114]⟩, .int .i64 0, .int .i64 3, .int .i64 c.op, str c.text, .int .i64 c.n, .int .i64 c.box.x0, .int .i64 c.box.y0, .int .i64 c.box.x1, .int .i64 c.box.y1, .slice a m p, .int .i64 1, .string ⟨#[]⟩, .int .i64 0, .int .i64 0, .int .i64 0, .int .i64 0, .int .i64 0, .slice none 0 0, .int .i64 0].toList _ R5.out Tryz.underlying42 (by rfl) info42 ?_))
    have HTT := Lib.hid (HTT.out.row HKV.out (fun q hq hs => by injection hq with hq; omega))
    have KV := Lib.hid (Kp.of_own KV.out HKV.out (by have := KV.out.size; have := K4.out.size; omega))
    have HV := Lib.hid HV.out
    have cS : Calls Tryz.prog 26 #[str q1, .agg #[.string ⟨#[114]⟩, .int .i64 0, .int .i64 3, .int .i64 c.op, str c.text, .int .i64 c.n, .int .i64 c.box.x0, .int .i64 c.box.y0, .int .i64 c.box.x1, .int .i64 c.box.y1, .slice a m p, .int .i64 1, .string ⟨#[]⟩, .int .i64 0, .int .i64 0, .int .i64 0, .int .i64 0, .int .i64 0, .slice none 0 0, .int .i64 0]] V (SameIs true V) := says_t q1 (Ru.edgeR c) _ _ _ _ _ _ V (HE.out.kp0 KV.out) HQ1.out.1 HFE.out (by have := HQ1.out.2; omega) ⟨HTT.out.tree, Tree.leaf rfl⟩
    refine cS.mono ?_
    clear cS
    rintro e x1 ⟨rfl, kk⟩
    have HB5 := Lib.hid (res_kept HB5.out kk (by simp))
    have HV := Lib.hid (res_kept HV.out kk (by simp))
    have HBN := Lib.hid (res_kept HBN.out kk (by simp))
    have HTT := Lib.hid (HTT.out.keep kk)
    have KV := Lib.hid (KV.out.trans kk)
    clear kk
    have R5 := Lib.hid (range_blk HB5.out)
    go_wp2_with (refine wpList_load_want (by rfl) 42 _ (by rfl) b5 0 (by rfl) #[.string ⟨#[114]⟩, .int .i64 0, .int .i64 3, .int .i64 c.op, str c.text, .int .i64 c.n, .int .i64 c.box.x0, .int .i64 c.box.y0, .int .i64 c.box.x1, .int .i64 c.box.y1, .slice a m p, .int .i64 1, .string ⟨#[]⟩, .int .i64 0, .int .i64 0, .int .i64 0, .int .i64 0, .int .i64 0, .slice none 0 0, .int .i64 0].toList _ R5.out Tryz.underlying42 (by rfl) info42 ?_)
    have cS : Calls Tryz.prog 26 #[str r2, .agg #[.string ⟨#[114]⟩, .int .i64 0, .int .i64 3, .int .i64 c.op, str c.text, .int .i64 c.n, .int .i64 c.box.x0, .int .i64 c.box.y0, .int .i64 c.box.x1, .int .i64 c.box.y1, .slice a m p, .int .i64 1, .string ⟨#[]⟩, .int .i64 0, .int .i64 0, .int .i64 0, .int .i64 0, .int .i64 0, .slice none 0 0, .int .i64 0]] x1 (SameIs true x1) := says_t r2 (Ru.edgeR c) _ _ _ _ _ _ x1 (HE.out.kp0 KV.out) HQ2.out.1 HFE.out (by have := HQ2.out.2; omega) ⟨HTT.out.tree, Tree.leaf rfl⟩
    refine cS.mono ?_
    clear cS
    rintro e x2 ⟨rfl, kk⟩
    have HB5 := Lib.hid (res_kept HB5.out kk (by simp))
    have HV := Lib.hid (res_kept HV.out kk (by simp))
    have HBN := Lib.hid (res_kept HBN.out kk (by simp))
    have HTT := Lib.hid (HTT.out.keep kk)
    have KV := Lib.hid (KV.out.trans kk)
    clear kk
    have R5 := Lib.hid (range_blk HB5.out)
    go_wp2_with (refine wpList_load_want (by rfl) 42 _ (by rfl) b5 0 (by rfl) #[.string ⟨#[114]⟩, .int .i64 0, .int .i64 3, .int .i64 c.op, str c.text, .int .i64 c.n, .int .i64 c.box.x0, .int .i64 c.box.y0, .int .i64 c.box.x1, .int .i64 c.box.y1, .slice a m p, .int .i64 1, .string ⟨#[]⟩, .int .i64 0, .int .i64 0, .int .i64 0, .int .i64 0, .int .i64 0, .slice none 0 0, .int .i64 0].toList _ R5.out Tryz.underlying42 (by rfl) info42 ?_)
    have cS : Calls Tryz.prog 26 #[str r3, .agg #[.string ⟨#[114]⟩, .int .i64 0, .int .i64 3, .int .i64 c.op, str c.text, .int .i64 c.n, .int .i64 c.box.x0, .int .i64 c.box.y0, .int .i64 c.box.x1, .int .i64 c.box.y1, .slice a m p, .int .i64 1, .string ⟨#[]⟩, .int .i64 0, .int .i64 0, .int .i64 0, .int .i64 0, .int .i64 0, .slice none 0 0, .int .i64 0]] x2 (SameIs true x2) := says_t r3 (Ru.edgeR c) _ _ _ _ _ _ x2 (HE.out.kp0 KV.out) HQ3.out.1 HFE.out (by have := HQ3.out.2; omega) ⟨HTT.out.tree, Tree.leaf rfl⟩
    refine cS.mono ?_
    clear cS
    rintro e x3 ⟨rfl, kk⟩
    have HB5 := Lib.hid (res_kept HB5.out kk (by simp))
    have HV := Lib.hid (res_kept HV.out kk (by simp))
    have HBN := Lib.hid (res_kept HBN.out kk (by simp))
    have HTT := Lib.hid (HTT.out.keep kk)
    have KV := Lib.hid (KV.out.trans kk)
    clear kk
    have R9 := Lib.hid (range_blk HV.out)
    have HTN : Hid (RV.Tree x3 (⟨Ru.edgeR (Ru.notC c), .slice (some ⟨w6.heap.size + 1, 0, none⟩) 1 1, .slice none 0 0⟩ : RV)) := Lib.hid ⟨tree_one (p := (c, .slice a m p)) HBN.out HTT.out.tree, Tree.leaf rfl⟩
    have ka : Kp x3 (x3.alloc (.cells #[.string ⟨#[114]⟩, .int .i64 0, .int .i64 3, .int .i64 8, .string ⟨#[]⟩, .int .i64 0, .int .i64 0, .int .i64 0, .int .i64 0, .int .i64 0, .slice (some ⟨(w6.heap.size + 1), 0, none⟩) 1 1, .int .i64 1, .string ⟨#[]⟩, .int .i64 0, .int .i64 0, .int .i64 0, .int .i64 0, .int .i64 0, .slice none 0 0, .int .i64 0] 42)) none := (Kp.refl _ _).alloc _
    have cK : Calls Tryz.prog 13 #[.slice (some ⟨x3.heap.size, 0, none⟩) 1 1] (x3.alloc (.cells #[.string ⟨#[114]⟩, .int .i64 0, .int .i64 3, .int .i64 8, .string ⟨#[]⟩, .int .i64 0, .int .i64 0, .int .i64 0, .int .i64 0, .int .i64 0, .slice (some ⟨(w6.heap.size + 1), 0, none⟩) 1 1, .int .i64 1, .string ⟨#[]⟩, .int .i64 0, .int .i64 0, .int .i64 0, .int .i64 0, .int .i64 0, .slice none 0 0, .int .i64 0] 42)) fun e w' => e = .returned (.int .i64 0) ∧ Kp (x3.alloc (.cells #[.string ⟨#[114]⟩, .int .i64 0, .int .i64 3, .int .i64 8, .string ⟨#[]⟩, .int .i64 0, .int .i64 0, .int .i64 0, .int .i64 0, .int .i64 0, .slice (some ⟨(w6.heap.size + 1), 0, none⟩) 1 1, .int .i64 1, .string ⟨#[]⟩, .int .i64 0, .int .i64 0, .int .i64 0, .int .i64 0, .int .i64 0, .slice none 0 0, .int .i64 0] 42)) w' none := by
      have h := check_any [(⟨Ru.edgeR (Ru.notC c), .slice (some ⟨w6.heap.size + 1, 0, none⟩) 1 1, .slice none 0 0⟩ : RV)] (some ⟨x3.heap.size, 0, none⟩) 1 (x3.alloc (.cells #[.string ⟨#[114]⟩, .int .i64 0, .int .i64 3, .int .i64 8, .string ⟨#[]⟩, .int .i64 0, .int .i64 0, .int .i64 0, .int .i64 0, .int .i64 0, .slice (some ⟨(w6.heap.size + 1), 0, none⟩) 1 1, .int .i64 1, .string ⟨#[]⟩, .int .i64 0, .int .i64 0, .int .i64 0, .int .i64 0, .int .i64 0, .slice none 0 0, .int .i64 0] 42)) (HE.out.kp0 (KV.out.trans ka)) (lies_one (heap_alloc_new x3 (.cells #[.string ⟨#[114]⟩, .int .i64 0, .int .i64 3, .int .i64 8, .string ⟨#[]⟩, .int .i64 0, .int .i64 0, .int .i64 0, .int .i64 0, .int .i64 0, .slice (some ⟨(w6.heap.size + 1), 0, none⟩) 1 1, .int .i64 1, .string ⟨#[]⟩, .int .i64 0, .int .i64 0, .int .i64 0, .int .i64 0, .int .i64 0, .slice none 0 0, .int .i64 0] 42))) (fun p hp => by rw [List.mem_singleton] at hp; subst hp; exact HTN.out.keep ka) (fun p hp => by rw [List.mem_singleton] at hp; subst hp; exact HFN.out)
      have e2 : [(⟨Ru.edgeR (Ru.notC c), .slice (some ⟨w6.heap.size + 1, 0, none⟩) 1 1, .slice none 0 0⟩ : RV)].map (·.r) = [Ru.edgeR (Ru.notC c)] := rfl
      rw [e2, HCN.out] at h
      exact h
    go_wp2_with (refine wpList_load_want (by rfl) 42 _ (by rfl) w6.heap.size 0 (by rfl) #[.string ⟨#[114]⟩, .int .i64 0, .int .i64 3, .int .i64 8, .string ⟨#[]⟩, .int .i64 0, .int .i64 0, .int .i64 0, .int .i64 0, .int .i64 0, .slice (some ⟨(w6.heap.size + 1), 0, none⟩) 1 1, .int .i64 1, .string ⟨#[]⟩, .int .i64 0, .int .i64 0, .int .i64 0, .int .i64 0, .int .i64 0, .slice none 0 0, .int .i64 0].toList _ R9.out Tryz.underlying42 (by rfl) info42 ?_)
    refine cK.mono ?_
    clear cK R9
    rintro e x4 ⟨rfl, kk⟩
    have kk := ka.trans kk
    have HV := Lib.hid (res_kept HV.out kk (by simp))
    have HTN := Lib.hid (HTN.out.keep kk)
    have KV := Lib.hid (KV.out.trans kk)
    clear kk ka
    have R9 := Lib.hid (range_blk HV.out)
    go_wp2_with (refine wpList_load_want (by rfl) 42 _ (by rfl) w6.heap.size 0 (by rfl) #[.string ⟨#[114]⟩, .int .i64 0, .int .i64 3, .int .i64 8, .string ⟨#[]⟩, .int .i64 0, .int .i64 0, .int .i64 0, .int .i64 0, .int .i64 0, .slice (some ⟨(w6.heap.size + 1), 0, none⟩) 1 1, .int .i64 1, .string ⟨#[]⟩, .int .i64 0, .int .i64 0, .int .i64 0, .int .i64 0, .int .i64 0, .slice none 0 0, .int .i64 0].toList _ R9.out Tryz.underlying42 (by rfl) info42 ?_)
    have cS : Calls Tryz.prog 26 #[str r4, .agg #[.string ⟨#[114]⟩, .int .i64 0, .int .i64 3, .int .i64 8, .string ⟨#[]⟩, .int .i64 0, .int .i64 0, .int .i64 0, .int .i64 0, .int .i64 0, .slice (some ⟨(w6.heap.size + 1), 0, none⟩) 1 1, .int .i64 1, .string ⟨#[]⟩, .int .i64 0, .int .i64 0, .int .i64 0, .int .i64 0, .int .i64 0, .slice none 0 0, .int .i64 0]] x4 (SameIs true x4) := says_t r4 (Ru.edgeR (Ru.notC c)) _ _ _ _ _ _ x4 (HE.out.kp0 KV.out) HQ4.out.1 HFN.out (by have := HQ4.out.2; omega) HTN.out
    refine cS.mono ?_
    clear cS
    rintro e x5 ⟨rfl, kk⟩
    go_wp2_with fail
    go_ret
    exact ⟨rfl, KV.out.trans kk⟩
end Go.Proofs.YtnchipahdfbliaaGreatDoor
