/- The reference's line. Condition: a string of at most 10^9 bytes. -/
import Derived.Test.YtnchipahdfbliaaGreatDoorRnr
namespace Go.Proofs.YtnchipahdfbliaaGreatDoor
open Go.RowKit

theorem RrAt.short {R : Nat} {w : World} {st : Option Ru.Ws} (h : RrAt R w st) : (st.getD []).length ≤ 1000000000000 := by
 obtain ⟨ao, n, cap, k, all, h1, h2, ⟨h3, _⟩, h4, h5, h6, h7⟩ := h
 cases st with
 | none => simp
 | some ws => rw [Option.getD_some, h7 ws rfl, List.length_drop]; omega
theorem results_row_tmp {fn : Func} {p u : Tmp} (h : fn.results = #[.cell p 42, .tmp u]) (tmps : Array Value) (w : World) (g : Nat) (cs : Array Value)
  (hp : tmps.getD p undef = .pointer (some ⟨g, 0, none⟩)) (hg : w.heap[g]? = some (.cells cs 42 (0, 0))) (hi : (Tryz.prog.info? 42).map (·.size) = some cs.size) :
  (results fn tmps).run Tryz.prog w = .ok (.tuple #[.agg cs, tmps.getD u undef]) w := by
 have hp' : tmps[p]?.getD undef = .pointer (some ⟨g, 0, none⟩) := by simpa using hp
 simp [results, h, hp', asAddr, run_loadVar_row w g 42 42 cs (0, 0) _ hg Tryz.underlying42 (by rfl) hi]
/-- What line returns. -/
def LineR (o : Option Ru.Rule) (w : World) (e : Ending) (w' : World) : Prop := ∃ (q : Ru.Rule) (a1 : Option Addr) (m1 p1 : Nat) (a2 : Option Addr) (m2 p2 : Nat), e = .returned (.tuple #[.agg #[str q.name, .int .i64 q.prio, .int .i64 q.what, .int .i64 q.a.op, str q.a.text, .int .i64 q.a.n, .int .i64 q.a.box.x0, .int .i64 q.a.box.y0, .int .i64 q.a.box.x1, .int .i64 q.a.box.y1, .slice a1 m1 p1, .int .i64 q.b.op, str q.b.text, .int .i64 q.b.n, .int .i64 q.b.box.x0, .int .i64 q.b.box.y0, .int .i64 q.b.box.x1, .int .i64 q.b.box.y1, .slice a2 m2 p2, .int .i64 q.value], .bool o.isSome]) ∧ TreeB w.heap.size w' q.a (.slice a1 m1 p1) ∧ TreeB w.heap.size w' q.b (.slice a2 m2 p2) ∧ (∀ r, o = some r → r = q) ∧ Kp w w' none
set_option maxHeartbeats 32000000 in
set_option maxRecDepth 100000 in
theorem lineR_any (s : List UInt8) (hs : s.length ≤ 1000000000) (w : World) : Calls Tryz.prog 53 #[str s] w (LineR (Ru.line s) w) := by
 obtain ⟨ws, hws⟩ : ∃ x, Ru.pieces 32 s = x := ⟨_, rfl⟩
 have HLI : Hid (Ru.line s = Ru.lineW ws) := Lib.hid (by unfold Ru.line; rw [hws])
 have hpl : ∀ x ∈ ws, x.length ≤ 1000000000 := fun x hx => by
  have h := piece_len 32 s x (by rw [hws]; exact hx)
  omega
 have HNE : Hid (0 < ws.length) := Lib.hid (List.length_pos_iff.2 (by rw [← hws]; exact Ru.pieces_ne 32 s))
 have hpn : ws.length ≤ 1000000001 := by
  have h := piece_num 32 s
  rw [hws] at h; omega
 have k0 : Kp w (w.alloc (.cells #[.string ⟨#[]⟩, .int .i64 0, .int .i64 0, .int .i64 0, .string ⟨#[]⟩, .int .i64 0, .int .i64 0, .int .i64 0, .int .i64 0, .int .i64 0, .slice none 0 0, .int .i64 0, .string ⟨#[]⟩, .int .i64 0, .int .i64 0, .int .i64 0, .int .i64 0, .int .i64 0, .slice none 0 0, .int .i64 0] 42)) none := (Kp.refl _ _).alloc _
 have HB0 := Lib.hid (heap_alloc_new w (.cells #[.string ⟨#[]⟩, .int .i64 0, .int .i64 0, .int .i64 0, .string ⟨#[]⟩, .int .i64 0, .int .i64 0, .int .i64 0, .int .i64 0, .int .i64 0, .slice none 0 0, .int .i64 0, .string ⟨#[]⟩, .int .i64 0, .int .i64 0, .int .i64 0, .int .i64 0, .int .i64 0, .slice none 0 0, .int .i64 0] 42))
 have cW := wordsR_any s hs (w.alloc (.cells #[.string ⟨#[]⟩, .int .i64 0, .int .i64 0, .int .i64 0, .string ⟨#[]⟩, .int .i64 0, .int .i64 0, .int .i64 0, .int .i64 0, .int .i64 0, .slice none 0 0, .int .i64 0, .string ⟨#[]⟩, .int .i64 0, .int .i64 0, .int .i64 0, .int .i64 0, .int .i64 0, .slice none 0 0, .int .i64 0] 42))
 rw [hws] at cW
 have HPL := Lib.hid hpl
 have K0 := Lib.hid k0
 have hZ0 : (w.alloc (.cells #[.string ⟨#[]⟩, .int .i64 0, .int .i64 0, .int .i64 0, .string ⟨#[]⟩, .int .i64 0, .int .i64 0, .int .i64 0, .int .i64 0, .int .i64 0, .slice none 0 0, .int .i64 0, .string ⟨#[]⟩, .int .i64 0, .int .i64 0, .int .i64 0, .int .i64 0, .int .i64 0, .slice none 0 0, .int .i64 0] 42)).heap.size = w.heap.size + 1 := by simp
 generalize hW0 : w.alloc (.cells #[.string ⟨#[]⟩, .int .i64 0, .int .i64 0, .int .i64 0, .string ⟨#[]⟩, .int .i64 0, .int .i64 0, .int .i64 0, .int .i64 0, .int .i64 0, .slice none 0 0, .int .i64 0, .string ⟨#[]⟩, .int .i64 0, .int .i64 0, .int .i64 0, .int .i64 0, .int .i64 0, .slice none 0 0, .int .i64 0] 42) = W0 at *
 obtain ⟨n, hn⟩ : ∃ n, ws.length = n := ⟨_, rfl⟩
 have cW : Calls Tryz.prog 79 #[str s] W0 fun e w' => (∃ ao cap, e = .returned (.slice ao n cap) ∧ Hid (LiesAt 1 strVal w' ao cap ws)) ∧ Hid (Kp W0 w' none) := cW.mono fun e w' ⟨⟨ao, cap, h1, h2⟩, h3⟩ => ⟨⟨ao, cap, by rw [h1, hn], Lib.hid h2⟩, Lib.hid h3⟩
 have HN := Lib.hid hn
 clear hws hpl k0 hn
 go_enter Tryz.func53, Tryz.ntmps53
 go_wp2_with fail
 try rw [hW0]
 clear hW0
 refine cW.mono ?_
 clear cW
 rintro e w1 ⟨⟨ao, cap, rfl, HLW⟩, HK1⟩
 go_upto_region 3 with (refine wpList_store_new (by rfl) 42 _ _ (by rfl) #[.string ⟨#[]⟩, .int .i64 0, .int .i64 0, .int .i64 0, .string ⟨#[]⟩, .int .i64 0, .int .i64 0, .int .i64 0, .int .i64 0, .int .i64 0, .slice none 0 0, .int .i64 0, .string ⟨#[]⟩, .int .i64 0, .int .i64 0, .int .i64 0, .int .i64 0, .int .i64 0, .slice none 0 0, .int .i64 0] #[.string ⟨#[]⟩, .int .i64 0, .int .i64 0, .int .i64 0, .string ⟨#[]⟩, .int .i64 0, .int .i64 0, .int .i64 0, .int .i64 0, .int .i64 0, .slice none 0 0, .int .i64 1, .string ⟨#[]⟩, .int .i64 0, .int .i64 0, .int .i64 0, .int .i64 0, .int .i64 0, .slice none 0 0, .int .i64 0] 42 (by show Value.pointer (some ⟨w1.heap.size + 1, 0, none⟩) = _; simp) (by rfl) rfl info42 (by rfl) (by simp [Value.oneCell']) ?_)
 try simp only [Act.put]
 have hz1 := HK1.out.size
 have hR0 : RrAt w1.heap.size (w1.alloc (.cells #[.slice ao n cap, .int .i64 0, .bool false] 126)) (some ws) := ⟨ao, n, cap, 0, ws, heap_alloc_new w1 _, HN.out, ⟨by rw [← HN.out]; omega, HPL.out⟩, HLW.out.keep ((Kp.refl w1 none).alloc _), fun p hp => by
   obtain ⟨b, off, e1, hb, _⟩ := HLW.out 0 HNE.out
   rw [hp] at e1; injection e1 with e1; rw [e1]; exact hb, Nat.zero_le _, fun x hx => by injection hx with hx; rw [← hx]; rfl⟩
 have kA : Kp w1 (w1.alloc (.cells #[.slice ao n cap, .int .i64 0, .bool false] 126)) none := (Kp.refl _ _).alloc _
 obtain ⟨R, hR⟩ : ∃ R, w1.heap.size = R := ⟨_, rfl⟩
 rw [hR] at hR0
 have hwR : w.heap.size + 1 ≤ R := by omega
 have hs2 : (w1.alloc (.cells #[.slice ao n cap, .int .i64 0, .bool false] 126)).heap.size = R + 1 := by simp [hR]
 obtain ⟨V2, hV2⟩ : ∃ x, w1.alloc (.cells #[.slice ao n cap, .int .i64 0, .bool false] 126) = x := ⟨_, rfl⟩
 rw [hV2] at kA hR0 hs2
 have kB : Kp V2 (V2.alloc (.cells #[.string ⟨#[]⟩, .int .i64 0, .int .i64 0, .int .i64 0, .string ⟨#[]⟩, .int .i64 0, .int .i64 0, .int .i64 0, .int .i64 0, .int .i64 0, .slice none 0 0, .int .i64 1, .string ⟨#[]⟩, .int .i64 0, .int .i64 0, .int .i64 0, .int .i64 0, .int .i64 0, .slice none 0 0, .int .i64 0] 42)) none := (Kp.refl _ _).alloc _
 have HP0 : Hid ((V2.alloc (.cells #[.string ⟨#[]⟩, .int .i64 0, .int .i64 0, .int .i64 0, .string ⟨#[]⟩, .int .i64 0, .int .i64 0, .int .i64 0, .int .i64 0, .int .i64 0, .slice none 0 0, .int .i64 1, .string ⟨#[]⟩, .int .i64 0, .int .i64 0, .int .i64 0, .int .i64 0, .int .i64 0, .slice none 0 0, .int .i64 0] 42)).heap[R + 1]? = some (.cells #[.string ⟨#[]⟩, .int .i64 0, .int .i64 0, .int .i64 0, .string ⟨#[]⟩, .int .i64 0, .int .i64 0, .int .i64 0, .int .i64 0, .int .i64 0, .slice none 0 0, .int .i64 1, .string ⟨#[]⟩, .int .i64 0, .int .i64 0, .int .i64 0, .int .i64 0, .int .i64 0, .slice none 0 0, .int .i64 0] 42 (0, 0))) := Lib.hid (by rw [← hs2]; exact heap_alloc_new V2 _)
 have HQ0 : Hid ((V2.alloc (.cells #[.string ⟨#[]⟩, .int .i64 0, .int .i64 0, .int .i64 0, .string ⟨#[]⟩, .int .i64 0, .int .i64 0, .int .i64 0, .int .i64 0, .int .i64 0, .slice none 0 0, .int .i64 1, .string ⟨#[]⟩, .int .i64 0, .int .i64 0, .int .i64 0, .int .i64 0, .int .i64 0, .slice none 0 0, .int .i64 0] 42)).heap[w.heap.size]? = some (.cells #[.string ⟨#[]⟩, .int .i64 0, .int .i64 0, .int .i64 0, .string ⟨#[]⟩, .int .i64 0, .int .i64 0, .int .i64 0, .int .i64 0, .int .i64 0, .slice none 0 0, .int .i64 0, .string ⟨#[]⟩, .int .i64 0, .int .i64 0, .int .i64 0, .int .i64 0, .int .i64 0, .slice none 0 0, .int .i64 0] 42 (0, 0))) := Lib.hid (res_kept (res_kept (res_kept HB0.out HK1.out (by simp)) kA (by simp)) kB (by simp))
 have HRR0 := Lib.hid (hR0.keep kB)
 have HKK0 : Hid (Kp w (V2.alloc (.cells #[.string ⟨#[]⟩, .int .i64 0, .int .i64 0, .int .i64 0, .string ⟨#[]⟩, .int .i64 0, .int .i64 0, .int .i64 0, .int .i64 0, .int .i64 0, .slice none 0 0, .int .i64 1, .string ⟨#[]⟩, .int .i64 0, .int .i64 0, .int .i64 0, .int .i64 0, .int .i64 0, .slice none 0 0, .int .i64 0] 42)) none) := Lib.hid (((K0.out.trans HK1.out).trans kA).trans kB)
 clear kA kB hR0 HLW
 try rw [hV2]
 try rw [hR]
 try simp only [hs2]
 clear hV2
 obtain ⟨V3, hV3⟩ : ∃ x, V2.alloc (.cells #[.string ⟨#[]⟩, .int .i64 0, .int .i64 0, .int .i64 0, .string ⟨#[]⟩, .int .i64 0, .int .i64 0, .int .i64 0, .int .i64 0, .int .i64 0, .slice none 0 0, .int .i64 1, .string ⟨#[]⟩, .int .i64 0, .int .i64 0, .int .i64 0, .int .i64 0, .int .i64 0, .slice none 0 0, .int .i64 0] 42) = x := ⟨_, rfl⟩
 rw [hV3] at HP0 HQ0 HRR0 HKK0
 try rw [hV3]
 clear hV3 HB0 K0 HK1
 have HP := HP0
 have HQ := HQ0
 have HRR := HRR0
 have HK := HKK0
 clear HP0 HQ0 HRR0 HKK0
 go_wp2_with fail
 obtain ⟨st1, hst1⟩ : ∃ x, ((some ws)).bind (Ru.must Ru.kwRule) = x := ⟨_, rfl⟩
 have c := mustR_any Ru.kwRule (by decide) R V3 (some ws) HRR.out
 have c : Calls Tryz.prog 80 #[.pointer (some ⟨R, 0, none⟩), .string ⟨#[114, 117, 108, 101]⟩] V3 fun e w' => e = .returned (.tuple #[]) ∧ Hid (RrAt R w' st1) ∧ Hid (Kp V3 w' (some R)) := c.mono fun e w' ⟨h1, h2, h3⟩ => ⟨h1, Lib.hid (by rw [← hst1]; exact h2), Lib.hid h3⟩
 have Sst1 := Lib.hid hst1
 clear hst1
 refine c.mono ?_
 clear c
 rintro e x1 ⟨rfl, HRn, hkn⟩
 have HPn := Lib.hid (res_kept HP.out hkn.out (by intro q hq; injection hq with hq; omega))
 have HQn := Lib.hid (res_kept HQ.out hkn.out (by intro q hq; injection hq with hq; omega))
 have HKn := Lib.hid (Kp.of_own HK.out hkn.out (by omega))
 have hzn := hkn.out.size
 clear hkn HP HQ HK HRR
 have HP := HPn
 have HQ := HQn
 have HK := HKn
 have HRR := HRn
 clear HPn HQn HKn HRn
 go_wp2_with fail
 obtain ⟨st2, hst2⟩ : ∃ x, ((st1).bind Ru.next).map (·.2) = x := ⟨_, rfl⟩
 obtain ⟨nm, hnm⟩ : ∃ x, (((st1).bind Ru.next).map (·.1)).getD [] = x := ⟨_, rfl⟩
 have c := wordR_any R x1 st1 HRR.out
 have c : Calls Tryz.prog 81 #[.pointer (some ⟨R, 0, none⟩)] x1 fun e w' => e = .returned (str nm) ∧ Hid (RrAt R w' st2) ∧ Hid (Kp x1 w' (some R)) := c.mono fun e w' ⟨h1, h2, h3⟩ => ⟨by rw [h1, hnm], Lib.hid (by rw [← hst2]; exact h2), Lib.hid h3⟩
 have Sst2 := Lib.hid hst2
 have Snm := Lib.hid hnm
 clear hst2 hnm
 refine c.mono ?_
 clear c
 rintro e x2 ⟨rfl, HRn, hkn⟩
 have HPn := Lib.hid (res_kept HP.out hkn.out (by intro q hq; injection hq with hq; omega))
 have HQn := Lib.hid (res_kept HQ.out hkn.out (by intro q hq; injection hq with hq; omega))
 have HKn := Lib.hid (Kp.of_own HK.out hkn.out (by omega))
 have hzn := hkn.out.size
 clear hkn HP HQ HK HRR
 have qc := hcell HPn.out 0 rfl
 have qf := Lib.frozen_of_heap HPn.out 0
 have ks : Kp x2 (x2.setCell ⟨R + 1, 0, none⟩ (str nm)) (some (R + 1)) := (Kp.refl _ _).set _
 have HP : Hid ((x2.setCell ⟨R + 1, 0, none⟩ (str nm)).heap[R + 1]? = some (.cells #[str nm, .int .i64 0, .int .i64 0, .int .i64 0, .string ⟨#[]⟩, .int .i64 0, .int .i64 0, .int .i64 0, .int .i64 0, .int .i64 0, .slice none 0 0, .int .i64 1, .string ⟨#[]⟩, .int .i64 0, .int .i64 0, .int .i64 0, .int .i64 0, .int .i64 0, .slice none 0 0, .int .i64 0] 42 (0, 0))) := Lib.hid (heap_set (o := 0) (v := str nm) HPn.out)
 have HQ := Lib.hid (res_kept HQn.out ks (by intro q hq; injection hq with hq; omega))
 have HRR := Lib.hid (HRn.out.far ks (by omega))
 have HK := Lib.hid (Kp.of_own HKn.out ks (by omega))
 have hzs := ks.size
 clear ks HPn HQn HKn HRn
 go_wp2_with fail
 clear qc qf
 generalize x2.setCell ⟨R + 1, 0, none⟩ (str nm) = x2s at *
 obtain ⟨st3, hst3⟩ : ∃ x, ((st2).bind Ru.number).map (·.2) = x := ⟨_, rfl⟩
 have c := numberR_any R x2s st2 HRR.out HRR.out.len
 have c : Calls Tryz.prog 82 #[.pointer (some ⟨R, 0, none⟩)] x2s fun e w' => (∃ v : Int, e = .returned (.int .i64 v) ∧ Hid (∀ n r, (st2).bind Ru.number = some (n, r) → v = n)) ∧ Hid (RrAt R w' st3) ∧ Hid (Kp x2s w' (some R)) := c.mono fun e w' ⟨⟨v, h1, h4⟩, h2, h3⟩ => ⟨⟨v, h1, Lib.hid h4⟩, Lib.hid (by rw [← hst3]; exact h2), Lib.hid h3⟩
 have Sst3 := Lib.hid hst3
 clear hst3
 refine c.mono ?_
 clear c
 rintro e x3 ⟨⟨prio, rfl, Sprio⟩, HRn, hkn⟩
 have HPn := Lib.hid (res_kept HP.out hkn.out (by intro q hq; injection hq with hq; omega))
 have HQn := Lib.hid (res_kept HQ.out hkn.out (by intro q hq; injection hq with hq; omega))
 have HKn := Lib.hid (Kp.of_own HK.out hkn.out (by omega))
 have hzn := hkn.out.size
 clear hkn HP HQ HK HRR
 have qc := hcell HPn.out 1 rfl
 have qf := Lib.frozen_of_heap HPn.out 1
 have ks : Kp x3 (x3.setCell ⟨R + 1, 1, none⟩ (.int .i64 prio)) (some (R + 1)) := (Kp.refl _ _).set _
 have HP : Hid ((x3.setCell ⟨R + 1, 1, none⟩ (.int .i64 prio)).heap[R + 1]? = some (.cells #[str nm, .int .i64 prio, .int .i64 0, .int .i64 0, .string ⟨#[]⟩, .int .i64 0, .int .i64 0, .int .i64 0, .int .i64 0, .int .i64 0, .slice none 0 0, .int .i64 1, .string ⟨#[]⟩, .int .i64 0, .int .i64 0, .int .i64 0, .int .i64 0, .int .i64 0, .slice none 0 0, .int .i64 0] 42 (0, 0))) := Lib.hid (heap_set (o := 1) (v := .int .i64 prio) HPn.out)
 have HQ := Lib.hid (res_kept HQn.out ks (by intro q hq; injection hq with hq; omega))
 have HRR := Lib.hid (HRn.out.far ks (by omega))
 have HK := Lib.hid (Kp.of_own HKn.out ks (by omega))
 have hzs := ks.size
 clear ks HPn HQn HKn HRn
 go_wp2_with fail
 clear qc qf
 generalize x3.setCell ⟨R + 1, 1, none⟩ (.int .i64 prio) = x3s at *
 obtain ⟨st4, hst4⟩ : ∃ x, ((st3).bind Ru.next).map (·.2) = x := ⟨_, rfl⟩
 obtain ⟨wh, hwh⟩ : ∃ x, (((st3).bind Ru.next).map (·.1)).getD [] = x := ⟨_, rfl⟩
 have c := wordR_any R x3s st3 HRR.out
 have c : Calls Tryz.prog 81 #[.pointer (some ⟨R, 0, none⟩)] x3s fun e w' => e = .returned (str wh) ∧ Hid (RrAt R w' st4) ∧ Hid (Kp x3s w' (some R)) := c.mono fun e w' ⟨h1, h2, h3⟩ => ⟨by rw [h1, hwh], Lib.hid (by rw [← hst4]; exact h2), Lib.hid h3⟩
 have Sst4 := Lib.hid hst4
 have Swh := Lib.hid hwh
 clear hst4 hwh
 refine c.mono ?_
 clear c
 rintro e x4 ⟨rfl, HRn, hkn⟩
 have HPn := Lib.hid (res_kept HP.out hkn.out (by intro q hq; injection hq with hq; omega))
 have HQn := Lib.hid (res_kept HQ.out hkn.out (by intro q hq; injection hq with hq; omega))
 have HKn := Lib.hid (Kp.of_own HK.out hkn.out (by omega))
 have hzn := hkn.out.size
 clear hkn HP HQ HK HRR
 have HP := HPn
 have HQ := HQn
 have HK := HKn
 have HRR := HRn
 clear HPn HQn HKn HRn
 go_wp2_with fail
 have hwr := what_range wh
 obtain ⟨wo, hwo⟩ : ∃ x, Ru.whatOf wh = x := ⟨_, rfl⟩
 rw [hwo] at hwr
 have SWO := Lib.hid hwo
 clear hwo
 obtain ⟨hw0, hw4⟩ := hwr
 go_loopw [7] (fun i wr => ∃ (k : Nat) (x : Int), 1 ≤ k ∧ k ≤ 5 ∧ i = .int .i64 (k : Int) ∧ Hid (x = if wo < (k : Int) then wo else 0) ∧ Hid (wr.heap[R + 1]? = some (.cells #[str nm, .int .i64 prio, .int .i64 x, .int .i64 0, .string ⟨#[]⟩, .int .i64 0, .int .i64 0, .int .i64 0, .int .i64 0, .int .i64 0, .slice none 0 0, .int .i64 1, .string ⟨#[]⟩, .int .i64 0, .int .i64 0, .int .i64 0, .int .i64 0, .int .i64 0, .slice none 0 0, .int .i64 0] 42 (0, 0))) ∧ Hid (wr.heap[w.heap.size]? = some (.cells #[.string ⟨#[]⟩, .int .i64 0, .int .i64 0, .int .i64 0, .string ⟨#[]⟩, .int .i64 0, .int .i64 0, .int .i64 0, .int .i64 0, .int .i64 0, .slice none 0 0, .int .i64 0, .string ⟨#[]⟩, .int .i64 0, .int .i64 0, .int .i64 0, .int .i64 0, .int .i64 0, .slice none 0 0, .int .i64 0] 42 (0, 0))) ∧ Hid (RrAt R wr st4) ∧ Hid (Kp w wr none)) (fun i _ => 5 - (intOf i).toNat)
 case atStart => exact ⟨1, 0, Nat.le_refl _, by omega, rfl, Lib.hid (by split <;> omega), HP, HQ, HRR, HK⟩
 case round =>
  obtain ⟨k, x, hk1, hk5, rfl, HX, HPr, HQr, HRr, HKr⟩ := hrel
  have hk0 : (0 : Int) ≤ (k : Int) := by omega
  by_cases hlt : k ≤ 4
  ·have hki : (k : Int) ≤ 4 := by omega
   have c := whatsR_any k hk1 hlt wr
   have hif := what_iff k hk1 hlt wh
   rw [SWO.out] at hif
   obtain ⟨z, hz⟩ : ∃ z, Ru.whats.getD (k - 1) [] = z := ⟨_, rfl⟩
   rw [hz] at c hif
   clear hz
   by_cases hwk : wo = (k : Int)
   ·have hb : (z == wh) = true := by rw [hif.2 hwk]; simp
    have HX2 : Hid ((k : Int) = if wo < (((k + 1 : Nat)) : Int) then wo else 0) := Lib.hid (by rw [if_pos (by omega), hwk])
    clear hif hwk
    go_wp2_with fail
    refine c.mono ?_
    clear c
    rintro e v1 ⟨rfl, hkv⟩
    have HPn := Lib.hid (res_kept HPr.out hkv (by simp))
    have HQn := Lib.hid (res_kept HQr.out hkv (by simp))
    have HRn := Lib.hid (HRr.out.keep hkv)
    have HKn := Lib.hid (HKr.out.trans hkv)
    have qc := hcell HPn.out 2 rfl
    have qf := Lib.frozen_of_heap HPn.out 2
    have ks : Kp v1 (v1.setCell ⟨R + 1, 2, none⟩ (.int .i64 (k : Int))) (some (R + 1)) := (Kp.refl _ _).set _
    have HPs : Hid ((v1.setCell ⟨R + 1, 2, none⟩ (.int .i64 (k : Int))).heap[R + 1]? = some (.cells #[str nm, .int .i64 prio, .int .i64 (k : Int), .int .i64 0, .string ⟨#[]⟩, .int .i64 0, .int .i64 0, .int .i64 0, .int .i64 0, .int .i64 0, .slice none 0 0, .int .i64 1, .string ⟨#[]⟩, .int .i64 0, .int .i64 0, .int .i64 0, .int .i64 0, .int .i64 0, .slice none 0 0, .int .i64 0] 42 (0, 0))) := Lib.hid (heap_set (o := 2) (v := .int .i64 (k : Int)) HPn.out)
    have HQs := Lib.hid (res_kept HQn.out ks (by intro q hq; injection hq with hq; omega))
    have HRs := Lib.hid (HRn.out.far ks (by omega))
    have HKs := Lib.hid (Kp.of_own HKn.out ks (by omega))
    clear ks hkv
    go_wp2_with fail
    go_roundw
    case rel => exact ⟨k + 1, (k : Int), by omega, by omega, by go_num, HX2, HPs, HQs, HRs, HKs⟩
    case measure => simp [intOf]; omega
   ·have hb : (z == wh) = false := by
     have : z ≠ wh := fun h => hwk (hif.1 h)
     simpa using this
    have HX2 : Hid (x = if wo < (((k + 1 : Nat)) : Int) then wo else 0) := Lib.hid (by
     rw [HX.out]
     by_cases h : wo < (k : Int)
     ·rw [if_pos h, if_pos (by omega)]
     ·rw [if_neg h, if_neg (by omega)])
    clear hif hwk
    go_wp2_with fail
    refine c.mono ?_
    clear c
    rintro e v1 ⟨rfl, hkv⟩
    have HPn := Lib.hid (res_kept HPr.out hkv (by simp))
    have HQn := Lib.hid (res_kept HQr.out hkv (by simp))
    have HRn := Lib.hid (HRr.out.keep hkv)
    have HKn := Lib.hid (HKr.out.trans hkv)
    clear hkv
    go_wp2_with fail
    go_roundw
    case rel => exact ⟨k + 1, x, by omega, by omega, by go_num, HX2, HPn, HQn, HRn, HKn⟩
    case measure => simp [intOf]; omega
  ·obtain rfl : k = 5 := by omega
   obtain rfl : x = wo := by rw [HX.out, if_pos (by omega)]
   have HP := HPr
   have HQ := HQr
   have HRR := HRr
   have HK := HKr
   clear HX HPr HQr HRr HKr
   have d2 := hcell HP.out 2 rfl
   go_upto_if 36 with fail
   go_cut [36] from 37 to 40 (fun _ wx => ∃ st5, Hid (st5 = if x = 0 then none else st4) ∧ Hid (wx.heap[R + 1]? = some (.cells #[str nm, .int .i64 prio, .int .i64 x, .int .i64 0, .string ⟨#[]⟩, .int .i64 0, .int .i64 0, .int .i64 0, .int .i64 0, .int .i64 0, .slice none 0 0, .int .i64 1, .string ⟨#[]⟩, .int .i64 0, .int .i64 0, .int .i64 0, .int .i64 0, .int .i64 0, .slice none 0 0, .int .i64 0] 42 (0, 0))) ∧ Hid (wx.heap[w.heap.size]? = some (.cells #[.string ⟨#[]⟩, .int .i64 0, .int .i64 0, .int .i64 0, .string ⟨#[]⟩, .int .i64 0, .int .i64 0, .int .i64 0, .int .i64 0, .int .i64 0, .slice none 0 0, .int .i64 0, .string ⟨#[]⟩, .int .i64 0, .int .i64 0, .int .i64 0, .int .i64 0, .int .i64 0, .slice none 0 0, .int .i64 0] 42 (0, 0))) ∧ Hid (RrAt R wx st5) ∧ Hid (Kp w wx none))
   case first =>
    by_cases hx0 : x = 0
    ·have hb : (x == 0) = true := by rw [hx0]; rfl
     have S5 : Hid ((none : Option Ru.Ws) = if x = 0 then none else st4) := Lib.hid (by rw [if_pos hx0])
     clear hx0
     obtain ⟨⟨jb, g1, hjb⟩, g2, g3, gb, g4⟩ := HRR.out.cells
     have HBAD := Lib.hid HRR.out.bad
     have ks : Kp wr (wr.setCell ⟨R, 2, none⟩ (.bool true)) (some R) := (Kp.refl _ _).set _
     have HPs := Lib.hid (res_kept HP.out ks (by intro q hq; injection hq with hq; omega))
     have HQs := Lib.hid (res_kept HQ.out ks (by intro q hq; injection hq with hq; omega))
     have HKs := Lib.hid (Kp.of_own HK.out ks (by omega))
     clear ks
     go_wp2_with fail
     go_meet
     exact ⟨none, S5, HPs, HQs, HBAD, HKs⟩
    ·have hb : (x == 0) = false := by simpa using hx0
     have S5 : Hid (st4 = if x = 0 then none else st4) := Lib.hid (by rw [if_neg hx0])
     clear hx0
     go_wp2_with fail
     go_meet
     exact ⟨st4, S5, HP, HQ, HRR, HK⟩
   case rest =>
    clear HP HQ HRR HK d2
    obtain ⟨st5, Sst5, HP, HQ, HRR, HK⟩ := hcut
    go_wp2_with fail
    obtain ⟨st6, hst6⟩ : ∃ x, ((st5).bind Ru.number).map (·.2) = x := ⟨_, rfl⟩
    have c := numberR_any R wc st5 HRR.out HRR.out.len
    have c : Calls Tryz.prog 82 #[.pointer (some ⟨R, 0, none⟩)] wc fun e w' => (∃ v : Int, e = .returned (.int .i64 v) ∧ Hid (∀ n r, (st5).bind Ru.number = some (n, r) → v = n)) ∧ Hid (RrAt R w' st6) ∧ Hid (Kp wc w' (some R)) := c.mono fun e w' ⟨⟨v, h1, h4⟩, h2, h3⟩ => ⟨⟨v, h1, Lib.hid h4⟩, Lib.hid (by rw [← hst6]; exact h2), Lib.hid h3⟩
    have Sst6 := Lib.hid hst6
    clear hst6
    refine c.mono ?_
    clear c
    rintro e x6 ⟨⟨va, rfl, Sva⟩, HRn, hkn⟩
    have HPn := Lib.hid (res_kept HP.out hkn.out (by intro q hq; injection hq with hq; omega))
    have HQn := Lib.hid (res_kept HQ.out hkn.out (by intro q hq; injection hq with hq; omega))
    have HKn := Lib.hid (Kp.of_own HK.out hkn.out (by omega))
    have hzn := hkn.out.size
    clear hkn HP HQ HK HRR
    have qc := hcell HPn.out 19 rfl
    have qf := Lib.frozen_of_heap HPn.out 19
    have ks : Kp x6 (x6.setCell ⟨R + 1, 19, none⟩ (.int .i64 va)) (some (R + 1)) := (Kp.refl _ _).set _
    have HP : Hid ((x6.setCell ⟨R + 1, 19, none⟩ (.int .i64 va)).heap[R + 1]? = some (.cells #[str nm, .int .i64 prio, .int .i64 x, .int .i64 0, .string ⟨#[]⟩, .int .i64 0, .int .i64 0, .int .i64 0, .int .i64 0, .int .i64 0, .slice none 0 0, .int .i64 1, .string ⟨#[]⟩, .int .i64 0, .int .i64 0, .int .i64 0, .int .i64 0, .int .i64 0, .slice none 0 0, .int .i64 va] 42 (0, 0))) := Lib.hid (heap_set (o := 19) (v := .int .i64 va) HPn.out)
    have HQ := Lib.hid (res_kept HQn.out ks (by intro q hq; injection hq with hq; omega))
    have HRR := Lib.hid (HRn.out.far ks (by omega))
    have HK := Lib.hid (Kp.of_own HKn.out ks (by omega))
    have hzs := ks.size
    clear ks HPn HQn HKn HRn
    go_wp2_with fail
    clear qc qf
    generalize x6.setCell ⟨R + 1, 19, none⟩ (.int .i64 va) = x6s at *
    obtain ⟨st7, hst7⟩ : ∃ x, (st6).bind (Ru.must Ru.kwWhen) = x := ⟨_, rfl⟩
    have c := mustR_any Ru.kwWhen (by decide) R x6s st6 HRR.out
    have c : Calls Tryz.prog 80 #[.pointer (some ⟨R, 0, none⟩), .string ⟨#[119, 104, 101, 110]⟩] x6s fun e w' => e = .returned (.tuple #[]) ∧ Hid (RrAt R w' st7) ∧ Hid (Kp x6s w' (some R)) := c.mono fun e w' ⟨h1, h2, h3⟩ => ⟨h1, Lib.hid (by rw [← hst7]; exact h2), Lib.hid h3⟩
    have Sst7 := Lib.hid hst7
    clear hst7
    refine c.mono ?_
    clear c
    rintro e x7 ⟨rfl, HRn, hkn⟩
    have HPn := Lib.hid (res_kept HP.out hkn.out (by intro q hq; injection hq with hq; omega))
    have HQn := Lib.hid (res_kept HQ.out hkn.out (by intro q hq; injection hq with hq; omega))
    have HKn := Lib.hid (Kp.of_own HK.out hkn.out (by omega))
    have hzn := hkn.out.size
    clear hkn HP HQ HK HRR
    have HP := HPn
    have HQ := HQn
    have HK := HKn
    have HRR := HRn
    clear HPn HQn HKn HRn
    go_wp2_with fail
    obtain ⟨Kca, hKca⟩ : ∃ x, ((st7).getD []).length = x := ⟨_, rfl⟩
    obtain ⟨st8, hst8⟩ : ∃ x, ((st7).bind (Ru.orc (Ru.fac Kca))).map (·.2) = x := ⟨_, rfl⟩
    have c := orcR_any R Kca (by rw [← hKca]; exact HRR.out.short) x7 st7 HRR.out (fun vs hvs => by rw [← hKca, hvs]; exact Nat.le_refl _)
    have c : Calls Tryz.prog 83 #[.pointer (some ⟨R, 0, none⟩)] x7 fun e w' => (∃ (ca : Ru.Cond) (a1 : Option Addr) (m1 p1 : Nat), e = .returned (.agg #[.int .i64 ca.op, str ca.text, .int .i64 ca.n, .int .i64 ca.box.x0, .int .i64 ca.box.y0, .int .i64 ca.box.x1, .int .i64 ca.box.y1, .slice a1 m1 p1]) ∧ Hid (TreeB x7.heap.size w' ca (.slice a1 m1 p1)) ∧ Hid (∀ c' r, (st7).bind (Ru.orc (Ru.fac ((st7).getD []).length)) = some (c', r) → c' = ca)) ∧ Hid (RrAt R w' st8) ∧ Hid (Kp x7 w' (some R)) := c.mono fun e w' ⟨c, a, m, p, h1, h2, h3, h4, h5⟩ => ⟨⟨c, a, m, p, h1, Lib.hid h2, Lib.hid (by rw [hKca]; exact h4)⟩, Lib.hid (by rw [← hst8]; exact h3), Lib.hid h5⟩
    have Sst8 : Hid (((st7).bind (Ru.orc (Ru.fac ((st7).getD []).length))).map (·.2) = st8) := Lib.hid (by rw [hKca]; exact hst8)
    clear hst8 hKca
    refine c.mono ?_
    clear c
    rintro e x8 ⟨⟨ca, a1, m1, p1, rfl, HTca, Sca⟩, HRn, hkn⟩
    have HPn := Lib.hid (res_kept HP.out hkn.out (by intro q hq; injection hq with hq; omega))
    have HQn := Lib.hid (res_kept HQ.out hkn.out (by intro q hq; injection hq with hq; omega))
    have HKn := Lib.hid (Kp.of_own HK.out hkn.out (by omega))
    have hzn := hkn.out.size
    have hzp : R + 1 < x7.heap.size := lt_of_block HP.out
    have HTca := Lib.hid (HTca.out.mono (T := fun b => w.heap.size ≤ b ∧ b ≠ R + 1 ∧ b ≠ w.heap.size ∧ b ≠ R) (fun b _ hb => by omega))
    clear hkn HP HQ HK HRR hzn
    go_upto_region 17 with (refine wpList_store_to (by rfl) 40 _ _ (by rfl) (R + 1) 3 _ 42 HPn.out #[.int .i64 ca.op, str ca.text, .int .i64 ca.n, .int .i64 ca.box.x0, .int .i64 ca.box.y0, .int .i64 ca.box.x1, .int .i64 ca.box.y1, .slice a1 m1 p1] (by rfl) (by rfl) info40s (by show 3 + 8 ≤ 20; omega) (by simp [Value.oneCell']) _ (put_a ..) (fun x8u hU hkU => ?_); have HP := Lib.hid hU; have HKU := Lib.hid hkU; clear hU hkU)
    have HQ := Lib.hid (res_kept HQn.out HKU.out (by intro q hq; injection hq with hq; omega))
    have HRR := Lib.hid (HRn.out.far HKU.out (by omega))
    have HK := Lib.hid (Kp.of_own HKn.out HKU.out (by omega))
    have HTca := Lib.hid (HTca.out.row HKU.out (fun r hr hs => by injection hr with hr; omega))
    clear HPn HQn HKn HRn HKU hzp
    have d2 := hcell HP.out 2 rfl
    go_upto_if 50 with fail
    go_cut [50] from 51 to 56 (fun _ wx => ∃ (cb : Ru.Cond) (a2 : Option Addr) (m2 p2 : Nat) (stE : Option Ru.Ws), Hid ((x = 1 → ∃ st9, st9 = st8.bind (Ru.must Ru.kwTo) ∧ (∀ c r, st9.bind (Ru.orc (Ru.fac (st9.getD []).length)) = some (c, r) → c = cb) ∧ stE = (st9.bind (Ru.orc (Ru.fac (st9.getD []).length))).map (·.2)) ∧ (x ≠ 1 → cb = Ru.cAny ∧ stE = st8)) ∧ Hid (wx.heap[R + 1]? = some (.cells #[str nm, .int .i64 prio, .int .i64 x, .int .i64 ca.op, str ca.text, .int .i64 ca.n, .int .i64 ca.box.x0, .int .i64 ca.box.y0, .int .i64 ca.box.x1, .int .i64 ca.box.y1, .slice a1 m1 p1, .int .i64 cb.op, str cb.text, .int .i64 cb.n, .int .i64 cb.box.x0, .int .i64 cb.box.y0, .int .i64 cb.box.x1, .int .i64 cb.box.y1, .slice a2 m2 p2, .int .i64 va] 42 (0, 0))) ∧ Hid (wx.heap[w.heap.size]? = some (.cells #[.string ⟨#[]⟩, .int .i64 0, .int .i64 0, .int .i64 0, .string ⟨#[]⟩, .int .i64 0, .int .i64 0, .int .i64 0, .int .i64 0, .int .i64 0, .slice none 0 0, .int .i64 0, .string ⟨#[]⟩, .int .i64 0, .int .i64 0, .int .i64 0, .int .i64 0, .int .i64 0, .slice none 0 0, .int .i64 0] 42 (0, 0))) ∧ Hid (RrAt R wx stE) ∧ Hid (Kp w wx none) ∧ Hid (TreeP (fun b => w.heap.size ≤ b ∧ b ≠ R + 1 ∧ b ≠ w.heap.size ∧ b ≠ R) wx ca (.slice a1 m1 p1) ∧ TreeP (fun b => w.heap.size ≤ b ∧ b ≠ R + 1 ∧ b ≠ w.heap.size ∧ b ≠ R) wx cb (.slice a2 m2 p2)))
    case first =>
     by_cases hx1 : x = 1
     ·have hb : (x == 1) = true := by rw [hx1]; rfl
      have SX := Lib.hid hx1
      clear hx1
      go_wp2_with fail
      obtain ⟨st9, hst9⟩ : ∃ x, (st8).bind (Ru.must Ru.kwTo) = x := ⟨_, rfl⟩
      have c := mustR_any Ru.kwTo (by decide) R x8u st8 HRR.out
      have c : Calls Tryz.prog 80 #[.pointer (some ⟨R, 0, none⟩), .string ⟨#[116, 111]⟩] x8u fun e w' => e = .returned (.tuple #[]) ∧ Hid (RrAt R w' st9) ∧ Hid (Kp x8u w' (some R)) := c.mono fun e w' ⟨h1, h2, h3⟩ => ⟨h1, Lib.hid (by rw [← hst9]; exact h2), Lib.hid h3⟩
      have Sst9 := Lib.hid hst9
      clear hst9
      refine c.mono ?_
      clear c
      rintro e x9 ⟨rfl, HRn, hkn⟩
      have HPn := Lib.hid (res_kept HP.out hkn.out (by intro q hq; injection hq with hq; omega))
      have HQn := Lib.hid (res_kept HQ.out hkn.out (by intro q hq; injection hq with hq; omega))
      have HKn := Lib.hid (Kp.of_own HK.out hkn.out (by omega))
      have hzn := hkn.out.size
      have HTca := Lib.hid (HTca.out.row hkn.out (fun r hr hs => by injection hr with hr; omega))
      clear hkn HP HQ HK HRR
      have HP := HPn
      have HQ := HQn
      have HK := HKn
      have HRR := HRn
      clear HPn HQn HKn HRn
      clear d2
      go_wp2_with fail
      obtain ⟨Kcb, hKcb⟩ : ∃ x, ((st9).getD []).length = x := ⟨_, rfl⟩
      obtain ⟨st10, hst10⟩ : ∃ x, ((st9).bind (Ru.orc (Ru.fac Kcb))).map (·.2) = x := ⟨_, rfl⟩
      have c := orcR_any R Kcb (by rw [← hKcb]; exact HRR.out.short) x9 st9 HRR.out (fun vs hvs => by rw [← hKcb, hvs]; exact Nat.le_refl _)
      have c : Calls Tryz.prog 83 #[.pointer (some ⟨R, 0, none⟩)] x9 fun e w' => (∃ (cb : Ru.Cond) (a2 : Option Addr) (m2 p2 : Nat), e = .returned (.agg #[.int .i64 cb.op, str cb.text, .int .i64 cb.n, .int .i64 cb.box.x0, .int .i64 cb.box.y0, .int .i64 cb.box.x1, .int .i64 cb.box.y1, .slice a2 m2 p2]) ∧ Hid (TreeB x9.heap.size w' cb (.slice a2 m2 p2)) ∧ Hid (∀ c' r, (st9).bind (Ru.orc (Ru.fac ((st9).getD []).length)) = some (c', r) → c' = cb)) ∧ Hid (RrAt R w' st10) ∧ Hid (Kp x9 w' (some R)) := c.mono fun e w' ⟨c, a, m, p, h1, h2, h3, h4, h5⟩ => ⟨⟨c, a, m, p, h1, Lib.hid h2, Lib.hid (by rw [hKcb]; exact h4)⟩, Lib.hid (by rw [← hst10]; exact h3), Lib.hid h5⟩
      have Sst10 : Hid (((st9).bind (Ru.orc (Ru.fac ((st9).getD []).length))).map (·.2) = st10) := Lib.hid (by rw [hKcb]; exact hst10)
      clear hst10 hKcb
      refine c.mono ?_
      clear c
      rintro e x10 ⟨⟨cb, a2, m2, p2, rfl, HTcb, Scb⟩, HRn, hkn⟩
      have HPn := Lib.hid (res_kept HP.out hkn.out (by intro q hq; injection hq with hq; omega))
      have HQn := Lib.hid (res_kept HQ.out hkn.out (by intro q hq; injection hq with hq; omega))
      have HKn := Lib.hid (Kp.of_own HK.out hkn.out (by omega))
      have hzn := hkn.out.size
      have hzp : R + 1 < x9.heap.size := lt_of_block HP.out
      have HTcb := Lib.hid (HTcb.out.mono (T := fun b => w.heap.size ≤ b ∧ b ≠ R + 1 ∧ b ≠ w.heap.size ∧ b ≠ R) (fun b _ hb => by omega))
      have HTca := Lib.hid (HTca.out.row hkn.out (fun r hr hs => by injection hr with hr; omega))
      clear hkn HP HQ HK HRR hzn
      go_wp2_with (refine wpList_store_to (by rfl) 40 _ _ (by rfl) (R + 1) 11 _ 42 HPn.out #[.int .i64 cb.op, str cb.text, .int .i64 cb.n, .int .i64 cb.box.x0, .int .i64 cb.box.y0, .int .i64 cb.box.x1, .int .i64 cb.box.y1, .slice a2 m2 p2] (by rfl) (by rfl) info40s (by show 11 + 8 ≤ 20; omega) (by simp [Value.oneCell']) _ (put_b ..) (fun x10u hU hkU => ?_); have HP := Lib.hid hU; have HKU := Lib.hid hkU; clear hU hkU)
      have HQ := Lib.hid (res_kept HQn.out HKU.out (by intro q hq; injection hq with hq; omega))
      have HRR := Lib.hid (HRn.out.far HKU.out (by omega))
      have HK := Lib.hid (Kp.of_own HKn.out HKU.out (by omega))
      have HTcb := Lib.hid (HTcb.out.row HKU.out (fun r hr hs => by injection hr with hr; omega))
      have HTca := Lib.hid (HTca.out.row HKU.out (fun r hr hs => by injection hr with hr; omega))
      clear HPn HQn HKn HRn HKU hzp
      go_meet
      exact ⟨cb, a2, m2, p2, st10, Lib.hid ⟨fun _ => ⟨st9, Sst9.out.symm, Scb.out, Sst10.out.symm⟩, fun h => absurd SX.out h⟩, HP, HQ, HRR, HK, Lib.hid ⟨HTca.out, HTcb.out⟩⟩
     ·have hb : (x == 1) = false := by simpa using hx1
      have SX := Lib.hid hx1
      clear hx1
      go_wp2_with fail
      go_meet
      exact ⟨Ru.cAny, none, 0, 0, st8, Lib.hid ⟨fun h => absurd h SX.out, fun _ => ⟨rfl, rfl⟩⟩, HP, HQ, HRR, HK, Lib.hid ⟨HTca.out, TreeP.leaf rfl⟩⟩
    case rest =>
     clear HP HQ HRR HK d2 HTca
     obtain ⟨cb, a2, m2, p2, stE, SE, HP, HQ, HRR, HK, HTT⟩ := hcut
     have HFIN : Hid (Ru.line s = if stE = some [] then some ⟨nm, prio, x, va, ca, cb⟩ else none) := Lib.hid (by
      have h := lineW_chain (ws := ws) (nm := nm) (wh := wh) (prio := prio) (v := va) (a := ca) (b := cb) (st1 := st1) (st2 := st2) (st3 := st3) (st4 := st4) (st5 := st5) (st6 := st6) (st7 := st7) (st8 := st8) (stE := stE) Sst1.out.symm Snm.out.symm Sst2.out.symm (fun n r h => Sprio.out n r h) Sst3.out.symm Swh.out.symm Sst4.out.symm (by rw [SWO.out]; exact Sst5.out) (fun n r h => Sva.out n r h) Sst6.out.symm Sst7.out.symm (fun c r h => Sca.out c r h) Sst8.out.symm (by rw [SWO.out]; exact SE.out)
      rw [HLI.out, h, SWO.out])
     obtain ⟨ao', n', cap', k', all, h1, h2, ⟨h3, _⟩, h4, h5, h6, h7⟩ := HRR.out
     have H1 := Lib.hid h1
     have hk0 : (0 : Int) ≤ (k' : Int) := by omega
     have hn0 : (0 : Int) ≤ (n' : Int) := by omega
     have hTTa := Lib.hid HTT.out.1
     have hTTb := Lib.hid HTT.out.2
     cases stE with
     | none =>
      have HFIN2 : Hid (Ru.line s = none) := Lib.hid (by rw [HFIN.out, if_neg (by simp)])
      have H1 : Hid (wc.heap[R]? = some (.cells #[.slice ao' n' cap', .int .i64 (k' : Int), .bool true] 126 (0, 0))) := H1
      clear h1 h2 h4 h5 h6 h7 HRR SE HFIN
      go_upto_region 20 with fail
      rename_i KK aKK
      have kD : Kp wc wc.drew none := (Kp.refl _ _).drew
      have HQD := Lib.hid (res_kept HQ.out kD (by simp))
      have HKD := Lib.hid (HK.out.trans kD)
      have HTa := Lib.hid (hTTa.out.keep kD)
      have HTb := Lib.hid (hTTb.out.keep kD)
      refine wp_region_held_drew (S := fun V => V.cell? ⟨R, 0, none⟩ = some (.slice ao' n' cap') ∧ V.cell? ⟨R, 1, none⟩ = some (.int .i64 (k' : Int)) ∧ V.cell? ⟨R, 2, none⟩ = some (.bool true) ∧ V.rangeAt (R + 1) 0 #[str nm, .int .i64 prio, .int .i64 x, .int .i64 ca.op, str ca.text, .int .i64 ca.n, .int .i64 ca.box.x0, .int .i64 ca.box.y0, .int .i64 ca.box.x1, .int .i64 ca.box.y1, .slice a1 m1 p1, .int .i64 cb.op, str cb.text, .int .i64 cb.n, .int .i64 cb.box.x0, .int .i64 cb.box.y0, .int .i64 cb.box.x1, .int .i64 cb.box.y1, .slice a2 m2 p2, .int .i64 va].toList ∧ Hid (V.heap[R]? = some (.cells #[.slice ao' n' cap', .int .i64 (k' : Int), .bool true] 126 (0, 0)) ∧ V.heap[R + 1]? = some (.cells #[str nm, .int .i64 prio, .int .i64 x, .int .i64 ca.op, str ca.text, .int .i64 ca.n, .int .i64 ca.box.x0, .int .i64 ca.box.y0, .int .i64 ca.box.x1, .int .i64 ca.box.y1, .slice a1 m1 p1, .int .i64 cb.op, str cb.text, .int .i64 cb.n, .int .i64 cb.box.x0, .int .i64 cb.box.y0, .int .i64 cb.box.x1, .int .i64 cb.box.y1, .slice a2 m2 p2, .int .i64 va] 42 (0, 0)))) (by kernel_rfl) ⟨ckr H1.out kD (by simp) 0 rfl, ckr H1.out kD (by simp) 1 rfl, ckr H1.out kD (by simp) 2 rfl, range_blk (res_kept HP.out kD (by simp)), Lib.hid ⟨res_kept H1.out kD (by simp), res_kept HP.out kD (by simp)⟩⟩ (fun hHeld => ?_)
      clear kD
      generalize wc.drew = v0 at *
      refine wpAnyH_take (i := 0) rfl (by kernel_rfl) (by kernel_rfl) (by kernel_rfl) (fun _ _ _ h => h) (yieldsIf_load_mid (by rfl) _ _ rfl (R + 1) 0 rfl #[str nm, .int .i64 prio, .int .i64 x, .int .i64 ca.op, str ca.text, .int .i64 ca.n, .int .i64 ca.box.x0, .int .i64 ca.box.y0, .int .i64 ca.box.x1, .int .i64 ca.box.y1, .slice a1 m1 p1, .int .i64 cb.op, str cb.text, .int .i64 cb.n, .int .i64 cb.box.x0, .int .i64 cb.box.y0, .int .i64 cb.box.x1, .int .i64 cb.box.y1, .slice a2 m2 p2, .int .i64 va].toList _ (fun _ h => h.2.2.2.1) Tryz.underlying42 rfl info42) (by assumption) ?_
      try simp only [Act.put, sm]
      refine tkH 1 rfl ?_
      try simp only [Act.put, sm]
      refine tkH 2 rfl ?_
      try simp only [Act.put, sm]
      refine tkH 3 rfl ?_
      try simp only [Act.put, sm]
      refine tkH 4 rfl ?_
      try simp only [Act.put, sm]
      refine tkH 5 rfl ?_
      try simp only [Act.put, sm]
      refine tkH 6 rfl ?_
      try simp only [Act.put, sm]
      refine tkU 7 rfl ?_
      try simp only [Act.put, sm]
      refine tkU 8 rfl ?_
      try simp only [Act.put, sm]
      refine tkU 9 rfl ?_
      try simp only [Act.put, sm]
      refine tkU 10 rfl ?_
      try simp only [Act.put, sm]
      refine tkU 11 rfl ?_
      try simp only [Act.put, sm]
      refine tkU 12 rfl ?_
      try simp only [Act.put, sm]
      refine tkU 13 rfl ?_
      try simp only [Act.put, sm]
      refine tkU 14 rfl ?_
      try simp only [Act.put, sm]
      refine tkU 15 rfl ?_
      try simp only [Act.put, sm]
      refine tkU 16 rfl ?_
      try simp only [Act.put, sm]
      refine tkH 17 rfl ?_
      try simp only [Act.put, sm]
      refine wpAnyH_ready (rs := [18]) (by kernel_rfl) (by simp) ?_
      refine AllReadyH.cons (o := _) rfl (fun K hK => ?_) AllReadyH.nil
      refine Eq.mpr (if_pos (by rfl)) ?_
      refine wp_store_blk 42 _ _ rfl w.heap.size _ 42 HQD.out #[str nm, .int .i64 prio, .int .i64 x, .int .i64 ca.op, str ca.text, .int .i64 ca.n, .int .i64 ca.box.x0, .int .i64 ca.box.y0, .int .i64 ca.box.x1, .int .i64 ca.box.y1, .slice a1 m1 p1, .int .i64 cb.op, str cb.text, .int .i64 cb.n, .int .i64 cb.box.x0, .int .i64 cb.box.y0, .int .i64 cb.box.x1, .int .i64 cb.box.y1, .slice a2 m2 p2, .int .i64 va] rfl rfl info42 rfl (by simp [Value.oneCell']) (fun V hV hkV => ?_)
      obtain ⟨_, _, _, _, hY⟩ := hHeld
      have HV := Lib.hid hV
      have HKV := Lib.hid hkV
      refine hK.out _ _ ⟨ckr hY.out.1 hkV (by intro h; injection h with h; omega) 0 rfl, ckr hY.out.1 hkV (by intro h; injection h with h; omega) 1 rfl, ckr hY.out.1 hkV (by intro h; injection h with h; omega) 2 rfl, range_blk (res_kept hY.out.2 hkV (by intro q hq; injection hq with hq; omega)), Lib.hid ⟨res_kept hY.out.1 hkV (by intro q hq; injection hq with hq; omega), res_kept hY.out.2 hkV (by intro q hq; injection hq with hq; omega)⟩⟩ (fun hHeld => ?_)
      clear hK K hV hkV hY
      try simp only [Act.put, sm]
      refine tkH 19 rfl ?_
      try simp only [Act.put, sm]
      refine wpAnyH_done (by kernel_rfl) ?_ _
      refine aKK _ _ (wp_ret ?_)
      refine bodyPost_ret (fn := Tryz.f53) (results_row_tmp (fn := Tryz.f53) (p := 2) (u := 3) (by rfl) _ V w.heap.size #[str nm, .int .i64 prio, .int .i64 x, .int .i64 ca.op, str ca.text, .int .i64 ca.n, .int .i64 ca.box.x0, .int .i64 ca.box.y0, .int .i64 ca.box.x1, .int .i64 ca.box.y1, .slice a1 m1 p1, .int .i64 cb.op, str cb.text, .int .i64 cb.n, .int .i64 cb.box.x0, .int .i64 cb.box.y0, .int .i64 cb.box.x1, .int .i64 cb.box.y1, .slice a2 m2 p2, .int .i64 va] (by rfl) HV.out info42) (by rfl) ?_
      exact ⟨⟨nm, prio, x, va, ca, cb⟩, a1, m1, p1, a2, m2, p2, by rw [HFIN2.out]; rfl, (HTa.out.row HKV.out (fun r hr hs => by injection hr with hr; omega)).mono (fun b _ hb => hb.1), (HTb.out.row HKV.out (fun r hr hs => by injection hr with hr; omega)).mono (fun b _ hb => hb.1), fun r hr => (by rw [HFIN2.out] at hr; cases hr), Kp.of_own HKD.out HKV.out (Nat.le_refl _)⟩
     | some vs =>
      have H1 : Hid (wc.heap[R]? = some (.cells #[.slice ao' n' cap', .int .i64 (k' : Int), .bool false] 126 (0, 0))) := H1
      have hv := h7 vs rfl
      by_cases hkn : k' = n'
      ·have hb : ((k' : Int) == (n' : Int)) = true := by rw [hkn]; simp
       have hv0 : vs = [] := by rw [hv]; exact List.drop_of_length_le (by omega)
       have HFIN2 : Hid (Ru.line s = some ⟨nm, prio, x, va, ca, cb⟩) := Lib.hid (by rw [HFIN.out, hv0, if_pos rfl])
       clear h1 h2 h4 h5 h6 h7 HRR SE HFIN hv hv0 hkn
       go_upto_region 20 with fail
       rename_i KK aKK
       have kD : Kp wc wc.drew none := (Kp.refl _ _).drew
       have HQD := Lib.hid (res_kept HQ.out kD (by simp))
       have HKD := Lib.hid (HK.out.trans kD)
       have HTa := Lib.hid (hTTa.out.keep kD)
       have HTb := Lib.hid (hTTb.out.keep kD)
       refine wp_region_held_drew (S := fun V => V.cell? ⟨R, 0, none⟩ = some (.slice ao' n' cap') ∧ V.cell? ⟨R, 1, none⟩ = some (.int .i64 (k' : Int)) ∧ V.cell? ⟨R, 2, none⟩ = some (.bool false) ∧ V.rangeAt (R + 1) 0 #[str nm, .int .i64 prio, .int .i64 x, .int .i64 ca.op, str ca.text, .int .i64 ca.n, .int .i64 ca.box.x0, .int .i64 ca.box.y0, .int .i64 ca.box.x1, .int .i64 ca.box.y1, .slice a1 m1 p1, .int .i64 cb.op, str cb.text, .int .i64 cb.n, .int .i64 cb.box.x0, .int .i64 cb.box.y0, .int .i64 cb.box.x1, .int .i64 cb.box.y1, .slice a2 m2 p2, .int .i64 va].toList ∧ Hid (V.heap[R]? = some (.cells #[.slice ao' n' cap', .int .i64 (k' : Int), .bool false] 126 (0, 0)) ∧ V.heap[R + 1]? = some (.cells #[str nm, .int .i64 prio, .int .i64 x, .int .i64 ca.op, str ca.text, .int .i64 ca.n, .int .i64 ca.box.x0, .int .i64 ca.box.y0, .int .i64 ca.box.x1, .int .i64 ca.box.y1, .slice a1 m1 p1, .int .i64 cb.op, str cb.text, .int .i64 cb.n, .int .i64 cb.box.x0, .int .i64 cb.box.y0, .int .i64 cb.box.x1, .int .i64 cb.box.y1, .slice a2 m2 p2, .int .i64 va] 42 (0, 0)))) (by kernel_rfl) ⟨ckr H1.out kD (by simp) 0 rfl, ckr H1.out kD (by simp) 1 rfl, ckr H1.out kD (by simp) 2 rfl, range_blk (res_kept HP.out kD (by simp)), Lib.hid ⟨res_kept H1.out kD (by simp), res_kept HP.out kD (by simp)⟩⟩ (fun hHeld => ?_)
       clear kD
       generalize wc.drew = v0 at *
       refine wpAnyH_take (i := 0) rfl (by kernel_rfl) (by kernel_rfl) (by kernel_rfl) (fun _ _ _ h => h) (yieldsIf_load_mid (by rfl) _ _ rfl (R + 1) 0 rfl #[str nm, .int .i64 prio, .int .i64 x, .int .i64 ca.op, str ca.text, .int .i64 ca.n, .int .i64 ca.box.x0, .int .i64 ca.box.y0, .int .i64 ca.box.x1, .int .i64 ca.box.y1, .slice a1 m1 p1, .int .i64 cb.op, str cb.text, .int .i64 cb.n, .int .i64 cb.box.x0, .int .i64 cb.box.y0, .int .i64 cb.box.x1, .int .i64 cb.box.y1, .slice a2 m2 p2, .int .i64 va].toList _ (fun _ h => h.2.2.2.1) Tryz.underlying42 rfl info42) (by assumption) ?_
       try simp only [Act.put, sm]
       refine tkH 1 rfl ?_
       try simp only [Act.put, sm]
       refine tkH 2 rfl ?_
       try simp only [Act.put, sm]
       refine tkH 3 rfl ?_
       try simp only [Act.put, sm]
       refine tkH 4 rfl ?_
       try simp only [Act.put, sm]
       refine tkH 5 rfl ?_
       try simp only [Act.put, sm]
       refine tkH 6 rfl ?_
       try simp only [Act.put, sm]
       refine tkH 7 rfl ?_
       try simp only [Act.put, sm]
       refine tkH 8 rfl ?_
       try simp only [Act.put, sm]
       refine tkH 9 rfl ?_
       try simp only [Act.put, sm]
       refine tkH 10 rfl ?_
       try simp only [Act.put, sm]
       refine tkH 11 rfl ?_
       try simp only [Act.put, sm]
       refine tkH 12 rfl ?_
       try simp only [Act.put, sm]
       refine tkH 13 rfl ?_
       try simp only [Act.put, sm]
       refine tkH 14 rfl ?_
       try simp only [Act.put, sm]
       refine tkH 15 rfl ?_
       try simp only [Act.put, sm]
       refine tkH 16 rfl ?_
       try simp only [Act.put, sm]
       refine tkH 17 rfl ?_
       try simp only [Act.put, sm]
       refine wpAnyH_ready (rs := [18]) (by kernel_rfl) (by simp) ?_
       refine AllReadyH.cons (o := _) rfl (fun K hK => ?_) AllReadyH.nil
       refine Eq.mpr (if_pos (by rfl)) ?_
       refine wp_store_blk 42 _ _ rfl w.heap.size _ 42 HQD.out #[str nm, .int .i64 prio, .int .i64 x, .int .i64 ca.op, str ca.text, .int .i64 ca.n, .int .i64 ca.box.x0, .int .i64 ca.box.y0, .int .i64 ca.box.x1, .int .i64 ca.box.y1, .slice a1 m1 p1, .int .i64 cb.op, str cb.text, .int .i64 cb.n, .int .i64 cb.box.x0, .int .i64 cb.box.y0, .int .i64 cb.box.x1, .int .i64 cb.box.y1, .slice a2 m2 p2, .int .i64 va] rfl rfl info42 rfl (by simp [Value.oneCell']) (fun V hV hkV => ?_)
       obtain ⟨_, _, _, _, hY⟩ := hHeld
       have HV := Lib.hid hV
       have HKV := Lib.hid hkV
       refine hK.out _ _ ⟨ckr hY.out.1 hkV (by intro h; injection h with h; omega) 0 rfl, ckr hY.out.1 hkV (by intro h; injection h with h; omega) 1 rfl, ckr hY.out.1 hkV (by intro h; injection h with h; omega) 2 rfl, range_blk (res_kept hY.out.2 hkV (by intro q hq; injection hq with hq; omega)), Lib.hid ⟨res_kept hY.out.1 hkV (by intro q hq; injection hq with hq; omega), res_kept hY.out.2 hkV (by intro q hq; injection hq with hq; omega)⟩⟩ (fun hHeld => ?_)
       clear hK K hV hkV hY
       try simp only [Act.put, sm]
       refine tkH 19 rfl ?_
       try simp only [Act.put, sm]
       refine wpAnyH_done (by kernel_rfl) ?_ _
       refine aKK _ _ (wp_ret ?_)
       refine bodyPost_ret (fn := Tryz.f53) (results_row_tmp (fn := Tryz.f53) (p := 2) (u := 3) (by rfl) _ V w.heap.size #[str nm, .int .i64 prio, .int .i64 x, .int .i64 ca.op, str ca.text, .int .i64 ca.n, .int .i64 ca.box.x0, .int .i64 ca.box.y0, .int .i64 ca.box.x1, .int .i64 ca.box.y1, .slice a1 m1 p1, .int .i64 cb.op, str cb.text, .int .i64 cb.n, .int .i64 cb.box.x0, .int .i64 cb.box.y0, .int .i64 cb.box.x1, .int .i64 cb.box.y1, .slice a2 m2 p2, .int .i64 va] (by rfl) HV.out info42) (by rfl) ?_
       exact ⟨⟨nm, prio, x, va, ca, cb⟩, a1, m1, p1, a2, m2, p2, by rw [HFIN2.out]; rfl, (HTa.out.row HKV.out (fun r hr hs => by injection hr with hr; omega)).mono (fun b _ hb => hb.1), (HTb.out.row HKV.out (fun r hr hs => by injection hr with hr; omega)).mono (fun b _ hb => hb.1), fun r hr => (by rw [HFIN2.out] at hr; injection hr with hr; exact hr.symm), Kp.of_own HKD.out HKV.out (Nat.le_refl _)⟩
      ·have hb : ((k' : Int) == (n' : Int)) = false := by simp; omega
       have hv0 : vs ≠ [] := fun h => by
        rw [h] at hv
        have := congrArg List.length hv
        rw [List.length_drop] at this
        simp at this; omega
       have HFIN2 : Hid (Ru.line s = none) := Lib.hid (by rw [HFIN.out, if_neg (fun h => hv0 (by injection h))])
       clear h1 h2 h4 h5 h6 h7 HRR SE HFIN hv hv0 hkn
       go_upto_region 20 with fail
       rename_i KK aKK
       have kD : Kp wc wc.drew none := (Kp.refl _ _).drew
       have HQD := Lib.hid (res_kept HQ.out kD (by simp))
       have HKD := Lib.hid (HK.out.trans kD)
       have HTa := Lib.hid (hTTa.out.keep kD)
       have HTb := Lib.hid (hTTb.out.keep kD)
       refine wp_region_held_drew (S := fun V => V.cell? ⟨R, 0, none⟩ = some (.slice ao' n' cap') ∧ V.cell? ⟨R, 1, none⟩ = some (.int .i64 (k' : Int)) ∧ V.cell? ⟨R, 2, none⟩ = some (.bool false) ∧ V.rangeAt (R + 1) 0 #[str nm, .int .i64 prio, .int .i64 x, .int .i64 ca.op, str ca.text, .int .i64 ca.n, .int .i64 ca.box.x0, .int .i64 ca.box.y0, .int .i64 ca.box.x1, .int .i64 ca.box.y1, .slice a1 m1 p1, .int .i64 cb.op, str cb.text, .int .i64 cb.n, .int .i64 cb.box.x0, .int .i64 cb.box.y0, .int .i64 cb.box.x1, .int .i64 cb.box.y1, .slice a2 m2 p2, .int .i64 va].toList ∧ Hid (V.heap[R]? = some (.cells #[.slice ao' n' cap', .int .i64 (k' : Int), .bool false] 126 (0, 0)) ∧ V.heap[R + 1]? = some (.cells #[str nm, .int .i64 prio, .int .i64 x, .int .i64 ca.op, str ca.text, .int .i64 ca.n, .int .i64 ca.box.x0, .int .i64 ca.box.y0, .int .i64 ca.box.x1, .int .i64 ca.box.y1, .slice a1 m1 p1, .int .i64 cb.op, str cb.text, .int .i64 cb.n, .int .i64 cb.box.x0, .int .i64 cb.box.y0, .int .i64 cb.box.x1, .int .i64 cb.box.y1, .slice a2 m2 p2, .int .i64 va] 42 (0, 0)))) (by kernel_rfl) ⟨ckr H1.out kD (by simp) 0 rfl, ckr H1.out kD (by simp) 1 rfl, ckr H1.out kD (by simp) 2 rfl, range_blk (res_kept HP.out kD (by simp)), Lib.hid ⟨res_kept H1.out kD (by simp), res_kept HP.out kD (by simp)⟩⟩ (fun hHeld => ?_)
       clear kD
       generalize wc.drew = v0 at *
       refine wpAnyH_take (i := 0) rfl (by kernel_rfl) (by kernel_rfl) (by kernel_rfl) (fun _ _ _ h => h) (yieldsIf_load_mid (by rfl) _ _ rfl (R + 1) 0 rfl #[str nm, .int .i64 prio, .int .i64 x, .int .i64 ca.op, str ca.text, .int .i64 ca.n, .int .i64 ca.box.x0, .int .i64 ca.box.y0, .int .i64 ca.box.x1, .int .i64 ca.box.y1, .slice a1 m1 p1, .int .i64 cb.op, str cb.text, .int .i64 cb.n, .int .i64 cb.box.x0, .int .i64 cb.box.y0, .int .i64 cb.box.x1, .int .i64 cb.box.y1, .slice a2 m2 p2, .int .i64 va].toList _ (fun _ h => h.2.2.2.1) Tryz.underlying42 rfl info42) (by assumption) ?_
       try simp only [Act.put, sm]
       refine tkH 1 rfl ?_
       try simp only [Act.put, sm]
       refine tkH 2 rfl ?_
       try simp only [Act.put, sm]
       refine tkH 3 rfl ?_
       try simp only [Act.put, sm]
       refine tkH 4 rfl ?_
       try simp only [Act.put, sm]
       refine tkH 5 rfl ?_
       try simp only [Act.put, sm]
       refine tkH 6 rfl ?_
       try simp only [Act.put, sm]
       refine tkH 7 rfl ?_
       try simp only [Act.put, sm]
       refine tkH 8 rfl ?_
       try simp only [Act.put, sm]
       refine tkH 9 rfl ?_
       try simp only [Act.put, sm]
       refine tkH 10 rfl ?_
       try simp only [Act.put, sm]
       refine tkH 11 rfl ?_
       try simp only [Act.put, sm]
       refine tkH 12 rfl ?_
       try simp only [Act.put, sm]
       refine tkH 13 rfl ?_
       try simp only [Act.put, sm]
       refine tkH 14 rfl ?_
       try simp only [Act.put, sm]
       refine tkH 15 rfl ?_
       try simp only [Act.put, sm]
       refine tkH 16 rfl ?_
       try simp only [Act.put, sm]
       refine tkH 17 rfl ?_
       try simp only [Act.put, sm]
       refine wpAnyH_ready (rs := [18]) (by kernel_rfl) (by simp) ?_
       refine AllReadyH.cons (o := _) rfl (fun K hK => ?_) AllReadyH.nil
       refine Eq.mpr (if_pos (by rfl)) ?_
       refine wp_store_blk 42 _ _ rfl w.heap.size _ 42 HQD.out #[str nm, .int .i64 prio, .int .i64 x, .int .i64 ca.op, str ca.text, .int .i64 ca.n, .int .i64 ca.box.x0, .int .i64 ca.box.y0, .int .i64 ca.box.x1, .int .i64 ca.box.y1, .slice a1 m1 p1, .int .i64 cb.op, str cb.text, .int .i64 cb.n, .int .i64 cb.box.x0, .int .i64 cb.box.y0, .int .i64 cb.box.x1, .int .i64 cb.box.y1, .slice a2 m2 p2, .int .i64 va] rfl rfl info42 rfl (by simp [Value.oneCell']) (fun V hV hkV => ?_)
       obtain ⟨_, _, _, _, hY⟩ := hHeld
       have HV := Lib.hid hV
       have HKV := Lib.hid hkV
       refine hK.out _ _ ⟨ckr hY.out.1 hkV (by intro h; injection h with h; omega) 0 rfl, ckr hY.out.1 hkV (by intro h; injection h with h; omega) 1 rfl, ckr hY.out.1 hkV (by intro h; injection h with h; omega) 2 rfl, range_blk (res_kept hY.out.2 hkV (by intro q hq; injection hq with hq; omega)), Lib.hid ⟨res_kept hY.out.1 hkV (by intro q hq; injection hq with hq; omega), res_kept hY.out.2 hkV (by intro q hq; injection hq with hq; omega)⟩⟩ (fun hHeld => ?_)
       clear hK K hV hkV hY
       try simp only [Act.put, sm]
       refine tkH 19 rfl ?_
       try simp only [Act.put, sm]
       refine wpAnyH_done (by kernel_rfl) ?_ _
       refine aKK _ _ (wp_ret ?_)
       refine bodyPost_ret (fn := Tryz.f53) (results_row_tmp (fn := Tryz.f53) (p := 2) (u := 3) (by rfl) _ V w.heap.size #[str nm, .int .i64 prio, .int .i64 x, .int .i64 ca.op, str ca.text, .int .i64 ca.n, .int .i64 ca.box.x0, .int .i64 ca.box.y0, .int .i64 ca.box.x1, .int .i64 ca.box.y1, .slice a1 m1 p1, .int .i64 cb.op, str cb.text, .int .i64 cb.n, .int .i64 cb.box.x0, .int .i64 cb.box.y0, .int .i64 cb.box.x1, .int .i64 cb.box.y1, .slice a2 m2 p2, .int .i64 va] (by rfl) HV.out info42) (by rfl) ?_
       exact ⟨⟨nm, prio, x, va, ca, cb⟩, a1, m1, p1, a2, m2, p2, by rw [HFIN2.out]; rfl, (HTa.out.row HKV.out (fun r hr hs => by injection hr with hr; omega)).mono (fun b _ hb => hb.1), (HTb.out.row HKV.out (fun r hr hs => by injection hr with hr; omega)).mono (fun b _ hb => hb.1), fun r hr => (by rw [HFIN2.out] at hr; cases hr), Kp.of_own HKD.out HKV.out (Nat.le_refl _)⟩
end Go.Proofs.YtnchipahdfbliaaGreatDoor
