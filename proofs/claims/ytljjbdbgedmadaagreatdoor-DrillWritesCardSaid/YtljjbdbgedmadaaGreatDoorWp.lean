/- A path as the program writes it. Conditions: valid edges, at least one, at most 40; what is written takes at most 2^47 bytes. -/
import Derived.Test.YtljjbdbgedmadaaGreatDoorWb
import Derived.Test.YtljjbdbgedmadaaGreatDoorPt
import Derived.Test.YtljjbdbgedmadaaGreatDoorBase
set_option maxHeartbeats 8000000
set_option maxRecDepth 100000
namespace Go.Proofs.YtljjbdbgedmadaaGreatDoor
open Go.RowKit Go.Lib
theorem etake_le (es : List Pl.Ed) (h : ∀ e ∈ es, Pl.chkE e = 0) (k : Nat) : ((es.take k).flatMap Dl.edgeLn).length ≤ 48 * es.length := by
 have h1 := Dl.edges_len (l := es.take k) (fun e he => h e (List.mem_of_mem_take he))
 have h2 : (es.take k).length ≤ es.length := by rw [List.length_take]; omega
 omega
theorem eln_step (es : List Pl.Ed) (k : Nat) (h : k < es.length) : (es.take (k + 1)).flatMap Dl.edgeLn = (es.take k).flatMap Dl.edgeLn ++ Dl.edgeLn es[k] := by
 rw [List.take_succ_eq_append_getElem h, List.flatMap_append]; simp
def PtRel (b : Nat) (l : List UInt8) (es : List Pl.Ed) (W w : World) (i : Value) (wr : World) : Prop :=
 ∃ k : Nat, k ≤ es.length ∧ i = I6 k ∧ Wr W.heap.size b (l ++ (es.take k).flatMap Dl.edgeLn) wr ∧ Kw b w wr ∧ Kp W wr none
theorem pathT_lone {s : Pl.Sh} {e : Pl.Ed} (h : s.es = [e]) (h1 : e.k = 1) (h2 : e.a = e.b) : Dl.pathT s = Dl.ln (Pl.pnt 88 e.a 89) := by
 unfold Dl.pathT; rw [h]; simp [h1, h2]
theorem pathT_slot {s : Pl.Sh} {f : Pl.Ed} (hf : s.es[0]? = some f) (hn : ¬ (s.es.length = 1 ∧ f.k = 1 ∧ f.a = f.b)) : Dl.pathT s = Dl.ln (([71, 48, 48] : List UInt8) ++ Pl.pnt 88 f.a 89) ++ Dl.ln Dl.kM15 ++ s.es.flatMap Dl.edgeLn ++ Dl.ln Dl.kM16 := by
 obtain ⟨k, es, r⟩ := s
 cases es with
 | nil => simp at hf
 | cons e r =>
  have hf : e = f := by simpa using hf
  subst hf; unfold Dl.pathT
  dsimp only at hn ⊢
  rw [if_neg]; rintro ⟨rfl, h1, h2⟩; exact hn ⟨rfl, h1, h2⟩
theorem path_lone (b : Nat) (l : List UInt8) (sk sr : Int) (ax ay cx cy : Int) (ao : Option Addr) (cap : Nat) (W w : World) (h : Wr W.heap.size b l w) (hK : Kp W w none) (he : Env w) (h8 : 8 ≤ W.heap.size) (hes : LiesAt 7 edC W ao cap [⟨1, ⟨ax, ay⟩, ⟨ax, ay⟩, ⟨cx, cy⟩⟩]) (hm1 : Mid ax) (hm2 : Mid ay) (hlen : l.length ≤ 140737488300000) :
  Calls Tryz.prog 48 #[.pointer (some ⟨b, 0, none⟩), .agg #[I6 sk, .slice ao 1 cap, I6 sr]] w fun e w' => e = .returned (.tuple #[]) ∧ Wr W.heap.size b (l ++ Dl.ln (Pl.pnt 88 ⟨ax, ay⟩ 89)) w' ∧ Kw b w w' := by
 have H0 := oh h; have HK0 := oh hK; obtain ⟨bo, off, rfl, hcap, hbo, hcells⟩ := hes.ed (k := 0) (by simp)
 have hc0 := hcells _ (hK.trans ((Kp.refl w none).alloc (.cells #[I6 sk, .slice (some ⟨bo, off, none⟩) 1 cap, I6 sr] 50)))
 simp only [List.length_cons, List.length_nil, Nat.zero_add] at hcap
 simp only [Nat.zero_mul, Nat.add_zero, List.getElem_cons_zero] at hc0
 obtain ⟨z0, z1, z2, z3, z4, z5, z6⟩ := hc0
 have hq1 : (ax == ax) = true := by simp
 have hq2 : (ay == ay) = true := by simp
 have k1 : Kp w ((w.alloc (.cells #[I6 sk, .slice (some ⟨bo, off, none⟩) 1 cap, I6 sr] 50)).alloc (.cells #[I6 1, I6 ax, I6 ay, I6 ax, I6 ay, I6 cx, I6 cy] 123)) none := ((Kp.refl w none).alloc _).alloc _
 have K1 := oh k1; have HEX := oh (he.kp0 k1)
 have HPL := oh (pnt_length 88 ⟨ax, ay⟩ 89 hm1 hm2)
 have HM := oh (show Mid ax ∧ Mid ay from ⟨hm1, hm2⟩)
 have HB2 := oh (heap_alloc_new (w.alloc (.cells #[I6 sk, .slice (some ⟨bo, off, none⟩) 1 cap, I6 sr] 50)) (.cells #[I6 1, I6 ax, I6 ay, I6 ax, I6 ay, I6 cx, I6 cy] 123))
 have hsz : (w.alloc (.cells #[I6 sk, .slice (some ⟨bo, off, none⟩) 1 cap, I6 sr] 50)).heap.size = w.heap.size + 1 := by simp
 rw [hsz] at HB2; clear h hK he hes hcells hm1 hm2 k1 hsz; go_enter Tryz.func48, Tryz.ntmps48
 go_upto_region 3 with fail
 clear z0 z1 z2 z3 z4 z5 z6 hq1 hq2
 generalize (w.alloc (.cells #[I6 sk, .slice (some ⟨bo, off, none⟩) 1 cap, I6 sr] 50)).alloc (.cells #[I6 1, I6 ax, I6 ay, I6 ax, I6 ay, I6 cx, I6 cy] 123) = X at *
 have x1 := hcell HB2.out 1 rfl
 have x2 := hcell HB2.out 2 rfl
 go_wp2_with fail
 refine (wline_at HEX.out (H0.out.kp K1.out) h8 [.s [88], .n ax, .s [89], .n ay] _ _ _ rfl rfl rfl (by simp) (by simp [partOk]; exact HM.out) (Dl.ln (Pl.pnt 88 ⟨ax, ay⟩ 89)) (by simp [Pl.pnt, partT]) (by have := HPL.out; unfold Dl.ln; rw [List.length_append]; simp only [List.length_cons, List.length_nil]; omega) (Nat.le_trans HK0.out.size K1.out.size)).mono ?_
 rintro e w2 ⟨rfl, h2, k2⟩; have H2 := oh h2; have K2 := oh ((Kw.of_kp K1.out H0.out.lt).trans k2)
 clear h2 k2; go_wp2_with fail
 exact bodyPost_ret (v := .tuple #[]) (by simp [results, Tryz.results48, go_sem]) rfl ⟨rfl, H2.out, K2.out⟩
theorem path_slot (b : Nat) (l : List UInt8) (sk sr : Int) (es : List Pl.Ed) (n : Nat) (hn : es.length = n) (f : Pl.Ed) (hf : es[0]? = some f) (ao : Option Addr) (cap : Nat) (W w : World) (h : Wr W.heap.size b l w) (hK : Kp W w none) (he : Env w) (h8 : 8 ≤ W.heap.size) (hes : LiesAt 7 edC W ao cap es) (hv : ∀ e ∈ es, Pl.chkE e = 0) (h40 : n ≤ 40)
  (hno : ¬ (n = 1 ∧ f.k = 1 ∧ f.a = f.b)) (hlen : l.length ≤ 140737488300000) :
  Calls Tryz.prog 48 #[.pointer (some ⟨b, 0, none⟩), .agg #[I6 sk, .slice ao n cap, I6 sr]] w fun e w' => e = .returned (.tuple #[]) ∧ Wr W.heap.size b (l ++ (Dl.ln (([71, 48, 48] : List UInt8) ++ Pl.pnt 88 f.a 89) ++ Dl.ln Dl.kM15 ++ es.flatMap Dl.edgeLn ++ Dl.ln Dl.kM16)) w' ∧ Kw b w w' := by
 have H0 := oh h; have HK0 := oh hK; have HV := oh hv; have HN := oh hn; have FE := oh hes; have HENV : Hid (∀ V, Kp W V none → Env V) := oh fun V k => he.keep0 hK k h8
 have HTL := oh (etake_le es hv)
 obtain ⟨hlt0, hf0⟩ := List.getElem?_eq_some_iff.1 hf
 have hn0 : (0 : Int) < (n : Int) := by omega
 obtain ⟨bo, off, rfl, hcap, hbo, hcells⟩ := hes.ed hlt0
 rw [hn] at hcap; have hfv := hv f (by rw [← hf0]; exact List.getElem_mem _)
 rw [hf0] at hcells; obtain ⟨fk, ⟨fax, fay⟩, ⟨fbx, fby⟩, ⟨fcx, fcy⟩⟩ := f
 obtain ⟨_, hfa, _⟩ := chkE_zero hfv
 have hm1 := In.mid hfa.1
 have hm2 := In.mid hfa.2
 dsimp only at hm1 hm2 hno hcells ⊢
 have HM := oh (show Mid fax ∧ Mid fay from ⟨hm1, hm2⟩)
 have HPL := oh (pnt_length 88 ⟨fax, fay⟩ 89 hm1 hm2)
 have k1 : Kp w ((w.alloc (.cells #[I6 sk, .slice (some ⟨bo, off, none⟩) n cap, I6 sr] 50)).alloc (.cells #[I6 fk, I6 fax, I6 fay, I6 fbx, I6 fby, I6 fcx, I6 fcy] 123)) none := ((Kp.refl w none).alloc _).alloc _
 have K1 := oh k1; have HB1 : Hid (((w.alloc (.cells #[I6 sk, .slice (some ⟨bo, off, none⟩) n cap, I6 sr] 50)).alloc (.cells #[I6 fk, I6 fax, I6 fay, I6 fbx, I6 fby, I6 fcx, I6 fcy] 123)).heap[w.heap.size]? = some (.cells #[I6 sk, .slice (some ⟨bo, off, none⟩) n cap, I6 sr] 50)) := oh (blk (heap_alloc_new w _) ((Kp.refl _ none).alloc _))
 have HO1 := oh (Off.new h (.cells #[I6 sk, .slice (some ⟨bo, off, none⟩) n cap, I6 sr] 50))
 have HO2 : Hid (Off b ((w.alloc (.cells #[I6 sk, .slice (some ⟨bo, off, none⟩) n cap, I6 sr] 50)).alloc (.cells #[I6 fk, I6 fax, I6 fay, I6 fbx, I6 fby, I6 fcx, I6 fcy] 123)) w.heap.size) := oh (HO1.out.kp ((Kp.refl _ none).alloc _) (by have := h.lt; simp; omega))
 obtain ⟨z0, z1, z2, z3, z4, z5, z6⟩ := hcells _ (hK.trans ((Kp.refl w none).alloc (.cells #[I6 sk, .slice (some ⟨bo, off, none⟩) n cap, I6 sr] 50)))
 simp only [Nat.zero_mul, Nat.add_zero] at z0 z1 z2 z3 z4 z5 z6
 clear h hK he hes hfv hfa hm1 hm2 k1 hcells hv hn hlt0 hf0 hf HO1; obtain ⟨l1, hl1⟩ : ∃ x, l ++ Dl.ln (([71, 48, 48] : List UInt8) ++ Pl.pnt 88 ⟨fax, fay⟩ 89) = x := ⟨_, rfl⟩
 obtain ⟨l2, hl2⟩ : ∃ x, l1 ++ Dl.ln Dl.kM15 = x := ⟨_, rfl⟩
 have hl1b : l1.length ≤ 140737488300050 := by rw [← hl1]; have := HPL.out; simp only [Dl.ln, ll]; omega
 have hl2b : l2.length ≤ 140737488300060 := by rw [← hl2]; simp only [Dl.ln, Dl.kM15, ll]; omega
 have HFIN : Hid (l ++ (Dl.ln (([71, 48, 48] : List UInt8) ++ Pl.pnt 88 ⟨fax, fay⟩ 89) ++ Dl.ln Dl.kM15 ++ es.flatMap Dl.edgeLn ++ Dl.ln Dl.kM16) = (l2 ++ es.flatMap Dl.edgeLn) ++ Dl.ln Dl.kM16) := oh (by rw [← hl2, ← hl1]; simp only [List.append_assoc])
 have HL1 := oh hl1; have HL2 := oh hl2; clear hl1 hl2; have HBF : Hid (((w.alloc (.cells #[I6 sk, .slice (some ⟨bo, off, none⟩) n cap, I6 sr] 50)).alloc (.cells #[I6 fk, I6 fax, I6 fay, I6 fbx, I6 fby, I6 fcx, I6 fcy] 123)).heap[w.heap.size + 1]? = some (.cells #[I6 fk, I6 fax, I6 fay, I6 fbx, I6 fby, I6 fcx, I6 fcy] 123)) := oh (by have h := heap_alloc_new (w.alloc (.cells #[I6 sk, .slice (some ⟨bo, off, none⟩) n cap, I6 sr] 50)) (.cells #[I6 fk, I6 fax, I6 fay, I6 fbx, I6 fby, I6 fcx, I6 fcy] 123); simpa using h)
 have HNO := oh hno; clear hno; go_enter Tryz.func48, Tryz.ntmps48
 go_upto_region 2 with fail
 clear z0 z1 z2 z3 z4 z5 z6
 generalize (w.alloc (.cells #[I6 sk, .slice (some ⟨bo, off, none⟩) n cap, I6 sr] 50)).alloc (.cells #[I6 fk, I6 fax, I6 fay, I6 fbx, I6 fby, I6 fcx, I6 fcy] 123) = X at *
 have x0 := hcell HBF.out 0 rfl
 have x1 := hcell HBF.out 1 rfl
 have x2 := hcell HBF.out 2 rfl
 have x3 := hcell HBF.out 3 rfl
 have x4 := hcell HBF.out 4 rfl
 have b1 := hcell HB1.out 1 rfl
 go_cut [27] from 12 to 27 (fun t wx => t = .bool false ∧ wx = X)
 case first =>
  by_cases c1 : n = 1
  ·subst c1
   by_cases c2 : fk = 1
   ·subst c2
    by_cases c3 : fax = fbx
    ·subst c3; have c4 : (fay == fby) = false := by rw [beq_eq_false_iff_ne]; rintro rfl; exact HNO.out ⟨rfl, rfl, rfl⟩
     have c5 : (fax == fax) = true := by simp
     go_wp2_with fail
     go_meet
     exact ⟨rfl, rfl⟩
    ·have c4 : (fax == fbx) = false := by simpa using c3
     clear c3; go_wp2_with fail
     go_meet
     exact ⟨rfl, rfl⟩
   ·have c4 : (fk == 1) = false := by simpa using c2
    clear c2; go_wp2_with fail
    go_meet
    exact ⟨rfl, rfl⟩
  ·have c4 : ((n : Int) == 1) = false := by simp; omega
   clear c1; go_wp2_with fail
   go_meet
   exact ⟨rfl, rfl⟩
 case rest =>
  obtain ⟨rfl, hwc⟩ := hcut
  have hwc := hwc.symm
  subst hwc; have KX := oh (HK0.out.trans K1.out); have HW1 := oh (H0.out.kp K1.out); go_wp2_with fail
  refine (wline_at (HENV.out _ KX.out) HW1.out h8 [.s [71, 48, 48, 88], .n fax, .s [89], .n fay] _ _ _ rfl rfl rfl (by simp) (by simp [partOk]; exact HM.out) (Dl.ln (([71, 48, 48] : List UInt8) ++ Pl.pnt 88 ⟨fax, fay⟩ 89)) (by simp [Pl.pnt, partT]) (by have := HPL.out; unfold Dl.ln; simp only [ll]; omega) KX.out.size).mono ?_
  rintro e w2 ⟨rfl, h2, k2⟩; rw [HL1.out] at h2; have HW2 := oh h2; have K2 := oh (HW1.out.kpw KX.out k2)
  have HB2 := oh ((HO2.out.same k2).trans HB1.out)
  have HO3 := oh (HO2.out.kw k2)
  have KK2 := oh ((Kw.of_kp K1.out H0.out.lt).trans k2)
  clear h2 k2 x0 x1 x2 x3 x4 b1 HB1 HO2 HW1 KX HBF; go_wp2_with fail
  refine (wline_at (HENV.out _ K2.out) HW2.out h8 [.s [77, 49, 53]] _ _ _ rfl rfl rfl (by simp) (by simp [partOk]) (Dl.ln Dl.kM15) (by simp [partT, Dl.kM15]) (by simp only [Dl.ln, Dl.kM15, ll]; omega) K2.out.size).mono ?_
  rintro e w3 ⟨rfl, h2, k2⟩; rw [HL2.out] at h2; have HW3 := oh h2; have K3 := oh (HW2.out.kpw K2.out k2)
  have b1 := hcell ((HO3.out.same k2).trans HB2.out) 1 rfl
  have KK3 := oh (KK2.out.trans k2); clear h2 k2 HB2 HO3 HW2 KK2 K2; go_wp2_with fail
  go_loopw [61] (fun i wr => PtRel b l2 es W w i wr) (fun i _ => n - (intOf i).toNat)
  case atStart => exact ⟨0, Nat.zero_le _, rfl, by simpa using HW3.out, KK3.out, K3.out⟩
  case round =>
   obtain ⟨k, hk, rfl, hW, hKw, hKp⟩ := hrel; have HW := oh hW; have HKW := oh hKw; have HKP := oh hKp; clear hW hKw hKp K3 HW3 KK3 b1
   have hk0 := nn k
   by_cases hlt : k < n
   ·have hk1 : (k : Int) < (n : Int) := by omega
    have hlt2 : k < es.length := by rw [HN.out]; exact hlt
    obtain ⟨e, hx⟩ : ∃ e, es[k] = e := ⟨_, rfl⟩
    obtain ⟨bo', off', hao, _, _, hcells⟩ := FE.out.ed hlt2
    injection hao with hao; injection hao with e1 e2; subst e1; subst e2
    have hc0 := hcells _ HKP.out
    have hev := HV.out e (by rw [← hx]; exact List.getElem_mem hlt2)
    rw [hx] at hc0
    have HST : Hid (∀ wq, Wr W.heap.size b ((l2 ++ (es.take k).flatMap Dl.edgeLn) ++ Dl.edgeLn e) wq → Kw b wr wq → PtRel b l2 es W w (I6 (k + 1)) wq) := oh fun wq h1 k1 =>
     ⟨k + 1, hlt2, by go_num, by rw [eln_step es k hlt2, hx, ← List.append_assoc]; exact h1, HKW.out.trans k1, HW.out.kpw HKP.out k1⟩
    have hlb : (l2 ++ (es.take k).flatMap Dl.edgeLn).length + 92 ≤ 140737488355328 := by rw [List.length_append]; have := HTL.out k; have := HN.out; omega
    obtain ⟨lk, hlk⟩ : ∃ q, l2 ++ (es.take k).flatMap Dl.edgeLn = q := ⟨_, rfl⟩
    rw [hlk] at HST HW hlb; have hel := Dl.edge_len hev
    have hez := chkE_zero hev
    clear hlk hev hcells hx; obtain ⟨ek, ⟨ax, ay⟩, ⟨bx, bY⟩, ⟨cx, cy⟩⟩ := e
    dsimp only at hc0 hez
    obtain ⟨hek, ⟨ha1, ha2⟩, ⟨hb1, hb2⟩, ⟨hc1, hc2⟩, hz1, hz2⟩ := hez; clear hz1 hz2
    dsimp only at ha1 ha2 hb1 hb2 hc1 hc2
    have MB1 := oh (show Mid bx ∧ Mid bY from ⟨In.mid hb1, In.mid hb2⟩)
    have MD1 := oh (show (Mid bx ∧ Mid bY) ∧ Mid (cx - ax) ∧ Mid (cy - ay) from ⟨⟨In.mid hb1, In.mid hb2⟩, sub_mid hc1 ha1, sub_mid hc2 ha2⟩)
    have hw1 : wrap64 (cx - ax) = cx - ax := wrap_mid (by unfold Pl.In at hc1 ha1; omega) (by unfold Pl.In at hc1 ha1; omega)
    have hw2 : wrap64 (cy - ay) = cy - ay := wrap_mid (by unfold Pl.In at hc2 ha2; omega) (by unfold Pl.In at hc2 ha2; omega)
    have HWR := oh (And.intro hw1 hw2); clear ha1 ha2 hb1 hb2 hc1 hc2 hw1 hw2; obtain ⟨c0, c1, c2, c3, c4, c5, c6⟩ := hc0
    have HBX := oh (heap_alloc_new wr (.cells #[I6 ek, I6 ax, I6 ay, I6 bx, I6 bY, I6 cx, I6 cy] 123))
    have HKB : Hid (Kp wr (wr.alloc (.cells #[I6 ek, I6 ax, I6 ay, I6 bx, I6 bY, I6 cx, I6 cy] 123)) none) := oh ((Kp.refl wr none).alloc _)
    obtain ⟨et, het⟩ : ∃ q, Dl.edgeLn ⟨ek, ⟨ax, ay⟩, ⟨bx, bY⟩, ⟨cx, cy⟩⟩ = q := ⟨_, rfl⟩
    rw [het] at HST hel; go_upto_region 9 with fail
    clear c0 c1 c2 c3 c4 c5 c6
    generalize wr.alloc (.cells #[I6 ek, I6 ax, I6 ay, I6 bx, I6 bY, I6 cx, I6 cy] 123) = Y at *
    have y0 := hcell HBX.out 0 rfl
    have y1 := hcell HBX.out 1 rfl
    have y2 := hcell HBX.out 2 rfl
    have y3 := hcell HBX.out 3 rfl
    have y4 := hcell HBX.out 4 rfl
    have y5 := hcell HBX.out 5 rfl
    have y6 := hcell HBX.out 6 rfl
    have HY := oh (HW.out.kp HKB.out); have KY := oh (HKP.out.trans HKB.out)
    have hlb2 : lk.length + et.length ≤ 140737488355328 := by omega
    rcases hek with rfl | rfl | rfl
    ·have HOUT : Hid (et = Dl.ln (List.flatMap partT [.s [71, 48, 49, 88], .n bx, .s [89], .n bY])) := oh (by rw [← het]; simp [Dl.edgeLn, Pl.gOf, Pl.arcT, partT, Pl.pnt])
     clear het; go_wp2_with fail
     refine (wline_at (HENV.out _ KY.out) HY.out h8 [.s [71, 48, 49, 88], .n bx, .s [89], .n bY] _ _ _ rfl rfl rfl (by simp) (by simp [partOk]; exact MB1.out) et HOUT.out hlb2 KY.out.size).mono ?_
     rintro e w4 ⟨rfl, h2, k2⟩; have HR := oh (HST.out _ h2 ((Kw.of_kp HKB.out HW.out.lt).trans k2))
     clear h2 k2; go_wp2_with fail
     first | exact ⟨HR.out, by simp [intOf]; omega⟩ | (go_roundw; all_goals first | exact HR.out | (simp [intOf]; omega))
    ·have HOUT : Hid (et = Dl.ln (List.flatMap partT [.s [71, 48, 51, 88], .n bx, .s [89], .n bY, .s [73], .n (cx - ax), .s [74], .n (cy - ay)])) := oh (by rw [← het]; simp [Dl.edgeLn, Pl.gOf, Pl.arcT, partT, Pl.pnt, Pl.sub])
     clear het; have hw1 := HWR.out.1
     have hw2 := HWR.out.2
     go_wp2_with fail
     refine (wline_at (HENV.out _ KY.out) HY.out h8 [.s [71, 48, 51, 88], .n bx, .s [89], .n bY, .s [73], .n (cx - ax), .s [74], .n (cy - ay)] _ _ _ rfl rfl rfl (by simp) (by simp [partOk]; have := MD1.out; exact ⟨this.1.1, this.1.2, this.2⟩) et HOUT.out hlb2 KY.out.size).mono ?_
     rintro e w4 ⟨rfl, h2, k2⟩; have HR := oh (HST.out _ h2 ((Kw.of_kp HKB.out HW.out.lt).trans k2))
     clear h2 k2; go_wp2_with fail
     first | exact ⟨HR.out, by simp [intOf]; omega⟩ | (go_roundw; all_goals first | exact HR.out | (simp [intOf]; omega))
    ·have HOUT : Hid (et = Dl.ln (List.flatMap partT [.s [71, 48, 50, 88], .n bx, .s [89], .n bY, .s [73], .n (cx - ax), .s [74], .n (cy - ay)])) := oh (by rw [← het]; simp [Dl.edgeLn, Pl.gOf, Pl.arcT, partT, Pl.pnt, Pl.sub])
     clear het; have hw1 := HWR.out.1
     have hw2 := HWR.out.2
     go_wp2_with fail
     refine (wline_at (HENV.out _ KY.out) HY.out h8 [.s [71, 48, 50, 88], .n bx, .s [89], .n bY, .s [73], .n (cx - ax), .s [74], .n (cy - ay)] _ _ _ rfl rfl rfl (by simp) (by simp [partOk]; have := MD1.out; exact ⟨this.1.1, this.1.2, this.2⟩) et HOUT.out hlb2 KY.out.size).mono ?_
     rintro e w4 ⟨rfl, h2, k2⟩; have HR := oh (HST.out _ h2 ((Kw.of_kp HKB.out HW.out.lt).trans k2))
     clear h2 k2; go_wp2_with fail
     first | exact ⟨HR.out, by simp [intOf]; omega⟩ | (go_roundw; all_goals first | exact HR.out | (simp [intOf]; omega))
   ·have hk1 : ¬ (k : Int) < (n : Int) := by omega
    have hkn : k = es.length := by have := HN.out; omega
    have HWZ : Hid (Wr W.heap.size b (l2 ++ es.flatMap Dl.edgeLn) wr) := oh (by have := HW.out; rw [hkn, List.take_length] at this; exact this)
    have hlz : (l2 ++ es.flatMap Dl.edgeLn).length + 4 ≤ 140737488355328 := by rw [List.length_append]; have := HTL.out es.length; rw [List.take_length] at this; have := HN.out; omega
    clear hkn HW; go_wp2_with fail
    refine (wline_at (HENV.out _ HKP.out) HWZ.out h8 [.s [77, 49, 54]] _ _ _ rfl rfl rfl (by simp) (by simp [partOk]) (Dl.ln Dl.kM16) (by simp [partT, Dl.kM16]) (by simp only [Dl.ln, Dl.kM16, ll] at hlz ⊢; omega) HKP.out.size).mono ?_
    rintro e w4 ⟨rfl, h2, k2⟩; rw [← HFIN.out] at h2; have HWF := oh h2; have KF := oh (HKW.out.trans k2); clear h2 k2; go_wp2_with fail
    first | (go_end0; exact ⟨rfl, HWF.out, KF.out⟩) | exact bodyPost_ret (v := .tuple #[]) (by simp [results, Tryz.results48, go_sem]) rfl ⟨rfl, HWF.out, KF.out⟩
theorem path_any (b : Nat) (l : List UInt8) (s : Pl.Sh) (n : Nat) (hn : s.es.length = n) (ao : Option Addr) (cap : Nat) (W w : World) (h : Wr W.heap.size b l w) (hK : Kp W w none) (he : Env w) (h8 : 8 ≤ W.heap.size) (hes : LiesAt 7 edC W ao cap s.es) (hv : ∀ e ∈ s.es, Pl.chkE e = 0) (h0 : s.es ≠ []) (h40 : n ≤ 40) (hlen : l.length ≤ 140737488300000) :
  Calls Tryz.prog 48 #[.pointer (some ⟨b, 0, none⟩), .agg #[I6 s.k, .slice ao n cap, I6 s.r]] w fun e w' => e = .returned (.tuple #[]) ∧ Wr W.heap.size b (l ++ Dl.pathT s) w' ∧ Kw b w w' := by
 obtain ⟨sk, es, sr⟩ := s
 dsimp only at *
 cases es with
 | nil => exact absurd rfl h0
 | cons f r =>
  by_cases hno : (n = 1 ∧ f.k = 1 ∧ f.a = f.b)
  ·obtain ⟨rfl, h1, h2⟩ := hno
   have hr : r = [] := List.length_eq_zero_iff.1 (by simpa using hn)
   subst hr; obtain ⟨_, hfa, _⟩ := chkE_zero (hv f (by simp))
   rw [pathT_lone rfl h1 h2]; obtain ⟨fk, ⟨fax, fay⟩, fb, ⟨fcx, fcy⟩⟩ := f
   dsimp only at h1 h2 hfa
   subst h1; subst h2; exact path_lone b l sk sr fax fay fcx fcy ao cap W w h hK he h8 hes (In.mid hfa.1) (In.mid hfa.2) hlen
  ·rw [pathT_slot (s := ⟨sk, f :: r, sr⟩) (f := f) rfl (by dsimp only; rw [hn]; exact hno)]
   exact path_slot b l sk sr (f :: r) n hn f rfl ao cap W w h hK he h8 hes hv h40 hno hlen
end Go.Proofs.YtljjbdbgedmadaaGreatDoor
