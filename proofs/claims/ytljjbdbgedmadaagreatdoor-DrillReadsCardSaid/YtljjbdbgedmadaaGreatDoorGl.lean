/- The reference's reader of an edge. Conditions: a line of at most 10^9 bytes; a place within its bounds. -/
import Derived.Test.YtljjbdbgedmadaaGreatDoorGi
set_option maxHeartbeats 8000000
set_option maxRecDepth 100000
namespace Go.Proofs.YtljjbdbgedmadaaGreatDoor
open Go.RowKit Go.Lib
theorem results_ed_tmp {fn : Func} {p u : Tmp} (h : fn.results = #[.cell p 123, .tmp u]) (tmps : Array Value) (w : World) (g : Nat) (cs : Array Value)
  (hp : tmps.getD p undef = .pointer (some ⟨g, 0, none⟩)) (hg : w.heap[g]? = some (.cells cs 123 (0, 0)) ∧ cs.size = 7) :
  (results fn tmps).run Tryz.prog w = .ok (.tuple #[.agg cs, tmps.getD u undef]) w := by
 have hp' : tmps[p]?.getD undef = .pointer (some ⟨g, 0, none⟩) := by simpa using hp
 have hi : (Tryz.prog.info? 123).map (·.size) = some cs.size := by rw [hg.2]; kernel_rfl
 simp [results, h, hp', asAddr, run_loadVar_row w g 123 123 cs (0, 0) _ hg.1 Tryz.underlying123 (by rfl) hi]
theorem heap_seven {w : World} {B : Nat} (h : w.heap[B]? = some (.cells #[I6 0, I6 0, I6 0, I6 0, I6 0, I6 0, I6 0] 123 (0, 0))) (v0 v1 v2 v3 v4 v5 v6 : Value) :
  (((((((w.setCell ⟨B, 0, none⟩ (v0)).setCell ⟨B, 1, none⟩ (v1)).setCell ⟨B, 2, none⟩ (v2)).setCell ⟨B, 3, none⟩ (v3)).setCell ⟨B, 4, none⟩ (v4)).setCell ⟨B, 5, none⟩ (v5)).setCell ⟨B, 6, none⟩ (v6)).heap[B]? = some (.cells #[v0, v1, v2, v3, v4, v5, v6] 123 (0, 0)) ∧ (#[v0, v1, v2, v3, v4, v5, v6] : Array Value).size = 7 :=
 ⟨heap_set (o := 6) (v := v6) (heap_set (o := 5) (v := v5) (heap_set (o := 4) (v := v4) (heap_set (o := 3) (v := v3) (heap_set (o := 2) (v := v2) (heap_set (o := 1) (v := v1) (heap_set (o := 0) (v := v0) h)))))), rfl⟩
theorem rlen4 {ns : List Int} {l : List (List UInt8)} (h : ns.length = l.length) (h2 : l.length = 4) : ∃ a b c d, ns = [a, b, c, d] := by
 match ns, h with
 | [a, b, c, d], _ => exact ⟨a, b, c, d, rfl⟩
 | [], h => simp at h; omega
 | [_], h => simp at h; omega
 | [_, _], h => simp at h; omega
 | [_, _, _], h => simp at h; omega
 | _ :: _ :: _ :: _ :: _ :: _, h => simp at h; omega
theorem rfour_at {w : World} {ao : Option Addr} {cap : Nat} {a b c d : Int} (h : LiesAt 1 intVal w ao cap [a, b, c, d]) : ∃ g off, ao = some ⟨g, off, none⟩ ∧ g < w.heap.size ∧ 4 ≤ cap ∧ w.cell? ⟨g, off, none⟩ = some (I6 a) ∧ w.cell? ⟨g, off + 1, none⟩ = some (I6 b) ∧ w.cell? ⟨g, off + 2, none⟩ = some (I6 c) ∧ w.cell? ⟨g, off + 3, none⟩ = some (I6 d) := by
 obtain ⟨g, off, e, hg, hc, hr⟩ := h.int 0 (by simp)
 exact ⟨g, off, e, hg, hc, hr 0 (by simp), hr 1 (by simp), hr 2 (by simp), hr 3 (by simp)⟩
def EdgeRIs (p : Pl.Pt) (s : List UInt8) (w : World) (E : Ending) (w' : World) : Prop := (match Dl.edgeOf p s with
 | some e => E = .returned (.tuple #[.agg (edC e).toArray, .bool true])
 | none => E = .returned (.tuple #[.agg #[I6 0, I6 0, I6 0, I6 0, I6 0, I6 0, I6 0], .bool false])) ∧ Kp w w' none
theorem edge_yes {p : Pl.Pt} {s : List UInt8} {w w' : World} {e : Pl.Ed} {E : Ending} (h : Dl.edgeOf p s = some e) (hE : E = .returned (.tuple #[.agg (edC e).toArray, .bool true])) (k : Kp w w' none) : EdgeRIs p s w E w' := by
 unfold EdgeRIs; rw [h]; exact ⟨hE, k⟩
theorem edge_no {p : Pl.Pt} {s : List UInt8} {w w' : World} {E : Ending} (h : Dl.edgeOf p s = none) (hE : E = .returned (.tuple #[.agg #[I6 0, I6 0, I6 0, I6 0, I6 0, I6 0, I6 0], .bool false])) (k : Kp w w' none) : EdgeRIs p s w E w' := by
 unfold EdgeRIs; rw [h]; exact ⟨hE, k⟩
theorem strip_app : ∀ {p l r : List UInt8}, Dl.strip p l = some r → l = p ++ r
 | [], l, r, h => by injection h
 | a :: p, [], r, h => by cases h
 | a :: p, c :: l, r, h => by
  unfold Dl.strip at h
  split at h
  ·rename_i e; subst e; rw [strip_app h]; rfl
  ·cases h
theorem g2_g3 {s : List UInt8} {ps qs : List (List UInt8)} {ns : List Int} (h : Dl.scan [71, 48, 50, 88] ps s = some ns) : Dl.scan [71, 48, 51, 88] qs s = none := by
 unfold Dl.scan at h ⊢
 cases hs : Dl.strip [71, 48, 50, 88] s with
 | none => rw [hs] at h; cases h
 | some r => rw [strip_app hs]; rfl
theorem edgeOf_line {p : Pl.Pt} {s : List UInt8} {a b : Int} (h : Dl.scan [71, 48, 49, 88] [[89], []] s = some [a, b]) : Dl.edgeOf p s = some ⟨1, p, ⟨a, b⟩, ⟨0, 0⟩⟩ := by unfold Dl.edgeOf; rw [h]
theorem edgeOf_two {p : Pl.Pt} {s : List UInt8} {a b i j : Int} (h1 : Dl.scan [71, 48, 49, 88] [[89], []] s = none) (h : Dl.scan [71, 48, 50, 88] [[89], [73], [74], []] s = some [a, b, i, j]) : Dl.edgeOf p s = some ⟨3, p, ⟨a, b⟩, ⟨p.x + i, p.y + j⟩⟩ := by unfold Dl.edgeOf; rw [h1, g2_g3 h, h]
theorem edgeOf_three {p : Pl.Pt} {s : List UInt8} {a b i j : Int} (h1 : Dl.scan [71, 48, 49, 88] [[89], []] s = none) (h : Dl.scan [71, 48, 51, 88] [[89], [73], [74], []] s = some [a, b, i, j]) : Dl.edgeOf p s = some ⟨2, p, ⟨a, b⟩, ⟨p.x + i, p.y + j⟩⟩ := by unfold Dl.edgeOf; rw [h1, h]
theorem edgeOf_none {p : Pl.Pt} {s : List UInt8} (h1 : Dl.scan [71, 48, 49, 88] [[89], []] s = none) (h2 : Dl.scan [71, 48, 50, 88] [[89], [73], [74], []] s = none) (h3 : Dl.scan [71, 48, 51, 88] [[89], [73], [74], []] s = none) : Dl.edgeOf p s = none := by unfold Dl.edgeOf; rw [h1, h3, h2]
theorem redge_any (R : Nat) (px py : Int) (s : List UInt8) (w : World) (cs : Array Value) (hb : w.heap[R]? = some (.cells cs 181 (0, 0))) (hc10 : cs[10]? = some (I6 px)) (hc11 : cs[11]? = some (I6 py)) (hs : s.length ≤ 1000000000) (hx : Dl.NumB px) (hy : Dl.NumB py) : Calls Tryz.prog 175 #[.pointer (some ⟨R, 0, none⟩), str s] w (EdgeRIs ⟨px, py⟩ s w) := by
 have HSL := oh hs; have HC10 := oh hc10; have HC11 := oh hc11; have hRB : R < w.heap.size := lt_of_block hb
 have HBB := oh (show (w.alloc (.cells #[I6 0, I6 0, I6 0, I6 0, I6 0, I6 0, I6 0] 123)).heap[w.heap.size]? = some (.cells #[I6 0, I6 0, I6 0, I6 0, I6 0, I6 0, I6 0] 123 (0, 0)) from heap_alloc_new w _)
 have KB : Hid (Kp w (w.alloc (.cells #[I6 0, I6 0, I6 0, I6 0, I6 0, I6 0, I6 0] 123)) none) := oh ((Kp.refl w none).alloc _)
 have HB := oh (blk hb KB.out)
 have HAS : Hid ((w.alloc (.cells #[I6 0, I6 0, I6 0, I6 0, I6 0, I6 0, I6 0] 123)).heap.size = w.heap.size + 1) := oh (by simp)
 go_enter Tryz.func175, Tryz.ntmps175
 go_upto_region 1 with fail
 generalize w.alloc (.cells #[I6 0, I6 0, I6 0, I6 0, I6 0, I6 0, I6 0] 123) = X at *
 obtain ⟨B, hB⟩ : ∃ x, w.heap.size = x := ⟨_, rfl⟩
 have HBW := oh hB; have HBS : Hid (w.heap.size ≤ B) := oh (by omega)
 rw [hB] at HBB hRB HAS ⊢; have HRB := oh hRB; clear hB hRB hb hs hc10 hc11
 cases h1 : Dl.scan [71, 48, 49, 88] [[89], []] s with
 | some ns =>
  obtain ⟨a, b, rfl⟩ := len2 (Dl.scan_some h1).1 rfl
  have HC1 := oh (fun V => nums_yes rpat_g1 HSL.out h1 V)
  have HX := oh (edgeOf_line (p := ⟨px, py⟩) h1)
  clear h1 hx hy; go_wp2_with fail
  refine (HC1.out _).mono ?_
  rintro e wl ⟨⟨ao, cap, rfl, hla, hab⟩, k1⟩; have HLA := oh hla; have HAB : Hid (∀ q, ao = some q → B + 1 ≤ q.block) := oh (fun q hq => by have h1 := hab q hq; have h2 := HAS.out; omega)
  have KW := oh (k1); clear hla hab k1
  obtain ⟨g, off, rfl, hg, hcap, ca, cb⟩ := two_at HLA.out
  have HGB : Hid (B < g) := oh (by have := HAB.out _ rfl; dsimp only at this; exact this)
  have HB1 := oh (blk HB.out KW.out); have HBB1 := oh (blk HBB.out KW.out)
  have KD : Hid (Kp wl wl.drew none) := oh (Kp.refl _ _).drew
  have HR0 := oh (blk HB1.out KD.out); have HBB0 := oh (blk HBB1.out KD.out)
  have HS0 : Hid ((fun V : World => V.cell? ⟨R, 10, none⟩ = some (I6 px) ∧ V.cell? ⟨R, 11, none⟩ = some (I6 py) ∧ V.cell? ⟨g, off, none⟩ = some (I6 a) ∧ V.cell? ⟨g, off + 1, none⟩ = some (I6 b)) wl.drew) := oh ⟨hcell HR0.out 10 HC10.out, hcell HR0.out 11 HC11.out, (KD.out.below.cell (p := ⟨g, off, none⟩) hg).trans ca, (KD.out.below.cell (p := ⟨g, off + 1, none⟩) hg).trans cb⟩
  clear ca cb; go_upto_region 3 with fail
  refine wp_region_last (fun V => V.cell? ⟨R, 10, none⟩ = some (I6 px) ∧ V.cell? ⟨R, 11, none⟩ = some (I6 py) ∧ V.cell? ⟨g, off, none⟩ = some (I6 a) ∧ V.cell? ⟨g, off + 1, none⟩ = some (I6 b)) 13 (by kernel_rfl) ?_ (fun eh => ?_)
  ·exact HS0.out
  have HGY : Hid (g < wl.drew.heap.size) := oh hg
  generalize wl.drew = Y at *
  refine tjL 0 rfl ?_; refine tjL 1 rfl ?_; refine tjL 2 rfl ?_; refine tjL 3 rfl ?_; refine tjL 4 rfl ?_; refine tjL 5 rfl ?_; refine tjL 6 rfl ?_; refine tjL 7 rfl ?_; refine tjL 8 rfl ?_; refine tjL 9 rfl ?_; refine tjL 10 rfl ?_; refine tjL 11 rfl ?_; refine rdL 12 rfl (fun K hK => ?_); clear eh
  have f0 := fz HBB0.out 0
  have f1 := fz HBB0.out 1
  have f2 := fz HBB0.out 2
  have f3 := fz HBB0.out 3
  have f4 := fz HBB0.out 4
  have f5 := fz HBB0.out 5
  have f6 := fz HBB0.out 6
  have z0 : Y.cell? ⟨B, 0, none⟩ = some (I6 0) := hcell HBB0.out 0 rfl
  have z1 : Y.cell? ⟨B, 1, none⟩ = some (I6 0) := hcell HBB0.out 1 rfl
  have z2 : Y.cell? ⟨B, 2, none⟩ = some (I6 0) := hcell HBB0.out 2 rfl
  have z3 : Y.cell? ⟨B, 3, none⟩ = some (I6 0) := hcell HBB0.out 3 rfl
  have z4 : Y.cell? ⟨B, 4, none⟩ = some (I6 0) := hcell HBB0.out 4 rfl
  have z5 : Y.cell? ⟨B, 5, none⟩ = some (I6 0) := hcell HBB0.out 5 rfl
  have z6 : Y.cell? ⟨B, 6, none⟩ = some (I6 0) := hcell HBB0.out 6 rfl
  go_simp; try go_wp2_with fail
  clear f0 z0 f1 z1 f2 z2 f3 z3 f4 z4 f5 z5 f6 z6; have ks : Kp Y (((((((Y.setCell ⟨B, 0, none⟩ (I6 1)).setCell ⟨B, 1, none⟩ (I6 px)).setCell ⟨B, 2, none⟩ (I6 py)).setCell ⟨B, 3, none⟩ (I6 a)).setCell ⟨B, 4, none⟩ (I6 b)).setCell ⟨B, 5, none⟩ (I6 0)).setCell ⟨B, 6, none⟩ (I6 0)) (some B) := ((((((((Kp.refl Y (some B)).set _).set _).set _).set _).set _).set _).set _)
  have HF := oh (heap_seven HBB0.out (I6 1) (I6 px) (I6 py) (I6 a) (I6 b) (I6 0) (I6 0))
  have HKS := oh ks; refine hK.out _ _ ?_ (fun eh => ?_)
  ·have hne : ∀ q, q ≠ B → (some q : Option Nat) ≠ some B := fun q h e => h (Option.some.inj e)
   have hRB := HRB.out; have hGB := HGB.out; exact ⟨(ks.cell_far ⟨R, 10, none⟩ (lt_of_block HR0.out) (hne R (by omega))).trans HS0.out.1, (ks.cell_far ⟨R, 11, none⟩ (lt_of_block HR0.out) (hne R (by omega))).trans HS0.out.2.1, (ks.cell_far ⟨g, off, none⟩ HGY.out (hne g (by omega))).trans HS0.out.2.2.1, (ks.cell_far ⟨g, off + 1, none⟩ HGY.out (hne g (by omega))).trans HS0.out.2.2.2⟩
  clear hK K ks; try simp only [Act.put, sm]
  generalize (((((((Y.setCell ⟨B, 0, none⟩ (I6 1)).setCell ⟨B, 1, none⟩ (I6 px)).setCell ⟨B, 2, none⟩ (I6 py)).setCell ⟨B, 3, none⟩ (I6 a)).setCell ⟨B, 4, none⟩ (I6 b)).setCell ⟨B, 5, none⟩ (I6 0)).setCell ⟨B, 6, none⟩ (I6 0)) = Z at *
  refine rdE rfl (fun K hK => ?_); clear eh; go_simp; try go_wp2_with fail
  refine hK.out _ _ ?_
  clear hK K; try simp only [Act.put, sm]
  refine wpAnyL_done (by kernel_rfl) ?_ _
  go_wp2_with fail
  refine bodyPost_ret (fn := Tryz.f175) (results_ed_tmp (fn := Tryz.f175) (p := 4) (u := 5) (by rfl) _ Z B _ (by rfl) HF.out) (by rfl) ?_
  exact edge_yes HX.out rfl (Kp.of_own (KB.out.trans (KW.out.trans KD.out)) HKS.out (by rw [HBW.out]; exact Nat.le_refl _))
 | none =>
  have HC1 := oh (fun V => nums_not rpat_g1 HSL.out h1 V)
  cases h2 : Dl.scan [71, 48, 50, 88] [[89], [73], [74], []] s with
  | some ns =>
   obtain ⟨a, b, i, j, rfl⟩ := rlen4 (Dl.scan_some h2).1 rfl
   have hi := (Dl.scan_some h2).2 i (by simp)
   have hj := (Dl.scan_some h2).2 j (by simp)
   have HC2 := oh (fun V => nums_yes rpat_g2 HSL.out h2 V)
   have HX := edgeOf_two (p := ⟨px, py⟩) h1 h2
   unfold Dl.NumB at hx hy hi hj
   dsimp only at HX
   have HW1 : Hid (IntKind.i64.wrap (px + i) = px + i) := oh (by rw [IntKind.wrap_i64]; omega)
   have HW2 : Hid (IntKind.i64.wrap (py + j) = py + j) := oh (by rw [IntKind.wrap_i64]; omega)
   obtain ⟨cx, hcx⟩ : ∃ x, px + i = x := ⟨_, rfl⟩
   obtain ⟨cy, hcy⟩ : ∃ x, py + j = x := ⟨_, rfl⟩
   rw [hcx, hcy] at HX; have HX := oh HX; have HW1 := oh (HW1.out.trans hcx); have HW2 := oh (HW2.out.trans hcy); clear h1 h2 hx hy hi hj hcx hcy; go_wp2_with fail
   refine (HC1.out _).mono ?_
   rintro e w1 ⟨⟨ao1, n1, cap1, rfl⟩, k1⟩; have K1 := oh (k1); clear k1; go_wp2_with fail
   refine (HC2.out _).mono ?_
   rintro e wl ⟨⟨ao, cap, rfl, hla, hab⟩, k2⟩; have HLA := oh hla; have HAB : Hid (∀ q, ao = some q → B + 1 ≤ q.block) := oh (fun q hq => by have h1 := hab q hq; have h2 := HAS.out; have h3 := K1.out.size; omega)
   have KW := oh (K1.out.trans k2); clear hla hab k2
   obtain ⟨g, off, rfl, hg, hcap, ca, cb, ci, cj⟩ := rfour_at HLA.out
   have HGB : Hid (B < g) := oh (by have := HAB.out _ rfl; dsimp only at this; exact this)
   have HB1 := oh (blk HB.out KW.out); have HBB1 := oh (blk HBB.out KW.out)
   have KD : Hid (Kp wl wl.drew none) := oh (Kp.refl _ _).drew
   have HR0 := oh (blk HB1.out KD.out); have HBB0 := oh (blk HBB1.out KD.out)
   have HS0 : Hid ((fun V : World => V.cell? ⟨R, 10, none⟩ = some (I6 px) ∧ V.cell? ⟨R, 11, none⟩ = some (I6 py) ∧ V.cell? ⟨g, off, none⟩ = some (I6 a) ∧ V.cell? ⟨g, off + 1, none⟩ = some (I6 b) ∧ V.cell? ⟨g, off + 2, none⟩ = some (I6 i) ∧ V.cell? ⟨g, off + 3, none⟩ = some (I6 j)) wl.drew) := oh ⟨hcell HR0.out 10 HC10.out, hcell HR0.out 11 HC11.out, (KD.out.below.cell (p := ⟨g, off, none⟩) hg).trans ca, (KD.out.below.cell (p := ⟨g, off + 1, none⟩) hg).trans cb, (KD.out.below.cell (p := ⟨g, off + 2, none⟩) hg).trans ci, (KD.out.below.cell (p := ⟨g, off + 3, none⟩) hg).trans cj⟩
   clear ca cb ci cj; go_upto_region 11 with fail
   refine wp_region_last (fun V => V.cell? ⟨R, 10, none⟩ = some (I6 px) ∧ V.cell? ⟨R, 11, none⟩ = some (I6 py) ∧ V.cell? ⟨g, off, none⟩ = some (I6 a) ∧ V.cell? ⟨g, off + 1, none⟩ = some (I6 b) ∧ V.cell? ⟨g, off + 2, none⟩ = some (I6 i) ∧ V.cell? ⟨g, off + 3, none⟩ = some (I6 j)) 33 (by kernel_rfl) ?_ (fun eh => ?_)
   ·exact HS0.out
   have HGY : Hid (g < wl.drew.heap.size) := oh hg
   generalize wl.drew = Y at *
   refine tjL 0 rfl ?_; refine tjL 1 rfl ?_; refine tjL 2 rfl ?_; refine tjL 3 rfl ?_; refine tjL 4 rfl ?_; refine tjL 5 rfl ?_; refine tjL 6 rfl ?_; refine tjL 7 rfl ?_; refine tjL 8 rfl ?_; refine tjL 9 rfl ?_; refine tjL 10 rfl ?_; refine tjL 11 rfl ?_; refine tjL 12 rfl ?_; refine tjL 13 rfl ?_; refine tjL 14 rfl ?_; refine tjL 15 rfl ?_; refine tjL 16 rfl ?_; refine tjL 17 rfl ?_; refine tjL 18 rfl ?_; refine tjL 19 rfl ?_; refine tjL 20 rfl ?_; refine tjL 21 rfl ?_; refine tjL 22 rfl ?_; refine tjL 23 rfl ?_; refine tjL 24 rfl ?_; refine tjL 25 rfl ?_; refine tjL 26 rfl ?_; refine tjL 27 rfl ?_
   refine tjL 28 rfl ?_; refine tjL 29 rfl ?_; refine tjL 30 rfl ?_; refine tjL 31 rfl ?_; refine rdL 32 rfl (fun K hK => ?_); clear eh
   have f0 := fz HBB0.out 0
   have f1 := fz HBB0.out 1
   have f2 := fz HBB0.out 2
   have f3 := fz HBB0.out 3
   have f4 := fz HBB0.out 4
   have f5 := fz HBB0.out 5
   have f6 := fz HBB0.out 6
   have z0 : Y.cell? ⟨B, 0, none⟩ = some (I6 0) := hcell HBB0.out 0 rfl
   have z1 : Y.cell? ⟨B, 1, none⟩ = some (I6 0) := hcell HBB0.out 1 rfl
   have z2 : Y.cell? ⟨B, 2, none⟩ = some (I6 0) := hcell HBB0.out 2 rfl
   have z3 : Y.cell? ⟨B, 3, none⟩ = some (I6 0) := hcell HBB0.out 3 rfl
   have z4 : Y.cell? ⟨B, 4, none⟩ = some (I6 0) := hcell HBB0.out 4 rfl
   have z5 : Y.cell? ⟨B, 5, none⟩ = some (I6 0) := hcell HBB0.out 5 rfl
   have z6 : Y.cell? ⟨B, 6, none⟩ = some (I6 0) := hcell HBB0.out 6 rfl
   have w1 := HW1.out; have w2 := HW2.out; go_simp; try go_wp2_with fail
   clear f0 z0 f1 z1 f2 z2 f3 z3 f4 z4 f5 z5 f6 z6 w1 w2; have ks : Kp Y (((((((Y.setCell ⟨B, 0, none⟩ (I6 3)).setCell ⟨B, 1, none⟩ (I6 px)).setCell ⟨B, 2, none⟩ (I6 py)).setCell ⟨B, 3, none⟩ (I6 a)).setCell ⟨B, 4, none⟩ (I6 b)).setCell ⟨B, 5, none⟩ (I6 cx)).setCell ⟨B, 6, none⟩ (I6 cy)) (some B) := ((((((((Kp.refl Y (some B)).set _).set _).set _).set _).set _).set _).set _)
   have HF := oh (heap_seven HBB0.out (I6 3) (I6 px) (I6 py) (I6 a) (I6 b) (I6 cx) (I6 cy))
   have HKS := oh ks; refine hK.out _ _ ?_ (fun eh => ?_)
   ·have hne : ∀ q, q ≠ B → (some q : Option Nat) ≠ some B := fun q h e => h (Option.some.inj e)
    have hRB := HRB.out; have hGB := HGB.out; exact ⟨(ks.cell_far ⟨R, 10, none⟩ (lt_of_block HR0.out) (hne R (by omega))).trans HS0.out.1, (ks.cell_far ⟨R, 11, none⟩ (lt_of_block HR0.out) (hne R (by omega))).trans HS0.out.2.1, (ks.cell_far ⟨g, off, none⟩ HGY.out (hne g (by omega))).trans HS0.out.2.2.1, (ks.cell_far ⟨g, off + 1, none⟩ HGY.out (hne g (by omega))).trans HS0.out.2.2.2.1, (ks.cell_far ⟨g, off + 2, none⟩ HGY.out (hne g (by omega))).trans HS0.out.2.2.2.2.1, (ks.cell_far ⟨g, off + 3, none⟩ HGY.out (hne g (by omega))).trans HS0.out.2.2.2.2.2⟩
   clear hK K ks; try simp only [Act.put, sm]
   generalize (((((((Y.setCell ⟨B, 0, none⟩ (I6 3)).setCell ⟨B, 1, none⟩ (I6 px)).setCell ⟨B, 2, none⟩ (I6 py)).setCell ⟨B, 3, none⟩ (I6 a)).setCell ⟨B, 4, none⟩ (I6 b)).setCell ⟨B, 5, none⟩ (I6 cx)).setCell ⟨B, 6, none⟩ (I6 cy)) = Z at *
   refine rdE rfl (fun K hK => ?_); clear eh; go_simp; try go_wp2_with fail
   refine hK.out _ _ ?_
   clear hK K; try simp only [Act.put, sm]
   refine wpAnyL_done (by kernel_rfl) ?_ _
   go_wp2_with fail
   refine bodyPost_ret (fn := Tryz.f175) (results_ed_tmp (fn := Tryz.f175) (p := 4) (u := 5) (by rfl) _ Z B _ (by rfl) HF.out) (by rfl) ?_
   exact edge_yes HX.out rfl (Kp.of_own (KB.out.trans (KW.out.trans KD.out)) HKS.out (by rw [HBW.out]; exact Nat.le_refl _))
  | none =>
   have HC2 := oh (fun V => nums_not rpat_g2 HSL.out h2 V)
   cases h3 : Dl.scan [71, 48, 51, 88] [[89], [73], [74], []] s with
   | some ns =>
    obtain ⟨a, b, i, j, rfl⟩ := rlen4 (Dl.scan_some h3).1 rfl
    have hi := (Dl.scan_some h3).2 i (by simp)
    have hj := (Dl.scan_some h3).2 j (by simp)
    have HC3 := oh (fun V => nums_yes rpat_g3 HSL.out h3 V)
    have HX := edgeOf_three (p := ⟨px, py⟩) h1 h3
    unfold Dl.NumB at hx hy hi hj
    dsimp only at HX
    have HW1 : Hid (IntKind.i64.wrap (px + i) = px + i) := oh (by rw [IntKind.wrap_i64]; omega)
    have HW2 : Hid (IntKind.i64.wrap (py + j) = py + j) := oh (by rw [IntKind.wrap_i64]; omega)
    obtain ⟨cx, hcx⟩ : ∃ x, px + i = x := ⟨_, rfl⟩
    obtain ⟨cy, hcy⟩ : ∃ x, py + j = x := ⟨_, rfl⟩
    rw [hcx, hcy] at HX; have HX := oh HX; have HW1 := oh (HW1.out.trans hcx); have HW2 := oh (HW2.out.trans hcy); clear h1 h2 h3 hx hy hi hj hcx hcy; go_wp2_with fail
    refine (HC1.out _).mono ?_
    rintro e w1 ⟨⟨ao1, n1, cap1, rfl⟩, k1⟩; have K1 := oh (k1); clear k1; go_wp2_with fail
    refine (HC2.out _).mono ?_
    rintro e w2 ⟨⟨ao2, n2, cap2, rfl⟩, k2⟩; have K2 := oh (K1.out.trans k2); clear k2; go_wp2_with fail
    refine (HC3.out _).mono ?_
    rintro e wl ⟨⟨ao, cap, rfl, hla, hab⟩, k3⟩; have HLA := oh hla; have HAB : Hid (∀ q, ao = some q → B + 1 ≤ q.block) := oh (fun q hq => by have h1 := hab q hq; have h2 := HAS.out; have h3 := K2.out.size; omega)
    have KW := oh (K2.out.trans k3); clear hla hab k3
    obtain ⟨g, off, rfl, hg, hcap, ca, cb, ci, cj⟩ := rfour_at HLA.out
    have HGB : Hid (B < g) := oh (by have := HAB.out _ rfl; dsimp only at this; exact this)
    have HB1 := oh (blk HB.out KW.out); have HBB1 := oh (blk HBB.out KW.out)
    have KD : Hid (Kp wl wl.drew none) := oh (Kp.refl _ _).drew
    have HR0 := oh (blk HB1.out KD.out); have HBB0 := oh (blk HBB1.out KD.out)
    have HS0 : Hid ((fun V : World => V.cell? ⟨R, 10, none⟩ = some (I6 px) ∧ V.cell? ⟨R, 11, none⟩ = some (I6 py) ∧ V.cell? ⟨g, off, none⟩ = some (I6 a) ∧ V.cell? ⟨g, off + 1, none⟩ = some (I6 b) ∧ V.cell? ⟨g, off + 2, none⟩ = some (I6 i) ∧ V.cell? ⟨g, off + 3, none⟩ = some (I6 j)) wl.drew) := oh ⟨hcell HR0.out 10 HC10.out, hcell HR0.out 11 HC11.out, (KD.out.below.cell (p := ⟨g, off, none⟩) hg).trans ca, (KD.out.below.cell (p := ⟨g, off + 1, none⟩) hg).trans cb, (KD.out.below.cell (p := ⟨g, off + 2, none⟩) hg).trans ci, (KD.out.below.cell (p := ⟨g, off + 3, none⟩) hg).trans cj⟩
    clear ca cb ci cj; go_upto_region 11 with fail
    refine wp_region_last (fun V => V.cell? ⟨R, 10, none⟩ = some (I6 px) ∧ V.cell? ⟨R, 11, none⟩ = some (I6 py) ∧ V.cell? ⟨g, off, none⟩ = some (I6 a) ∧ V.cell? ⟨g, off + 1, none⟩ = some (I6 b) ∧ V.cell? ⟨g, off + 2, none⟩ = some (I6 i) ∧ V.cell? ⟨g, off + 3, none⟩ = some (I6 j)) 33 (by kernel_rfl) ?_ (fun eh => ?_)
    ·exact HS0.out
    have HGY : Hid (g < wl.drew.heap.size) := oh hg
    generalize wl.drew = Y at *
    refine tjL 0 rfl ?_; refine tjL 1 rfl ?_; refine tjL 2 rfl ?_; refine tjL 3 rfl ?_; refine tjL 4 rfl ?_; refine tjL 5 rfl ?_; refine tjL 6 rfl ?_; refine tjL 7 rfl ?_; refine tjL 8 rfl ?_; refine tjL 9 rfl ?_; refine tjL 10 rfl ?_; refine tjL 11 rfl ?_; refine tjL 12 rfl ?_; refine tjL 13 rfl ?_; refine tjL 14 rfl ?_; refine tjL 15 rfl ?_; refine tjL 16 rfl ?_; refine tjL 17 rfl ?_; refine tjL 18 rfl ?_; refine tjL 19 rfl ?_; refine tjL 20 rfl ?_; refine tjL 21 rfl ?_; refine tjL 22 rfl ?_; refine tjL 23 rfl ?_; refine tjL 24 rfl ?_; refine tjL 25 rfl ?_; refine tjL 26 rfl ?_; refine tjL 27 rfl ?_
    refine tjL 28 rfl ?_; refine tjL 29 rfl ?_; refine tjL 30 rfl ?_; refine tjL 31 rfl ?_; refine rdL 32 rfl (fun K hK => ?_); clear eh
    have f0 := fz HBB0.out 0
    have f1 := fz HBB0.out 1
    have f2 := fz HBB0.out 2
    have f3 := fz HBB0.out 3
    have f4 := fz HBB0.out 4
    have f5 := fz HBB0.out 5
    have f6 := fz HBB0.out 6
    have z0 : Y.cell? ⟨B, 0, none⟩ = some (I6 0) := hcell HBB0.out 0 rfl
    have z1 : Y.cell? ⟨B, 1, none⟩ = some (I6 0) := hcell HBB0.out 1 rfl
    have z2 : Y.cell? ⟨B, 2, none⟩ = some (I6 0) := hcell HBB0.out 2 rfl
    have z3 : Y.cell? ⟨B, 3, none⟩ = some (I6 0) := hcell HBB0.out 3 rfl
    have z4 : Y.cell? ⟨B, 4, none⟩ = some (I6 0) := hcell HBB0.out 4 rfl
    have z5 : Y.cell? ⟨B, 5, none⟩ = some (I6 0) := hcell HBB0.out 5 rfl
    have z6 : Y.cell? ⟨B, 6, none⟩ = some (I6 0) := hcell HBB0.out 6 rfl
    have w1 := HW1.out; have w2 := HW2.out; go_simp; try go_wp2_with fail
    clear f0 z0 f1 z1 f2 z2 f3 z3 f4 z4 f5 z5 f6 z6 w1 w2; have ks : Kp Y (((((((Y.setCell ⟨B, 0, none⟩ (I6 2)).setCell ⟨B, 1, none⟩ (I6 px)).setCell ⟨B, 2, none⟩ (I6 py)).setCell ⟨B, 3, none⟩ (I6 a)).setCell ⟨B, 4, none⟩ (I6 b)).setCell ⟨B, 5, none⟩ (I6 cx)).setCell ⟨B, 6, none⟩ (I6 cy)) (some B) := ((((((((Kp.refl Y (some B)).set _).set _).set _).set _).set _).set _).set _)
    have HF := oh (heap_seven HBB0.out (I6 2) (I6 px) (I6 py) (I6 a) (I6 b) (I6 cx) (I6 cy))
    have HKS := oh ks; refine hK.out _ _ ?_ (fun eh => ?_)
    ·have hne : ∀ q, q ≠ B → (some q : Option Nat) ≠ some B := fun q h e => h (Option.some.inj e)
     have hRB := HRB.out; have hGB := HGB.out; exact ⟨(ks.cell_far ⟨R, 10, none⟩ (lt_of_block HR0.out) (hne R (by omega))).trans HS0.out.1, (ks.cell_far ⟨R, 11, none⟩ (lt_of_block HR0.out) (hne R (by omega))).trans HS0.out.2.1, (ks.cell_far ⟨g, off, none⟩ HGY.out (hne g (by omega))).trans HS0.out.2.2.1, (ks.cell_far ⟨g, off + 1, none⟩ HGY.out (hne g (by omega))).trans HS0.out.2.2.2.1, (ks.cell_far ⟨g, off + 2, none⟩ HGY.out (hne g (by omega))).trans HS0.out.2.2.2.2.1, (ks.cell_far ⟨g, off + 3, none⟩ HGY.out (hne g (by omega))).trans HS0.out.2.2.2.2.2⟩
    clear hK K ks; try simp only [Act.put, sm]
    generalize (((((((Y.setCell ⟨B, 0, none⟩ (I6 2)).setCell ⟨B, 1, none⟩ (I6 px)).setCell ⟨B, 2, none⟩ (I6 py)).setCell ⟨B, 3, none⟩ (I6 a)).setCell ⟨B, 4, none⟩ (I6 b)).setCell ⟨B, 5, none⟩ (I6 cx)).setCell ⟨B, 6, none⟩ (I6 cy)) = Z at *
    refine rdE rfl (fun K hK => ?_); clear eh; go_simp; try go_wp2_with fail
    refine hK.out _ _ ?_
    clear hK K; try simp only [Act.put, sm]
    refine wpAnyL_done (by kernel_rfl) ?_ _
    go_wp2_with fail
    refine bodyPost_ret (fn := Tryz.f175) (results_ed_tmp (fn := Tryz.f175) (p := 4) (u := 5) (by rfl) _ Z B _ (by rfl) HF.out) (by rfl) ?_
    exact edge_yes HX.out rfl (Kp.of_own (KB.out.trans (KW.out.trans KD.out)) HKS.out (by rw [HBW.out]; exact Nat.le_refl _))
   | none =>
    have HC3 := oh (fun V => nums_not rpat_g3 HSL.out h3 V)
    have HX := oh (edgeOf_none (p := ⟨px, py⟩) h1 h2 h3)
    clear h1 h2 h3 hx hy; go_wp2_with fail
    refine (HC1.out _).mono ?_
    rintro e w1 ⟨⟨ao1, n1, cap1, rfl⟩, k1⟩; have K1 := oh (k1); clear k1; go_wp2_with fail
    refine (HC2.out _).mono ?_
    rintro e w2 ⟨⟨ao2, n2, cap2, rfl⟩, k2⟩; have K2 := oh (K1.out.trans k2); clear k2; go_wp2_with fail
    refine (HC3.out _).mono ?_
    rintro e w3 ⟨⟨ao3, n3, cap3, rfl⟩, k3⟩; have K3 := oh (K2.out.trans k3); clear k3; have HBB1 := oh (blk HBB.out K3.out); have KF := oh (KB.out.trans K3.out)
    have f0 := fz HBB1.out 0
    have f1 := fz HBB1.out 1
    have f2 := fz HBB1.out 2
    have f3 := fz HBB1.out 3
    have f4 := fz HBB1.out 4
    have f5 := fz HBB1.out 5
    have f6 := fz HBB1.out 6
    have z0 : w3.cell? ⟨B, 0, none⟩ = some (I6 0) := hcell HBB1.out 0 rfl
    have z1 : w3.cell? ⟨B, 1, none⟩ = some (I6 0) := hcell HBB1.out 1 rfl
    have z2 : w3.cell? ⟨B, 2, none⟩ = some (I6 0) := hcell HBB1.out 2 rfl
    have z3 : w3.cell? ⟨B, 3, none⟩ = some (I6 0) := hcell HBB1.out 3 rfl
    have z4 : w3.cell? ⟨B, 4, none⟩ = some (I6 0) := hcell HBB1.out 4 rfl
    have z5 : w3.cell? ⟨B, 5, none⟩ = some (I6 0) := hcell HBB1.out 5 rfl
    have z6 : w3.cell? ⟨B, 6, none⟩ = some (I6 0) := hcell HBB1.out 6 rfl
    go_wp2_with fail
    refine bodyPost_ret (fn := Tryz.f175) (results_ed_tmp (fn := Tryz.f175) (p := 4) (u := 5) (by rfl) _ _ B _ (by rfl) (heap_seven HBB1.out (I6 0) (I6 0) (I6 0) (I6 0) (I6 0) (I6 0) (I6 0))) (by rfl) ?_
    exact edge_no HX.out rfl (Kp.of_own KF.out ((((((((Kp.refl w3 (some B)).set _).set _).set _).set _).set _).set _).set _) HBS.out)
end Go.Proofs.YtljjbdbgedmadaaGreatDoor
