/- The reference's reader of an edge. Conditions: a line of at most 10^9 bytes; a place within its bounds. -/
import Derived.Test.YtljjbdbgedmadaaGreatDoorGi
namespace Go.Proofs.YtljjbdbgedmadaaGreatDoor
open Go.RowKit Go.Lib

theorem results_ed_tmp {fn : Func} {p u : Tmp} (h : fn.results = #[.cell p 123, .tmp u]) (tmps : Array Value) (w : World) (g : Nat) (cs : Array Value)
    (hp : tmps.getD p undef = .pointer (some ⟨g, 0, none⟩)) (hg : w.heap[g]? = some (.cells cs 123 (0, 0)) ∧ cs.size = 7) :
    (results fn tmps).run Tryz.prog w = .ok (.tuple #[.agg cs, tmps.getD u undef]) w := by
  have hp' : tmps[p]?.getD undef = .pointer (some ⟨g, 0, none⟩) := by simpa using hp
  have hi : (Tryz.prog.info? 123).map (·.size) = some cs.size := by rw [hg.2]; kernel_rfl
  simp [results, h, hp', asAddr, run_loadVar_row w g 123 123 cs (0, 0) _ hg.1 Tryz.underlying123 (by rfl) hi]
theorem heap_seven {w : World} {B : Nat} (h : w.heap[B]? = some (.cells #[.int .i64 0, .int .i64 0, .int .i64 0, .int .i64 0, .int .i64 0, .int .i64 0, .int .i64 0] 123 (0, 0))) (v0 v1 v2 v3 v4 v5 v6 : Value) :
    (((((((w.setCell ⟨B, 0, none⟩ (v0)).setCell ⟨B, 1, none⟩ (v1)).setCell ⟨B, 2, none⟩ (v2)).setCell ⟨B, 3, none⟩ (v3)).setCell ⟨B, 4, none⟩ (v4)).setCell ⟨B, 5, none⟩ (v5)).setCell ⟨B, 6, none⟩ (v6)).heap[B]? = some (.cells #[v0, v1, v2, v3, v4, v5, v6] 123 (0, 0)) ∧ (#[v0, v1, v2, v3, v4, v5, v6] : Array Value).size = 7 :=
  ⟨heap_set (o := 6) (v := v6) (heap_set (o := 5) (v := v5) (heap_set (o := 4) (v := v4) (heap_set (o := 3) (v := v3) (heap_set (o := 2) (v := v2) (heap_set (o := 1) (v := v1) (heap_set (o := 0) (v := v0) h)))))), rfl⟩
theorem rlen4 {ns : List Int} {l : List (List UInt8)} (h : ns.length = l.length) (h2 : l.length = 4) : ∃ a b c d, ns = [a, b, c, d] := by
  match ns, h with
  | [a, b, c, d], _ => exact ⟨a, b, c, d, rfl⟩
  | [], h => simp at h; omega
  | [_], h => simp at h; omega
  | [_, _], h => simp at h; omega
  | [_, _, _], h => simp at h; omega
  | _ :: _ :: _ :: _ :: _ :: _, h => simp at h; omega
theorem rfour_at {w : World} {ao : Option Addr} {cap : Nat} {a b c d : Int} (h : LiesAt 1 intVal w ao cap [a, b, c, d]) : ∃ g off, ao = some ⟨g, off, none⟩ ∧ g < w.heap.size ∧ 4 ≤ cap ∧ w.cell? ⟨g, off, none⟩ = some (.int .i64 a) ∧ w.cell? ⟨g, off + 1, none⟩ = some (.int .i64 b) ∧ w.cell? ⟨g, off + 2, none⟩ = some (.int .i64 c) ∧ w.cell? ⟨g, off + 3, none⟩ = some (.int .i64 d) := by
  obtain ⟨g, off, e, hg, hc, hr⟩ := h.int 0 (by simp)
  exact ⟨g, off, e, hg, hc, hr 0 (by simp), hr 1 (by simp), hr 2 (by simp), hr 3 (by simp)⟩
/-- What the reader of an edge comes to. -/
def EdgeRIs (p : Pl.Pt) (s : List UInt8) (w : World) (E : Ending) (w' : World) : Prop := (match Dl.edgeOf p s with
  | some e => E = .returned (.tuple #[.agg (edC e).toArray, .bool true])
  | none => E = .returned (.tuple #[.agg #[.int .i64 0, .int .i64 0, .int .i64 0, .int .i64 0, .int .i64 0, .int .i64 0, .int .i64 0], .bool false])) ∧ Kp w w' none
theorem edge_yes {p : Pl.Pt} {s : List UInt8} {w w' : World} {e : Pl.Ed} {E : Ending} (h : Dl.edgeOf p s = some e) (hE : E = .returned (.tuple #[.agg (edC e).toArray, .bool true])) (k : Kp w w' none) : EdgeRIs p s w E w' := by
  unfold EdgeRIs; rw [h]; exact ⟨hE, k⟩
theorem edge_no {p : Pl.Pt} {s : List UInt8} {w w' : World} {E : Ending} (h : Dl.edgeOf p s = none) (hE : E = .returned (.tuple #[.agg #[.int .i64 0, .int .i64 0, .int .i64 0, .int .i64 0, .int .i64 0, .int .i64 0, .int .i64 0], .bool false])) (k : Kp w w' none) : EdgeRIs p s w E w' := by
  unfold EdgeRIs; rw [h]; exact ⟨hE, k⟩
theorem strip_app : ∀ {p l r : List UInt8}, Dl.strip p l = some r → l = p ++ r
  | [], l, r, h => by injection h
  | a :: p, [], r, h => by cases h
  | a :: p, c :: l, r, h => by
    unfold Dl.strip at h
    split at h
    · rename_i e; subst e; rw [strip_app h]; rfl
    · cases h
/-- A line that is a right arc is no left one. -/
theorem g2_g3 {s : List UInt8} {ps qs : List (List UInt8)} {ns : List Int} (h : Dl.scan [71, 48, 50, 88] ps s = some ns) : Dl.scan [71, 48, 51, 88] qs s = none := by
  unfold Dl.scan at h ⊢
  cases hs : Dl.strip [71, 48, 50, 88] s with
  | none => rw [hs] at h; cases h
  | some r => rw [strip_app hs]; rfl
theorem edgeOf_line {p : Pl.Pt} {s : List UInt8} {a b : Int} (h : Dl.scan [71, 48, 49, 88] [[89], []] s = some [a, b]) : Dl.edgeOf p s = some ⟨1, p, ⟨a, b⟩, ⟨0, 0⟩⟩ := by unfold Dl.edgeOf; rw [h]
theorem edgeOf_two {p : Pl.Pt} {s : List UInt8} {a b i j : Int} (h1 : Dl.scan [71, 48, 49, 88] [[89], []] s = none) (h : Dl.scan [71, 48, 50, 88] [[89], [73], [74], []] s = some [a, b, i, j]) : Dl.edgeOf p s = some ⟨3, p, ⟨a, b⟩, ⟨p.x + i, p.y + j⟩⟩ := by unfold Dl.edgeOf; rw [h1, g2_g3 h, h]
theorem edgeOf_three {p : Pl.Pt} {s : List UInt8} {a b i j : Int} (h1 : Dl.scan [71, 48, 49, 88] [[89], []] s = none) (h : Dl.scan [71, 48, 51, 88] [[89], [73], [74], []] s = some [a, b, i, j]) : Dl.edgeOf p s = some ⟨2, p, ⟨a, b⟩, ⟨p.x + i, p.y + j⟩⟩ := by unfold Dl.edgeOf; rw [h1, h]
theorem edgeOf_none {p : Pl.Pt} {s : List UInt8} (h1 : Dl.scan [71, 48, 49, 88] [[89], []] s = none) (h2 : Dl.scan [71, 48, 50, 88] [[89], [73], [74], []] s = none) (h3 : Dl.scan [71, 48, 51, 88] [[89], [73], [74], []] s = none) : Dl.edgeOf p s = none := by unfold Dl.edgeOf; rw [h1, h3, h2]
set_option maxHeartbeats 8000000 in
set_option maxRecDepth 100000 in
theorem redge_any (R : Nat) (px py : Int) (s : List UInt8) (w : World) (cs : Array Value) (hb : w.heap[R]? = some (.cells cs 181 (0, 0))) (hc10 : cs[10]? = some (.int .i64 px)) (hc11 : cs[11]? = some (.int .i64 py)) (hs : s.length ≤ 1000000000) (hx : Dl.NumB px) (hy : Dl.NumB py) : Calls Tryz.prog 175 #[.pointer (some ⟨R, 0, none⟩), str s] w (EdgeRIs ⟨px, py⟩ s w) := by
  have HSL := Lib.hid hs
  have HC10 := Lib.hid hc10
  have HC11 := Lib.hid hc11
  have hRB : R < w.heap.size := lt_of_block hb
  have HBB := Lib.hid (show (w.alloc (.cells #[.int .i64 0, .int .i64 0, .int .i64 0, .int .i64 0, .int .i64 0, .int .i64 0, .int .i64 0] 123)).heap[w.heap.size]? = some (.cells #[.int .i64 0, .int .i64 0, .int .i64 0, .int .i64 0, .int .i64 0, .int .i64 0, .int .i64 0] 123 (0, 0)) from heap_alloc_new w _)
  have KB : Hid (Kp w (w.alloc (.cells #[.int .i64 0, .int .i64 0, .int .i64 0, .int .i64 0, .int .i64 0, .int .i64 0, .int .i64 0] 123)) none) := Lib.hid ((Kp.refl w none).alloc _)
  have HB := Lib.hid (blk hb KB.out)
  have HAS : Hid ((w.alloc (.cells #[.int .i64 0, .int .i64 0, .int .i64 0, .int .i64 0, .int .i64 0, .int .i64 0, .int .i64 0] 123)).heap.size = w.heap.size + 1) := Lib.hid (by simp)
  go_enter Tryz.func175, Tryz.ntmps175
  go_upto_region 1 with fail
  generalize w.alloc (.cells #[.int .i64 0, .int .i64 0, .int .i64 0, .int .i64 0, .int .i64 0, .int .i64 0, .int .i64 0] 123) = X at *
  obtain ⟨B, hB⟩ : ∃ x, w.heap.size = x := ⟨_, rfl⟩
  have HBW := Lib.hid hB
  have HBS : Hid (w.heap.size ≤ B) := Lib.hid (by omega)
  rw [hB] at HBB hRB HAS ⊢
  have HRB := Lib.hid hRB
  clear hB hRB hb hs hc10 hc11
  cases h1 : Dl.scan [71, 48, 49, 88] [[89], []] s with
  | some ns =>
    obtain ⟨a, b, rfl⟩ := len2 (Dl.scan_some h1).1 rfl
    have HC1 := Lib.hid (fun V => nums_yes rpat_g1 HSL.out h1 V)
    have HX := Lib.hid (edgeOf_line (p := ⟨px, py⟩) h1)
    clear h1 hx hy
    go_wp2_with fail
    refine (HC1.out _).mono ?_
    rintro e wl ⟨⟨ao, cap, rfl, hla, hab⟩, k1⟩
    have HLA := Lib.hid hla
    have HAB : Hid (∀ q, ao = some q → B + 1 ≤ q.block) := Lib.hid (fun q hq => by have h1 := hab q hq; have h2 := HAS.out; omega)
    have KW := Lib.hid (k1)
    clear hla hab k1
    obtain ⟨g, off, rfl, hg, hcap, ca, cb⟩ := two_at HLA.out
    have HGB : Hid (B < g) := Lib.hid (by have := HAB.out _ rfl; dsimp only at this; exact this)
    have HB1 := Lib.hid (blk HB.out KW.out)
    have HBB1 := Lib.hid (blk HBB.out KW.out)
    have KD : Hid (Kp wl wl.drew none) := Lib.hid (Kp.refl _ _).drew
    have HR0 := Lib.hid (blk HB1.out KD.out)
    have HBB0 := Lib.hid (blk HBB1.out KD.out)
    have HS0 : Hid ((fun V : World => V.cell? ⟨R, 10, none⟩ = some (.int .i64 px) ∧ V.cell? ⟨R, 11, none⟩ = some (.int .i64 py) ∧ V.cell? ⟨g, off, none⟩ = some (.int .i64 a) ∧ V.cell? ⟨g, off + 1, none⟩ = some (.int .i64 b)) wl.drew) := Lib.hid ⟨hcell HR0.out 10 HC10.out, hcell HR0.out 11 HC11.out, (KD.out.below.cell (p := ⟨g, off, none⟩) hg).trans ca, (KD.out.below.cell (p := ⟨g, off + 1, none⟩) hg).trans cb⟩
    clear ca cb
    go_upto_region 3 with fail
    refine wp_region_last (fun V => V.cell? ⟨R, 10, none⟩ = some (.int .i64 px) ∧ V.cell? ⟨R, 11, none⟩ = some (.int .i64 py) ∧ V.cell? ⟨g, off, none⟩ = some (.int .i64 a) ∧ V.cell? ⟨g, off + 1, none⟩ = some (.int .i64 b)) 13 (by kernel_rfl) ?_ (fun hHeld => ?_)
    · exact HS0.out
    have HGY : Hid (g < wl.drew.heap.size) := Lib.hid hg
    generalize wl.drew = Y at *
    refine tkL 0 rfl ?_
    try simp only [Act.put, sm]
    refine tkL 1 rfl ?_
    try simp only [Act.put, sm]
    refine tkL 2 rfl ?_
    try simp only [Act.put, sm]
    refine tkL 3 rfl ?_
    try simp only [Act.put, sm]
    refine tkL 4 rfl ?_
    try simp only [Act.put, sm]
    refine tkL 5 rfl ?_
    try simp only [Act.put, sm]
    refine tkL 6 rfl ?_
    try simp only [Act.put, sm]
    refine tkL 7 rfl ?_
    try simp only [Act.put, sm]
    refine tkL 8 rfl ?_
    try simp only [Act.put, sm]
    refine tkL 9 rfl ?_
    try simp only [Act.put, sm]
    refine tkL 10 rfl ?_
    try simp only [Act.put, sm]
    refine tkL 11 rfl ?_
    try simp only [Act.put, sm]
    refine wpAnyL_ready (rs := [12]) (by kernel_rfl) (by simp) ?_
    refine AllReadyL.cons (o := _) rfl (fun K hK => ?_) AllReadyL.nil
    clear hHeld
    have f0 := Lib.frozen_of_heap HBB0.out 0
    have f1 := Lib.frozen_of_heap HBB0.out 1
    have f2 := Lib.frozen_of_heap HBB0.out 2
    have f3 := Lib.frozen_of_heap HBB0.out 3
    have f4 := Lib.frozen_of_heap HBB0.out 4
    have f5 := Lib.frozen_of_heap HBB0.out 5
    have f6 := Lib.frozen_of_heap HBB0.out 6
    have z0 : Y.cell? ⟨B, 0, none⟩ = some (.int .i64 0) := hcell HBB0.out 0 rfl
    have z1 : Y.cell? ⟨B, 1, none⟩ = some (.int .i64 0) := hcell HBB0.out 1 rfl
    have z2 : Y.cell? ⟨B, 2, none⟩ = some (.int .i64 0) := hcell HBB0.out 2 rfl
    have z3 : Y.cell? ⟨B, 3, none⟩ = some (.int .i64 0) := hcell HBB0.out 3 rfl
    have z4 : Y.cell? ⟨B, 4, none⟩ = some (.int .i64 0) := hcell HBB0.out 4 rfl
    have z5 : Y.cell? ⟨B, 5, none⟩ = some (.int .i64 0) := hcell HBB0.out 5 rfl
    have z6 : Y.cell? ⟨B, 6, none⟩ = some (.int .i64 0) := hcell HBB0.out 6 rfl
    go_simp
    try go_wp2_with fail
    clear f0 z0 f1 z1 f2 z2 f3 z3 f4 z4 f5 z5 f6 z6
    have ks : Kp Y (((((((Y.setCell ⟨B, 0, none⟩ (.int .i64 1)).setCell ⟨B, 1, none⟩ (.int .i64 px)).setCell ⟨B, 2, none⟩ (.int .i64 py)).setCell ⟨B, 3, none⟩ (.int .i64 a)).setCell ⟨B, 4, none⟩ (.int .i64 b)).setCell ⟨B, 5, none⟩ (.int .i64 0)).setCell ⟨B, 6, none⟩ (.int .i64 0)) (some B) := ((((((((Kp.refl Y (some B)).set _).set _).set _).set _).set _).set _).set _)
    have HF := Lib.hid (heap_seven HBB0.out (.int .i64 1) (.int .i64 px) (.int .i64 py) (.int .i64 a) (.int .i64 b) (.int .i64 0) (.int .i64 0))
    have HKS := Lib.hid ks
    refine hK.out _ _ ?_ (fun hHeld => ?_)
    · have hne : ∀ q, q ≠ B → (some q : Option Nat) ≠ some B := fun q h e => h (Option.some.inj e)
      have hRB := HRB.out
      have hGB := HGB.out
      exact ⟨(ks.cell_far ⟨R, 10, none⟩ (lt_of_block HR0.out) (hne R (by omega))).trans HS0.out.1, (ks.cell_far ⟨R, 11, none⟩ (lt_of_block HR0.out) (hne R (by omega))).trans HS0.out.2.1, (ks.cell_far ⟨g, off, none⟩ HGY.out (hne g (by omega))).trans HS0.out.2.2.1, (ks.cell_far ⟨g, off + 1, none⟩ HGY.out (hne g (by omega))).trans HS0.out.2.2.2⟩
    clear hK K ks
    try simp only [Act.put, sm]
    generalize (((((((Y.setCell ⟨B, 0, none⟩ (.int .i64 1)).setCell ⟨B, 1, none⟩ (.int .i64 px)).setCell ⟨B, 2, none⟩ (.int .i64 py)).setCell ⟨B, 3, none⟩ (.int .i64 a)).setCell ⟨B, 4, none⟩ (.int .i64 b)).setCell ⟨B, 5, none⟩ (.int .i64 0)).setCell ⟨B, 6, none⟩ (.int .i64 0)) = Z at *
    refine wpAnyL_ready (rs := [13]) (by kernel_rfl) (by simp) ?_
    refine AllReadyL.last (o := _) rfl (fun K hK => ?_)
    clear hHeld
    go_simp
    try go_wp2_with fail
    refine hK.out _ _ ?_
    clear hK K
    try simp only [Act.put, sm]
    refine wpAnyL_done (by kernel_rfl) ?_ _
    go_wp2_with fail
    refine bodyPost_ret (fn := Tryz.f175) (results_ed_tmp (fn := Tryz.f175) (p := 4) (u := 5) (by rfl) _ Z B _ (by rfl) HF.out) (by rfl) ?_
    exact edge_yes HX.out rfl (Kp.of_own (KB.out.trans (KW.out.trans KD.out)) HKS.out (by rw [HBW.out]; exact Nat.le_refl _))
  | none =>
    have HC1 := Lib.hid (fun V => nums_not rpat_g1 HSL.out h1 V)
    cases h2 : Dl.scan [71, 48, 50, 88] [[89], [73], [74], []] s with
    | some ns =>
      obtain ⟨a, b, i, j, rfl⟩ := rlen4 (Dl.scan_some h2).1 rfl
      have hi := (Dl.scan_some h2).2 i (by simp)
      have hj := (Dl.scan_some h2).2 j (by simp)
      have HC2 := Lib.hid (fun V => nums_yes rpat_g2 HSL.out h2 V)
      have HX := edgeOf_two (p := ⟨px, py⟩) h1 h2
      unfold Dl.NumB at hx hy hi hj
      dsimp only at HX
      have HW1 : Hid (IntKind.i64.wrap (px + i) = px + i) := Lib.hid (by rw [IntKind.wrap_i64]; omega)
      have HW2 : Hid (IntKind.i64.wrap (py + j) = py + j) := Lib.hid (by rw [IntKind.wrap_i64]; omega)
      obtain ⟨cx, hcx⟩ : ∃ x, px + i = x := ⟨_, rfl⟩
      obtain ⟨cy, hcy⟩ : ∃ x, py + j = x := ⟨_, rfl⟩
      rw [hcx, hcy] at HX
      have HX := Lib.hid HX
      have HW1 := Lib.hid (HW1.out.trans hcx)
      have HW2 := Lib.hid (HW2.out.trans hcy)
      clear h1 h2 hx hy hi hj hcx hcy
      go_wp2_with fail
      refine (HC1.out _).mono ?_
      rintro e w1 ⟨⟨ao1, n1, cap1, rfl⟩, k1⟩
      have K1 := Lib.hid (k1)
      clear k1
      go_wp2_with fail
      refine (HC2.out _).mono ?_
      rintro e wl ⟨⟨ao, cap, rfl, hla, hab⟩, k2⟩
      have HLA := Lib.hid hla
      have HAB : Hid (∀ q, ao = some q → B + 1 ≤ q.block) := Lib.hid (fun q hq => by have h1 := hab q hq; have h2 := HAS.out; have h3 := K1.out.size; omega)
      have KW := Lib.hid (K1.out.trans k2)
      clear hla hab k2
      obtain ⟨g, off, rfl, hg, hcap, ca, cb, ci, cj⟩ := rfour_at HLA.out
      have HGB : Hid (B < g) := Lib.hid (by have := HAB.out _ rfl; dsimp only at this; exact this)
      have HB1 := Lib.hid (blk HB.out KW.out)
      have HBB1 := Lib.hid (blk HBB.out KW.out)
      have KD : Hid (Kp wl wl.drew none) := Lib.hid (Kp.refl _ _).drew
      have HR0 := Lib.hid (blk HB1.out KD.out)
      have HBB0 := Lib.hid (blk HBB1.out KD.out)
      have HS0 : Hid ((fun V : World => V.cell? ⟨R, 10, none⟩ = some (.int .i64 px) ∧ V.cell? ⟨R, 11, none⟩ = some (.int .i64 py) ∧ V.cell? ⟨g, off, none⟩ = some (.int .i64 a) ∧ V.cell? ⟨g, off + 1, none⟩ = some (.int .i64 b) ∧ V.cell? ⟨g, off + 2, none⟩ = some (.int .i64 i) ∧ V.cell? ⟨g, off + 3, none⟩ = some (.int .i64 j)) wl.drew) := Lib.hid ⟨hcell HR0.out 10 HC10.out, hcell HR0.out 11 HC11.out, (KD.out.below.cell (p := ⟨g, off, none⟩) hg).trans ca, (KD.out.below.cell (p := ⟨g, off + 1, none⟩) hg).trans cb, (KD.out.below.cell (p := ⟨g, off + 2, none⟩) hg).trans ci, (KD.out.below.cell (p := ⟨g, off + 3, none⟩) hg).trans cj⟩
      clear ca cb ci cj
      go_upto_region 11 with fail
      refine wp_region_last (fun V => V.cell? ⟨R, 10, none⟩ = some (.int .i64 px) ∧ V.cell? ⟨R, 11, none⟩ = some (.int .i64 py) ∧ V.cell? ⟨g, off, none⟩ = some (.int .i64 a) ∧ V.cell? ⟨g, off + 1, none⟩ = some (.int .i64 b) ∧ V.cell? ⟨g, off + 2, none⟩ = some (.int .i64 i) ∧ V.cell? ⟨g, off + 3, none⟩ = some (.int .i64 j)) 33 (by kernel_rfl) ?_ (fun hHeld => ?_)
      · exact HS0.out
      have HGY : Hid (g < wl.drew.heap.size) := Lib.hid hg
      generalize wl.drew = Y at *
      refine tkL 0 rfl ?_
      try simp only [Act.put, sm]
      refine tkL 1 rfl ?_
      try simp only [Act.put, sm]
      refine tkL 2 rfl ?_
      try simp only [Act.put, sm]
      refine tkL 3 rfl ?_
      try simp only [Act.put, sm]
      refine tkL 4 rfl ?_
      try simp only [Act.put, sm]
      refine tkL 5 rfl ?_
      try simp only [Act.put, sm]
      refine tkL 6 rfl ?_
      try simp only [Act.put, sm]
      refine tkL 7 rfl ?_
      try simp only [Act.put, sm]
      refine tkL 8 rfl ?_
      try simp only [Act.put, sm]
      refine tkL 9 rfl ?_
      try simp only [Act.put, sm]
      refine tkL 10 rfl ?_
      try simp only [Act.put, sm]
      refine tkL 11 rfl ?_
      try simp only [Act.put, sm]
      refine tkL 12 rfl ?_
      try simp only [Act.put, sm]
      refine tkL 13 rfl ?_
      try simp only [Act.put, sm]
      refine tkL 14 rfl ?_
      try simp only [Act.put, sm]
      refine tkL 15 rfl ?_
      try simp only [Act.put, sm]
      refine tkL 16 rfl ?_
      try simp only [Act.put, sm]
      refine tkL 17 rfl ?_
      try simp only [Act.put, sm]
      refine tkL 18 rfl ?_
      try simp only [Act.put, sm]
      refine tkL 19 rfl ?_
      try simp only [Act.put, sm]
      refine tkL 20 rfl ?_
      try simp only [Act.put, sm]
      refine tkL 21 rfl ?_
      try simp only [Act.put, sm]
      refine tkL 22 rfl ?_
      try simp only [Act.put, sm]
      refine tkL 23 rfl ?_
      try simp only [Act.put, sm]
      refine tkL 24 rfl ?_
      try simp only [Act.put, sm]
      refine tkL 25 rfl ?_
      try simp only [Act.put, sm]
      refine tkL 26 rfl ?_
      try simp only [Act.put, sm]
      refine tkL 27 rfl ?_
      try simp only [Act.put, sm]
      refine tkL 28 rfl ?_
      try simp only [Act.put, sm]
      refine tkL 29 rfl ?_
      try simp only [Act.put, sm]
      refine tkL 30 rfl ?_
      try simp only [Act.put, sm]
      refine tkL 31 rfl ?_
      try simp only [Act.put, sm]
      refine wpAnyL_ready (rs := [32]) (by kernel_rfl) (by simp) ?_
      refine AllReadyL.cons (o := _) rfl (fun K hK => ?_) AllReadyL.nil
      clear hHeld
      have f0 := Lib.frozen_of_heap HBB0.out 0
      have f1 := Lib.frozen_of_heap HBB0.out 1
      have f2 := Lib.frozen_of_heap HBB0.out 2
      have f3 := Lib.frozen_of_heap HBB0.out 3
      have f4 := Lib.frozen_of_heap HBB0.out 4
      have f5 := Lib.frozen_of_heap HBB0.out 5
      have f6 := Lib.frozen_of_heap HBB0.out 6
      have z0 : Y.cell? ⟨B, 0, none⟩ = some (.int .i64 0) := hcell HBB0.out 0 rfl
      have z1 : Y.cell? ⟨B, 1, none⟩ = some (.int .i64 0) := hcell HBB0.out 1 rfl
      have z2 : Y.cell? ⟨B, 2, none⟩ = some (.int .i64 0) := hcell HBB0.out 2 rfl
      have z3 : Y.cell? ⟨B, 3, none⟩ = some (.int .i64 0) := hcell HBB0.out 3 rfl
      have z4 : Y.cell? ⟨B, 4, none⟩ = some (.int .i64 0) := hcell HBB0.out 4 rfl
      have z5 : Y.cell? ⟨B, 5, none⟩ = some (.int .i64 0) := hcell HBB0.out 5 rfl
      have z6 : Y.cell? ⟨B, 6, none⟩ = some (.int .i64 0) := hcell HBB0.out 6 rfl
      have w1 := HW1.out
      have w2 := HW2.out
      go_simp
      try go_wp2_with fail
      clear f0 z0 f1 z1 f2 z2 f3 z3 f4 z4 f5 z5 f6 z6 w1 w2
      have ks : Kp Y (((((((Y.setCell ⟨B, 0, none⟩ (.int .i64 3)).setCell ⟨B, 1, none⟩ (.int .i64 px)).setCell ⟨B, 2, none⟩ (.int .i64 py)).setCell ⟨B, 3, none⟩ (.int .i64 a)).setCell ⟨B, 4, none⟩ (.int .i64 b)).setCell ⟨B, 5, none⟩ (.int .i64 cx)).setCell ⟨B, 6, none⟩ (.int .i64 cy)) (some B) := ((((((((Kp.refl Y (some B)).set _).set _).set _).set _).set _).set _).set _)
      have HF := Lib.hid (heap_seven HBB0.out (.int .i64 3) (.int .i64 px) (.int .i64 py) (.int .i64 a) (.int .i64 b) (.int .i64 cx) (.int .i64 cy))
      have HKS := Lib.hid ks
      refine hK.out _ _ ?_ (fun hHeld => ?_)
      · have hne : ∀ q, q ≠ B → (some q : Option Nat) ≠ some B := fun q h e => h (Option.some.inj e)
        have hRB := HRB.out
        have hGB := HGB.out
        exact ⟨(ks.cell_far ⟨R, 10, none⟩ (lt_of_block HR0.out) (hne R (by omega))).trans HS0.out.1, (ks.cell_far ⟨R, 11, none⟩ (lt_of_block HR0.out) (hne R (by omega))).trans HS0.out.2.1, (ks.cell_far ⟨g, off, none⟩ HGY.out (hne g (by omega))).trans HS0.out.2.2.1, (ks.cell_far ⟨g, off + 1, none⟩ HGY.out (hne g (by omega))).trans HS0.out.2.2.2.1, (ks.cell_far ⟨g, off + 2, none⟩ HGY.out (hne g (by omega))).trans HS0.out.2.2.2.2.1, (ks.cell_far ⟨g, off + 3, none⟩ HGY.out (hne g (by omega))).trans HS0.out.2.2.2.2.2⟩
      clear hK K ks
      try simp only [Act.put, sm]
      generalize (((((((Y.setCell ⟨B, 0, none⟩ (.int .i64 3)).setCell ⟨B, 1, none⟩ (.int .i64 px)).setCell ⟨B, 2, none⟩ (.int .i64 py)).setCell ⟨B, 3, none⟩ (.int .i64 a)).setCell ⟨B, 4, none⟩ (.int .i64 b)).setCell ⟨B, 5, none⟩ (.int .i64 cx)).setCell ⟨B, 6, none⟩ (.int .i64 cy)) = Z at *
      refine wpAnyL_ready (rs := [33]) (by kernel_rfl) (by simp) ?_
      refine AllReadyL.last (o := _) rfl (fun K hK => ?_)
      clear hHeld
      go_simp
      try go_wp2_with fail
      refine hK.out _ _ ?_
      clear hK K
      try simp only [Act.put, sm]
      refine wpAnyL_done (by kernel_rfl) ?_ _
      go_wp2_with fail
      refine bodyPost_ret (fn := Tryz.f175) (results_ed_tmp (fn := Tryz.f175) (p := 4) (u := 5) (by rfl) _ Z B _ (by rfl) HF.out) (by rfl) ?_
      exact edge_yes HX.out rfl (Kp.of_own (KB.out.trans (KW.out.trans KD.out)) HKS.out (by rw [HBW.out]; exact Nat.le_refl _))
    | none =>
      have HC2 := Lib.hid (fun V => nums_not rpat_g2 HSL.out h2 V)
      cases h3 : Dl.scan [71, 48, 51, 88] [[89], [73], [74], []] s with
      | some ns =>
        obtain ⟨a, b, i, j, rfl⟩ := rlen4 (Dl.scan_some h3).1 rfl
        have hi := (Dl.scan_some h3).2 i (by simp)
        have hj := (Dl.scan_some h3).2 j (by simp)
        have HC3 := Lib.hid (fun V => nums_yes rpat_g3 HSL.out h3 V)
        have HX := edgeOf_three (p := ⟨px, py⟩) h1 h3
        unfold Dl.NumB at hx hy hi hj
        dsimp only at HX
        have HW1 : Hid (IntKind.i64.wrap (px + i) = px + i) := Lib.hid (by rw [IntKind.wrap_i64]; omega)
        have HW2 : Hid (IntKind.i64.wrap (py + j) = py + j) := Lib.hid (by rw [IntKind.wrap_i64]; omega)
        obtain ⟨cx, hcx⟩ : ∃ x, px + i = x := ⟨_, rfl⟩
        obtain ⟨cy, hcy⟩ : ∃ x, py + j = x := ⟨_, rfl⟩
        rw [hcx, hcy] at HX
        have HX := Lib.hid HX
        have HW1 := Lib.hid (HW1.out.trans hcx)
        have HW2 := Lib.hid (HW2.out.trans hcy)
        clear h1 h2 h3 hx hy hi hj hcx hcy
        go_wp2_with fail
        refine (HC1.out _).mono ?_
        rintro e w1 ⟨⟨ao1, n1, cap1, rfl⟩, k1⟩
        have K1 := Lib.hid (k1)
        clear k1
        go_wp2_with fail
        refine (HC2.out _).mono ?_
        rintro e w2 ⟨⟨ao2, n2, cap2, rfl⟩, k2⟩
        have K2 := Lib.hid (K1.out.trans k2)
        clear k2
        go_wp2_with fail
        refine (HC3.out _).mono ?_
        rintro e wl ⟨⟨ao, cap, rfl, hla, hab⟩, k3⟩
        have HLA := Lib.hid hla
        have HAB : Hid (∀ q, ao = some q → B + 1 ≤ q.block) := Lib.hid (fun q hq => by have h1 := hab q hq; have h2 := HAS.out; have h3 := K2.out.size; omega)
        have KW := Lib.hid (K2.out.trans k3)
        clear hla hab k3
        obtain ⟨g, off, rfl, hg, hcap, ca, cb, ci, cj⟩ := rfour_at HLA.out
        have HGB : Hid (B < g) := Lib.hid (by have := HAB.out _ rfl; dsimp only at this; exact this)
        have HB1 := Lib.hid (blk HB.out KW.out)
        have HBB1 := Lib.hid (blk HBB.out KW.out)
        have KD : Hid (Kp wl wl.drew none) := Lib.hid (Kp.refl _ _).drew
        have HR0 := Lib.hid (blk HB1.out KD.out)
        have HBB0 := Lib.hid (blk HBB1.out KD.out)
        have HS0 : Hid ((fun V : World => V.cell? ⟨R, 10, none⟩ = some (.int .i64 px) ∧ V.cell? ⟨R, 11, none⟩ = some (.int .i64 py) ∧ V.cell? ⟨g, off, none⟩ = some (.int .i64 a) ∧ V.cell? ⟨g, off + 1, none⟩ = some (.int .i64 b) ∧ V.cell? ⟨g, off + 2, none⟩ = some (.int .i64 i) ∧ V.cell? ⟨g, off + 3, none⟩ = some (.int .i64 j)) wl.drew) := Lib.hid ⟨hcell HR0.out 10 HC10.out, hcell HR0.out 11 HC11.out, (KD.out.below.cell (p := ⟨g, off, none⟩) hg).trans ca, (KD.out.below.cell (p := ⟨g, off + 1, none⟩) hg).trans cb, (KD.out.below.cell (p := ⟨g, off + 2, none⟩) hg).trans ci, (KD.out.below.cell (p := ⟨g, off + 3, none⟩) hg).trans cj⟩
        clear ca cb ci cj
        go_upto_region 11 with fail
        refine wp_region_last (fun V => V.cell? ⟨R, 10, none⟩ = some (.int .i64 px) ∧ V.cell? ⟨R, 11, none⟩ = some (.int .i64 py) ∧ V.cell? ⟨g, off, none⟩ = some (.int .i64 a) ∧ V.cell? ⟨g, off + 1, none⟩ = some (.int .i64 b) ∧ V.cell? ⟨g, off + 2, none⟩ = some (.int .i64 i) ∧ V.cell? ⟨g, off + 3, none⟩ = some (.int .i64 j)) 33 (by kernel_rfl) ?_ (fun hHeld => ?_)
        · exact HS0.out
        have HGY : Hid (g < wl.drew.heap.size) := Lib.hid hg
        generalize wl.drew = Y at *
        refine tkL 0 rfl ?_
        try simp only [Act.put, sm]
        refine tkL 1 rfl ?_
        try simp only [Act.put, sm]
        refine tkL 2 rfl ?_
        try simp only [Act.put, sm]
        refine tkL 3 rfl ?_
        try simp only [Act.put, sm]
        refine tkL 4 rfl ?_
        try simp only [Act.put, sm]
        refine tkL 5 rfl ?_
        try simp only [Act.put, sm]
        refine tkL 6 rfl ?_
        try simp only [Act.put, sm]
        refine tkL 7 rfl ?_
        try simp only [Act.put, sm]
        refine tkL 8 rfl ?_
        try simp only [Act.put, sm]
        refine tkL 9 rfl ?_
        try simp only [Act.put, sm]
        refine tkL 10 rfl ?_
        try simp only [Act.put, sm]
        refine tkL 11 rfl ?_
        try simp only [Act.put, sm]
        refine tkL 12 rfl ?_
        try simp only [Act.put, sm]
        refine tkL 13 rfl ?_
        try simp only [Act.put, sm]
        refine tkL 14 rfl ?_
        try simp only [Act.put, sm]
        refine tkL 15 rfl ?_
        try simp only [Act.put, sm]
        refine tkL 16 rfl ?_
        try simp only [Act.put, sm]
        refine tkL 17 rfl ?_
        try simp only [Act.put, sm]
        refine tkL 18 rfl ?_
        try simp only [Act.put, sm]
        refine tkL 19 rfl ?_
        try simp only [Act.put, sm]
        refine tkL 20 rfl ?_
        try simp only [Act.put, sm]
        refine tkL 21 rfl ?_
        try simp only [Act.put, sm]
        refine tkL 22 rfl ?_
        try simp only [Act.put, sm]
        refine tkL 23 rfl ?_
        try simp only [Act.put, sm]
        refine tkL 24 rfl ?_
        try simp only [Act.put, sm]
        refine tkL 25 rfl ?_
        try simp only [Act.put, sm]
        refine tkL 26 rfl ?_
        try simp only [Act.put, sm]
        refine tkL 27 rfl ?_
        try simp only [Act.put, sm]
        refine tkL 28 rfl ?_
        try simp only [Act.put, sm]
        refine tkL 29 rfl ?_
        try simp only [Act.put, sm]
        refine tkL 30 rfl ?_
        try simp only [Act.put, sm]
        refine tkL 31 rfl ?_
        try simp only [Act.put, sm]
        refine wpAnyL_ready (rs := [32]) (by kernel_rfl) (by simp) ?_
        refine AllReadyL.cons (o := _) rfl (fun K hK => ?_) AllReadyL.nil
        clear hHeld
        have f0 := Lib.frozen_of_heap HBB0.out 0
        have f1 := Lib.frozen_of_heap HBB0.out 1
        have f2 := Lib.frozen_of_heap HBB0.out 2
        have f3 := Lib.frozen_of_heap HBB0.out 3
        have f4 := Lib.frozen_of_heap HBB0.out 4
        have f5 := Lib.frozen_of_heap HBB0.out 5
        have f6 := Lib.frozen_of_heap HBB0.out 6
        have z0 : Y.cell? ⟨B, 0, none⟩ = some (.int .i64 0) := hcell HBB0.out 0 rfl
        have z1 : Y.cell? ⟨B, 1, none⟩ = some (.int .i64 0) := hcell HBB0.out 1 rfl
        have z2 : Y.cell? ⟨B, 2, none⟩ = some (.int .i64 0) := hcell HBB0.out 2 rfl
        have z3 : Y.cell? ⟨B, 3, none⟩ = some (.int .i64 0) := hcell HBB0.out 3 rfl
        have z4 : Y.cell? ⟨B, 4, none⟩ = some (.int .i64 0) := hcell HBB0.out 4 rfl
        have z5 : Y.cell? ⟨B, 5, none⟩ = some (.int .i64 0) := hcell HBB0.out 5 rfl
        have z6 : Y.cell? ⟨B, 6, none⟩ = some (.int .i64 0) := hcell HBB0.out 6 rfl
        have w1 := HW1.out
        have w2 := HW2.out
        go_simp
        try go_wp2_with fail
        clear f0 z0 f1 z1 f2 z2 f3 z3 f4 z4 f5 z5 f6 z6 w1 w2
        have ks : Kp Y (((((((Y.setCell ⟨B, 0, none⟩ (.int .i64 2)).setCell ⟨B, 1, none⟩ (.int .i64 px)).setCell ⟨B, 2, none⟩ (.int .i64 py)).setCell ⟨B, 3, none⟩ (.int .i64 a)).setCell ⟨B, 4, none⟩ (.int .i64 b)).setCell ⟨B, 5, none⟩ (.int .i64 cx)).setCell ⟨B, 6, none⟩ (.int .i64 cy)) (some B) := ((((((((Kp.refl Y (some B)).set _).set _).set _).set _).set _).set _).set _)
        have HF := Lib.hid (heap_seven HBB0.out (.int .i64 2) (.int .i64 px) (.int .i64 py) (.int .i64 a) (.int .i64 b) (.int .i64 cx) (.int .i64 cy))
        have HKS := Lib.hid ks
        refine hK.out _ _ ?_ (fun hHeld => ?_)
        · have hne : ∀ q, q ≠ B → (some q : Option Nat) ≠ some B := fun q h e => h (Option.some.inj e)
          have hRB := HRB.out
          have hGB := HGB.out
          exact ⟨(ks.cell_far ⟨R, 10, none⟩ (lt_of_block HR0.out) (hne R (by omega))).trans HS0.out.1, (ks.cell_far ⟨R, 11, none⟩ (lt_of_block HR0.out) (hne R (by omega))).trans HS0.out.2.1, (ks.cell_far ⟨g, off, none⟩ HGY.out (hne g (by omega))).trans HS0.out.2.2.1, (ks.cell_far ⟨g, off + 1, none⟩ HGY.out (hne g (by omega))).trans HS0.out.2.2.2.1, (ks.cell_far ⟨g, off + 2, none⟩ HGY.out (hne g (by omega))).trans HS0.out.2.2.2.2.1, (ks.cell_far ⟨g, off + 3, none⟩ HGY.out (hne g (by omega))).trans HS0.out.2.2.2.2.2⟩
        clear hK K ks
        try simp only [Act.put, sm]
        generalize (((((((Y.setCell ⟨B, 0, none⟩ (.int .i64 2)).setCell ⟨B, 1, none⟩ (.int .i64 px)).setCell ⟨B, 2, none⟩ (.int .i64 py)).setCell ⟨B, 3, none⟩ (.int .i64 a)).setCell ⟨B, 4, none⟩ (.int .i64 b)).setCell ⟨B, 5, none⟩ (.int .i64 cx)).setCell ⟨B, 6, none⟩ (.int .i64 cy)) = Z at *
        refine wpAnyL_ready (rs := [33]) (by kernel_rfl) (by simp) ?_
        refine AllReadyL.last (o := _) rfl (fun K hK => ?_)
        clear hHeld
        go_simp
        try go_wp2_with fail
        refine hK.out _ _ ?_
        clear hK K
        try simp only [Act.put, sm]
        refine wpAnyL_done (by kernel_rfl) ?_ _
        go_wp2_with fail
        refine bodyPost_ret (fn := Tryz.f175) (results_ed_tmp (fn := Tryz.f175) (p := 4) (u := 5) (by rfl) _ Z B _ (by rfl) HF.out) (by rfl) ?_
        exact edge_yes HX.out rfl (Kp.of_own (KB.out.trans (KW.out.trans KD.out)) HKS.out (by rw [HBW.out]; exact Nat.le_refl _))
      | none =>
        have HC3 := Lib.hid (fun V => nums_not rpat_g3 HSL.out h3 V)
        have HX := Lib.hid (edgeOf_none (p := ⟨px, py⟩) h1 h2 h3)
        clear h1 h2 h3 hx hy
        go_wp2_with fail
        refine (HC1.out _).mono ?_
        rintro e w1 ⟨⟨ao1, n1, cap1, rfl⟩, k1⟩
        have K1 := Lib.hid (k1)
        clear k1
        go_wp2_with fail
        refine (HC2.out _).mono ?_
        rintro e w2 ⟨⟨ao2, n2, cap2, rfl⟩, k2⟩
        have K2 := Lib.hid (K1.out.trans k2)
        clear k2
        go_wp2_with fail
        refine (HC3.out _).mono ?_
        rintro e w3 ⟨⟨ao3, n3, cap3, rfl⟩, k3⟩
        have K3 := Lib.hid (K2.out.trans k3)
        clear k3
        have HBB1 := Lib.hid (blk HBB.out K3.out)
        have KF := Lib.hid (KB.out.trans K3.out)
        have f0 := Lib.frozen_of_heap HBB1.out 0
        have f1 := Lib.frozen_of_heap HBB1.out 1
        have f2 := Lib.frozen_of_heap HBB1.out 2
        have f3 := Lib.frozen_of_heap HBB1.out 3
        have f4 := Lib.frozen_of_heap HBB1.out 4
        have f5 := Lib.frozen_of_heap HBB1.out 5
        have f6 := Lib.frozen_of_heap HBB1.out 6
        have z0 : w3.cell? ⟨B, 0, none⟩ = some (.int .i64 0) := hcell HBB1.out 0 rfl
        have z1 : w3.cell? ⟨B, 1, none⟩ = some (.int .i64 0) := hcell HBB1.out 1 rfl
        have z2 : w3.cell? ⟨B, 2, none⟩ = some (.int .i64 0) := hcell HBB1.out 2 rfl
        have z3 : w3.cell? ⟨B, 3, none⟩ = some (.int .i64 0) := hcell HBB1.out 3 rfl
        have z4 : w3.cell? ⟨B, 4, none⟩ = some (.int .i64 0) := hcell HBB1.out 4 rfl
        have z5 : w3.cell? ⟨B, 5, none⟩ = some (.int .i64 0) := hcell HBB1.out 5 rfl
        have z6 : w3.cell? ⟨B, 6, none⟩ = some (.int .i64 0) := hcell HBB1.out 6 rfl
        go_wp2_with fail
        refine bodyPost_ret (fn := Tryz.f175) (results_ed_tmp (fn := Tryz.f175) (p := 4) (u := 5) (by rfl) _ _ B _ (by rfl) (heap_seven HBB1.out (.int .i64 0) (.int .i64 0) (.int .i64 0) (.int .i64 0) (.int .i64 0) (.int .i64 0) (.int .i64 0))) (by rfl) ?_
        exact edge_no HX.out rfl (Kp.of_own KF.out ((((((((Kp.refl w3 (some B)).set _).set _).set _).set _).set _).set _).set _) HBS.out)
end Go.Proofs.YtljjbdbgedmadaaGreatDoor
