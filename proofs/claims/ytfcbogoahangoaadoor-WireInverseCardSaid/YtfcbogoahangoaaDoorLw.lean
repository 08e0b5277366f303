/- WireInverse: a slice of values, opened out of an argument; and the law at an empty slice. No condition. -/
import Derived.Test.YtfcbogoahangoaaDoorIv
import Derived.Test.YtfcbogoahangoaaDoorLv
namespace Go.Proofs.YtfcbogoahangoaaDoor
open Go.Joins Go.ChangeShapes Go.WideShapes Go.RowKit Go.Deep
section
variable {H : Type} {enc : TypeId × Value → H} {P : Program} {w : World} {base : Nat} {spare : Nat → Bool} {held : Bool}
theorem open_slice_fields {t e : TypeId} {fs : Array Field} {fuel : Nat} {cs : List Value} {x : DataW H × List MemPlace} (ht : P.underlying t = some (.slice e)) (he : P.underlying e = some (.struct fs))
    (hone : oneCellFields P fs = true) (hC : P.cellsOf e = fs.size) (h : DataW.trod enc P w base spare held fuel t cs = some x) :
    (cs = [.slice none 0 0] ∧ x = (.nil, [])) ∨
    ∃ (a : Addr) (len cap m : Nat) (D : Nat → DataW H) (Pl : Nat → List MemPlace), cs = [.slice (some a) len cap] ∧ base ≤ a.block ∧ len ≤ cap ∧ cap ≤ maxLen ∧ m = (if spare a.block then cap else len) ∧
      x = (.slice ((List.range len).map D) ((List.range (m - len)).map fun j => D (len + j)), MemPlace.row a (m * fs.size) ++ (List.range m).flatMap Pl) ∧
      ∀ i, i < m → ∃ (ys : List (DataW H × List MemPlace)) (n : Nat), D i = .agg (ys.map (·.1)) ∧ Pl i = ys.flatMap (·.2) ∧ ys.length = fs.size ∧
        ∀ (j : Nat) (f : Field), fs[j]? = some f → ∃ (v : Value) (y : DataW H × List MemPlace), w.cell? (a.add (i * fs.size + j)) = some v ∧ ys[j]? = some y ∧ DataW.trod enc P w base spare held n f.type [v] = some y := by
  rcases open_slice ht h with h0 | ⟨a, len, cap, m, n, D, Pl, hcs, hb, hl, hm, hmm, hx, hi⟩
  · exact .inl h0
  · refine .inr ⟨a, len, cap, m, D, Pl, hcs, hb, hl, hm, hmm, by rw [hC] at hx; exact hx, fun i him => ?_⟩
    obtain ⟨cs', hc, ht'⟩ := hi i him
    rw [hC] at hc
    obtain ⟨ys, n', hn', hy, hlen, hyl, hf⟩ := DataW.trod_struct he ht'
    obtain ⟨_, hcl, hat⟩ := World.cells?_some hc
    simp only [Prod.mk.injEq] at hy
    refine ⟨ys, n', hy.1, hy.2, hyl, fun j f hj => ?_⟩
    obtain ⟨ho, hk⟩ := hone_of hone j f hj
    have hjl : j < fs.size := (Array.getElem?_eq_some_iff.1 hj).1
    have hcell := hat j hjl
    have hv : cs'[j]? = some (cs'[j]'(by omega)) := List.getElem?_eq_getElem (by omega)
    have h1 := hf j f hj
    rw [ho, hk] at h1
    have hone' : (cs'.drop j).take 1 = [cs'[j]'(by omega)] := by
      rw [List.drop_eq_getElem_cons (by omega)]
      rfl
    rw [hone'] at h1
    have hys : ys[j]? = some (ys[j]'(by omega)) := List.getElem?_eq_getElem (by omega)
    refine ⟨_, _, ?_, hys, h1.trans hys⟩
    rw [← Go.Deep.add_add, hcell, hv]
end
theorem list_of {α : Type} {P : Nat → α → Prop} : ∀ m : Nat, (∀ k, k < m → ∃ x, P k x) → ∃ l : List α, l.length = m ∧ ∀ k, (h : k < l.length) → P k l[k]
  | 0, _ => ⟨[], rfl, fun k h => by simp at h⟩
  | m + 1, h => by
    obtain ⟨l, hl, hp⟩ := list_of m (fun k hk => h k (by omega))
    obtain ⟨x, hx⟩ := h m (by omega)
    refine ⟨l ++ [x], by simp [hl], fun k hk => ?_⟩
    by_cases e : k < l.length
    · rw [List.getElem_append_left e]; exact hp k e
    · have : k = m := by simp at hk; omega
      subst this
      rw [List.getElem_append_right (by omega)]
      simpa using hx
set_option maxRecDepth 100000 in
theorem open_vals {H : Type} {enc : TypeId × Value → H} {W : World} {a0 : Option Addr} {len cap : Nat} {d : DataW H} {p : List MemPlace} (hpos : 0 < len) (h : DataW.Trod enc Tryd.prog W 0 (fun _ => true) true 43 (.slice a0 len cap) d p) :
    ∃ (b off : Nat) (vs : List V), a0 = some ⟨b, off, none⟩ ∧ b < W.heap.size ∧ len ≤ cap ∧ cap ≤ 9223372036854775807 ∧ vs.length = min len 8 ∧
      ∀ k, (h : k < vs.length) → (W.cell? ⟨b, off + k * 5, none⟩ = some (.int .u8 vs[k].c) ∧ W.cell? ⟨b, off + k * 5 + 1, none⟩ = some (.int .i64 vs[k].n) ∧ W.cell? ⟨b, off + k * 5 + 2, none⟩ = some (.string ⟨vs[k].s.toArray⟩) ∧ W.cell? ⟨b, off + k * 5 + 3, none⟩ = some (.slice vs[k].a3 vs[k].l3 vs[k].c3) ∧ W.cell? ⟨b, off + k * 5 + 4, none⟩ = some vs[k].v4) ∧ V.Ok W vs[k] := by
  obtain ⟨fuel, hf⟩ := h
  rcases open_slice_fields Tryd.underlying43 Tryd.underlying45 (by kernel_rfl) cells45 hf with ⟨hcs, _⟩ | ⟨a, len', cap', m, D, Pl, hcs, _, hl, hmx, hm, _, hi⟩
  · simp [Value.cells] at hcs; omega
  · simp [Value.cells] at hcs
    obtain ⟨rfl, rfl, rfl⟩ := hcs
    unfold maxLen at hmx
    have hml : len ≤ m := by rw [hm]; split <;> omega
    obtain ⟨b, off, spot⟩ := a
    obtain ⟨ys0, n0, _, _, _, hf0⟩ := hi 0 (by omega)
    obtain ⟨u0, y0, hcell0, _, _⟩ := hf0 0 _ rfl
    have hspot : spot = none := by simpa [Addr.add] using World.cell?_spot hcell0
    subst hspot
    have hb : b < W.heap.size := by
      rw [Go.WideShapes.add_plain] at hcell0
      exact cell_lt hcell0
    obtain ⟨vs, hvl, hvs⟩ := list_of (P := fun k (x : V) => (W.cell? ⟨b, off + k * 5, none⟩ = some (.int .u8 x.c) ∧ W.cell? ⟨b, off + k * 5 + 1, none⟩ = some (.int .i64 x.n) ∧ W.cell? ⟨b, off + k * 5 + 2, none⟩ = some (.string ⟨x.s.toArray⟩) ∧ W.cell? ⟨b, off + k * 5 + 3, none⟩ = some (.slice x.a3 x.l3 x.c3) ∧ W.cell? ⟨b, off + k * 5 + 4, none⟩ = some x.v4) ∧ V.Ok W x) (min len 8) (fun k hk => by
      obtain ⟨ys, n', _, _, _, hfk⟩ := hi k (by omega)
      obtain ⟨u0, y0, hc0, _, ht0⟩ := hfk 0 _ rfl
      obtain ⟨u1, y1, hc1, _, ht1⟩ := hfk 1 _ rfl
      obtain ⟨u2, y2, hc2, _, ht2⟩ := hfk 2 _ rfl
      obtain ⟨u3, y3, hc3, _, ht3⟩ := hfk 3 _ rfl
      obtain ⟨u4, y4, hc4, _, ht4⟩ := hfk 4 _ rfl
      rw [Go.WideShapes.add_plain] at hc0 hc1 hc2 hc3 hc4
      obtain ⟨c, e0, _, wc⟩ := DataW.trod_int Tryd.underlying5 ht0
      obtain ⟨n, e1, _, wn⟩ := DataW.trod_int Tryd.underlying3 ht1
      obtain ⟨s, e2, _, hs⟩ := DataW.trod_string Tryd.underlying9 ht2
      obtain ⟨a3, l3, c3, xs, rfl, hxl, hxr, hxI, hxc, hxm⟩ := open_rowI ht3
      obtain ⟨ts, htr, htl, htn⟩ := open_rowS ht4
      simp only [List.cons.injEq, and_true] at e0 e1 e2
      subst e0 e1 e2
      have hc : 0 ≤ c ∧ c < 256 := by
        have h1 : IntKind.u8.min = 0 := rfl
        have h2 : IntKind.u8.max = 255 := rfl
        simp only [Lit.wf, Bool.and_eq_true, decide_eq_true_eq] at wc
        omega
      refine ⟨⟨c, n, s.data.toList, a3, l3, c3, xs.take 20, u4, ts⟩, ⟨?_, ?_, ?_, ?_, ?_⟩, ⟨hc.1, hc.2, ?_⟩⟩
      · simpa using hc0
      · simpa [Nat.add_assoc] using hc1
      · simpa [Nat.add_assoc] using hc2
      · simpa [Nat.add_assoc] using hc3
      · simpa [Nat.add_assoc] using hc4
      · exact { n := i64_of_wf wn, s := (by have := hs; unfold maxLen at this; show s.data.toList.length ≤ _; simpa using this), l := (by rw [List.length_take, hxl, Nat.min_comm]), lc := hxc, lm := hxm, row := isRow_take hxr 20, i := fun y hy => hxI y (List.mem_of_mem_take hy), t := htr, tn := htn, tl := htl })
    exact ⟨b, off, vs, rfl, hb, hl, hmx, hvl, hvs⟩

set_option maxHeartbeats 2000000 in
set_option maxRecDepth 100000 in
theorem inverse_nil (ao : Option Addr) (cap : Nat) (w : World) (he : Env w) : Calls Tryd.prog 5 #[.slice ao 0 cap] w fun E w' => E = .returned (.bool true) ∧ Kp w w' none := by
  have HE := Lib.hid he
  clear he
  go_enter Tryd.func5, Tryd.ntmps5
  go_wp2_with fail
  refine (sanity_any _ HE.out).mono ?_
  rintro e w1 ⟨rfl, k⟩
  have K1 := Lib.hid k
  clear k
  go_wp2_with fail
  go_loopw [4, 5, 19] (fun own s i wr => own = .slice none 0 0 ∧ s = .string ⟨#[]⟩ ∧ i = .int .i64 0 ∧ w1 = wr) (fun _ _ _ _ => 0)
  case atStart => exact ⟨rfl, rfl, rfl, rfl⟩
  case round =>
    obtain ⟨rfl, rfl, rfl, rfl⟩ := hrel
    go_wp2_with fail
    refine (new_any [] _).mono ?_
    rintro e w3 ⟨rfl, h3, k3⟩
    have H3 := Lib.hid h3
    have K3 := Lib.hid (K1.out.trans k3)
    clear h3 k3
    go_wp2_with (first | (go_at_call 32; refine (left_any _ _ _ H3.out).mono ?_; rintro e w' ⟨rfl, rfl⟩))
    go_loopw [81] (fun i wr => i = .int .i64 0 ∧ RdIs wr w1.heap.size (some []) ∧ Kp w wr none) (fun _ _ => 0)
    case atStart => exact ⟨rfl, H3.out, K3.out⟩
    case round =>
      clear H3 K3
      obtain ⟨rfl, h4, k4⟩ := hrel
      have H4 := Lib.hid h4
      have K4 := Lib.hid k4
      clear h4 k4
      go_wp2_with (first | (go_at_call 32; refine (left_any _ _ _ H4.out).mono ?_; rintro e w' ⟨rfl, rfl⟩))
      go_ret
      exact ⟨rfl, K4.out⟩

end Go.Proofs.YtfcbogoahangoaaDoor
