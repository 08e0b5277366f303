/- Holes out of an argument. No condition. -/
import Derived.Test.YtljjbdbgedmadaaGreatDoorLr
import Derived.Test.YtljjbdbgedmadaaGreatDoorMz
namespace Go.Proofs.YtljjbdbgedmadaaGreatDoor
open Go.RowKit Go.WideShapes

/-- A hole of an argument: what Move and cut ask of it. -/
def RawH (t : HT) : Prop := t.h.s.es.length ≤ t.ec ∧ (t.ea = none → t.ec = 0) ∧ ∀ e ∈ t.h.s.es, FitsE e
theorem cells48 : Tryz.prog.cellsOf 48 = 1 := by kernel_rfl
theorem cells50 : Tryz.prog.cellsOf 50 = 3 := by kernel_rfl
theorem cells52 : Tryz.prog.cellsOf 52 = 6 := by kernel_rfl
theorem cells123 : Tryz.prog.cellsOf 123 = 7 := by kernel_rfl
theorem fits_of {x : Int} (h : Wr.I64 x) : Fits x := by unfold Wr.I64 at h; unfold Fits wrap64; omega
section
variable {H : Type} {enc : TypeId × Value → H} {W : World}
theorem two_intsF {n : Nat} {c d : Value} {y : DataW H × List MemPlace} (h : DataW.trod enc Tryz.prog W 0 (fun _ => true) true n 42 [c, d] = some y) : ∃ k m : Int, c = .int .i64 k ∧ d = .int .i64 m ∧ Fits k ∧ Fits m := by
  obtain ⟨xs, m, _, _, _, hxl, hg⟩ := DataW.trod_struct Tryz.underlying42 h
  match xs, hxl with
  | [y0, y1], _ =>
    have g0 := hg 0 _ rfl
    have g1 := hg 1 _ rfl
    simp [cells3] at g0 g1
    obtain ⟨k, rfl, hk⟩ := one_int g0
    obtain ⟨m, rfl, hm⟩ := one_int g1
    exact ⟨k, m, rfl, rfl, fits_of hk, fits_of hm⟩
set_option maxRecDepth 100000 in
theorem el_edF {n : Nat} {cs : List Value} {y : DataW H × List MemPlace} (_ : cs.length = 7) (h : DataW.trod enc Tryz.prog W 0 (fun _ => true) true n 123 cs = some y) : ∃ e : Pl.Ed, cs = edC e ∧ FitsE e := by
  obtain ⟨xs, m, _, _, hl, hxl, hg⟩ := DataW.trod_struct Tryz.underlying123 h
  rw [cells123] at hl
  match cs, hl, xs, hxl with
  | [c0, c1, c2, c3, c4, c5, c6], _, [y0, y1, y2, y3], _ =>
    have g0 := hg 0 _ rfl
    have g1 := hg 1 _ rfl
    have g2 := hg 2 _ rfl
    have g3 := hg 3 _ rfl
    simp [cells3, cells42] at g0 g1 g2 g3
    obtain ⟨k, rfl, _⟩ := one_int g0
    obtain ⟨ax, ay, rfl, rfl, h1, h2⟩ := two_intsF g1
    obtain ⟨bx, bY, rfl, rfl, h3, h4⟩ := two_intsF g2
    obtain ⟨cx, cy, rfl, rfl, h5, h6⟩ := two_intsF g3
    exact ⟨⟨k, ⟨ax, ay⟩, ⟨bx, bY⟩, ⟨cx, cy⟩⟩, rfl, h1, h2, h3, h4, h5, h6⟩
theorem nil_cap {t e : TypeId} {fuel : Nat} {cs : List Value} {y : DataW H × List MemPlace} {ao : Option Addr} {n cap : Nat} (ht : Tryz.prog.underlying t = some (.slice e)) (h : DataW.trod enc Tryz.prog W 0 (fun _ => true) true fuel t cs = some y) (hc : cs = [.slice ao n cap]) (ha : ao = none) : cap = 0 := by
  rcases Go.Deep.open_slice ht h with ⟨hcs, _⟩ | ⟨a, len, c2, m, n2, D, Pl, hcs, _⟩
  · rw [hc] at hcs; simp at hcs; exact hcs.2.2
  · rw [hc, ha] at hcs; simp at hcs
set_option maxRecDepth 100000 in
theorem el_hole {n : Nat} {cs : List Value} {y : DataW H × List MemPlace} (_ : cs.length = 6) (h : DataW.trod enc Tryz.prog W 0 (fun _ => true) true n 52 cs = some y) : ∃ t : HT, cs = htC t ∧ (LiesAt 7 edC W t.ea t.ec t.h.s.es ∧ RawH t) := by
  obtain ⟨xs, m, _, _, hl, hxl, hg⟩ := DataW.trod_struct Tryz.underlying52 h
  rw [cells52] at hl
  match cs, hl, xs, hxl with
  | [c0, c1, c2, c3, c4, c5], _, [y0, y1, y2, y3], _ =>
    have g0 := hg 0 _ rfl
    have g1 := hg 1 _ rfl
    have g2 := hg 2 _ rfl
    have g3 := hg 3 _ rfl
    simp [cells3, cells4, cells50] at g0 g1 g2 g3
    obtain ⟨f, rfl, _⟩ := one_int g1
    obtain ⟨t, rfl, _⟩ := one_int g2
    obtain ⟨p, rfl⟩ := one_bool g3
    obtain ⟨zs, m2, _, _, _, hzl, hz⟩ := DataW.trod_struct Tryz.underlying50 g0
    match zs, hzl with
    | [z0, z1, z2], _ =>
      have k0 := hz 0 _ rfl
      have k1 := hz 1 _ rfl
      have k2 := hz 2 _ rfl
      simp [cells3, cells48] at k0 k1 k2
      obtain ⟨k, rfl, _⟩ := one_int k0
      obtain ⟨r, rfl, _⟩ := one_int k2
      obtain ⟨ao, es, cap, e, h1, h2, _, h4⟩ := open_lies (f := edC) (Q := FitsE) Tryz.underlying48 cells123 (by decide) (fun _ => rfl) (fun _ _ _ hl h => el_edF hl h) k1
      have hn := nil_cap Tryz.underlying48 k1 e
      simp only [List.cons.injEq, and_true] at e
      subst e
      exact ⟨⟨⟨⟨k, es, r⟩, f, t, p⟩, ao, cap⟩, rfl, h1, h2, hn, h4⟩
/-- Holes out of an argument. -/
theorem open_holes {v : Value} {d : DataW H} {p : List MemPlace} (h : DataW.Trod enc Tryz.prog W 0 (fun _ => true) true 30 v d p) (hc : v.cells = #[v]) : ∃ (ao : Option Addr) (ts : List HT) (cap : Nat), v = .slice ao ts.length cap ∧ HolesAt W ao cap ts ∧ LenOk ts.length ∧ ts.length ≤ cap ∧ (∀ t ∈ ts, RawH t) ∧ (ao = none → cap = 0) := by
  obtain ⟨fuel, hf⟩ := h
  rw [hc] at hf
  obtain ⟨ao, ts, cap, e, h1, h2, h3, h4⟩ := open_lies (f := htC) (Q := fun t : HT => LiesAt 7 edC W t.ea t.ec t.h.s.es ∧ RawH t) Tryz.underlying30 cells52 (by decide) (fun _ => rfl) (fun _ _ _ hl h => el_hole hl h) hf
  have hn := nil_cap Tryz.underlying30 hf e
  simp only [List.cons.injEq, and_true] at e
  exact ⟨ao, ts, cap, e, ⟨h1, fun t ht => (h4 t ht).1⟩, h3, h2, fun t ht => (h4 t ht).2, hn⟩
end
end Go.Proofs.YtljjbdbgedmadaaGreatDoor
