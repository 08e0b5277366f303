/- Rules, and numbers, out of arguments. No condition. -/
import Derived.Test.YtnchipahdfbliaaGreatDoorLf
import Derived.Test.YtnchipahdfbliaaGreatDoorFw
namespace Go.Proofs.YtnchipahdfbliaaGreatDoor
open Go.RowKit Go.WideShapes
section
variable {H : Type} {enc : TypeId × Value → H} {W : World}
theorem cells37 : Tryz.prog.cellsOf 37 = 4 := by kernel_rfl
theorem cells38 : Tryz.prog.cellsOf 38 = 1 := by kernel_rfl
theorem cells40 : Tryz.prog.cellsOf 40 = 8 := by kernel_rfl
theorem cells42 : Tryz.prog.cellsOf 42 = 20 := by kernel_rfl
theorem cells23 : Tryz.prog.cellsOf 23 = 3 := by kernel_rfl
theorem cells24 : Tryz.prog.cellsOf 24 = 6 := by kernel_rfl
/-- A slice of an argument as a list, whose elements are opened with less fuel. -/
theorem open_less {α : Type} {t e : TypeId} {size fuel : Nat} {f : α → List Value} {Q : α → Prop} {cs : List Value} {y : DataW H × List MemPlace} (ht : Tryz.prog.underlying t = some (.slice e)) (hC : Tryz.prog.cellsOf e = size) (hs : 0 < size) (hf : ∀ x, (f x).length = size)
  (hel : ∀ (n : Nat) (cs : List Value) (y : DataW H × List MemPlace), n < fuel → cs.length = size → DataW.trod enc Tryz.prog W 0 (fun _ => true) true n e cs = some y → ∃ x : α, cs = f x ∧ Q x)
  (h : DataW.trod enc Tryz.prog W 0 (fun _ => true) true fuel t cs = some y) : ∃ (ao : Option Addr) (xs : List α) (cap : Nat), cs = [.slice ao xs.length cap] ∧ LiesAt size f W ao cap xs ∧ LenOk xs.length ∧ ∀ x ∈ xs, Q x := by
 rcases DataW.trod_slice ht h with ⟨hcs, _⟩ | ⟨a, len, cap, elems, rest, n, hfu, hcs, _, _, hl, hm, hel2, hi, _, _⟩
 ·exact ⟨none, [], 0, hcs, fun k hk => by simp at hk, by unfold LenOk; simp, fun x hx => by cases hx⟩
 ·have hlo : LenOk len := by unfold LenOk; unfold maxLen at hm; omega
  rcases Nat.eq_zero_or_pos len with h0 | hpos
  ·subst h0
   exact ⟨some a, [], cap, hcs, fun k hk => by simp at hk, hlo, fun x hx => by cases hx⟩
  ·obtain ⟨xs, hxl, hx⟩ := pick_list (p := fun i x => Q x ∧ ∀ j, (hj : j < (f x).length) → W.cell? ((a.add (i * size)).add j) = some ((f x)[j])) len (fun i him => by
    have h1 := hi i him
    rw [List.getElem?_eq_getElem (by omega), hC] at h1
    obtain ⟨cs', hc, ht'⟩ := Option.bind_eq_some_iff.1 h1
    obtain ⟨_, hcl, hat⟩ := World.cells?_some hc
    obtain ⟨x, rfl, hx⟩ := hel n _ _ (by omega) hcl ht'
    refine ⟨x, hx, fun j hj => ?_⟩
    rw [hat j (by rw [← hf x]; exact hj)]
    simp)
   obtain ⟨b, off, spot⟩ := a
   have hspot : spot = none := by simpa [Addr.add] using World.cell?_spot ((hx 0 (by omega)).2 0 (by rw [hf]; exact hs))
   subst hspot
   have hcell : ∀ k, (h : k < xs.length) → ∀ j, (h2 : j < (f xs[k]).length) → W.cell? ⟨b, off + k * size + j, none⟩ = some (f xs[k])[j] := fun k hk j hj => by
    have := (hx k hk).2 j hj
    rw [Go.WideShapes.add_plain, Go.WideShapes.add_plain] at this
    exact this
   refine ⟨some ⟨b, off, none⟩, xs, cap, by rw [hxl]; exact hcs, fun k hk => ⟨b, off, rfl, cell_lt (hcell 0 (by omega) 0 (by rw [hf]; exact hs)), by rw [hxl]; exact hl, fun j hj => hcell k hk j hj⟩, by rw [hxl]; exact hlo, fun x hx' => ?_⟩
   obtain ⟨i, hi', rfl⟩ := List.getElem_of_mem hx'
   exact (hx i hi').1
theorem four_ints {n : Nat} {c0 c1 c2 c3 : Value} {y : DataW H × List MemPlace} (h : DataW.trod enc Tryz.prog W 0 (fun _ => true) true n 37 [c0, c1, c2, c3] = some y) : ∃ b : Ru.Box, c0 = .int .i64 b.x0 ∧ c1 = .int .i64 b.y0 ∧ c2 = .int .i64 b.x1 ∧ c3 = .int .i64 b.y1 := by
 obtain ⟨xs, m, _, _, _, hxl, hg⟩ := DataW.trod_struct Tryz.underlying37 h
 match xs, hxl with
 | [y0, y1, y2, y3], _ =>
  have g0 := hg 0 _ rfl
  have g1 := hg 1 _ rfl
  have g2 := hg 2 _ rfl
  have g3 := hg 3 _ rfl
  simp [cells3] at g0 g1 g2 g3
  obtain ⟨k0, rfl, _⟩ := one_int g0
  obtain ⟨k1, rfl, _⟩ := one_int g1
  obtain ⟨k2, rfl, _⟩ := one_int g2
  obtain ⟨k3, rfl, _⟩ := one_int g3
  exact ⟨⟨k0, k1, k2, k3⟩, rfl, rfl, rfl, rfl⟩
set_option maxRecDepth 100000 in
theorem el_cond : ∀ (N fuel : Nat), fuel < N → ∀ (cs : List Value) (y : DataW H × List MemPlace), cs.length = 8 → DataW.trod enc Tryz.prog W 0 (fun _ => true) true fuel 40 cs = some y → ∃ p : Ru.Cond × Value, cs = cC p ∧ (Tree W p.1 p.2 ∧ Wide p.1)
 | 0, fuel, h, _, _, _, _ => by omega
 | N + 1, fuel, hN, cs, y, hl, h => by
  obtain ⟨xs, m, hfu, _, _, hxl, hg⟩ := DataW.trod_struct Tryz.underlying40 h
  match cs, hl, xs, hxl with
  | [c0, c1, c2, c3, c4, c5, c6, c7], _, [y0, y1, y2, y3, y4], _ =>
   have g0 := hg 0 _ rfl
   have g1 := hg 1 _ rfl
   have g2 := hg 2 _ rfl
   have g3 := hg 3 _ rfl
   have g4 := hg 4 _ rfl
   simp [cells3, cells9, cells37, cells38] at g0 g1 g2 g3 g4
   obtain ⟨k0, rfl, _⟩ := one_int g0
   obtain ⟨s1, rfl, hs1⟩ := one_str g1
   obtain ⟨k2, rfl, _⟩ := one_int g2
   obtain ⟨b, rfl, rfl, rfl, rfl⟩ := four_ints g3
   obtain ⟨ao, ps, cap, e, hla, hlo, hq⟩ := open_less (size := 8) (f := cC) (Q := fun p : Ru.Cond × Value => Tree W p.1 p.2 ∧ Wide p.1) Tryz.underlying38 cells40 (by omega) (fun _ => rfl) (fun n' cs' y' hn' hl' h' => el_cond N n' (by omega) cs' y' hl' h') g4
   simp only [List.cons.injEq, and_true] at e
   subst e
   refine ⟨(.mk k0 s1 k2 b (ps.map (·.1)), .slice ao ps.length cap), rfl, Tree.of (ps := ps) rfl hla.list (fun p hp => (hq p hp).1), .mk _ _ _ _ _ hs1 (by rw [List.length_map]; exact hlo) (fun c hc => ?_)⟩
   obtain ⟨p, hp, rfl⟩ := List.mem_map.1 hc
   exact (hq p hp).2
set_option maxRecDepth 100000 in
theorem el_rule {fuel : Nat} {cs : List Value} {y : DataW H × List MemPlace} (hl : cs.length = 20) (h : DataW.trod enc Tryz.prog W 0 (fun _ => true) true fuel 42 cs = some y) : ∃ p : RV, cs = rC p ∧ (p.Tree W ∧ WideR p.r) := by
 obtain ⟨xs, m, hfu, _, _, hxl, hg⟩ := DataW.trod_struct Tryz.underlying42 h
 match cs, hl, xs, hxl with
 | [c0, c1, c2, a0, a1, a2, a3, a4, a5, a6, a7, b0, b1, b2, b3, b4, b5, b6, b7, c3], _, [y0, y1, y2, y3, y4, y5], _ =>
  have g0 := hg 0 _ rfl
  have g1 := hg 1 _ rfl
  have g2 := hg 2 _ rfl
  have g3 := hg 3 _ rfl
  have g4 := hg 4 _ rfl
  have g5 := hg 5 _ rfl
  simp [cells3, cells9, cells40] at g0 g1 g2 g3 g4 g5
  obtain ⟨s0, rfl, hs0⟩ := one_str g0
  obtain ⟨k1, rfl, _⟩ := one_int g1
  obtain ⟨k2, rfl, _⟩ := one_int g2
  obtain ⟨⟨ca, va⟩, ea, ta, wa⟩ := el_cond (m + 1) m (by omega) _ _ rfl g3
  obtain ⟨⟨cb, vb⟩, eb, tb, wb⟩ := el_cond (m + 1) m (by omega) _ _ rfl g4
  obtain ⟨k5, rfl, _⟩ := one_int g5
  refine ⟨⟨⟨s0, k1, k2, k5, ca, cb⟩, va, vb⟩, ?_, ⟨ta, tb⟩, hs0, wa, wb⟩
  simp only [cC, List.cons.injEq, and_true] at ea eb
  obtain ⟨rfl, rfl, rfl, rfl, rfl, rfl, rfl, rfl⟩ := ea
  obtain ⟨rfl, rfl, rfl, rfl, rfl, rfl, rfl, rfl⟩ := eb
  rfl
/-- Rules of an argument. -/
theorem open_rules {v : Value} {d : DataW H} {p : List MemPlace} (h : DataW.Trod enc Tryz.prog W 0 (fun _ => true) true 25 v d p) (hc : v.cells = #[v]) : ∃ (ao : Option Addr) (xs : List RV) (cap : Nat), v = .slice ao xs.length cap ∧ LiesAt 20 rC W ao cap xs ∧ LenOk xs.length ∧ (∀ p ∈ xs, p.Tree W) ∧ ∀ p ∈ xs, WideR p.r := by
 obtain ⟨fuel, hf⟩ := h
 rw [hc] at hf
 obtain ⟨ao, xs, cap, e, hl, hn, hq⟩ := open_less (size := 20) (f := rC) (Q := fun p : RV => p.Tree W ∧ WideR p.r) Tryz.underlying25 cells42 (by omega) (fun _ => rfl) (fun _ _ _ _ hl h => el_rule hl h) hf
 simp only [List.cons.injEq, and_true] at e
 exact ⟨ao, xs, cap, e, hl, hn, fun p hp => (hq p hp).1, fun p hp => (hq p hp).2⟩
set_option maxRecDepth 100000 in
theorem okWide_arr {n : Nat} {e t : TypeId} {r : Reach} {base : Nat} {v : Value} (ht : Tryz.prog.underlying t = some (.array n e)) (h : Value.okWide Tryz.prog W r base t v) : ∃ cs, v = .agg cs ∧ cs.size = Tryz.prog.cellsOf t := by
 simp only [Value.okWide, ht] at h
 obtain ⟨cs, h1, h2, _⟩ := h
 exact ⟨cs, h1, h2⟩
theorem three_ints {n : Nat} {c0 c1 c2 : Value} {y : DataW H × List MemPlace} (h : DataW.trod enc Tryz.prog W 0 (fun _ => true) true n 23 [c0, c1, c2] = some y) : ∃ k0 k1 k2 : Int, c0 = .int .i64 k0 ∧ c1 = .int .i64 k1 ∧ c2 = .int .i64 k2 := by
 obtain ⟨xs, m, _, _, _, hxl, hg⟩ := DataW.trod_array Tryz.underlying23 h
 match xs, hxl with
 | [y0, y1, y2], _ =>
  have g0 := hg 0 (by decide)
  have g1 := hg 1 (by decide)
  have g2 := hg 2 (by decide)
  simp [cells3] at g0 g1 g2
  obtain ⟨k0, rfl, _⟩ := one_int g0
  obtain ⟨k1, rfl, _⟩ := one_int g1
  obtain ⟨k2, rfl, _⟩ := one_int g2
  exact ⟨k0, k1, k2, rfl, rfl, rfl⟩
set_option maxRecDepth 100000 in
/-- Twice three numbers out of an argument. -/
theorem open_six {r : Reach} {base : Nat} {v : Value} {d : DataW H} {p : List MemPlace} (hv : Value.okWide Tryz.prog W r base 24 v) (h : DataW.Trod enc Tryz.prog W 0 (fun _ => true) true 24 v d p) : ∃ k0 k1 k2 k3 k4 k5 : Int, v = .agg #[.int .i64 k0, .int .i64 k1, .int .i64 k2, .int .i64 k3, .int .i64 k4, .int .i64 k5] := by
 obtain ⟨cs, rfl, _⟩ := okWide_arr Tryz.underlying24 hv
 obtain ⟨fuel, hf⟩ := h
 obtain ⟨xs, m, _, _, hl, hxl, hg⟩ := DataW.trod_array Tryz.underlying24 hf
 have e : (Value.agg cs).cells.toList = cs.toList := rfl
 rw [cells24] at hl
 rw [e] at hl hg
 obtain ⟨cs⟩ := cs
 match cs, hl, xs, hxl with
 | [c0, c1, c2, c3, c4, c5], _, [y0, y1], _ =>
  have g0 := hg 0 (by decide)
  have g1 := hg 1 (by decide)
  simp [cells23] at g0 g1
  obtain ⟨k0, k1, k2, rfl, rfl, rfl⟩ := three_ints g0
  obtain ⟨k3, k4, k5, rfl, rfl, rfl⟩ := three_ints g1
  exact ⟨k0, k1, k2, k3, k4, k5, rfl⟩
end
end Go.Proofs.YtnchipahdfbliaaGreatDoor
