/- The frame of the program's combination (of): what a step of its loop's body keeps; the state between two rounds. No condition. -/
import Derived.Test.YtpakiabnhdoijaaBd
namespace Go.Proofs.Ytpakiabnhdoijaa
open Go.RowKit Go.Shelf

/-- A step of the body: blocks of cells lie as they lay, but for rows of rectangles and two boxes. -/
structure Gr (n0 Bo Bl : Nat) (W W' : World) : Prop where
  tf : ∀ (k : Nat) (cs : Array Value) (e : TypeId) (fr : Nat × Nat), W.heap[k]? = some (Obj.cells cs e fr) → e ≠ 44 → k ≠ Bo → k ≠ Bl → W'.heap[k]? = some (Obj.cells cs e fr)
  others : KeepsOthers W W'
  below : Below n0 W W'
  boxes : Bo < W.heap.size → (∃ cs, W.heap[Bo]? = some (Obj.cells cs 22 (0, 0))) → ∃ cs, W'.heap[Bo]? = some (Obj.cells cs 22 (0, 0))
theorem heap_setCell_at {w : World} {g o : Nat} {cs : Array Value} {e : TypeId} (h : w.heap[g]? = some (Obj.cells cs e (0, 0))) (v : Value) : (w.setCell ⟨g, o, none⟩ v).heap[g]? = some (Obj.cells (cs.setIfInBounds o v) e (0, 0)) := heap_setCell_same w g o cs e v h
theorem Kp.gr {n0 Bo Bl : Nat} {W W' : World} (h : Kp W W' none) (hn : n0 ≤ W.heap.size) : Gr n0 Bo Bl W W' where
  tf k cs e fr hk _ _ _ := (h.block k (lt_of_block hk) (by simp)).trans hk
  others := KeepsOthers.of_grownBy h (fun j o e => by cases e)
  below := (Kp.below h).mono hn
  boxes hb := fun ⟨cs, hc⟩ => ⟨cs, (h.block Bo hb (by simp)).trans hc⟩
theorem Gr.refl (n0 Bo Bl : Nat) (W : World) (hn : n0 ≤ W.heap.size) : Gr n0 Bo Bl W W := (Kp.refl W none).gr hn
theorem Gr.trans {n0 Bo Bl : Nat} {A B C : World} (h : Gr n0 Bo Bl A B) (k : Gr n0 Bo Bl B C) : Gr n0 Bo Bl A C where
  tf i cs e fr hi h1 h2 h3 := k.tf i cs e fr (h.tf i cs e fr hi h1 h2 h3) h1 h2 h3
  others := h.others.trans k.others
  below := h.below.trans k.below
  boxes hb hx := k.boxes (Nat.lt_of_lt_of_le hb h.below.size) (h.boxes hb hx)
/-- A row of rectangles is written. -/
theorem Gr.row {n0 Bo Bl r : Nat} {W W' : World} {cs : Array Value} {fr : Nat × Nat} (h : W.grownBy W' (some r)) (hr : W.heap[r]? = some (Obj.cells cs 44 fr)) (hn : n0 ≤ r) : Gr n0 Bo Bl W W' where
  tf k cs' e fr' hk he _ _ := (h.block k (lt_of_block hk) (by
    intro e2; injection e2 with e2; subst e2; rw [hr] at hk; injection hk with hk; injection hk with _ h2 _; exact he h2.symm)).trans hk
  others := KeepsOthers.of_grownBy h (fun j o e ho => by injection e with e; subst e; rw [hr] at ho; injection ho with ho; subst ho; rfl)
  below := (Below.refl n0 W).grown h (by have := lt_of_block hr; omega) (fun k e => by injection e with e; omega)
  boxes hb := fun ⟨cs', hc⟩ => ⟨cs', (h.block Bo hb (by
    intro e2; injection e2 with e2; subst e2; rw [hr] at hc; injection hc with hc; injection hc with _ h2 _; cases h2)).trans hc⟩
/-- What the call owns is written, or grows. -/
theorem Gr.own {n0 Bo Bl n : Nat} {W W' : World} {v : Value} {xs : List Value} (ho : W.ownsRow n0 44 4 v n xs) (h : W.grownBy W' v.ownBlock) (hn : n0 ≤ W.heap.size) : Gr n0 Bo Bl W W' := by
  rcases ho.2 with ⟨rfl, _⟩ | ⟨g, cap, cur, rfl, hb, hg, _⟩
  · exact Kp.gr h hn
  · exact Gr.row h hg hb
/-- One of the two boxes is written. -/
theorem Gr.box {n0 Bo Bl r : Nat} {W : World} {c : Value} {t : TypeId} (u : Value) (hr : W.heap[r]? = some (Obj.cells #[c] t (0, 0))) (hB : r = Bo ∨ r = Bl) (hn : n0 ≤ r) : Gr n0 Bo Bl W (W.setCell ⟨r, 0, none⟩ u) where
  tf k cs e fr hk _ h1 h2 := (Below.heap_setCell _ _ _ _ (by intro e2; rcases hB with rfl | rfl; exact h1 e2; exact h2 e2)).trans hk
  others := KeepsOthers.setCell _ _ _
  below := (Below.refl n0 W).setCell (p := ⟨r, 0, none⟩) hn u
  boxes _ := fun ⟨cs, hc⟩ => by
    by_cases e : Bo = r
    · subst e
      exact ⟨_, heap_setCell_at hc u⟩
    · exact ⟨cs, (Below.heap_setCell _ _ _ _ e).trans hc⟩
theorem box_set {W : World} {r : Nat} {c : Value} {t : TypeId} (u : Value) (hr : W.heap[r]? = some (Obj.cells #[c] t (0, 0))) : (W.setCell ⟨r, 0, none⟩ u).heap[r]? = some (Obj.cells #[u] t (0, 0)) := heap_setCell_at hr u
theorem box_cell {W : World} {r : Nat} {c : Value} {t : TypeId} (hr : W.heap[r]? = some (Obj.cells #[c] t (0, 0))) : W.cell? ⟨r, 0, none⟩ = some c ∧ W.frozen? ⟨r, 0, none⟩ = false := by
  refine ⟨?_, by simp [World.frozen?, hr]⟩
  simp only [World.cell?, hr]
  rfl
theorem box_two {W : World} {r : Nat} {c d : Value} {t : TypeId} (hr : W.heap[r]? = some (Obj.cells #[c, d] t (0, 0))) : W.cell? ⟨r, 0, none⟩ = some c ∧ W.cell? ⟨r, 1, none⟩ = some d := by
  constructor <;> (simp only [World.cell?, hr]; rfl)

/-- Ranges in a block of ranges. -/
def TSpans (W : World) (ao : Option Addr) (cap : Nat) (xs : List Rc.Span) : Prop := 0 < xs.length → ∃ g cur, ao = some ⟨g, 0, none⟩ ∧ xs.length ≤ cap ∧ W.heap[g]? = some (Obj.cells cur 24 (0, 0)) ∧ ∀ (j : Nat) (u : Value), (xs.flatMap spanVal)[j]? = some u → cur[j]? = some u
theorem TSpans.keep {n0 Bo Bl : Nat} {W W' : World} {ao : Option Addr} {cap : Nat} {xs : List Rc.Span} (h : TSpans W ao cap xs) (k : Gr n0 Bo Bl W W') {co cl : Array Value} (ho : W.heap[Bo]? = some (Obj.cells co 22 (0, 0))) (hl : W.heap[Bl]? = some (Obj.cells cl 65 (0, 0))) : TSpans W' ao cap xs := fun h0 => by
  obtain ⟨g, cur, e, hc, hg, hr⟩ := h h0
  refine ⟨g, cur, e, hc, k.tf g cur 24 (0, 0) hg (by decide) ?_ ?_, hr⟩
  · rintro rfl; rw [ho] at hg; injection hg with hg; injection hg with _ h2 _; cases h2
  · rintro rfl; rw [hl] at hg; injection hg with hg; injection hg with _ h2 _; cases h2
theorem TSpans.at {W : World} {ao : Option Addr} {cap : Nat} {xs : List Rc.Span} (h : TSpans W ao cap xs) : LiesAt 2 spanVal W ao cap xs := fun k hk => by
  obtain ⟨g, cur, rfl, hc, hg, hr⟩ := h (by omega)
  refine ⟨g, 0, rfl, lt_of_block hg, hc, fun j hj => ?_⟩
  simp only [World.cell?, hg, Nat.zero_add]
  exact hr _ _ (flat_get 2 spanVal (fun _ => rfl) xs k j hk hj)
theorem tspans_own {W : World} {base : Nat} {u : Value} {xs : List Rc.Span} (h : W.ownsRow base 24 2 u xs.length (xs.flatMap spanVal)) : ∃ ao cap, u = .slice ao xs.length cap ∧ TSpans W ao cap xs := by
  rcases h.2 with ⟨rfl, h0⟩ | ⟨g, cap, cur, rfl, _, hg, hc, _, _, ht⟩
  · exact ⟨none, 0, by rw [h0], fun h => by omega⟩
  · refine ⟨_, cap, rfl, fun _ => ⟨g, cur, rfl, hc, hg, fun j u hu => ?_⟩⟩
    have hj : j < xs.length * 2 := by
      have := (List.getElem?_eq_some_iff.1 hu).1
      rwa [flat_len (m := 2) (f := spanVal) (fun _ => rfl)] at this
    rw [← ht, List.getElem?_take_of_lt hj, Array.getElem?_toList] at hu
    exact hu

/-- What a round makes of the rectangles and the last row. -/
def bandStep (row : Int → List Rc.Span) (s : List Rc.Rect × List Rc.Span) (b : Rc.Span) : List Rc.Rect × List Rc.Span :=
  (if row b.1 = s.2 then Rc.lift s.1 (row b.1).length b.2 else s.1 ++ (row b.1).map fun t => ⟨t.1, b.1, t.2, b.2⟩, row b.1)
def bandSt (row : Int → List Rc.Span) (pre : List Rc.Span) : List Rc.Rect × List Rc.Span := pre.foldl (bandStep row) ([], [])
theorem bandSt_snoc (row : Int → List Rc.Span) (pre : List Rc.Span) (b : Rc.Span) : bandSt row (pre ++ [b]) = bandStep row (bandSt row pre) b := by unfold bandSt; rw [List.foldl_append]; rfl
theorem bands_fold (row : Int → List Rc.Span) : ∀ (ys : List Int) (out : List Rc.Rect) (last : List Rc.Span), Rc.bands row ys out last = ((pairs ys).foldl (bandStep row) (out, last)).1
  | [], _, _ => rfl
  | [_], _, _ => rfl
  | y :: z :: r, out, last => by
    show Rc.bands row (z :: r) _ _ = _
    rw [bands_fold row (z :: r)]
    rfl
theorem bandSt_inv (row : Int → List Rc.Span) (hrow : ∀ y, (row y).length ≤ 16384) : ∀ (pre : List Rc.Span) (s : List Rc.Rect × List Rc.Span) (m : Nat), s.2.length ≤ s.1.length → s.2.length ≤ 16384 → s.1.length ≤ m * 16384 →
    (pre.foldl (bandStep row) s).2.length ≤ (pre.foldl (bandStep row) s).1.length ∧ (pre.foldl (bandStep row) s).2.length ≤ 16384 ∧ (pre.foldl (bandStep row) s).1.length ≤ (m + pre.length) * 16384
  | [], s, m, h1, h2, h3 => ⟨h1, h2, by simpa using h3⟩
  | b :: pre, s, m, h1, h2, h3 => by
    rw [List.foldl_cons, List.length_cons, show m + (pre.length + 1) = (m + 1) + pre.length by omega]
    have hr := hrow b.1
    refine bandSt_inv row hrow pre _ (m + 1) ?_ ?_ ?_
    · show (row b.1).length ≤ _
      unfold bandStep
      dsimp only
      split
      · rename_i e; rw [lift_len, e]; exact h1
      · simp
    · exact hr
    · unfold bandStep
      dsimp only
      split
      · rw [lift_len, Nat.succ_mul]; exact Nat.le_trans h3 (Nat.le_add_right _ _)
      · rw [List.length_append, List.length_map, Nat.succ_mul]; exact Nat.add_le_add h3 hr

/-- Between two rounds. -/
def OfI (w : World) (kf : Nat) (va vb : Value) (Br Ba Bb Bo Bl : Nat) (row : Int → List Rc.Span) (pre : List Rc.Span) (W : World) : Prop :=
  Below w.heap.size w W ∧ W.heap[Br]? = some (Obj.cells #[.func (.func kf) #[] #[]] 62 (0, 0)) ∧ W.heap[Ba]? = some (Obj.cells #[va] 22 (0, 0)) ∧ W.heap[Bb]? = some (Obj.cells #[vb] 22 (0, 0)) ∧
  ∃ (vo : Value) (lao : Option Addr) (lcap : Nat), W.heap[Bo]? = some (Obj.cells #[vo] 22 (0, 0)) ∧ W.heap[Bl]? = some (Obj.cells #[.slice lao (bandSt row pre).2.length lcap] 65 (0, 0)) ∧ TSpans W lao lcap (bandSt row pre).2 ∧
    W.ownsRow w.heap.size 44 4 vo (bandSt row pre).1.length ((bandSt row pre).1.flatMap recVal)
theorem ofI_own {w : World} {kf : Nat} {va vb : Value} {Br Ba Bb Bo Bl B : Nat} {row : Int → List Rc.Span} (hB : w.heap.size ≤ B) : OwnFrom B (OfI w kf va vb Br Ba Bb Bo Bl row) := by
  rintro pre W W' r ⟨h1, h2, h3, h4, vo, lao, lcap, h5, h6, h7, h8⟩ hg hr
  have keep : ∀ {k : Nat} {cs : Array Value} {e : TypeId}, W.heap[k]? = some (Obj.cells cs e (0, 0)) → W'.heap[k]? = some (Obj.cells cs e (0, 0)) := fun {k cs e} hk => (hg.block k (lt_of_block hk) (by
    intro e2; obtain ⟨_, o, ho, hc⟩ := hr k e2.symm; rw [hk] at ho; injection ho with ho; subst ho; cases hc)).trans hk
  refine ⟨h1.grown hg h1.size (fun k e => ?_), keep h2, keep h3, keep h4, vo, lao, lcap, keep h5, keep h6, ?_, h8.kept hg ?_⟩
  · have := (hr k e).1; omega
  · intro h0
    obtain ⟨g, cur, e, hc, hgg, hrr⟩ := h7 h0
    exact ⟨g, cur, e, hc, keep hgg, hrr⟩
  · rcases h8.2 with ⟨rfl, _⟩ | ⟨g, cap, cur, rfl, _, hgg, _⟩
    · exact .inl rfl
    · refine .inr fun e2 => ?_
      obtain ⟨_, o, ho, hc⟩ := hr g e2.symm
      rw [hgg] at ho; injection ho with ho; subst ho; cases hc
/-- The loop's variable in its box. -/
def OfA (n : Nat) (x : Rc.Span) (tm : Nat → Array Value) (a : Act) (W : World) : Prop := ∃ Bx, n ≤ Bx ∧ W.heap[Bx]? = some (Obj.cells #[.int .i64 x.1, .int .i64 x.2] 24 (0, 0)) ∧ a = { tmps := tm Bx, defers := [] }
theorem ofA_own {n : Nat} {x : Rc.Span} {tm : Nat → Array Value} {a : Act} {B : Nat} : OwnFrom B (fun (_ : Unit) W => OfA n x tm a W) := by
  rintro _ W W' r ⟨Bx, h1, h2, h3⟩ hg hr
  exact ⟨Bx, h1, (hg.block Bx (lt_of_block h2) (by
    intro e2; obtain ⟨_, o, ho, hc⟩ := hr Bx e2.symm; rw [h2] at ho; injection ho with ho; subst ho; cases hc)).trans h2, h3⟩
theorem Gr.kp3 {n0 Bo Bl : Nat} {W W' : World} (h : Gr n0 Bo Bl W W') {co cl : Array Value} (ho : W.heap[Bo]? = some (Obj.cells co 22 (0, 0))) (hl : W.heap[Bl]? = some (Obj.cells cl 65 (0, 0))) : Kp3 W W' := by
  refine ⟨h.below.size, fun k cs fr hk => h.tf k cs 3 fr hk (by decide) ?_ ?_⟩
  · rintro rfl; rw [ho] at hk; injection hk with hk; injection hk with _ h2 _; cases h2
  · rintro rfl; rw [hl] at hk; injection hk with hk; injection hk with _ h2 _; cases h2

end Go.Proofs.Ytpakiabnhdoijaa
