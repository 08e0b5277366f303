/- Lists of lists of rectangles in memory, read and owned; rows of places that a call owns. No condition.
   Queues of places that a call owns: a slice that loses its head and gains a last element. No condition but the model's bounds.
   The program's find (41): the end of a way through the row of roots. Condition: each root is a place at or ahead of its own. -/
import Derived.Test.YtpakiabnhdoijaaNr
import Derived.Test.YtpakiabnhdoijaaCc
import Derived.Test.YtpakiabnhdoijaaRcG

namespace Go.Proofs.Ytpakiabnhdoijaa
open Go.RowKit

/-- A list of lists in memory. -/
def IsPieces (w : World) (v : Value) (pss : List (List Rc.Rect)) : Prop :=
  ∃ us : List Value, IsList 1 (fun u : Value => [u]) w v us ∧ us.length = pss.length ∧ ∀ k, (h : k < us.length) → (h2 : k < pss.length) → IsRects w us[k] pss[k]
theorem IsPieces.form {w : World} {v : Value} {pss : List (List Rc.Rect)} (h : IsPieces w v pss) : ∃ ao cap, v = .slice ao pss.length cap ∧ ∀ k, (h : k < pss.length) → ∃ b off ao2 cap2, ao = some ⟨b, off, none⟩ ∧ b < w.heap.size ∧ pss.length ≤ cap ∧ w.cell? ⟨b, off + k, none⟩ = some (.slice ao2 pss[k].length cap2) ∧ LiesAt 4 recVal w ao2 cap2 pss[k] := by
  obtain ⟨us, hu, hl, hr⟩ := h
  obtain ⟨ao, cap, rfl, f⟩ := hu.form
  refine ⟨ao, cap, by rw [hl], fun k hk => ?_⟩
  obtain ⟨b, off, e, hb, hc, hcell⟩ := f k (by omega)
  obtain ⟨ao2, cap2, e2, f2⟩ := (hr k (by omega) hk).form
  have hcl := hcell 0 (by simp)
  simp at hcl
  rw [e2] at hcl
  exact ⟨b, off, ao2, cap2, e, hb, by omega, hcl, f2⟩
theorem IsPieces.keep {w w' : World} {v : Value} {pss : List (List Rc.Rect)} (h : IsPieces w v pss) (k : Kp w w' none) : IsPieces w' v pss := by
  obtain ⟨us, hu, hl, hr⟩ := h
  exact ⟨us, hu.keep k, hl, fun i h1 h2 => (hr i h1 h2).keep k⟩

/-- A slice of rectangles as a cell holds it. -/
structure Sl where
  ao : Option Addr
  n : Nat
  cap : Nat
def Sl.val (s : Sl) : Value := .slice s.ao s.n s.cap
def slVal (s : Sl) : List Value := [s.val]
theorem infoList : (Try.prog.info? 22).map (fun i => (i.zero, i.size, i.bytes)) = some (some (.slice none 0 0), 1, 24) := by kernel_rfl
theorem sl_one : ∀ x : Sl, ∀ u ∈ slVal x, u.oneCell' = true := by
  intro x u hu
  simp [slVal, Sl.val] at hu
  subst hu; rfl
theorem sls_at (w : World) (ao : Option Addr) (n cap : Nat) (g : Nat) (hg : g = w.heap.size) : IsList 1 slVal (w.alloc (Obj.cells #[.slice ao n cap] 22)) (.slice (some ⟨g, 0, none⟩) 1 1) [⟨ao, n, cap⟩] := by
  subst hg
  refine .inr ⟨w.heap.size, 0, 1, rfl, by simp, by simp, fun k hk j hj => ?_⟩
  simp at hk; subst hk
  simp [slVal] at hj
  subst hj
  have h := heap_alloc_new w (Obj.cells #[.slice ao n cap] 22)
  rw [World.cell?]
  simp only [h]
  rfl
/-- A row of lists that the call owns; each list lies apart from the row. -/
structure PiecesAt (w : World) (base : Nat) (v : Value) (us : List Sl) (pss : List (List Rc.Rect)) : Prop where
  len : us.length = pss.length
  own : w.ownsRow base 22 1 v us.length (us.flatMap slVal)
  each : ∀ k, (h : k < us.length) → (h2 : k < pss.length) → us[k].n = pss[k].length ∧ (∀ a, us[k].ao = some a → base ≤ a.block) ∧ LiesOff 4 recVal w us[k].ao us[k].cap pss[k] v
def OwnPieces (w : World) (base : Nat) (v : Value) (pss : List (List Rc.Rect)) : Prop := ∃ us : List Sl, PiecesAt w base v us pss
theorem PiecesAt.is {w : World} {base : Nat} {v : Value} {us : List Sl} {pss : List (List Rc.Rect)} (h : PiecesAt w base v us pss) : IsPieces w v pss := by
  have hi : IsList 1 slVal w v us := isList_own (m := 1) (f := slVal) (fun _ => rfl) h.own
  refine ⟨us.map Sl.val, ?_, by rw [List.length_map, h.len], fun k h1 h2 => ?_⟩
  · rcases hi with ⟨ao, cap, rfl, rfl⟩ | ⟨b, off, cap, rfl, hc, hb, hcell⟩
    · exact .inl ⟨ao, cap, rfl, rfl⟩
    · refine .inr ⟨b, off, cap, by rw [List.length_map], by rw [List.length_map]; exact hc, hb, fun k hk j hj => ?_⟩
      have hk' : k < us.length := by simpa using hk
      have h3 := hcell k hk' j (by simpa [slVal] using hj)
      rw [h3]
      simp [slVal]
  · have h1' : k < us.length := by simpa using h1
    obtain ⟨e, _, f⟩ := h.each k h1' h2
    have := f.at.list
    rw [← e] at this
    simpa [Sl.val] using this
theorem OwnPieces.is {w : World} {base : Nat} {v : Value} {pss : List (List Rc.Rect)} (h : OwnPieces w base v pss) : IsPieces w v pss := by
  obtain ⟨us, h⟩ := h
  exact h.is
theorem OwnPieces.empty (w : World) (base : Nat) : OwnPieces w base (.slice none 0 0) [] := ⟨[], rfl, World.ownsRow_nil _ _ _ _, fun k h => by simp at h⟩
theorem PiecesAt.keep {w w' : World} {base : Nat} {v : Value} {us : List Sl} {pss : List (List Rc.Rect)} (h : PiecesAt w base v us pss) (k : Kp w w' none) : PiecesAt w' base v us pss :=
  ⟨h.len, h.own.kept k (by cases v.ownBlock <;> simp), fun i h1 h2 => ⟨(h.each i h1 h2).1, (h.each i h1 h2).2.1, (h.each i h1 h2).2.2.keep (k.weak _)⟩⟩
/-- The same beside an elder block that is written. -/
theorem PiecesAt.keepRow {w w' : World} {base g : Nat} {v : Value} {us : List Sl} {pss : List (List Rc.Rect)} (h : PiecesAt w base v us pss) (k : Kp w w' (some g)) (hg : g < base) : PiecesAt w' base v us pss := by
  have hv : v.ownBlock = none ∨ v.ownBlock ≠ some g := by
    by_cases e : v.ownBlock = some g
    · have := (h.own.lt g e).1; omega
    · exact .inr e
  refine ⟨h.len, h.own.kept k hv, fun i h1 h2 => ⟨(h.each i h1 h2).1, (h.each i h1 h2).2.1, fun j hj => ?_⟩⟩
  obtain ⟨_, hb, f⟩ := h.each i h1 h2
  obtain ⟨b, off, e, hlt, hc, hv, hcell⟩ := f j hj
  have hbg := hb _ e
  simp only at hbg
  exact ⟨b, off, e, Nat.lt_of_lt_of_le hlt k.size, hc, hv, fun q hq => by rw [World.grownBy.cell_far k ⟨b, off + j * 4 + q, none⟩ hlt (by intro e; injection e with e; simp at e; omega)]; exact hcell q hq⟩
theorem own_shape {w : World} {base m n : Nat} {e : TypeId} {v : Value} {xs : List Value} (h : w.ownsRow base e m v n xs) : ∃ bo cap, v = .slice bo n cap := by
  rcases h.2 with ⟨rfl, rfl⟩ | ⟨g, cap, cur, rfl, _, _, hle, _⟩
  · exact ⟨none, 0, rfl⟩
  · exact ⟨_, _, rfl⟩
theorem PiecesAt.app {w w' : World} {base : Nat} {v v' : Value} {pss : List (List Rc.Rect)} {us : List Sl} {s : Sl} {p : List Rc.Rect} (h : PiecesAt w base v us pss)
    (hs : s.n = p.length) (hsb : ∀ a, s.ao = some a → base ≤ a.block) (hp : LiesOff 4 recVal w s.ao s.cap p v) (ho : w'.ownsRow base 22 1 v' (us.length + [s].length) (us.flatMap slVal ++ [s].flatMap slVal)) (hg : w.grownBy w' v.ownBlock) (hv : v'.ownBlock = v.ownBlock ∨ v'.ownBlock = some w.heap.size) : OwnPieces w' base v' (pss ++ [p]) := by
  have hl := h.len
  have hv' : v'.ownBlock = v.ownBlock ∨ ∃ n, w.heap.size ≤ n ∧ v'.ownBlock = some n := by
    rcases hv with h | h
    · exact .inl h
    · exact .inr ⟨_, Nat.le_refl _, h⟩
  refine ⟨us ++ [s], by simp [hl], by simpa using ho, fun k h1 h2 => ?_⟩
  by_cases hk : k < us.length
  · have hk2 : k < pss.length := by omega
    rw [List.getElem_append_left hk, List.getElem_append_left hk2]
    exact ⟨(h.each k hk hk2).1, (h.each k hk hk2).2.1, (h.each k hk hk2).2.2.turn hg hv'⟩
  · have e : k = us.length := by simp at h1; omega
    subst e
    have e2 : (pss ++ [p])[us.length] = p := by simp [hl]
    rw [e2]
    simp only [List.getElem_append_right (Nat.le_refl _), Nat.sub_self, List.getElem_cons_zero]
    exact ⟨hs, hsb, hp.turn hg hv'⟩
/-- A piece that has just been made: a cell of the row of pieces. -/
theorem piece_new {w w' : World} {base : Nat} {u v : Value} {us : List Sl} {pss : List (List Rc.Rect)} {p : List Rc.Rect} (h : PiecesAt w base v us pss) (hb : base ≤ w.heap.size) (hu : w'.ownsRow w.heap.size 44 4 u p.length (p.flatMap recVal)) :
    ∃ ao cap, u = .slice ao p.length cap ∧ (∀ a, ao = some a → base ≤ a.block) ∧ LiesOff 4 recVal w' ao cap p v := by
  obtain ⟨ao, cap, rfl, f⟩ := liesOff_new (m := 4) (f := recVal) (fun _ => rfl) hu h.own
  refine ⟨ao, cap, rfl, fun a e => ?_, f⟩
  have := (hu.lt a.block (by rw [e]; rfl)).1
  omega

/-! ### Rows of places -/
def ints (R : List Nat) : List Int := R.map fun n : Nat => (n : Int)
theorem ints_len (R : List Nat) : (ints R).length = R.length := by unfold ints; simp
/-- A full row of places that the call owns. -/
def OwnPlaces (w : World) (base g : Nat) (R : List Nat) : Prop := w.ownsRow base 3 1 (.slice (some ⟨g, 0, none⟩) R.length R.length) R.length ((ints R).flatMap intVal)
theorem ints_flat (R : List Nat) : (ints R).flatMap intVal = R.map fun n : Nat => Value.int .i64 n := by
  unfold ints intVal
  induction R with
  | nil => rfl
  | cons x R ih => simp [ih]
theorem OwnPlaces.cell {w : World} {base g : Nat} {R : List Nat} (h : OwnPlaces w base g R) {k : Nat} (hk : k < R.length) : w.cell? ⟨g, k, none⟩ = some (.int .i64 (R[k] : Int)) := by
  have := World.ownsRow.cellAt h k (by omega)
  rw [this, ints_flat]
  simp [hk]
theorem OwnPlaces.frozen {w : World} {base g : Nat} {R : List Nat} (h : OwnPlaces w base g R) (k : Nat) : w.frozen? ⟨g, k, none⟩ = false := World.ownsRow.frozenAt h k
theorem OwnPlaces.stored {w : World} {base g : Nat} {R : List Nat} (h : OwnPlaces w base g R) (k m : Nat) : OwnPlaces (w.setCell ⟨g, k, none⟩ (.int .i64 (m : Int))) base g (R.set k m) ∧ w.grownBy (w.setCell ⟨g, k, none⟩ (.int .i64 (m : Int))) (some g) := by
  have := World.ownsRow.stored h k (.int .i64 (m : Int))
  refine ⟨?_, this.2⟩
  unfold OwnPlaces
  have h1 := this.1
  rw [ints_flat] at h1 ⊢
  rw [List.length_set, List.map_set]
  exact h1
theorem OwnPlaces.lies {w : World} {base g : Nat} {R : List Nat} (h : OwnPlaces w base g R) : LiesAt 1 intVal w (some ⟨g, 0, none⟩) R.length (R.map fun n : Nat => (n : Int)) := by
  intro k hk
  have hk' : k < R.length := by simpa using hk
  have hlt := h.lt g rfl
  refine ⟨g, 0, rfl, hlt.2, by simp, fun j hj => ?_⟩
  simp [intVal] at hj
  subst hj
  have := h.cell hk'
  simpa [intVal] using this
theorem OwnPlaces.made {w : World} {base g n : Nat} (h : w.ownsRow base 3 1 (.slice (some ⟨g, 0, none⟩) n n) n (madeCells #[Value.int .i64 0] n).toList) : OwnPlaces w base g (List.replicate n 0) := by
  unfold OwnPlaces
  rw [ints_flat, List.length_replicate, List.map_replicate]
  rw [toList_madeCells_one] at h
  exact h
theorem OwnPlaces.keep {w w' : World} {base g : Nat} {R : List Nat} (h : OwnPlaces w base g R) (k : Kp w w' none) : OwnPlaces w' base g R := World.ownsRow.kept h k (.inr (by simp [Value.ownBlock]))
theorem LiesAt.rect {w : World} {ao : Option Addr} {cap : Nat} {xs : List Rc.Rect} (h : LiesAt 4 recVal w ao cap xs) {k : Nat} (hk : k < xs.length) : ∃ b off, ao = some ⟨b, off, none⟩ ∧ xs.length ≤ cap ∧ b < w.heap.size ∧ w.cell? ⟨b, off + k * 4, none⟩ = some (.int .i64 xs[k].x0) ∧ w.cell? ⟨b, off + k * 4 + 1, none⟩ = some (.int .i64 xs[k].y0) ∧ w.cell? ⟨b, off + k * 4 + 2, none⟩ = some (.int .i64 xs[k].x1) ∧ w.cell? ⟨b, off + k * 4 + 3, none⟩ = some (.int .i64 xs[k].y1) := by
  obtain ⟨b, off, e, hb, hc, hr⟩ := h k hk
  exact ⟨b, off, e, hc, hb, hr 0 (by simp [recVal]), hr 1 (by simp [recVal]), hr 2 (by simp [recVal]), hr 3 (by simp [recVal])⟩
def lenOf : Value → Nat
  | .slice _ n _ => n
  | _ => 0

end Go.Proofs.Ytpakiabnhdoijaa

namespace Go.Proofs.Ytpakiabnhdoijaa
open Go.RowKit

def placeVal (n : Nat) : Value := .int .i64 (n : Int)
/-- A queue of places that the call owns; its block holds what was taken off its head, too. -/
def OwnsQ (w : World) (base : Nat) (v : Value) (xs : List Nat) : Prop :=
  ∃ g off cap cur, v = .slice (some ⟨g, off, none⟩) xs.length cap ∧ base ≤ g ∧ w.heap[g]? = some (.cells cur 3 (0, 0)) ∧ xs.length ≤ cap ∧ cap ≤ maxLen ∧ off + cap ≤ cur.size ∧ (cur.toList.drop off).take xs.length = xs.map placeVal
theorem OwnsQ.keep {w w' : World} {base : Nat} {v : Value} {xs : List Nat} {row : Option Nat} (h : OwnsQ w base v xs) (k : w.grownBy w' row) (hr : v.ownBlock ≠ row) : OwnsQ w' base v xs := by
  obtain ⟨g, off, cap, cur, rfl, h1, h2, h3⟩ := h
  exact ⟨g, off, cap, cur, rfl, h1, (k.block g (lt_of_block h2) (fun e => hr e)).trans h2, h3⟩
theorem OwnsQ.lt {w : World} {base : Nat} {v : Value} {xs : List Nat} (h : OwnsQ w base v xs) : ∃ g, v.ownBlock = some g ∧ base ≤ g ∧ g < w.heap.size := by
  obtain ⟨g, off, cap, cur, rfl, h1, h2, h3⟩ := h
  exact ⟨g, rfl, h1, lt_of_block h2⟩
theorem OwnsQ.form {w : World} {base : Nat} {v : Value} {xs : List Nat} (h : OwnsQ w base v xs) : ∃ g off cap, v = .slice (some ⟨g, off, none⟩) xs.length cap ∧ base ≤ g ∧ g < w.heap.size ∧ xs.length ≤ cap ∧ ∀ k, (hk : k < xs.length) → w.cell? ⟨g, off + k, none⟩ = some (placeVal xs[k]) := by
  obtain ⟨g, off, cap, cur, rfl, h1, h2, h3, h4, h5, h6⟩ := h
  refine ⟨g, off, cap, rfl, h1, lt_of_block h2, h3, fun k hk => ?_⟩
  rw [cell_of_row w g (off + k) cur 3 (0, 0) h2]
  have e := congrArg (fun l => l[k]?) h6
  simp only [List.getElem?_take, List.getElem?_drop, List.getElem?_map, if_pos hk, List.getElem?_eq_getElem hk, Option.map_some] at e
  simpa using e
theorem OwnsQ.tail {w : World} {base g off cap n : Nat} {x : Nat} {xs : List Nat} (h : OwnsQ w base (.slice (some ⟨g, off, none⟩) n cap) (x :: xs)) : OwnsQ w base (.slice (some ⟨g, off + 1, none⟩) (n - 1) (cap - 1)) xs := by
  obtain ⟨g', off', cap', cur, e, h1, h2, h3, h4, h5, h6⟩ := h
  simp only [Value.slice.injEq, Option.some.injEq, Addr.mk.injEq, and_true] at e
  obtain ⟨⟨rfl, rfl⟩, rfl, rfl⟩ := e
  rw [List.length_cons] at h3
  refine ⟨g, off + 1, cap - 1, cur, by simp, h1, h2, by omega, by omega, by omega, ?_⟩
  rw [List.length_cons, List.map_cons] at h6
  rw [← List.drop_drop]
  have hd : ∀ (l : List Value) (y : Value) (ys : List Value) (n : Nat), l.take (n + 1) = y :: ys → (l.drop 1).take n = ys := by
    intro l y ys n hl
    cases l with
    | nil => simp at hl
    | cons a l => simp at hl; simpa using hl.2
  exact hd _ _ _ _ h6
/-- The last place taken off where the block ends. -/
theorem OwnsQ.tail0 {w : World} {base g off n : Nat} {x : Nat} {xs : List Nat} (h : OwnsQ w base (.slice (some ⟨g, off, none⟩) n 1) (x :: xs)) : OwnsQ w base (.slice (some ⟨g, off, none⟩) (n - 1) 0) xs := by
  obtain ⟨g', off', cap', cur, e, h1, h2, h3, h4, h5, h6⟩ := h
  simp only [Value.slice.injEq, Option.some.injEq, Addr.mk.injEq, and_true] at e
  obtain ⟨⟨rfl, rfl⟩, rfl, rfl⟩ := e
  rw [List.length_cons] at h3
  have hx : xs = [] := List.length_eq_zero_iff.1 (by omega)
  subst hx
  exact ⟨g, off, 0, cur, by simp, h1, h2, by simp, by omega, by omega, by simp⟩
theorem OwnsQ.one {w : World} {base : Nat} (hb : base ≤ w.heap.size) (k : Nat) : OwnsQ (w.alloc (Obj.cells #[placeVal k] 3)) base (.slice (some ⟨w.heap.size, 0, none⟩) 1 1) [k] :=
  ⟨w.heap.size, 0, 1, #[placeVal k], rfl, hb, heap_alloc_new w _, by simp, by unfold maxLen; omega, Nat.le_refl _, rfl⟩

theorem run_queue_room {w : World} (ty : TypeId) (i : TypeInfo) (hi : Try.prog.info? 3 = some i) (his : i.size = 1)
    (g off sLen sCap : Nat) (cur : Array Value) (hg : w.heap[g]? = some (.cells cur 3 (0, 0)))
    (a : Addr) (c : Nat) (u : Value) (hu : w.cell? a = some u) (h1 : u.oneCell' = true)
    (hroom : sLen + 1 ≤ sCap) (hfit : off + sLen + 1 ≤ cur.size) :
    (Builtin.append_ #[57, 57] ty #[.slice (some ⟨g, off, none⟩) sLen sCap, .slice (some a) 1 c]).run Try.prog w =
      .ok (.slice (some ⟨g, off, none⟩) (sLen + 1) sCap) (w.setRow g (cur.toList.take (off + sLen) ++ [u] ++ cur.toList.drop (off + sLen + 1)).toArray) := by
  have hf := run_firstCells_some (P := Try.prog) w i.size 1 a 1 c [u] (by simp [his]) (fun j v hv => by
    have : j = 0 := by
      have := (List.getElem?_eq_some_iff.1 hv).1
      simpa using this
    subst this
    have e : a.add 0 = a := by unfold Addr.add; split <;> simp_all
    rw [e]
    simp at hv
    rw [← hv]; exact hu)
  have hst := run_storeCells_at Try.prog g (off + sLen) 3 [u] 0 cur w hg (by simpa using hfit) (by simpa using h1)
  simp only [Nat.add_zero, List.length_singleton] at hst
  rw [his] at hf
  have ht := Try.underlying57
  simp [Builtin.append_, run_underlying ht, sizeOf, typeInfo, hi, Builtin.lenOf, hroom, hf, Addr.add_lit, his, hst]

/-- A place appended to a queue. -/
theorem run_queue_append {w : World} (ty : TypeId) (base : Nat) (v : Value) (xs : List Nat) (hq : OwnsQ w base v xs) (a : Addr) (c : Nat) (k : Nat) (hu : w.cell? a = some (placeVal k)) (hb : base ≤ w.heap.size) (hl : xs.length ≤ 1000000000) :
    ∃ v' w', (Builtin.append_ #[57, 57] ty #[v, .slice (some a) 1 c]).run Try.prog w = .ok v' w' ∧ OwnsQ w' base v' (xs ++ [k]) ∧ w.grownBy w' v.ownBlock ∧ (v'.ownBlock = v.ownBlock ∨ v'.ownBlock = some w.heap.size) := by
  obtain ⟨i, hi, hz, his, hby⟩ := info_parts infoInt
  obtain ⟨g, off, cap, cur, rfl, h1, h2, h3, h4, h5, h6⟩ := hq
  by_cases hroom : xs.length + 1 ≤ cap
  · have hr := run_queue_room (w := w) ty i hi his g off xs.length cap cur h2 a c (placeVal k) hu rfl hroom (by omega)
    refine ⟨_, _, hr, ⟨g, off, cap, _, by simp, h1, setRow_heap w g cur _ 3 _ h2, by simpa using hroom, h4, ?_, ?_⟩, ⟨rfl, rfl, rfl, by simp, fun j _ hk => setRow_other w g j _ (fun e => hk (by simp [Value.ownBlock, e]))⟩, .inl rfl⟩
    · simp only [List.size_toArray, List.length_append, List.length_take, List.length_drop, Array.length_toList, List.length_singleton]
      omega
    · have hlt : (cur.toList.take (off + xs.length)).length = off + xs.length := by simp only [List.length_take, Array.length_toList]; omega
      have e1 : (cur.toList.take (off + xs.length)).drop off = xs.map placeVal := by
        rw [List.drop_take, show off + xs.length - off = xs.length by omega, h6]
      simp only [List.append_assoc]
      rw [List.drop_append_of_le_length (by omega), e1, List.map_append, List.length_append]
      rw [List.take_append, List.length_map, List.take_of_length_le (by simp)]
      simp
  · have holds : ∀ j u, (xs.map placeVal)[j]? = some u → w.cell? ((⟨g, off, none⟩ : Addr).add j) = some u := by
      intro j u hu
      have hj : j < xs.length := by have := (List.getElem?_eq_some_iff.1 hu).1; simpa using this
      have e : (⟨g, off, none⟩ : Addr).add j = ⟨g, off + j, none⟩ := by unfold Addr.add; split <;> simp_all
      rw [e, cell_of_row w g (off + j) cur 3 (0, 0) h2]
      have e2 := congrArg (fun l => l[j]?) h6
      simp only [List.getElem?_take, List.getElem?_drop, if_pos hj] at e2
      rw [hu] at e2
      simpa using e2
    have hr := run_append_grow (P := Try.prog) w 57 ty 3 i _ Try.underlying57 hi hz ⟨g, off, none⟩ xs.length cap (xs.map placeVal) (by simp [his]) holds a 1 c [placeVal k] (by simp [his]) (fun j u hv => by
      have : j = 0 := by
        have := (List.getElem?_eq_some_iff.1 hv).1
        simpa using this
      subst this
      have e : a.add 0 = a := by unfold Addr.add; split <;> simp_all
      rw [e]
      simp at hv
      rw [← hv]; exact hu) (by omega) (by omega) (by
        have := growslice_fits (need := xs.length + 1) (old := cap) (bytes := i.bytes) (by omega) (by rw [hby]; omega)
        exact this)
    have hge := grownCap_ge w (xs.length + 1) cap 3
    have hcm : grownCap w (xs.length + 1) cap 3 ≤ maxLen := grownCap_le_maxLen w (xs.length + 1) cap 3 (by unfold maxLen; omega)
    refine ⟨_, _, hr, ⟨w.heap.size, 0, _, _, by simp, hb, heap_alloc_new w.drew _, by simpa using hge, hcm, ?_, ?_⟩, (Kp.refl w _).drew.alloc _, .inr rfl⟩
    · simp only [Array.size_append, List.size_toArray, size_zeroCells, List.length_map, List.length_singleton]
      have : (Value.int .i64 0).cells.size = 1 := rfl
      rw [this]; omega
    · simp only [Array.toList_append, List.drop_zero, List.append_assoc]
      rw [← List.append_assoc, List.map_append, List.length_append]
      have : (xs.map placeVal ++ [placeVal k]).length = xs.length + [k].length := by simp
      rw [← this]
      exact List.take_left
theorem wpList_qapp {w : World} {ops : Array Oper} {rest : List Oper} {o : Oper} {a : Act} {Q : Exit → Act → World → Prop} (hgd : o.guard = none) (s xo : Operand)
    (ho : o.op = .call { callee := .builtin .append, args := #[s, xo], argTypes := #[57, 57] }) (base : Nat) (v : Value) (xs : List Nat) (hs : a.eval s = v) (hq : OwnsQ w base v xs) (ad : Addr) (c : Nat) (k : Nat) (hx : a.eval xo = .slice (some ad) 1 c) (hu : w.cell? ad = some (placeVal k)) (hb : base ≤ w.heap.size) (hl : xs.length ≤ 1000000000)
    (h : ∀ v' w', OwnsQ w' base v' (xs ++ [k]) → w.grownBy w' v.ownBlock → (v'.ownBlock = v.ownBlock ∨ v'.ownBlock = some w.heap.size) → wpList Try.prog ops Q rest (a.put o.dst v') w') : wpList Try.prog ops Q (o :: rest) a w := by
  refine wpList_plain hgd fun K hK' => ?_
  obtain ⟨v', w', hr, h2, h3, h4⟩ := run_queue_append (w := w) o.type base v xs hq ad c k hu hb hl
  unfold Oper.wp execOp
  simp only [ho, resolve, invoke, builtin, Sem.run_bind, Sem.run_pure, Result.andThen_ok, List.map_toArray, List.map_cons, List.map_nil, hs, hx, hr]
  exact hK' _ _ (h v' w' h2 h3 h4)
theorem cell_new_set (w : World) (p : Addr) (u x : Value) (t : TypeId) : ((w.setCell p u).alloc (Obj.cells #[x] t)).cell? ⟨w.heap.size, 0, none⟩ = some x := by
  have h := heap_alloc_new (w.setCell p u) (Obj.cells #[x] t)
  have e : (w.setCell p u).heap.size = w.heap.size := by simp
  rw [e] at h
  rw [cell_of_row _ _ _ _ _ _ h]
  rfl

end Go.Proofs.Ytpakiabnhdoijaa

namespace Go.Proofs.Ytpakiabnhdoijaa
open Go.RowKit

set_option maxHeartbeats 2000000 in
theorem find_any (R : List Nat) (ao : Option Addr) (cap B : Nat) (i r : Nat) (w : World) (hbox : w.cell? ⟨B, 0, none⟩ = some (.slice ao R.length cap)) (hR : LiesAt 1 intVal w ao cap (R.map fun n : Nat => (n : Int))) (hr : Rc.Root R i r) (_hl : R.length ≤ 1000000000) :
    Calls Try.prog 41 #[.int .i64 i, .pointer (some ⟨B, 0, none⟩)] w fun E w' => E = .returned (.int .i64 r) ∧ w = w' := by
  have FR := Lib.hid hR
  have HR := Lib.hid hr
  clear hR hr
  have hn0 : (0 : Int) ≤ (R.length : Int) := Int.natCast_nonneg _
  go_enter Try.func41, Try.ntmps41
  go_wp2_with fail
  go_loopw [0] (fun v wr => (∃ k : Nat, v = .int .i64 k ∧ Rc.Root R k r) ∧ w = wr) (fun v _ => (intOf v).toNat)
  case atStart => exact ⟨⟨i, rfl, HR.out⟩, rfl⟩
  case round =>
    obtain ⟨⟨k, rfl, hk⟩, rfl⟩ := hrel
    have hkl := hk.lt
    have hk0 : (0 : Int) ≤ (k : Int) := Int.natCast_nonneg _
    have hk1 : (k : Int) < (R.length : Int) := by omega
    obtain ⟨b, off, rfl, hb, hc, hcell⟩ := FR.out.int k (by rw [List.length_map]; exact hkl)
    have c0 : w.cell? ⟨b, off + k, none⟩ = some (.int .i64 (R[k] : Int)) := by
      have := hcell k (by rw [List.length_map]; exact hkl)
      rw [this]; simp
    cases hk with
    | here _ h e =>
      rw [e] at c0
      go_wp2_with fail
      go_ret
      exact ⟨rfl, rfl⟩
    | on _ _ h hlt e =>
      obtain ⟨m, hm⟩ : ∃ m, R[k] = m := ⟨_, rfl⟩
      rw [hm] at c0 hlt e
      have HE := Lib.hid e
      have hne : ((m : Int) == (k : Int)) = false := by simp; omega
      clear e hm hcell
      go_wp2_with fail
      go_roundw
      case rel => exact ⟨⟨m, rfl, HE.out⟩, by trivial⟩
      case measure => simp [intOf]; omega

end Go.Proofs.Ytpakiabnhdoijaa
