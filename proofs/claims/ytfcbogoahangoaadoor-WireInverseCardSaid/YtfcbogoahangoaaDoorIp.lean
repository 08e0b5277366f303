/- WireInverse: the values, their serializations one behind the other, and the list of values that the law makes. No condition. -/
import Derived.Test.YtfcbogoahangoaaDoorPp
import Derived.Deep.AppendLies
namespace Go.Proofs.YtfcbogoahangoaaDoor
open Go.RowKit

/-- A value of the laws by its parts. -/
structure V where
  c : Int
  n : Int
  s : List UInt8
  a3 : Option Addr
  l3 : Nat
  c3 : Nat
  xs : List Int
  v4 : Value
  ts : List (List UInt8)
structure V.Ok (w : World) (x : V) : Prop where
  c0 : 0 ≤ x.c
  c1 : x.c < 256
  v : ValOf w x.n x.s x.a3 x.l3 x.c3 x.xs x.v4 x.ts
theorem V.Ok.keep {w w' : World} {x : V} (h : V.Ok w x) (k : Kp w w' none) : V.Ok w' x := ⟨h.c0, h.c1, h.v.keep k⟩
def V.k (x : V) : Nat := (x.c % 4).toNat
theorem V.Ok.k4 {w : World} {x : V} (h : V.Ok w x) : x.k < 4 ∧ x.c % 4 = (x.k : Int) := by have := h.c0; unfold V.k; omega
def V.ser (x : V) : List UInt8 := serN x.k x.n x.s x.xs x.ts
def sers (l : List V) : List UInt8 := l.flatMap V.ser
theorem sers_take (l : List V) (k : Nat) (h : k < l.length) : sers (l.take (k + 1)) = sers (l.take k) ++ l[k].ser := by
  unfold sers; rw [List.take_succ_eq_append_getElem h, List.flatMap_append]; simp
theorem sers_drop (l : List V) (k : Nat) (h : k < l.length) : sers (l.drop k) = l[k].ser ++ sers (l.drop (k + 1)) := by
  unfold sers; rw [List.drop_eq_getElem_cons h]; rfl
theorem ser_length {w : World} {x : V} (h : V.Ok w x) : x.ser.length ≤ 25000000 := by
  have hv := h.v
  have hI : ∀ y ∈ cutL x.ts, (Wr.wText y).length ≤ 1048600 := fun y hy => wText_length y (by have := cutL_mem x.ts y hy; omega)
  have hS := wText_length (x.s.take 100) (by simp; omega)
  have hn := wInt_length x.n hv.n
  have h1 := flat_length Wr.wInt 21 x.xs (fun y hy => wInt_length y (hv.i y hy))
  have h2 := flat_length Wr.wText 1048600 (cutL x.ts) hI
  have h3 := cutL_len x.ts
  have h4 := hv.l
  unfold V.ser serN
  split
  · omega
  · omega
  · simp only [Wr.wInts, List.length_append, List.length_cons, List.length_nil]; omega
  · simp only [Wr.wTexts, List.length_append, List.length_cons, List.length_nil]; omega
theorem sers_length {w : World} {l : List V} (h : ∀ x ∈ l, V.Ok w x) : (sers l).length ≤ 25000000 * l.length :=
  flat_length V.ser 25000000 l fun x hx => ser_length (h x hx)

def cellsOf (x : V) (t : Value) : List Value := [.int .u8 x.c, .int .i64 x.n, .string ⟨(x.s.take 100).toArray⟩, .slice x.a3 x.xs.length x.c3, t]
def ownCells (l : List V) (tv : List Value) : List Value := (l.zip tv).flatMap fun p => cellsOf p.1 p.2
theorem ownCells_snoc (l : List V) (tv : List Value) (x : V) (t : Value) (h : tv.length = l.length) : ownCells (l ++ [x]) (tv ++ [t]) = ownCells l tv ++ cellsOf x t := by
  unfold ownCells; rw [List.zip_append h.symm, List.flatMap_append]; simp
theorem ownCells_get : ∀ (l : List V) (tv : List Value) (k j : Nat) (x : V) (t : Value), l[k]? = some x → tv[k]? = some t → j < 5 → (ownCells l tv)[k * 5 + j]? = (cellsOf x t)[j]?
  | [], _, _, _, _, _, h, _, _ => by simp at h
  | _ :: _, [], _, _, _, _, _, h, _ => by simp at h
  | y :: l, u :: tv, 0, j, x, t, h1, h2, h3 => by
    simp at h1 h2; subst h1 h2
    unfold ownCells
    simp only [List.zip_cons_cons, List.flatMap_cons, Nat.zero_mul, Nat.zero_add]
    rw [List.getElem?_append_left (by simp [cellsOf]; omega)]
  | y :: l, u :: tv, k + 1, j, x, t, h1, h2, h3 => by
    have ih := ownCells_get l tv k j x t (by simpa using h1) (by simpa using h2) h3
    rw [← ih]
    unfold ownCells
    simp only [List.zip_cons_cons, List.flatMap_cons]
    rw [List.getElem?_append_right (by simp [cellsOf]; omega)]
    congr 1
    simp [cellsOf]; omega

theorem IsRow.keepRow {w w' : World} {v : Value} {xs : List Value} {row : Option Nat} (h : IsRow w v xs) (k : Kp w w' row) (hne : ∀ b, v.ownBlock = some b → row ≠ some b) : IsRow w' v xs := by
  rcases h with h | ⟨b, off, cap, hv, hc, hb, hr⟩
  · exact .inl h
  · refine .inr ⟨b, off, cap, hv, hc, Nat.lt_of_lt_of_le hb k.size, fun i hi => ?_⟩
    rw [← hr i hi]
    exact World.cell?_of_block (k.block b hb (fun e => hne b (by rw [hv]; rfl) e.symm))

/-- The strings of the values made so far: each in a block of its own, apart from the list's. -/
def TRows (w : World) (own : Value) (l : List V) (tv : List Value) : Prop :=
  ∀ (k : Nat) (x : V) (t : Value), l[k]? = some x → tv[k]? = some t → IsRow w t ((cutL x.ts).map vStr) ∧ ∀ b, t.ownBlock = some b → b < w.heap.size ∧ own.ownBlock ≠ some b
theorem TRows.keep {w w' : World} {own : Value} {l : List V} {tv : List Value} {row : Option Nat} (h : TRows w own l tv) (k : Kp w w' row) (hr : row = none ∨ row = own.ownBlock) : TRows w' own l tv := fun i x t h1 h2 => by
  obtain ⟨a, b⟩ := h i x t h1 h2
  refine ⟨a.keepRow k (fun g hg => ?_), fun g hg => ⟨Nat.lt_of_lt_of_le (b g hg).1 k.size, (b g hg).2⟩⟩
  rcases hr with rfl | rfl
  · simp
  · exact (b g hg).2
theorem TRows.other {w : World} {own own' : Value} {l : List V} {tv : List Value} (h : TRows w own l tv) (H : Nat) (hlt : ∀ (k : Nat) (x : V) (t : Value) b, l[k]? = some x → tv[k]? = some t → t.ownBlock = some b → b < H) (ho : own'.ownBlock = own.ownBlock ∨ own'.ownBlock = some H) : TRows w own' l tv := fun i x t h1 h2 => by
  obtain ⟨a, b⟩ := h i x t h1 h2
  refine ⟨a, fun g hg => ⟨(b g hg).1, ?_⟩⟩
  rcases ho with ho | ho
  · rw [ho]; exact (b g hg).2
  · rw [ho]; have := hlt i x t g h1 h2 hg; intro e; injection e; omega
theorem TRows.snoc {w : World} {own : Value} {l : List V} {tv : List Value} {x : V} {t : Value} (hl : tv.length = l.length) (h : TRows w own l tv) (h1 : IsRow w t ((cutL x.ts).map vStr)) (h2 : ∀ b, t.ownBlock = some b → b < w.heap.size ∧ own.ownBlock ≠ some b) : TRows w own (l ++ [x]) (tv ++ [t]) := fun i y u hy hu => by
  rcases Nat.lt_or_ge i l.length with hi | hi
  · rw [List.getElem?_append_left hi] at hy
    rw [List.getElem?_append_left (by omega)] at hu
    exact h i y u hy hu
  · rw [List.getElem?_append_right hi] at hy
    rw [List.getElem?_append_right (by omega)] at hu
    obtain rfl : i = l.length := by
      rcases Nat.eq_or_lt_of_le hi with e | e
      · exact e.symm
      · rw [List.getElem?_eq_none (by simp; omega)] at hy; cases hy
    simp at hy
    rw [hl] at hu
    simp at hu
    subst hy hu
    exact ⟨h1, h2⟩

/-- The loop that makes the list. -/
def InvRel1 (w : World) (vs : List V) (own s i : Value) (wr : World) : Prop :=
  ∃ (k : Nat) (tv : List Value), k ≤ vs.length ∧ tv.length = k ∧ i = .int .i64 k ∧ s = .string ⟨(sers (vs.take k)).toArray⟩ ∧ wr.ownsRow w.heap.size 45 5 own k (ownCells (vs.take k) tv) ∧ TRows wr own (vs.take k) tv ∧ Kp w wr none
/-- The loop that reads. -/
def InvRel2 (w : World) (r : Nat) (vs : List V) (i : Value) (wr : World) : Prop :=
  ∃ k : Nat, k ≤ vs.length ∧ i = .int .i64 k ∧ RdIs wr r (some (sers (vs.drop k))) ∧ Kp w wr none

/-- What the append of a value's copy leaves. -/
theorem inv_step {w wr w3 w4 : World} {vs : List V} {own own' : Value} {k : Nat} {tv : List Value} {t : Value} {H : Nat} {x : V} (hk : k < vs.length) (hx : vs[k] = x) (htv : tv.length = k) (hT : TRows wr own (vs.take k) tv) (hK : Kp w wr none)
    (h1 : wr.heap.size ≤ H) (k3 : Kp wr w3 none) (hH : H ≤ w3.heap.size) (ht : IsRow w3 t ((cutL x.ts).map vStr)) (ht2 : ∀ b, t.ownBlock = some b → wr.heap.size ≤ b ∧ b < H)
    (hown : wr.ownsRow w.heap.size 45 5 own k (ownCells (vs.take k) tv)) (hg : w3.grownBy w4 own.ownBlock) (ho : own'.ownBlock = own.ownBlock ∨ own'.ownBlock = some H)
    (hown' : w4.ownsRow w.heap.size 45 5 own' (k + 1) (ownCells (vs.take k) tv ++ cellsOf x t)) :
    (tv ++ [t]).length = k + 1 ∧ w4.ownsRow w.heap.size 45 5 own' (k + 1) (ownCells (vs.take (k + 1)) (tv ++ [t])) ∧ TRows w4 own' (vs.take (k + 1)) (tv ++ [t]) ∧ Kp w w4 none := by
  subst hx
  have hlen : tv.length = (vs.take k).length := by rw [htv, List.length_take]; omega
  have hs : vs.take (k + 1) = vs.take k ++ [vs[k]] := List.take_succ_eq_append_getElem hk
  have hob : ∀ b, own.ownBlock = some b → w.heap.size ≤ b ∧ b < wr.heap.size := fun b hb => hown.lt b hb
  refine ⟨by simp [htv], by rw [hs, ownCells_snoc _ _ _ _ hlen]; exact hown', ?_, Kp.row (hK.trans k3) hg (fun j hj => (hob j hj).1)⟩
  rw [hs]
  have a : TRows w3 own (vs.take k ++ [vs[k]]) (tv ++ [t]) := (hT.keep k3 (.inl rfl)).snoc hlen ht fun b hb => ⟨by have := (ht2 b hb).2; omega, fun e => by have := (ht2 b hb).1; have := (hob b e).2; omega⟩
  have b : TRows w4 own (vs.take k ++ [vs[k]]) (tv ++ [t]) := a.keep hg (.inr rfl)
  refine b.other H (fun i x u g h1 h2 h3 => ?_) ho
  rcases Nat.lt_or_ge i (vs.take k).length with hi | hi
  · rw [List.getElem?_append_left hi] at h1
    rw [List.getElem?_append_left (by omega)] at h2
    have := ((hT i x u h1 h2).2 g h3).1
    omega
  · rw [List.getElem?_append_right (by omega)] at h2
    rw [List.getElem?_append_right hi] at h1
    rcases Nat.eq_or_lt_of_le hi with e | e
    · subst e
      rw [hlen] at h2
      simp at h2
      subst h2
      exact (ht2 g h3).2
    · rw [List.getElem?_eq_none (by simp; simp at e; omega)] at h1; cases h1
end Go.Proofs.YtfcbogoahangoaaDoor
