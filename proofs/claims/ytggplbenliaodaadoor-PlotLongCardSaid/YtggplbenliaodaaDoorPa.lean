/- Paths that numbers choose (pathOf). Condition: a beginning of at most 200. -/
import Derived.Test.YtggplbenliaodaaDoorRo
import Derived.Deep.CutBlock
import Derived.Deep.CutRange
namespace Go.Proofs.YtggplbenliaodaaDoor
open Go.RowKit

theorem Bs.keepFar {A N p : Nat} {kind r : Int} {es : List Pl.Ed} {u : Value} {w w' : World} (h : Bs A N kind es r u w) (k : Kp w w' (some p)) (hp : A ≠ p) (hu : ∀ q, u.ownBlock = some q → q ≠ p) : Bs A N kind es r u w' :=
  ⟨(k.block A h.lt (by simpa using hp)).trans h.1, ⟨h.2.1.1, Nat.le_trans h.2.1.2 k.size⟩, h.2.2.kept k (by
    cases e : u.ownBlock with
    | none => exact .inl rfl
    | some b => exact .inr (fun e2 => hu b e (Option.some.inj e2)))⟩
theorem store7 {w : World} {p : Nat} {a0 a1 a2 a3 a4 a5 a6 : Value} (h : w.heap[p]? = some (.cells #[a0, a1, a2, a3, a4, a5, a6] 42 (0, 0))) (b0 b1 b2 b3 b4 b5 b6 : Value) :
    (((((((w.setCell ⟨p, 0, none⟩ b0).setCell ⟨p, 1, none⟩ b1).setCell ⟨p, 2, none⟩ b2).setCell ⟨p, 3, none⟩ b3).setCell ⟨p, 4, none⟩ b4).setCell ⟨p, 5, none⟩ b5).setCell ⟨p, 6, none⟩ b6).heap[p]? = some (.cells #[b0, b1, b2, b3, b4, b5, b6] 42 (0, 0)) ∧
    Kp w (((((((w.setCell ⟨p, 0, none⟩ b0).setCell ⟨p, 1, none⟩ b1).setCell ⟨p, 2, none⟩ b2).setCell ⟨p, 3, none⟩ b3).setCell ⟨p, 4, none⟩ b4).setCell ⟨p, 5, none⟩ b5).setCell ⟨p, 6, none⟩ b6) (some p) := by
  have h1 := heap_set (o := 6) (v := b6) (heap_set (o := 5) (v := b5) (heap_set (o := 4) (v := b4) (heap_set (o := 3) (v := b3) (heap_set (o := 2) (v := b2) (heap_set (o := 1) (v := b1) (heap_set (o := 0) (v := b0) h))))))
  exact ⟨by simpa using h1, (((((((Kp.refl w (some p)).set _).set _).set _).set _).set _).set _).set _⟩
theorem store2 {w : World} {p : Nat} {a0 a1 : Value} (h : w.heap[p]? = some (.cells #[a0, a1] 29 (0, 0))) (b0 b1 : Value) : ((w.setCell ⟨p, 0, none⟩ b0).setCell ⟨p, 1, none⟩ b1).heap[p]? = some (.cells #[b0, b1] 29 (0, 0)) ∧ Kp w ((w.setCell ⟨p, 0, none⟩ b0).setCell ⟨p, 1, none⟩ b1) (some p) := by
  have h1 := heap_set (o := 1) (v := b1) (heap_set (o := 0) (v := b0) h)
  exact ⟨by simpa using h1, ((Kp.refl w (some p)).set _).set _⟩
/-- A list appended to what the call owns, in a region that draws nothing. -/
theorem wpList_app {α : Type} {f : α → List Value} {w : World} {ops : Array Oper} {rest : List Oper} {o : Oper} {a : Act} {Q : Exit → Act → World → Prop} (hgd : o.guard = none) (s xo : Operand) (base : Nat) (t e : TypeId)
    (ho : o.op = .call { callee := .builtin .append, args := #[s, xo], argTypes := #[t, t] }) (i : TypeInfo) (z : Value) (size bytes : Nat) (ht : Tryd.prog.underlying t = some (.slice e)) (hi : Tryd.prog.info? e = some i) (hz : i.zero = some z)
    (hsize : i.size = size) (hby : i.bytes = bytes) (hzs : z.cells.size = size) (hsz : 0 < size) (hm : ∀ x, (f x).length = size) (h1 : ∀ x, ∀ u ∈ f x, u.oneCell' = true)
    (v : Value) (n : Nat) (xs : List Value) (hs : a.eval s = v) (hown : w.ownsRow base e size v n xs) (x : Value) (ys : List α) (hxo : a.eval xo = x) (hx : IsList size f w x ys)
    (h63 : n + ys.length ≤ maxLen) (hbytes : (n + ys.length) * bytes ≤ 140737488355328) (hbase : base ≤ w.heap.size)
    (h : ∀ v' w', w'.ownsRow base e size v' (n + ys.length) (xs ++ ys.flatMap f) → w.grownBy w' v.ownBlock → (v'.ownBlock = v.ownBlock ∨ v'.ownBlock = some w.heap.size) → wpList Tryd.prog ops Q rest (a.put o.dst v') w') : wpList Tryd.prog ops Q (o :: rest) a w := by
  refine wpList_plain hgd fun K hK' => ?_
  exact wp_app s xo base t e ho i z size bytes ht hi hz hsize hby hzs hsz hm h1 v n xs hs hown x ys hxo hx h63 hbytes hbase (fun v' w' h1 h2 h3 => hK' _ _ (h v' w' h1 h2 h3))

theorem ed_one : ∀ x : Pl.Ed, ∀ u ∈ edC x, u.oneCell' = true := by intro x q hq; simp [edC] at hq; rcases hq with rfl | rfl | rfl | rfl | rfl | rfl | rfl <;> rfl
theorem turn_lim (t r : Int) (h0 : 0 < r) (h1 : r ≤ 30) : (-30 ≤ (Pl.turn t ⟨r, 0⟩).x ∧ (Pl.turn t ⟨r, 0⟩).x ≤ 30) ∧ (-30 ≤ (Pl.turn t ⟨r, 0⟩).y ∧ (Pl.turn t ⟨r, 0⟩).y ≤ 30) := by
  unfold Pl.turn
  split
  · dsimp only; omega
  · split
    · dsimp only; omega
    · split <;> (dsimp only; omega)
theorem arc_at {x y tx ty rad tn kd : Int} {k : Nat} (htx : (Pl.turn tn ⟨rad, 0⟩).x = tx) (hty : (Pl.turn tn ⟨rad, 0⟩).y = ty) (h0 : 0 < rad) (h1 : rad ≤ 30) (hl : Pl.Lim (100 + 60 * k) ⟨x, y⟩) (hk : k ≤ 2) (hd : 0 ≤ kd ∧ kd < 2) :
    Pl.GoodE (Pl.arc ⟨x - tx, y - ty⟩ rad tn (2 + kd)) ∧ (Pl.arc ⟨x - tx, y - ty⟩ rad tn (2 + kd)).a = ⟨x, y⟩ ∧ Pl.Lim (160 + 60 * k) (Pl.arc ⟨x - tx, y - ty⟩ rad tn (2 + kd)).b := by
  have hb := turn_lim tn rad h0 h1
  rw [htx, hty] at hb
  have hb2 := turn_lim (if 2 + kd = 3 then tn + 3 else tn + 1) rad h0 h1
  unfold Pl.Lim at hl
  dsimp only at hl
  refine ⟨Pl.good_arc (by unfold Pl.Lim; dsimp only; omega) h0 (by omega) (by omega), ?_, ?_⟩
  · unfold Pl.arc Pl.add
    dsimp only
    rw [htx, hty]
    simp
  · unfold Pl.arc Pl.add Pl.Lim
    dsimp only
    omega
end Go.Proofs.YtggplbenliaodaaDoor
