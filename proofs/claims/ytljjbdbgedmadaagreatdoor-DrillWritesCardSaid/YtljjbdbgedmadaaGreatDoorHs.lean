/- What must hold of a line (need, fine); spans that are right (drill.right, the reference's Span); whether two holes have one span. No condition.
   Holes in memory; lists that a call owns; appending in plain code. No condition but the model's bounds.
   Whether two holes have one span (sameSpan). No condition. -/
import Derived.Test.YtljjbdbgedmadaaGreatDoorBase
import Derived.Test.YtljjbdbgedmadaaGreatDoorDrA
import Derived.Test.YtljjbdbgedmadaaGreatDoorChecked
import Derived.Test.YtljjbdbgedmadaaGreatDoorPt
import Derived.Deep.MidRow
namespace Go.Proofs.YtljjbdbgedmadaaGreatDoor
open Go.RowKit
def bad (e : Int) : List PanicEntry := [{ v := .iface 196 (.agg #[I6 e]), recovered := false }]
theorem need_yes (e : Int) (w : World) : Calls Tryz.prog 100 #[.bool true, I6 e] w fun E w' => E = .returned (.tuple #[]) ∧ w = w' := by
  go_enter Tryz.func100, Tryz.ntmps100
  go_wp2
  go_end0
  exact ⟨rfl, rfl⟩
theorem need_no (e : Int) (w : World) : Calls Tryz.prog 100 #[.bool false, I6 e] w fun E w' => E = .panicked (bad e) ∧ w = w' := by
  go_enter Tryz.func100, Tryz.ntmps100
  go_wp2
  exact ⟨rfl, rfl, rfl⟩
theorem rspan_any (f t : Int) (w : World) : Calls Tryz.prog 32 #[I6 f, I6 t] w fun E w' => E = .returned (.bool (Dl.spanR f t)) ∧ w = w' := by
  obtain ⟨b, hb⟩ : ∃ b, Dl.spanR f t = b := ⟨_, rfl⟩
  rw [hb]; unfold Dl.spanR at hb
  by_cases h1 : 1 ≤ f <;> by_cases h2 : f ≤ t <;> by_cases h3 : t ≤ 4
  all_goals
    have hb : b = _ := hb.symm.trans (by first | exact decide_eq_true (show 1 ≤ f ∧ f ≤ t ∧ t ≤ 4 from ⟨h1, h2, h3⟩) | exact decide_eq_false (show ¬ (1 ≤ f ∧ f ≤ t ∧ t ≤ 4) by omega))
    subst hb; go_enter Tryz.func32, Tryz.ntmps32
    go_wp2
    go_ret
    exact ⟨rfl, rfl⟩
structure HT where
  h : Dl.Ho
  ea : Option Addr
  ec : Nat
def htC (t : HT) : List Value := [I6 t.h.s.k, .slice t.ea t.h.s.es.length t.ec, I6 t.h.s.r, I6 t.h.f, I6 t.h.t, .bool t.h.pl]
theorem ht_one : ∀ x : HT, ∀ u ∈ htC x, u.oneCell' = true := by intro x q hq; simp [htC] at hq; rcases hq with rfl | rfl | rfl | rfl | rfl | rfl <;> rfl
theorem right_any (k r f t : Int) (p : Bool) (ea : Option Addr) (n ec : Nat) (w : World) : Calls Tryz.prog 94 #[.agg #[I6 k, .slice ea n ec, I6 r, I6 f, I6 t, .bool p]] w fun E w' => E = .returned (.bool (Dl.spanR f t)) ∧ Kp w w' none := by
  obtain ⟨b, hb⟩ : ∃ b, Dl.spanR f t = b := ⟨_, rfl⟩
  rw [hb]; unfold Dl.spanR at hb
  by_cases h1 : 1 ≤ f <;> by_cases h2 : f ≤ t <;> by_cases h3 : t ≤ 4
  all_goals try (exfalso; omega)
  all_goals
    have hb : b = _ := hb.symm.trans (by first | exact decide_eq_true (show 1 ≤ f ∧ f ≤ t ∧ t ≤ 4 from ⟨h1, h2, h3⟩) | exact decide_eq_false (show ¬ (1 ≤ f ∧ f ≤ t ∧ t ≤ 4) by omega))
    subst hb; go_enter Tryz.func94, Tryz.ntmps94
    go_wp2
    go_ret
    exact ⟨rfl, (Kp.refl w none).alloc _⟩
theorem fine_yes (w : World) : Calls Tryz.prog 253 #[I6 0] w fun E w' => E = .returned (.tuple #[]) ∧ Kp w w' none := by
  go_enter Tryz.func253, Tryz.ntmps253
  go_wp2_with fail
  refine (need_yes _ _).mono ?_
  rintro e w' ⟨rfl, rfl⟩; go_wp2
  go_end0
  exact ⟨rfl, Kp.refl _ _⟩
theorem fine_no (e : Int) (w : World) (he : e ≠ 0) : Calls Tryz.prog 253 #[I6 e] w fun E w' => E = .panicked (bad e) ∧ Kp w w' none := by
  have hn := need_no e w
  rw [show (false : Bool) = (e == 0) from (beq_eq_false_iff_ne.2 he).symm] at hn; have HN := oh hn; clear hn; go_enter Tryz.func253, Tryz.ntmps253
  go_wp2_with fail
  refine HN.out.mono ?_
  rintro e' w' ⟨rfl, rfl⟩; go_wp2
  exact ⟨rfl, rfl, Kp.refl _ _⟩
theorem own_lies {α : Type} {m : Nat} {f : α → List Value} (hm : ∀ x, (f x).length = m) {w : World} {base : Nat} {e : TypeId} {ao : Option Addr} {n cap : Nat} {xs : List α} (h : w.ownsRow base e m (.slice ao n cap) xs.length (xs.flatMap f)) : n = xs.length ∧ LiesAt m f w ao cap xs := by
  obtain ⟨ao2, cap2, e2, hl⟩ := (isList_own hm h).form
  injection e2 with e1 e2 e3
  subst e1; subst e2; subst e3; exact ⟨rfl, hl⟩
theorem own_ne {w : World} {base R size n : Nat} {e : TypeId} {v : Value} {row : List Value} (h : w.ownsRow base e size v n row) (hR : R < base) : v.ownBlock = none ∨ v.ownBlock ≠ some R := by
  cases q : v.ownBlock with
  | none => exact .inl rfl
  | some b => exact .inr (by have := (h.lt b q).1; intro e2; injection e2 with e2; omega)
theorem own_slice {w : World} {base size n : Nat} {e : TypeId} {v : Value} {row : List Value} (h : w.ownsRow base e size v n row) : ∃ ao cap, v = .slice ao n cap := by
  rcases h.2 with ⟨rfl, rfl⟩ | ⟨g, cap, _, rfl, _⟩
  · exact ⟨none, 0, rfl⟩
  · exact ⟨_, _, rfl⟩
theorem LiesAt.keepRow {α : Type} {m : Nat} {f : α → List Value} {w w' : World} {ao : Option Addr} {cap R : Nat} {xs : List α} (h : LiesAt m f w ao cap xs) (k : Kp w w' (some R)) (hR : ∀ p, ao = some p → p.block ≠ R) : LiesAt m f w' ao cap xs := fun i hi => by
  obtain ⟨b, off, e, hb, hc, hr⟩ := h i hi
  have hne := hR _ e
  exact ⟨b, off, e, Nat.lt_of_lt_of_le hb k.size, hc, fun j hj => by rw [World.grownBy.cell_far k ⟨b, off + i * m + j, none⟩ hb (fun q => hne (Option.some.inj q))]; exact hr j hj⟩
theorem IsList.lies {α : Type} {m : Nat} {f : α → List Value} {w : World} {ao : Option Addr} {n cap : Nat} {xs : List α} (h : IsList m f w (.slice ao n cap) xs) : LiesAt m f w ao cap xs := by
  obtain ⟨ao2, cap2, e2, hl⟩ := h.form; injection e2 with e1 e2 e3; subst e1; subst e3
  exact hl
theorem own_kp {w w' : World} {base size n : Nat} {e : TypeId} {v : Value} {xs : List Value} (h : w.ownsRow base e size v n xs) (k : Kp w w' none) : w'.ownsRow base e size v n xs := h.kept k (by cases v.ownBlock; exact .inl rfl; exact .inr (by simp))
theorem wpList_app {α : Type} {f : α → List Value} {w : World} {ops : Array Oper} {rest : List Oper} {o : Oper} {a : Act} {Q : Exit → Act → World → Prop} (hgd : o.guard = none) (s xo : Operand) (base : Nat) (t e : TypeId)
    (ho : o.op = .call { callee := .builtin .append, args := #[s, xo], argTypes := #[t, t] }) (i : TypeInfo) (z : Value) (size bytes : Nat) (ht : Tryz.prog.underlying t = some (.slice e)) (hi : Tryz.prog.info? e = some i) (hz : i.zero = some z)
    (hsize : i.size = size) (hby : i.bytes = bytes) (hzs : z.cells.size = size) (hsz : 0 < size) (hm : ∀ x, (f x).length = size) (h1 : ∀ x, ∀ u ∈ f x, u.oneCell' = true)
    (v : Value) (n : Nat) (xs : List Value) (hs : a.eval s = v) (hown : w.ownsRow base e size v n xs) (x : Value) (ys : List α) (hxo : a.eval xo = x) (hx : IsList size f w x ys)
    (h63 : n + ys.length ≤ maxLen) (hbytes : (n + ys.length) * bytes ≤ 140737488355328) (hbase : base ≤ w.heap.size)
    (h : ∀ v' w', w'.ownsRow base e size v' (n + ys.length) (xs ++ ys.flatMap f) → w.grownBy w' v.ownBlock → (v'.ownBlock = v.ownBlock ∨ v'.ownBlock = some w.heap.size) → wpList Tryz.prog ops Q rest (a.put o.dst v') w') : wpList Tryz.prog ops Q (o :: rest) a w := by
  refine wpList_plain hgd fun K hK' => ?_
  exact wp_app s xo base t e ho i z size bytes ht hi hz hsize hby hzs hsz hm h1 v n xs hs hown x ys hxo hx h63 hbytes hbase (fun v' w' h1 h2 h3 => hK' _ _ (h v' w' h1 h2 h3))
theorem LiesAt.range {α : Type} {m : Nat} {f : α → List Value} {w : World} {ao : Option Addr} {cap : Nat} {xs : List α} (h : LiesAt m f w ao cap xs) (k : Nat) (hk : k < xs.length) {p : α} (hp : xs[k] = p) : ∃ b off, ao = some ⟨b, off, none⟩ ∧ b < w.heap.size ∧ w.rangeAt b (off + k * m) (f p) := by
 obtain ⟨b, off, e, hb, _, hr⟩ := h k hk
 subst hp; refine ⟨b, off, e, hb, fun j v hv => ?_⟩
 obtain ⟨hj, rfl⟩ := List.getElem?_eq_some_iff.1 hv
 exact hr j hj
def HolesAt (w : World) (ao : Option Addr) (cap : Nat) (ts : List HT) : Prop := LiesAt 6 htC w ao cap ts ∧ ∀ t ∈ ts, LiesAt 7 edC w t.ea t.ec t.h.s.es
theorem HolesAt.keep {w w' : World} {ao : Option Addr} {cap : Nat} {ts : List HT} (h : HolesAt w ao cap ts) (k : Kp w w' none) : HolesAt w' ao cap ts := ⟨h.1.keep k, fun t ht => (h.2 t ht).keep k⟩
theorem HolesAt.ho {w : World} {ao : Option Addr} {cap : Nat} {ts : List HT} (h : HolesAt w ao cap ts) {k : Nat} (hk : k < ts.length) : ∃ b off, ao = some ⟨b, off, none⟩ ∧ ts.length ≤ cap ∧ b < w.heap.size ∧ ∀ w', Kp w w' none →
    w'.cell? ⟨b, off + k * 6, none⟩ = some (I6 ts[k].h.s.k) ∧ w'.cell? ⟨b, off + k * 6 + 1, none⟩ = some (.slice ts[k].ea ts[k].h.s.es.length ts[k].ec) ∧ w'.cell? ⟨b, off + k * 6 + 2, none⟩ = some (I6 ts[k].h.s.r) ∧ w'.cell? ⟨b, off + k * 6 + 3, none⟩ = some (I6 ts[k].h.f) ∧ w'.cell? ⟨b, off + k * 6 + 4, none⟩ = some (I6 ts[k].h.t) ∧ w'.cell? ⟨b, off + k * 6 + 5, none⟩ = some (.bool ts[k].h.pl) := by
  obtain ⟨b, off, e, hb, hc, hr⟩ := h.1 k hk
  refine ⟨b, off, e, hc, hb, fun w' K => ?_⟩
  have q : ∀ j, (hj : j < (htC ts[k]).length) → w'.cell? ⟨b, off + k * 6 + j, none⟩ = some (htC ts[k])[j] := fun j hj => (K.below.cell (p := ⟨b, off + k * 6 + j, none⟩) hb).trans (hr j hj)
  exact ⟨q 0 (by simp [htC]), q 1 (by simp [htC]), q 2 (by simp [htC]), q 3 (by simp [htC]), q 4 (by simp [htC]), q 5 (by simp [htC])⟩
theorem int_list {w : World} (x : Int) : IsList 1 intVal (w.alloc (.cells #[I6 x] 3)) (.slice (some ⟨w.heap.size, 0, none⟩) 1 1) [x] := by
  refine .inr ⟨w.heap.size, 0, 1, rfl, by simp, by simp, fun k hk j hj => ?_⟩
  simp at hk; subst hk
  have hj' : j = 0 := by have : j < 1 := by simpa [intVal] using hj
                         omega
  subst hj'
  exact hcell (heap_alloc_new w _) 0 rfl
theorem range_blk {w : World} {b : Nat} {cs : Array Value} {T : TypeId} (h : w.heap[b]? = some (.cells cs T (0, 0))) : w.rangeAt b 0 cs.toList := fun j v hv => by rw [Nat.zero_add]; exact hcell h j (by simpa using hv)
theorem info52 : (Tryz.prog.info? 52).map (·.size) = some 6 := by kernel_rfl
theorem infoInt : (Tryz.prog.info? 3).map (fun i => (i.zero, i.size, i.bytes)) = some (some (I6 0), 1, 8) := by kernel_rfl
theorem same_span (k r f t : Int) (p : Bool) (ea : Option Addr) (n ec : Nat) (k2 r2 f2 t2 : Int) (p2 : Bool) (ea2 : Option Addr) (n2 ec2 : Nat) (w : World) :
    Calls Tryz.prog 46 #[.agg #[I6 k, .slice ea n ec, I6 r, I6 f, I6 t, .bool p], .agg #[I6 k2, .slice ea2 n2 ec2, I6 r2, I6 f2, I6 t2, .bool p2]] w fun E w' => E = .returned (.bool (decide (f = f2) && decide (t = t2) && (p == p2))) ∧ Kp w w' none := by
  obtain ⟨b, hb⟩ : ∃ b, (decide (f = f2) && decide (t = t2) && (p == p2)) = b := ⟨_, rfl⟩
  rw [hb]
  by_cases h1 : f = f2
  · by_cases h2 : t = t2
    · subst h1; subst h2
      have hb : b = (p == p2) := hb.symm.trans (by simp)
      subst hb; go_enter Tryz.func46, Tryz.ntmps46
      go_wp2
      go_ret
      exact ⟨rfl, ((Kp.refl w none).alloc _).alloc _⟩
    · subst h1
      have hb : b = false := hb.symm.trans (by simp [h2])
      subst hb; go_enter Tryz.func46, Tryz.ntmps46
      go_wp2
      go_ret
      exact ⟨rfl, ((Kp.refl w none).alloc _).alloc _⟩
  · have hb : b = false := hb.symm.trans (by simp [h1])
    subst hb; go_enter Tryz.func46, Tryz.ntmps46
    go_wp2
    go_ret
    exact ⟨rfl, ((Kp.refl w none).alloc _).alloc _⟩
end Go.Proofs.YtljjbdbgedmadaaGreatDoor
