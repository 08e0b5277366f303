/- Appending a list to what a call owns, the list empty or not. No condition but the model's bounds. -/
import Derived.Test.YtpakiabnhdoijaaOw
import Derived.Deep.Upon
namespace Go.Proofs.Ytpakiabnhdoijaa
open Go.RowKit

theorem news_of {α : Type} {m : Nat} {f : α → List Value} {w : World} {b off : Nat} : ∀ {xs : List α} (_hm : ∀ x, (f x).length = m) (_hr : ∀ k, (h : k < xs.length) → ∀ j, (h2 : j < (f xs[k]).length) → w.cell? ⟨b, off + k * m + j, none⟩ = some (f xs[k])[j]) (j : Nat) (u : Value), (xs.flatMap f)[j]? = some u → 0 < m → w.cell? ⟨b, off + j, none⟩ = some u := by
  intro xs hm hr j u hu h0
  have hq : j / m < xs.length := by
    have h1 := (List.getElem?_eq_some_iff.1 hu).1
    have h2 : (xs.flatMap f).length = xs.length * m := by
      clear hr hu h1
      induction xs with
      | nil => simp
      | cons x xs ih => rw [List.flatMap_cons, List.length_append, ih, hm x, List.length_cons, Nat.add_mul, Nat.one_mul, Nat.add_comm]
    rw [h2] at h1
    exact (Nat.div_lt_iff_lt_mul h0).2 h1
  have hj : j % m < (f xs[j / m]).length := by rw [hm]; exact Nat.mod_lt _ h0
  have e : j / m * m + j % m = j := by rw [Nat.mul_comm]; exact Nat.div_add_mod j m
  have h3 := flat_get m f hm xs (j / m) (j % m) hq hj
  rw [e, hu] at h3
  have h4 := hr (j / m) hq (j % m) hj
  rw [Nat.add_assoc, e] at h4
  rw [h4, ← h3]

theorem flat_len {α : Type} {m : Nat} {f : α → List Value} (hm : ∀ x, (f x).length = m) (xs : List α) : (xs.flatMap f).length = xs.length * m := by
  induction xs with
  | nil => simp
  | cons x xs ih => rw [List.flatMap_cons, List.length_append, ih, hm x, List.length_cons, Nat.add_mul, Nat.one_mul, Nat.add_comm]

/-- A list appended to what the call owns. -/
theorem app_list {α : Type} {f : α → List Value} {w : World} (base : Nat) (t ty e : TypeId) (i : TypeInfo) (z : Value) (size bytes : Nat) (ht : Try.prog.underlying t = some (.slice e)) (hi : Try.prog.info? e = some i) (hz : i.zero = some z)
    (hsize : i.size = size) (hby : i.bytes = bytes) (hzs : z.cells.size = size) (hsz : 0 < size) (hm : ∀ x, (f x).length = size) (h1 : ∀ x, ∀ u ∈ f x, u.oneCell' = true)
    (v : Value) (n : Nat) (xs : List Value) (hown : w.ownsRow base e size v n xs) (x : Value) (ys : List α) (hx : IsList size f w x ys)
    (h63 : n + ys.length ≤ maxLen) (hbytes : (n + ys.length) * bytes ≤ 140737488355328) (hbase : base ≤ w.heap.size) :
    ∃ v' w', (Builtin.append_ #[t, t] ty #[v, x]).run Try.prog w = .ok v' w' ∧ w'.ownsRow base e size v' (n + ys.length) (xs ++ ys.flatMap f) ∧ w.grownBy w' v.ownBlock ∧ (v'.ownBlock = v.ownBlock ∨ v'.ownBlock = some w.heap.size) := by
  have hone : ∀ u ∈ ys.flatMap f, u.oneCell' = true := fun u hu => by
    obtain ⟨y, _, hy⟩ := List.mem_flatMap.1 hu
    exact h1 y u hy
  rcases hx with ⟨ao, cap, rfl, rfl⟩ | ⟨b, off, cap, rfl, hc, _, hr⟩
  · cases ao with
    | some a =>
      obtain ⟨v', w', h2, h3, h4, _, h5⟩ := run_append_own_at (P := Try.prog) w base t ty e i z size bytes ht hi hz hsize hby hzs hsz v n xs hown a 0 cap [] (by simp) (by simp) (by simp) h63 hbytes hbase
      exact ⟨v', w', h2, h3, h4, h5⟩
    | none =>
      have hs : Src Try.prog i.size t (.slice none 0 cap) 0 [] w := ⟨.inl ⟨e, ht⟩, fun _ => by simp [Builtin.lenOf], by simp [Builtin.firstCells], by simp [Builtin.firstCells], by simp, by simp⟩
      have hv : ∃ bo l c, v = .slice bo l c ∧ l ≤ c := by
        rcases hown.2 with ⟨rfl, _⟩ | ⟨g, cap, cur, rfl, _, _, hle, _⟩
        · exact ⟨none, 0, 0, rfl, Nat.le_refl _⟩
        · exact ⟨_, _, _, rfl, hle⟩
      obtain ⟨bo, l, c, rfl, hle⟩ := hv
      refine ⟨_, w, run_append_nothing w t t ty e i ht hi bo l c hle _ hs, by simpa using hown, (Kp.refl w none).weak _, .inl rfl⟩
  · obtain ⟨v', w', h2, h3, h4, _, h5⟩ := run_append_own_at (P := Try.prog) w base t ty e i z size bytes ht hi hz hsize hby hzs hsz v n xs hown ⟨b, off, none⟩ ys.length cap (ys.flatMap f) (flat_len hm ys) (fun j u hu => by
      have h := news_of hm hr j u hu hsz
      have e : (⟨b, off, none⟩ : Addr).add j = ⟨b, off + j, none⟩ := by unfold Addr.add; split <;> simp_all
      rw [e]; exact h) hone h63 hbytes hbase
    exact ⟨v', w', h2, h3, h4, h5⟩

/-- The same at an operation. -/
theorem wp_app {α : Type} {f : α → List Value} {w : World} {o : Oper} {a : Act} {K : Act → World → Prop} {Q : Exit → Act → World → Prop} (s xo : Operand) (base : Nat) (t e : TypeId)
    (ho : o.op = .call { callee := .builtin .append, args := #[s, xo], argTypes := #[t, t] }) (i : TypeInfo) (z : Value) (size bytes : Nat) (ht : Try.prog.underlying t = some (.slice e)) (hi : Try.prog.info? e = some i) (hz : i.zero = some z)
    (hsize : i.size = size) (hby : i.bytes = bytes) (hzs : z.cells.size = size) (hsz : 0 < size) (hm : ∀ x, (f x).length = size) (h1 : ∀ x, ∀ u ∈ f x, u.oneCell' = true)
    (v : Value) (n : Nat) (xs : List Value) (hs : a.eval s = v) (hown : w.ownsRow base e size v n xs) (x : Value) (ys : List α) (hxo : a.eval xo = x) (hx : IsList size f w x ys)
    (h63 : n + ys.length ≤ maxLen) (hbytes : (n + ys.length) * bytes ≤ 140737488355328) (hbase : base ≤ w.heap.size)
    (h : ∀ v' w', w'.ownsRow base e size v' (n + ys.length) (xs ++ ys.flatMap f) → w.grownBy w' v.ownBlock → (v'.ownBlock = v.ownBlock ∨ v'.ownBlock = some w.heap.size) → K (a.put o.dst v') w') : o.wp Try.prog a w K Q := by
  obtain ⟨v', w', hr, h2, h3, h4⟩ := app_list (w := w) base t o.type e i z size bytes ht hi hz hsize hby hzs hsz hm h1 v n xs hown x ys hx h63 hbytes hbase
  unfold Oper.wp execOp
  simp only [ho, resolve, invoke, builtin, Sem.run_bind, Sem.run_pure, Result.andThen_ok, List.map_toArray, List.map_cons, List.map_nil, hs, hxo, hr]
  exact h v' w' h2 h3 h4

/-- The same at a step of a region that draws its order. -/
theorem step_app {α : Type} {f : α → List Value} {w : World} {ops : Array Oper} {E : Prop} {o : Oper} {a : Act} {K : Act → World → Prop} {Q : Exit → Act → World → Prop} (hgd : o.guard = none) (s xo : Operand) (base : Nat) (t e : TypeId)
    (ho : o.op = .call { callee := .builtin .append, args := #[s, xo], argTypes := #[t, t] }) (i : TypeInfo) (z : Value) (size bytes : Nat) (ht : Try.prog.underlying t = some (.slice e)) (hi : Try.prog.info? e = some i) (hz : i.zero = some z)
    (hsize : i.size = size) (hby : i.bytes = bytes) (hzs : z.cells.size = size) (hsz : 0 < size) (hm : ∀ x, (f x).length = size) (h1 : ∀ x, ∀ u ∈ f x, u.oneCell' = true)
    (v : Value) (n : Nat) (xs : List Value) (hs : a.eval s = v) (hown : w.ownsRow base e size v n xs) (x : Value) (ys : List α) (hxo : a.eval xo = x) (hx : IsList size f w x ys)
    (h63 : n + ys.length ≤ maxLen) (hbytes : (n + ys.length) * bytes ≤ 140737488355328) (hbase : base ≤ w.heap.size)
    (h : ∀ v' w', w'.ownsRow base e size v' (n + ys.length) (xs ++ ys.flatMap f) → w.grownBy w' v.ownBlock → (v'.ownBlock = v.ownBlock ∨ v'.ownBlock = some w.heap.size) → K (a.put o.dst v') w') : if Region.wanted o (yielded ops a.tmps) = true then Oper.wp Try.prog o a w K Q else E := by
  have hw : Region.wanted o (yielded ops a.tmps) = true := by simp [Region.wanted, hgd]
  rw [if_pos hw]
  exact wp_app s xo base t e ho i z size bytes ht hi hz hsize hby hzs hsz hm h1 v n xs hs hown x ys hxo hx h63 hbytes hbase h

end Go.Proofs.Ytpakiabnhdoijaa
