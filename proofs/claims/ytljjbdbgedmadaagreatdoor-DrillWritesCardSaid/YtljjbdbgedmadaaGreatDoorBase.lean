/- The frame of every walk over the rules' seat: what a world keeps; lists in memory: one form for nil, empty and full slices; what a call owns; appending. No condition but the model's bounds. Conditions and rules in memory: trees of slices, and what keeps them. No condition. Small laws on what blocks hold. No condition.
   A region that draws its order, walked under a condition that its last operation, which waits for all the others, need not keep. No condition. -/
import Derived.Test.YtljjbdbgedmadaaGreatDoorRows
import Derived.WalkKit
import Derived.WalkSpells
import Derived.WalkLawsBesides
import Derived.Deep.QuietTactic
import Derived.BigQuiet
import Derived.Lib.Hide
import Derived.Lib.ItoaMem
import Derived.Deep.RegionHeld3
import Derived.Deep.AppendLies
import Derived.RegionTactic
import Derived.BigRegion
import Derived.OwnWalk
import Derived.Deep.Upon
import Derived.Lib.ConvBytes
import Derived.Test.YtljjbdbgedmadaaGreatDoorRuA
import Derived.Test.YtljjbdbgedmadaaGreatDoorPlA
namespace Go.Proofs.YtljjbdbgedmadaaGreatDoor
open Go.RowKit
abbrev I6 (n : Int) : Value := .int .i64 n
theorem oh {p : Prop} (h : p) : Hid p := Lib.hid h
theorem fz {w : World} {b : Nat} {cs : Array Value} {T : TypeId} (h : w.heap[b]? = some (.cells cs T (0, 0))) (i : Nat) : w.frozen? ⟨b, i, none⟩ = false := Lib.frozen_of_heap h i
theorem ll : (∀ {α : Type} {x y : List α}, (x ++ y).length = x.length + y.length) ∧ (∀ {α : Type} {a : α} {x : List α}, (a :: x).length = x.length + 1) ∧ (∀ {α : Type}, ([] : List α).length = 0) := ⟨List.length_append, List.length_cons, List.length_nil⟩
theorem nn (k : Nat) : (0 : Int) ≤ (k : Int) := Int.natCast_nonneg _
abbrev Kp (w w' : World) (row : Option Nat) : Prop := w.grownBy w' row
theorem Kp.refl (w : World) (row : Option Nat) : Kp w w row := ⟨rfl, rfl, rfl, Nat.le_refl _, fun _ _ _ => rfl⟩
theorem Kp.trans {a b c : World} {row : Option Nat} (h : Kp a b row) (k : Kp b c row) : Kp a c row :=
 ⟨k.os.trans h.os, k.tape.trans h.tape, k.output.trans h.output, Nat.le_trans h.size k.size, fun i hi hr => (k.block i (Nat.lt_of_lt_of_le hi h.size) hr).trans (h.block i hi hr)⟩
theorem Kp.weak {a b : World} (h : Kp a b none) (row : Option Nat) : Kp a b row := ⟨h.os, h.tape, h.output, h.size, fun k hk _ => h.block k hk (by simp)⟩
theorem Kp.drew {a b : World} {row : Option Nat} (h : Kp a b row) : Kp a b.drew row := h.trans ⟨rfl, rfl, rfl, Nat.le_refl _, fun _ _ _ => rfl⟩
theorem Kp.drewN {a b : World} {row : Option Nat} (h : Kp a b row) (n : Nat) : Kp a (b.drewN n) row := h.trans ⟨rfl, rfl, rfl, Nat.le_refl _, fun _ _ _ => rfl⟩
theorem Kp.alloc {a b : World} {row : Option Nat} (h : Kp a b row) (o : Obj) : Kp a (b.alloc o) row := h.trans (World.grownBy_alloc _ _ _)
theorem Kp.set {a b : World} {r o : Nat} (h : Kp a b (some r)) (v : Value) : Kp a (b.setCell ⟨r, o, none⟩ v) (some r) :=
 h.trans ⟨rfl, rfl, rfl, by simp [World.setCell], fun k _ hr => Below.heap_setCell _ _ _ _ (fun e => hr (by rw [e]))⟩
theorem Kp.of_below {w w' : World} (h : Below w.heap.size w w') : Kp w w' none := ⟨h.os, h.tape, h.output, h.size, fun k hk _ => h.block k hk⟩
theorem Kp.below {w w' : World} (h : Kp w w' none) : Below w.heap.size w w' := ⟨h.os, h.tape, h.output, h.size, fun k hk => h.block k hk (by simp)⟩
theorem Kp.of_own {W w w' : World} {r : Nat} {row : Option Nat} (h0 : Kp W w row) (h : Kp w w' (some r)) (hr : W.heap.size ≤ r) : Kp W w' row :=
 ⟨h.os.trans h0.os, h.tape.trans h0.tape, h.output.trans h0.output, Nat.le_trans h0.size h.size, fun k hk hx =>
  (h.block k (Nat.lt_of_lt_of_le hk h0.size) (by intro e; injection e with e; omega)).trans (h0.block k hk hx)⟩
theorem lt_of_block {w : World} {b : Nat} {o : Obj} (h : w.heap[b]? = some o) : b < w.heap.size := (Array.getElem?_eq_some_iff.1 h).1
theorem cell_lt {w : World} {b o : Nat} {v : Value} (h : w.cell? ⟨b, o, none⟩ = some v) : b < w.heap.size := World.block_lt_of_cell? w _ h
def IsList {α : Type} (m : Nat) (f : α → List Value) (w : World) (v : Value) (xs : List α) : Prop :=
 (∃ ao cap, v = .slice ao 0 cap ∧ xs = []) ∨ ∃ b off cap, v = .slice (some ⟨b, off, none⟩) xs.length cap ∧ xs.length ≤ cap ∧ b < w.heap.size ∧ ∀ k, (h : k < xs.length) → ∀ j, (h2 : j < (f xs[k]).length) → w.cell? ⟨b, off + k * m + j, none⟩ = some (f xs[k])[j]
theorem heap_set {w : World} {r o : Nat} {cs : Array Value} {T : TypeId} {v : Value} (h : w.heap[r]? = some (.cells cs T (0, 0))) : (w.setCell ⟨r, o, none⟩ v).heap[r]? = some (.cells (cs.setIfInBounds o v) T (0, 0)) := by
 have hlt := lt_of_block h
 have h' : w.heap[r] = .cells cs T (0, 0) := by simpa [Array.getElem?_eq_getElem hlt] using h
 show (w.heap.modify r _)[r]? = _
 rw [Array.getElem?_eq_getElem (by simpa using hlt), Array.getElem_modify_self, h']
 rfl
theorem ckr {wB w' : World} {b : Nat} {T : TypeId} {cs : Array Value} {row : Option Nat} (h : wB.heap[b]? = some (.cells cs T (0, 0))) (k : Kp wB w' row) (hne : row ≠ some b) (i : Nat) {v : Value} (hv : cs[i]? = some v) : w'.cell? ⟨b, i, none⟩ = some v := by
 have h' := (k.block b (lt_of_block h) (fun e => hne e.symm)).trans h
 simp [World.cell?, h', hv]
theorem ck {wB w' : World} {b : Nat} {T : TypeId} {cs : Array Value} {row : Option Nat} (h : wB.heap[b]? = some (.cells cs T (0, 0))) (k : Kp wB w' row) (i : Nat) {v : Value} (hv : cs[i]? = some v) (hne : row ≠ some b := by simp) : w'.cell? ⟨b, i, none⟩ = some v := ckr h k hne i hv
theorem ret_str {a b : ByteArray} (h : a = b) : Ending.returned (.string a) = .returned (.string b) := by rw [h]
theorem cat_eq (a b : List UInt8) : ((⟨a.toArray⟩ : ByteArray) ++ ⟨b.toArray⟩) = ⟨(a ++ b).toArray⟩ := ByteArray.mk_append_mk a b
structure Env (w : World) : Prop where
 tab : Lib.TabIs Tryz.prog w "internal/strconv.uint64pow10" .u64 Lib.pow10Tab
 syn : ∃ tp p, w.var? Tryz.prog "strconv.ErrSyntax" = some #[.iface tp p]
 rng : ∃ tp p, w.var? Tryz.prog "strconv.ErrRange" = some #[.iface tp p]
 mx : ∃ m, w.cell? ⟨0, 0, none⟩ = some (I6 m)
 big : 8 ≤ w.heap.size
theorem glob1 : Tryz.prog.globalNamed "internal/strconv.uint64pow10" = some 1 := by kernel_rfl
theorem glob4 : Tryz.prog.globalNamed "strconv.ErrSyntax" = some 4 := by kernel_rfl
theorem glob5 : Tryz.prog.globalNamed "strconv.ErrRange" = some 5 := by kernel_rfl
theorem var_same {w w' : World} {name : String} {g : Nat} (hg : Tryz.prog.globalNamed name = some g) (h : w'.heap[g]? = w.heap[g]?) : w'.var? Tryz.prog name = w.var? Tryz.prog name := by
 simp [World.var?, hg, h]
theorem Env.keep {w w' : World} (h : Env w) (hs : w.heap.size ≤ w'.heap.size) (hb : ∀ k, k < 8 → w'.heap[k]? = w.heap[k]?) : Env w' where
 tab := by have := h.tab; unfold Lib.TabIs at *; rw [var_same glob1 (hb 1 (by omega))]; exact this
 syn := by rw [var_same glob4 (hb 4 (by omega))]; exact h.syn
 rng := by rw [var_same glob5 (hb 5 (by omega))]; exact h.rng
 mx := by obtain ⟨m, hm⟩ := h.mx; exact ⟨m, (World.cell?_of_block (w := w) (hb 0 (by omega))).trans hm⟩
 big := Nat.le_trans h.big hs
theorem Env.kp {w w' : World} {row : Option Nat} (h : Env w) (k : Kp w w' row) (hr : ∀ r, row = some r → 8 ≤ r) : Env w' :=
 h.keep k.size fun i hi => k.block i (Nat.lt_of_lt_of_le hi h.big) (fun e => by have := hr i e.symm; omega)
theorem Env.kp0 {w w' : World} (h : Env w) (k : Kp w w' none) : Env w' := h.kp k (by simp)
/-! ### The chapter's values in memory -/
theorem heap_alloc_new (w : World) (o : Obj) : (w.alloc o).heap[w.heap.size]? = some o := by simp [World.alloc, -World.alloc_eq]
theorem Kp.row {W w w' : World} {row rb : Option Nat} (h0 : Kp W w row) (h : Kp w w' rb) (hr : ∀ k, rb = some k → W.heap.size ≤ k) : Kp W w' row := by
 cases rb with
 | none => exact h0.trans (h.weak row)
 | some r => exact Kp.of_own h0 h (hr r rfl)
theorem flat_get {α : Type} (m : Nat) (f : α → List Value) (hm : ∀ x, (f x).length = m) : ∀ (xs : List α) (k j : Nat) (h : k < xs.length) (h2 : j < (f xs[k]).length), (xs.flatMap f)[k * m + j]? = some (f xs[k])[j]
 | [], _, _, h, _ => by simp at h
 | x :: xs, 0, j, h, h2 => by
  simp only [Nat.zero_mul, Nat.zero_add, List.getElem_cons_zero] at h2 ⊢
  rw [List.flatMap_cons, List.getElem?_append_left h2, List.getElem?_eq_getElem h2]
 | x :: xs, k + 1, j, h, h2 => by
  have ih := flat_get m f hm xs k j (by simpa using h) (by simpa using h2)
  have e : (k + 1) * m + j = m + (k * m + j) := by rw [Nat.add_mul, Nat.one_mul]; omega
  rw [List.flatMap_cons, List.getElem?_append_right (by rw [hm x]; omega), hm x, show (k + 1) * m + j - m = k * m + j by omega, ih]
  rfl
theorem isList_own {α : Type} {m : Nat} {f : α → List Value} (hm : ∀ x, (f x).length = m) {w : World} {base : Nat} {e : TypeId} {v : Value} {xs : List α} (h : w.ownsRow base e m v xs.length (xs.flatMap f)) : IsList m f w v xs := by
 rcases h.2 with ⟨rfl, h0⟩ | ⟨g, cap, cur, rfl, _, hg, hc, _⟩
 ·have : xs = [] := List.length_eq_zero_iff.1 h0
  subst this; exact .inl ⟨_, _, rfl, rfl⟩
 ·refine .inr ⟨g, 0, cap, rfl, hc, lt_of_block hg, fun k hk j hj => ?_⟩
  have := h.cells rfl (k * m + j) _ (flat_get m f hm xs k j hk hj)
  rw [show ((⟨g, 0, none⟩ : Addr).add (k * m + j)) = ⟨g, k * m + j, none⟩ by unfold Addr.add; split <;> simp_all] at this
  simpa using this
theorem news_of {α : Type} {m : Nat} {f : α → List Value} {w : World} {b off : Nat} : ∀ {xs : List α} (_hm : ∀ x, (f x).length = m) (_hr : ∀ k, (h : k < xs.length) → ∀ j, (h2 : j < (f xs[k]).length) → w.cell? ⟨b, off + k * m + j, none⟩ = some (f xs[k])[j]) (j : Nat) (u : Value), (xs.flatMap f)[j]? = some u → 0 < m → w.cell? ⟨b, off + j, none⟩ = some u := by
 intro xs hm hr j u hu h0
 have hq : j / m < xs.length := by
  have h1 := (List.getElem?_eq_some_iff.1 hu).1
  have h2 : (xs.flatMap f).length = xs.length * m := by
   clear hr hu h1
   induction xs with
   | nil => simp
   | cons x xs ih => rw [List.flatMap_cons, List.length_append, ih, hm x, List.length_cons, Nat.add_mul, Nat.one_mul, Nat.add_comm]
  rw [h2] at h1; exact (Nat.div_lt_iff_lt_mul h0).2 h1
 have hj : j % m < (f xs[j / m]).length := by rw [hm]; exact Nat.mod_lt _ h0
 have e : j / m * m + j % m = j := by rw [Nat.mul_comm]; exact Nat.div_add_mod j m
 have h3 := flat_get m f hm xs (j / m) (j % m) hq hj
 rw [e, hu] at h3; have h4 := hr (j / m) hq (j % m) hj
 rw [Nat.add_assoc, e] at h4; rw [h4, ← h3]
theorem flat_len {α : Type} {m : Nat} {f : α → List Value} (hm : ∀ x, (f x).length = m) (xs : List α) : (xs.flatMap f).length = xs.length * m := by
 induction xs with
 | nil => simp
 | cons x xs ih => rw [List.flatMap_cons, List.length_append, ih, hm x, List.length_cons, Nat.add_mul, Nat.one_mul, Nat.add_comm]
theorem app_list {α : Type} {f : α → List Value} {w : World} (base : Nat) (t ty e : TypeId) (i : TypeInfo) (z : Value) (size bytes : Nat) (ht : Tryz.prog.underlying t = some (.slice e)) (hi : Tryz.prog.info? e = some i) (hz : i.zero = some z)
  (hsize : i.size = size) (hby : i.bytes = bytes) (hzs : z.cells.size = size) (hsz : 0 < size) (hm : ∀ x, (f x).length = size) (h1 : ∀ x, ∀ u ∈ f x, u.oneCell' = true)
  (v : Value) (n : Nat) (xs : List Value) (hown : w.ownsRow base e size v n xs) (x : Value) (ys : List α) (hx : IsList size f w x ys)
  (h63 : n + ys.length ≤ maxLen) (hbytes : (n + ys.length) * bytes ≤ 140737488355328) (hbase : base ≤ w.heap.size) :
  ∃ v' w', (Builtin.append_ #[t, t] ty #[v, x]).run Tryz.prog w = .ok v' w' ∧ w'.ownsRow base e size v' (n + ys.length) (xs ++ ys.flatMap f) ∧ w.grownBy w' v.ownBlock ∧ (v'.ownBlock = v.ownBlock ∨ v'.ownBlock = some w.heap.size) := by
 have hone : ∀ u ∈ ys.flatMap f, u.oneCell' = true := fun u hu => by
  obtain ⟨y, _, hy⟩ := List.mem_flatMap.1 hu
  exact h1 y u hy
 rcases hx with ⟨ao, cap, rfl, rfl⟩ | ⟨b, off, cap, rfl, hc, _, hr⟩
 ·cases ao with
  | some a =>
   obtain ⟨v', w', h2, h3, h4, _, h5⟩ := run_append_own_at (P := Tryz.prog) w base t ty e i z size bytes ht hi hz hsize hby hzs hsz v n xs hown a 0 cap [] (by simp) (by simp) (by simp) h63 hbytes hbase
   exact ⟨v', w', h2, h3, h4, h5⟩
  | none =>
   have hs : Src Tryz.prog i.size t (.slice none 0 cap) 0 [] w := ⟨.inl ⟨e, ht⟩, fun _ => by simp [Builtin.lenOf], by simp [Builtin.firstCells], by simp [Builtin.firstCells], by simp, by simp⟩
   have hv : ∃ bo l c, v = .slice bo l c ∧ l ≤ c := by
    rcases hown.2 with ⟨rfl, _⟩ | ⟨g, cap, cur, rfl, _, _, hle, _⟩
    ·exact ⟨none, 0, 0, rfl, Nat.le_refl _⟩
    ·exact ⟨_, _, _, rfl, hle⟩
   obtain ⟨bo, l, c, rfl, hle⟩ := hv
   refine ⟨_, w, run_append_nothing w t t ty e i ht hi bo l c hle _ hs, by simpa using hown, (Kp.refl w none).weak _, .inl rfl⟩
 ·obtain ⟨v', w', h2, h3, h4, _, h5⟩ := run_append_own_at (P := Tryz.prog) w base t ty e i z size bytes ht hi hz hsize hby hzs hsz v n xs hown ⟨b, off, none⟩ ys.length cap (ys.flatMap f) (flat_len hm ys) (fun j u hu => by
   have h := news_of hm hr j u hu hsz
   have e : (⟨b, off, none⟩ : Addr).add j = ⟨b, off + j, none⟩ := by unfold Addr.add; split <;> simp_all
   rw [e]; exact h) hone h63 hbytes hbase
  exact ⟨v', w', h2, h3, h4, h5⟩
theorem wp_app {α : Type} {f : α → List Value} {w : World} {o : Oper} {a : Act} {K : Act → World → Prop} {Q : Exit → Act → World → Prop} (s xo : Operand) (base : Nat) (t e : TypeId)
  (ho : o.op = .call { callee := .builtin .append, args := #[s, xo], argTypes := #[t, t] }) (i : TypeInfo) (z : Value) (size bytes : Nat) (ht : Tryz.prog.underlying t = some (.slice e)) (hi : Tryz.prog.info? e = some i) (hz : i.zero = some z)
  (hsize : i.size = size) (hby : i.bytes = bytes) (hzs : z.cells.size = size) (hsz : 0 < size) (hm : ∀ x, (f x).length = size) (h1 : ∀ x, ∀ u ∈ f x, u.oneCell' = true)
  (v : Value) (n : Nat) (xs : List Value) (hs : a.eval s = v) (hown : w.ownsRow base e size v n xs) (x : Value) (ys : List α) (hxo : a.eval xo = x) (hx : IsList size f w x ys)
  (h63 : n + ys.length ≤ maxLen) (hbytes : (n + ys.length) * bytes ≤ 140737488355328) (hbase : base ≤ w.heap.size)
  (h : ∀ v' w', w'.ownsRow base e size v' (n + ys.length) (xs ++ ys.flatMap f) → w.grownBy w' v.ownBlock → (v'.ownBlock = v.ownBlock ∨ v'.ownBlock = some w.heap.size) → K (a.put o.dst v') w') : o.wp Tryz.prog a w K Q := by
 obtain ⟨v', w', hr, h2, h3, h4⟩ := app_list (w := w) base t o.type e i z size bytes ht hi hz hsize hby hzs hsz hm h1 v n xs hown x ys hx h63 hbytes hbase
 unfold Oper.wp execOp
 simp only [ho, resolve, invoke, builtin, Sem.run_bind, Sem.run_pure, Result.andThen_ok, List.map_toArray, List.map_cons, List.map_nil, hs, hxo, hr]
 exact h v' w' h2 h3 h4
theorem step_app {α : Type} {f : α → List Value} {w : World} {ops : Array Oper} {E : Prop} {o : Oper} {a : Act} {K : Act → World → Prop} {Q : Exit → Act → World → Prop} (hgd : o.guard = none) (s xo : Operand) (base : Nat) (t e : TypeId)
  (ho : o.op = .call { callee := .builtin .append, args := #[s, xo], argTypes := #[t, t] }) (i : TypeInfo) (z : Value) (size bytes : Nat) (ht : Tryz.prog.underlying t = some (.slice e)) (hi : Tryz.prog.info? e = some i) (hz : i.zero = some z)
  (hsize : i.size = size) (hby : i.bytes = bytes) (hzs : z.cells.size = size) (hsz : 0 < size) (hm : ∀ x, (f x).length = size) (h1 : ∀ x, ∀ u ∈ f x, u.oneCell' = true)
  (v : Value) (n : Nat) (xs : List Value) (hs : a.eval s = v) (hown : w.ownsRow base e size v n xs) (x : Value) (ys : List α) (hxo : a.eval xo = x) (hx : IsList size f w x ys)
  (h63 : n + ys.length ≤ maxLen) (hbytes : (n + ys.length) * bytes ≤ 140737488355328) (hbase : base ≤ w.heap.size)
  (h : ∀ v' w', w'.ownsRow base e size v' (n + ys.length) (xs ++ ys.flatMap f) → w.grownBy w' v.ownBlock → (v'.ownBlock = v.ownBlock ∨ v'.ownBlock = some w.heap.size) → K (a.put o.dst v') w') : if Region.wanted o (yielded ops a.tmps) = true then Oper.wp Tryz.prog o a w K Q else E := by
 have hw : Region.wanted o (yielded ops a.tmps) = true := by simp [Region.wanted, hgd]
 rw [if_pos hw]; exact wp_app s xo base t e ho i z size bytes ht hi hz hsize hby hzs hsz hm h1 v n xs hs hown x ys hxo hx h63 hbytes hbase h
def LiesAt {α : Type} (m : Nat) (f : α → List Value) (w : World) (ao : Option Addr) (cap : Nat) (xs : List α) : Prop :=
 ∀ k, (h : k < xs.length) → ∃ b off, ao = some ⟨b, off, none⟩ ∧ b < w.heap.size ∧ xs.length ≤ cap ∧ ∀ j, (h2 : j < (f xs[k]).length) → w.cell? ⟨b, off + k * m + j, none⟩ = some (f xs[k])[j]
theorem IsList.form {α : Type} {m : Nat} {f : α → List Value} {w : World} {v : Value} {xs : List α} (h : IsList m f w v xs) : ∃ ao cap, v = .slice ao xs.length cap ∧ LiesAt m f w ao cap xs := by
 rcases h with ⟨ao, cap, rfl, rfl⟩ | ⟨b, off, cap, rfl, hc, hb, hr⟩
 ·exact ⟨ao, cap, rfl, fun k h => by simp at h⟩
 ·exact ⟨_, cap, rfl, fun k h => ⟨b, off, rfl, hb, hc, fun j h2 => hr k h j h2⟩⟩
theorem LiesAt.list {α : Type} {m : Nat} {f : α → List Value} {w : World} {ao : Option Addr} {cap : Nat} {xs : List α} (h : LiesAt m f w ao cap xs) : IsList m f w (.slice ao xs.length cap) xs := by
 by_cases h0 : 0 < xs.length
 ·obtain ⟨b, off, rfl, hb, hc, _⟩ := h 0 h0
  refine .inr ⟨b, off, cap, rfl, hc, hb, fun k hk j hj => ?_⟩
  obtain ⟨b', off', e, _, _, hr⟩ := h k hk
  injection e with e
  injection e with e1 e2
  subst e1; subst e2
  exact hr j hj
 ·have : xs = [] := List.length_eq_zero_iff.1 (by omega)
  subst this
  exact .inl ⟨ao, cap, rfl, rfl⟩
theorem LiesAt.keep {α : Type} {m : Nat} {f : α → List Value} {w w' : World} {ao : Option Addr} {cap : Nat} {xs : List α} (h : LiesAt m f w ao cap xs) (k : Kp w w' none) : LiesAt m f w' ao cap xs := fun i hi => by
 obtain ⟨b, off, e, hb, hc, hr⟩ := h i hi
 exact ⟨b, off, e, Nat.lt_of_lt_of_le hb k.size, hc, fun j hj => by rw [k.below.cell (p := ⟨b, off + i * m + j, none⟩) hb]; exact hr j hj⟩
def LiesOff {α : Type} (m : Nat) (f : α → List Value) (w : World) (ao : Option Addr) (cap : Nat) (xs : List α) (v : Value) : Prop :=
 ∀ k, (h : k < xs.length) → ∃ b off, ao = some ⟨b, off, none⟩ ∧ b < w.heap.size ∧ xs.length ≤ cap ∧ v.ownBlock ≠ some b ∧ ∀ j, (h2 : j < (f xs[k]).length) → w.cell? ⟨b, off + k * m + j, none⟩ = some (f xs[k])[j]
theorem LiesOff.at {α : Type} {m : Nat} {f : α → List Value} {w : World} {ao : Option Addr} {cap : Nat} {xs : List α} {v : Value} (h : LiesOff m f w ao cap xs v) : LiesAt m f w ao cap xs := fun k hk => by
 obtain ⟨b, off, e, hb, hc, _, hr⟩ := h k hk
 exact ⟨b, off, e, hb, hc, hr⟩
theorem LiesOff.keep {α : Type} {m : Nat} {f : α → List Value} {w w' : World} {ao : Option Addr} {cap : Nat} {xs : List α} {v : Value} (h : LiesOff m f w ao cap xs v) (k : Kp w w' v.ownBlock) : LiesOff m f w' ao cap xs v := fun i hi => by
 obtain ⟨b, off, e, hb, hc, hv, hr⟩ := h i hi
 exact ⟨b, off, e, Nat.lt_of_lt_of_le hb k.size, hc, hv, fun j hj => by rw [World.grownBy.cell_far k ⟨b, off + i * m + j, none⟩ hb (fun e => hv e.symm)]; exact hr j hj⟩
theorem LiesOff.turn {α : Type} {m : Nat} {f : α → List Value} {w w' : World} {ao : Option Addr} {cap : Nat} {xs : List α} {v v' : Value} (h : LiesOff m f w ao cap xs v) (k : Kp w w' v.ownBlock) (hv : v'.ownBlock = v.ownBlock ∨ ∃ n, w.heap.size ≤ n ∧ v'.ownBlock = some n) : LiesOff m f w' ao cap xs v' := fun i hi => by
 obtain ⟨b, off, e, hb, hc, hv2, hr⟩ := h.keep k i hi
 refine ⟨b, off, e, hb, hc, ?_, hr⟩
 obtain ⟨b', off', e', hb', _⟩ := h i hi
 rw [e] at e'
 injection e' with e'
 injection e' with e1 e2
 subst e1
 rcases hv with hv | ⟨n, hn, hv⟩
 ·rw [hv]; exact hv2
 ·rw [hv]; intro e; injection e with e; omega
def intVal (n : Int) : List Value := [I6 n]
def strVal (s : List UInt8) : List Value := [.string ⟨s.toArray⟩]
def ptC (p : Pl.Pt) : List Value := [I6 p.x, I6 p.y]
def edC (e : Pl.Ed) : List Value := [I6 e.k, I6 e.a.x, I6 e.a.y, I6 e.b.x, I6 e.b.y, I6 e.c.x, I6 e.c.y]
theorem LiesAt.int {w : World} {ao : Option Addr} {cap : Nat} {xs : List Int} (h : LiesAt 1 intVal w ao cap xs) (k : Nat) (hk : k < xs.length) : ∃ b off, ao = some ⟨b, off, none⟩ ∧ b < w.heap.size ∧ xs.length ≤ cap ∧ ∀ i, (hi : i < xs.length) → w.cell? ⟨b, off + i, none⟩ = some (I6 xs[i]) := by
 obtain ⟨b, off, rfl, hb, hc, _⟩ := h k hk
 refine ⟨b, off, rfl, hb, hc, fun i hi => ?_⟩
 obtain ⟨b', off', e, _, _, hr⟩ := h i hi
 injection e with e; injection e with e1 e2; subst e1; subst e2
 have := hr 0 (by simp [intVal])
 simpa [intVal] using this
/- One step of a held region, with its checks as automatic arguments. -/
theorem sm : (∀ {α : Type} {xs : List α} {i : Nat} (h : i < xs.toArray.size), xs.toArray[i] = xs[i]'(by simpa using h)) ∧ (∀ {α : Type} {x : α} {xs : List α} (h : 0 < (x :: xs).length), (x :: xs)[0] = x) ∧ (∀ {α : Type} {x : α} {xs : List α} {i : Nat} (h : i + 1 < (x :: xs).length), (x :: xs)[i + 1] = xs[i]'(Nat.lt_of_succ_lt_succ h)) ∧
  (∀ {α : Type} {xs : List α} {i : Nat} {x : α}, xs.toArray.setIfInBounds i x = (xs.set i x).toArray) ∧ (∀ {α : Type} {x y : α} {xs : List α}, (x :: xs).set 0 y = y :: xs) ∧ (∀ {α : Type} {x y : α} {xs : List α} {i : Nat}, (x :: xs).set (i + 1) y = x :: xs.set i y) :=
 ⟨fun h => List.getElem_toArray h, fun h => List.getElem_cons_zero _ _ h, fun h => List.getElem_cons_succ _ _ _ h, List.setIfInBounds_toArray _ _ _, List.set_cons_zero, List.set_cons_succ⟩
section
variable {P : Program} {ops : Array Oper} {Q : Exit → Act → World → Prop} {md : Region.Mode} {S : World → Prop}
theorem tkH (i : Nat) {oi : Oper} {v : Value} {n : Nat} {done : Array Bool} {a : Act} {w : World} (hi : ops[i]? = some oi) (h : wpAnyH P md ops Q S n (done.setIfInBounds i true) (a.put oi.dst v) w)
  (hy : ∀ w, S w → (execOp a.eval oi).run P w = .ok (.value v) w := by intro w hSw; go_simp <;> with_reducible rfl) (hb : (Region.noSelect ops && (Region.free md ops done i && (Region.ready md ops done).contains i)) = true := by kernel_rfl) (hw : Region.wanted oi (yielded ops a.tmps) = true := by rfl) (hS : S w := by assumption)
  (hQ : ∀ c a w, Q (.panic c) (a.put oi.dst v) w → Q (.panic c) a w := by exact fun _ _ _ h => h) : wpAnyH P md ops Q S (n + 1) done a w := by
 rw [Bool.and_eq_true, Bool.and_eq_true] at hb; exact wpAnyH_take hi hb.1 hb.2.1 hb.2.2 hQ (.inl ⟨hw, hy⟩) hS h
theorem tkU (i : Nat) {oi : Oper} {n : Nat} {done : Array Bool} {a : Act} {w : World} (hi : ops[i]? = some oi) (h : wpAnyH P md ops Q S n (done.setIfInBounds i true) (a.put oi.dst undef) w)
  (hb : (Region.noSelect ops && (Region.free md ops done i && (Region.ready md ops done).contains i)) = true := by kernel_rfl) (hw : Region.wanted oi (yielded ops a.tmps) = false := by rfl) (hS : S w := by assumption)
  (hQ : ∀ c a w, Q (.panic c) (a.put oi.dst undef) w → Q (.panic c) a w := by exact fun _ _ _ h => h) : wpAnyH P md ops Q S (n + 1) done a w := by
 rw [Bool.and_eq_true, Bool.and_eq_true] at hb; exact wpAnyH_take hi hb.1 hb.2.1 hb.2.2 hQ (.inr ⟨hw, rfl⟩) hS h
theorem tjH (i : Nat) {oi : Oper} {v : Value} {n : Nat} {done : Array Bool} {a a' : Act} {w : World} (hi : ops[i]? = some oi) (h : wpAnyH P md ops Q S n (done.setIfInBounds i true) a' w)
 (hy : ∀ w, S w → (execOp a.eval oi).run P w = .ok (.value v) w := by intro w hSw; go_simp <;> with_reducible rfl) (ha : a.put oi.dst v = a' := by simp only [Act.put, sm]; rfl) (hb : (Region.noSelect ops && (Region.free md ops done i && (Region.ready md ops done).contains i)) = true := by kernel_rfl) (hw : Region.wanted oi (yielded ops a.tmps) = true := by rfl) (hS : S w := by assumption)
 (hQ : ∀ c a w, Q (.panic c) (a.put oi.dst v) w → Q (.panic c) a w := by exact fun _ _ _ h => h) : wpAnyH P md ops Q S (n + 1) done a w := tkH i hi (ha ▸ h) hy hb hw hS hQ
theorem tjU (i : Nat) {oi : Oper} {n : Nat} {done : Array Bool} {a a' : Act} {w : World} (hi : ops[i]? = some oi) (h : wpAnyH P md ops Q S n (done.setIfInBounds i true) a' w)
 (ha : a.put oi.dst undef = a' := by simp only [Act.put, sm]; rfl) (hb : (Region.noSelect ops && (Region.free md ops done i && (Region.ready md ops done).contains i)) = true := by kernel_rfl) (hw : Region.wanted oi (yielded ops a.tmps) = false := by rfl) (hS : S w := by assumption)
 (hQ : ∀ c a w, Q (.panic c) (a.put oi.dst undef) w → Q (.panic c) a w := by exact fun _ _ _ h => h) : wpAnyH P md ops Q S (n + 1) done a w := tkU i hi (ha ▸ h) hb hw hS hQ
theorem rdH (i : Nat) {n : Nat} {done : Array Bool} {a : Act} {w : World} {o : Oper} (ho : ops[i]? = some o)
 (h : ∀ K' : Act → World → Prop, Shut (∀ a w, S w → (S w → wpAnyH P md ops Q S n (done.setIfInBounds i true) a w) → K' a w) → if Region.wanted o (yielded ops a.tmps) = true then Oper.wp P o a w K' Q else K' (a.put o.dst undef) w)
 (hr : Region.ready md ops done = [i] := by kernel_rfl) : wpAnyH P md ops Q S (n + 1) done a w := wpAnyH_ready hr (by simp) (AllReadyH.cons ho h AllReadyH.nil)
end
abbrev str (s : List UInt8) : Value := .string ⟨s.toArray⟩
def cC (p : Ru.Cond × Value) : List Value := [I6 p.1.op, str p.1.text, I6 p.1.n, I6 p.1.box.x0, I6 p.1.box.y0, I6 p.1.box.x1, I6 p.1.box.y1, p.2]
abbrev IsConds := @IsList (Ru.Cond × Value) 8 cC
inductive Tree (w : World) : Ru.Cond → Value → Prop
 | mk (op : Int) (t : List UInt8) (n : Int) (b : Ru.Box) (ps : List (Ru.Cond × Value)) (v : Value) : IsConds w v ps → (∀ p ∈ ps, Tree w p.1 p.2) → Tree w (.mk op t n b (ps.map (·.1))) v
/-! ### Rules -/
structure RV where
 r : Ru.Rule
 a : Value
 b : Value
def rC (p : RV) : List Value := [str p.r.name, I6 p.r.prio, I6 p.r.what] ++ cC (p.r.a, p.a) ++ cC (p.r.b, p.b) ++ [I6 p.r.value]
abbrev IsRules := @IsList RV 20 rC
def RV.Tree (w : World) (p : RV) : Prop := Go.Proofs.YtljjbdbgedmadaaGreatDoor.Tree w p.r.a p.a ∧ Go.Proofs.YtljjbdbgedmadaaGreatDoor.Tree w p.r.b p.b
def Rules (w : World) (v : Value) (l : List Ru.Rule) : Prop := ∃ ps : List RV, l = ps.map (·.r) ∧ IsRules w v ps ∧ ∀ p ∈ ps, p.Tree w
theorem hcell {w : World} {b : Nat} {T : TypeId} {cs : Array Value} (h : w.heap[b]? = some (.cells cs T (0, 0))) (i : Nat) {v : Value} (hv : cs[i]? = some v) : w.cell? ⟨b, i, none⟩ = some v := ckr h (Kp.refl w none) (by simp) i hv
theorem res_kept {w w' : World} {R : Nat} {o : Obj} {rb : Option Nat} (h : w.heap[R]? = some o) (k : Kp w w' rb) (hR : ∀ q, rb = some q → q ≠ R) : w'.heap[R]? = some o := (k.block R (lt_of_block h) (fun e => hR R e.symm rfl)).trans h
theorem res_set {w : World} {R A i : Nat} {o : Obj} {v : Value} (h : w.heap[R]? = some o) (hR : R ≠ A) : (w.setCell ⟨A, i, none⟩ v).heap[R]? = some o := (((Kp.refl w (some A)).set v).block R (lt_of_block h) (by simp; omega)).trans h
theorem blk {w w' : World} {b : Nat} {o : Obj} (h : w.heap[b]? = some o) (k : Kp w w' none) : w'.heap[b]? = some o := (k.block b (lt_of_block h) (by simp)).trans h
theorem Env.keep0 {W w V : World} (h : Env w) (k0 : Kp W w none) (k : Kp W V none) (hW : 8 ≤ W.heap.size) : Env V :=
  have e : ∀ i, i < 8 → V.heap[i]? = w.heap[i]? := fun i hi => (k.block i (by omega) (by simp)).trans (k0.block i (by omega) (by simp)).symm
  { tab := by have := h.tab; unfold Lib.TabIs at *; rw [var_same glob1 (e 1 (by omega))]; exact this
    syn := by rw [var_same glob4 (e 4 (by omega))]; exact h.syn
    rng := by rw [var_same glob5 (e 5 (by omega))]; exact h.rng
    mx := by obtain ⟨m, hm⟩ := h.mx; exact ⟨m, (World.cell?_of_block (w := w) (e 0 (by omega))).trans hm⟩
    big := Nat.le_trans hW k.size }
section
variable {P : Program} {ops : Array Oper} {Q : Exit → Act → World → Prop} {md : Region.Mode} {S : World → Prop} {l : Nat}
def wpAnyL (P : Program) (md : Region.Mode) (ops : Array Oper) (Q : Exit → Act → World → Prop) (S : World → Prop) (l : Nat) : Nat → Array Bool → Act → World → Prop
 | 0, done, a, w => Region.ready md ops done = [] ∧ Q .normal a w
 | n + 1, done, a, w => (Region.ready md ops done = [] → Q .normal a w) ∧ ∀ i, i ∈ Region.ready md ops done → wpOp P ops Q i (fun b v => (i ≠ l → S v) ∧ wpAnyL P md ops Q S l n (done.setIfInBounds i true) b v) a w
theorem wpAny_of_last : ∀ (n : Nat) (done : Array Bool) (a : Act) (w : World), wpAnyL P md ops Q S l n done a w → wpAny P md ops Q n done a w
 | 0, _, _, _, h => h
 | n + 1, _, _, _, h => ⟨h.1, fun i hi => wpOp_mono (fun _ _ k => wpAny_of_last n _ _ _ k.2) (h.2 i hi)⟩
def waits (md : Region.Mode) (ops : Array Oper) (l i : Nat) : Bool := match ops[l]? with
 | some o => o.after.any fun e => Region.binds md e && e.on == i
 | none => false
theorem waits_spec {i : Nat} {o : Oper} (h : waits md ops l i = true) (ho : ops[l]? = some o) : ∃ e ∈ o.after, Region.binds md e = true ∧ e.on = i := by
 unfold waits at h; rw [ho] at h
 obtain ⟨k, hk, he⟩ := Array.any_eq_true.1 h
 rw [Bool.and_eq_true] at he; exact ⟨_, Array.getElem_mem hk, he.1, by simpa using he.2⟩
theorem wpAnyL_first {i : Nat} {oi : Oper} {v : Value} (hi : ops[i]? = some oi) (hil : i ≠ l) (hw : waits md ops l i = true) (hsel : Region.noSelect ops = true) (hQ : ∀ c a w, Q (.panic c) (a.put oi.dst v) w → Q (.panic c) a w) :
  ∀ (n : Nat) (done : Array Bool) (a : Act) (w : World), (∀ j oj, ops[j]? = some oj → j ≠ i → done.getD j true = false → (∀ e ∈ oj.after, Region.binds md e = true → e.on ≠ i) → oi.apart ops oj = true) →
   i ∈ Region.ready md ops done → YieldsIf P ops S oi v a → S w → wpAnyL P md ops Q S l n (done.setIfInBounds i true) (a.put oi.dst v) w → wpAnyL P md ops Q S l (n + 1) done a w := by
 have hns := Region.noSelect_spec hsel
 intro n
 induction n with
 | zero =>
  intro done a w _ hr hy hS H; refine ⟨fun h => absurd hr (by rw [h]; simp), fun j hj => ?_⟩
  rcases Nat.decEq j i with e | e
  ·have h2 := ready_mono hj e
   rw [H.1] at h2; exact absurd h2 (by simp)
  ·subst e; exact hy.wpOp hi hS ⟨fun _ => hS, H⟩
 | succ n ih =>
  intro done a w hf hr hy hS H; refine ⟨fun h => absurd hr (by rw [h]; simp), fun j hj => ?_⟩
  rcases Nat.decEq j i with e | e
  ·obtain ⟨hju, oj, hoj, hal⟩ := mem_ready.1 hj
   have hiu := (mem_ready.1 hr).1
   have hno : ∀ e ∈ oj.after, Region.binds md e = true → e.on ≠ i := by
    intro e he hb hx; have h1 := hal e he hb
    rw [hx] at h1
    by_cases hs : i < done.size
    ·simp [hs] at hiu h1
     rw [hiu] at h1; exact absurd h1 (by simp)
    ·simp [Array.getElem?_eq_none (Nat.le_of_not_lt hs)] at h1
   have hjl : j ≠ l := by
    intro hx; subst hx; obtain ⟨e, he, hb, hx⟩ := waits_spec hw hoj
    exact hno e he hb hx
   refine wpOp_mono (fun b v k => ⟨k.2.1, ?_⟩) (wpOp_putIf hoj (hf j oj hoj e hju hno) (fun cs c => hns i oi cs c hi) (fun cs c => hns j oj cs c hoj) hQ hy (H.2 j (ready_mono hj e)))
   refine ih _ b v ?_ (ready_mono hr (Ne.symm e)) k.1 (k.2.1 hjl) ?_
   ·intro m om hm hmi hun hn; refine hf m om hm hmi ?_ hn
    rcases Nat.decEq j m with e2 | e2
    ·rw [getD_set_ne true e2] at hun; exact hun
    ·subst e2; exact hju
   ·rw [Array.setIfInBounds_comm _ _ e]; exact k.2.2
  ·subst e; exact hy.wpOp hi hS ⟨fun _ => hS, H⟩
theorem wpAnyL_take {i : Nat} {oi : Oper} {v : Value} {n : Nat} {done : Array Bool} {a : Act} {w : World} (hi : ops[i]? = some oi) (hw : (decide (i ≠ l) && waits md ops l i) = true)
  (hs : Region.noSelect ops = true) (hf : Region.free md ops done i = true) (hr : (Region.ready md ops done).contains i = true) (hQ : ∀ c a w, Q (.panic c) (a.put oi.dst v) w → Q (.panic c) a w)
  (hy : YieldsIf P ops S oi v a) (hS : S w) (h : wpAnyL P md ops Q S l n (done.setIfInBounds i true) (a.put oi.dst v) w) : wpAnyL P md ops Q S l (n + 1) done a w := by
 rw [Bool.and_eq_true, decide_eq_true_eq] at hw; exact wpAnyL_first hi hw.1 hw.2 hs hQ n done a w (Region.free_spec hi hf) (by simpa using hr) hy hS h
def AllReadyL (P : Program) (md : Region.Mode) (ops : Array Oper) (Q : Exit → Act → World → Prop) (S : World → Prop) (l n : Nat) (done : Array Bool) (a : Act) (w : World) (rs : List Nat) : Prop :=
 ∀ i ∈ rs, wpOp P ops Q i (fun b v => (i ≠ l → S v) ∧ wpAnyL P md ops Q S l n (done.setIfInBounds i true) b v) a w
theorem AllReadyL.nil {n : Nat} {done : Array Bool} {a : Act} {w : World} : AllReadyL P md ops Q S l n done a w [] := fun _ h => absurd h (by simp)
theorem AllReadyL.cons {n : Nat} {done : Array Bool} {a : Act} {w : World} {i : Nat} {o : Oper} {rs : List Nat} (ho : ops[i]? = some o)
  (h : ∀ K : Act → World → Prop, Shut (∀ b v, S v → (S v → wpAnyL P md ops Q S l n (done.setIfInBounds i true) b v) → K b v) → if Region.wanted o (yielded ops a.tmps) = true then Oper.wp P o a w K Q else K (a.put o.dst undef) w)
  (hs : AllReadyL P md ops Q S l n done a w rs) : AllReadyL P md ops Q S l n done a w (i :: rs) := fun j hj => by
 rcases List.mem_cons.1 hj with rfl | hj
 ·exact wpOp_step ho (fun K hK => h K (fun b v hS hW => hK b v ⟨fun _ => hS, hW hS⟩))
 ·exact hs j hj
theorem AllReadyL.last {n : Nat} {done : Array Bool} {a : Act} {w : World} {o : Oper} (ho : ops[l]? = some o)
  (h : ∀ K : Act → World → Prop, Shut (∀ b v, wpAnyL P md ops Q S l n (done.setIfInBounds l true) b v → K b v) → if Region.wanted o (yielded ops a.tmps) = true then Oper.wp P o a w K Q else K (a.put o.dst undef) w) :
  AllReadyL P md ops Q S l n done a w [l] := fun j hj => by
 rw [List.mem_singleton.1 hj]; exact wpOp_step ho (fun K hK => h K (fun b v hW => hK b v ⟨fun hx => absurd rfl hx, hW⟩))
theorem wpAnyL_ready {rs : List Nat} {n : Nat} {done : Array Bool} {a : Act} {w : World} (hr : Region.ready md ops done = rs) (hne : rs ≠ []) (h : AllReadyL P md ops Q S l n done a w rs) : wpAnyL P md ops Q S l (n + 1) done a w := by
 subst hr; exact ⟨fun h0 => absurd h0 hne, h⟩
theorem wpAnyL_done {done : Array Bool} {a : Act} {w : World} (hr : Region.ready md ops done = []) (h : Q .normal a w) : ∀ n, wpAnyL P md ops Q S l n done a w
 | 0 => ⟨hr, h⟩
 | _ + 1 => ⟨fun _ => h, fun i hi => absurd hi (by rw [hr]; simp)⟩
theorem wp_region_last (S : World → Prop) (l : Nat) {id : Nat} {a : Act} {w : World} (hm : P.follows .mixedOrders = true) (hS : S w.drew) (h : S w.drew → wpAnyL P .any ops Q S l ops.size (Array.replicate ops.size false) a w.drew) : (Code.region id ops true).wp P Q a w :=
 wp_region_any hm (wpAny_of_last _ _ _ _ (h hS))
end
section
variable {P : Program} {ops : Array Oper} {Q : Exit → Act → World → Prop} {md : Region.Mode} {S : World → Prop} {l : Nat}
theorem tkL (i : Nat) {oi : Oper} {v : Value} {n : Nat} {done : Array Bool} {a : Act} {w : World} (hi : ops[i]? = some oi) (h : wpAnyL P md ops Q S l n (done.setIfInBounds i true) (a.put oi.dst v) w)
  (hy : ∀ w, S w → (execOp a.eval oi).run P w = .ok (.value v) w := by intro w hSw; go_simp <;> with_reducible rfl) (hb : ((decide (i ≠ l) && waits md ops l i) && (Region.noSelect ops && (Region.free md ops done i && (Region.ready md ops done).contains i))) = true := by kernel_rfl) (hw : Region.wanted oi (yielded ops a.tmps) = true := by rfl) (hS : S w := by assumption)
  (hQ : ∀ c a w, Q (.panic c) (a.put oi.dst v) w → Q (.panic c) a w := by exact fun _ _ _ h => h) : wpAnyL P md ops Q S l (n + 1) done a w := by
 rw [Bool.and_eq_true (_ && _), Bool.and_eq_true (Region.noSelect ops), Bool.and_eq_true (Region.free md ops done i)] at hb; exact wpAnyL_take hi hb.1 hb.2.1 hb.2.2.1 hb.2.2.2 hQ (.inl ⟨hw, hy⟩) hS h
theorem tjL (i : Nat) {oi : Oper} {v : Value} {n : Nat} {done : Array Bool} {a a' : Act} {w : World} (hi : ops[i]? = some oi) (h : wpAnyL P md ops Q S l n (done.setIfInBounds i true) a' w)
 (hy : ∀ w, S w → (execOp a.eval oi).run P w = .ok (.value v) w := by intro w hSw; go_simp <;> with_reducible rfl) (ha : a.put oi.dst v = a' := by simp only [Act.put, sm]; rfl) (hb : ((decide (i ≠ l) && waits md ops l i) && (Region.noSelect ops && (Region.free md ops done i && (Region.ready md ops done).contains i))) = true := by kernel_rfl) (hw : Region.wanted oi (yielded ops a.tmps) = true := by rfl) (hS : S w := by assumption)
 (hQ : ∀ c a w, Q (.panic c) (a.put oi.dst v) w → Q (.panic c) a w := by exact fun _ _ _ h => h) : wpAnyL P md ops Q S l (n + 1) done a w := tkL i hi (ha ▸ h) hy hb hw hS hQ
theorem rdL (i : Nat) {n : Nat} {done : Array Bool} {a : Act} {w : World} {o : Oper} (ho : ops[i]? = some o)
 (h : ∀ K' : Act → World → Prop, Shut (∀ a w, S w → (S w → wpAnyL P md ops Q S l n (done.setIfInBounds i true) a w) → K' a w) → if Region.wanted o (yielded ops a.tmps) = true then Oper.wp P o a w K' Q else K' (a.put o.dst undef) w)
 (hr : Region.ready md ops done = [i] := by kernel_rfl) : wpAnyL P md ops Q S l (n + 1) done a w := wpAnyL_ready hr (by simp) (AllReadyL.cons ho h AllReadyL.nil)
theorem rdE {n : Nat} {done : Array Bool} {a : Act} {w : World} {o : Oper} (ho : ops[l]? = some o)
 (h : ∀ K' : Act → World → Prop, Shut (∀ b v, wpAnyL P md ops Q S l n (done.setIfInBounds l true) b v → K' b v) → if Region.wanted o (yielded ops a.tmps) = true then Oper.wp P o a w K' Q else K' (a.put o.dst undef) w)
 (hr : Region.ready md ops done = [l] := by kernel_rfl) : wpAnyL P md ops Q S l (n + 1) done a w := wpAnyL_ready hr (by simp) (AllReadyL.last ho h)
theorem rdD (i j : Nat) {n : Nat} {done : Array Bool} {a : Act} {w : World} {o p : Oper} (ho : ops[i]? = some o) (hp : ops[j]? = some p)
 (h : ∀ K' : Act → World → Prop, Shut (∀ a w, S w → (S w → wpAnyL P md ops Q S l n (done.setIfInBounds i true) a w) → K' a w) → if Region.wanted o (yielded ops a.tmps) = true then Oper.wp P o a w K' Q else K' (a.put o.dst undef) w)
 (h2 : ∀ K' : Act → World → Prop, Shut (∀ a w, S w → (S w → wpAnyL P md ops Q S l n (done.setIfInBounds j true) a w) → K' a w) → if Region.wanted p (yielded ops a.tmps) = true then Oper.wp P p a w K' Q else K' (a.put p.dst undef) w)
 (hr : Region.ready md ops done = [i, j] := by kernel_rfl) : wpAnyL P md ops Q S l (n + 1) done a w := wpAnyL_ready hr (by simp) (AllReadyL.cons ho h (AllReadyL.cons hp h2 AllReadyL.nil))
end
end Go.Proofs.YtljjbdbgedmadaaGreatDoor
