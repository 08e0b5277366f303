/- The frame of every walk over the lists' seat: what a world keeps, and the package-level variables that the library reads. No condition. -/
import Derived.Test.YtldjhjbodhhnbaaDoorRows
import Derived.WalkKit
import Derived.WalkSpells
import Derived.WalkLawsBesides
import Derived.Deep.QuietTactic
import Derived.BigQuiet
import Derived.Lib.Hide
import Derived.Lib.ItoaMem
namespace Go.Proofs.YtldjhjbodhhnbaaDoor
open Go.RowKit

/-- From w to w' nothing that was there has turned but block 'row'. -/
abbrev Kp (w w' : World) (row : Option Nat) : Prop := w.grownBy w' row

theorem Kp.refl (w : World) (row : Option Nat) : Kp w w row := ⟨rfl, rfl, rfl, Nat.le_refl _, fun _ _ _ => rfl⟩
theorem Kp.trans {a b c : World} {row : Option Nat} (h : Kp a b row) (k : Kp b c row) : Kp a c row :=
  ⟨k.os.trans h.os, k.tape.trans h.tape, k.output.trans h.output, Nat.le_trans h.size k.size, fun i hi hr => (k.block i (Nat.lt_of_lt_of_le hi h.size) hr).trans (h.block i hi hr)⟩
theorem Kp.weak {a b : World} (h : Kp a b none) (row : Option Nat) : Kp a b row := ⟨h.os, h.tape, h.output, h.size, fun k hk _ => h.block k hk (by simp)⟩
theorem Kp.drew {a b : World} {row : Option Nat} (h : Kp a b row) : Kp a b.drew row := h.trans ⟨rfl, rfl, rfl, Nat.le_refl _, fun _ _ _ => rfl⟩
theorem Kp.drewN {a b : World} {row : Option Nat} (h : Kp a b row) (n : Nat) : Kp a (b.drewN n) row := h.trans ⟨rfl, rfl, rfl, Nat.le_refl _, fun _ _ _ => rfl⟩
theorem Kp.alloc {a b : World} {row : Option Nat} (h : Kp a b row) (o : Obj) : Kp a (b.alloc o) row := h.trans (World.grownBy_alloc _ _ _)
theorem Kp.set {a b : World} {r o : Nat} (h : Kp a b (some r)) (v : Value) : Kp a (b.setCell ⟨r, o, none⟩ v) (some r) :=
  h.trans ⟨rfl, rfl, rfl, by simp [World.setCell], fun k _ hr => Below.heap_setCell _ _ _ _ (fun e => hr (by rw [e]))⟩
theorem Kp.of_below {w w' : World} (h : Below w.heap.size w w') : Kp w w' none := ⟨h.os, h.tape, h.output, h.size, fun k hk _ => h.block k hk⟩
theorem Kp.below {w w' : World} (h : Kp w w' none) : Below w.heap.size w w' := ⟨h.os, h.tape, h.output, h.size, fun k hk => h.block k hk (by simp)⟩
/-- What is written is a block of the call's own: for whoever looks from further back. -/
theorem Kp.of_own {W w w' : World} {r : Nat} {row : Option Nat} (h0 : Kp W w row) (h : Kp w w' (some r)) (hr : W.heap.size ≤ r) : Kp W w' row :=
  ⟨h.os.trans h0.os, h.tape.trans h0.tape, h.output.trans h0.output, Nat.le_trans h0.size h.size, fun k hk hx =>
    (h.block k (Nat.lt_of_lt_of_le hk h0.size) (by intro e; injection e with e; omega)).trans (h0.block k hk hx)⟩

/-- What the library's code reads of the package-level variables. -/
structure Env (w : World) : Prop where
  tab : Lib.TabIs Tryd.prog w "internal/strconv.uint64pow10" .u64 Lib.pow10Tab
  syn : ∃ tp p, w.var? Tryd.prog "strconv.ErrSyntax" = some #[.iface tp p]
  rng : ∃ tp p, w.var? Tryd.prog "strconv.ErrRange" = some #[.iface tp p]
  mx : ∃ m, w.cell? ⟨0, 0, none⟩ = some (.int .i64 m)
  big : 6 ≤ w.heap.size

theorem glob1 : Tryd.prog.globalNamed "internal/strconv.uint64pow10" = some 1 := by kernel_rfl
theorem glob2 : Tryd.prog.globalNamed "strconv.ErrSyntax" = some 2 := by kernel_rfl
theorem glob3 : Tryd.prog.globalNamed "strconv.ErrRange" = some 3 := by kernel_rfl

theorem var_same {w w' : World} {name : String} {g : Nat} (hg : Tryd.prog.globalNamed name = some g) (h : w'.heap[g]? = w.heap[g]?) : w'.var? Tryd.prog name = w.var? Tryd.prog name := by
  simp [World.var?, hg, h]

theorem Env.keep {w w' : World} (h : Env w) (hs : w.heap.size ≤ w'.heap.size) (hb : ∀ k, k < 6 → w'.heap[k]? = w.heap[k]?) : Env w' where
  tab := by have := h.tab; unfold Lib.TabIs at *; rw [var_same glob1 (hb 1 (by omega))]; exact this
  syn := by rw [var_same glob2 (hb 2 (by omega))]; exact h.syn
  rng := by rw [var_same glob3 (hb 3 (by omega))]; exact h.rng
  mx := by obtain ⟨m, hm⟩ := h.mx; exact ⟨m, (World.cell?_of_block (w := w) (hb 0 (by omega))).trans hm⟩
  big := Nat.le_trans h.big hs

theorem Env.kp {w w' : World} {row : Option Nat} (h : Env w) (k : Kp w w' row) (hr : ∀ r, row = some r → 6 ≤ r) : Env w' :=
  h.keep k.size fun i hi => k.block i (Nat.lt_of_lt_of_le hi h.big) (fun e => by have := hr i e.symm; omega)
theorem Env.kp0 {w w' : World} (h : Env w) (k : Kp w w' none) : Env w' := h.kp k (by simp)

end Go.Proofs.YtldjhjbodhhnbaaDoor
