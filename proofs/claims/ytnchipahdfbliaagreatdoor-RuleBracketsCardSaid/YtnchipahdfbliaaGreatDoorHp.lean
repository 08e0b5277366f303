/- Helpers of the walks: owned rows as lists, cells of a block, parts of strings. No condition. -/
import Derived.Test.YtnchipahdfbliaaGreatDoorNi
import Derived.Deep.AppendLies
namespace Go.Proofs.YtnchipahdfbliaaGreatDoor
open Go.RowKit

theorem own_lies {α : Type} {m : Nat} {f : α → List Value} (hm : ∀ x, (f x).length = m) {w : World} {base : Nat} {e : TypeId} {ao : Option Addr} {n cap : Nat} {xs : List α} (h : w.ownsRow base e m (.slice ao n cap) xs.length (xs.flatMap f)) : n = xs.length ∧ LiesAt m f w ao cap xs := by
  obtain ⟨ao2, cap2, e2, hl⟩ := (isList_own hm h).form
  injection e2 with e1 e2 e3
  subst e1; subst e2; subst e3
  exact ⟨rfl, hl⟩
theorem own_slice {w : World} {base size n : Nat} {e : TypeId} {v : Value} {row : List Value} (h : w.ownsRow base e size v n row) : ∃ ao cap, v = .slice ao n cap := by
  rcases h.2 with ⟨rfl, rfl⟩ | ⟨g, cap, _, rfl, _⟩
  · exact ⟨none, 0, rfl⟩
  · exact ⟨_, _, rfl⟩
theorem hcell {w : World} {b : Nat} {T : TypeId} {cs : Array Value} (h : w.heap[b]? = some (.cells cs T (0, 0))) (i : Nat) {v : Value} (hv : cs[i]? = some v) : w.cell? ⟨b, i, none⟩ = some v := ckr h (Kp.refl w none) (by simp) i hv
theorem res_kept {w w' : World} {R : Nat} {o : Obj} {rb : Option Nat} (h : w.heap[R]? = some o) (k : Kp w w' rb) (hR : ∀ q, rb = some q → q ≠ R) : w'.heap[R]? = some o := (k.block R (lt_of_block h) (fun e => hR R e.symm rfl)).trans h
theorem res_set {w : World} {R A i : Nat} {o : Obj} {v : Value} (h : w.heap[R]? = some o) (hR : R ≠ A) : (w.setCell ⟨A, i, none⟩ v).heap[R]? = some o := (((Kp.refl w (some A)).set v).block R (lt_of_block h) (by simp; omega)).trans h
theorem ext_take (t : List UInt8) (n : Nat) : (⟨t.toArray⟩ : ByteArray).extract 0 n = ⟨(t.take n).toArray⟩ := by
  apply ByteArray.ext; rw [ByteArray.data_extract]; simp
theorem ext_mid (t : List UInt8) (a b : Nat) : (⟨t.toArray⟩ : ByteArray).extract a b = ⟨((t.take b).drop a).toArray⟩ := by
  apply ByteArray.ext; rw [ByteArray.data_extract]; simp [List.drop_take]
theorem ext_drop (t : List UInt8) (n : Nat) : (⟨t.toArray⟩ : ByteArray).extract n t.length = ⟨(t.drop n).toArray⟩ := by
  rw [ext_mid, List.take_length]
theorem info9 : (Tryz.prog.info? 9).map (fun i => (i.zero, i.size, i.bytes)) = some (some (.string ⟨#[]⟩), 1, 16) := by kernel_rfl
/-- A block of one string. -/
theorem str_list {w : World} (s : List UInt8) : IsStrs (w.alloc (.cells #[str s] 9)) (.slice (some ⟨w.heap.size, 0, none⟩) 1 1) [s] := by
  refine .inr ⟨w.heap.size, 0, 1, rfl, by simp, by simp, fun k hk j hj => ?_⟩
  have e1 : k = 0 := by simp at hk; omega
  have e2 : j = 0 := by simp [strVal] at hj; omega
  subst e1 e2
  have := Lib.cell_of_heap (heap_alloc_new w (.cells #[str s] 9)) 0
  simp [strVal]
/-- A block of strings. -/
theorem strs_list {w : World} (l : List (List UInt8)) (T : TypeId) : IsStrs (w.alloc (.cells (l.map str).toArray T)) (.slice (some ⟨w.heap.size, 0, none⟩) l.length l.length) l := by
  refine .inr ⟨w.heap.size, 0, l.length, rfl, by simp, by simp, fun k hk j hj => ?_⟩
  have e2 : j = 0 := by simp [strVal] at hj; omega
  subst e2
  have := Lib.cell_of_heap (heap_alloc_new w (.cells (l.map str).toArray T)) k
  simp only [Nat.mul_one, Nat.zero_add, Nat.add_zero]
  rw [this]
  simp [strVal, hk]
theorem LiesAt.str {w : World} {ao : Option Addr} {cap : Nat} {xs : List (List UInt8)} (h : LiesAt 1 strVal w ao cap xs) (k : Nat) (hk : k < xs.length) : ∃ b off, ao = some ⟨b, off, none⟩ ∧ b < w.heap.size ∧ xs.length ≤ cap ∧ ∀ i, (hi : i < xs.length) → w.cell? ⟨b, off + i, none⟩ = some (Go.Proofs.YtnchipahdfbliaaGreatDoor.str xs[i]) := by
  obtain ⟨b, off, rfl, hb, hc, _⟩ := h k hk
  refine ⟨b, off, rfl, hb, hc, fun i hi => ?_⟩
  obtain ⟨b', off', e, _, _, hr⟩ := h i hi
  injection e with e
  injection e with e1 e2
  subst e1; subst e2
  have := hr 0 (by simp [strVal])
  simpa [strVal] using this
theorem cmp_sign (a b : Int) (w : World) : Calls Tryz.prog 115 #[.int .i64 a, .int .i64 b] w fun e w' => e = .returned (.int .i64 (if a < b then -1 else if b < a then 1 else 0)) ∧ w' = w := Tryz.cmp_Compare_int a b w
theorem own_kp {w w' : World} {base size n : Nat} {e : TypeId} {v : Value} {xs : List Value} (h : w.ownsRow base e size v n xs) (k : Kp w w' none) : w'.ownsRow base e size v n xs := h.kept k (by cases v.ownBlock; exact .inl rfl; exact .inr (by simp))
end Go.Proofs.YtnchipahdfbliaaGreatDoor
