/- The plots' map of apertures: what it holds; drawings in memory. No condition. -/
import Derived.Test.YtggplbenliaodaaDoorPlD
import Derived.Test.YtggplbenliaodaaDoorCs
import Derived.Maps.OwnOps
import Derived.Maps.OwnSet
import Derived.Carry
namespace Go.Proofs.YtggplbenliaodaaDoor
open Go.RowKit Go.Lib Go.Maps

theorem keyLit (x : Int) : WideAt.IsKeyLit (.int .i64 x) := by simp [WideAt.IsKeyLit]
/-- A map whose keys are the numbers of a list. -/
def Keys (D : DataW Unit) (rs : List Int) : Prop := (∀ x, has D (.int .i64 x) = decide (x ∈ rs)) ∧ Maps.size D = rs.length
theorem keys_nil : Keys (.map []) [] := ⟨fun x => by simp [has_eq], rfl⟩
theorem Keys.put {D : DataW Unit} {rs : List Int} (h : Keys D rs) (ht : Tidy D) (r : Int) (v : DataW Unit) (rs' : List Int) (hm : ∀ x, x ∈ rs' ↔ x = r ∨ x ∈ rs) (hl : rs'.length = if r ∈ rs then rs.length else rs.length + 1) : Keys (D.put (.int .i64 r) v) rs' := by
  refine ⟨fun x => ?_, ?_⟩
  · by_cases hx : x = r
    · subst hx
      rw [has_put_same ht.isMap (keyLit _)]
      symm; simpa using (hm x).2 (.inl rfl)
    · rw [has_put_other (by intro e; injection e with _ e; exact hx e), h.1 x]
      simp [hm x, hx]
  · rw [size_put ht, h.1 r, h.2, hl]
    by_cases hr : r ∈ rs <;> simp [hr]
theorem Keys.addR {D : DataW Unit} {rs : List Int} (h : Keys D rs) (ht : Tidy D) (d : Pl.Dr) (hk : d.s.k = 1) (hs : rs.Pairwise (· < ·)) (v : DataW Unit) : Keys (D.put (.int .i64 d.s.r) v) (Pl.addR rs d) := by
  unfold Pl.addR
  rw [if_pos hk]
  exact h.put ht d.s.r v _ (fun x => Pl.mem_ins) (Pl.ins_length _ hs)
/-- A key that is there, set anew. -/
theorem Keys.set {D : DataW Unit} {rs : List Int} (h : Keys D rs) (ht : Tidy D) {r : Int} (hr : r ∈ rs) (v : DataW Unit) : Keys (D.put (.int .i64 r) v) rs :=
  h.put ht r v rs (fun x => by constructor; exact .inr; rintro (rfl | h); exact hr; exact h) (by rw [if_pos hr])
/-- What came out of the map, sorted, are the numbers in order. -/
theorem keys_sorted {w : World} {m n : Nat} {D : DataW Unit} {rs ss : List Int} (hown : MapAt w m n D) (h : Keys D rs) (hs : rs.Pairwise (· < ·)) (hp : ss.Perm (intKeys D)) : ss.mergeSort (fun x y => decide (x ≤ y)) = rs := by
  have hnd : rs.Nodup := hs.imp (fun h => by omega)
  have hc : CollectedI D (fun _ => false) rs := ⟨hnd, fun x => by rw [h.1 x]; simp⟩
  have h2 := hc.perm hown law3 Tryd.underlying3 (fun _ => rfl)
  have h3 : ss.Perm rs := hp.trans h2.symm
  rw [mergeSort_of_perm_i h3]
  refine List.mergeSort_of_pairwise ?_
  exact hs.imp (fun h => by simp only [decide_eq_true_eq]; omega)
theorem MapAt.tidy {w : World} {m n : Nat} {D : DataW Unit} (h : MapAt w m n D) : Tidy D := World.ownsMap.tidy h law3
/-- The first numbers have their apertures. -/
def Apts (D : DataW Unit) (rs : List Int) (k : Nat) : Prop := ∀ i, (hi : i < rs.length) → i < k → D.atKey (.int .i64 rs[i]) (.lit (.int .i64 0)) = .lit (.int .i64 (10 + i : Nat))
theorem Apts.put {D : DataW Unit} {rs : List Int} {k : Nat} (h : Apts D rs k) (ht : Tidy D) (hnd : rs.Nodup) (hk : k < rs.length) : Apts (D.put (.int .i64 rs[k]) (.lit (.int .i64 (10 + k : Nat)))) rs (k + 1) := fun i hi hik => by
  by_cases e : i = k
  · subst e
    rw [atKey_put_same ht.isMap (keyLit _)]
  · rw [atKey_put_other]
    · exact h i hi (by omega)
    · intro e2
      injection e2 with _ e2
      exact e (by have h1 := Pl.idxOf_get hnd hi; have h2 := Pl.idxOf_get hnd hk; rw [e2] at h1; omega)
theorem Apts.num {D : DataW Unit} {rs : List Int} (h : Apts D rs rs.length) {r : Int} (hr : r ∈ rs) : D.atKey (.int .i64 r) (.lit (.int .i64 0)) = .lit (.int .i64 (Pl.num rs r : Nat)) := by
  have hi : rs.idxOf r < rs.length := List.idxOf_lt_length_of_mem hr
  have := h (rs.idxOf r) hi hi
  rw [List.getElem_idxOf hi] at this
  exact this

/-! ### The writer beside its map -/

theorem bufOf_own {b : Nat} {w w' : World} {m : Nat} (k : Kp w w' (some m)) (hb : b < w.heap.size) (hne : m ≠ b) : bufOf b w' = bufOf b w := bufOf_eq (k.block b hb (fun e => hne (by injection e with e; exact e.symm)))
theorem Wr.own {B b : Nat} {l : List UInt8} {m : Nat} {ap : Int} {c : Bool} {w w' : World} {g : Nat} (h : Wr B b l m ap c w) (k : Kp w w' (some g)) (ho : Off b w g) : Wr B b l m ap c w' := by
  have e0 : ∀ p v, w.heap[b]? = some (.cells #[p, v, .map (some m), .int .i64 ap, .bool c] 50 (0, 0)) → bufOf b w = v.ownBlock := fun p v hb => by unfold bufOf; rw [Lib.cell_of_heap hb]; rfl
  obtain ⟨hB, p, v, hp, hb, hown, hne⟩ := h
  have hbuf := e0 p v hb
  exact ⟨hB, p, v, hp, (k.block b (lt_of_block hb) (fun e => ho.2.1 (by injection e with e; exact e.symm))).trans hb, hown.kept k (.inr (fun e => ho.2.2 (by rw [hbuf, e]))), hne⟩
theorem Off.own {b N : Nat} {w w' : World} {g : Nat} (h : Off b w N) (k : Kp w w' (some g)) (hb : b < w.heap.size) (hne : g ≠ b) : Off b w' N :=
  ⟨Nat.lt_of_lt_of_le h.1 k.size, h.2.1, by rw [bufOf_own k hb hne]; exact h.2.2⟩

/-! ### Drawings in memory -/

def LiesDr (w : World) (ao : Option Addr) (cap : Nat) (ds : List Pl.Dr) : Prop :=
  ∀ k, (h : k < ds.length) → ∃ b off ea ec, ao = some ⟨b, off, none⟩ ∧ ds.length ≤ cap ∧ b < w.heap.size ∧ w.cell? ⟨b, off + k * 4, none⟩ = some (.int .i64 ds[k].s.k) ∧ w.cell? ⟨b, off + k * 4 + 1, none⟩ = some (.slice ea ds[k].s.es.length ec) ∧ w.cell? ⟨b, off + k * 4 + 2, none⟩ = some (.int .i64 ds[k].s.r) ∧ w.cell? ⟨b, off + k * 4 + 3, none⟩ = some (.bool ds[k].clear) ∧ LiesAt 7 edC w ea ec ds[k].s.es
theorem LiesDr.keep {w w' : World} {ao : Option Addr} {cap : Nat} {ds : List Pl.Dr} (h : LiesDr w ao cap ds) (k : Kp w w' none) : LiesDr w' ao cap ds := fun i hi => by
  obtain ⟨b, off, ea, ec, e, hc, hb, c0, c1, c2, c3, he⟩ := h i hi
  exact ⟨b, off, ea, ec, e, hc, Nat.lt_of_lt_of_le hb k.size, (k.below.cell (p := ⟨b, off + i * 4, none⟩) hb).trans c0, (k.below.cell (p := ⟨b, off + i * 4 + 1, none⟩) hb).trans c1, (k.below.cell (p := ⟨b, off + i * 4 + 2, none⟩) hb).trans c2, (k.below.cell (p := ⟨b, off + i * 4 + 3, none⟩) hb).trans c3, he.keep k⟩
def IsDrs (w : World) (v : Value) (ds : List Pl.Dr) : Prop := ∃ ao cap, v = .slice ao ds.length cap ∧ LiesDr w ao cap ds

end Go.Proofs.YtggplbenliaodaaDoor
