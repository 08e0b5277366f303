/- The plots' writer: a strings.Builder inside a struct, beside whatever else lies in memory. Conditions: what it is given takes at most 2^47 bytes. -/
import Derived.Test.YtggplbenliaodaaDoorVe
import Derived.Test.YtggplbenliaodaaDoorShelf
import Derived.Lib.FrozenHead2
import Derived.Lib.AppendIntMem
namespace Go.Proofs.YtggplbenliaodaaDoor
open Go.RowKit Go.Lib

theorem infoByte : (Tryd.prog.info? 5).map (fun i => (i.zero, i.size, i.bytes)) = some (some (.int .u8 0), 1, 1) := Tryd.Builder_Extra_169.infoByte

/-- Where the row lies behind an append: nowhere, where it lay, or in a new block. -/
def LiesOn (w : World) (v v' : Value) : Prop := ∀ g, v'.ownBlock = some g → v.ownBlock = some g ∨ w.heap.size ≤ g

section
variable {P : Program} {w : World}
theorem lies_string (base : Nat) (t u ty e : TypeId) (i : TypeInfo) (ht : P.underlying t = some (.slice e)) (hu : P.underlying u = some .string) (hi : P.info? e = some i) (hz : i.zero = some (.int .u8 0))
    (hsize : i.size = 1) (hby : i.bytes = 1)
    (v : Value) (n : Nat) (xs : List Value) (hown : w.ownsRowF base e 1 v n xs) (s : ByteArray)
    (h63 : n + s.size ≤ maxLen) (hbytes : n + s.size ≤ 140737488355328) (v' : Value) (w' : World) (hr : (Builtin.append_ #[t, u] ty #[v, .string s]).run P w = .ok v' w') : LiesOn w v v' := by
  intro g hg'
  rcases hown.2 with ⟨rfl, rfl⟩ | ⟨g0, cap, cur, fz, rfl, hbg, hg, hfz, hnc, hcm, hcs, htake⟩
  · obtain ⟨v2, w2, r1, r2, _⟩ := run_append_own_string (P := P) w w.heap.size t u ty e i ht hu hi hz hsize hby (.slice none 0 0) 0 xs ⟨hown.1, .inl ⟨rfl, rfl⟩⟩ s h63 hbytes (Nat.le_refl _)
    rw [hr] at r1
    injection r1 with e1 e2
    subst e1
    exact .inr (r2.lt g hg').1
  · by_cases hroom : n + s.size ≤ cap
    · have r1 := run_append_room_stringF (P := P) w t u ty e i ht hu hi hsize g0 n cap cur fz hg (by simpa using hfz) s hroom (by simp at hcs; omega)
      rw [hr] at r1
      injection r1 with e1 e2
      subst e1
      exact .inl hg'
    · have holds : ∀ j x, xs[j]? = some x → w.cell? ((⟨g0, 0, none⟩ : Addr).add j) = some x := hown.cells (g := g0) rfl
      have r1 := run_append_grow_string (P := P) w t u ty e i (.int .u8 0) ht hu hi hz ⟨g0, 0, none⟩ n cap xs (by rw [hsize]; exact hown.1) holds s (by omega) (by simp only [maxLen] at h63; omega) (by rw [hby]; exact growslice_fits (by omega) (by omega))
      rw [hr] at r1
      injection r1 with e1 e2
      subst e1
      simp [Value.ownBlock] at hg'
      exact .inr (by omega)
theorem wp_string_at {ops : Array Oper} {rest : List Oper} {o : Oper} {a : Act} {Q : Exit → Act → World → Prop} (hgd : o.guard = none) (sl x : Operand) (t u : TypeId)
    (ho : o.op = .call { callee := .builtin .append, args := #[sl, x], argTypes := #[t, u] })
    (base : Nat) (e : TypeId) (i : TypeInfo) (ht : P.underlying t = some (.slice e)) (hu : P.underlying u = some .string) (hi : P.info? e = some i) (hz : i.zero = some (.int .u8 0))
    (hsize : i.size = 1) (hby : i.bytes = 1)
    (v : Value) (n : Nat) (xs : List Value) (hs : a.eval sl = v) (hown : w.ownsRowF base e 1 v n xs) (s : ByteArray) (hx : a.eval x = .string s)
    (h63 : n + s.size ≤ maxLen) (hbytes : n + s.size ≤ 140737488355328) (hbase : base ≤ w.heap.size)
    (h : ∀ v' w', w'.ownsRowF base e 1 v' (n + s.size) (xs ++ strCells s) → w.grownBy w' v.ownBlock → LiesOn w v v' → wpList P ops Q rest (a.put o.dst v') w') : wpList P ops Q (o :: rest) a w := by
  refine wpList_plain hgd fun K hK => ?_
  obtain ⟨v', w', hr, h2, h3, _⟩ := run_append_own_stringF (P := P) w base t u o.type e i ht hu hi hz hsize hby v n xs hown s h63 hbytes hbase
  have h4 := lies_string base t u o.type e i ht hu hi hz hsize hby v n xs hown s h63 hbytes v' w' hr
  unfold Oper.wp execOp
  simp only [ho, resolve, invoke, builtin, Sem.run_bind, Sem.run_pure, Result.andThen_ok, List.map_toArray, List.map_cons, List.map_nil, hs, hx, hr]
  exact hK _ _ (h v' w' h2 h3 h4)
end

/-- Where the writer's bytes lie. -/
def bufOf (b : Nat) (w : World) : Option Nat := match w.cell? ⟨b, 1, none⟩ with
  | some v => v.ownBlock
  | none => none
theorem bufOf_eq {b : Nat} {w w' : World} (h : w'.heap[b]? = w.heap[b]?) : bufOf b w' = bufOf b w := by
  unfold bufOf; rw [World.cell?_of_block (w := w) h]
/-- From w to w' nothing that was there has turned but the writer and its bytes. -/
structure Kw (b : Nat) (w w' : World) : Prop where
  os : w'.os = w.os
  tape : w'.tape = w.tape
  output : w'.output = w.output
  size : w.heap.size ≤ w'.heap.size
  keep : ∀ g, g < w.heap.size → g ≠ b → bufOf b w ≠ some g → w'.heap[g]? = w.heap[g]?
  lies : ∀ g, bufOf b w' = some g → bufOf b w = some g ∨ w.heap.size ≤ g
theorem Kw.trans {b : Nat} {w w1 w2 : World} (h : Kw b w w1) (k : Kw b w1 w2) : Kw b w w2 where
  os := k.os.trans h.os
  tape := k.tape.trans h.tape
  output := k.output.trans h.output
  size := Nat.le_trans h.size k.size
  keep g hg hb hn := (k.keep g (Nat.lt_of_lt_of_le hg h.size) hb (fun e => by rcases h.lies g e with e | e; exact hn e; omega)).trans (h.keep g hg hb hn)
  lies g hg := by
    rcases k.lies g hg with e | e
    · exact h.lies g e
    · exact .inr (Nat.le_trans h.size e)
theorem Kw.of_kp {b : Nat} {w w' : World} (k : Kp w w' none) (hb : b < w.heap.size) : Kw b w w' where
  os := k.os
  tape := k.tape
  output := k.output
  size := k.size
  keep g hg _ _ := k.block g hg (by simp)
  lies g hg := .inl (by rw [bufOf_eq (k.block b hb (by simp))] at hg; exact hg)
theorem Kw.refl (b : Nat) (w : World) : Kw b w w := ⟨rfl, rfl, rfl, Nat.le_refl _, fun _ _ _ _ => rfl, fun _ h => .inl h⟩
/-- Block N is none of the writer's. -/
def Off (b : Nat) (w : World) (N : Nat) : Prop := N < w.heap.size ∧ N ≠ b ∧ bufOf b w ≠ some N
theorem Off.same {b N : Nat} {w w' : World} (h : Off b w N) (k : Kw b w w') : w'.heap[N]? = w.heap[N]? := k.keep N h.1 h.2.1 h.2.2
theorem Off.kw {b N : Nat} {w w' : World} (h : Off b w N) (k : Kw b w w') : Off b w' N :=
  ⟨Nat.lt_of_lt_of_le h.1 k.size, h.2.1, fun e => by rcases k.lies N e with e | e; exact h.2.2 e; have := h.1; omega⟩
theorem Off.kp {b N : Nat} {w w' : World} (h : Off b w N) (k : Kp w w' none) (hb : b < w.heap.size) : Off b w' N := h.kw (Kw.of_kp k hb)

/-- The writer: its bytes, its map, its aperture, its polarity. -/
def Wr (B b : Nat) (l : List UInt8) (m : Nat) (ap : Int) (c : Bool) (w : World) : Prop :=
  B ≤ b ∧ ∃ p v, (p = .pointer none ∨ p = .pointer (some ⟨b, 0, none⟩)) ∧ w.heap[b]? = some (.cells #[p, v, .map (some m), .int .i64 ap, .bool c] 50 (0, 0)) ∧ w.ownsRowF B 5 1 v l.length (Lib.byteCells l) ∧ v.ownBlock ≠ some b
theorem Wr.lt {B b : Nat} {l : List UInt8} {m : Nat} {ap : Int} {c : Bool} {w : World} (h : Wr B b l m ap c w) : b < w.heap.size := by
  obtain ⟨_, p, v, _, hb, _⟩ := h; exact lt_of_block hb
theorem Wr.buf {B b : Nat} {l : List UInt8} {m : Nat} {ap : Int} {c : Bool} {w : World} (h : Wr B b l m ap c w) {g : Nat} (hg : bufOf b w = some g) : B ≤ g ∧ g < w.heap.size := by
  obtain ⟨_, p, v, _, hb, ho, _⟩ := h
  have e : bufOf b w = v.ownBlock := by unfold bufOf; rw [Lib.cell_of_heap hb]; rfl
  exact ho.lt g (e ▸ hg)
theorem Wr.base {B b : Nat} {l : List UInt8} {m : Nat} {ap : Int} {c : Bool} {w : World} (h : Wr B b l m ap c w) : B ≤ b := h.1
theorem Wr.kp {B b : Nat} {l : List UInt8} {m : Nat} {ap : Int} {c : Bool} {w w' : World} (h : Wr B b l m ap c w) (k : Kp w w' none) : Wr B b l m ap c w' := by
  obtain ⟨hB, p, v, hp, hb, ho, hne⟩ := h
  exact ⟨hB, p, v, hp, (k.block b (lt_of_block hb) (by simp)).trans hb, ho.kept k (by cases hv : v.ownBlock <;> simp), hne⟩
/-- A new block is none of the writer's. -/
theorem Off.new {B b : Nat} {l : List UInt8} {m : Nat} {ap : Int} {c : Bool} {w : World} (h : Wr B b l m ap c w) (o : Obj) : Off b (w.alloc o) w.heap.size := by
  refine ⟨by simp, ?_, fun e => ?_⟩
  · have := h.lt; omega
  · rw [bufOf_eq (((Kp.refl w none).alloc o).block b h.lt (by simp))] at e
    have := (h.buf e).2; omega
/-- Whoever looks from further back sees no change. -/
theorem Kw.kp {W w w' : World} {b : Nat} {row : Option Nat} (h : Kp W w row) (k : Kw b w w') (hb : W.heap.size ≤ b) (hv : ∀ g, bufOf b w = some g → W.heap.size ≤ g) : Kp W w' row :=
  ⟨k.os.trans h.os, k.tape.trans h.tape, k.output.trans h.output, Nat.le_trans h.size k.size, fun g hg hr =>
    (k.keep g (Nat.lt_of_lt_of_le hg h.size) (by omega) (fun e => by have := hv g e; omega)).trans (h.block g hg hr)⟩
theorem Wr.kpw {W w w' : World} {b : Nat} {l : List UInt8} {m : Nat} {ap : Int} {c : Bool} {row : Option Nat} (h : Wr W.heap.size b l m ap c w) (k0 : Kp W w row) (k : Kw b w w') : Kp W w' row :=
  k.kp k0 h.base (fun _ hg => (h.buf hg).1)
/-- The writer's other fields, written. -/
theorem Wr.set {B b : Nat} {l : List UInt8} {m : Nat} {ap : Int} {c : Bool} {w : World} (h : Wr B b l m ap c w) {o : Nat} {u : Value} {ap' : Int} {c' : Bool}
    (hu : (o = 3 ∧ u = .int .i64 ap' ∧ c' = c) ∨ (o = 4 ∧ u = .bool c' ∧ ap' = ap)) : Wr B b l m ap' c' (w.setCell ⟨b, o, none⟩ u) ∧ Kw b w (w.setCell ⟨b, o, none⟩ u) := by
  obtain ⟨hB, p, v, hp, hb, ho, hne⟩ := h
  have hs := heap_set (o := o) (v := u) hb
  have hg : w.grownBy (w.setCell ⟨b, o, none⟩ u) (some b) := (Kp.refl w (some b)).set u
  have hs1 : (w.setCell ⟨b, o, none⟩ u).heap[b]? = some (.cells #[p, v, .map (some m), .int .i64 ap', .bool c'] 50 (0, 0)) := by
    rcases hu with ⟨rfl, rfl, rfl⟩ | ⟨rfl, rfl, rfl⟩ <;> exact hs
  have e0 : bufOf b w = v.ownBlock := by unfold bufOf; rw [Lib.cell_of_heap hb]; rfl
  have e1 : bufOf b (w.setCell ⟨b, o, none⟩ u) = v.ownBlock := by unfold bufOf; rw [Lib.cell_of_heap hs1]; rfl
  exact ⟨⟨hB, p, v, hp, hs1, ho.kept hg (.inr hne), hne⟩, hg.os, hg.tape, hg.output, hg.size, fun g hg' hgb _ => hg.block g hg' (fun e => hgb (by injection e)), fun g h => .inl (by rw [e0, ← e1]; exact h)⟩
theorem Wr.cells {B b : Nat} {l : List UInt8} {m : Nat} {ap : Int} {c : Bool} {w : World} (h : Wr B b l m ap c w) : w.cell? ⟨b, 2, none⟩ = some (.map (some m)) ∧ w.cell? ⟨b, 3, none⟩ = some (.int .i64 ap) ∧ w.cell? ⟨b, 4, none⟩ = some (.bool c) ∧ w.frozen? ⟨b, 3, none⟩ = false ∧ w.frozen? ⟨b, 4, none⟩ = false := by
  obtain ⟨hB, p, v, hp, hb, ho, hne⟩ := h
  exact ⟨by rw [Lib.cell_of_heap hb]; rfl, by rw [Lib.cell_of_heap hb]; rfl, by rw [Lib.cell_of_heap hb]; rfl, Lib.frozen_of_heap hb 3, Lib.frozen_of_heap hb 4⟩
theorem Wr.len {B b : Nat} {l l' : List UInt8} {m : Nat} {ap : Int} {c : Bool} {w : World} (h : Wr B b l m ap c w) (e : l = l') : Wr B b l' m ap c w := e ▸ h

theorem liesW : liesAt Tryd.prog Tryd.prog.depth 50 (5 / Tryd.prog.cellsOf 50) 0 48 1 = true := by kernel_rfl
set_option maxHeartbeats 1000000 in
set_option maxRecDepth 100000 in
theorem copyCheck_fresh (b : Nat) (w : World) (c0 : w.cell? ⟨b, 0, none⟩ = some (.pointer none)) (hsh : w.shape? b = some (50, 5)) (f0 : w.frozen? ⟨b, 0, none⟩ = false) :
    Calls Tryd.prog 37 #[.pointer (some ⟨b, 0, none⟩)] w fun e w' => e = .returned (.tuple #[]) ∧ w' = w.setCell ⟨b, 0, none⟩ (.pointer (some ⟨b, 0, none⟩)) := by
  obtain ⟨j, hj, hjs⟩ := Option.map_eq_some_iff.1 (Tryd.Builder_Extra_169.sizeBuilder)
  go_enter Tryd.func37, Tryd.ntmps37
  go_wp2
  rw [Lib.run_to_unsafe w ⟨b, 0, none⟩ Tryd.underlying45 Tryd.underlying102 hj (by rw [hjs]; decide) hsh (Nat.zero_lt_succ 4)]
  simp only [Result.andThen]
  rw [Oper.upon_value]
  go_wp2
  rw [run_callFunc_extern Tryd.func45 (by kernel_rfl) (by kernel_rfl) (by kernel_rfl) (e := Extern.AbiNoEscape.same) (by kernel_rfl)]
  rw [Lib.run_noEscape]
  simp only [Result.andThen]
  rw [Oper.upon_value]
  go_wp2
  rw [Lib.run_from_unsafe w ⟨b, 0, none⟩ Tryd.underlying102 Tryd.underlying45 hj hsh liesW]
  simp only [Result.andThen]
  rw [Oper.upon_value]
  go_wp2
  go_end0
  exact ⟨rfl, rfl⟩

set_option maxRecDepth 100000 in
theorem copyCheck_used (b : Nat) (w : World) (c0 : w.cell? ⟨b, 0, none⟩ = some (.pointer (some ⟨b, 0, none⟩))) :
    Calls Tryd.prog 37 #[.pointer (some ⟨b, 0, none⟩)] w fun e w' => e = .returned (.tuple #[]) ∧ w' = w := by
  obtain ⟨j, hj, _⟩ := Option.map_eq_some_iff.1 (Tryd.Builder_Extra_169.sizeBuilder)
  go_enter Tryd.func37, Tryd.ntmps37
  go_wp2
  rw [Lib.run_neq_ptr_same w _ Tryd.underlying45 hj]
  go_wp2
  go_end0
  exact ⟨rfl, rfl⟩

/-- The writer that has been written to. -/
def Wu (B b : Nat) (l : List UInt8) (m : Nat) (ap : Int) (c : Bool) (w : World) : Prop :=
  B ≤ b ∧ ∃ v, w.heap[b]? = some (.cells #[.pointer (some ⟨b, 0, none⟩), v, .map (some m), .int .i64 ap, .bool c] 50 (0, 0)) ∧ w.ownsRowF B 5 1 v l.length (Lib.byteCells l) ∧ v.ownBlock ≠ some b
theorem Wu.wr {B b : Nat} {l : List UInt8} {m : Nat} {ap : Int} {c : Bool} {w : World} (h : Wu B b l m ap c w) : Wr B b l m ap c w := by
  obtain ⟨hB, v, h⟩ := h; exact ⟨hB, _, v, .inr rfl, h⟩
theorem copyCheck_any (B b : Nat) (l : List UInt8) (m : Nat) (ap : Int) (c : Bool) (w : World) (h : Wr B b l m ap c w) :
    Calls Tryd.prog 37 #[.pointer (some ⟨b, 0, none⟩)] w fun e w' => e = .returned (.tuple #[]) ∧ Wu B b l m ap c w' ∧ Kw b w w' := by
  obtain ⟨hB, p, v, hp, hb, ho, hne⟩ := h
  rcases hp with rfl | rfl
  · refine (copyCheck_fresh b w (by rw [Lib.cell_of_heap hb]; rfl) (by simp [World.shape?, hb]) (Lib.frozen_of_heap hb 0)).mono ?_
    rintro e w' ⟨rfl, rfl⟩
    have hs := heap_set (o := 0) (v := .pointer (some ⟨b, 0, none⟩)) hb
    have hg : w.grownBy (w.setCell ⟨b, 0, none⟩ (.pointer (some ⟨b, 0, none⟩))) (some b) := (Kp.refl w (some b)).set _
    have e0 : bufOf b w = v.ownBlock := by unfold bufOf; rw [Lib.cell_of_heap hb]; rfl
    have e1 : bufOf b (w.setCell ⟨b, 0, none⟩ (.pointer (some ⟨b, 0, none⟩))) = v.ownBlock := by unfold bufOf; rw [Lib.cell_of_heap hs]; rfl
    exact ⟨rfl, ⟨hB, v, hs, ho.kept hg (.inr hne), hne⟩, hg.os, hg.tape, hg.output, hg.size, fun g hg' hgb _ => hg.block g hg' (fun e => hgb (by injection e)), fun g h => .inl (by rw [e0, ← e1]; exact h)⟩
  · refine (copyCheck_used b w (by rw [Lib.cell_of_heap hb]; rfl)).mono ?_
    rintro e w' ⟨rfl, rfl⟩
    exact ⟨rfl, ⟨hB, v, hb, ho, hne⟩, Kw.refl _ _⟩

set_option maxHeartbeats 2000000 in
set_option maxRecDepth 100000 in
theorem writeString_any (B b : Nat) (l s : List UInt8) (m : Nat) (ap : Int) (c : Bool) (w : World) (h : Wr B b l m ap c w) (hlen : l.length + s.length ≤ 140737488355328) (hBw : B ≤ w.heap.size) :
    Calls Tryd.prog 24 #[.pointer (some ⟨b, 0, none⟩), .string ⟨s.toArray⟩] w fun e w' => e = .returned (.tuple #[.int .i64 s.length, .nilIface]) ∧ Wu B b (l ++ s) m ap c w' ∧ Kw b w w' := by
  obtain ⟨i0, hi, hz0, hz1, hz2⟩ := info_parts infoByte
  have hsz : (⟨s.toArray⟩ : ByteArray).size = s.length := by show s.toArray.size = _; simp
  have hce : Lib.strCells ⟨s.toArray⟩ = Lib.byteCells s := Lib.strCells_eq ⟨s.toArray⟩
  obtain ⟨s0, hs0⟩ : ∃ s0 : ByteArray, ⟨s.toArray⟩ = s0 := ⟨_, rfl⟩
  rw [hs0] at hsz hce ⊢
  clear hs0
  rw [← hsz] at hlen ⊢
  have HSZ := Lib.hid hsz
  have HCE := Lib.hid hce
  have H0 := Lib.hid h
  clear hsz hce h
  go_enter Tryd.func24, Tryd.ntmps24
  go_wp2_with (go_at_call 37; refine (copyCheck_any B b l m ap c _ H0.out).mono ?_)
  rintro e w1 ⟨rfl, h1, hk1⟩
  have HK1 := Lib.hid hk1
  have hsz1 : B ≤ w1.heap.size := Nat.le_trans hBw hk1.size
  obtain ⟨hB, v, hbk, hown, hne⟩ := h1
  clear hk1
  have c0 : w1.cell? ⟨b, 0, none⟩ = some (.pointer (some ⟨b, 0, none⟩)) := by rw [Lib.cell_of_heap hbk]; rfl
  have c1 : w1.cell? ⟨b, 1, none⟩ = some v := by rw [Lib.cell_of_heap hbk]; rfl
  go_wp2_with (at_builtin; go_must (refine wp_string_at rfl _ _ 46 9 rfl B 5 i0 Tryd.underlying46 Tryd.underlying9 hi hz0 hz1 hz2 _ _ _ rfl hown s0 rfl ?c3 ?c4 ?c5 ?_))
  case c3 => unfold maxLen; omega
  case c4 => omega
  case c5 => omega
  intro v' w2 hown' hgrow hlies
  have hlt : b < w1.heap.size := lt_of_block hbk
  have hb2 : w2.heap[b]? = some (.cells #[.pointer (some ⟨b, 0, none⟩), v, .map (some m), .int .i64 ap, .bool c] 50 (0, 0)) := by
    rw [hgrow.block b hlt (fun e => hne e.symm)]
    exact hbk
  have d0 : w2.cell? ⟨b, 0, none⟩ = some (.pointer (some ⟨b, 0, none⟩)) := by rw [Lib.cell_of_heap hb2]; rfl
  have d1 : w2.cell? ⟨b, 1, none⟩ = some v := by rw [Lib.cell_of_heap hb2]; rfl
  have f1 : w2.frozen? ⟨b, 1, none⟩ = false := Lib.frozen_of_heap hb2 1
  obtain ⟨ao, n', cap, rfl⟩ : ∃ ao n' cap, v' = .slice ao n' cap := by
    rcases hown'.2 with ⟨hv, _⟩ | ⟨g, cap, cur, fz, hv, _⟩
    · exact ⟨_, _, _, hv⟩
    · exact ⟨_, _, _, hv⟩
  have HL := Lib.hid hlies
  have HO := Lib.hid hown'
  have HG := Lib.hid hgrow
  clear hlies hown' hgrow
  go_wp2
  go_ret2
  have hs2 : w1.heap.size ≤ w2.heap.size := HG.out.size
  have hset := heap_set (o := 1) (v := .slice ao n' cap) hb2
  have hg2 : w2.grownBy (w2.setCell ⟨b, 1, none⟩ (.slice ao n' cap)) (some b) := (Kp.refl w2 (some b)).set _
  have hnb : (Value.slice ao n' cap).ownBlock ≠ some b := fun e => by
    rcases HL.out b e with e | e
    · exact hne e
    · omega
  have e0 : bufOf b w1 = v.ownBlock := by unfold bufOf; rw [c1]
  have e1 : bufOf b (w2.setCell ⟨b, 1, none⟩ (.slice ao n' cap)) = (Value.slice ao n' cap).ownBlock := by unfold bufOf; rw [Lib.cell_of_heap hset]; rfl
  refine ⟨rfl, ⟨hB, _, hset, ?_, hnb⟩, HK1.out.trans ⟨HG.out.os, HG.out.tape, HG.out.output, by simpa using hs2, fun g hg hgb hn => ?_, fun g hg => ?_⟩⟩
  · have := HO.out.kept hg2 (.inr hnb)
    rw [HCE.out, ← Lib.byteCells_append, HSZ.out, ← List.length_append] at this
    exact this
  · rw [hg2.block g (by omega) (fun e => hgb (by injection e)), HG.out.block g hg (fun e => hn (by rw [e0, e]))]
  · rw [e1] at hg
    rcases HL.out g hg with e | e
    · exact .inl (by rw [e0]; exact e)
    · exact .inr e

set_option maxHeartbeats 1000000 in
theorem len_any (B b : Nat) (l : List UInt8) (m : Nat) (ap : Int) (c : Bool) (w : World) (h : Wr B b l m ap c w) :
    Calls Tryd.prog 17 #[.pointer (some ⟨b, 0, none⟩)] w fun e w' => e = .returned (.int .i64 l.length) ∧ w' = w := by
  obtain ⟨hB, p, v, hp, hb, ho, hne⟩ := h
  have c1 : w.cell? ⟨b, 1, none⟩ = some v := by rw [Lib.cell_of_heap hb]; rfl
  obtain ⟨ao, cap, rfl⟩ : ∃ ao cap, v = .slice ao l.length cap := by
    rcases ho.2 with ⟨hv, h0⟩ | ⟨g, cap, cur, fz, hv, _⟩
    · exact ⟨none, 0, by rw [hv, h0]⟩
    · exact ⟨_, _, hv⟩
  clear hb ho hne hp
  go_enter Tryd.func17, Tryd.ntmps17
  go_wp2
  go_ret
  exact ⟨rfl, rfl⟩

set_option maxHeartbeats 2000000 in
set_option maxRecDepth 100000 in
theorem string_any (B b : Nat) (l : List UInt8) (m : Nat) (ap : Int) (c : Bool) (w : World) (h : Wr B b l m ap c w) (h0 : l ≠ []) :
    Calls Tryd.prog 18 #[.pointer (some ⟨b, 0, none⟩)] w fun e w' => e = .returned (.string ⟨l.toArray⟩) ∧ Below B w w' := by
  obtain ⟨hB, p, v, hp, hbk, hown, hne⟩ := h
  have hl0 : l.length ≠ 0 := by simpa using h0
  obtain ⟨g, cap, cur, fz, rfl, hbg, hg, hfz, hnc, hcm, hcs, htake⟩ : ∃ g cap cur fz, v = .slice (some ⟨g, 0, none⟩) l.length cap ∧ B ≤ g ∧ w.heap[g]? = some (.cells cur 5 fz) ∧ fz.2 ≤ l.length * 1 ∧ l.length ≤ cap ∧ cap ≤ maxLen ∧ cur.size = cap * 1 ∧ cur.toList.take (l.length * 1) = Lib.byteCells l := by
    rcases hown.2 with ⟨_, hz⟩ | ⟨g, cap, cur, fz, hv, r⟩
    · exact absurd hz hl0
    · exact ⟨g, cap, cur, fz, hv, r⟩
  have c1 : w.drew.cell? ⟨b, 1, none⟩ = some (.slice (some ⟨g, 0, none⟩) l.length cap) := by
    have : w.drew.heap[b]? = some (.cells #[p, .slice (some ⟨g, 0, none⟩) l.length cap, .map (some m), .int .i64 ap, .bool c] 50 (0, 0)) := hbk
    rw [Lib.cell_of_heap this]; rfl
  have hSD : (Builtin.unsafeSliceData_ #[46] 81 #[.slice (some ⟨g, 0, none⟩) l.length cap]).run Tryd.prog w.drew = .ok (.pointer (some ⟨g, 0, none⟩)) w.drew :=
    Lib.run_unsafeSliceData_row _ _ _ _ _ _ (by omega)
  have hUS : (Builtin.unsafeString_ #[81, 3] 9 #[.pointer (some ⟨g, 0, none⟩), .int .i64 l.length]).run Tryd.prog w.drew = .ok (.string ⟨l.toArray⟩) (w.drew.freeze ⟨g, 0, none⟩ l.length) := by
    refine Lib.run_unsafeString_row w.drew 81 3 9 5 Tryd.underlying81 Tryd.Builder_Extra_169.cellsByte g cur.size (by have hg' : w.drew.heap[g]? = some (.cells cur 5 fz) := hg; simp [World.shape?, hg']) l h0 (by omega) (by unfold maxLen at hcm; omega) ?_
    intro j x hx
    have := hown.cells (g := g) rfl j (.int .u8 x.toNat) (by simp [Lib.byteCells, hx])
    exact this
  clear hown htake hp
  have mixed : Tryd.prog.follows .mixedOrders = true := by kernel_rfl
  go_enter Tryd.func18, Tryd.ntmps18
  go_wp2
  go_region_o
  all_goals (go_wp2; go_ret; exact ⟨rfl, Lib.below_freeze (Below.drew (Below.refl B w)) (p := ⟨g, 0, none⟩) hbg _⟩)

end Go.Proofs.YtggplbenliaodaaDoor
