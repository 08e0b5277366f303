/- The file's writer: a strings.Builder inside a struct, beside whatever else lies in memory. Conditions: what it is given takes at most 2^47 bytes.
  A line of the file's writer: words and numbers. Conditions: numbers within 2^61; what is written takes at most 2^47 bytes. -/
import Derived.Test.YtljjbdbgedmadaaGreatDoorPt
import Derived.Test.YtljjbdbgedmadaaGreatDoorShelf
import Derived.Lib.FrozenHead2
import Derived.Lib.AppendIntMem
import Derived.Test.YtljjbdbgedmadaaGreatDoorDrA
set_option maxHeartbeats 4000000
set_option maxRecDepth 100000
namespace Go.Proofs.YtljjbdbgedmadaaGreatDoor
open Go.RowKit Go.Lib
theorem infoByte : (Tryz.prog.info? 5).map (fun i => (i.zero, i.size, i.bytes)) = some (some (.int .u8 0), 1, 1) := by kernel_rfl
theorem BldF.sizeBuilder : (Tryz.prog.info? 102).map (·.size) = some 2 := by kernel_rfl
theorem BldF.cellsByte : Tryz.prog.cellsOf 5 = 1 := by kernel_rfl
def LiesOn (w : World) (v v' : Value) : Prop := ∀ g, v'.ownBlock = some g → v.ownBlock = some g ∨ w.heap.size ≤ g
section
variable {P : Program} {w : World}
theorem lies_bytes (base : Nat) (t ty e : TypeId) (i : TypeInfo) (z : Value) (bytes : Nat) (ht : P.underlying t = some (.slice e)) (hi : P.info? e = some i) (hz : i.zero = some z)
  (hsize : i.size = 1) (hby : i.bytes = bytes) (hzs : z.cells.size = 1)
  (v : Value) (n : Nat) (xs : List Value) (hown : w.ownsRowF base e 1 v n xs)
  (a : Addr) (m c : Nat) (news : List Value) (hl : news.length = m * 1) (hnews : ∀ j u, news[j]? = some u → w.cell? (a.add j) = some u) (h1 : ∀ u ∈ news, u.oneCell' = true)
  (h63 : n + m ≤ maxLen) (hbytes : (n + m) * bytes ≤ 140737488355328) (v' : Value) (w' : World) (hr : (Builtin.append_ #[t, t] ty #[v, .slice (some a) m c]).run P w = .ok v' w') : LiesOn w v v' := by
 intro g hg'
 rcases hown.2 with ⟨rfl, rfl⟩ | ⟨g0, cap, cur, fz, rfl, hbg, hg, hfz, hnc, hcm, hcs, htake⟩
 ·obtain ⟨u, w2, r1, r2, _⟩ := run_append_own (P := P) w w.heap.size t ty e i z 1 bytes ht hi hz hsize hby hzs (by decide) (.slice none 0 0) 0 xs ⟨hown.1, .inl ⟨rfl, rfl⟩⟩ a m c news hl hnews h1 h63 hbytes (Nat.le_refl _)
  rw [hr] at r1; injection r1 with e1 e2; subst e1
  exact .inr (r2.lt g hg').1
 ·by_cases hroom : n + m ≤ cap
  ·have r1 := run_append_roomF (P := P) w t ty e i ht hi g0 n cap cur fz hg (by rw [hsize]; exact hfz) a m c news (by rw [hsize]; exact hl) hnews h1 hroom (by rw [hsize]; omega)
   rw [hr] at r1; injection r1 with e1 e2; subst e1
   exact .inl hg'
  ·have holds : ∀ j u, xs[j]? = some u → w.cell? ((⟨g0, 0, none⟩ : Addr).add j) = some u := hown.cells (g := g0) rfl
   have r1 := run_append_grow (P := P) w t ty e i z ht hi hz ⟨g0, 0, none⟩ n cap xs (by rw [hsize]; exact hown.1) holds a m c news (by rw [hsize]; exact hl) hnews (by omega) (by simp only [maxLen] at h63; omega) (by rw [hby]; exact growslice_fits (by omega) hbytes)
   rw [hr] at r1; injection r1 with e1 e2; subst e1
   simp [Value.ownBlock] at hg'
   exact .inr (by omega)
theorem lies_string (base : Nat) (t u ty e : TypeId) (i : TypeInfo) (ht : P.underlying t = some (.slice e)) (hu : P.underlying u = some .string) (hi : P.info? e = some i) (hz : i.zero = some (.int .u8 0))
  (hsize : i.size = 1) (hby : i.bytes = 1)
  (v : Value) (n : Nat) (xs : List Value) (hown : w.ownsRowF base e 1 v n xs) (s : ByteArray)
  (h63 : n + s.size ≤ maxLen) (hbytes : n + s.size ≤ 140737488355328) (v' : Value) (w' : World) (hr : (Builtin.append_ #[t, u] ty #[v, .string s]).run P w = .ok v' w') : LiesOn w v v' := by
 intro g hg'
 rcases hown.2 with ⟨rfl, rfl⟩ | ⟨g0, cap, cur, fz, rfl, hbg, hg, hfz, hnc, hcm, hcs, htake⟩
 ·obtain ⟨v2, w2, r1, r2, _⟩ := run_append_own_string (P := P) w w.heap.size t u ty e i ht hu hi hz hsize hby (.slice none 0 0) 0 xs ⟨hown.1, .inl ⟨rfl, rfl⟩⟩ s h63 hbytes (Nat.le_refl _)
  rw [hr] at r1; injection r1 with e1 e2; subst e1
  exact .inr (r2.lt g hg').1
 ·by_cases hroom : n + s.size ≤ cap
  ·have r1 := run_append_room_stringF (P := P) w t u ty e i ht hu hi hsize g0 n cap cur fz hg (by simpa using hfz) s hroom (by simp at hcs; omega)
   rw [hr] at r1; injection r1 with e1 e2; subst e1
   exact .inl hg'
  ·have holds : ∀ j x, xs[j]? = some x → w.cell? ((⟨g0, 0, none⟩ : Addr).add j) = some x := hown.cells (g := g0) rfl
   have r1 := run_append_grow_string (P := P) w t u ty e i (.int .u8 0) ht hu hi hz ⟨g0, 0, none⟩ n cap xs (by rw [hsize]; exact hown.1) holds s (by omega) (by simp only [maxLen] at h63; omega) (by rw [hby]; exact growslice_fits (by omega) (by omega))
   rw [hr] at r1; injection r1 with e1 e2; subst e1
   simp [Value.ownBlock] at hg'
   exact .inr (by omega)
theorem wp_bytes_at {ops : Array Oper} {rest : List Oper} {o : Oper} {a : Act} {Q : Exit → Act → World → Prop} (hgd : o.guard = none) (s x : Operand) (t : TypeId)
  (ho : o.op = .call { callee := .builtin .append, args := #[s, x], argTypes := #[t, t] })
  (base : Nat) (e : TypeId) (i : TypeInfo) (z : Value) (bytes : Nat) (ht : P.underlying t = some (.slice e)) (hi : P.info? e = some i) (hz : i.zero = some z)
  (hsize : i.size = 1) (hby : i.bytes = bytes) (hzs : z.cells.size = 1)
  (v : Value) (n : Nat) (xs : List Value) (hs : a.eval s = v) (hown : w.ownsRowF base e 1 v n xs)
  (ad : Addr) (m c : Nat) (news : List Value) (hx : a.eval x = .slice (some ad) m c) (hl : news.length = m * 1) (hnews : ∀ j u, news[j]? = some u → w.cell? (ad.add j) = some u) (h1 : ∀ u ∈ news, u.oneCell' = true)
  (h63 : n + m ≤ maxLen) (hbytes : (n + m) * bytes ≤ 140737488355328) (hbase : base ≤ w.heap.size)
  (h : ∀ v' w', w'.ownsRowF base e 1 v' (n + m) (xs ++ news) → w.grownBy w' v.ownBlock → LiesOn w v v' → wpList P ops Q rest (a.put o.dst v') w') : wpList P ops Q (o :: rest) a w := by
 refine wpList_plain hgd fun K hK => ?_
 obtain ⟨v', w', hr, h2, h3, _⟩ := run_append_ownF (P := P) w base t o.type e i z 1 bytes ht hi hz hsize hby hzs (by decide) v n xs hown ad m c news hl hnews h1 h63 hbytes hbase
 have h4 := lies_bytes base t o.type e i z bytes ht hi hz hsize hby hzs v n xs hown ad m c news hl hnews h1 h63 hbytes v' w' hr
 unfold Oper.wp execOp
 simp only [ho, resolve, invoke, builtin, Sem.run_bind, Sem.run_pure, Result.andThen_ok, List.map_toArray, List.map_cons, List.map_nil, hs, hx, hr]
 exact hK _ _ (h v' w' h2 h3 h4)
theorem wp_string_at {ops : Array Oper} {rest : List Oper} {o : Oper} {a : Act} {Q : Exit → Act → World → Prop} (hgd : o.guard = none) (sl x : Operand) (t u : TypeId)
  (ho : o.op = .call { callee := .builtin .append, args := #[sl, x], argTypes := #[t, u] })
  (base : Nat) (e : TypeId) (i : TypeInfo) (ht : P.underlying t = some (.slice e)) (hu : P.underlying u = some .string) (hi : P.info? e = some i) (hz : i.zero = some (.int .u8 0))
  (hsize : i.size = 1) (hby : i.bytes = 1)
  (v : Value) (n : Nat) (xs : List Value) (hs : a.eval sl = v) (hown : w.ownsRowF base e 1 v n xs) (s : ByteArray) (hx : a.eval x = .string s)
  (h63 : n + s.size ≤ maxLen) (hbytes : n + s.size ≤ 140737488355328) (hbase : base ≤ w.heap.size)
  (h : ∀ v' w', w'.ownsRowF base e 1 v' (n + s.size) (xs ++ strCells s) → w.grownBy w' v.ownBlock → LiesOn w v v' → wpList P ops Q rest (a.put o.dst v') w') : wpList P ops Q (o :: rest) a w := by
 refine wpList_plain hgd fun K hK => ?_
 obtain ⟨v', w', hr, h2, h3, _⟩ := run_append_own_stringF (P := P) w base t u o.type e i ht hu hi hz hsize hby v n xs hown s h63 hbytes hbase
 have h4 := lies_string base t u o.type e i ht hu hi hz hsize hby v n xs hown s h63 hbytes v' w' hr
 unfold Oper.wp execOp
 simp only [ho, resolve, invoke, builtin, Sem.run_bind, Sem.run_pure, Result.andThen_ok, List.map_toArray, List.map_cons, List.map_nil, hs, hx, hr]
 exact hK _ _ (h v' w' h2 h3 h4)
end
def bufOf (b : Nat) (w : World) : Option Nat := match w.cell? ⟨b, 1, none⟩ with
 | some v => v.ownBlock
 | none => none
theorem bufOf_eq {b : Nat} {w w' : World} (h : w'.heap[b]? = w.heap[b]?) : bufOf b w' = bufOf b w := by
 unfold bufOf; rw [World.cell?_of_block (w := w) h]
structure Kw (b : Nat) (w w' : World) : Prop where
 os : w'.os = w.os
 tape : w'.tape = w.tape
 output : w'.output = w.output
 size : w.heap.size ≤ w'.heap.size
 keep : ∀ g, g < w.heap.size → g ≠ b → bufOf b w ≠ some g → w'.heap[g]? = w.heap[g]?
 lies : ∀ g, bufOf b w' = some g → bufOf b w = some g ∨ w.heap.size ≤ g
theorem Kw.trans {b : Nat} {w w1 w2 : World} (h : Kw b w w1) (k : Kw b w1 w2) : Kw b w w2 where
 os := k.os.trans h.os
 tape := k.tape.trans h.tape
 output := k.output.trans h.output
 size := Nat.le_trans h.size k.size
 keep g hg hb hn := (k.keep g (Nat.lt_of_lt_of_le hg h.size) hb (fun e => by rcases h.lies g e with e | e; exact hn e; omega)).trans (h.keep g hg hb hn)
 lies g hg := by
  rcases k.lies g hg with e | e
  ·exact h.lies g e
  ·exact .inr (Nat.le_trans h.size e)
theorem Kw.of_kp {b : Nat} {w w' : World} (k : Kp w w' none) (hb : b < w.heap.size) : Kw b w w' where
 os := k.os
 tape := k.tape
 output := k.output
 size := k.size
 keep g hg _ _ := k.block g hg (by simp)
 lies g hg := .inl (by rw [bufOf_eq (k.block b hb (by simp))] at hg; exact hg)
theorem Kw.refl (b : Nat) (w : World) : Kw b w w := ⟨rfl, rfl, rfl, Nat.le_refl _, fun _ _ _ _ => rfl, fun _ h => .inl h⟩
def Off (b : Nat) (w : World) (N : Nat) : Prop := N < w.heap.size ∧ N ≠ b ∧ bufOf b w ≠ some N
theorem Off.same {b N : Nat} {w w' : World} (h : Off b w N) (k : Kw b w w') : w'.heap[N]? = w.heap[N]? := k.keep N h.1 h.2.1 h.2.2
theorem Off.kw {b N : Nat} {w w' : World} (h : Off b w N) (k : Kw b w w') : Off b w' N :=
 ⟨Nat.lt_of_lt_of_le h.1 k.size, h.2.1, fun e => by rcases k.lies N e with e | e; exact h.2.2 e; have := h.1; omega⟩
theorem Off.kp {b N : Nat} {w w' : World} (h : Off b w N) (k : Kp w w' none) (hb : b < w.heap.size) : Off b w' N := h.kw (Kw.of_kp k hb)
def Wr (B b : Nat) (l : List UInt8) (w : World) : Prop :=
 B ≤ b ∧ ∃ p v, (p = .pointer none ∨ p = .pointer (some ⟨b, 0, none⟩)) ∧ w.heap[b]? = some (.cells #[p, v] 104 (0, 0)) ∧ w.ownsRowF B 5 1 v l.length (Lib.byteCells l) ∧ v.ownBlock ≠ some b
theorem Wr.lt {B b : Nat} {l : List UInt8} {w : World} (h : Wr B b l w) : b < w.heap.size := by
 obtain ⟨_, p, v, _, hb, _⟩ := h; exact lt_of_block hb
theorem Wr.buf {B b : Nat} {l : List UInt8} {w : World} (h : Wr B b l w) {g : Nat} (hg : bufOf b w = some g) : B ≤ g ∧ g < w.heap.size := by
 obtain ⟨_, p, v, _, hb, ho, _⟩ := h
 have e : bufOf b w = v.ownBlock := by unfold bufOf; rw [Lib.cell_of_heap hb]; rfl
 exact ho.lt g (e ▸ hg)
theorem Wr.base {B b : Nat} {l : List UInt8} {w : World} (h : Wr B b l w) : B ≤ b := h.1
theorem Wr.kp {B b : Nat} {l : List UInt8} {w w' : World} (h : Wr B b l w) (k : Kp w w' none) : Wr B b l w' := by
 obtain ⟨hB, p, v, hp, hb, ho, hne⟩ := h
 exact ⟨hB, p, v, hp, (k.block b (lt_of_block hb) (by simp)).trans hb, ho.kept k (by cases hv : v.ownBlock <;> simp), hne⟩
theorem Off.new {B b : Nat} {l : List UInt8} {w : World} (h : Wr B b l w) (o : Obj) : Off b (w.alloc o) w.heap.size := by
 refine ⟨by simp, ?_, fun e => ?_⟩
 ·have := h.lt; omega
 ·rw [bufOf_eq (((Kp.refl w none).alloc o).block b h.lt (by simp))] at e; have := (h.buf e).2; omega
theorem Kw.kp {W w w' : World} {b : Nat} {row : Option Nat} (h : Kp W w row) (k : Kw b w w') (hb : W.heap.size ≤ b) (hv : ∀ g, bufOf b w = some g → W.heap.size ≤ g) : Kp W w' row :=
 ⟨k.os.trans h.os, k.tape.trans h.tape, k.output.trans h.output, Nat.le_trans h.size k.size, fun g hg hr =>
  (k.keep g (Nat.lt_of_lt_of_le hg h.size) (by omega) (fun e => by have := hv g e; omega)).trans (h.block g hg hr)⟩
theorem Wr.kpw {W w w' : World} {b : Nat} {l : List UInt8} {row : Option Nat} (h : Wr W.heap.size b l w) (k0 : Kp W w row) (k : Kw b w w') : Kp W w' row :=
 k.kp k0 h.base (fun _ hg => (h.buf hg).1)
theorem liesW : liesAt Tryz.prog Tryz.prog.depth 104 (2 / Tryz.prog.cellsOf 104) 0 102 1 = true := by kernel_rfl
theorem copyCheck_fresh (b : Nat) (w : World) (c0 : w.cell? ⟨b, 0, none⟩ = some (.pointer none)) (hsh : w.shape? b = some (104, 2)) (f0 : w.frozen? ⟨b, 0, none⟩ = false) :
  Calls Tryz.prog 157 #[.pointer (some ⟨b, 0, none⟩)] w fun e w' => e = .returned (.tuple #[]) ∧ w' = w.setCell ⟨b, 0, none⟩ (.pointer (some ⟨b, 0, none⟩)) := by
 obtain ⟨j, hj, hjs⟩ := Option.map_eq_some_iff.1 (BldF.sizeBuilder)
 go_enter Tryz.func157, Tryz.ntmps157
 go_wp2
 rw [Lib.run_to_unsafe w ⟨b, 0, none⟩ Tryz.underlying99 Tryz.underlying300 hj (by rw [hjs]; decide) hsh (Nat.zero_lt_succ 1)]
 simp only [Result.andThen]
 rw [Oper.upon_value]; go_wp2
 rw [run_callFunc_extern Tryz.func183 (by kernel_rfl) (by kernel_rfl) (by kernel_rfl) (e := Extern.AbiNoEscape.same) (by kernel_rfl)]; rw [Lib.run_noEscape]; simp only [Result.andThen]
 rw [Oper.upon_value]; go_wp2
 rw [Lib.run_from_unsafe w ⟨b, 0, none⟩ Tryz.underlying300 Tryz.underlying99 hj hsh liesW]; simp only [Result.andThen]
 rw [Oper.upon_value]; go_wp2
 go_end0
 exact ⟨rfl, rfl⟩
theorem copyCheck_used (b : Nat) (w : World) (c0 : w.cell? ⟨b, 0, none⟩ = some (.pointer (some ⟨b, 0, none⟩))) :
  Calls Tryz.prog 157 #[.pointer (some ⟨b, 0, none⟩)] w fun e w' => e = .returned (.tuple #[]) ∧ w' = w := by
 obtain ⟨j, hj, _⟩ := Option.map_eq_some_iff.1 (BldF.sizeBuilder)
 go_enter Tryz.func157, Tryz.ntmps157
 go_wp2
 rw [Lib.run_neq_ptr_same w _ Tryz.underlying99 hj]; go_wp2
 go_end0
 exact ⟨rfl, rfl⟩
def Wu (B b : Nat) (l : List UInt8) (w : World) : Prop :=
 B ≤ b ∧ ∃ v, w.heap[b]? = some (.cells #[.pointer (some ⟨b, 0, none⟩), v] 104 (0, 0)) ∧ w.ownsRowF B 5 1 v l.length (Lib.byteCells l) ∧ v.ownBlock ≠ some b
theorem Wu.wr {B b : Nat} {l : List UInt8} {w : World} (h : Wu B b l w) : Wr B b l w := by
 obtain ⟨hB, v, h⟩ := h; exact ⟨hB, _, v, .inr rfl, h⟩
theorem copyCheck_any (B b : Nat) (l : List UInt8) (w : World) (h : Wr B b l w) :
  Calls Tryz.prog 157 #[.pointer (some ⟨b, 0, none⟩)] w fun e w' => e = .returned (.tuple #[]) ∧ Wu B b l w' ∧ Kw b w w' := by
 obtain ⟨hB, p, v, hp, hb, ho, hne⟩ := h
 rcases hp with rfl | rfl
 ·refine (copyCheck_fresh b w (by rw [Lib.cell_of_heap hb]; rfl) (by simp [World.shape?, hb]) (fz hb 0)).mono ?_
  rintro e w' ⟨rfl, rfl⟩; have hs := heap_set (o := 0) (v := .pointer (some ⟨b, 0, none⟩)) hb
  have hg : w.grownBy (w.setCell ⟨b, 0, none⟩ (.pointer (some ⟨b, 0, none⟩))) (some b) := (Kp.refl w (some b)).set _
  have e0 : bufOf b w = v.ownBlock := by unfold bufOf; rw [Lib.cell_of_heap hb]; rfl
  have e1 : bufOf b (w.setCell ⟨b, 0, none⟩ (.pointer (some ⟨b, 0, none⟩))) = v.ownBlock := by unfold bufOf; rw [Lib.cell_of_heap hs]; rfl
  exact ⟨rfl, ⟨hB, v, hs, ho.kept hg (.inr hne), hne⟩, hg.os, hg.tape, hg.output, hg.size, fun g hg' hgb _ => hg.block g hg' (fun e => hgb (by injection e)), fun g h => .inl (by rw [e0, ← e1]; exact h)⟩
 ·refine (copyCheck_used b w (by rw [Lib.cell_of_heap hb]; rfl)).mono ?_
  rintro e w' ⟨rfl, rfl⟩; exact ⟨rfl, ⟨hB, v, hb, ho, hne⟩, Kw.refl _ _⟩
theorem writeString_any (B b : Nat) (l s : List UInt8) (w : World) (h : Wr B b l w) (hlen : l.length + s.length ≤ 140737488355328) (hBw : B ≤ w.heap.size) :
  Calls Tryz.prog 97 #[.pointer (some ⟨b, 0, none⟩), .string ⟨s.toArray⟩] w fun e w' => e = .returned (.tuple #[I6 s.length, .nilIface]) ∧ Wu B b (l ++ s) w' ∧ Kw b w w' := by
 obtain ⟨i0, hi, hz0, hz1, hz2⟩ := info_parts infoByte
 have hsz : (⟨s.toArray⟩ : ByteArray).size = s.length := by show s.toArray.size = _; simp
 have hce : Lib.strCells ⟨s.toArray⟩ = Lib.byteCells s := Lib.strCells_eq ⟨s.toArray⟩
 obtain ⟨s0, hs0⟩ : ∃ s0 : ByteArray, ⟨s.toArray⟩ = s0 := ⟨_, rfl⟩
 rw [hs0] at hsz hce ⊢; clear hs0; rw [← hsz] at hlen ⊢; have HSZ := oh hsz; have HCE := oh hce; have H0 := oh h; clear hsz hce h; go_enter Tryz.func97, Tryz.ntmps97
 go_wp2_with (go_at_call 157; refine (copyCheck_any B b l _ H0.out).mono ?_)
 rintro e w1 ⟨rfl, h1, hk1⟩; have HK1 := oh hk1; have hsz1 : B ≤ w1.heap.size := Nat.le_trans hBw hk1.size
 obtain ⟨hB, v, hbk, hown, hne⟩ := h1; clear hk1
 have c0 : w1.cell? ⟨b, 0, none⟩ = some (.pointer (some ⟨b, 0, none⟩)) := by rw [Lib.cell_of_heap hbk]; rfl
 have c1 : w1.cell? ⟨b, 1, none⟩ = some v := by rw [Lib.cell_of_heap hbk]; rfl
 go_wp2_with (at_builtin; go_must (refine wp_string_at rfl _ _ 100 9 rfl B 5 i0 Tryz.underlying100 Tryz.underlying9 hi hz0 hz1 hz2 _ _ _ rfl hown s0 rfl ?c3 ?c4 ?c5 ?_))
 case c3 => unfold maxLen; omega
 case c4 => omega
 case c5 => omega
 intro v' w2 hown' hgrow hlies
 have hlt : b < w1.heap.size := lt_of_block hbk
 have hb2 : w2.heap[b]? = some (.cells #[.pointer (some ⟨b, 0, none⟩), v] 104 (0, 0)) := by
  rw [hgrow.block b hlt (fun e => hne e.symm)]; exact hbk
 have d0 : w2.cell? ⟨b, 0, none⟩ = some (.pointer (some ⟨b, 0, none⟩)) := by rw [Lib.cell_of_heap hb2]; rfl
 have d1 : w2.cell? ⟨b, 1, none⟩ = some v := by rw [Lib.cell_of_heap hb2]; rfl
 have f1 : w2.frozen? ⟨b, 1, none⟩ = false := fz hb2 1
 obtain ⟨ao, n', cap, rfl⟩ : ∃ ao n' cap, v' = .slice ao n' cap := by
  rcases hown'.2 with ⟨hv, _⟩ | ⟨g, cap, cur, fz, hv, _⟩
  ·exact ⟨_, _, _, hv⟩
  ·exact ⟨_, _, _, hv⟩
 have HL := oh hlies; have HO := oh hown'
 have HG := oh hgrow; clear hlies hown' hgrow; go_wp2
 go_ret2
 have hs2 : w1.heap.size ≤ w2.heap.size := HG.out.size
 have hset := heap_set (o := 1) (v := .slice ao n' cap) hb2
 have hg2 : w2.grownBy (w2.setCell ⟨b, 1, none⟩ (.slice ao n' cap)) (some b) := (Kp.refl w2 (some b)).set _
 have hnb : (Value.slice ao n' cap).ownBlock ≠ some b := fun e => by
  rcases HL.out b e with e | e
  ·exact hne e
  ·omega
 have e0 : bufOf b w1 = v.ownBlock := by unfold bufOf; rw [c1]
 have e1 : bufOf b (w2.setCell ⟨b, 1, none⟩ (.slice ao n' cap)) = (Value.slice ao n' cap).ownBlock := by unfold bufOf; rw [Lib.cell_of_heap hset]; rfl
 refine ⟨rfl, ⟨hB, _, hset, ?_, hnb⟩, HK1.out.trans ⟨HG.out.os, HG.out.tape, HG.out.output, by simpa using hs2, fun g hg hgb hn => ?_, fun g hg => ?_⟩⟩
 ·have := HO.out.kept hg2 (.inr hnb)
  rw [HCE.out, ← Lib.byteCells_append, HSZ.out, ← List.length_append] at this; exact this
 ·rw [hg2.block g (by omega) (fun e => hgb (by injection e)), HG.out.block g hg (fun e => hn (by rw [e0, e]))]
 ·rw [e1] at hg
  rcases HL.out g hg with e | e
  ·exact .inl (by rw [e0]; exact e)
  ·exact .inr e
theorem writeByte_any (B b : Nat) (l : List UInt8) (c : UInt8) (w : World) (h : Wr B b l w) (hlen : l.length + 1 ≤ 140737488355328) (hBw : B ≤ w.heap.size) :
  Calls Tryz.prog 99 #[.pointer (some ⟨b, 0, none⟩), .int .u8 c.toNat] w fun e w' => e = .returned .nilIface ∧ Wu B b (l ++ [c]) w' ∧ Kw b w w' := by
 obtain ⟨i0, hi, hz0, hz1, hz2⟩ := info_parts infoByte
 have HBC : Hid (Lib.byteCells l ++ [.int .u8 c.toNat] = Lib.byteCells (l ++ [c])) := oh (by rw [Lib.byteCells_append]; rfl)
 have H0 := oh h; clear h; go_enter Tryz.func99, Tryz.ntmps99
 go_wp2_with (go_at_call 157; refine (copyCheck_any B b l _ H0.out).mono ?_)
 rintro e w1 ⟨rfl, h1, hk1⟩; have HK1 := oh hk1; have hsz1 : B ≤ w1.heap.size := Nat.le_trans hBw hk1.size
 obtain ⟨hB, v, hbk, hown, hne⟩ := h1; clear hk1
 have c0 : w1.cell? ⟨b, 0, none⟩ = some (.pointer (some ⟨b, 0, none⟩)) := by rw [Lib.cell_of_heap hbk]; rfl
 have c1 : w1.cell? ⟨b, 1, none⟩ = some v := by rw [Lib.cell_of_heap hbk]; rfl
 go_wp2_with (at_builtin; go_must (refine wp_bytes_at rfl _ _ 100 rfl B 5 i0 (.int .u8 0) 1 Tryz.underlying100 hi hz0 hz1 hz2 rfl _ _ _ rfl (hown.alloc _) ⟨w1.heap.size, 0, none⟩ 1 1 [.int .u8 c.toNat] rfl rfl ?d1 ?d2 ?d3 ?d4 ?d5 ?_))
 case d1 =>
  intro j u hj
  match j, hj with
  | 0, hj => simp at hj; subst hj; simp [Addr.add]
 case d2 => intro u hu; simp at hu; subst hu; rfl
 case d3 => unfold maxLen; omega
 case d4 => omega
 case d5 => simp; omega
 intro v' w2 hown' hgrow hlies
 have hlt : b < w1.heap.size := lt_of_block hbk
 have hb2 : w2.heap[b]? = some (.cells #[.pointer (some ⟨b, 0, none⟩), v] 104 (0, 0)) := by
  rw [hgrow.block b (by simp; omega) (fun e => hne e.symm), Lib.alloc_old w1 _ b hlt]
  exact hbk
 have d0 : w2.cell? ⟨b, 0, none⟩ = some (.pointer (some ⟨b, 0, none⟩)) := by rw [Lib.cell_of_heap hb2]; rfl
 have d1 : w2.cell? ⟨b, 1, none⟩ = some v := by rw [Lib.cell_of_heap hb2]; rfl
 have f1 : w2.frozen? ⟨b, 1, none⟩ = false := fz hb2 1
 obtain ⟨ao, n', cap, rfl⟩ : ∃ ao n' cap, v' = .slice ao n' cap := by
  rcases hown'.2 with ⟨hv, _⟩ | ⟨g, cap, cur, fz, hv, _⟩
  ·exact ⟨_, _, _, hv⟩
  ·exact ⟨_, _, _, hv⟩
 have HL := oh hlies; have HO := oh hown'
 have HG := oh hgrow; clear hlies hown' hgrow; go_wp2
 go_ret
 have hs2 : w1.heap.size + 1 ≤ w2.heap.size := by have := HG.out.size; simpa using this
 have hset := heap_set (o := 1) (v := .slice ao n' cap) hb2
 have hg2 : w2.grownBy (w2.setCell ⟨b, 1, none⟩ (.slice ao n' cap)) (some b) := (Kp.refl w2 (some b)).set _
 have hnb : (Value.slice ao n' cap).ownBlock ≠ some b := fun e => by
  rcases HL.out b e with e | e
  ·exact hne e
  ·simp at e; omega
 have e0 : bufOf b w1 = v.ownBlock := by unfold bufOf; rw [c1]
 have e1 : bufOf b (w2.setCell ⟨b, 1, none⟩ (.slice ao n' cap)) = (Value.slice ao n' cap).ownBlock := by unfold bufOf; rw [Lib.cell_of_heap hset]; rfl
 refine ⟨rfl, ⟨hB, _, hset, ?_, hnb⟩, HK1.out.trans ⟨HG.out.os, HG.out.tape, HG.out.output, by simp; omega, fun g hg hgb hn => ?_, fun g hg => ?_⟩⟩
 ·have := HO.out.kept hg2 (.inr hnb)
  rw [HBC.out] at this; simpa using this
 ·rw [hg2.block g (by omega) (fun e => hgb (by injection e)), HG.out.block g (by simp; omega) (fun e => hn (by rw [e0, e])), Lib.alloc_old w1 _ g hg]
 ·rw [e1] at hg
  rcases HL.out g hg with e | e
  ·exact .inl (by rw [e0]; exact e)
  ·exact .inr (by simp at e; omega)
theorem len_any (B b : Nat) (l : List UInt8) (w : World) (h : Wr B b l w) :
  Calls Tryz.prog 49 #[.pointer (some ⟨b, 0, none⟩)] w fun e w' => e = .returned (I6 l.length) ∧ w' = w := by
 obtain ⟨hB, p, v, hp, hb, ho, hne⟩ := h
 have c1 : w.cell? ⟨b, 1, none⟩ = some v := by rw [Lib.cell_of_heap hb]; rfl
 obtain ⟨ao, cap, rfl⟩ : ∃ ao cap, v = .slice ao l.length cap := by
  rcases ho.2 with ⟨hv, h0⟩ | ⟨g, cap, cur, fz, hv, _⟩
  ·exact ⟨none, 0, by rw [hv, h0]⟩
  ·exact ⟨_, _, hv⟩
 clear hb ho hne hp; go_enter Tryz.func49, Tryz.ntmps49
 go_wp2
 go_ret
 exact ⟨rfl, rfl⟩
theorem string_any (B b : Nat) (l : List UInt8) (w : World) (h : Wr B b l w) (h0 : l ≠ []) :
  Calls Tryz.prog 50 #[.pointer (some ⟨b, 0, none⟩)] w fun e w' => e = .returned (.string ⟨l.toArray⟩) ∧ Below B w w' := by
 obtain ⟨hB, p, v, hp, hbk, hown, hne⟩ := h
 have hl0 : l.length ≠ 0 := by simpa using h0
 obtain ⟨g, cap, cur, fz, rfl, hbg, hg, hfz, hnc, hcm, hcs, htake⟩ : ∃ g cap cur fz, v = .slice (some ⟨g, 0, none⟩) l.length cap ∧ B ≤ g ∧ w.heap[g]? = some (.cells cur 5 fz) ∧ fz.2 ≤ l.length * 1 ∧ l.length ≤ cap ∧ cap ≤ maxLen ∧ cur.size = cap * 1 ∧ cur.toList.take (l.length * 1) = Lib.byteCells l := by
  rcases hown.2 with ⟨_, hz⟩ | ⟨g, cap, cur, fz, hv, r⟩
  ·exact absurd hz hl0
  ·exact ⟨g, cap, cur, fz, hv, r⟩
 have c1 : w.drew.cell? ⟨b, 1, none⟩ = some (.slice (some ⟨g, 0, none⟩) l.length cap) := by
  have : w.drew.heap[b]? = some (.cells #[p, .slice (some ⟨g, 0, none⟩) l.length cap] 104 (0, 0)) := hbk
  rw [Lib.cell_of_heap this]; rfl
 have hSD : (Builtin.unsafeSliceData_ #[100] 193 #[.slice (some ⟨g, 0, none⟩) l.length cap]).run Tryz.prog w.drew = .ok (.pointer (some ⟨g, 0, none⟩)) w.drew :=
  Lib.run_unsafeSliceData_row _ _ _ _ _ _ (by omega)
 have hUS : (Builtin.unsafeString_ #[193, 3] 9 #[.pointer (some ⟨g, 0, none⟩), I6 l.length]).run Tryz.prog w.drew = .ok (.string ⟨l.toArray⟩) (w.drew.freeze ⟨g, 0, none⟩ l.length) := by
  refine Lib.run_unsafeString_row w.drew 193 3 9 5 Tryz.underlying193 BldF.cellsByte g cur.size (by have hg' : w.drew.heap[g]? = some (.cells cur 5 fz) := hg; simp [World.shape?, hg']) l h0 (by omega) (by unfold maxLen at hcm; omega) ?_
  intro j x hx; have := hown.cells (g := g) rfl j (.int .u8 x.toNat) (by simp [Lib.byteCells, hx])
  exact this
 clear hown htake hp; have mixed : Tryz.prog.follows .mixedOrders = true := by kernel_rfl
 go_enter Tryz.func50, Tryz.ntmps50
 go_wp2
 go_region_o
 all_goals (go_wp2; go_ret; exact ⟨rfl, Lib.below_freeze (Below.drew (Below.refl B w)) (p := ⟨g, 0, none⟩) hbg _⟩)
inductive Part where
 | s (l : List UInt8)
 | n (k : Int)
def partV : Part → Value
 | .s l => .iface 9 (.string ⟨l.toArray⟩)
 | .n k => .iface 3 (I6 k)
def partT : Part → List UInt8
 | .s l => l
 | .n k => Lib.itoa k
def partOk : Part → Prop
 | .s _ => True
 | .n k => Mid k
theorem Env.kw {B b : Nat} {l : List UInt8} {w w' : World} (h : Wr B b l w) (k : Kw b w w') (hB : 8 ≤ B) (he : Env w) : Env w' :=
 he.keep k.size fun i hi => k.keep i (Nat.lt_of_lt_of_le hi he.big) (fun e => by have := h.base; omega) (fun e => by have := (h.buf e).1; omega)
theorem parts_take (ps : List Part) (k : Nat) (h : k < ps.length) : (ps.take (k + 1)).flatMap partT = (ps.take k).flatMap partT ++ partT ps[k] := by
 rw [List.take_succ_eq_append_getElem h, List.flatMap_append]; simp
theorem parts_le (ps : List Part) (k : Nat) (h : k < ps.length) : ((ps.take k).flatMap partT).length + (partT ps[k]).length ≤ (ps.flatMap partT).length := by
 have := congrArg List.length (congrArg (List.flatMap partT) (List.take_append_drop (k + 1) ps))
 rw [List.flatMap_append, parts_take ps k h, List.length_append, List.length_append] at this; omega
def LnRel (B b : Nat) (l : List UInt8) (ps : List Part) (w : World) (i : Value) (wr : World) : Prop :=
 ∃ k : Nat, k ≤ ps.length ∧ i = I6 k ∧ Wr B b (l ++ (ps.take k).flatMap partT) wr ∧ Kw b w wr
theorem ta_ss (s : ByteArray) (w : World) : (Instr.typeAssert (.iface 9 (.string s)) 20 9 true).run Tryz.prog w = .ok (.tuple #[.string s, .bool true]) w := by rfl
theorem ta_ns (k : Int) (w : World) : (Instr.typeAssert (.iface 3 (I6 k)) 20 9 true).run Tryz.prog w = .ok (.tuple #[.string ⟨#[]⟩, .bool false]) w := by rfl
theorem ta_nn (k : Int) (w : World) : (Instr.typeAssert (.iface 3 (I6 k)) 20 3 true).run Tryz.prog w = .ok (.tuple #[I6 k, .bool true]) w := by rfl
theorem wline_any (B b : Nat) (l : List UInt8) (ps : List Part) (N : Nat) (w : World) (he : Env w) (h : Wr B b l w) (hB8 : 8 ≤ B) (hN : w.heap[N]? = some (.cells (ps.map partV).toArray 20 (0, 0))) (ho : Off b w N) (hn : ps.length ≤ 1000) (hok : ∀ p ∈ ps, partOk p)
  (hlen : l.length + (ps.flatMap partT).length + 1 ≤ 140737488355328) (hBw : B ≤ w.heap.size) :
  Calls Tryz.prog 45 #[.pointer (some ⟨b, 0, none⟩), .slice (some ⟨N, 0, none⟩) ps.length ps.length] w fun e w' => e = .returned (.tuple #[]) ∧ Wr B b (l ++ Dl.ln (ps.flatMap partT)) w' ∧ Kw b w w' := by
 have HENV : Hid (∀ V, Kw b w V → Env V) := oh fun V k => he.kw h k hB8
 have H0 := oh h; have HN := oh hN; have HO := oh ho; have HLEN := oh hlen; have HOK := oh hok; clear h hN ho hlen hok he; have hn0 : (0 : Int) ≤ (ps.length : Int) := Int.natCast_nonneg _
 have HA := oh @ta_ss
 have HB2 := oh @ta_ns
 have HC := oh @ta_nn
 go_enter Tryz.func45, Tryz.ntmps45
 go_wp2_with fail
 go_loopw [10] (fun i wr => LnRel B b l ps w i wr) (fun i _ => ps.length - (intOf i).toNat)
 case atStart => exact ⟨0, Nat.zero_le _, rfl, by simpa using H0.out, Kw.refl _ _⟩
 case round =>
  obtain ⟨k, hk, rfl, hW, hK⟩ := hrel; have HW := oh hW; have HK := oh hK
  have hBr : B ≤ wr.heap.size := Nat.le_trans hBw hK.size
  clear hW hK; have hk0 := nn k
  by_cases hlt : k < ps.length
  ·have hk1 : (k : Int) < (ps.length : Int) := by omega
   obtain ⟨p, hp⟩ : ∃ p, ps[k] = p := ⟨_, rfl⟩
   have c0 : wr.cell? ⟨N, k, none⟩ = some (partV p) := by
    rw [Lib.cell_of_heap ((HO.out.same HK.out).trans HN.out), ← hp]; simp [hlt]
   have hb1 : (l ++ (ps.take k).flatMap partT).length + (partT p).length ≤ 140737488355328 := by
    have h1 := parts_le ps k hlt
    have h2 := HLEN.out; rw [hp] at h1; rw [List.length_append]; omega
   have hpo := HOK.out p (by rw [← hp]; exact List.getElem_mem hlt)
   have HREL : Hid (∀ V, Wu B b ((l ++ (ps.take k).flatMap partT) ++ partT p) V → Kw b wr V → LnRel B b l ps w (I6 (k + 1)) V) := oh fun V h1 h2 => ⟨k + 1, hlt, by go_num, by rw [parts_take ps k hlt, ← List.append_assoc, hp]; exact h1.wr, HK.out.trans h2⟩
   obtain ⟨lk, hlk⟩ : ∃ lk, l ++ (ps.take k).flatMap partT = lk := ⟨_, rfl⟩
   rw [hlk] at HREL HW hb1; have HB1 := oh hb1; clear hp hb1 hlk
   cases p with
   | s x =>
    have c1 : wr.cell? ⟨N, k, none⟩ = some (.iface 9 (.string ⟨x.toArray⟩)) := c0
    have ha := HA.out; clear c0 hpo; go_wp2_with (go_at_call 97; refine (writeString_any B b _ x _ HW.out HB1.out hBr).mono ?_; rintro e w1 ⟨rfl, h1, k1⟩; have H1 := oh h1; have K1 := oh k1; clear h1 k1)
    first | exact ⟨HREL.out _ H1.out K1.out, by simp [intOf]; omega⟩ | (go_roundw; all_goals first | exact HREL.out _ H1.out K1.out | (simp [intOf]; omega))
   | n x =>
    have c1 : wr.cell? ⟨N, k, none⟩ = some (.iface 3 (I6 x)) := c0
    have hm : Mid x := hpo
    have HM := oh hm; have hb := HB2.out; have hc := HC.out; clear c0 hpo hm; go_wp2_with fail
    refine wp_region_held_drew (S := fun _ => True) (by kernel_rfl) trivial (fun eh => ?_)
    have G0 : Hid (Kp wr wr.drew none) := oh (Kp.refl _ _).drew
    refine tjH 0 rfl ?_; refine tjH 1 rfl ?_; refine tjH 2 rfl ?_; refine tjH 3 rfl ?_; refine rdH 4 rfl (fun K hK => ?_); clear eh; go_simp
    refine (itoa_any x _ (HENV.out _ (HK.out.trans (Kw.of_kp G0.out HW.out.lt))) HM.out).mono ?_
    rintro e w1 ⟨rfl, kk⟩; try go_wp2_with fail
    have G1 := oh (G0.out.trans kk)
    refine hK.out _ _ trivial (fun eh => ?_)
    clear hK K kk G0; try simp only [Act.put, sm]
    refine rdH 5 rfl (fun K hK => ?_); clear eh; go_simp; refine (writeString_any B b _ (Lib.itoa x) _ (HW.out.kp G1.out) HB1.out (Nat.le_trans hBr G1.out.size)).mono ?_
    rintro e w2 ⟨rfl, h1, k1⟩; have H1 := oh h1; have K1 := oh ((Kw.of_kp G1.out HW.out.lt).trans k1)
    clear h1 k1; try go_wp2_with fail
    refine hK.out _ _ trivial (fun _ => ?_)
    clear hK K; refine wpAnyH_done (by kernel_rfl) ?_ _
    go_wp2_with fail
    first | exact ⟨HREL.out _ H1.out K1.out, by simp [intOf]; omega⟩ | (go_roundw; all_goals first | exact HREL.out _ H1.out K1.out | (simp [intOf]; omega))
  ·have hk1 : ¬ (k : Int) < (ps.length : Int) := by omega
   have hkn : k = ps.length := by omega
   have HW2 : Hid (Wr B b (l ++ ps.flatMap partT) wr) := oh (by have := HW.out; rw [hkn, List.take_length] at this; exact this)
   have HB3 : Hid ((l ++ ps.flatMap partT).length + 1 ≤ 140737488355328) := oh (by have := HLEN.out; rw [List.length_append]; exact this)
   clear HW; go_wp2_with (go_at_call 99; refine (writeByte_any B b _ 10 _ HW2.out HB3.out hBr).mono ?_; rintro e w1 ⟨rfl, h1, k1⟩; have H1 := oh h1; have K1 := oh k1; clear h1 k1)
   go_end0
   exact ⟨rfl, by unfold Dl.ln; rw [← List.append_assoc]; exact H1.out.wr, HK.out.trans K1.out⟩
theorem wline_at {B b : Nat} {l : List UInt8} {X : World} (he : Env X) (h : Wr B b l X) (hB8 : 8 ≤ B) (ps : List Part) (N n : Nat) (cs : Array Value) (hNe : N = X.heap.size) (hcs : cs = (ps.map partV).toArray) (hn : n = ps.length) (hn2 : ps.length ≤ 1000) (hok : ∀ p ∈ ps, partOk p) (out : List UInt8) (hout : out = Dl.ln (ps.flatMap partT))
  (hlen : l.length + out.length ≤ 140737488355328) (hBw : B ≤ X.heap.size) :
  Calls Tryz.prog 45 #[.pointer (some ⟨b, 0, none⟩), .slice (some ⟨N, 0, none⟩) n n] (X.alloc (.cells cs 20)) fun e w' => e = .returned (.tuple #[]) ∧ Wr B b (l ++ out) w' ∧ Kw b X w' := by
 subst hNe hcs hn hout
 have hk : Kp X (X.alloc (.cells (ps.map partV).toArray 20)) none := (Kp.refl X none).alloc _
 refine (wline_any B b l ps X.heap.size _ (he.kp0 hk) (h.kp hk) hB8 (heap_alloc_new X _) (Off.new h _) hn2 hok (by unfold Dl.ln at hlen; simp only [ll] at hlen; omega) (by simp; omega)).mono ?_
 rintro e w' ⟨he, h1, k1⟩; exact ⟨he, h1, (Kw.of_kp hk h.lt).trans k1⟩
end Go.Proofs.YtljjbdbgedmadaaGreatDoor
