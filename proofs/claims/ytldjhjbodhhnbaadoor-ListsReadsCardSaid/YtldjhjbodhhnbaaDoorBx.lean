/- strings.Builder beside a row of bytes that the call itself has made: what a write leaves of that row. Conditions: what a builder is given takes at most 2^47 bytes. -/
import Derived.Test.YtldjhjbodhhnbaaDoorWk
namespace Go.Proofs.YtldjhjbodhhnbaaDoor
open Go.RowKit Go.Lib

/-- Where the row lies behind an append: nowhere, where it lay, or in a new block. -/
def LiesAt (w : World) (v v' : Value) : Prop := ∀ g, v'.ownBlock = some g → v.ownBlock = some g ∨ w.heap.size ≤ g

section
variable {P : Program} {w : World}
theorem lies_bytes (base : Nat) (t ty e : TypeId) (i : TypeInfo) (z : Value) (bytes : Nat) (ht : P.underlying t = some (.slice e)) (hi : P.info? e = some i) (hz : i.zero = some z)
    (hsize : i.size = 1) (hby : i.bytes = bytes) (hzs : z.cells.size = 1)
    (v : Value) (n : Nat) (xs : List Value) (hown : w.ownsRowF base e 1 v n xs)
    (a : Addr) (m c : Nat) (news : List Value) (hl : news.length = m * 1) (hnews : ∀ j u, news[j]? = some u → w.cell? (a.add j) = some u) (h1 : ∀ u ∈ news, u.oneCell' = true)
    (h63 : n + m ≤ maxLen) (hbytes : (n + m) * bytes ≤ 140737488355328) (v' : Value) (w' : World) (hr : (Builtin.append_ #[t, t] ty #[v, .slice (some a) m c]).run P w = .ok v' w') : LiesAt w v v' := by
  intro g hg'
  rcases hown.2 with ⟨rfl, rfl⟩ | ⟨g0, cap, cur, fz, rfl, hbg, hg, hfz, hnc, hcm, hcs, htake⟩
  · obtain ⟨u, w2, r1, r2, _⟩ := run_append_own (P := P) w w.heap.size t ty e i z 1 bytes ht hi hz hsize hby hzs (by decide) (.slice none 0 0) 0 xs ⟨hown.1, .inl ⟨rfl, rfl⟩⟩ a m c news hl hnews h1 h63 hbytes (Nat.le_refl _)
    rw [hr] at r1
    injection r1 with e1 e2
    subst e1
    exact .inr (r2.lt g hg').1
  · by_cases hroom : n + m ≤ cap
    · have r1 := run_append_roomF (P := P) w t ty e i ht hi g0 n cap cur fz hg (by rw [hsize]; exact hfz) a m c news (by rw [hsize]; exact hl) hnews h1 hroom (by rw [hsize]; omega)
      rw [hr] at r1
      injection r1 with e1 e2
      subst e1
      exact .inl hg'
    · have holds : ∀ j u, xs[j]? = some u → w.cell? ((⟨g0, 0, none⟩ : Addr).add j) = some u := hown.cells (g := g0) rfl
      have r1 := run_append_grow (P := P) w t ty e i z ht hi hz ⟨g0, 0, none⟩ n cap xs (by rw [hsize]; exact hown.1) holds a m c news (by rw [hsize]; exact hl) hnews (by omega) (by simp only [maxLen] at h63; omega) (by rw [hby]; exact growslice_fits (by omega) hbytes)
      rw [hr] at r1
      injection r1 with e1 e2
      subst e1
      simp [Value.ownBlock] at hg'
      exact .inr (by omega)
theorem lies_string (base : Nat) (t u ty e : TypeId) (i : TypeInfo) (ht : P.underlying t = some (.slice e)) (hu : P.underlying u = some .string) (hi : P.info? e = some i) (hz : i.zero = some (.int .u8 0))
    (hsize : i.size = 1) (hby : i.bytes = 1)
    (v : Value) (n : Nat) (xs : List Value) (hown : w.ownsRowF base e 1 v n xs) (s : ByteArray)
    (h63 : n + s.size ≤ maxLen) (hbytes : n + s.size ≤ 140737488355328) (v' : Value) (w' : World) (hr : (Builtin.append_ #[t, u] ty #[v, .string s]).run P w = .ok v' w') : LiesAt w v v' := by
  intro g hg'
  rcases hown.2 with ⟨rfl, rfl⟩ | ⟨g0, cap, cur, fz, rfl, hbg, hg, hfz, hnc, hcm, hcs, htake⟩
  · obtain ⟨v2, w2, r1, r2, _⟩ := run_append_own_string (P := P) w w.heap.size t u ty e i ht hu hi hz hsize hby (.slice none 0 0) 0 xs ⟨hown.1, .inl ⟨rfl, rfl⟩⟩ s h63 hbytes (Nat.le_refl _)
    rw [hr] at r1
    injection r1 with e1 e2
    subst e1
    exact .inr (r2.lt g hg').1
  · by_cases hroom : n + s.size ≤ cap
    · have r1 := run_append_room_stringF (P := P) w t u ty e i ht hu hi hsize g0 n cap cur fz hg (by simpa using hfz) s hroom (by simp at hcs; omega)
      rw [hr] at r1
      injection r1 with e1 e2
      subst e1
      exact .inl hg'
    · have holds : ∀ j x, xs[j]? = some x → w.cell? ((⟨g0, 0, none⟩ : Addr).add j) = some x := hown.cells (g := g0) rfl
      have r1 := run_append_grow_string (P := P) w t u ty e i (.int .u8 0) ht hu hi hz ⟨g0, 0, none⟩ n cap xs (by rw [hsize]; exact hown.1) holds s (by omega) (by simp only [maxLen] at h63; omega) (by rw [hby]; exact growslice_fits (by omega) (by omega))
      rw [hr] at r1
      injection r1 with e1 e2
      subst e1
      simp [Value.ownBlock] at hg'
      exact .inr (by omega)
theorem wp_bytes_at {ops : Array Oper} {rest : List Oper} {o : Oper} {a : Act} {Q : Exit → Act → World → Prop} (hgd : o.guard = none) (s x : Operand) (t : TypeId)
    (ho : o.op = .call { callee := .builtin .append, args := #[s, x], argTypes := #[t, t] })
    (base : Nat) (e : TypeId) (i : TypeInfo) (z : Value) (bytes : Nat) (ht : P.underlying t = some (.slice e)) (hi : P.info? e = some i) (hz : i.zero = some z)
    (hsize : i.size = 1) (hby : i.bytes = bytes) (hzs : z.cells.size = 1)
    (v : Value) (n : Nat) (xs : List Value) (hs : a.eval s = v) (hown : w.ownsRowF base e 1 v n xs)
    (ad : Addr) (m c : Nat) (news : List Value) (hx : a.eval x = .slice (some ad) m c) (hl : news.length = m * 1) (hnews : ∀ j u, news[j]? = some u → w.cell? (ad.add j) = some u) (h1 : ∀ u ∈ news, u.oneCell' = true)
    (h63 : n + m ≤ maxLen) (hbytes : (n + m) * bytes ≤ 140737488355328) (hbase : base ≤ w.heap.size)
    (h : ∀ v' w', w'.ownsRowF base e 1 v' (n + m) (xs ++ news) → w.grownBy w' v.ownBlock → LiesAt w v v' → wpList P ops Q rest (a.put o.dst v') w') : wpList P ops Q (o :: rest) a w := by
  refine wpList_plain hgd fun K hK => ?_
  obtain ⟨v', w', hr, h2, h3, _⟩ := run_append_ownF (P := P) w base t o.type e i z 1 bytes ht hi hz hsize hby hzs (by decide) v n xs hown ad m c news hl hnews h1 h63 hbytes hbase
  have h4 := lies_bytes base t o.type e i z bytes ht hi hz hsize hby hzs v n xs hown ad m c news hl hnews h1 h63 hbytes v' w' hr
  unfold Oper.wp execOp
  simp only [ho, resolve, invoke, builtin, Sem.run_bind, Sem.run_pure, Result.andThen_ok, List.map_toArray, List.map_cons, List.map_nil, hs, hx, hr]
  exact hK _ _ (h v' w' h2 h3 h4)
theorem wp_string_at {ops : Array Oper} {rest : List Oper} {o : Oper} {a : Act} {Q : Exit → Act → World → Prop} (hgd : o.guard = none) (sl x : Operand) (t u : TypeId)
    (ho : o.op = .call { callee := .builtin .append, args := #[sl, x], argTypes := #[t, u] })
    (base : Nat) (e : TypeId) (i : TypeInfo) (ht : P.underlying t = some (.slice e)) (hu : P.underlying u = some .string) (hi : P.info? e = some i) (hz : i.zero = some (.int .u8 0))
    (hsize : i.size = 1) (hby : i.bytes = 1)
    (v : Value) (n : Nat) (xs : List Value) (hs : a.eval sl = v) (hown : w.ownsRowF base e 1 v n xs) (s : ByteArray) (hx : a.eval x = .string s)
    (h63 : n + s.size ≤ maxLen) (hbytes : n + s.size ≤ 140737488355328) (hbase : base ≤ w.heap.size)
    (h : ∀ v' w', w'.ownsRowF base e 1 v' (n + s.size) (xs ++ strCells s) → w.grownBy w' v.ownBlock → LiesAt w v v' → wpList P ops Q rest (a.put o.dst v') w') : wpList P ops Q (o :: rest) a w := by
  refine wpList_plain hgd fun K hK => ?_
  obtain ⟨v', w', hr, h2, h3, _⟩ := run_append_own_stringF (P := P) w base t u o.type e i ht hu hi hz hsize hby v n xs hown s h63 hbytes hbase
  have h4 := lies_string base t u o.type e i ht hu hi hz hsize hby v n xs hown s h63 hbytes v' w' hr
  unfold Oper.wp execOp
  simp only [ho, resolve, invoke, builtin, Sem.run_bind, Sem.run_pure, Result.andThen_ok, List.map_toArray, List.map_cons, List.map_nil, hs, hx, hr]
  exact hK _ _ (h v' w' h2 h3 h4)
end

/-- A builder whose bytes lie in none of the blocks X. -/
def BldX (X : Nat → Prop) (B b : Nat) (bs : List Value) (w : World) : Prop :=
  B ≤ b ∧ ∃ v, w.heap[b]? = some (.cells #[.pointer (some ⟨b, 0, none⟩), v] 71 (0, 0)) ∧ w.ownsRowF B 5 1 v bs.length bs ∧ v.ownBlock ≠ some b ∧ ∀ g, X g → v.ownBlock ≠ some g ∧ g ≠ b ∧ g < w.heap.size
theorem BldX.is {X : Nat → Prop} {B b : Nat} {bs : List Value} {w : World} (h : BldX X B b bs w) : Lib.IsBuilderF 71 5 B b bs w := by
  obtain ⟨hB, v, hb, ho, hne, _⟩ := h
  exact .inr ⟨hB, v, hb, ho, hne⟩
theorem BldX.of {X : Nat → Prop} {B b : Nat} {bs : List Value} {w : World} (h : Lib.BuilderAtF 71 5 B b (.pointer (some ⟨b, 0, none⟩)) bs w) {w' : World} (k : Kp w w' none) (hX : ∀ g, X g → w.heap.size ≤ g ∧ g < w'.heap.size) : BldX X B b bs w' := by
  obtain ⟨hB, v, hb, ho, hne⟩ := h
  have hlt := lt_of_block hb
  refine ⟨hB, v, (k.block b hlt (by simp)).trans hb, ho.kept k (by cases hv : v.ownBlock <;> simp), hne, fun g hg => ⟨fun e => ?_, ?_, (hX g hg).2⟩⟩
  · have := (ho.lt g e).2; have := (hX g hg).1; omega
  · have := (hX g hg).1; omega
def KeptX (X : Nat → Prop) (w w' : World) : Prop := ∀ g, X g → w'.heap[g]? = w.heap[g]?

set_option maxHeartbeats 2000000 in
set_option maxRecDepth 100000 in
theorem writeByte_x (X : Nat → Prop) (B b : Nat) (bs : List Value) (c : Int) (w : World) (h : BldX X B b bs w) (hlen : bs.length + 1 ≤ 140737488355328) (hBw : B ≤ w.heap.size) :
    Calls Tryd.prog 36 #[.pointer (some ⟨b, 0, none⟩), .int .u8 c] w fun e w' => e = .returned .nilIface ∧ (BldX X B b (bs ++ [.int .u8 c]) w' ∧ Below B w w' ∧ KeptX X w w') := by
  obtain ⟨i0, hi, hz0, hz1, hz2⟩ := info_parts infoByte
  obtain ⟨hB, v, hbk, hown, hne, hX0⟩ := h
  have HX := Lib.hid hX0
  have c0 : w.cell? ⟨b, 0, none⟩ = some (.pointer (some ⟨b, 0, none⟩)) := by rw [Lib.cell_of_heap hbk]; rfl
  have c1 : w.cell? ⟨b, 1, none⟩ = some v := by rw [Lib.cell_of_heap hbk]; rfl
  clear hX0
  go_enter Tryd.func36, Tryd.ntmps36
  go_wp2_with (go_at_call 46; refine (copyCheck_used b _ c0).mono ?_)
  rintro e w1 ⟨rfl, hw1⟩
  obtain rfl : w = w1 := hw1.symm
  go_wp2_with (at_builtin; go_must (refine wp_bytes_at rfl _ _ 34 rfl B 5 i0 (.int .u8 0) 1 Tryd.underlying34 hi hz0 hz1 hz2 rfl _ _ _ rfl (hown.alloc _) ⟨w.heap.size, 0, none⟩ 1 1 [.int .u8 c] rfl rfl ?c1 ?c2 ?c3 ?c4 ?c5 ?_))
  case c1 =>
    intro j u hj
    match j, hj with
    | 0, hj => simp at hj; subst hj; simp [Addr.add]
  case c2 => intro u hu; simp at hu; subst hu; rfl
  case c3 => unfold maxLen; omega
  case c4 => omega
  case c5 => simp; omega
  intro v' w2 hown' hgrow hlies
  have hlt : b < w.heap.size := lt_of_block hbk
  have hb2 : w2.heap[b]? = some (.cells #[.pointer (some ⟨b, 0, none⟩), v] 71 (0, 0)) := by
    rw [hgrow.block b (by simp; omega) (fun e => hne e.symm), Lib.alloc_old w _ b hlt]
    exact hbk
  have d0 : w2.cell? ⟨b, 0, none⟩ = some (.pointer (some ⟨b, 0, none⟩)) := by rw [Lib.cell_of_heap hb2]; rfl
  have d1 : w2.cell? ⟨b, 1, none⟩ = some v := by rw [Lib.cell_of_heap hb2]; rfl
  have f1 : w2.frozen? ⟨b, 1, none⟩ = false := Lib.frozen_of_heap hb2 1
  obtain ⟨g, cap, rfl⟩ : ∃ g cap, v' = .slice (some ⟨g, 0, none⟩) (bs.length + 1) cap := by
    rcases hown'.2 with ⟨_, h0⟩ | ⟨g, cap, cur, fz, hv, _⟩
    · omega
    · exact ⟨g, cap, hv⟩
  have HL := Lib.hid hlies
  have HO := Lib.hid hown'
  have HG := Lib.hid hgrow
  have HOLD := Lib.hid hown
  clear hlies hown' hgrow hown
  go_wp2
  go_ret
  have hs2 : w.heap.size + 1 ≤ w2.heap.size := by have := HG.out.size; simpa using this
  have hat := Lib.BuilderAtF.put (T := 71) (e := 5) hB hb2 (bs' := bs ++ [.int .u8 c]) (by simpa using HO.out) (by decide)
  refine ⟨rfl, ?_, ?_, fun k hk => ?_⟩
  · obtain ⟨_, v2, hb3, ho3, hne3⟩ := hat
    have hv2 : v2 = .slice (some ⟨g, 0, none⟩) (bs.length + 1) cap := by
      have := heap_set (o := 1) (v := .slice (some ⟨g, 0, none⟩) (bs.length + 1) cap) hb2
      rw [hb3] at this
      simpa using this
    refine ⟨hB, v2, hb3, ho3, hne3, fun k hk => ⟨fun e => ?_, (HX.out k hk).2.1, by have := (HX.out k hk).2.2; simp [World.setCell]; omega⟩⟩
    rw [hv2] at e
    rcases HL.out k e with e | e
    · exact (HX.out k hk).1 e
    · have := (HX.out k hk).2.2; simp at e; omega
  · exact (((Below.refl B w).alloc hBw _).grown HG.out (by simp; omega) (fun k hk => (HOLD.out.lt k hk).1)).setCell (p := ⟨b, 1, none⟩) hB _
  · have h1 := (HX.out k hk).2.2
    rw [Below.heap_setCell _ _ _ _ (fun e => (HX.out k hk).2.1 e), HG.out.block k (by simp; omega) (fun e => (HX.out k hk).1 e.symm), Lib.alloc_old w _ k h1]

set_option maxHeartbeats 2000000 in
set_option maxRecDepth 100000 in
theorem writeString_x (X : Nat → Prop) (B b : Nat) (bs : List Value) (s : ByteArray) (w : World) (h : BldX X B b bs w) (hlen : bs.length + s.size ≤ 140737488355328) (hBw : B ≤ w.heap.size) :
    Calls Tryd.prog 35 #[.pointer (some ⟨b, 0, none⟩), .string s] w fun e w' => e = .returned (.tuple #[.int .i64 s.size, .nilIface]) ∧ (BldX X B b (bs ++ Lib.strCells s) w' ∧ Below B w w' ∧ KeptX X w w') := by
  obtain ⟨i0, hi, hz0, hz1, hz2⟩ := info_parts infoByte
  obtain ⟨hB, v, hbk, hown, hne, hX0⟩ := h
  have HX := Lib.hid hX0
  have c0 : w.cell? ⟨b, 0, none⟩ = some (.pointer (some ⟨b, 0, none⟩)) := by rw [Lib.cell_of_heap hbk]; rfl
  have c1 : w.cell? ⟨b, 1, none⟩ = some v := by rw [Lib.cell_of_heap hbk]; rfl
  clear hX0
  go_enter Tryd.func35, Tryd.ntmps35
  go_wp2_with (go_at_call 46; refine (copyCheck_used b _ c0).mono ?_)
  rintro e w1 ⟨rfl, hw1⟩
  obtain rfl : w = w1 := hw1.symm
  go_wp2_with (at_builtin; go_must (refine wp_string_at rfl _ _ 34 9 rfl B 5 i0 Tryd.underlying34 Tryd.underlying9 hi hz0 hz1 hz2 _ _ _ rfl hown s rfl ?c3 ?c4 ?c5 ?_))
  case c3 => unfold maxLen; omega
  case c4 => omega
  case c5 => omega
  intro v' w2 hown' hgrow hlies
  have hlt : b < w.heap.size := lt_of_block hbk
  have hb2 : w2.heap[b]? = some (.cells #[.pointer (some ⟨b, 0, none⟩), v] 71 (0, 0)) := by
    rw [hgrow.block b hlt (fun e => hne e.symm)]
    exact hbk
  have d0 : w2.cell? ⟨b, 0, none⟩ = some (.pointer (some ⟨b, 0, none⟩)) := by rw [Lib.cell_of_heap hb2]; rfl
  have d1 : w2.cell? ⟨b, 1, none⟩ = some v := by rw [Lib.cell_of_heap hb2]; rfl
  have f1 : w2.frozen? ⟨b, 1, none⟩ = false := Lib.frozen_of_heap hb2 1
  obtain ⟨ao, n', cap, rfl⟩ : ∃ ao n' cap, v' = .slice ao n' cap := by
    rcases hown'.2 with ⟨hv, _⟩ | ⟨g, cap, cur, fz, hv, _⟩
    · exact ⟨_, _, _, hv⟩
    · exact ⟨_, _, _, hv⟩
  have HL := Lib.hid hlies
  have HO := Lib.hid hown'
  have HG := Lib.hid hgrow
  have HOLD := Lib.hid hown
  clear hlies hown' hgrow hown
  go_wp2
  go_ret2
  have hs2 : w.heap.size ≤ w2.heap.size := HG.out.size
  have hat := Lib.BuilderAtF.put (T := 71) (e := 5) hB hb2 (bs' := bs ++ Lib.strCells s) (by simpa [Lib.strCells_length] using HO.out) (by decide)
  refine ⟨rfl, ?_, ?_, fun k hk => ?_⟩
  · obtain ⟨_, v2, hb3, ho3, hne3⟩ := hat
    have hv2 : v2 = .slice ao n' cap := by
      have := heap_set (o := 1) (v := .slice ao n' cap) hb2
      rw [hb3] at this
      simpa using this
    refine ⟨hB, v2, hb3, ho3, hne3, fun k hk => ⟨fun e => ?_, (HX.out k hk).2.1, by have := (HX.out k hk).2.2; simp [World.setCell]; omega⟩⟩
    rw [hv2] at e
    rcases HL.out k e with e | e
    · exact (HX.out k hk).1 e
    · have := (HX.out k hk).2.2; omega
  · exact ((Below.refl B w).grown HG.out hBw (fun k hk => (HOLD.out.lt k hk).1)).setCell (p := ⟨b, 1, none⟩) hB _
  · have h1 := (HX.out k hk).2.2
    rw [Below.heap_setCell _ _ _ _ (fun e => (HX.out k hk).2.1 e), HG.out.block k h1 (fun e => (HX.out k hk).1 e.symm)]
end Go.Proofs.YtldjhjbodhhnbaaDoor
