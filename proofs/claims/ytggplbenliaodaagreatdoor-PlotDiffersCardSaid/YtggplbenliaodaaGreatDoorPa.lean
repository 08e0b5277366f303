/- Paths that numbers choose (pathOf). Condition: a beginning of at most 200. -/
import Derived.Test.YtggplbenliaodaaGreatDoorRo
import Derived.Deep.CutBlock
import Derived.Deep.CutRange
namespace Go.Proofs.YtggplbenliaodaaGreatDoor
open Go.RowKit

/-- A shape that numbers choose. -/
def DrewSh (D : Nat) (ao : Option Addr) (n cap : Nat) (w : World) (E : Ending) (w' : World) : Prop := ∃ (s : Pl.Sh) (ea : Option Addr) (ec : Nat), Pl.Fine s ∧ E = .returned (.agg #[.int .i64 s.k, .slice ea s.es.length ec, .int .i64 s.r]) ∧ LiesAt 7 edC w' ea ec s.es ∧ (∀ p, ea = some p → w.heap.size ≤ p.block) ∧ DrawAt D ao n cap w' ∧ Kp w w' (some D)
theorem DrawAt.far {D p : Nat} {ao : Option Addr} {n cap : Nat} {w w' : World} (h : DrawAt D ao n cap w) (k : Kp w w' (some p)) (hp : D ≠ p) : DrawAt D ao n cap w' := by
  obtain ⟨a, hb, ha⟩ := h
  exact ⟨a, (k.block D (lt_of_block hb) (by simpa using hp)).trans hb, ha⟩
theorem Bs.keepFar {A N p : Nat} {kind r : Int} {es : List Pl.Ed} {u : Value} {w w' : World} (h : Bs A N kind es r u w) (k : Kp w w' (some p)) (hp : A ≠ p) (hu : ∀ q, u.ownBlock = some q → q ≠ p) : Bs A N kind es r u w' :=
  ⟨(k.block A h.lt (by simpa using hp)).trans h.1, ⟨h.2.1.1, Nat.le_trans h.2.1.2 k.size⟩, h.2.2.kept k (by
    cases e : u.ownBlock with
    | none => exact .inl rfl
    | some b => exact .inr (fun e2 => hu b e (Option.some.inj e2)))⟩
theorem store7 {w : World} {p : Nat} {a0 a1 a2 a3 a4 a5 a6 : Value} (h : w.heap[p]? = some (.cells #[a0, a1, a2, a3, a4, a5, a6] 39 (0, 0))) (b0 b1 b2 b3 b4 b5 b6 : Value) :
    (((((((w.setCell ⟨p, 0, none⟩ b0).setCell ⟨p, 1, none⟩ b1).setCell ⟨p, 2, none⟩ b2).setCell ⟨p, 3, none⟩ b3).setCell ⟨p, 4, none⟩ b4).setCell ⟨p, 5, none⟩ b5).setCell ⟨p, 6, none⟩ b6).heap[p]? = some (.cells #[b0, b1, b2, b3, b4, b5, b6] 39 (0, 0)) ∧
    Kp w (((((((w.setCell ⟨p, 0, none⟩ b0).setCell ⟨p, 1, none⟩ b1).setCell ⟨p, 2, none⟩ b2).setCell ⟨p, 3, none⟩ b3).setCell ⟨p, 4, none⟩ b4).setCell ⟨p, 5, none⟩ b5).setCell ⟨p, 6, none⟩ b6) (some p) := by
  have h1 := heap_set (o := 6) (v := b6) (heap_set (o := 5) (v := b5) (heap_set (o := 4) (v := b4) (heap_set (o := 3) (v := b3) (heap_set (o := 2) (v := b2) (heap_set (o := 1) (v := b1) (heap_set (o := 0) (v := b0) h))))))
  exact ⟨by simpa using h1, (((((((Kp.refl w (some p)).set _).set _).set _).set _).set _).set _).set _⟩
theorem store2 {w : World} {p : Nat} {a0 a1 : Value} (h : w.heap[p]? = some (.cells #[a0, a1] 37 (0, 0))) (b0 b1 : Value) : ((w.setCell ⟨p, 0, none⟩ b0).setCell ⟨p, 1, none⟩ b1).heap[p]? = some (.cells #[b0, b1] 37 (0, 0)) ∧ Kp w ((w.setCell ⟨p, 0, none⟩ b0).setCell ⟨p, 1, none⟩ b1) (some p) := by
  have h1 := heap_set (o := 1) (v := b1) (heap_set (o := 0) (v := b0) h)
  exact ⟨by simpa using h1, ((Kp.refl w (some p)).set _).set _⟩
/-- A list appended to what the call owns, in a region that draws nothing. -/
theorem wpList_app {α : Type} {f : α → List Value} {w : World} {ops : Array Oper} {rest : List Oper} {o : Oper} {a : Act} {Q : Exit → Act → World → Prop} (hgd : o.guard = none) (s xo : Operand) (base : Nat) (t e : TypeId)
    (ho : o.op = .call { callee := .builtin .append, args := #[s, xo], argTypes := #[t, t] }) (i : TypeInfo) (z : Value) (size bytes : Nat) (ht : Tryz.prog.underlying t = some (.slice e)) (hi : Tryz.prog.info? e = some i) (hz : i.zero = some z)
    (hsize : i.size = size) (hby : i.bytes = bytes) (hzs : z.cells.size = size) (hsz : 0 < size) (hm : ∀ x, (f x).length = size) (h1 : ∀ x, ∀ u ∈ f x, u.oneCell' = true)
    (v : Value) (n : Nat) (xs : List Value) (hs : a.eval s = v) (hown : w.ownsRow base e size v n xs) (x : Value) (ys : List α) (hxo : a.eval xo = x) (hx : IsList size f w x ys)
    (h63 : n + ys.length ≤ maxLen) (hbytes : (n + ys.length) * bytes ≤ 140737488355328) (hbase : base ≤ w.heap.size)
    (h : ∀ v' w', w'.ownsRow base e size v' (n + ys.length) (xs ++ ys.flatMap f) → w.grownBy w' v.ownBlock → (v'.ownBlock = v.ownBlock ∨ v'.ownBlock = some w.heap.size) → wpList Tryz.prog ops Q rest (a.put o.dst v') w') : wpList Tryz.prog ops Q (o :: rest) a w := by
  refine wpList_plain hgd fun K hK' => ?_
  exact wp_app s xo base t e ho i z size bytes ht hi hz hsize hby hzs hsz hm h1 v n xs hs hown x ys hxo hx h63 hbytes hbase (fun v' w' h1 h2 h3 => hK' _ _ (h v' w' h1 h2 h3))

theorem ed_one : ∀ x : Pl.Ed, ∀ u ∈ edC x, u.oneCell' = true := by intro x q hq; simp [edC] at hq; rcases hq with rfl | rfl | rfl | rfl | rfl | rfl | rfl <;> rfl
/-- The next edge stands in block p. -/
def PaCut (D : Nat) (ao : Option Addr) (n cap : Nat) (w wr : World) (x y : Int) (k : Nat) (es : List Pl.Ed) (u : Value) (v : Value) (V : World) : Prop := ∃ (p : Nat) (e : Pl.Ed), v = .pointer (some ⟨p, 0, none⟩) ∧ V.heap[p]? = some (.cells #[.int .i64 e.k, .int .i64 e.a.x, .int .i64 e.a.y, .int .i64 e.b.x, .int .i64 e.b.y, .int .i64 e.c.x, .int .i64 e.c.y] 39 (0, 0)) ∧ wr.heap.size ≤ p ∧ Pl.GoodE e ∧ e.a = ⟨x, y⟩ ∧ Pl.Lim (160 + 60 * k) e.b ∧ Kp wr V (some D) ∧
  V.heap[w.heap.size]? = some (.cells #[.int .i64 x, .int .i64 y] 37 (0, 0)) ∧ V.heap[w.heap.size + 1]? = some (Obj.cells #[.int .i64 0, .slice none 0 0, .int .i64 0] 25 (0, 0)) ∧ Bs (w.heap.size + 1 + 1) (w.heap.size + 1 + 1 + 1) 1 es 0 u V ∧ DrawAt D ao n cap V
theorem turn_lim (t r : Int) (h0 : 0 < r) (h1 : r ≤ 30) : (-30 ≤ (Pl.turn t ⟨r, 0⟩).x ∧ (Pl.turn t ⟨r, 0⟩).x ≤ 30) ∧ (-30 ≤ (Pl.turn t ⟨r, 0⟩).y ∧ (Pl.turn t ⟨r, 0⟩).y ≤ 30) := by
  unfold Pl.turn
  split
  · dsimp only; omega
  · split
    · dsimp only; omega
    · split <;> (dsimp only; omega)
theorem arc_at {x y tx ty rad tn kd : Int} {k : Nat} (htx : (Pl.turn tn ⟨rad, 0⟩).x = tx) (hty : (Pl.turn tn ⟨rad, 0⟩).y = ty) (h0 : 0 < rad) (h1 : rad ≤ 30) (hl : Pl.Lim (100 + 60 * k) ⟨x, y⟩) (hk : k ≤ 2) (hd : 0 ≤ kd ∧ kd < 2) :
    Pl.GoodE (Pl.arc ⟨x - tx, y - ty⟩ rad tn (2 + kd)) ∧ (Pl.arc ⟨x - tx, y - ty⟩ rad tn (2 + kd)).a = ⟨x, y⟩ ∧ Pl.Lim (160 + 60 * k) (Pl.arc ⟨x - tx, y - ty⟩ rad tn (2 + kd)).b := by
  have hb := turn_lim tn rad h0 h1
  rw [htx, hty] at hb
  have hb2 := turn_lim (if 2 + kd = 3 then tn + 3 else tn + 1) rad h0 h1
  unfold Pl.Lim at hl
  dsimp only at hl
  refine ⟨Pl.good_arc (by unfold Pl.Lim; dsimp only; omega) h0 (by omega) (by omega), ?_, ?_⟩
  · unfold Pl.arc Pl.add
    dsimp only
    rw [htx, hty]
    simp
  · unfold Pl.arc Pl.add Pl.Lim
    dsimp only
    omega
def PaRel (D : Nat) (ao : Option Addr) (n cap : Nat) (m : Nat) (w : World) (i : Value) (wr : World) : Prop := ∃ (k : Nat) (x y : Int) (es : List Pl.Ed) (u : Value), k ≤ m ∧ i = .int .i64 k ∧ es.length = k ∧ Pl.Lim (100 + 60 * k) ⟨x, y⟩ ∧ (∀ e ∈ es, Pl.GoodE e) ∧ Pl.chain es = true ∧ Pl.EndsAt es ⟨x, y⟩ ∧ Kp w wr (some D) ∧
  wr.heap[w.heap.size]? = some (.cells #[.int .i64 x, .int .i64 y] 37 (0, 0)) ∧ wr.heap[w.heap.size + 1]? = some (Obj.cells #[.int .i64 0, .slice none 0 0, .int .i64 0] 25 (0, 0)) ∧ Bs (w.heap.size + 1 + 1) (w.heap.size + 1 + 1 + 1) 1 es 0 u wr ∧ DrawAt D ao n cap wr
set_option maxHeartbeats 16000000 in
set_option maxRecDepth 100000 in
theorem path_any (l : List Int) (n : Nat) (hn : l.length = n) (D : Nat) (ao : Option Addr) (cap : Nat) (x0 y0 : Int) (W w : World) (hl : LiesAt 1 intVal W ao cap l) (hD : W.heap.size ≤ D) (hW : Kp W w none) (hd : DrawAt D ao n cap w) (h0 : Pl.Lim 100 ⟨x0, y0⟩) (hn2 : LenOk n) :
    Calls Tryz.prog 45 #[.pointer (some ⟨D, 0, none⟩), .agg #[.int .i64 x0, .int .i64 y0]] w (DrewSh D ao n cap w) := by
  have HNX := Lib.hid (fun m V (hm : 0 < m ∧ m ≤ 1000000) (kv : Kp w V (some D)) (dv : DrawAt D ao n cap V) => next_any l n hn D ao cap m W V hl hD (hW.of_own kv hD) dv hm.1 hm.2 hn2)
  have HNE := Lib.hid (fun V (kv : Kp w V (some D)) (dv : DrawAt D ao n cap V) => near_any l n hn D ao cap 40 W V hl hD (hW.of_own kv hD) dv (by omega) (by omega) hn2)
  have HDW : Hid (D < w.heap.size) := Lib.hid hd.lt
  have HD0 := Lib.hid hd
  obtain ⟨i0, hi, hz0, hz1, hz2⟩ := info_parts infoEd
  have HL0 := Lib.hid h0
  clear hn hl hD hW hd hn2 h0
  go_enter Tryz.func45, Tryz.ntmps45
  go_wp2_with fail
  have HX0 := Lib.hid (heap_alloc_new w (Obj.cells #[.int .i64 x0, .int .i64 y0] 37))
  have HR0 := Lib.hid (heap_alloc_new (w.alloc (Obj.cells #[.int .i64 x0, .int .i64 y0] 37)) (Obj.cells #[.int .i64 0, .slice none 0 0, .int .i64 0] 25))
  have HB0 := Lib.hid (Bs.new ((w.alloc (Obj.cells #[.int .i64 x0, .int .i64 y0] 37)).alloc (Obj.cells #[.int .i64 0, .slice none 0 0, .int .i64 0] 25)) 1)
  have KW0 := Lib.hid (((Kp.refl w none).alloc (Obj.cells #[.int .i64 x0, .int .i64 y0] 37)).alloc (Obj.cells #[.int .i64 0, .slice none 0 0, .int .i64 0] 25))
  simp at HB0
  have HXB : Hid ((((w.alloc (Obj.cells #[.int .i64 x0, .int .i64 y0] 37)).alloc (Obj.cells #[.int .i64 0, .slice none 0 0, .int .i64 0] 25)).alloc (Obj.cells #[.int .i64 1, .slice none 0 0, .int .i64 0] 25)).heap[w.heap.size]? = some (.cells #[.int .i64 x0, .int .i64 y0] 37 (0, 0))) := Lib.hid (blk HX0.out (((Kp.refl _ none).alloc _).alloc _))
  have HRB : Hid ((((w.alloc (Obj.cells #[.int .i64 x0, .int .i64 y0] 37)).alloc (Obj.cells #[.int .i64 0, .slice none 0 0, .int .i64 0] 25)).alloc (Obj.cells #[.int .i64 1, .slice none 0 0, .int .i64 0] 25)).heap[w.heap.size + 1]? = some (Obj.cells #[.int .i64 0, .slice none 0 0, .int .i64 0] 25 (0, 0))) := Lib.hid (by have h := blk HR0.out ((Kp.refl _ none).alloc (Obj.cells #[.int .i64 1, .slice none 0 0, .int .i64 0] 25)); simpa using h)
  refine (HNX.out 3 _ (by omega) (((KW0.out.alloc _).weak _)) ((HD0.out.kp (KW0.out.alloc _)))).mono ?_
  rintro E w1 ⟨m0, rfl, hm, hd1, k1⟩
  have HM := Lib.hid hm
  have HD1 := Lib.hid hd1
  have K1 := Lib.hid (((KW0.out.alloc _).weak _).trans k1)
  have HX1 := Lib.hid ((k1.block _ (lt_of_block HXB.out) (by have := HDW.out; simp; omega)).trans HXB.out)
  have HR1 := Lib.hid ((k1.block _ (lt_of_block HRB.out) (by have := HDW.out; simp; omega)).trans HRB.out)
  have HB1 := Lib.hid (HB0.out.keepRow k1 (by have := HDW.out; omega))
  obtain ⟨m, hmm⟩ : ∃ m : Nat, (m : Int) = 1 + m0 := ⟨(1 + m0).toNat, by omega⟩
  have hw0 : wrap64 (1 + m0) = 1 + m0 := wrap_mid (by omega) (by omega)
  have HMM : Hid (1 + m0 = (m : Int)) := Lib.hid hmm.symm
  have HM1 : Hid (1 ≤ m ∧ m ≤ 3) := Lib.hid (by omega)
  clear hm hd1 k1 hmm HX0 HR0 HXB HRB HB0 KW0 HD0 HM
  go_wp2_with fail
  clear hw0
  rw [HMM.out, show wrap64 (m : Int) = (m : Int) from wrap_mid (by omega) (by have := HM1.out; omega)]
  clear HMM
  go_loopw [7] (fun i wr => PaRel D ao n cap m w i wr) (fun i _ => m - (intOf i).toNat)
  case atStart => exact ⟨0, x0, y0, [], .slice none 0 0, Nat.zero_le _, rfl, rfl, by simpa using HL0.out, (fun e (h : e ∈ ([] : List Pl.Ed)) => absurd h (by simp)), rfl, (fun h => absurd h (by simp)), K1.out, HX1.out, HR1.out, HB1.out, HD1.out⟩
  case round =>
    obtain ⟨k, x, y, es, u, hk, rfl, hlen, hlim, hgood, hch, hend, hK, hX, hR, hB, hD⟩ := hrel
    have HK := Lib.hid hK
    have HX := Lib.hid hX
    have HR := Lib.hid hR
    have HB := Lib.hid hB
    have HD := Lib.hid hD
    have HLEN := Lib.hid hlen
    have HLIM := Lib.hid hlim
    have HGOOD := Lib.hid hgood
    have HCH := Lib.hid hch
    have HEND := Lib.hid hend
    have HOW : Hid (∀ q, u.ownBlock = some q → q < wr.heap.size) := Lib.hid (fun q hq => (hB.2.2.lt q hq).2)
    have HWR : Hid (w.heap.size + 1 + 1 + 1 ≤ wr.heap.size) := Lib.hid hB.2.1.2
    clear hK hX hR hB hD hlen hlim hgood hch hend K1 HX1 HR1 HB1 HD1
    have hk0 : (0 : Int) ≤ (k : Int) := Int.natCast_nonneg _
    by_cases hlt : k < m
    · have hk1 : (k : Int) < (m : Int) := by omega
      have HB3 : Hid (-400 ≤ x ∧ x ≤ 400 ∧ -400 ≤ y ∧ y ≤ 400 ∧ k ≤ 2) := Lib.hid (by have h1 := HLIM.out; have h2 := HM1.out; unfold Pl.Lim at h1; dsimp only at h1; omega)
      have HMX : Hid (Mid x) := Lib.hid (by have := HB3.out; unfold Mid; omega)
      have HMY : Hid (Mid y) := Lib.hid (by have := HB3.out; unfold Mid; omega)
      have HSM : Hid (∀ z, Small 40 z → Mid z) := Lib.hid (fun z h => by unfold Small at h; unfold Mid; omega)
      have HLX : Hid (Pl.Lim 1000 ⟨x, y⟩) := Lib.hid (by have := HB3.out; unfold Pl.Lim; dsimp only; omega)
      have HSL : Hid (∀ dx dy, Small 40 dx → Small 40 dy → Pl.Lim 1000 ⟨x + dx, y + dy⟩) := Lib.hid (fun dx dy h1 h2 => by have := HB3.out; unfold Small at h1 h2; unfold Pl.Lim; dsimp only; omega)
      have HSB : Hid (∀ dx dy, Small 40 dx → Small 40 dy → Pl.Lim (160 + 60 * k) ⟨x + dx, y + dy⟩) := Lib.hid (fun dx dy h1 h2 => by have := HLIM.out; unfold Small at h1 h2; unfold Pl.Lim at this ⊢; dsimp only at this ⊢; omega)
      have HMC : Hid (∀ (V : World) (p : Nat) (e : Pl.Ed), V.heap[p]? = some (.cells #[.int .i64 e.k, .int .i64 e.a.x, .int .i64 e.a.y, .int .i64 e.b.x, .int .i64 e.b.y, .int .i64 e.c.x, .int .i64 e.c.y] 39 (0, 0)) → wr.heap.size ≤ p → Pl.GoodE e → e.a = ⟨x, y⟩ → Pl.Lim (160 + 60 * k) e.b → Kp wr V (some D) → V.heap[w.heap.size]? = some (.cells #[.int .i64 x, .int .i64 y] 37 (0, 0)) → V.heap[w.heap.size + 1]? = some (Obj.cells #[.int .i64 0, .slice none 0 0, .int .i64 0] 25 (0, 0)) → Bs (w.heap.size + 1 + 1) (w.heap.size + 1 + 1 + 1) 1 es 0 u V → DrawAt D ao n cap V → PaCut D ao n cap w wr x y k es u (.pointer (some ⟨p, 0, none⟩)) V) := Lib.hid (fun V p e h1 h2 h3 h4 h5 h6 h7 h8 h9 h10 => ⟨p, e, rfl, h1, h2, h3, h4, h5, h6, h7, h8, h9, h10⟩)
      go_upto_region 6 with fail
      go_cut [8] from 16 to 61 (fun s8 wx => PaCut D ao n cap w wr x y k es u s8 wx)
      case first =>
        have HKA_0 : Hid (Kp wr wr.drew (some D)) := Lib.hid (Kp.refl wr (some D)).drew
        have HX_0 := Lib.hid (blk HX.out (Kp.refl wr none).drew)
        have HR_0 := Lib.hid (blk HR.out (Kp.refl wr none).drew)
        have HBs_0 := Lib.hid (HB.out.keep (Kp.refl wr none).drew)
        have HDr_0 := Lib.hid (HD.out.kp (Kp.refl wr none).drew)
        refine wp_region_last (fun V => V.cell? ⟨w.heap.size, 0, none⟩ = some (.int .i64 x) ∧ V.cell? ⟨w.heap.size, 1, none⟩ = some (.int .i64 y) ∧ True) 7 (by kernel_rfl) ?_ (fun hHeld => ?_)
        · exact ⟨hcell HX_0.out 0 rfl, hcell HX_0.out 1 rfl, trivial⟩
        refine tkL 0 rfl ?_
        try simp only [Act.put, sm]
        refine tkL 1 rfl ?_
        try simp only [Act.put, sm]
        refine tkL 2 rfl ?_
        try simp only [Act.put, sm]
        refine wpAnyL_ready (rs := [3, 6]) (by kernel_rfl) (by simp) ?_
        refine AllReadyL.cons (o := _) rfl (fun K hK => ?_) (AllReadyL.cons (o := _) rfl (fun K hK => ?_) AllReadyL.nil)
        · clear hHeld
          go_simp
          refine (HNE.out _ (HK.out.trans HKA_0.out) HDr_0.out).mono ?_
          rintro E wx1 ⟨dx, dy, rfl, hx, hy, hd, kk⟩
          have HKA_1 : Hid (Kp wr wx1 (some D)) := Lib.hid (HKA_0.out.trans (kk))
          have HX_1 := Lib.hid (((kk).block _ (lt_of_block HX_0.out) (by have := HDW.out; have := HKA_0.out.size; simp <;> omega)).trans HX_0.out)
          have HR_1 := Lib.hid (((kk).block _ (lt_of_block HR_0.out) (by have := HDW.out; have := HKA_0.out.size; simp <;> omega)).trans HR_0.out)
          have HBs_1 := Lib.hid (HBs_0.out.keepRow (kk) (by have := HDW.out; omega))
          have HDr_1 := Lib.hid hd
          have HNX_ := Lib.hid hx
          have HNY_ := Lib.hid hy
          clear hx hy hd kk
          try go_wp2_with fail
          refine hK.out _ _ ?_ (fun hHeld => ?_)
          · exact ⟨hcell HX_1.out 0 rfl, hcell HX_1.out 1 rfl, trivial⟩
          clear hK K
          try simp only [Act.put, sm]
          refine wpAnyL_ready (rs := [4, 6]) (by kernel_rfl) (by simp) ?_
          refine AllReadyL.cons (o := _) rfl (fun K hK => ?_) (AllReadyL.cons (o := _) rfl (fun K hK => ?_) AllReadyL.nil)
          · clear hHeld
            go_simp
            refine (radd_any x y dx dy _ HMX.out HMY.out (HSM.out _ HNX_.out) (HSM.out _ HNY_.out)).mono ?_
            rintro E wx2 ⟨rfl, kk⟩
            have HKA_2 : Hid (Kp wr wx2 (some D)) := Lib.hid (HKA_1.out.trans ((kk).weak _))
            have HX_2 := Lib.hid (blk HX_1.out (kk))
            have HR_2 := Lib.hid (blk HR_1.out (kk))
            have HBs_2 := Lib.hid (HBs_1.out.keep (kk))
            have HDr_2 := Lib.hid (HDr_1.out.kp (kk))
            clear kk
            try go_wp2_with fail
            refine hK.out _ _ ?_ (fun hHeld => ?_)
            · exact ⟨hcell HX_2.out 0 rfl, hcell HX_2.out 1 rfl, trivial⟩
            clear hK K
            try simp only [Act.put, sm]
            refine wpAnyL_ready (rs := [5, 6]) (by kernel_rfl) (by simp) ?_
            refine AllReadyL.cons (o := _) rfl (fun K hK => ?_) (AllReadyL.cons (o := _) rfl (fun K hK => ?_) AllReadyL.nil)
            · clear hHeld
              go_simp
              refine (line_any x y (x + dx) (y + dy) _).mono ?_
              rintro E wx3 ⟨rfl, kk⟩
              have HKA_3 : Hid (Kp wr wx3 (some D)) := Lib.hid (HKA_2.out.trans ((kk).weak _))
              have HX_3 := Lib.hid (blk HX_2.out (kk))
              have HR_3 := Lib.hid (blk HR_2.out (kk))
              have HBs_3 := Lib.hid (HBs_2.out.keep (kk))
              have HDr_3 := Lib.hid (HDr_2.out.kp (kk))
              clear kk
              try go_wp2_with fail
              refine hK.out _ _ ?_ (fun hHeld => ?_)
              · exact ⟨hcell HX_3.out 0 rfl, hcell HX_3.out 1 rfl, trivial⟩
              clear hK K
              try simp only [Act.put, sm]
              refine wpAnyL_ready (rs := [6]) (by kernel_rfl) (by simp) ?_
              refine AllReadyL.cons (o := _) rfl (fun K hK => ?_) AllReadyL.nil
              clear hHeld
              go_simp
              have HKA_4 : Hid (Kp wr (wx3.alloc (Obj.cells #[.int .i64 0, .int .i64 0, .int .i64 0, .int .i64 0, .int .i64 0, .int .i64 0, .int .i64 0] 39)) (some D)) := Lib.hid (HKA_3.out.trans (((Kp.refl wx3 none).alloc (Obj.cells #[.int .i64 0, .int .i64 0, .int .i64 0, .int .i64 0, .int .i64 0, .int .i64 0, .int .i64 0] 39)).weak _))
              have HX_4 := Lib.hid (blk HX_3.out ((Kp.refl wx3 none).alloc (Obj.cells #[.int .i64 0, .int .i64 0, .int .i64 0, .int .i64 0, .int .i64 0, .int .i64 0, .int .i64 0] 39)))
              have HR_4 := Lib.hid (blk HR_3.out ((Kp.refl wx3 none).alloc (Obj.cells #[.int .i64 0, .int .i64 0, .int .i64 0, .int .i64 0, .int .i64 0, .int .i64 0, .int .i64 0] 39)))
              have HBs_4 := Lib.hid (HBs_3.out.keep ((Kp.refl wx3 none).alloc (Obj.cells #[.int .i64 0, .int .i64 0, .int .i64 0, .int .i64 0, .int .i64 0, .int .i64 0, .int .i64 0] 39)))
              have HDr_4 := Lib.hid (HDr_3.out.kp ((Kp.refl wx3 none).alloc (Obj.cells #[.int .i64 0, .int .i64 0, .int .i64 0, .int .i64 0, .int .i64 0, .int .i64 0, .int .i64 0] 39)))
              have HE_4 : Hid ((wx3.alloc (Obj.cells #[.int .i64 0, .int .i64 0, .int .i64 0, .int .i64 0, .int .i64 0, .int .i64 0, .int .i64 0] 39)).heap[wx3.heap.size]? = some (Obj.cells #[.int .i64 0, .int .i64 0, .int .i64 0, .int .i64 0, .int .i64 0, .int .i64 0, .int .i64 0] 39 (0, 0))) := Lib.hid (heap_alloc_new wx3 (Obj.cells #[.int .i64 0, .int .i64 0, .int .i64 0, .int .i64 0, .int .i64 0, .int .i64 0, .int .i64 0] 39))
              have HP_HE : Hid (wr.heap.size ≤ wx3.heap.size) := Lib.hid HKA_3.out.size
              try go_wp2_with fail
              refine hK.out _ _ ?_ (fun hHeld => ?_)
              · exact ⟨hcell HX_4.out 0 rfl, hcell HX_4.out 1 rfl, trivial⟩
              clear hK K
              try simp only [Act.put, sm]
              refine wpAnyL_ready (rs := [7]) (by kernel_rfl) (by simp) ?_
              refine AllReadyL.last (o := _) rfl (fun K hK => ?_)
              have f0 := Lib.frozen_of_heap HE_4.out 0
              have f1 := Lib.frozen_of_heap HE_4.out 1
              have f2 := Lib.frozen_of_heap HE_4.out 2
              have f3 := Lib.frozen_of_heap HE_4.out 3
              have f4 := Lib.frozen_of_heap HE_4.out 4
              have f5 := Lib.frozen_of_heap HE_4.out 5
              have f6 := Lib.frozen_of_heap HE_4.out 6
              have c0 := hcell HE_4.out 0 rfl
              have c1 := hcell HE_4.out 1 rfl
              have c2 := hcell HE_4.out 2 rfl
              have c3 := hcell HE_4.out 3 rfl
              have c4 := hcell HE_4.out 4 rfl
              have c5 := hcell HE_4.out 5 rfl
              have c6 := hcell HE_4.out 6 rfl
              clear hHeld
              go_simp
              try go_wp2_with fail
              refine hK.out _ _ ?_
              clear hK K
              try simp only [Act.put, sm]
              refine wpAnyL_done (by kernel_rfl) ?_ _
              clear f0 c0 f1 c1 f2 c2 f3 c3 f4 c4 f5 c5 f6 c6
              have HKA_4 : Hid (Kp wr (wx3.alloc (Obj.cells #[.int .i64 1, .int .i64 x, .int .i64 y, .int .i64 (x + dx), .int .i64 (y + dy), .int .i64 0, .int .i64 0] 39)) (some D)) := Lib.hid (HKA_3.out.trans (((Kp.refl wx3 none).alloc (Obj.cells #[.int .i64 1, .int .i64 x, .int .i64 y, .int .i64 (x + dx), .int .i64 (y + dy), .int .i64 0, .int .i64 0] 39)).weak _))
              have HX_4 := Lib.hid (blk HX_3.out ((Kp.refl wx3 none).alloc (Obj.cells #[.int .i64 1, .int .i64 x, .int .i64 y, .int .i64 (x + dx), .int .i64 (y + dy), .int .i64 0, .int .i64 0] 39)))
              have HR_4 := Lib.hid (blk HR_3.out ((Kp.refl wx3 none).alloc (Obj.cells #[.int .i64 1, .int .i64 x, .int .i64 y, .int .i64 (x + dx), .int .i64 (y + dy), .int .i64 0, .int .i64 0] 39)))
              have HBs_4 := Lib.hid (HBs_3.out.keep ((Kp.refl wx3 none).alloc (Obj.cells #[.int .i64 1, .int .i64 x, .int .i64 y, .int .i64 (x + dx), .int .i64 (y + dy), .int .i64 0, .int .i64 0] 39)))
              have HDr_4 := Lib.hid (HDr_3.out.kp ((Kp.refl wx3 none).alloc (Obj.cells #[.int .i64 1, .int .i64 x, .int .i64 y, .int .i64 (x + dx), .int .i64 (y + dy), .int .i64 0, .int .i64 0] 39)))
              have HE_4 := Lib.hid (heap_alloc_new wx3 (Obj.cells #[.int .i64 1, .int .i64 x, .int .i64 y, .int .i64 (x + dx), .int .i64 (y + dy), .int .i64 0, .int .i64 0] 39))
              generalize wx3.alloc (Obj.cells #[.int .i64 1, .int .i64 x, .int .i64 y, .int .i64 (x + dx), .int .i64 (y + dy), .int .i64 0, .int .i64 0] 39) = wz4 at *
              go_wp2_with fail
              go_meet
              exact HMC.out _ _ (Pl.line ⟨x, y⟩ ⟨x + dx, y + dy⟩) HE_4.out HP_HE.out (Pl.good_line HLX.out (HSL.out dx dy HNX_.out HNY_.out)) rfl (HSB.out dx dy HNX_.out HNY_.out) HKA_4.out HX_4.out HR_4.out HBs_4.out HDr_4.out
            · clear hHeld
              go_simp
              have HKA_3 : Hid (Kp wr (wx2.alloc (Obj.cells #[.int .i64 0, .int .i64 0, .int .i64 0, .int .i64 0, .int .i64 0, .int .i64 0, .int .i64 0] 39)) (some D)) := Lib.hid (HKA_2.out.trans (((Kp.refl wx2 none).alloc (Obj.cells #[.int .i64 0, .int .i64 0, .int .i64 0, .int .i64 0, .int .i64 0, .int .i64 0, .int .i64 0] 39)).weak _))
              have HX_3 := Lib.hid (blk HX_2.out ((Kp.refl wx2 none).alloc (Obj.cells #[.int .i64 0, .int .i64 0, .int .i64 0, .int .i64 0, .int .i64 0, .int .i64 0, .int .i64 0] 39)))
              have HR_3 := Lib.hid (blk HR_2.out ((Kp.refl wx2 none).alloc (Obj.cells #[.int .i64 0, .int .i64 0, .int .i64 0, .int .i64 0, .int .i64 0, .int .i64 0, .int .i64 0] 39)))
              have HBs_3 := Lib.hid (HBs_2.out.keep ((Kp.refl wx2 none).alloc (Obj.cells #[.int .i64 0, .int .i64 0, .int .i64 0, .int .i64 0, .int .i64 0, .int .i64 0, .int .i64 0] 39)))
              have HDr_3 := Lib.hid (HDr_2.out.kp ((Kp.refl wx2 none).alloc (Obj.cells #[.int .i64 0, .int .i64 0, .int .i64 0, .int .i64 0, .int .i64 0, .int .i64 0, .int .i64 0] 39)))
              have HE_3 : Hid ((wx2.alloc (Obj.cells #[.int .i64 0, .int .i64 0, .int .i64 0, .int .i64 0, .int .i64 0, .int .i64 0, .int .i64 0] 39)).heap[wx2.heap.size]? = some (Obj.cells #[.int .i64 0, .int .i64 0, .int .i64 0, .int .i64 0, .int .i64 0, .int .i64 0, .int .i64 0] 39 (0, 0))) := Lib.hid (heap_alloc_new wx2 (Obj.cells #[.int .i64 0, .int .i64 0, .int .i64 0, .int .i64 0, .int .i64 0, .int .i64 0, .int .i64 0] 39))
              have HP_HE : Hid (wr.heap.size ≤ wx2.heap.size) := Lib.hid HKA_2.out.size
              try go_wp2_with fail
              refine hK.out _ _ ?_ (fun hHeld => ?_)
              · exact ⟨hcell HX_3.out 0 rfl, hcell HX_3.out 1 rfl, trivial⟩
              clear hK K
              try simp only [Act.put, sm]
              refine wpAnyL_ready (rs := [5]) (by kernel_rfl) (by simp) ?_
              refine AllReadyL.cons (o := _) rfl (fun K hK => ?_) AllReadyL.nil
              clear hHeld
              go_simp
              refine (line_any x y (x + dx) (y + dy) _).mono ?_
              rintro E wx4 ⟨rfl, kk⟩
              have HKA_4 : Hid (Kp wr wx4 (some D)) := Lib.hid (HKA_3.out.trans ((kk).weak _))
              have HX_4 := Lib.hid (blk HX_3.out (kk))
              have HR_4 := Lib.hid (blk HR_3.out (kk))
              have HE_4 := Lib.hid (blk HE_3.out (kk))
              have HBs_4 := Lib.hid (HBs_3.out.keep (kk))
              have HDr_4 := Lib.hid (HDr_3.out.kp (kk))
              clear kk
              try go_wp2_with fail
              refine hK.out _ _ ?_ (fun hHeld => ?_)
              · exact ⟨hcell HX_4.out 0 rfl, hcell HX_4.out 1 rfl, trivial⟩
              clear hK K
              try simp only [Act.put, sm]
              refine wpAnyL_ready (rs := [7]) (by kernel_rfl) (by simp) ?_
              refine AllReadyL.last (o := _) rfl (fun K hK => ?_)
              have f0 := Lib.frozen_of_heap HE_4.out 0
              have f1 := Lib.frozen_of_heap HE_4.out 1
              have f2 := Lib.frozen_of_heap HE_4.out 2
              have f3 := Lib.frozen_of_heap HE_4.out 3
              have f4 := Lib.frozen_of_heap HE_4.out 4
              have f5 := Lib.frozen_of_heap HE_4.out 5
              have f6 := Lib.frozen_of_heap HE_4.out 6
              have c0 := hcell HE_4.out 0 rfl
              have c1 := hcell HE_4.out 1 rfl
              have c2 := hcell HE_4.out 2 rfl
              have c3 := hcell HE_4.out 3 rfl
              have c4 := hcell HE_4.out 4 rfl
              have c5 := hcell HE_4.out 5 rfl
              have c6 := hcell HE_4.out 6 rfl
              clear hHeld
              go_simp
              try go_wp2_with fail
              refine hK.out _ _ ?_
              clear hK K
              try simp only [Act.put, sm]
              refine wpAnyL_done (by kernel_rfl) ?_ _
              clear f0 c0 f1 c1 f2 c2 f3 c3 f4 c4 f5 c5 f6 c6
              have hst := store7 HE_4.out (.int .i64 1) (.int .i64 x) (.int .i64 y) (.int .i64 (x + dx)) (.int .i64 (y + dy)) (.int .i64 0) (.int .i64 0)
              have kk := hst.2
              have HST := Lib.hid hst.1
              clear hst
              have HKA_5 : Hid (Kp wr _ (some D)) := Lib.hid (HKA_4.out.of_own kk (by have := HP_HE.out; have := HWR.out; omega))
              have HX_5 := Lib.hid ((kk.block _ (lt_of_block HX_4.out) (by have := HP_HE.out; have := HWR.out; simp <;> omega)).trans HX_4.out)
              have HR_5 := Lib.hid ((kk.block _ (lt_of_block HR_4.out) (by have := HP_HE.out; have := HWR.out; simp <;> omega)).trans HR_4.out)
              have HE_5 := HST
              have HBs_5 := Lib.hid (HBs_4.out.keepFar kk (by have := HP_HE.out; have := HWR.out; omega) (fun q hq => by have := HOW.out q hq; have := HP_HE.out; omega))
              have HDr_5 := Lib.hid (HDr_4.out.far kk (by have := HP_HE.out; have := HWR.out; have := HDW.out; omega))
              clear kk HST HE_4 HKA_4 HBs_4 HDr_4 HX_4 HR_4
              generalize (((((((wx4.setCell ⟨wx2.heap.size, 0, none⟩ (.int .i64 1)).setCell ⟨wx2.heap.size, 1, none⟩ (.int .i64 x)).setCell ⟨wx2.heap.size, 2, none⟩ (.int .i64 y)).setCell ⟨wx2.heap.size, 3, none⟩ (.int .i64 (x + dx))).setCell ⟨wx2.heap.size, 4, none⟩ (.int .i64 (y + dy))).setCell ⟨wx2.heap.size, 5, none⟩ (.int .i64 0)).setCell ⟨wx2.heap.size, 6, none⟩ (.int .i64 0)) = wz5 at *
              go_wp2_with fail
              go_meet
              exact HMC.out _ _ (Pl.line ⟨x, y⟩ ⟨x + dx, y + dy⟩) HE_5.out HP_HE.out (Pl.good_line HLX.out (HSL.out dx dy HNX_.out HNY_.out)) rfl (HSB.out dx dy HNX_.out HNY_.out) HKA_5.out HX_5.out HR_5.out HBs_5.out HDr_5.out
          · clear hHeld
            go_simp
            have HKA_2 : Hid (Kp wr (wx1.alloc (Obj.cells #[.int .i64 0, .int .i64 0, .int .i64 0, .int .i64 0, .int .i64 0, .int .i64 0, .int .i64 0] 39)) (some D)) := Lib.hid (HKA_1.out.trans (((Kp.refl wx1 none).alloc (Obj.cells #[.int .i64 0, .int .i64 0, .int .i64 0, .int .i64 0, .int .i64 0, .int .i64 0, .int .i64 0] 39)).weak _))
            have HX_2 := Lib.hid (blk HX_1.out ((Kp.refl wx1 none).alloc (Obj.cells #[.int .i64 0, .int .i64 0, .int .i64 0, .int .i64 0, .int .i64 0, .int .i64 0, .int .i64 0] 39)))
            have HR_2 := Lib.hid (blk HR_1.out ((Kp.refl wx1 none).alloc (Obj.cells #[.int .i64 0, .int .i64 0, .int .i64 0, .int .i64 0, .int .i64 0, .int .i64 0, .int .i64 0] 39)))
            have HBs_2 := Lib.hid (HBs_1.out.keep ((Kp.refl wx1 none).alloc (Obj.cells #[.int .i64 0, .int .i64 0, .int .i64 0, .int .i64 0, .int .i64 0, .int .i64 0, .int .i64 0] 39)))
            have HDr_2 := Lib.hid (HDr_1.out.kp ((Kp.refl wx1 none).alloc (Obj.cells #[.int .i64 0, .int .i64 0, .int .i64 0, .int .i64 0, .int .i64 0, .int .i64 0, .int .i64 0] 39)))
            have HE_2 : Hid ((wx1.alloc (Obj.cells #[.int .i64 0, .int .i64 0, .int .i64 0, .int .i64 0, .int .i64 0, .int .i64 0, .int .i64 0] 39)).heap[wx1.heap.size]? = some (Obj.cells #[.int .i64 0, .int .i64 0, .int .i64 0, .int .i64 0, .int .i64 0, .int .i64 0, .int .i64 0] 39 (0, 0))) := Lib.hid (heap_alloc_new wx1 (Obj.cells #[.int .i64 0, .int .i64 0, .int .i64 0, .int .i64 0, .int .i64 0, .int .i64 0, .int .i64 0] 39))
            have HP_HE : Hid (wr.heap.size ≤ wx1.heap.size) := Lib.hid HKA_1.out.size
            try go_wp2_with fail
            refine hK.out _ _ ?_ (fun hHeld => ?_)
            · exact ⟨hcell HX_2.out 0 rfl, hcell HX_2.out 1 rfl, trivial⟩
            clear hK K
            try simp only [Act.put, sm]
            refine wpAnyL_ready (rs := [4]) (by kernel_rfl) (by simp) ?_
            refine AllReadyL.cons (o := _) rfl (fun K hK => ?_) AllReadyL.nil
            clear hHeld
            go_simp
            refine (radd_any x y dx dy _ HMX.out HMY.out (HSM.out _ HNX_.out) (HSM.out _ HNY_.out)).mono ?_
            rintro E wx5 ⟨rfl, kk⟩
            have HKA_3 : Hid (Kp wr wx5 (some D)) := Lib.hid (HKA_2.out.trans ((kk).weak _))
            have HX_3 := Lib.hid (blk HX_2.out (kk))
            have HR_3 := Lib.hid (blk HR_2.out (kk))
            have HE_3 := Lib.hid (blk HE_2.out (kk))
            have HBs_3 := Lib.hid (HBs_2.out.keep (kk))
            have HDr_3 := Lib.hid (HDr_2.out.kp (kk))
            clear kk
            try go_wp2_with fail
            refine hK.out _ _ ?_ (fun hHeld => ?_)
            · exact ⟨hcell HX_3.out 0 rfl, hcell HX_3.out 1 rfl, trivial⟩
            clear hK K
            try simp only [Act.put, sm]
            refine wpAnyL_ready (rs := [5]) (by kernel_rfl) (by simp) ?_
            refine AllReadyL.cons (o := _) rfl (fun K hK => ?_) AllReadyL.nil
            clear hHeld
            go_simp
            refine (line_any x y (x + dx) (y + dy) _).mono ?_
            rintro E wx6 ⟨rfl, kk⟩
            have HKA_4 : Hid (Kp wr wx6 (some D)) := Lib.hid (HKA_3.out.trans ((kk).weak _))
            have HX_4 := Lib.hid (blk HX_3.out (kk))
            have HR_4 := Lib.hid (blk HR_3.out (kk))
            have HE_4 := Lib.hid (blk HE_3.out (kk))
            have HBs_4 := Lib.hid (HBs_3.out.keep (kk))
            have HDr_4 := Lib.hid (HDr_3.out.kp (kk))
            clear kk
            try go_wp2_with fail
            refine hK.out _ _ ?_ (fun hHeld => ?_)
            · exact ⟨hcell HX_4.out 0 rfl, hcell HX_4.out 1 rfl, trivial⟩
            clear hK K
            try simp only [Act.put, sm]
            refine wpAnyL_ready (rs := [7]) (by kernel_rfl) (by simp) ?_
            refine AllReadyL.last (o := _) rfl (fun K hK => ?_)
            have f0 := Lib.frozen_of_heap HE_4.out 0
            have f1 := Lib.frozen_of_heap HE_4.out 1
            have f2 := Lib.frozen_of_heap HE_4.out 2
            have f3 := Lib.frozen_of_heap HE_4.out 3
            have f4 := Lib.frozen_of_heap HE_4.out 4
            have f5 := Lib.frozen_of_heap HE_4.out 5
            have f6 := Lib.frozen_of_heap HE_4.out 6
            have c0 := hcell HE_4.out 0 rfl
            have c1 := hcell HE_4.out 1 rfl
            have c2 := hcell HE_4.out 2 rfl
            have c3 := hcell HE_4.out 3 rfl
            have c4 := hcell HE_4.out 4 rfl
            have c5 := hcell HE_4.out 5 rfl
            have c6 := hcell HE_4.out 6 rfl
            clear hHeld
            go_simp
            try go_wp2_with fail
            refine hK.out _ _ ?_
            clear hK K
            try simp only [Act.put, sm]
            refine wpAnyL_done (by kernel_rfl) ?_ _
            clear f0 c0 f1 c1 f2 c2 f3 c3 f4 c4 f5 c5 f6 c6
            have hst := store7 HE_4.out (.int .i64 1) (.int .i64 x) (.int .i64 y) (.int .i64 (x + dx)) (.int .i64 (y + dy)) (.int .i64 0) (.int .i64 0)
            have kk := hst.2
            have HST := Lib.hid hst.1
            clear hst
            have HKA_5 : Hid (Kp wr _ (some D)) := Lib.hid (HKA_4.out.of_own kk (by have := HP_HE.out; have := HWR.out; omega))
            have HX_5 := Lib.hid ((kk.block _ (lt_of_block HX_4.out) (by have := HP_HE.out; have := HWR.out; simp <;> omega)).trans HX_4.out)
            have HR_5 := Lib.hid ((kk.block _ (lt_of_block HR_4.out) (by have := HP_HE.out; have := HWR.out; simp <;> omega)).trans HR_4.out)
            have HE_5 := HST
            have HBs_5 := Lib.hid (HBs_4.out.keepFar kk (by have := HP_HE.out; have := HWR.out; omega) (fun q hq => by have := HOW.out q hq; have := HP_HE.out; omega))
            have HDr_5 := Lib.hid (HDr_4.out.far kk (by have := HP_HE.out; have := HWR.out; have := HDW.out; omega))
            clear kk HST HE_4 HKA_4 HBs_4 HDr_4 HX_4 HR_4
            generalize (((((((wx6.setCell ⟨wx1.heap.size, 0, none⟩ (.int .i64 1)).setCell ⟨wx1.heap.size, 1, none⟩ (.int .i64 x)).setCell ⟨wx1.heap.size, 2, none⟩ (.int .i64 y)).setCell ⟨wx1.heap.size, 3, none⟩ (.int .i64 (x + dx))).setCell ⟨wx1.heap.size, 4, none⟩ (.int .i64 (y + dy))).setCell ⟨wx1.heap.size, 5, none⟩ (.int .i64 0)).setCell ⟨wx1.heap.size, 6, none⟩ (.int .i64 0)) = wz5 at *
            go_wp2_with fail
            go_meet
            exact HMC.out _ _ (Pl.line ⟨x, y⟩ ⟨x + dx, y + dy⟩) HE_5.out HP_HE.out (Pl.good_line HLX.out (HSL.out dx dy HNX_.out HNY_.out)) rfl (HSB.out dx dy HNX_.out HNY_.out) HKA_5.out HX_5.out HR_5.out HBs_5.out HDr_5.out
        · clear hHeld
          go_simp
          have HKA_1 : Hid (Kp wr (wr.drew.alloc (Obj.cells #[.int .i64 0, .int .i64 0, .int .i64 0, .int .i64 0, .int .i64 0, .int .i64 0, .int .i64 0] 39)) (some D)) := Lib.hid (HKA_0.out.trans (((Kp.refl wr.drew none).alloc (Obj.cells #[.int .i64 0, .int .i64 0, .int .i64 0, .int .i64 0, .int .i64 0, .int .i64 0, .int .i64 0] 39)).weak _))
          have HX_1 := Lib.hid (blk HX_0.out ((Kp.refl wr.drew none).alloc (Obj.cells #[.int .i64 0, .int .i64 0, .int .i64 0, .int .i64 0, .int .i64 0, .int .i64 0, .int .i64 0] 39)))
          have HR_1 := Lib.hid (blk HR_0.out ((Kp.refl wr.drew none).alloc (Obj.cells #[.int .i64 0, .int .i64 0, .int .i64 0, .int .i64 0, .int .i64 0, .int .i64 0, .int .i64 0] 39)))
          have HBs_1 := Lib.hid (HBs_0.out.keep ((Kp.refl wr.drew none).alloc (Obj.cells #[.int .i64 0, .int .i64 0, .int .i64 0, .int .i64 0, .int .i64 0, .int .i64 0, .int .i64 0] 39)))
          have HDr_1 := Lib.hid (HDr_0.out.kp ((Kp.refl wr.drew none).alloc (Obj.cells #[.int .i64 0, .int .i64 0, .int .i64 0, .int .i64 0, .int .i64 0, .int .i64 0, .int .i64 0] 39)))
          have HE_1 : Hid ((wr.drew.alloc (Obj.cells #[.int .i64 0, .int .i64 0, .int .i64 0, .int .i64 0, .int .i64 0, .int .i64 0, .int .i64 0] 39)).heap[wr.heap.size]? = some (Obj.cells #[.int .i64 0, .int .i64 0, .int .i64 0, .int .i64 0, .int .i64 0, .int .i64 0, .int .i64 0] 39 (0, 0))) := Lib.hid (heap_alloc_new wr.drew (Obj.cells #[.int .i64 0, .int .i64 0, .int .i64 0, .int .i64 0, .int .i64 0, .int .i64 0, .int .i64 0] 39))
          have HP_HE : Hid (wr.heap.size ≤ wr.heap.size) := Lib.hid HKA_0.out.size
          try go_wp2_with fail
          refine hK.out _ _ ?_ (fun hHeld => ?_)
          · exact ⟨hcell HX_1.out 0 rfl, hcell HX_1.out 1 rfl, trivial⟩
          clear hK K
          try simp only [Act.put, sm]
          refine wpAnyL_ready (rs := [3]) (by kernel_rfl) (by simp) ?_
          refine AllReadyL.cons (o := _) rfl (fun K hK => ?_) AllReadyL.nil
          clear hHeld
          go_simp
          refine (HNE.out _ (HK.out.trans HKA_1.out) HDr_1.out).mono ?_
          rintro E wx7 ⟨dx, dy, rfl, hx, hy, hd, kk⟩
          have HKA_2 : Hid (Kp wr wx7 (some D)) := Lib.hid (HKA_1.out.trans (kk))
          have HX_2 := Lib.hid (((kk).block _ (lt_of_block HX_1.out) (by have := HDW.out; have := HKA_1.out.size; simp <;> omega)).trans HX_1.out)
          have HR_2 := Lib.hid (((kk).block _ (lt_of_block HR_1.out) (by have := HDW.out; have := HKA_1.out.size; simp <;> omega)).trans HR_1.out)
          have HE_2 := Lib.hid (((kk).block _ (lt_of_block HE_1.out) (by have := HDW.out; have := HKA_1.out.size; have := HP_HE.out; have := HWR.out; simp <;> omega)).trans HE_1.out)
          have HBs_2 := Lib.hid (HBs_1.out.keepRow (kk) (by have := HDW.out; omega))
          have HDr_2 := Lib.hid hd
          have HNX_ := Lib.hid hx
          have HNY_ := Lib.hid hy
          clear hx hy hd kk
          try go_wp2_with fail
          refine hK.out _ _ ?_ (fun hHeld => ?_)
          · exact ⟨hcell HX_2.out 0 rfl, hcell HX_2.out 1 rfl, trivial⟩
          clear hK K
          try simp only [Act.put, sm]
          refine wpAnyL_ready (rs := [4]) (by kernel_rfl) (by simp) ?_
          refine AllReadyL.cons (o := _) rfl (fun K hK => ?_) AllReadyL.nil
          clear hHeld
          go_simp
          refine (radd_any x y dx dy _ HMX.out HMY.out (HSM.out _ HNX_.out) (HSM.out _ HNY_.out)).mono ?_
          rintro E wx8 ⟨rfl, kk⟩
          have HKA_3 : Hid (Kp wr wx8 (some D)) := Lib.hid (HKA_2.out.trans ((kk).weak _))
          have HX_3 := Lib.hid (blk HX_2.out (kk))
          have HR_3 := Lib.hid (blk HR_2.out (kk))
          have HE_3 := Lib.hid (blk HE_2.out (kk))
          have HBs_3 := Lib.hid (HBs_2.out.keep (kk))
          have HDr_3 := Lib.hid (HDr_2.out.kp (kk))
          clear kk
          try go_wp2_with fail
          refine hK.out _ _ ?_ (fun hHeld => ?_)
          · exact ⟨hcell HX_3.out 0 rfl, hcell HX_3.out 1 rfl, trivial⟩
          clear hK K
          try simp only [Act.put, sm]
          refine wpAnyL_ready (rs := [5]) (by kernel_rfl) (by simp) ?_
          refine AllReadyL.cons (o := _) rfl (fun K hK => ?_) AllReadyL.nil
          clear hHeld
          go_simp
          refine (line_any x y (x + dx) (y + dy) _).mono ?_
          rintro E wx9 ⟨rfl, kk⟩
          have HKA_4 : Hid (Kp wr wx9 (some D)) := Lib.hid (HKA_3.out.trans ((kk).weak _))
          have HX_4 := Lib.hid (blk HX_3.out (kk))
          have HR_4 := Lib.hid (blk HR_3.out (kk))
          have HE_4 := Lib.hid (blk HE_3.out (kk))
          have HBs_4 := Lib.hid (HBs_3.out.keep (kk))
          have HDr_4 := Lib.hid (HDr_3.out.kp (kk))
          clear kk
          try go_wp2_with fail
          refine hK.out _ _ ?_ (fun hHeld => ?_)
          · exact ⟨hcell HX_4.out 0 rfl, hcell HX_4.out 1 rfl, trivial⟩
          clear hK K
          try simp only [Act.put, sm]
          refine wpAnyL_ready (rs := [7]) (by kernel_rfl) (by simp) ?_
          refine AllReadyL.last (o := _) rfl (fun K hK => ?_)
          have f0 := Lib.frozen_of_heap HE_4.out 0
          have f1 := Lib.frozen_of_heap HE_4.out 1
          have f2 := Lib.frozen_of_heap HE_4.out 2
          have f3 := Lib.frozen_of_heap HE_4.out 3
          have f4 := Lib.frozen_of_heap HE_4.out 4
          have f5 := Lib.frozen_of_heap HE_4.out 5
          have f6 := Lib.frozen_of_heap HE_4.out 6
          have c0 := hcell HE_4.out 0 rfl
          have c1 := hcell HE_4.out 1 rfl
          have c2 := hcell HE_4.out 2 rfl
          have c3 := hcell HE_4.out 3 rfl
          have c4 := hcell HE_4.out 4 rfl
          have c5 := hcell HE_4.out 5 rfl
          have c6 := hcell HE_4.out 6 rfl
          clear hHeld
          go_simp
          try go_wp2_with fail
          refine hK.out _ _ ?_
          clear hK K
          try simp only [Act.put, sm]
          refine wpAnyL_done (by kernel_rfl) ?_ _
          clear f0 c0 f1 c1 f2 c2 f3 c3 f4 c4 f5 c5 f6 c6
          have hst := store7 HE_4.out (.int .i64 1) (.int .i64 x) (.int .i64 y) (.int .i64 (x + dx)) (.int .i64 (y + dy)) (.int .i64 0) (.int .i64 0)
          have kk := hst.2
          have HST := Lib.hid hst.1
          clear hst
          have HKA_5 : Hid (Kp wr _ (some D)) := Lib.hid (HKA_4.out.of_own kk (by have := HP_HE.out; have := HWR.out; omega))
          have HX_5 := Lib.hid ((kk.block _ (lt_of_block HX_4.out) (by have := HP_HE.out; have := HWR.out; simp <;> omega)).trans HX_4.out)
          have HR_5 := Lib.hid ((kk.block _ (lt_of_block HR_4.out) (by have := HP_HE.out; have := HWR.out; simp <;> omega)).trans HR_4.out)
          have HE_5 := HST
          have HBs_5 := Lib.hid (HBs_4.out.keepFar kk (by have := HP_HE.out; have := HWR.out; omega) (fun q hq => by have := HOW.out q hq; have := HP_HE.out; omega))
          have HDr_5 := Lib.hid (HDr_4.out.far kk (by have := HP_HE.out; have := HWR.out; have := HDW.out; omega))
          clear kk HST HE_4 HKA_4 HBs_4 HDr_4 HX_4 HR_4
          generalize (((((((wx9.setCell ⟨wr.heap.size, 0, none⟩ (.int .i64 1)).setCell ⟨wr.heap.size, 1, none⟩ (.int .i64 x)).setCell ⟨wr.heap.size, 2, none⟩ (.int .i64 y)).setCell ⟨wr.heap.size, 3, none⟩ (.int .i64 (x + dx))).setCell ⟨wr.heap.size, 4, none⟩ (.int .i64 (y + dy))).setCell ⟨wr.heap.size, 5, none⟩ (.int .i64 0)).setCell ⟨wr.heap.size, 6, none⟩ (.int .i64 0)) = wz5 at *
          go_wp2_with fail
          go_meet
          exact HMC.out _ _ (Pl.line ⟨x, y⟩ ⟨x + dx, y + dy⟩) HE_5.out HP_HE.out (Pl.good_line HLX.out (HSL.out dx dy HNX_.out HNY_.out)) rfl (HSB.out dx dy HNX_.out HNY_.out) HKA_5.out HX_5.out HR_5.out HBs_5.out HDr_5.out
      case rest =>
        obtain ⟨p, e, rfl, hE, hpw, hge, hea, heb, hka, hx, hr, hb, hd⟩ := hcut
        have HKA_0 := Lib.hid hka
        have HX_0 := Lib.hid hx
        have HR_0 := Lib.hid hr
        have HE_0 := Lib.hid hE
        have HBs_0 := Lib.hid hb
        have HDr_0 := Lib.hid hd
        have HP_HE := Lib.hid hpw
        have HGE := Lib.hid hge
        have HEA := Lib.hid hea
        have HEB := Lib.hid heb
        clear hE hpw hge hea heb hka hx hr hb hd HX HR HB HD
        go_wp2_with fail
        refine (HNX.out 3 _ (by omega) (HK.out.trans HKA_0.out) HDr_0.out).mono ?_
        rintro E wd ⟨v0, rfl, hv, hd, kk⟩
        have HKA_1 : Hid (Kp wr wd (some D)) := Lib.hid (HKA_0.out.trans (kk))
        have HX_1 := Lib.hid (((kk).block _ (lt_of_block HX_0.out) (by have := HDW.out; have := HKA_0.out.size; simp <;> omega)).trans HX_0.out)
        have HR_1 := Lib.hid (((kk).block _ (lt_of_block HR_0.out) (by have := HDW.out; have := HKA_0.out.size; simp <;> omega)).trans HR_0.out)
        have HE_1 := Lib.hid (((kk).block _ (lt_of_block HE_0.out) (by have := HDW.out; have := HKA_0.out.size; have := HP_HE.out; have := HWR.out; simp <;> omega)).trans HE_0.out)
        have HBs_1 := Lib.hid (HBs_0.out.keepRow (kk) (by have := HDW.out; omega))
        have HDr_1 := Lib.hid hd
        have HV_v0 := Lib.hid hv
        clear hv hd kk
        go_upto_if 29 with fail
        go_cut [8] from 16 to 61 (fun s8 wx => PaCut D ao n cap w wr x y k es u s8 wx)
        case first =>
          by_cases hv0 : v0 = 0
          · subst hv0
            go_wp2_with fail
            refine (HNX.out 30 _ (by omega) (HK.out.trans HKA_1.out) HDr_1.out).mono ?_
            rintro E we ⟨v1, rfl, hv, hd, kk⟩
            have HKA_2 : Hid (Kp wr we (some D)) := Lib.hid (HKA_1.out.trans (kk))
            have HX_2 := Lib.hid (((kk).block _ (lt_of_block HX_1.out) (by have := HDW.out; have := HKA_1.out.size; simp <;> omega)).trans HX_1.out)
            have HR_2 := Lib.hid (((kk).block _ (lt_of_block HR_1.out) (by have := HDW.out; have := HKA_1.out.size; simp <;> omega)).trans HR_1.out)
            have HE_2 := Lib.hid (((kk).block _ (lt_of_block HE_1.out) (by have := HDW.out; have := HKA_1.out.size; have := HP_HE.out; have := HWR.out; simp <;> omega)).trans HE_1.out)
            have HBs_2 := Lib.hid (HBs_1.out.keepRow (kk) (by have := HDW.out; omega))
            have HDr_2 := Lib.hid hd
            have HV_v1 := Lib.hid hv
            clear hv hd kk
            have hw1 : wrap64 (1 + v1) = 1 + v1 := wrap_mid (by have := HV_v1.out; omega) (by have := HV_v1.out; omega)
            go_wp2_with fail
            clear hw1
            have HKA_3 : Hid (Kp wr (we.alloc (Obj.cells #[.int .i64 5, .int .i64 10, .int .i64 25, .int .i64 (1 + v1)] 3)) (some D)) := Lib.hid (HKA_2.out.trans (((Kp.refl we none).alloc (Obj.cells #[.int .i64 5, .int .i64 10, .int .i64 25, .int .i64 (1 + v1)] 3)).weak _))
            have HX_3 := Lib.hid (blk HX_2.out ((Kp.refl we none).alloc (Obj.cells #[.int .i64 5, .int .i64 10, .int .i64 25, .int .i64 (1 + v1)] 3)))
            have HR_3 := Lib.hid (blk HR_2.out ((Kp.refl we none).alloc (Obj.cells #[.int .i64 5, .int .i64 10, .int .i64 25, .int .i64 (1 + v1)] 3)))
            have HE_3 := Lib.hid (blk HE_2.out ((Kp.refl we none).alloc (Obj.cells #[.int .i64 5, .int .i64 10, .int .i64 25, .int .i64 (1 + v1)] 3)))
            have HBs_3 := Lib.hid (HBs_2.out.keep ((Kp.refl we none).alloc (Obj.cells #[.int .i64 5, .int .i64 10, .int .i64 25, .int .i64 (1 + v1)] 3)))
            have HDr_3 := Lib.hid (HDr_2.out.kp ((Kp.refl we none).alloc (Obj.cells #[.int .i64 5, .int .i64 10, .int .i64 25, .int .i64 (1 + v1)] 3)))
            have HQ4_3 := Lib.hid (heap_alloc_new we (Obj.cells #[.int .i64 5, .int .i64 10, .int .i64 25, .int .i64 (1 + v1)] 3))
            have HWE : Hid (w.heap.size ≤ we.heap.size) := Lib.hid (by have := HKA_1.out.size; have := HWR.out; have hq := HKA_2.out.size; omega)
            refine (HNX.out 4 _ (by omega) (HK.out.trans HKA_3.out) HDr_3.out).mono ?_
            rintro E wf ⟨v2, rfl, hv, hd, kk⟩
            have HKA_4 : Hid (Kp wr wf (some D)) := Lib.hid (HKA_3.out.trans (kk))
            have HX_4 := Lib.hid (((kk).block _ (lt_of_block HX_3.out) (by have := HDW.out; have := HKA_3.out.size; simp <;> omega)).trans HX_3.out)
            have HR_4 := Lib.hid (((kk).block _ (lt_of_block HR_3.out) (by have := HDW.out; have := HKA_3.out.size; simp <;> omega)).trans HR_3.out)
            have HE_4 := Lib.hid (((kk).block _ (lt_of_block HE_3.out) (by have := HDW.out; have := HKA_3.out.size; have := HP_HE.out; have := HWR.out; simp <;> omega)).trans HE_3.out)
            have HQ4_4 := Lib.hid (((kk).block _ (lt_of_block HQ4_3.out) (by have := HDW.out; have := HKA_3.out.size; have := HWE.out; simp <;> omega)).trans HQ4_3.out)
            have HBs_4 := Lib.hid (HBs_3.out.keepRow (kk) (by have := HDW.out; omega))
            have HDr_4 := Lib.hid hd
            have HV_v2 := Lib.hid hv
            clear hv hd kk
            obtain ⟨j, hj⟩ : ∃ j : Nat, v2 = (j : Int) := ⟨v2.toNat, by have := HV_v2.out; omega⟩
            subst hj
            have hj0 : (0 : Int) ≤ (j : Int) := Int.natCast_nonneg _
            have hj4 : (j : Int) < 4 := by have := HV_v2.out; omega
            have hj5 : j = 0 ∨ j = 1 ∨ j = 2 ∨ j = 3 := by omega
            obtain ⟨rad, hrad, hrr⟩ : ∃ rad : Int, wf.cell? ⟨we.heap.size, j, none⟩ = some (.int .i64 rad) ∧ (0 < rad ∧ rad ≤ 30) := by rcases hj5 with rfl | rfl | rfl | rfl; exact ⟨5, hcell HQ4_4.out 0 rfl, by omega, by omega⟩; exact ⟨10, hcell HQ4_4.out 1 rfl, by omega, by omega⟩; exact ⟨25, hcell HQ4_4.out 2 rfl, by omega, by omega⟩; exact ⟨1 + v1, hcell HQ4_4.out 3 rfl, by have := HV_v1.out; omega, by have := HV_v1.out; omega⟩
            have HRR := Lib.hid hrr
            clear hrr hj5
            go_wp2_with fail
            clear hrad hj0 hj4
            refine (HNX.out 4 _ (by omega) (HK.out.trans HKA_4.out) HDr_4.out).mono ?_
            rintro E wg ⟨tn, rfl, hv, hd, kk⟩
            have HKA_5 : Hid (Kp wr wg (some D)) := Lib.hid (HKA_4.out.trans (kk))
            have HX_5 := Lib.hid (((kk).block _ (lt_of_block HX_4.out) (by have := HDW.out; have := HKA_4.out.size; simp <;> omega)).trans HX_4.out)
            have HR_5 := Lib.hid (((kk).block _ (lt_of_block HR_4.out) (by have := HDW.out; have := HKA_4.out.size; simp <;> omega)).trans HR_4.out)
            have HE_5 := Lib.hid (((kk).block _ (lt_of_block HE_4.out) (by have := HDW.out; have := HKA_4.out.size; have := HP_HE.out; have := HWR.out; simp <;> omega)).trans HE_4.out)
            have HQ4_5 := Lib.hid (((kk).block _ (lt_of_block HQ4_4.out) (by have := HDW.out; have := HKA_4.out.size; have := HWE.out; simp <;> omega)).trans HQ4_4.out)
            have HBs_5 := Lib.hid (HBs_4.out.keepRow (kk) (by have := HDW.out; omega))
            have HDr_5 := Lib.hid hd
            have HV_tn := Lib.hid hv
            clear hv hd kk
            obtain ⟨tx, htx⟩ : ∃ z, (Pl.turn tn ⟨rad, 0⟩).x = z := ⟨_, rfl⟩
            obtain ⟨ty, hty⟩ : ∃ z, (Pl.turn tn ⟨rad, 0⟩).y = z := ⟨_, rfl⟩
            have HTB : Hid ((-30 ≤ tx ∧ tx ≤ 30) ∧ (-30 ≤ ty ∧ ty ≤ 30)) := Lib.hid (by rw [← htx, ← hty]; have := turn_lim tn rad HRR.out.1 HRR.out.2; exact this)
            have HAP : Hid (∀ V, Calls Tryz.prog 41 #[.agg #[.int .i64 0, .int .i64 0, .int .i64 tn, .bool false], .agg #[.int .i64 rad, .int .i64 0]] V fun E w' => E = .returned (.agg #[.int .i64 tx, .int .i64 ty]) ∧ Kp V w' none) := Lib.hid (fun V => by have h := rapply_any 0 0 rad 0 tn false V (by unfold Mid; omega) (by unfold Mid; omega) (by have := HRR.out; unfold Mid; omega) (by unfold Mid; omega); simpa [Pl.apply, Pl.add, htx, hty] using h)
            have HSB2 : Hid (∀ V, Calls Tryz.prog 67 #[.agg #[.int .i64 x, .int .i64 y], .agg #[.int .i64 tx, .int .i64 ty]] V fun E w' => E = .returned (.agg #[.int .i64 (x - tx), .int .i64 (y - ty)]) ∧ Kp V w' none) := Lib.hid (fun V => rsub_any x y tx ty V HMX.out HMY.out (by have := HTB.out; unfold Mid; omega) (by have := HTB.out; unfold Mid; omega))
            have HARK : Hid (∀ kd, 0 ≤ kd ∧ kd < 2 → ∀ V, Calls Tryz.prog 68 #[.agg #[.int .i64 (x - tx), .int .i64 (y - ty)], .int .i64 rad, .int .i64 tn, .int .i64 (2 + kd)] V _) := Lib.hid (fun kd h V => rarc_any (x - tx) (y - ty) rad tn (2 + kd) V (by have := HTB.out; have := HB3.out; unfold Mid; omega) (by have := HTB.out; have := HB3.out; unfold Mid; omega) (by have := HRR.out; omega) (by have := HV_tn.out; omega))
            have HGA : Hid (∀ kd, 0 ≤ kd ∧ kd < 2 → Pl.GoodE (Pl.arc ⟨x - tx, y - ty⟩ rad tn (2 + kd)) ∧ (Pl.arc ⟨x - tx, y - ty⟩ rad tn (2 + kd)).a = ⟨x, y⟩ ∧ Pl.Lim (160 + 60 * k) (Pl.arc ⟨x - tx, y - ty⟩ rad tn (2 + kd)).b) := Lib.hid (fun kd h => arc_at htx hty HRR.out.1 HRR.out.2 HLIM.out (by have := HB3.out; omega) h)
            have HNX2 := Lib.hid (fun V => HNX.out 2 V (by omega))
            clear htx hty
            go_wp2_with fail
            have HKA_6 : Hid (Kp wr wg.drew (some D)) := Lib.hid (HKA_5.out.trans (((Kp.refl wg none).drew).weak _))
            have HX_6 := Lib.hid (blk HX_5.out ((Kp.refl wg none).drew))
            have HR_6 := Lib.hid (blk HR_5.out ((Kp.refl wg none).drew))
            have HE_6 := Lib.hid (blk HE_5.out ((Kp.refl wg none).drew))
            have HQ4_6 := Lib.hid (blk HQ4_5.out ((Kp.refl wg none).drew))
            have HBs_6 := Lib.hid (HBs_5.out.keep ((Kp.refl wg none).drew))
            have HDr_6 := Lib.hid (HDr_5.out.kp ((Kp.refl wg none).drew))
            refine wp_region_last (fun V => V.cell? ⟨w.heap.size, 0, none⟩ = some (.int .i64 x) ∧ V.cell? ⟨w.heap.size, 1, none⟩ = some (.int .i64 y) ∧ True) 8 (by kernel_rfl) ?_ (fun hHeld => ?_)
            · exact ⟨hcell HX_6.out 0 rfl, hcell HX_6.out 1 rfl, trivial⟩
            refine tkL 0 rfl ?_
            try simp only [Act.put, sm]
            refine tkL 1 rfl ?_
            try simp only [Act.put, sm]
            refine tkL 2 rfl ?_
            try simp only [Act.put, sm]
            refine tkL 3 rfl ?_
            try simp only [Act.put, sm]
            refine tkL 4 rfl ?_
            try simp only [Act.put, sm]
            refine wpAnyL_ready (rs := [5, 7]) (by kernel_rfl) (by simp) ?_
            refine AllReadyL.cons (o := _) rfl (fun K hK => ?_) (AllReadyL.cons (o := _) rfl (fun K hK => ?_) AllReadyL.nil)
            · clear hHeld
              go_simp
              refine (HAP.out _).mono ?_
              rintro E wx41 ⟨rfl, kk⟩
              have HKA_7 : Hid (Kp wr wx41 (some D)) := Lib.hid (HKA_6.out.trans ((kk).weak _))
              have HX_7 := Lib.hid (blk HX_6.out (kk))
              have HR_7 := Lib.hid (blk HR_6.out (kk))
              have HE_7 := Lib.hid (blk HE_6.out (kk))
              have HBs_7 := Lib.hid (HBs_6.out.keep (kk))
              have HDr_7 := Lib.hid (HDr_6.out.kp (kk))
              clear kk
              try go_wp2_with fail
              refine hK.out _ _ ?_ (fun hHeld => ?_)
              · exact ⟨hcell HX_7.out 0 rfl, hcell HX_7.out 1 rfl, trivial⟩
              clear hK K
              try simp only [Act.put, sm]
              refine wpAnyL_ready (rs := [6, 7]) (by kernel_rfl) (by simp) ?_
              refine AllReadyL.cons (o := _) rfl (fun K hK => ?_) (AllReadyL.cons (o := _) rfl (fun K hK => ?_) AllReadyL.nil)
              · clear hHeld
                go_simp
                refine (HSB2.out _).mono ?_
                rintro E wx42 ⟨rfl, kk⟩
                have HKA_8 : Hid (Kp wr wx42 (some D)) := Lib.hid (HKA_7.out.trans ((kk).weak _))
                have HX_8 := Lib.hid (blk HX_7.out (kk))
                have HR_8 := Lib.hid (blk HR_7.out (kk))
                have HE_8 := Lib.hid (blk HE_7.out (kk))
                have HBs_8 := Lib.hid (HBs_7.out.keep (kk))
                have HDr_8 := Lib.hid (HDr_7.out.kp (kk))
                clear kk
                try go_wp2_with fail
                refine hK.out _ _ ?_ (fun hHeld => ?_)
                · exact ⟨hcell HX_8.out 0 rfl, hcell HX_8.out 1 rfl, trivial⟩
                clear hK K
                try simp only [Act.put, sm]
                refine wpAnyL_ready (rs := [7]) (by kernel_rfl) (by simp) ?_
                refine AllReadyL.cons (o := _) rfl (fun K hK => ?_) AllReadyL.nil
                clear hHeld
                have HPE : Hid (p < wx42.heap.size) := Lib.hid (lt_of_block HE_8.out)
                go_simp
                have HKA_9 : Hid (Kp wr (wx42.alloc (Obj.cells #[.int .i64 0, .int .i64 0] 37)) (some D)) := Lib.hid (HKA_8.out.trans (((Kp.refl wx42 none).alloc (Obj.cells #[.int .i64 0, .int .i64 0] 37)).weak _))
                have HX_9 := Lib.hid (blk HX_8.out ((Kp.refl wx42 none).alloc (Obj.cells #[.int .i64 0, .int .i64 0] 37)))
                have HR_9 := Lib.hid (blk HR_8.out ((Kp.refl wx42 none).alloc (Obj.cells #[.int .i64 0, .int .i64 0] 37)))
                have HE_9 := Lib.hid (blk HE_8.out ((Kp.refl wx42 none).alloc (Obj.cells #[.int .i64 0, .int .i64 0] 37)))
                have HBs_9 := Lib.hid (HBs_8.out.keep ((Kp.refl wx42 none).alloc (Obj.cells #[.int .i64 0, .int .i64 0] 37)))
                have HDr_9 := Lib.hid (HDr_8.out.kp ((Kp.refl wx42 none).alloc (Obj.cells #[.int .i64 0, .int .i64 0] 37)))
                have HC_9 : Hid ((wx42.alloc (Obj.cells #[.int .i64 0, .int .i64 0] 37)).heap[wx42.heap.size]? = some (Obj.cells #[.int .i64 0, .int .i64 0] 37 (0, 0))) := Lib.hid (heap_alloc_new wx42 (Obj.cells #[.int .i64 0, .int .i64 0] 37))
                have HP_HC : Hid (wr.heap.size ≤ wx42.heap.size) := Lib.hid HKA_8.out.size
                try go_wp2_with fail
                refine hK.out _ _ ?_ (fun hHeld => ?_)
                · exact ⟨hcell HX_9.out 0 rfl, hcell HX_9.out 1 rfl, trivial⟩
                clear hK K
                try simp only [Act.put, sm]
                refine wpAnyL_ready (rs := [8]) (by kernel_rfl) (by simp) ?_
                refine AllReadyL.last (o := _) rfl (fun K hK => ?_)
                have f0 := Lib.frozen_of_heap HC_9.out 0
                have f1 := Lib.frozen_of_heap HC_9.out 1
                have c0 := hcell HC_9.out 0 rfl
                have c1 := hcell HC_9.out 1 rfl
                clear hHeld
                go_simp
                try go_wp2_with fail
                refine hK.out _ _ ?_
                clear hK K
                try simp only [Act.put, sm]
                refine wpAnyL_done (by kernel_rfl) ?_ _
                clear f0 f1 c0 c1
                have HKA_9 : Hid (Kp wr (wx42.alloc (Obj.cells #[.int .i64 (x - tx), .int .i64 (y - ty)] 37)) (some D)) := Lib.hid (HKA_8.out.trans (((Kp.refl wx42 none).alloc (Obj.cells #[.int .i64 (x - tx), .int .i64 (y - ty)] 37)).weak _))
                have HX_9 := Lib.hid (blk HX_8.out ((Kp.refl wx42 none).alloc (Obj.cells #[.int .i64 (x - tx), .int .i64 (y - ty)] 37)))
                have HR_9 := Lib.hid (blk HR_8.out ((Kp.refl wx42 none).alloc (Obj.cells #[.int .i64 (x - tx), .int .i64 (y - ty)] 37)))
                have HE_9 := Lib.hid (blk HE_8.out ((Kp.refl wx42 none).alloc (Obj.cells #[.int .i64 (x - tx), .int .i64 (y - ty)] 37)))
                have HBs_9 := Lib.hid (HBs_8.out.keep ((Kp.refl wx42 none).alloc (Obj.cells #[.int .i64 (x - tx), .int .i64 (y - ty)] 37)))
                have HDr_9 := Lib.hid (HDr_8.out.kp ((Kp.refl wx42 none).alloc (Obj.cells #[.int .i64 (x - tx), .int .i64 (y - ty)] 37)))
                have HC_9 := Lib.hid (heap_alloc_new wx42 (Obj.cells #[.int .i64 (x - tx), .int .i64 (y - ty)] 37))
                generalize wx42.alloc (Obj.cells #[.int .i64 (x - tx), .int .i64 (y - ty)] 37) = wz9 at *
                go_wp2_with fail
                have HKA_11 : Hid (Kp wr wz9.drew (some D)) := Lib.hid (HKA_9.out.trans (((Kp.refl wz9 none).drew).weak _))
                have HX_11 := Lib.hid (blk HX_9.out ((Kp.refl wz9 none).drew))
                have HR_11 := Lib.hid (blk HR_9.out ((Kp.refl wz9 none).drew))
                have HE_11 := Lib.hid (blk HE_9.out ((Kp.refl wz9 none).drew))
                have HC_11 := Lib.hid (blk HC_9.out ((Kp.refl wz9 none).drew))
                have HBs_11 := Lib.hid (HBs_9.out.keep ((Kp.refl wz9 none).drew))
                have HDr_11 := Lib.hid (HDr_9.out.kp ((Kp.refl wz9 none).drew))
                refine wp_region_last (fun V => V.cell? ⟨wx42.heap.size, 0, none⟩ = some (.int .i64 (x - tx)) ∧ V.cell? ⟨wx42.heap.size, 1, none⟩ = some (.int .i64 (y - ty)) ∧ True) 7 (by kernel_rfl) ?_ (fun hHeld => ?_)
                · exact ⟨hcell HC_11.out 0 rfl, hcell HC_11.out 1 rfl, trivial⟩
                refine tkL 0 rfl ?_
                try simp only [Act.put, sm]
                refine tkL 1 rfl ?_
                try simp only [Act.put, sm]
                refine tkL 2 rfl ?_
                try simp only [Act.put, sm]
                refine tkL 3 rfl ?_
                try simp only [Act.put, sm]
                refine wpAnyL_ready (rs := [4]) (by kernel_rfl) (by simp) ?_
                refine AllReadyL.cons (o := _) rfl (fun K hK => ?_) AllReadyL.nil
                clear hHeld
                go_simp
                refine (HNX2.out _ (HK.out.trans HKA_11.out) HDr_11.out).mono ?_
                rintro E wx63 ⟨kd, rfl, hv, hd, kk⟩
                have HKA_12 : Hid (Kp wr wx63 (some D)) := Lib.hid (HKA_11.out.trans (kk))
                have HX_12 := Lib.hid (((kk).block _ (lt_of_block HX_11.out) (by have := HDW.out; have := HKA_11.out.size; simp <;> omega)).trans HX_11.out)
                have HR_12 := Lib.hid (((kk).block _ (lt_of_block HR_11.out) (by have := HDW.out; have := HKA_11.out.size; simp <;> omega)).trans HR_11.out)
                have HE_12 := Lib.hid (((kk).block _ (lt_of_block HE_11.out) (by have := HDW.out; have := HKA_11.out.size; have := HP_HE.out; have := HWR.out; simp <;> omega)).trans HE_11.out)
                have HC_12 := Lib.hid (((kk).block _ (lt_of_block HC_11.out) (by have := HDW.out; have := HKA_11.out.size; have := HP_HC.out; have := HWR.out; simp <;> omega)).trans HC_11.out)
                have HBs_12 := Lib.hid (HBs_11.out.keepRow (kk) (by have := HDW.out; omega))
                have HDr_12 := Lib.hid hd
                have HV_kd := Lib.hid hv
                clear hv hd kk
                have hw2 : IntKind.i64.wrap (2 + kd) = 2 + kd := by have := HV_kd.out; rw [IntKind.wrap_i64]; omega
                try go_wp2_with fail
                refine hK.out _ _ ?_ (fun hHeld => ?_)
                · exact ⟨hcell HC_12.out 0 rfl, hcell HC_12.out 1 rfl, trivial⟩
                clear hK K
                try simp only [Act.put, sm]
                refine tkL 5 rfl ?_
                try simp only [Act.put, sm]
                refine wpAnyL_ready (rs := [6]) (by kernel_rfl) (by simp) ?_
                refine AllReadyL.cons (o := _) rfl (fun K hK => ?_) AllReadyL.nil
                clear hHeld
                go_simp
                refine (HARK.out kd HV_kd.out _).mono ?_
                rintro E wx64 ⟨rfl, kk⟩
                have HKA_13 : Hid (Kp wr wx64 (some D)) := Lib.hid (HKA_12.out.trans ((kk).weak _))
                have HX_13 := Lib.hid (blk HX_12.out (kk))
                have HR_13 := Lib.hid (blk HR_12.out (kk))
                have HE_13 := Lib.hid (blk HE_12.out (kk))
                have HC_13 := Lib.hid (blk HC_12.out (kk))
                have HBs_13 := Lib.hid (HBs_12.out.keep (kk))
                have HDr_13 := Lib.hid (HDr_12.out.kp (kk))
                clear kk
                try go_wp2_with fail
                refine hK.out _ _ ?_ (fun hHeld => ?_)
                · exact ⟨hcell HC_13.out 0 rfl, hcell HC_13.out 1 rfl, trivial⟩
                clear hK K
                try simp only [Act.put, sm]
                refine wpAnyL_ready (rs := [7]) (by kernel_rfl) (by simp) ?_
                refine AllReadyL.last (o := _) rfl (fun K hK => ?_)
                have f0 := Lib.frozen_of_heap HE_13.out 0
                have f1 := Lib.frozen_of_heap HE_13.out 1
                have f2 := Lib.frozen_of_heap HE_13.out 2
                have f3 := Lib.frozen_of_heap HE_13.out 3
                have f4 := Lib.frozen_of_heap HE_13.out 4
                have f5 := Lib.frozen_of_heap HE_13.out 5
                have f6 := Lib.frozen_of_heap HE_13.out 6
                have c0 := hcell HE_13.out 0 rfl
                have c1 := hcell HE_13.out 1 rfl
                have c2 := hcell HE_13.out 2 rfl
                have c3 := hcell HE_13.out 3 rfl
                have c4 := hcell HE_13.out 4 rfl
                have c5 := hcell HE_13.out 5 rfl
                have c6 := hcell HE_13.out 6 rfl
                clear hHeld
                go_simp
                try go_wp2_with fail
                refine hK.out _ _ ?_
                clear hK K
                try simp only [Act.put, sm]
                refine wpAnyL_done (by kernel_rfl) ?_ _
                clear f0 c0 f1 c1 f2 c2 f3 c3 f4 c4 f5 c5 f6 c6
                have hst := store7 HE_13.out (.int .i64 (2 + kd)) (.int .i64 (Pl.arc ⟨x - tx, y - ty⟩ rad tn (2 + kd)).a.x) (.int .i64 (Pl.arc ⟨x - tx, y - ty⟩ rad tn (2 + kd)).a.y) (.int .i64 (Pl.arc ⟨x - tx, y - ty⟩ rad tn (2 + kd)).b.x) (.int .i64 (Pl.arc ⟨x - tx, y - ty⟩ rad tn (2 + kd)).b.y) (.int .i64 (x - tx)) (.int .i64 (y - ty))
                have kk := hst.2
                have HST := Lib.hid hst.1
                clear hst
                have HKA_14 : Hid (Kp wr _ (some D)) := Lib.hid (HKA_13.out.of_own kk (by have := HP_HE.out; have := HWR.out; omega))
                have HX_14 := Lib.hid ((kk.block _ (lt_of_block HX_13.out) (by have := HP_HE.out; have := HWR.out; have := HPE.out; simp <;> omega)).trans HX_13.out)
                have HR_14 := Lib.hid ((kk.block _ (lt_of_block HR_13.out) (by have := HP_HE.out; have := HWR.out; have := HPE.out; simp <;> omega)).trans HR_13.out)
                have HE_14 := HST
                have HC_14 := Lib.hid ((kk.block _ (lt_of_block HC_13.out) (by have := HP_HE.out; have := HWR.out; have := HPE.out; simp <;> omega)).trans HC_13.out)
                have HBs_14 := Lib.hid (HBs_13.out.keepFar kk (by have := HP_HE.out; have := HWR.out; omega) (fun q hq => by have := HOW.out q hq; have := HP_HE.out; omega))
                have HDr_14 := Lib.hid (HDr_13.out.far kk (by have := HP_HE.out; have := HWR.out; have := HDW.out; omega))
                clear kk HST HE_13 HKA_13 HBs_13 HDr_13 HX_13 HR_13 HC_13
                generalize (((((((wx64.setCell ⟨p, 0, none⟩ (.int .i64 (2 + kd))).setCell ⟨p, 1, none⟩ (.int .i64 (Pl.arc ⟨x - tx, y - ty⟩ rad tn (2 + kd)).a.x)).setCell ⟨p, 2, none⟩ (.int .i64 (Pl.arc ⟨x - tx, y - ty⟩ rad tn (2 + kd)).a.y)).setCell ⟨p, 3, none⟩ (.int .i64 (Pl.arc ⟨x - tx, y - ty⟩ rad tn (2 + kd)).b.x)).setCell ⟨p, 4, none⟩ (.int .i64 (Pl.arc ⟨x - tx, y - ty⟩ rad tn (2 + kd)).b.y)).setCell ⟨p, 5, none⟩ (.int .i64 (x - tx))).setCell ⟨p, 6, none⟩ (.int .i64 (y - ty))) = wz14 at *
                go_wp2_with fail
                go_meet
                exact HMC.out _ _ (Pl.arc ⟨x - tx, y - ty⟩ rad tn (2 + kd)) HE_14.out HP_HE.out (HGA.out kd HV_kd.out).1 (HGA.out kd HV_kd.out).2.1 (HGA.out kd HV_kd.out).2.2 HKA_14.out HX_14.out HR_14.out HBs_14.out HDr_14.out
              · clear hHeld
                have HPE : Hid (p < wx41.heap.size) := Lib.hid (lt_of_block HE_7.out)
                go_simp
                have HKA_8 : Hid (Kp wr (wx41.alloc (Obj.cells #[.int .i64 0, .int .i64 0] 37)) (some D)) := Lib.hid (HKA_7.out.trans (((Kp.refl wx41 none).alloc (Obj.cells #[.int .i64 0, .int .i64 0] 37)).weak _))
                have HX_8 := Lib.hid (blk HX_7.out ((Kp.refl wx41 none).alloc (Obj.cells #[.int .i64 0, .int .i64 0] 37)))
                have HR_8 := Lib.hid (blk HR_7.out ((Kp.refl wx41 none).alloc (Obj.cells #[.int .i64 0, .int .i64 0] 37)))
                have HE_8 := Lib.hid (blk HE_7.out ((Kp.refl wx41 none).alloc (Obj.cells #[.int .i64 0, .int .i64 0] 37)))
                have HBs_8 := Lib.hid (HBs_7.out.keep ((Kp.refl wx41 none).alloc (Obj.cells #[.int .i64 0, .int .i64 0] 37)))
                have HDr_8 := Lib.hid (HDr_7.out.kp ((Kp.refl wx41 none).alloc (Obj.cells #[.int .i64 0, .int .i64 0] 37)))
                have HC_8 : Hid ((wx41.alloc (Obj.cells #[.int .i64 0, .int .i64 0] 37)).heap[wx41.heap.size]? = some (Obj.cells #[.int .i64 0, .int .i64 0] 37 (0, 0))) := Lib.hid (heap_alloc_new wx41 (Obj.cells #[.int .i64 0, .int .i64 0] 37))
                have HP_HC : Hid (wr.heap.size ≤ wx41.heap.size) := Lib.hid HKA_7.out.size
                try go_wp2_with fail
                refine hK.out _ _ ?_ (fun hHeld => ?_)
                · exact ⟨hcell HX_8.out 0 rfl, hcell HX_8.out 1 rfl, trivial⟩
                clear hK K
                try simp only [Act.put, sm]
                refine wpAnyL_ready (rs := [6]) (by kernel_rfl) (by simp) ?_
                refine AllReadyL.cons (o := _) rfl (fun K hK => ?_) AllReadyL.nil
                clear hHeld
                go_simp
                refine (HSB2.out _).mono ?_
                rintro E wx43 ⟨rfl, kk⟩
                have HKA_9 : Hid (Kp wr wx43 (some D)) := Lib.hid (HKA_8.out.trans ((kk).weak _))
                have HX_9 := Lib.hid (blk HX_8.out (kk))
                have HR_9 := Lib.hid (blk HR_8.out (kk))
                have HE_9 := Lib.hid (blk HE_8.out (kk))
                have HC_9 := Lib.hid (blk HC_8.out (kk))
                have HBs_9 := Lib.hid (HBs_8.out.keep (kk))
                have HDr_9 := Lib.hid (HDr_8.out.kp (kk))
                clear kk
                try go_wp2_with fail
                refine hK.out _ _ ?_ (fun hHeld => ?_)
                · exact ⟨hcell HX_9.out 0 rfl, hcell HX_9.out 1 rfl, trivial⟩
                clear hK K
                try simp only [Act.put, sm]
                refine wpAnyL_ready (rs := [8]) (by kernel_rfl) (by simp) ?_
                refine AllReadyL.last (o := _) rfl (fun K hK => ?_)
                have f0 := Lib.frozen_of_heap HC_9.out 0
                have f1 := Lib.frozen_of_heap HC_9.out 1
                have c0 := hcell HC_9.out 0 rfl
                have c1 := hcell HC_9.out 1 rfl
                clear hHeld
                go_simp
                try go_wp2_with fail
                refine hK.out _ _ ?_
                clear hK K
                try simp only [Act.put, sm]
                refine wpAnyL_done (by kernel_rfl) ?_ _
                clear f0 f1 c0 c1
                have hst := store2 HC_9.out (.int .i64 (x - tx)) (.int .i64 (y - ty))
                have kk := hst.2
                have HST := Lib.hid hst.1
                clear hst
                have HKA_10 : Hid (Kp wr _ (some D)) := Lib.hid (HKA_9.out.of_own kk (by have := HP_HC.out; have := HWR.out; omega))
                have HX_10 := Lib.hid ((kk.block _ (lt_of_block HX_9.out) (by have := HP_HC.out; have := HWR.out; have := HPE.out; simp <;> omega)).trans HX_9.out)
                have HR_10 := Lib.hid ((kk.block _ (lt_of_block HR_9.out) (by have := HP_HC.out; have := HWR.out; have := HPE.out; simp <;> omega)).trans HR_9.out)
                have HE_10 := Lib.hid ((kk.block _ (lt_of_block HE_9.out) (by have := HP_HC.out; have := HWR.out; have := HPE.out; simp <;> omega)).trans HE_9.out)
                have HC_10 := HST
                have HBs_10 := Lib.hid (HBs_9.out.keepFar kk (by have := HP_HC.out; have := HWR.out; omega) (fun q hq => by have := HOW.out q hq; have := HP_HC.out; omega))
                have HDr_10 := Lib.hid (HDr_9.out.far kk (by have := HP_HC.out; have := HWR.out; have := HDW.out; omega))
                clear kk HST HC_9 HKA_9 HBs_9 HDr_9 HX_9 HR_9 HE_9
                generalize ((wx43.setCell ⟨wx41.heap.size, 0, none⟩ (.int .i64 (x - tx))).setCell ⟨wx41.heap.size, 1, none⟩ (.int .i64 (y - ty))) = wz10 at *
                go_wp2_with fail
                have HKA_11 : Hid (Kp wr wz10.drew (some D)) := Lib.hid (HKA_10.out.trans (((Kp.refl wz10 none).drew).weak _))
                have HX_11 := Lib.hid (blk HX_10.out ((Kp.refl wz10 none).drew))
                have HR_11 := Lib.hid (blk HR_10.out ((Kp.refl wz10 none).drew))
                have HE_11 := Lib.hid (blk HE_10.out ((Kp.refl wz10 none).drew))
                have HC_11 := Lib.hid (blk HC_10.out ((Kp.refl wz10 none).drew))
                have HBs_11 := Lib.hid (HBs_10.out.keep ((Kp.refl wz10 none).drew))
                have HDr_11 := Lib.hid (HDr_10.out.kp ((Kp.refl wz10 none).drew))
                refine wp_region_last (fun V => V.cell? ⟨wx41.heap.size, 0, none⟩ = some (.int .i64 (x - tx)) ∧ V.cell? ⟨wx41.heap.size, 1, none⟩ = some (.int .i64 (y - ty)) ∧ True) 7 (by kernel_rfl) ?_ (fun hHeld => ?_)
                · exact ⟨hcell HC_11.out 0 rfl, hcell HC_11.out 1 rfl, trivial⟩
                refine tkL 0 rfl ?_
                try simp only [Act.put, sm]
                refine tkL 1 rfl ?_
                try simp only [Act.put, sm]
                refine tkL 2 rfl ?_
                try simp only [Act.put, sm]
                refine tkL 3 rfl ?_
                try simp only [Act.put, sm]
                refine wpAnyL_ready (rs := [4]) (by kernel_rfl) (by simp) ?_
                refine AllReadyL.cons (o := _) rfl (fun K hK => ?_) AllReadyL.nil
                clear hHeld
                go_simp
                refine (HNX2.out _ (HK.out.trans HKA_11.out) HDr_11.out).mono ?_
                rintro E wx64 ⟨kd, rfl, hv, hd, kk⟩
                have HKA_12 : Hid (Kp wr wx64 (some D)) := Lib.hid (HKA_11.out.trans (kk))
                have HX_12 := Lib.hid (((kk).block _ (lt_of_block HX_11.out) (by have := HDW.out; have := HKA_11.out.size; simp <;> omega)).trans HX_11.out)
                have HR_12 := Lib.hid (((kk).block _ (lt_of_block HR_11.out) (by have := HDW.out; have := HKA_11.out.size; simp <;> omega)).trans HR_11.out)
                have HE_12 := Lib.hid (((kk).block _ (lt_of_block HE_11.out) (by have := HDW.out; have := HKA_11.out.size; have := HP_HE.out; have := HWR.out; simp <;> omega)).trans HE_11.out)
                have HC_12 := Lib.hid (((kk).block _ (lt_of_block HC_11.out) (by have := HDW.out; have := HKA_11.out.size; have := HP_HC.out; have := HWR.out; simp <;> omega)).trans HC_11.out)
                have HBs_12 := Lib.hid (HBs_11.out.keepRow (kk) (by have := HDW.out; omega))
                have HDr_12 := Lib.hid hd
                have HV_kd := Lib.hid hv
                clear hv hd kk
                have hw2 : IntKind.i64.wrap (2 + kd) = 2 + kd := by have := HV_kd.out; rw [IntKind.wrap_i64]; omega
                try go_wp2_with fail
                refine hK.out _ _ ?_ (fun hHeld => ?_)
                · exact ⟨hcell HC_12.out 0 rfl, hcell HC_12.out 1 rfl, trivial⟩
                clear hK K
                try simp only [Act.put, sm]
                refine tkL 5 rfl ?_
                try simp only [Act.put, sm]
                refine wpAnyL_ready (rs := [6]) (by kernel_rfl) (by simp) ?_
                refine AllReadyL.cons (o := _) rfl (fun K hK => ?_) AllReadyL.nil
                clear hHeld
                go_simp
                refine (HARK.out kd HV_kd.out _).mono ?_
                rintro E wx65 ⟨rfl, kk⟩
                have HKA_13 : Hid (Kp wr wx65 (some D)) := Lib.hid (HKA_12.out.trans ((kk).weak _))
                have HX_13 := Lib.hid (blk HX_12.out (kk))
                have HR_13 := Lib.hid (blk HR_12.out (kk))
                have HE_13 := Lib.hid (blk HE_12.out (kk))
                have HC_13 := Lib.hid (blk HC_12.out (kk))
                have HBs_13 := Lib.hid (HBs_12.out.keep (kk))
                have HDr_13 := Lib.hid (HDr_12.out.kp (kk))
                clear kk
                try go_wp2_with fail
                refine hK.out _ _ ?_ (fun hHeld => ?_)
                · exact ⟨hcell HC_13.out 0 rfl, hcell HC_13.out 1 rfl, trivial⟩
                clear hK K
                try simp only [Act.put, sm]
                refine wpAnyL_ready (rs := [7]) (by kernel_rfl) (by simp) ?_
                refine AllReadyL.last (o := _) rfl (fun K hK => ?_)
                have f0 := Lib.frozen_of_heap HE_13.out 0
                have f1 := Lib.frozen_of_heap HE_13.out 1
                have f2 := Lib.frozen_of_heap HE_13.out 2
                have f3 := Lib.frozen_of_heap HE_13.out 3
                have f4 := Lib.frozen_of_heap HE_13.out 4
                have f5 := Lib.frozen_of_heap HE_13.out 5
                have f6 := Lib.frozen_of_heap HE_13.out 6
                have c0 := hcell HE_13.out 0 rfl
                have c1 := hcell HE_13.out 1 rfl
                have c2 := hcell HE_13.out 2 rfl
                have c3 := hcell HE_13.out 3 rfl
                have c4 := hcell HE_13.out 4 rfl
                have c5 := hcell HE_13.out 5 rfl
                have c6 := hcell HE_13.out 6 rfl
                clear hHeld
                go_simp
                try go_wp2_with fail
                refine hK.out _ _ ?_
                clear hK K
                try simp only [Act.put, sm]
                refine wpAnyL_done (by kernel_rfl) ?_ _
                clear f0 c0 f1 c1 f2 c2 f3 c3 f4 c4 f5 c5 f6 c6
                have hst := store7 HE_13.out (.int .i64 (2 + kd)) (.int .i64 (Pl.arc ⟨x - tx, y - ty⟩ rad tn (2 + kd)).a.x) (.int .i64 (Pl.arc ⟨x - tx, y - ty⟩ rad tn (2 + kd)).a.y) (.int .i64 (Pl.arc ⟨x - tx, y - ty⟩ rad tn (2 + kd)).b.x) (.int .i64 (Pl.arc ⟨x - tx, y - ty⟩ rad tn (2 + kd)).b.y) (.int .i64 (x - tx)) (.int .i64 (y - ty))
                have kk := hst.2
                have HST := Lib.hid hst.1
                clear hst
                have HKA_14 : Hid (Kp wr _ (some D)) := Lib.hid (HKA_13.out.of_own kk (by have := HP_HE.out; have := HWR.out; omega))
                have HX_14 := Lib.hid ((kk.block _ (lt_of_block HX_13.out) (by have := HP_HE.out; have := HWR.out; have := HPE.out; simp <;> omega)).trans HX_13.out)
                have HR_14 := Lib.hid ((kk.block _ (lt_of_block HR_13.out) (by have := HP_HE.out; have := HWR.out; have := HPE.out; simp <;> omega)).trans HR_13.out)
                have HE_14 := HST
                have HC_14 := Lib.hid ((kk.block _ (lt_of_block HC_13.out) (by have := HP_HE.out; have := HWR.out; have := HPE.out; simp <;> omega)).trans HC_13.out)
                have HBs_14 := Lib.hid (HBs_13.out.keepFar kk (by have := HP_HE.out; have := HWR.out; omega) (fun q hq => by have := HOW.out q hq; have := HP_HE.out; omega))
                have HDr_14 := Lib.hid (HDr_13.out.far kk (by have := HP_HE.out; have := HWR.out; have := HDW.out; omega))
                clear kk HST HE_13 HKA_13 HBs_13 HDr_13 HX_13 HR_13 HC_13
                generalize (((((((wx65.setCell ⟨p, 0, none⟩ (.int .i64 (2 + kd))).setCell ⟨p, 1, none⟩ (.int .i64 (Pl.arc ⟨x - tx, y - ty⟩ rad tn (2 + kd)).a.x)).setCell ⟨p, 2, none⟩ (.int .i64 (Pl.arc ⟨x - tx, y - ty⟩ rad tn (2 + kd)).a.y)).setCell ⟨p, 3, none⟩ (.int .i64 (Pl.arc ⟨x - tx, y - ty⟩ rad tn (2 + kd)).b.x)).setCell ⟨p, 4, none⟩ (.int .i64 (Pl.arc ⟨x - tx, y - ty⟩ rad tn (2 + kd)).b.y)).setCell ⟨p, 5, none⟩ (.int .i64 (x - tx))).setCell ⟨p, 6, none⟩ (.int .i64 (y - ty))) = wz14 at *
                go_wp2_with fail
                go_meet
                exact HMC.out _ _ (Pl.arc ⟨x - tx, y - ty⟩ rad tn (2 + kd)) HE_14.out HP_HE.out (HGA.out kd HV_kd.out).1 (HGA.out kd HV_kd.out).2.1 (HGA.out kd HV_kd.out).2.2 HKA_14.out HX_14.out HR_14.out HBs_14.out HDr_14.out
            · clear hHeld
              have HPE : Hid (p < wg.heap.size) := Lib.hid (lt_of_block HE_6.out)
              go_simp
              have HKA_7 : Hid (Kp wr (wg.drew.alloc (Obj.cells #[.int .i64 0, .int .i64 0] 37)) (some D)) := Lib.hid (HKA_6.out.trans (((Kp.refl wg.drew none).alloc (Obj.cells #[.int .i64 0, .int .i64 0] 37)).weak _))
              have HX_7 := Lib.hid (blk HX_6.out ((Kp.refl wg.drew none).alloc (Obj.cells #[.int .i64 0, .int .i64 0] 37)))
              have HR_7 := Lib.hid (blk HR_6.out ((Kp.refl wg.drew none).alloc (Obj.cells #[.int .i64 0, .int .i64 0] 37)))
              have HE_7 := Lib.hid (blk HE_6.out ((Kp.refl wg.drew none).alloc (Obj.cells #[.int .i64 0, .int .i64 0] 37)))
              have HBs_7 := Lib.hid (HBs_6.out.keep ((Kp.refl wg.drew none).alloc (Obj.cells #[.int .i64 0, .int .i64 0] 37)))
              have HDr_7 := Lib.hid (HDr_6.out.kp ((Kp.refl wg.drew none).alloc (Obj.cells #[.int .i64 0, .int .i64 0] 37)))
              have HC_7 : Hid ((wg.drew.alloc (Obj.cells #[.int .i64 0, .int .i64 0] 37)).heap[wg.heap.size]? = some (Obj.cells #[.int .i64 0, .int .i64 0] 37 (0, 0))) := Lib.hid (heap_alloc_new wg.drew (Obj.cells #[.int .i64 0, .int .i64 0] 37))
              have HP_HC : Hid (wr.heap.size ≤ wg.heap.size) := Lib.hid HKA_6.out.size
              try go_wp2_with fail
              refine hK.out _ _ ?_ (fun hHeld => ?_)
              · exact ⟨hcell HX_7.out 0 rfl, hcell HX_7.out 1 rfl, trivial⟩
              clear hK K
              try simp only [Act.put, sm]
              refine wpAnyL_ready (rs := [5]) (by kernel_rfl) (by simp) ?_
              refine AllReadyL.cons (o := _) rfl (fun K hK => ?_) AllReadyL.nil
              clear hHeld
              go_simp
              refine (HAP.out _).mono ?_
              rintro E wx44 ⟨rfl, kk⟩
              have HKA_8 : Hid (Kp wr wx44 (some D)) := Lib.hid (HKA_7.out.trans ((kk).weak _))
              have HX_8 := Lib.hid (blk HX_7.out (kk))
              have HR_8 := Lib.hid (blk HR_7.out (kk))
              have HE_8 := Lib.hid (blk HE_7.out (kk))
              have HC_8 := Lib.hid (blk HC_7.out (kk))
              have HBs_8 := Lib.hid (HBs_7.out.keep (kk))
              have HDr_8 := Lib.hid (HDr_7.out.kp (kk))
              clear kk
              try go_wp2_with fail
              refine hK.out _ _ ?_ (fun hHeld => ?_)
              · exact ⟨hcell HX_8.out 0 rfl, hcell HX_8.out 1 rfl, trivial⟩
              clear hK K
              try simp only [Act.put, sm]
              refine wpAnyL_ready (rs := [6]) (by kernel_rfl) (by simp) ?_
              refine AllReadyL.cons (o := _) rfl (fun K hK => ?_) AllReadyL.nil
              clear hHeld
              go_simp
              refine (HSB2.out _).mono ?_
              rintro E wx45 ⟨rfl, kk⟩
              have HKA_9 : Hid (Kp wr wx45 (some D)) := Lib.hid (HKA_8.out.trans ((kk).weak _))
              have HX_9 := Lib.hid (blk HX_8.out (kk))
              have HR_9 := Lib.hid (blk HR_8.out (kk))
              have HE_9 := Lib.hid (blk HE_8.out (kk))
              have HC_9 := Lib.hid (blk HC_8.out (kk))
              have HBs_9 := Lib.hid (HBs_8.out.keep (kk))
              have HDr_9 := Lib.hid (HDr_8.out.kp (kk))
              clear kk
              try go_wp2_with fail
              refine hK.out _ _ ?_ (fun hHeld => ?_)
              · exact ⟨hcell HX_9.out 0 rfl, hcell HX_9.out 1 rfl, trivial⟩
              clear hK K
              try simp only [Act.put, sm]
              refine wpAnyL_ready (rs := [8]) (by kernel_rfl) (by simp) ?_
              refine AllReadyL.last (o := _) rfl (fun K hK => ?_)
              have f0 := Lib.frozen_of_heap HC_9.out 0
              have f1 := Lib.frozen_of_heap HC_9.out 1
              have c0 := hcell HC_9.out 0 rfl
              have c1 := hcell HC_9.out 1 rfl
              clear hHeld
              go_simp
              try go_wp2_with fail
              refine hK.out _ _ ?_
              clear hK K
              try simp only [Act.put, sm]
              refine wpAnyL_done (by kernel_rfl) ?_ _
              clear f0 f1 c0 c1
              have hst := store2 HC_9.out (.int .i64 (x - tx)) (.int .i64 (y - ty))
              have kk := hst.2
              have HST := Lib.hid hst.1
              clear hst
              have HKA_10 : Hid (Kp wr _ (some D)) := Lib.hid (HKA_9.out.of_own kk (by have := HP_HC.out; have := HWR.out; omega))
              have HX_10 := Lib.hid ((kk.block _ (lt_of_block HX_9.out) (by have := HP_HC.out; have := HWR.out; have := HPE.out; simp <;> omega)).trans HX_9.out)
              have HR_10 := Lib.hid ((kk.block _ (lt_of_block HR_9.out) (by have := HP_HC.out; have := HWR.out; have := HPE.out; simp <;> omega)).trans HR_9.out)
              have HE_10 := Lib.hid ((kk.block _ (lt_of_block HE_9.out) (by have := HP_HC.out; have := HWR.out; have := HPE.out; simp <;> omega)).trans HE_9.out)
              have HC_10 := HST
              have HBs_10 := Lib.hid (HBs_9.out.keepFar kk (by have := HP_HC.out; have := HWR.out; omega) (fun q hq => by have := HOW.out q hq; have := HP_HC.out; omega))
              have HDr_10 := Lib.hid (HDr_9.out.far kk (by have := HP_HC.out; have := HWR.out; have := HDW.out; omega))
              clear kk HST HC_9 HKA_9 HBs_9 HDr_9 HX_9 HR_9 HE_9
              generalize ((wx45.setCell ⟨wg.heap.size, 0, none⟩ (.int .i64 (x - tx))).setCell ⟨wg.heap.size, 1, none⟩ (.int .i64 (y - ty))) = wz10 at *
              go_wp2_with fail
              have HKA_11 : Hid (Kp wr wz10.drew (some D)) := Lib.hid (HKA_10.out.trans (((Kp.refl wz10 none).drew).weak _))
              have HX_11 := Lib.hid (blk HX_10.out ((Kp.refl wz10 none).drew))
              have HR_11 := Lib.hid (blk HR_10.out ((Kp.refl wz10 none).drew))
              have HE_11 := Lib.hid (blk HE_10.out ((Kp.refl wz10 none).drew))
              have HC_11 := Lib.hid (blk HC_10.out ((Kp.refl wz10 none).drew))
              have HBs_11 := Lib.hid (HBs_10.out.keep ((Kp.refl wz10 none).drew))
              have HDr_11 := Lib.hid (HDr_10.out.kp ((Kp.refl wz10 none).drew))
              refine wp_region_last (fun V => V.cell? ⟨wg.heap.size, 0, none⟩ = some (.int .i64 (x - tx)) ∧ V.cell? ⟨wg.heap.size, 1, none⟩ = some (.int .i64 (y - ty)) ∧ True) 7 (by kernel_rfl) ?_ (fun hHeld => ?_)
              · exact ⟨hcell HC_11.out 0 rfl, hcell HC_11.out 1 rfl, trivial⟩
              refine tkL 0 rfl ?_
              try simp only [Act.put, sm]
              refine tkL 1 rfl ?_
              try simp only [Act.put, sm]
              refine tkL 2 rfl ?_
              try simp only [Act.put, sm]
              refine tkL 3 rfl ?_
              try simp only [Act.put, sm]
              refine wpAnyL_ready (rs := [4]) (by kernel_rfl) (by simp) ?_
              refine AllReadyL.cons (o := _) rfl (fun K hK => ?_) AllReadyL.nil
              clear hHeld
              go_simp
              refine (HNX2.out _ (HK.out.trans HKA_11.out) HDr_11.out).mono ?_
              rintro E wx66 ⟨kd, rfl, hv, hd, kk⟩
              have HKA_12 : Hid (Kp wr wx66 (some D)) := Lib.hid (HKA_11.out.trans (kk))
              have HX_12 := Lib.hid (((kk).block _ (lt_of_block HX_11.out) (by have := HDW.out; have := HKA_11.out.size; simp <;> omega)).trans HX_11.out)
              have HR_12 := Lib.hid (((kk).block _ (lt_of_block HR_11.out) (by have := HDW.out; have := HKA_11.out.size; simp <;> omega)).trans HR_11.out)
              have HE_12 := Lib.hid (((kk).block _ (lt_of_block HE_11.out) (by have := HDW.out; have := HKA_11.out.size; have := HP_HE.out; have := HWR.out; simp <;> omega)).trans HE_11.out)
              have HC_12 := Lib.hid (((kk).block _ (lt_of_block HC_11.out) (by have := HDW.out; have := HKA_11.out.size; have := HP_HC.out; have := HWR.out; simp <;> omega)).trans HC_11.out)
              have HBs_12 := Lib.hid (HBs_11.out.keepRow (kk) (by have := HDW.out; omega))
              have HDr_12 := Lib.hid hd
              have HV_kd := Lib.hid hv
              clear hv hd kk
              have hw2 : IntKind.i64.wrap (2 + kd) = 2 + kd := by have := HV_kd.out; rw [IntKind.wrap_i64]; omega
              try go_wp2_with fail
              refine hK.out _ _ ?_ (fun hHeld => ?_)
              · exact ⟨hcell HC_12.out 0 rfl, hcell HC_12.out 1 rfl, trivial⟩
              clear hK K
              try simp only [Act.put, sm]
              refine tkL 5 rfl ?_
              try simp only [Act.put, sm]
              refine wpAnyL_ready (rs := [6]) (by kernel_rfl) (by simp) ?_
              refine AllReadyL.cons (o := _) rfl (fun K hK => ?_) AllReadyL.nil
              clear hHeld
              go_simp
              refine (HARK.out kd HV_kd.out _).mono ?_
              rintro E wx67 ⟨rfl, kk⟩
              have HKA_13 : Hid (Kp wr wx67 (some D)) := Lib.hid (HKA_12.out.trans ((kk).weak _))
              have HX_13 := Lib.hid (blk HX_12.out (kk))
              have HR_13 := Lib.hid (blk HR_12.out (kk))
              have HE_13 := Lib.hid (blk HE_12.out (kk))
              have HC_13 := Lib.hid (blk HC_12.out (kk))
              have HBs_13 := Lib.hid (HBs_12.out.keep (kk))
              have HDr_13 := Lib.hid (HDr_12.out.kp (kk))
              clear kk
              try go_wp2_with fail
              refine hK.out _ _ ?_ (fun hHeld => ?_)
              · exact ⟨hcell HC_13.out 0 rfl, hcell HC_13.out 1 rfl, trivial⟩
              clear hK K
              try simp only [Act.put, sm]
              refine wpAnyL_ready (rs := [7]) (by kernel_rfl) (by simp) ?_
              refine AllReadyL.last (o := _) rfl (fun K hK => ?_)
              have f0 := Lib.frozen_of_heap HE_13.out 0
              have f1 := Lib.frozen_of_heap HE_13.out 1
              have f2 := Lib.frozen_of_heap HE_13.out 2
              have f3 := Lib.frozen_of_heap HE_13.out 3
              have f4 := Lib.frozen_of_heap HE_13.out 4
              have f5 := Lib.frozen_of_heap HE_13.out 5
              have f6 := Lib.frozen_of_heap HE_13.out 6
              have c0 := hcell HE_13.out 0 rfl
              have c1 := hcell HE_13.out 1 rfl
              have c2 := hcell HE_13.out 2 rfl
              have c3 := hcell HE_13.out 3 rfl
              have c4 := hcell HE_13.out 4 rfl
              have c5 := hcell HE_13.out 5 rfl
              have c6 := hcell HE_13.out 6 rfl
              clear hHeld
              go_simp
              try go_wp2_with fail
              refine hK.out _ _ ?_
              clear hK K
              try simp only [Act.put, sm]
              refine wpAnyL_done (by kernel_rfl) ?_ _
              clear f0 c0 f1 c1 f2 c2 f3 c3 f4 c4 f5 c5 f6 c6
              have hst := store7 HE_13.out (.int .i64 (2 + kd)) (.int .i64 (Pl.arc ⟨x - tx, y - ty⟩ rad tn (2 + kd)).a.x) (.int .i64 (Pl.arc ⟨x - tx, y - ty⟩ rad tn (2 + kd)).a.y) (.int .i64 (Pl.arc ⟨x - tx, y - ty⟩ rad tn (2 + kd)).b.x) (.int .i64 (Pl.arc ⟨x - tx, y - ty⟩ rad tn (2 + kd)).b.y) (.int .i64 (x - tx)) (.int .i64 (y - ty))
              have kk := hst.2
              have HST := Lib.hid hst.1
              clear hst
              have HKA_14 : Hid (Kp wr _ (some D)) := Lib.hid (HKA_13.out.of_own kk (by have := HP_HE.out; have := HWR.out; omega))
              have HX_14 := Lib.hid ((kk.block _ (lt_of_block HX_13.out) (by have := HP_HE.out; have := HWR.out; have := HPE.out; simp <;> omega)).trans HX_13.out)
              have HR_14 := Lib.hid ((kk.block _ (lt_of_block HR_13.out) (by have := HP_HE.out; have := HWR.out; have := HPE.out; simp <;> omega)).trans HR_13.out)
              have HE_14 := HST
              have HC_14 := Lib.hid ((kk.block _ (lt_of_block HC_13.out) (by have := HP_HE.out; have := HWR.out; have := HPE.out; simp <;> omega)).trans HC_13.out)
              have HBs_14 := Lib.hid (HBs_13.out.keepFar kk (by have := HP_HE.out; have := HWR.out; omega) (fun q hq => by have := HOW.out q hq; have := HP_HE.out; omega))
              have HDr_14 := Lib.hid (HDr_13.out.far kk (by have := HP_HE.out; have := HWR.out; have := HDW.out; omega))
              clear kk HST HE_13 HKA_13 HBs_13 HDr_13 HX_13 HR_13 HC_13
              generalize (((((((wx67.setCell ⟨p, 0, none⟩ (.int .i64 (2 + kd))).setCell ⟨p, 1, none⟩ (.int .i64 (Pl.arc ⟨x - tx, y - ty⟩ rad tn (2 + kd)).a.x)).setCell ⟨p, 2, none⟩ (.int .i64 (Pl.arc ⟨x - tx, y - ty⟩ rad tn (2 + kd)).a.y)).setCell ⟨p, 3, none⟩ (.int .i64 (Pl.arc ⟨x - tx, y - ty⟩ rad tn (2 + kd)).b.x)).setCell ⟨p, 4, none⟩ (.int .i64 (Pl.arc ⟨x - tx, y - ty⟩ rad tn (2 + kd)).b.y)).setCell ⟨p, 5, none⟩ (.int .i64 (x - tx))).setCell ⟨p, 6, none⟩ (.int .i64 (y - ty))) = wz14 at *
              go_wp2_with fail
              go_meet
              exact HMC.out _ _ (Pl.arc ⟨x - tx, y - ty⟩ rad tn (2 + kd)) HE_14.out HP_HE.out (HGA.out kd HV_kd.out).1 (HGA.out kd HV_kd.out).2.1 (HGA.out kd HV_kd.out).2.2 HKA_14.out HX_14.out HR_14.out HBs_14.out HDr_14.out
          · have hvb : (v0 == 0) = false := by simpa using hv0
            go_wp2_with fail
            go_meet
            exact HMC.out _ _ e HE_1.out HP_HE.out HGE.out HEA.out HEB.out HKA_1.out HX_1.out HR_1.out HBs_1.out HDr_1.out
        case rest =>
          clear HKA_1 HX_1 HR_1 HE_1 HBs_1 HDr_1 HP_HE HGE HEA HEB
          obtain ⟨p, e, rfl, hE, hpw, hge, hea, heb, hka, hx, hr, hb, hd⟩ := hcut
          have HKA := Lib.hid hka
          have HX := Lib.hid hx
          have HR := Lib.hid hr
          have HE := Lib.hid hE
          have HB := Lib.hid hb
          have HD := Lib.hid hd
          have HPW := Lib.hid hpw
          have HGE := Lib.hid hge
          have HEA := Lib.hid hea
          have HEB := Lib.hid heb
          have c1 := hb.cell
          have y0 := hcell hE 0 rfl
          have y1 := hcell hE 1 rfl
          have y2 := hcell hE 2 rfl
          have y3 := hcell hE 3 rfl
          have y4 := hcell hE 4 rfl
          have y5 := hcell hE 5 rfl
          have y6 := hcell hE 6 rfl
          clear hE hpw hge hea heb hka hx hr hb hd
          have KAL := Lib.hid ((Kp.refl wc none).alloc (Obj.cells #[.int .i64 e.k, .int .i64 e.a.x, .int .i64 e.a.y, .int .i64 e.b.x, .int .i64 e.b.y, .int .i64 e.c.x, .int .i64 e.c.y] 39))
          have HBA := Lib.hid (HB.out.keep KAL.out)
          have HEL := Lib.hid (ed_list (w := wc) e)
          go_wp2_with (at_builtin; go_must (refine wpList_app (f := edC) (by rfl) _ _ (w.heap.size + 1 + 1 + 1) 23 39 (by rfl) i0 _ 7 56 Tryz.underlying23 hi hz0 hz1 hz2 rfl (by omega) (fun _ => rfl) ed_one u es.length (es.flatMap edC) (by rfl) HBA.out.2.2 (.slice (some ⟨wc.heap.size, 0, none⟩) 1 1) [e] (by rfl) HEL.out (by have := HLEN.out; have := HM1.out; unfold maxLen; simp; omega) (by have := HLEN.out; have := HM1.out; simp; omega) HBA.out.2.1.2 ?_))
          intro v3 w3 ho hg hbb
          obtain ⟨ea3, ec3, rfl⟩ := own_slice ho
          have HO3 := Lib.hid ho
          have HG3 := Lib.hid hg
          have HX3 := Lib.hid (res_kept (blk HX.out KAL.out) hg (fun q hq => by have := (HBA.out.2.2.lt q hq).1; omega))
          have HR3 := Lib.hid (res_kept (blk HR.out KAL.out) hg (fun q hq => by have := (HBA.out.2.2.lt q hq).1; omega))
          have HE3 := Lib.hid (res_kept (blk HE.out KAL.out) hg (fun q hq => by have := HOW.out q hq; have := HPW.out; omega))
          have HD3 : Hid (DrawAt D ao n cap w3) := Lib.hid (by
            obtain ⟨a, h1, h2⟩ := HD.out.kp KAL.out
            exact ⟨a, res_kept h1 hg (fun q hq => by have := (HBA.out.2.2.lt q hq).1; have := HDW.out; omega), h2⟩)
          clear ho hg hbb c1 y0 y1 y2 y3 y4 y5 y6
          have hA3 : Hid (w3.heap[_]? = _) := Lib.hid (HBA.out.other HG3.out)
          have f3 := Lib.frozen_of_heap hA3.out 1
          have c3 : w3.cell? ⟨w.heap.size + 1 + 1, 1, none⟩ = some u := hcell hA3.out 1 rfl
          go_upto_region 13 with fail
          have HO4 : Hid (w3.ownsRow (w.heap.size + 1 + 1 + 1) 39 7 (.slice ea3 (es.length + 1) ec3) (es ++ [e]).length ((es ++ [e]).flatMap edC)) := Lib.hid (by
            have h := HO3.out
            rw [List.length_append, List.flatMap_append]
            exact h)
          have HF := Lib.hid (HBA.out.put (fs := es ++ [e]) HG3.out HO4.out rfl rfl)
          have KF := Lib.hid (HBA.out.far (v := .slice ea3 (es.length + 1) ec3) ((HK.out.trans HKA.out).trans (KAL.out.weak (some D))) (by omega) HG3.out)
          have HXF := Lib.hid (res_set (i := 1) (A := w.heap.size + 1 + 1) (v := .slice ea3 (es.length + 1) ec3) HX3.out (by omega))
          have HRF := Lib.hid (res_set (i := 1) (A := w.heap.size + 1 + 1) (v := .slice ea3 (es.length + 1) ec3) HR3.out (by omega))
          have HEF := Lib.hid (res_set (i := 1) (A := w.heap.size + 1 + 1) (v := .slice ea3 (es.length + 1) ec3) HE3.out (by have := HPW.out; have := HWR.out; omega))
          have HDF : Hid (DrawAt D ao n cap (w3.setCell ⟨w.heap.size + 1 + 1, 1, none⟩ (.slice ea3 (es.length + 1) ec3))) := Lib.hid (HD3.out.far ((Kp.refl w3 (some (w.heap.size + 1 + 1))).set _) (by have := HDW.out; omega))
          have HPF : Hid (∀ q, (Value.slice ea3 (es.length + 1) ec3).ownBlock = some q → w.heap.size + 1 + 1 + 1 ≤ q) := Lib.hid (fun q hq => (HF.out.2.2.lt q hq).1)
          clear f3 c3 hA3 HX3 HR3 HE3 HD3 HO3 HO4 HG3 HBA KAL HEL HX HR HE HB HD HKA
          generalize w3.setCell ⟨w.heap.size + 1 + 1, 1, none⟩ (.slice ea3 (es.length + 1) ec3) = wF at *
          have z3 := hcell HEF.out 3 rfl
          have z4 := hcell HEF.out 4 rfl
          have g0 := Lib.frozen_of_heap HXF.out 0
          have g1 := Lib.frozen_of_heap HXF.out 1
          have x0' := hcell HXF.out 0 rfl
          have x1' := hcell HXF.out 1 rfl
          have hm3 : (m : Int) ≤ 3 := by have := HM1.out; omega
          go_wp2_with fail
          try rw [wrap_mid (n := (k : Int) + 1) (by omega) (by omega)]
          have hst := store2 HXF.out (.int .i64 e.b.x) (.int .i64 e.b.y)
          have kk := hst.2
          have HREL : Hid (PaRel D ao n cap m w (.int .i64 (k + 1)) ((wF.setCell ⟨w.heap.size, 0, none⟩ (.int .i64 e.b.x)).setCell ⟨w.heap.size, 1, none⟩ (.int .i64 e.b.y))) := Lib.hid ⟨k + 1, e.b.x, e.b.y, es ++ [e], .slice ea3 (es.length + 1) ec3, hlt, by go_num, by rw [List.length_append, HLEN.out]; rfl,
            by have h := HEB.out; unfold Pl.Lim at h ⊢; dsimp only; push_cast; omega,
            fun f hf => by
              rcases List.mem_append.1 hf with hf | hf
              · exact HGOOD.out f hf
              · rw [List.mem_singleton.1 hf]; exact HGE.out,
            Pl.chain_snoc HCH.out (by rw [HEA.out]; exact HEND.out), Pl.ends_snoc es e, KF.out.of_own kk (Nat.le_refl _), hst.1, (kk.block _ (lt_of_block HRF.out) (by intro q; have := Option.some.inj q; omega)).trans HRF.out,
            HF.out.keepFar kk (by omega) (fun q hq => by have := HPF.out q hq; omega), HDF.out.far kk (by have := HDW.out; omega)⟩
          clear hst kk z3 z4 g0 g1 x0' x1' HXF HRF HEF HDF HPF HF KF
          first | exact ⟨HREL.out, by simp [intOf]; omega⟩ | (go_roundw; all_goals first | exact HREL.out | (simp [intOf]; omega))
    · have hk1 : ¬ (k : Int) < (m : Int) := by omega
      have hkm : k = m := by omega
      subst hkm
      clear hk1
      have HFIN : Hid (∀ r : Int, 0 ≤ r ∧ r < 12 → Pl.Fine ⟨1, es, r⟩) := Lib.hid (fun r hr => Pl.fine_path (by have := HLEN.out; have := HM1.out; omega) (by have := HLEN.out; have := HM1.out; omega) HGOOD.out HCH.out hr.1 (by omega))
      obtain ⟨ea, ec, rfl⟩ := HB.out.slice
      go_wp2_with fail
      refine (HNX.out 12 _ (by omega) HK.out HD.out).mono ?_
      rintro E wz ⟨r, rfl, hr, hdz, kz⟩
      have HRR := Lib.hid hr
      have HDZ := Lib.hid hdz
      have KZ := Lib.hid (HK.out.trans kz)
      have HRZ := Lib.hid ((kz.block _ (lt_of_block HR.out) (by have := HDW.out; simp; omega)).trans HR.out)
      have HBZ := Lib.hid (HB.out.keepRow kz (by have := HDW.out; omega))
      clear hr hdz kz HR HB HD HX
      have a0 := hcell HBZ.out.1 0 rfl
      have a1 := hcell HBZ.out.1 1 rfl
      have a2 := hcell HBZ.out.1 2 rfl
      have g2 := HBZ.out.frozen 2
      go_upto_region 15 with fail
      clear a0 a1 a2 g2
      have hs2 := heap_set (o := 2) (v := .int .i64 r) HBZ.out.1
      simp at hs2
      have k2 : Kp wz (wz.setCell ⟨w.heap.size + 1 + 1, 2, none⟩ (.int .i64 r)) (some (w.heap.size + 1 + 1)) := (Kp.refl wz (some (w.heap.size + 1 + 1))).set _
      have HB2 : Hid (Bs (w.heap.size + 1 + 1) (w.heap.size + 1 + 1 + 1) 1 es r (.slice ea es.length ec) (wz.setCell ⟨w.heap.size + 1 + 1, 2, none⟩ (.int .i64 r))) := Lib.hid ⟨hs2, ⟨HBZ.out.2.1.1, Nat.le_trans HBZ.out.2.1.2 k2.size⟩, HBZ.out.2.2.kept k2 (own_ne HBZ.out.2.2 (by omega))⟩
      have HR2 := Lib.hid ((k2.block _ (lt_of_block HRZ.out) (by intro q; have := Option.some.inj q; omega)).trans HRZ.out)
      have HD2 := Lib.hid (HDZ.out.far k2 (by have := HDW.out; omega))
      have K2 := Lib.hid (KZ.out.of_own k2 (by omega))
      clear hs2 k2 HBZ HRZ HDZ KZ
      generalize wz.setCell ⟨w.heap.size + 1 + 1, 2, none⟩ (.int .i64 r) = wy at *
      have a0 := hcell HB2.out.1 0 rfl
      have a1 := hcell HB2.out.1 1 rfl
      have a2 := hcell HB2.out.1 2 rfl
      have g0 := Lib.frozen_of_heap HR2.out 0
      have g1 := Lib.frozen_of_heap HR2.out 1
      have g2 := Lib.frozen_of_heap HR2.out 2
      have x0' := hcell HR2.out 0 rfl
      have x1' := hcell HR2.out 1 rfl
      have x2' := hcell HR2.out 2 rfl
      have HLI := Lib.hid (own_lies (m := 7) (f := edC) (fun _ => rfl) HB2.out.2.2).2
      have FRX : Hid (∀ p, ea = some p → w.heap.size ≤ p.block ∧ p.block ≠ w.heap.size + 1) := Lib.hid (fun p hp => by have := HB2.out.fresh p hp; omega)
      have HRQ := HR2
      go_wp2_with fail
      clear a0 a1 a2 x0' x1' x2' g0 g1 g2
      have HR := HRQ
      have hs0 := heap_set (o := 0) (v := .int .i64 1) HR.out
      have hs1 := heap_set (o := 1) (v := .slice ea es.length ec) hs0
      have hs2 := heap_set (o := 2) (v := .int .i64 r) hs1
      have q0 := Lib.cell_of_heap hs2 0
      have q1 := Lib.cell_of_heap hs2 1
      have q2 := Lib.cell_of_heap hs2 2
      simp at q0 q1 q2
      have HO : Hid (LiesAt 7 edC (((wy.setCell ⟨w.heap.size + 1, 0, none⟩ (.int .i64 1)).setCell ⟨w.heap.size + 1, 1, none⟩ (.slice ea es.length ec)).setCell ⟨w.heap.size + 1, 2, none⟩ (.int .i64 r)) ea ec _) := Lib.hid (HLI.out.keepRow ((((Kp.refl wy (some (w.heap.size + 1))).set (.int .i64 1)).set (.slice ea es.length ec)).set (.int .i64 r)) (fun p hp => (FRX.out p hp).2))
      have HDO := Lib.hid (HD2.out.far ((((Kp.refl wy (some (w.heap.size + 1))).set (o := 0) (.int .i64 1)).set (o := 1) (.slice ea es.length ec)).set (o := 2) (.int .i64 r)) (by have := HDW.out; omega))
      have KF : Hid (Kp w (((wy.setCell ⟨w.heap.size + 1, 0, none⟩ (.int .i64 1)).setCell ⟨w.heap.size + 1, 1, none⟩ (.slice ea es.length ec)).setCell ⟨w.heap.size + 1, 2, none⟩ (.int .i64 r)) (some D)) := Lib.hid (K2.out.of_own ((((Kp.refl wy (some (w.heap.size + 1))).set (.int .i64 1)).set (.slice ea es.length ec)).set (.int .i64 r)) (by omega))
      clear hs0 hs1 hs2
      generalize (((wy.setCell ⟨w.heap.size + 1, 0, none⟩ (.int .i64 1)).setCell ⟨w.heap.size + 1, 1, none⟩ (.slice ea es.length ec)).setCell ⟨w.heap.size + 1, 2, none⟩ (.int .i64 r)) = wf at *
      exact bodyPost_ret (v := .agg #[.int .i64 1, .slice ea es.length ec, .int .i64 r]) (by simp [results, Tryz.results45, go_sem, q0, q1, q2]) rfl ⟨⟨1, es, r⟩, ea, ec, HFIN.out r HRR.out, rfl, HO.out, fun p hp => (FRX.out p hp).1, HDO.out, KF.out⟩

end Go.Proofs.YtggplbenliaodaaGreatDoor
