/- Shapes moved (shape.Move). Condition: coordinates of at most 2^61; at most 1000 edges, at least one. -/
import Derived.Test.YtggplbenliaodaaDoorMv
import Derived.Test.YtggplbenliaodaaDoorCn
namespace Pl
def other (k : Int) : Int := if k = 2 then 3 else if k = 3 then 2 else k
def moveE (m : Mo) (e : Ed) : Ed := ⟨if m.mirror then other e.k else e.k, apply m e.a, apply m e.b, if e.k = 1 then e.c else apply m e.c⟩
def moveS (m : Mo) (s : Sh) : Sh := ⟨s.k, s.es.map (moveE m), s.r⟩
end Pl
namespace Go.Proofs.YtggplbenliaodaaDoor
open Go.RowKit

def MidP (p : Pl.Pt) : Prop := Mid p.x ∧ Mid p.y
def MidE (e : Pl.Ed) : Prop := (e.k = 1 ∨ e.k = 2 ∨ e.k = 3) ∧ MidP e.a ∧ MidP e.b ∧ MidP e.c
theorem emove_any (m : Pl.Mo) (e : Pl.Ed) (w : World) (he : MidE e) (hm : MidP m.at_) :
    Calls Tryd.prog 33 #[.agg #[.int .i64 e.k, .int .i64 e.a.x, .int .i64 e.a.y, .int .i64 e.b.x, .int .i64 e.b.y, .int .i64 e.c.x, .int .i64 e.c.y], .agg #[.int .i64 m.at_.x, .int .i64 m.at_.y, .int .i64 m.turn, .bool m.mirror]] w fun E w' => E = .returned (.agg #[.int .i64 (Pl.moveE m e).k, .int .i64 (Pl.moveE m e).a.x, .int .i64 (Pl.moveE m e).a.y, .int .i64 (Pl.moveE m e).b.x, .int .i64 (Pl.moveE m e).b.y, .int .i64 (Pl.moveE m e).c.x, .int .i64 (Pl.moveE m e).c.y]) ∧ Kp w w' none := by
  obtain ⟨k, ⟨ax, ay⟩, ⟨bx, bY⟩, ⟨cx, cy⟩⟩ := e
  obtain ⟨⟨mx, my⟩, t, mi⟩ := m
  obtain ⟨hk, ⟨h1, h2⟩, ⟨h3, h4⟩, ⟨h5, h6⟩⟩ := he
  obtain ⟨h7, h8⟩ := hm
  dsimp only at hk h1 h2 h3 h4 h5 h6 h7 h8 ⊢
  rcases hk with rfl | rfl | rfl <;> cases mi
  · exact emove_1false ax ay bx bY cx cy mx my t w h1 h2 h3 h4 h5 h6 h7 h8
  · exact emove_1true ax ay bx bY cx cy mx my t w h1 h2 h3 h4 h5 h6 h7 h8
  · exact emove_2false ax ay bx bY cx cy mx my t w h1 h2 h3 h4 h5 h6 h7 h8
  · exact emove_2true ax ay bx bY cx cy mx my t w h1 h2 h3 h4 h5 h6 h7 h8
  · exact emove_3false ax ay bx bY cx cy mx my t w h1 h2 h3 h4 h5 h6 h7 h8
  · exact emove_3true ax ay bx bY cx cy mx my t w h1 h2 h3 h4 h5 h6 h7 h8
theorem flat_set7 (x : Pl.Ed) : ∀ (es : List Pl.Ed) (k : Nat) (_ : k < es.length), (((((((es.flatMap edC).set (k * 7) (.int .i64 x.k)).set (k * 7 + 1) (.int .i64 x.a.x)).set (k * 7 + 2) (.int .i64 x.a.y)).set (k * 7 + 3) (.int .i64 x.b.x)).set (k * 7 + 4) (.int .i64 x.b.y)).set (k * 7 + 5) (.int .i64 x.c.x)).set (k * 7 + 6) (.int .i64 x.c.y) = (es.set k x).flatMap edC
  | [], _, h => by simp at h
  | y :: es, 0, _ => by simp [edC]
  | y :: es, k + 1, h => by
    have ih := flat_set7 x es k (by simpa using h)
    have e : ∀ (L : List Value) (i : Nat) (u : Value), (edC y ++ L).set (7 + i) u = edC y ++ L.set i u := fun L i u => by
      rw [List.set_append_right _ _ (by simp [edC])]
      simp [edC]
    have h0 : (k + 1) * 7 = 7 + k * 7 := by omega
    have hj : ∀ j, (k + 1) * 7 + j = 7 + (k * 7 + j) := fun j => by omega
    rw [List.set_cons_succ, List.flatMap_cons, List.flatMap_cons, hj, hj, hj, hj, hj, hj, h0, e, e, e, e, e, e, e, ih]
theorem row_set7 {w : World} {base n k : Nat} {v : Value} {es fs : List Pl.Ed} {x : Pl.Ed} (h : w.ownsRow base 42 7 v n ((((((((es.flatMap edC).set (k * 7) (.int .i64 x.k)).set (k * 7 + 1) (.int .i64 x.a.x)).set (k * 7 + 2) (.int .i64 x.a.y)).set (k * 7 + 3) (.int .i64 x.b.x)).set (k * 7 + 4) (.int .i64 x.b.y)).set (k * 7 + 5) (.int .i64 x.c.x)).set (k * 7 + 6) (.int .i64 x.c.y))) (hk : k < es.length ∧ es.set k x = fs) : w.ownsRow base 42 7 v n (fs.flatMap edC) := by
  rw [flat_set7 x es k hk.1, hk.2] at h
  exact h
theorem take_set {α : Type} (f : α → α) (es : List α) (k : Nat) (h : k < es.length) : ((es.take k).map f ++ es.drop k).set k (f es[k]) = (es.take (k + 1)).map f ++ es.drop (k + 1) := by
  have hl : ((es.take k).map f).length = k := by rw [List.length_map, List.length_take]; omega
  rw [List.set_append_right _ _ (by rw [hl]; exact Nat.le_refl _), hl, Nat.sub_self, List.drop_eq_getElem_cons h, List.set_cons_zero, List.take_succ_eq_append_getElem h, List.map_append]
  simp
def SmRel (m : Pl.Mo) (sk sr mx my t : Int) (mi : Bool) (es : List Pl.Ed) (n g cp : Nat) (w : World) (i : Value) (wr : World) : Prop := ∃ k : Nat, k ≤ n ∧ i = .int .i64 k ∧ Kp w wr none ∧ wr.heap[w.heap.size]? = some (Obj.cells #[.int .i64 sk, (.slice (some ⟨g, 0, none⟩) n cp), .int .i64 sr] 26 (0, 0)) ∧ wr.heap[w.heap.size + 1]? = some (Obj.cells #[.int .i64 mx, .int .i64 my, .int .i64 t, .bool mi] 39 (0, 0)) ∧ wr.heap[w.heap.size + 1 + 1]? = some (Obj.cells #[.int .i64 0, .slice none 0 0, .int .i64 0] 26 (0, 0)) ∧ wr.ownsRow (w.heap.size + 1 + 1 + 1) 42 7 (.slice (some ⟨g, 0, none⟩) n cp) n (((es.take k).map (Pl.moveE m) ++ es.drop k).flatMap edC)
set_option maxHeartbeats 16000000 in
set_option maxRecDepth 100000 in
theorem smove_any (sk sr mx my t : Int) (mi : Bool) (es : List Pl.Ed) (n : Nat) (hn : es.length = n) (ea : Option Addr) (ec : Nat) (w : World) (hes : LiesAt 7 edC w ea ec es) (h0 : 0 < n) (hn1 : n ≤ 1000) (he : ∀ e ∈ es, MidE e) (hm : Mid mx ∧ Mid my) :
    Calls Tryd.prog 21 #[.agg #[.int .i64 sk, .slice ea n ec, .int .i64 sr], .agg #[.int .i64 mx, .int .i64 my, .int .i64 t, .bool mi]] w (ShapeIs w (Pl.moveS ⟨⟨mx, my⟩, t, mi⟩ ⟨sk, es, sr⟩)) := by
  obtain ⟨m, hmm⟩ : ∃ m : Pl.Mo, (⟨⟨mx, my⟩, t, mi⟩ : Pl.Mo) = m := ⟨_, rfl⟩
  have HME : Hid (∀ e ∈ es, ∀ V, Calls Tryd.prog 33 #[.agg #[.int .i64 e.k, .int .i64 e.a.x, .int .i64 e.a.y, .int .i64 e.b.x, .int .i64 e.b.y, .int .i64 e.c.x, .int .i64 e.c.y], .agg #[.int .i64 mx, .int .i64 my, .int .i64 t, .bool mi]] V fun E w' => E = .returned (.agg #[.int .i64 (Pl.moveE m e).k, .int .i64 (Pl.moveE m e).a.x, .int .i64 (Pl.moveE m e).a.y, .int .i64 (Pl.moveE m e).b.x, .int .i64 (Pl.moveE m e).b.y, .int .i64 (Pl.moveE m e).c.x, .int .i64 (Pl.moveE m e).c.y]) ∧ Kp V w' none) := Lib.hid (fun e h V => by rw [← hmm]; exact emove_any ⟨⟨mx, my⟩, t, mi⟩ e V (he e h) hm)
  have HN := Lib.hid hn
  have HCL : Hid (∀ V, Kp w V none → Calls Tryd.prog 32 #[.slice ea n ec] V fun E w' => ∃ v, E = .returned v ∧ w'.ownsRow V.heap.size 42 7 v n (es.flatMap edC) ∧ Kp V w' none) := Lib.hid (fun V kv => cloneE_any es n hn ea ec V (hes.keep kv) (fun h => by obtain ⟨b, off, e, _⟩ := hes 0 (by omega); rw [h] at e; cases e) (by omega))
  rw [hmm]
  clear hn hes he hm
  have hnz : (0 : Int) < (n : Int) := by omega
  go_enter Tryd.func21, Tryd.ntmps21
  go_wp2_with fail
  have HS0 : Hid ((((w.alloc (Obj.cells #[.int .i64 sk, (.slice ea n ec), .int .i64 sr] 26)).alloc (Obj.cells #[.int .i64 mx, .int .i64 my, .int .i64 t, .bool mi] 39)).alloc (Obj.cells #[.int .i64 0, .slice none 0 0, .int .i64 0] 26)).heap[w.heap.size]? = some (Obj.cells #[.int .i64 sk, (.slice ea n ec), .int .i64 sr] 26 (0, 0))) := Lib.hid (blk (heap_alloc_new w _) (((Kp.refl _ none).alloc _).alloc _))
  have HM0 : Hid ((((w.alloc (Obj.cells #[.int .i64 sk, (.slice ea n ec), .int .i64 sr] 26)).alloc (Obj.cells #[.int .i64 mx, .int .i64 my, .int .i64 t, .bool mi] 39)).alloc (Obj.cells #[.int .i64 0, .slice none 0 0, .int .i64 0] 26)).heap[w.heap.size + 1]? = some (Obj.cells #[.int .i64 mx, .int .i64 my, .int .i64 t, .bool mi] 39 (0, 0))) := Lib.hid (blk (w := (w.alloc (Obj.cells #[.int .i64 sk, (.slice ea n ec), .int .i64 sr] 26)).alloc (Obj.cells #[.int .i64 mx, .int .i64 my, .int .i64 t, .bool mi] 39)) (by have h := heap_alloc_new (w.alloc (Obj.cells #[.int .i64 sk, (.slice ea n ec), .int .i64 sr] 26)) (Obj.cells #[.int .i64 mx, .int .i64 my, .int .i64 t, .bool mi] 39); simpa using h) ((Kp.refl _ none).alloc _))
  have HR0 : Hid ((((w.alloc (Obj.cells #[.int .i64 sk, (.slice ea n ec), .int .i64 sr] 26)).alloc (Obj.cells #[.int .i64 mx, .int .i64 my, .int .i64 t, .bool mi] 39)).alloc (Obj.cells #[.int .i64 0, .slice none 0 0, .int .i64 0] 26)).heap[w.heap.size + 1 + 1]? = some (Obj.cells #[.int .i64 0, .slice none 0 0, .int .i64 0] 26 (0, 0))) := Lib.hid (by have h := heap_alloc_new ((w.alloc (Obj.cells #[.int .i64 sk, (.slice ea n ec), .int .i64 sr] 26)).alloc (Obj.cells #[.int .i64 mx, .int .i64 my, .int .i64 t, .bool mi] 39)) (Obj.cells #[.int .i64 0, .slice none 0 0, .int .i64 0] 26); simpa using h)
  have KA0 : Hid (Kp w (((w.alloc (Obj.cells #[.int .i64 sk, (.slice ea n ec), .int .i64 sr] 26)).alloc (Obj.cells #[.int .i64 mx, .int .i64 my, .int .i64 t, .bool mi] 39)).alloc (Obj.cells #[.int .i64 0, .slice none 0 0, .int .i64 0] 26)) none) := Lib.hid ((((Kp.refl w none).alloc _).alloc _).alloc _)
  have hsz : (((w.alloc (Obj.cells #[.int .i64 sk, (.slice ea n ec), .int .i64 sr] 26)).alloc (Obj.cells #[.int .i64 mx, .int .i64 my, .int .i64 t, .bool mi] 39)).alloc (Obj.cells #[.int .i64 0, .slice none 0 0, .int .i64 0] 26)).heap.size = w.heap.size + 1 + 1 + 1 := by simp
  refine (HCL.out _ KA0.out).mono ?_
  rintro E w1 ⟨v, rfl, ho, k1⟩
  rw [hsz] at ho
  rcases ho.2 with ⟨_, hz⟩ | ⟨g, cp, _, rfl, _⟩
  · omega
  have HO := Lib.hid ho
  have HG : Hid (w.heap.size + 1 + 1 + 1 ≤ g) := Lib.hid (ho.lt g rfl).1
  have HK := Lib.hid (KA0.out.trans k1)
  have HS := Lib.hid (blk HS0.out k1)
  have HM := Lib.hid (blk HM0.out k1)
  have HR := Lib.hid (blk HR0.out k1)
  clear ho k1 HS0 HM0 HR0 KA0 hsz
  have c1 := hcell HS.out 1 rfl
  have f1 := Lib.frozen_of_heap HS.out 1
  go_upto_region 2 with fail
  have hs := heap_set (o := 1) (v := .slice (some ⟨g, 0, none⟩) n cp) HS.out
  simp at hs
  have kz : Kp w1 (w1.setCell ⟨w.heap.size, 1, none⟩ (.slice (some ⟨g, 0, none⟩) n cp)) (some (w.heap.size)) := (Kp.refl w1 (some (w.heap.size))).set _
  have HS1 := Lib.hid hs
  have HM1 := Lib.hid ((kz.block _ (lt_of_block HM.out) (by intro q; have := Option.some.inj q; omega)).trans HM.out)
  have HR1 := Lib.hid ((kz.block _ (lt_of_block HR.out) (by intro q; have := Option.some.inj q; omega)).trans HR.out)
  have HO1 := Lib.hid (HO.out.kept kz (own_ne HO.out (by omega)))
  have HK1 := Lib.hid (HK.out.of_own kz (Nat.le_refl _))
  clear hs kz c1 f1 HS HM HR HO HK
  generalize w1.setCell ⟨w.heap.size, 1, none⟩ (.slice (some ⟨g, 0, none⟩) n cp) = wq at *
  have c1 := hcell HS1.out 1 rfl
  go_wp2_with fail
  clear c1
  go_loopw [13] (fun i wr => SmRel m sk sr mx my t mi es n g cp w i wr) (fun i _ => n - (intOf i).toNat)
  case atStart => exact ⟨0, Nat.zero_le _, rfl, HK1.out, HS1.out, HM1.out, HR1.out, by simpa using HO1.out⟩
  case round =>
    obtain ⟨k, hk, rfl, hK, hS, hM, hR, hO⟩ := hrel
    have HK := Lib.hid hK
    have HS := Lib.hid hS
    have HM := Lib.hid hM
    have HR := Lib.hid hR
    have HO := Lib.hid hO
    clear hK hS hM hR hO HK1 HS1 HM1 HR1 HO1
    have hk0 : (0 : Int) ≤ (k : Int) := Int.natCast_nonneg _
    by_cases hlt : k < n
    · have hk1 : (k : Int) < (n : Int) := by omega
      have hcp : n ≤ cp := own_cap HO.out
      have hlt2 : k < es.length := by rw [HN.out]; exact hlt
      have HLR : Hid (k < ((es.take k).map (Pl.moveE m) ++ es.drop k).length ∧ ((es.take k).map (Pl.moveE m) ++ es.drop k).set k (Pl.moveE m es[k]) = ((es.take (k + 1)).map (Pl.moveE m) ++ es.drop (k + 1))) := Lib.hid ⟨by rw [List.length_append, List.length_map, List.length_take, List.length_drop]; omega, take_set _ es k hlt2⟩
      have hge : ∃ h, ((es.take k).map (Pl.moveE m) ++ es.drop k)[k]'h = es[k] := ⟨HLR.out.1, by
        rw [List.getElem_append_right (by rw [List.length_map, List.length_take]; omega)]
        simp [Nat.min_eq_left (Nat.le_of_lt hlt2)]⟩
      have HC := Lib.hid (HME.out es[k] (List.getElem_mem hlt2))
      obtain ⟨e, hx⟩ : ∃ e, es[k] = e := ⟨_, rfl⟩
      rw [hx] at HLR hge HC
      obtain ⟨f, hf⟩ : ∃ f, Pl.moveE m e = f := ⟨_, rfl⟩
      rw [hf] at HLR HC
      have HEL : Hid (∀ V : World, V.ownsRow (w.heap.size + 1 + 1 + 1) 42 7 (.slice (some ⟨g, 0, none⟩) n cp) n (((es.take k).map (Pl.moveE m) ++ es.drop k).flatMap edC) → V.cell? ⟨g, k * 7, none⟩ = some (.int .i64 e.k) ∧ V.cell? ⟨g, k * 7 + 1, none⟩ = some (.int .i64 e.a.x) ∧ V.cell? ⟨g, k * 7 + 2, none⟩ = some (.int .i64 e.a.y) ∧ V.cell? ⟨g, k * 7 + 3, none⟩ = some (.int .i64 e.b.x) ∧ V.cell? ⟨g, k * 7 + 4, none⟩ = some (.int .i64 e.b.y) ∧ V.cell? ⟨g, k * 7 + 5, none⟩ = some (.int .i64 e.c.x) ∧ V.cell? ⟨g, k * 7 + 6, none⟩ = some (.int .i64 e.c.y)) := Lib.hid (fun V h => by
        obtain ⟨hk9, hge⟩ := hge
        have key : ∀ j (hj : j < 7), V.cell? ⟨g, k * 7 + j, none⟩ = some ((edC e)[j]'(by simpa [edC] using hj)) := fun j hj => by
          have h9 := flat_get 7 edC (fun _ => rfl) ((es.take k).map (Pl.moveE m) ++ es.drop k) k j hk9 (by simpa [edC] using hj)
          have := h.cells rfl (k * 7 + j) _ h9
          rw [show ((⟨g, 0, none⟩ : Addr).add (k * 7 + j)) = ⟨g, k * 7 + j, none⟩ by unfold Addr.add; split <;> simp_all] at this
          rw [this]
          simp only [hge]
        exact ⟨key 0 (by omega), key 1 (by omega), key 2 (by omega), key 3 (by omega), key 4 (by omega), key 5 (by omega), key 6 (by omega)⟩)
      clear hx hf hge hlt2
      have HS1 := Lib.hid (blk HS.out (Kp.refl wr none).drew)
      have HM1 := Lib.hid (blk HM.out (Kp.refl wr none).drew)
      have HR1 := Lib.hid (blk HR.out (Kp.refl wr none).drew)
      have HO1 := Lib.hid (HO.out.kept (Kp.refl wr none).drew (by cases (Value.slice (some ⟨g, 0, none⟩) n cp).ownBlock <;> simp))
      have K1 := Lib.hid (HK.out.trans (Kp.refl wr none).drew)
      go_wp2_with fail
      refine wp_region_last (fun V => V.cell? ⟨w.heap.size, 1, none⟩ = some (.slice (some ⟨g, 0, none⟩) n cp) ∧ V.cell? ⟨w.heap.size + 1, 0, none⟩ = some (.int .i64 mx) ∧ V.cell? ⟨w.heap.size + 1, 1, none⟩ = some (.int .i64 my) ∧ V.cell? ⟨w.heap.size + 1, 2, none⟩ = some (.int .i64 t) ∧ V.cell? ⟨w.heap.size + 1, 3, none⟩ = some (.bool mi) ∧ V.cell? ⟨g, k * 7, none⟩ = some (.int .i64 e.k) ∧ V.cell? ⟨g, k * 7 + 1, none⟩ = some (.int .i64 e.a.x) ∧ V.cell? ⟨g, k * 7 + 2, none⟩ = some (.int .i64 e.a.y) ∧ V.cell? ⟨g, k * 7 + 3, none⟩ = some (.int .i64 e.b.x) ∧ V.cell? ⟨g, k * 7 + 4, none⟩ = some (.int .i64 e.b.y) ∧ V.cell? ⟨g, k * 7 + 5, none⟩ = some (.int .i64 e.c.x) ∧ V.cell? ⟨g, k * 7 + 6, none⟩ = some (.int .i64 e.c.y) ∧ True) 11 (by kernel_rfl) ?_ (fun hHeld => ?_)
      · exact ⟨hcell HS1.out 1 rfl, hcell HM1.out 0 rfl, hcell HM1.out 1 rfl, hcell HM1.out 2 rfl, hcell HM1.out 3 rfl, (HEL.out _ HO1.out).1, (HEL.out _ HO1.out).2.1, (HEL.out _ HO1.out).2.2.1, (HEL.out _ HO1.out).2.2.2.1, (HEL.out _ HO1.out).2.2.2.2.1, (HEL.out _ HO1.out).2.2.2.2.2.1, (HEL.out _ HO1.out).2.2.2.2.2.2, trivial⟩
      refine tkL 0 rfl ?_
      try simp only [Act.put, sm]
      refine tkL 1 rfl ?_
      try simp only [Act.put, sm]
      refine tkL 2 rfl ?_
      try simp only [Act.put, sm]
      refine tkL 3 rfl ?_
      try simp only [Act.put, sm]
      refine tkL 4 rfl ?_
      try simp only [Act.put, sm]
      refine tkL 5 rfl ?_
      try simp only [Act.put, sm]
      refine tkL 6 rfl ?_
      try simp only [Act.put, sm]
      refine tkL 7 rfl ?_
      try simp only [Act.put, sm]
      refine tkL 8 rfl ?_
      try simp only [Act.put, sm]
      refine wpAnyL_ready (rs := [9]) (by kernel_rfl) (by simp) ?_
      refine AllReadyL.cons (o := _) rfl (fun K hK => ?_) AllReadyL.nil
      have gK := hHeld
      clear hHeld
      clear gK
      go_simp
      refine (HC.out _).mono ?_
      rintro E w2 ⟨rfl, kk⟩
      have HS2 := Lib.hid (blk HS1.out kk)
      have HM2 := Lib.hid (blk HM1.out kk)
      have HR2 := Lib.hid (blk HR1.out kk)
      have HO2 := Lib.hid (HO1.out.kept kk (by cases (Value.slice (some ⟨g, 0, none⟩) n cp).ownBlock <;> simp))
      have K2 := Lib.hid (K1.out.trans kk)
      clear kk HS1 HM1 HR1 HO1 K1
      try go_wp2_with fail
      refine hK.out _ _ ?_ (fun hHeld => ?_)
      · exact ⟨hcell HS2.out 1 rfl, hcell HM2.out 0 rfl, hcell HM2.out 1 rfl, hcell HM2.out 2 rfl, hcell HM2.out 3 rfl, (HEL.out _ HO2.out).1, (HEL.out _ HO2.out).2.1, (HEL.out _ HO2.out).2.2.1, (HEL.out _ HO2.out).2.2.2.1, (HEL.out _ HO2.out).2.2.2.2.1, (HEL.out _ HO2.out).2.2.2.2.2.1, (HEL.out _ HO2.out).2.2.2.2.2.2, trivial⟩
      clear hK K
      try simp only [Act.put, sm]
      refine tkL 10 rfl ?_
      try simp only [Act.put, sm]
      refine wpAnyL_ready (rs := [11]) (by kernel_rfl) (by simp) ?_
      refine AllReadyL.last (o := _) rfl (fun K hK => ?_)
      have f0 := HO2.out.frozenAt (k * 7)
      have f1 := HO2.out.frozenAt (k * 7 + 1)
      have f2 := HO2.out.frozenAt (k * 7 + 2)
      have f3 := HO2.out.frozenAt (k * 7 + 3)
      have f4 := HO2.out.frozenAt (k * 7 + 4)
      have f5 := HO2.out.frozenAt (k * 7 + 5)
      have f6 := HO2.out.frozenAt (k * 7 + 6)
      have hel := HEL.out _ HO2.out
      obtain ⟨c0, c1, c2, c3, c4, c5, c6⟩ := hel
      clear hHeld
      go_simp
      try go_wp2_with fail
      refine hK.out _ _ ?_
      clear hK K
      try simp only [Act.put, sm]
      clear c0 c1 c2 c3 c4 c5 c6 f0 f1 f2 f3 f4 f5 f6
      have o1 := HO2.out.stored (k * 7) (.int .i64 f.k)
      have o2 := o1.1.stored (k * 7 + 1) (.int .i64 f.a.x)
      have o3 := o2.1.stored (k * 7 + 2) (.int .i64 f.a.y)
      have o4 := o3.1.stored (k * 7 + 3) (.int .i64 f.b.x)
      have o5 := o4.1.stored (k * 7 + 4) (.int .i64 f.b.y)
      have o6 := o5.1.stored (k * 7 + 5) (.int .i64 f.c.x)
      have o7 := o6.1.stored (k * 7 + 6) (.int .i64 f.c.y)
      have kz := ((((((o1.2.trans o2.2).trans o3.2).trans o4.2).trans o5.2).trans o6.2).trans o7.2)
      have HO3 := Lib.hid (row_set7 (x := f) o7.1 HLR.out)
      have HS3 := Lib.hid (res_kept HS2.out kz (fun q hq => by have := Option.some.inj hq; have := HG.out; omega))
      have HM3 := Lib.hid (res_kept HM2.out kz (fun q hq => by have := Option.some.inj hq; have := HG.out; omega))
      have HR3 := Lib.hid (res_kept HR2.out kz (fun q hq => by have := Option.some.inj hq; have := HG.out; omega))
      have K3 := Lib.hid (K2.out.of_own kz (by have := HG.out; omega))
      clear o1 o2 o3 o4 o5 o6 o7 kz HO2 HS2 HM2 HR2 K2
      generalize (((((((w2.setCell ⟨g, k * 7, none⟩ (.int .i64 f.k)).setCell ⟨g, k * 7 + 1, none⟩ (.int .i64 f.a.x)).setCell ⟨g, k * 7 + 2, none⟩ (.int .i64 f.a.y)).setCell ⟨g, k * 7 + 3, none⟩ (.int .i64 f.b.x)).setCell ⟨g, k * 7 + 4, none⟩ (.int .i64 f.b.y)).setCell ⟨g, k * 7 + 5, none⟩ (.int .i64 f.c.x)).setCell ⟨g, k * 7 + 6, none⟩ (.int .i64 f.c.y)) = w3 at *
      refine wpAnyL_done (by kernel_rfl) ?_ _
      have HREL : Hid (SmRel m sk sr mx my t mi es n g cp w (.int .i64 (k + 1)) w3) := Lib.hid ⟨k + 1, hlt, by go_num, K3.out, HS3.out, HM3.out, HR3.out, HO3.out⟩
      clear HO3 HS3 HM3 HR3 K3
      go_wp2_with fail
      first | exact ⟨HREL.out, by simp [intOf]; omega⟩ | (go_roundw; all_goals first | exact HREL.out | (simp [intOf]; omega))
    · have hk1 : ¬ (k : Int) < (n : Int) := by omega
      have hkn : k = n := by omega
      subst hkn
      have a0 := hcell HS.out 0 rfl
      have a1 := hcell HS.out 1 rfl
      have a2 := hcell HS.out 2 rfl
      have g0 := Lib.frozen_of_heap HR.out 0
      have g1 := Lib.frozen_of_heap HR.out 1
      have g2 := Lib.frozen_of_heap HR.out 2
      have x0' := hcell HR.out 0 rfl
      have x1' := hcell HR.out 1 rfl
      have x2' := hcell HR.out 2 rfl
      have HOE : Hid (wr.ownsRow (w.heap.size + 1 + 1 + 1) 42 7 (.slice (some ⟨g, 0, none⟩) k cp) (es.map (Pl.moveE m)).length ((es.map (Pl.moveE m)).flatMap edC)) := Lib.hid (by
        have h := HO.out
        have hl := HN.out
        rw [List.take_of_length_le (by omega), List.drop_of_length_le (by omega), List.append_nil] at h
        rw [List.length_map, hl]
        exact h)
      have HLI := Lib.hid (own_lies (m := 7) (f := edC) (fun _ => rfl) HOE.out).2
      have FRX : Hid (∀ p, (some ⟨g, 0, none⟩ : Option Addr) = some p → w.heap.size ≤ p.block ∧ p.block ≠ w.heap.size + 1 + 1) := Lib.hid (fun p hp => by have := Option.some.inj hp; subst this; have := HG.out; dsimp only; omega)
      have HRQ := HR
      go_wp2_with fail
      clear a0 a1 a2 x0' x1' x2' g0 g1 g2
      have HR := HRQ
      have HLE : Hid (k = (es.map (Pl.moveE m)).length) := Lib.hid (by rw [List.length_map, HN.out])
      have hs0 := heap_set (o := 0) (v := .int .i64 sk) HR.out
      have hs1 := heap_set (o := 1) (v := .slice (some ⟨g, 0, none⟩) k cp) hs0
      have hs2 := heap_set (o := 2) (v := .int .i64 sr) hs1
      have q0 := Lib.cell_of_heap hs2 0
      have q1 := Lib.cell_of_heap hs2 1
      have q2 := Lib.cell_of_heap hs2 2
      simp at q0 q1 q2
      have HO : Hid (LiesAt 7 edC (((wr.setCell ⟨w.heap.size + 1 + 1, 0, none⟩ (.int .i64 sk)).setCell ⟨w.heap.size + 1 + 1, 1, none⟩ (.slice (some ⟨g, 0, none⟩) k cp)).setCell ⟨w.heap.size + 1 + 1, 2, none⟩ (.int .i64 sr)) (some ⟨g, 0, none⟩) cp _) := Lib.hid (HLI.out.keepRow ((((Kp.refl wr (some (w.heap.size + 1 + 1))).set (.int .i64 sk)).set (.slice (some ⟨g, 0, none⟩) k cp)).set (.int .i64 sr)) (fun p hp => (FRX.out p hp).2))
      have KF : Hid (Kp w (((wr.setCell ⟨w.heap.size + 1 + 1, 0, none⟩ (.int .i64 sk)).setCell ⟨w.heap.size + 1 + 1, 1, none⟩ (.slice (some ⟨g, 0, none⟩) k cp)).setCell ⟨w.heap.size + 1 + 1, 2, none⟩ (.int .i64 sr)) none) := Lib.hid (HK.out.of_own ((((Kp.refl wr (some (w.heap.size + 1 + 1))).set (.int .i64 sk)).set (.slice (some ⟨g, 0, none⟩) k cp)).set (.int .i64 sr)) (by omega))
      clear hs0 hs1 hs2
      generalize (((wr.setCell ⟨w.heap.size + 1 + 1, 0, none⟩ (.int .i64 sk)).setCell ⟨w.heap.size + 1 + 1, 1, none⟩ (.slice (some ⟨g, 0, none⟩) k cp)).setCell ⟨w.heap.size + 1 + 1, 2, none⟩ (.int .i64 sr)) = wf at *
      exact bodyPost_ret (v := .agg #[.int .i64 sk, .slice (some ⟨g, 0, none⟩) k cp, .int .i64 sr]) (by simp [results, Tryd.results21, go_sem, q0, q1, q2]) rfl ⟨some ⟨g, 0, none⟩, cp, by show _ = Ending.returned (.agg #[.int .i64 sk, .slice (some ⟨g, 0, none⟩) (es.map (Pl.moveE m)).length cp, .int .i64 sr]); rw [← HLE.out], HO.out, fun p hp => (FRX.out p hp).1, KF.out⟩

end Go.Proofs.YtggplbenliaodaaDoor
