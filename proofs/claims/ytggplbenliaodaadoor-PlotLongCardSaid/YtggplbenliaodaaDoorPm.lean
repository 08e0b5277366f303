/- Drawings moved (plot.Move). Condition: coordinates of at most 2^61; at most 1000 drawings. -/
import Derived.Test.YtggplbenliaodaaDoorSm
namespace Pl
def moveD (m : Mo) (d : Dr) : Dr := ⟨moveS m d.s, d.clear⟩
end Pl
namespace Go.Proofs.YtggplbenliaodaaDoor
open Go.RowKit

theorem flat_set3 (y : DT) : ∀ (ts : List DT) (k : Nat) (h : k < ts.length) (_ : ts[k].d.clear = y.d.clear), (((ts.flatMap dtC).set (k * 4) (.int .i64 y.d.s.k)).set (k * 4 + 1) (.slice y.ea y.d.s.es.length y.ec)).set (k * 4 + 2) (.int .i64 y.d.s.r) = (ts.set k y).flatMap dtC
  | [], _, h, _ => by simp at h
  | z :: ts, 0, _, hc => by
    simp only [List.getElem_cons_zero] at hc
    simp [dtC, hc]
  | z :: ts, k + 1, h, hc => by
    have ih := flat_set3 y ts k (by simpa using h) (by simpa using hc)
    have e : ∀ (L : List Value) (i : Nat) (u : Value), (dtC z ++ L).set (4 + i) u = dtC z ++ L.set i u := fun L i u => by
      rw [List.set_append_right _ _ (by simp [dtC])]
      simp [dtC]
    have h0 : (k + 1) * 4 = 4 + k * 4 := by omega
    have hj : ∀ j, (k + 1) * 4 + j = 4 + (k * 4 + j) := fun j => by omega
    rw [List.set_cons_succ, List.flatMap_cons, List.flatMap_cons, hj, hj, h0, e, e, e, ih]
theorem row_set3 {w : World} {base n k : Nat} {v : Value} {ts us : List DT} {x y : DT} (h : w.ownsRow base 31 4 v n ((((ts.flatMap dtC).set (k * 4) (.int .i64 y.d.s.k)).set (k * 4 + 1) (.slice y.ea y.d.s.es.length y.ec)).set (k * 4 + 2) (.int .i64 y.d.s.r))) (hk : ∃ h : k < ts.length, ts[k] = x) (hs : ∀ y, ts.set k y = us ++ y :: ts.drop (k + 1)) (hc : x.d.clear = y.d.clear) : w.ownsRow base 31 4 v n ((us ++ y :: ts.drop (k + 1)).flatMap dtC) := by
  obtain ⟨h1, h2⟩ := hk
  rw [flat_set3 y ts k h1 (by rw [h2]; exact hc), hs] at h
  exact h
/-- The first ones are moved. -/
def PmRel (m : Pl.Mo) (mx my t : Int) (mi : Bool) (ts : List DT) (n : Nat) (ga : Option Addr) (cp : Nat) (w : World) (i : Value) (wr : World) : Prop := ∃ (k : Nat) (us : List DT), k ≤ n ∧ i = .int .i64 k ∧ us.length = k ∧ us.map (·.d) = (ts.take k).map (fun z => Pl.moveD m z.d) ∧ Kp w wr none ∧ wr.heap[w.heap.size]? = some (Obj.cells #[.int .i64 mx, .int .i64 my, .int .i64 t, .bool mi] 39 (0, 0)) ∧ wr.ownsRow (w.heap.size + 1) 31 4 (.slice ga n cp) n ((us ++ ts.drop k).flatMap dtC) ∧ (∀ z ∈ us ++ ts.drop k, LiesAt 7 edC wr z.ea z.ec z.d.s.es) ∧ ∀ z ∈ us ++ ts.drop k, ∀ p, z.ea = some p → ∀ q, ga = some q → p.block ≠ q.block
/-- What moving hands out. -/
def MovedIs (m : Pl.Mo) (ts : List DT) (w : World) (E : Ending) (w' : World) : Prop := ∃ (us : List DT) (ao : Option Addr) (cap : Nat), us.map (·.d) = ts.map (fun z => Pl.moveD m z.d) ∧ E = .returned (.slice ao us.length cap) ∧ LiesAt 4 dtC w' ao cap us ∧ (∀ z ∈ us, LiesAt 7 edC w' z.ea z.ec z.d.s.es) ∧ (us.length ≤ cap ∧ (ao = none → cap = 0)) ∧ Kp w w' none
set_option maxHeartbeats 16000000 in
set_option maxRecDepth 100000 in
theorem pmove_any (mx my t : Int) (mi : Bool) (ts : List DT) (n : Nat) (hn : ts.length = n) (ao : Option Addr) (cap : Nat) (w : World) (hts : LiesAt 4 dtC w ao cap ts) (h00 : ao = none → cap = 0) (hed : ∀ z ∈ ts, LiesAt 7 edC w z.ea z.ec z.d.s.es) (hn1 : n ≤ 1000) (hv : ∀ z ∈ ts, (0 < z.d.s.es.length ∧ z.d.s.es.length ≤ 1000) ∧ ∀ e ∈ z.d.s.es, MidE e) (hm : Mid mx ∧ Mid my) :
    Calls Tryd.prog 8 #[.slice ao n cap, .agg #[.int .i64 mx, .int .i64 my, .int .i64 t, .bool mi]] w (MovedIs ⟨⟨mx, my⟩, t, mi⟩ ts w) := by
  obtain ⟨m, hmm⟩ : ∃ m : Pl.Mo, (⟨⟨mx, my⟩, t, mi⟩ : Pl.Mo) = m := ⟨_, rfl⟩
  have HN := Lib.hid hn
  have HMS : Hid (∀ z ∈ ts, ∀ V, LiesAt 7 edC V z.ea z.ec z.d.s.es → Calls Tryd.prog 21 #[.agg #[.int .i64 z.d.s.k, .slice z.ea z.d.s.es.length z.ec, .int .i64 z.d.s.r], .agg #[.int .i64 mx, .int .i64 my, .int .i64 t, .bool mi]] V (ShapeIs V (Pl.moveS m z.d.s))) := Lib.hid (fun z hz V hl => by
    have h := smove_any z.d.s.k z.d.s.r mx my t mi z.d.s.es _ rfl z.ea z.ec V hl (hv z hz).1.1 (hv z hz).1.2 (hv z hz).2 hm
    rw [hmm] at h
    exact h)
  have HCL : Hid (∀ V, Kp w V none → Calls Tryd.prog 20 #[.slice ao n cap] V fun E w' => ∃ v, E = .returned v ∧ w'.ownsRow V.heap.size 31 4 v n (ts.flatMap dtC) ∧ Kp V w' none) := Lib.hid (fun V kv => cloneD_any ts n hn ao cap V (hts.keep kv) h00 (by omega))
  have HED0 := Lib.hid hed
  have HLT : Hid (∀ z ∈ ts, ∀ p, z.ea = some p → p.block < w.heap.size) := Lib.hid (fun z hz p hp => by
    obtain ⟨b, off, e, hb, _⟩ := hed z hz 0 (hv z hz).1.1
    rw [hp] at e
    have := Option.some.inj e
    subst this
    exact hb)
  rw [hmm]
  clear hn hts h00 hed hv hm
  have hnz : (0 : Int) ≤ (n : Int) := Int.natCast_nonneg _
  go_enter Tryd.func8, Tryd.ntmps8
  go_wp2_with fail
  have hsz : (w.alloc (Obj.cells #[.int .i64 mx, .int .i64 my, .int .i64 t, .bool mi] 39)).heap.size = w.heap.size + 1 := by simp
  refine (HCL.out _ ((Kp.refl w none).alloc _)).mono ?_
  rintro E w1 ⟨v, rfl, ho, k1⟩
  rw [hsz] at ho
  obtain ⟨ga, cp, rfl⟩ := own_slice ho
  have HO0 := Lib.hid ho
  have HK0 := Lib.hid (((Kp.refl w none).alloc (Obj.cells #[.int .i64 mx, .int .i64 my, .int .i64 t, .bool mi] 39)).trans k1)
  have HM0 := Lib.hid (blk (heap_alloc_new w (Obj.cells #[.int .i64 mx, .int .i64 my, .int .i64 t, .bool mi] 39)) k1)
  have HED1 := Lib.hid (fun z hz => (HED0.out z hz).keep (((Kp.refl w none).alloc (Obj.cells #[.int .i64 mx, .int .i64 my, .int .i64 t, .bool mi] 39)).trans k1))
  clear ho k1 hsz
  go_wp2_with fail
  go_loopw [10] (fun i wr => PmRel m mx my t mi ts n ga cp w i wr) (fun i _ => n - (intOf i).toNat)
  case atStart => exact ⟨0, [], Nat.zero_le _, rfl, rfl, rfl, HK0.out, HM0.out, by simpa using HO0.out, by simpa using HED1.out, by
    intro z hz p hp q hq
    have h1 := HLT.out z (by simpa using hz) p hp
    subst hq
    have h2 := (HO0.out.lt q.block (by cases q; rfl)).1
    omega⟩
  case round =>
    obtain ⟨k, us, hk, rfl, hul, hud, hK, hM, hO, hed, hof⟩ := hrel
    have HK := Lib.hid hK
    have HM := Lib.hid hM
    have HO := Lib.hid hO
    have HED := Lib.hid hed
    have HOFq := Lib.hid hof
    have HUL := Lib.hid hul
    have HUD := Lib.hid hud
    clear hK hM hO hed hof hul hud HK0 HM0 HO0 HED1 HED0
    have hk0 : (0 : Int) ≤ (k : Int) := Int.natCast_nonneg _
    by_cases hlt : k < n
    · have hk1 : (k : Int) < (n : Int) := by omega
      have hcp : n ≤ cp := own_cap HO.out
      have hlt2 : k < ts.length := by rw [HN.out]; exact hlt
      obtain ⟨g, rfl⟩ : ∃ g, ga = some ⟨g, 0, none⟩ := by
        rcases HO.out.2 with ⟨_, hz⟩ | ⟨g, _, _, h, _⟩
        · omega
        · injection h with h; exact ⟨g, h⟩
      have HG : Hid (w.heap.size + 1 ≤ g) := Lib.hid (HO.out.lt g rfl).1
      have HOF : Hid (∀ z ∈ us ++ ts.drop k, ∀ p, z.ea = some p → True ∧ p.block ≠ g) := Lib.hid (fun z hz p hp => ⟨trivial, HOFq.out z hz p hp _ rfl⟩)
      obtain ⟨x, hx⟩ : ∃ x, ts[k] = x := ⟨_, rfl⟩
      have hdr : ts.drop k = x :: ts.drop (k + 1) := by rw [List.drop_eq_getElem_cons hlt2, hx]
      have HLR : Hid ((∃ h : k < (us ++ ts.drop k).length, (us ++ ts.drop k)[k] = x) ∧ (∀ y, (us ++ ts.drop k).set k y = us ++ y :: (us ++ ts.drop k).drop (k + 1)) ∧ (us ++ ts.drop k).drop (k + 1) = ts.drop (k + 1)) := Lib.hid (by
        have hu := HUL.out
        have hd : (us ++ ts.drop k).drop (k + 1) = ts.drop (k + 1) := by
          rw [List.drop_append, hu, show k + 1 - k = 1 by omega, List.drop_eq_nil_of_le (by omega), List.nil_append, List.drop_drop]
        refine ⟨⟨by rw [List.length_append, hu, hdr, List.length_cons]; omega, ?_⟩, fun y => ?_, hd⟩
        · simp only [hdr]
          rw [List.getElem_append_right (by omega)]
          simp [hu]
        · rw [hd, List.set_append_right _ _ (by omega), hu, Nat.sub_self, hdr, List.set_cons_zero])
      have HC : Hid (∀ V, Kp w V none → LiesAt 7 edC V x.ea x.ec x.d.s.es → Calls Tryd.prog 21 #[.agg #[.int .i64 x.d.s.k, .slice x.ea x.d.s.es.length x.ec, .int .i64 x.d.s.r], .agg #[.int .i64 mx, .int .i64 my, .int .i64 t, .bool mi]] V (ShapeIs V (Pl.moveS m x.d.s))) := Lib.hid (fun V _ hl => by rw [← hx] at hl ⊢; exact HMS.out _ (List.getElem_mem hlt2) V hl)
      have HEL : Hid (∀ V : World, V.ownsRow (w.heap.size + 1) 31 4 (.slice (some ⟨g, 0, none⟩) n cp) n ((us ++ ts.drop k).flatMap dtC) → V.cell? ⟨g, k * 4, none⟩ = some (.int .i64 x.d.s.k) ∧ V.cell? ⟨g, k * 4 + 1, none⟩ = some (.slice x.ea x.d.s.es.length x.ec) ∧ V.cell? ⟨g, k * 4 + 2, none⟩ = some (.int .i64 x.d.s.r)) := Lib.hid (fun V h => by
        obtain ⟨⟨hk9, hge⟩, _⟩ := HLR.out
        have key : ∀ j (hj : j < 4), V.cell? ⟨g, k * 4 + j, none⟩ = some ((dtC x)[j]'(by simpa [dtC] using hj)) := fun j hj => by
          have h9 := flat_get 4 dtC (fun _ => rfl) (us ++ ts.drop k) k j hk9 (by simpa [dtC] using hj)
          have := h.cells rfl (k * 4 + j) _ h9
          rw [show ((⟨g, 0, none⟩ : Addr).add (k * 4 + j)) = ⟨g, k * 4 + j, none⟩ by unfold Addr.add; split <;> simp_all] at this
          rw [this]
          simp only [hge]
        exact ⟨key 0 (by omega), key 1 (by omega), key 2 (by omega)⟩)
      have HXM : x ∈ us ++ ts.drop k := by rw [hdr]; simp
      have HTK : Hid (ts.take (k + 1) = ts.take k ++ [x]) := Lib.hid (by rw [List.take_succ_eq_append_getElem hlt2, hx])
      have HXH := Lib.hid HXM
      clear hx hlt2 hdr HXM
      have HM1 := Lib.hid (blk HM.out (Kp.refl wr none).drew)
      have HO1 := Lib.hid (HO.out.kept (Kp.refl wr none).drew (by cases (Value.slice (some ⟨g, 0, none⟩) n cp).ownBlock <;> simp))
      have K1 := Lib.hid (HK.out.trans (Kp.refl wr none).drew)
      have HED1 := Lib.hid (fun z hz => (HED.out z hz).keep (Kp.refl wr none).drew)
      go_wp2_with fail
      refine wp_region_last (fun V => V.cell? ⟨w.heap.size, 0, none⟩ = some (.int .i64 mx) ∧ V.cell? ⟨w.heap.size, 1, none⟩ = some (.int .i64 my) ∧ V.cell? ⟨w.heap.size, 2, none⟩ = some (.int .i64 t) ∧ V.cell? ⟨w.heap.size, 3, none⟩ = some (.bool mi) ∧ V.cell? ⟨g, k * 4, none⟩ = some (.int .i64 x.d.s.k) ∧ V.cell? ⟨g, k * 4 + 1, none⟩ = some (.slice x.ea x.d.s.es.length x.ec) ∧ V.cell? ⟨g, k * 4 + 2, none⟩ = some (.int .i64 x.d.s.r) ∧ True) 11 (by kernel_rfl) ?_ (fun hHeld => ?_)
      · exact ⟨hcell HM1.out 0 rfl, hcell HM1.out 1 rfl, hcell HM1.out 2 rfl, hcell HM1.out 3 rfl, (HEL.out _ HO1.out).1, (HEL.out _ HO1.out).2.1, (HEL.out _ HO1.out).2.2, trivial⟩
      refine tkL 0 rfl ?_
      try simp only [Act.put, sm]
      refine tkL 1 rfl ?_
      try simp only [Act.put, sm]
      refine tkL 2 rfl ?_
      try simp only [Act.put, sm]
      refine tkL 3 rfl ?_
      try simp only [Act.put, sm]
      refine tkL 4 rfl ?_
      try simp only [Act.put, sm]
      refine tkL 5 rfl ?_
      try simp only [Act.put, sm]
      refine tkL 6 rfl ?_
      try simp only [Act.put, sm]
      refine tkL 7 rfl ?_
      try simp only [Act.put, sm]
      refine wpAnyL_ready (rs := [8]) (by kernel_rfl) (by simp) ?_
      refine AllReadyL.cons (o := _) rfl (fun K hK => ?_) AllReadyL.nil
      have gK := hHeld
      clear hHeld
      clear gK
      go_simp
      refine (HC.out _ K1.out (HED1.out x HXH.out)).mono ?_
      rintro E w2 ⟨ea2, ec2, rfl, hli, hfr, kk⟩
      have HM2 := Lib.hid (blk HM1.out kk)
      have HO2 := Lib.hid (HO1.out.kept kk (by cases (Value.slice (some ⟨g, 0, none⟩) n cp).ownBlock <;> simp))
      have K2 := Lib.hid (K1.out.trans kk)
      have HED2 := Lib.hid (fun z hz => (HED1.out z hz).keep kk)
      have HLI2 := Lib.hid hli
      have HFR2 : Hid (∀ p, ea2 = some p → w.heap.size ≤ p.block ∧ p.block ≠ g) := Lib.hid (fun p hp => by have h1 := hfr p hp; have h2 := (HO1.out.lt g rfl).2; have h3 := K1.out.size; omega)
      clear kk HM1 HO1 K1 HED1 hli hfr
      try go_wp2_with fail
      refine hK.out _ _ ?_ (fun hHeld => ?_)
      · exact ⟨hcell HM2.out 0 rfl, hcell HM2.out 1 rfl, hcell HM2.out 2 rfl, hcell HM2.out 3 rfl, (HEL.out _ HO2.out).1, (HEL.out _ HO2.out).2.1, (HEL.out _ HO2.out).2.2, trivial⟩
      clear hK K
      try simp only [Act.put, sm]
      refine wpAnyL_ready (rs := [9]) (by kernel_rfl) (by simp) ?_
      refine AllReadyL.cons (o := _) rfl (fun K hK => ?_) AllReadyL.nil
      have gK := hHeld
      clear hHeld
      clear gK
      go_simp
      try go_wp2_with fail
      refine hK.out _ _ ?_ (fun hHeld => ?_)
      · exact ⟨hcell HM2.out 0 rfl, hcell HM2.out 1 rfl, hcell HM2.out 2 rfl, hcell HM2.out 3 rfl, (HEL.out _ HO2.out).1, (HEL.out _ HO2.out).2.1, (HEL.out _ HO2.out).2.2, trivial⟩
      clear hK K
      try simp only [Act.put, sm]
      refine tkL 10 rfl ?_
      try simp only [Act.put, sm]
      refine wpAnyL_ready (rs := [11]) (by kernel_rfl) (by simp) ?_
      refine AllReadyL.last (o := _) rfl (fun K hK => ?_)
      have f0 := HO2.out.frozenAt (k * 4)
      have f1 := HO2.out.frozenAt (k * 4 + 1)
      have f2 := HO2.out.frozenAt (k * 4 + 2)
      have hel := HEL.out _ HO2.out
      obtain ⟨c0, c1, c2⟩ := hel
      clear hHeld
      go_simp
      try go_wp2_with fail
      refine hK.out _ _ ?_
      clear hK K
      try simp only [Act.put, sm]
      clear c0 c1 c2 f0 f1 f2
      have o1 := HO2.out.stored (k * 4) (.int .i64 (Pl.moveS m x.d.s).k)
      have o2 := o1.1.stored (k * 4 + 1) (.slice ea2 (Pl.moveS m x.d.s).es.length ec2)
      have o3 := o2.1.stored (k * 4 + 2) (.int .i64 (Pl.moveS m x.d.s).r)
      have kz := ((o1.2.trans o2.2).trans o3.2)
      have HO3 := Lib.hid (row_set3 (x := x) (y := ⟨⟨Pl.moveS m x.d.s, x.d.clear⟩, ea2, ec2⟩) o3.1 HLR.out.1 HLR.out.2.1 rfl)
      have HM3 := Lib.hid (res_kept HM2.out kz (fun q hq => by have := Option.some.inj hq; have := HG.out; omega))
      have K3 := Lib.hid (K2.out.of_own kz (by have := HG.out; omega))
      have HLI3 := Lib.hid (HLI2.out.keepRow kz (fun p hp => (HFR2.out p hp).2))
      have HED3 := Lib.hid (fun z hz => (HED2.out z hz).keepRow kz (fun p hp => (HOF.out z hz p hp).2))
      clear o1 o2 o3 kz HO2 HM2 K2 HLI2 HED2
      generalize (((w2.setCell ⟨g, k * 4, none⟩ (.int .i64 (Pl.moveS m x.d.s).k)).setCell ⟨g, k * 4 + 1, none⟩ (.slice ea2 (Pl.moveS m x.d.s).es.length ec2)).setCell ⟨g, k * 4 + 2, none⟩ (.int .i64 (Pl.moveS m x.d.s).r)) = w3 at *
      refine wpAnyL_done (by kernel_rfl) ?_ _
      have HREL : Hid (PmRel m mx my t mi ts n (some ⟨g, 0, none⟩) cp w (.int .i64 (k + 1)) w3) := Lib.hid ⟨k + 1, us ++ [⟨⟨Pl.moveS m x.d.s, x.d.clear⟩, ea2, ec2⟩], hlt, by go_num, by rw [List.length_append, HUL.out]; rfl, by rw [List.map_append, HUD.out, HTK.out, List.map_append]; rfl, K3.out, HM3.out, by have h := HO3.out; rw [HLR.out.2.2] at h; rw [List.append_assoc]; exact h, fun z hz => by
          rw [List.append_assoc] at hz
          rcases List.mem_append.1 hz with hz | hz
          · exact HED3.out z (List.mem_append_left _ hz)
          · rcases List.mem_cons.1 hz with rfl | hz
            · exact HLI3.out
            · exact HED3.out z (List.mem_append_right _ (List.mem_of_mem_drop (i := 1) (by rw [List.drop_drop]; exact hz))), fun z hz p hp q hq => by
          have hq2 := Option.some.inj hq
          subst hq2
          rw [List.append_assoc] at hz
          rcases List.mem_append.1 hz with hz | hz
          · exact (HOF.out z (List.mem_append_left _ hz) p hp).2
          · rcases List.mem_cons.1 hz with rfl | hz
            · exact (HFR2.out p hp).2
            · exact (HOF.out z (List.mem_append_right _ (List.mem_of_mem_drop (i := 1) (by rw [List.drop_drop]; exact hz))) p hp).2⟩
      clear HO3 HM3 K3 HLI3 HED3
      have hn1' : (n : Int) ≤ 1000 := by omega
      go_wp2_with fail
      try rw [wrap_mid (n := (k : Int) + 1) (by omega) (by omega)]
      first | exact ⟨HREL.out, by simp [intOf]; omega⟩ | (go_roundw; all_goals first | exact HREL.out | (simp [intOf]; omega))
    · have hk1 : ¬ (k : Int) < (n : Int) := by omega
      have hkn : k = n := by omega
      subst hkn
      have hd : ts.drop k = [] := List.drop_of_length_le (by have := HN.out; omega)
      have ht : ts.take k = ts := List.take_of_length_le (by have := HN.out; omega)
      have HUE : Hid (us.map (·.d) = ts.map (fun z => Pl.moveD m z.d)) := Lib.hid (by have h := HUD.out; rw [ht] at h; exact h)
      have HLI : Hid (LiesAt 4 dtC wr ga cp us) := Lib.hid (own_lies (m := 4) (f := dtC) (fun _ => rfl) (by have h := HO.out; rw [hd, List.append_nil] at h; rw [HUL.out]; exact h)).2
      have HEE : Hid (∀ z ∈ us, LiesAt 7 edC wr z.ea z.ec z.d.s.es) := Lib.hid (fun z hz => HED.out z (List.mem_append_left _ hz))
      have HCP : Hid (k ≤ cp ∧ (ga = none → cp = 0)) := Lib.hid ⟨own_cap HO.out, fun h => by have h2 := HO.out; subst h; exact own_nil h2⟩
      clear hd ht
      go_wp2_with fail
      go_ret
      exact ⟨us, ga, cp, HUE.out, (by rw [HUL.out]; rfl), HLI.out, HEE.out, (by rw [HUL.out]; exact HCP.out), HK.out⟩

end Go.Proofs.YtggplbenliaodaaDoor
