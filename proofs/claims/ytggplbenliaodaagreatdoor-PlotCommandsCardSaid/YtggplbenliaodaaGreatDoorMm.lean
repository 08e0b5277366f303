/- Drawings that lists of numbers choose (Made). No condition. -/
import Derived.Test.YtggplbenliaodaaGreatDoorMa
import Derived.Test.YtggplbenliaodaaGreatDoorMp
namespace Go.Proofs.YtggplbenliaodaaGreatDoor
open Go.RowKit

theorem infoDr : (Tryz.prog.info? 30).map (fun i => (i.zero, i.size, i.bytes)) = some (some (.agg #[.int .i64 0, .slice none 0 0, .int .i64 0, .bool false]), 4, 48) := by kernel_rfl
/-- A drawing, and where its edges lie. -/
structure DT where
  d : Pl.Dr
  ea : Option Addr
  ec : Nat
def dtC (t : DT) : List Value := [.int .i64 t.d.s.k, .slice t.ea t.d.s.es.length t.ec, .int .i64 t.d.s.r, .bool t.d.clear]
theorem dt_one : ∀ x : DT, ∀ u ∈ dtC x, u.oneCell' = true := by intro x q hq; simp [dtC] at hq; rcases hq with rfl | rfl | rfl | rfl <;> rfl
/-- Rows of numbers in memory. -/
def LiesRows (w : World) (ao : Option Addr) (cap : Nat) (rows : List (List Int)) : Prop :=
  ∀ k, (h : k < rows.length) → ∃ b off ra rc, ao = some ⟨b, off, none⟩ ∧ rows.length ≤ cap ∧ b < w.heap.size ∧ w.cell? ⟨b, off + k, none⟩ = some (.slice ra rows[k].length rc) ∧ LiesAt 1 intVal w ra rc rows[k] ∧ rows[k].length ≤ rc ∧ LenOk rows[k].length
/-- Drawings that a call hands out: each is right, and small. -/
def DrewDs (w : World) (E : Ending) (w' : World) : Prop := ∃ (ts : List DT) (ao : Option Addr) (cap : Nat), (∀ t ∈ ts, Pl.Fine t.d.s) ∧ ts.length ≤ 8 ∧ E = .returned (.slice ao ts.length cap) ∧ LiesAt 4 dtC w' ao cap ts ∧ (∀ t ∈ ts, LiesAt 7 edC w' t.ea t.ec t.d.s.es) ∧ (ts.length ≤ cap ∧ (ao = none → cap = 0)) ∧ (∀ p, ao = some p → w.heap.size ≤ p.block) ∧ Kp w w' none
theorem drs_lies {w : World} {cap : Nat} {ao : Option Addr} {ts : List DT} (h : LiesAt 4 dtC w ao cap ts) (hl : ∀ t ∈ ts, LiesAt 7 edC w t.ea t.ec t.d.s.es) : LiesDr w ao cap (ts.map (·.d)) := fun k hk => by
  have hk2 : k < ts.length := by simpa using hk
  obtain ⟨b, off, e, hb, hc, hr⟩ := h k hk2
  refine ⟨b, off, ts[k].ea, ts[k].ec, e, by simpa using hc, hb, ?_⟩
  have e1 : (ts.map (·.d))[k] = ts[k].d := by simp
  rw [e1]
  exact ⟨hr 0 (by simp [dtC]), hr 1 (by simp [dtC]), hr 2 (by simp [dtC]), hr 3 (by simp [dtC]), hl _ (List.getElem_mem hk2)⟩
theorem lies_tail {w : World} {b off cap : Nat} {xs : List Int} (h : LiesAt 1 intVal w (some ⟨b, off, none⟩) cap xs) (h0 : 0 < xs.length) : LiesAt 1 intVal w (if cap = 1 then some ⟨b, off, none⟩ else some ⟨b, off + 1, none⟩) (cap - 1) (xs.drop 1) := fun k hk => by
  have hk2 : 1 + k < xs.length := by rw [List.length_drop] at hk; omega
  obtain ⟨b2, off2, e, hb, hc, hr⟩ := h (1 + k) hk2
  injection e with e
  injection e with e1 e2
  subst e1; subst e2
  rw [if_neg (by omega)]
  refine ⟨b, off + 1, rfl, hb, by rw [List.length_drop]; omega, fun j hj => ?_⟩
  have e3 : (xs.drop 1)[k] = xs[1 + k] := List.getElem_drop
  simp only [e3] at hj ⊢
  rw [show off + 1 + k * 1 + j = off + (1 + k) * 1 + j by omega]
  exact hr j hj
def MmRel (n : Nat) (w : World) (v i : Value) (wr : World) : Prop := ∃ (k : Nat) (ts : List DT), k ≤ n ∧ k ≤ 8 ∧ i = .int .i64 k ∧ ts.length = k ∧ (∀ t ∈ ts, Pl.Fine t.d.s) ∧ Kp w wr none ∧ wr.ownsRow w.heap.size 30 4 v k (ts.flatMap dtC) ∧ ∀ t ∈ ts, LiesOff 7 edC wr t.ea t.ec t.d.s.es v
theorem own_cap {w : World} {base size n m cap : Nat} {e : TypeId} {ao : Option Addr} {row : List Value} (h : w.ownsRow base e size (.slice ao n cap) m row) : m ≤ cap := by
  rcases h.2 with ⟨hv, rfl⟩ | ⟨g, cap', _, hv, _, _, hc, _⟩
  · exact Nat.zero_le _
  · injection hv with h1 h2 h3
    subst h3; exact hc
theorem own_nil {w : World} {base size n m cap : Nat} {e : TypeId} {row : List Value} (h : w.ownsRow base e size (.slice none n cap) m row) : cap = 0 := by
  rcases h.2 with ⟨hv, _⟩ | ⟨g, cap', _, hv, _⟩
  · injection hv
  · injection hv with h1; cases h1
theorem lies_off_fresh {w w' : World} {v : Value} {ao : Option Addr} {cap : Nat} {es : List Pl.Ed} (h : LiesAt 7 edC w' ao cap es) (hv : ∀ q, v.ownBlock = some q → q < w.heap.size) (hf : ∀ p, ao = some p → w.heap.size ≤ p.block) : LiesOff 7 edC w' ao cap es v := fun k hk => by
  obtain ⟨b, off, e, hb, hc, hr⟩ := h k hk
  refine ⟨b, off, e, hb, hc, fun hq => ?_, hr⟩
  have h1 := hv b hq
  have h2 := hf _ e
  dsimp only at h2
  omega
theorem dt_list (w : World) (t : DT) : IsList 4 dtC (w.alloc (Obj.cells #[.int .i64 t.d.s.k, .slice t.ea t.d.s.es.length t.ec, .int .i64 t.d.s.r, .bool t.d.clear] 30)) (.slice (some ⟨w.heap.size, 0, none⟩) 1 1) [t] := by
  refine .inr ⟨w.heap.size, 0, 1, rfl, by simp, by simp, fun k hk j hj => ?_⟩
  simp at hk; subst hk
  have hj' : j = 0 ∨ j = 1 ∨ j = 2 ∨ j = 3 := by
    have : j < 4 := by simpa [dtC] using hj
    omega
  rcases hj' with rfl | rfl | rfl | rfl <;> exact hcell (heap_alloc_new w _) _ rfl
set_option maxHeartbeats 16000000 in
set_option maxRecDepth 100000 in
theorem rmade_any (rows : List (List Int)) (n : Nat) (hn : rows.length = n) (ao : Option Addr) (cap : Nat) (w : World) (hl : LiesRows w ao cap rows) (_hn2 : LenOk n) :
    Calls Tryz.prog 8 #[.slice ao n cap] w (DrewDs w) := by
  have FR := Lib.hid hl
  have HN := Lib.hid hn
  obtain ⟨i0, hi, hz0, hz1, hz2⟩ := info_parts infoDr
  clear hl hn
  go_enter Tryz.func8, Tryz.ntmps8
  go_wp2_with fail
  go_loopw [3, 4] (fun v i wr => MmRel n w v i wr) (fun _ i _ => n - (intOf i).toNat)
  case atStart => exact ⟨0, [], Nat.zero_le _, Nat.zero_le _, rfl, rfl, (fun t (h : t ∈ ([] : List DT)) => absurd h (by simp)), Kp.refl _ _, ⟨by rfl, .inl ⟨rfl, rfl⟩⟩, (fun t (h : t ∈ ([] : List DT)) => absurd h (by simp))⟩
  case round =>
    obtain ⟨k, ts, hk, hk8, rfl, hlen, hgood, hK, hO, hoff⟩ := hrel
    obtain ⟨ua, uc, rfl⟩ := own_slice hO
    have HK := Lib.hid hK
    have HOW := Lib.hid hO
    have HLEN := Lib.hid hlen
    have HGOOD := Lib.hid hgood
    have HOFF := Lib.hid hoff
    have HK8 : Hid (k ≤ 8) := Lib.hid hk8
    clear hK hO hlen hgood hoff
    have hk0 : (0 : Int) ≤ (k : Int) := Int.natCast_nonneg _
    have hn0 : (0 : Int) ≤ (n : Int) := Int.natCast_nonneg _
    by_cases hlt : k < n
    · have hk1 : (k : Int) < (n : Int) := by omega
      by_cases hlt8 : k < 8
      · have hk2 : (k : Int) < 8 := by omega
        obtain ⟨b, off, ra, rc, rfl, hcap, hbw, hck, hli, hlc, hl62⟩ := FR.out k (by have := HN.out; omega)
        have hcap2 : n ≤ cap := by have := HN.out; omega
        have HBW := Lib.hid hbw
        have HCKw := Lib.hid hck
        have HLI := Lib.hid hli
        obtain ⟨xs, hxs⟩ : ∃ xs, rows[k]'(by have := HN.out; omega) = xs := ⟨_, rfl⟩
        rw [hxs] at HCKw HLI hlc hl62
        clear hck hli hxs hcap
        rcases Nat.eq_zero_or_pos xs.length with h0 | hpos
        · have hx0 : xs = [] := List.length_eq_zero_iff.1 h0
          subst hx0
          clear h0
          have HCK : Hid (∀ V, Kp wr V none → V.cell? ⟨b, off + k, none⟩ = some (.slice ra 0 rc)) := Lib.hid (fun V kv => ((HK.out.trans kv).below.cell (p := ⟨b, off + k, none⟩) HBW.out).trans HCKw.out)
          have hck := HCK.out wr (Kp.refl _ _)
          clear HCKw HLI hlc hl62
          have HTL : Hid (∀ V ra rc, LiesAt 1 intVal V ra rc ([] : List Int)) := Lib.hid (fun V ra rc i hi => absurd hi (by simp))
          have hmin : min (0 : Int) 1 = 0 := by decide
          have HTLN : Hid (([] : List Int).length = 0) := Lib.hid rfl
          have HTN : Hid (LenOk 0) := Lib.hid (by unfold LenOk; omega)
          obtain ⟨c, hc⟩ : ∃ c, c = false := ⟨_, rfl⟩
          go_wp2_with fail
          refine wp_region_last (fun V => V.cell? ⟨b, off + k, none⟩ = some (.slice ra 0 rc) ∧ True) 17 (by kernel_rfl) ?_ (fun hHeld => ?_)
          · exact ⟨HCK.out _ (Kp.refl wr none).drew, trivial⟩
          refine tkL 0 rfl ?_
          try simp only [Act.put, sm]
          refine tkL 1 rfl ?_
          try simp only [Act.put, sm]
          refine tkL 2 rfl ?_
          try simp only [Act.put, sm]
          refine tkL 3 rfl ?_
          try simp only [Act.put, sm]
          refine tkL 4 rfl ?_
          try simp only [Act.put, sm]
          refine tkL 5 rfl ?_
          try simp only [Act.put, sm]
          refine tkL 6 rfl ?_
          try simp only [Act.put, sm]
          refine tkL 7 rfl ?_
          try simp only [Act.put, sm]
          refine tkL 8 rfl ?_
          try simp only [Act.put, sm]
          refine tkL 9 rfl ?_
          try simp only [Act.put, sm]
          refine tkL 10 rfl ?_
          try simp only [Act.put, sm]
          refine tkL 11 rfl ?_
          try simp only [Act.put, sm]
          refine tkL 13 rfl ?_
          try simp only [Act.put, sm]
          refine wpAnyL_ready (rs := [12]) (by kernel_rfl) (by simp) ?_
          refine AllReadyL.cons (o := _) rfl (fun K hK => ?_) AllReadyL.nil
          have gK := hHeld.2
          clear hHeld
          clear gK
          go_simp
          refine (made_any ([] : List Int) _ HTLN.out _ _ _ (HTL.out _ _ _) HTN.out).mono ?_
          rintro E w2 ⟨s, ea, ec, hfine, rfl, hlies, hfresh, kk⟩
          have HFINE := Lib.hid hfine
          have KA := Lib.hid kk
          have HLO2 : Hid (LiesOff 7 edC w2 ea ec s.es (.slice ua k uc)) := Lib.hid (lies_off_fresh hlies (fun q hq => by have := (HOW.out.lt q hq).2; exact this) hfresh)
          have HOW2 := Lib.hid (HOW.out.kept ((Kp.refl wr none).drew.trans kk) (by cases (Value.slice ua k uc).ownBlock <;> simp))
          clear hfine hlies hfresh kk
          try go_wp2_with fail
          refine hK.out _ _ ?_ (fun hHeld => ?_)
          · exact ⟨HCK.out _ ((Kp.refl wr none).drew.trans KA.out), trivial⟩
          clear hK K
          try simp only [Act.put, sm]
          refine tkL 14 rfl ?_
          try simp only [Act.put, sm]
          refine wpAnyL_ready (rs := [15]) (by kernel_rfl) (by simp) ?_
          refine AllReadyL.cons (o := _) rfl (fun K hK => ?_) AllReadyL.nil
          have gK := hHeld.2
          clear hHeld
          clear gK
          go_simp
          have KB : Hid (Kp wr.drew (w2.alloc (Obj.cells #[.int .i64 s.k, .slice ea s.es.length ec, .int .i64 s.r, .bool false] 30)) none) := Lib.hid (KA.out.alloc _)
          have HOW3 := Lib.hid (HOW2.out.kept ((Kp.refl w2 none).alloc (Obj.cells #[.int .i64 s.k, .slice ea s.es.length ec, .int .i64 s.r, .bool false] 30)) (by cases (Value.slice ua k uc).ownBlock <;> simp))
          have HDL : Hid (IsList 4 dtC (w2.alloc (Obj.cells #[.int .i64 s.k, .slice ea s.es.length ec, .int .i64 s.r, .bool false] 30)) (.slice (some ⟨w2.heap.size, 0, none⟩) 1 1) [⟨⟨s, false⟩, ea, ec⟩]) := Lib.hid (dt_list w2 ⟨⟨s, false⟩, ea, ec⟩)
          try go_wp2_with fail
          refine hK.out _ _ ?_ (fun hHeld => ?_)
          · exact ⟨HCK.out _ ((Kp.refl wr none).drew.trans KB.out), trivial⟩
          clear hK K
          try simp only [Act.put, sm]
          refine wpAnyL_ready (rs := [16]) (by kernel_rfl) (by simp) ?_
          refine AllReadyL.cons (o := _) rfl (fun K hK => ?_) AllReadyL.nil
          have gK := hHeld.2
          clear hHeld
          clear gK
          refine step_app (f := dtC) rfl (.tmp 32) (.tmp 47) w.heap.size 27 30 rfl i0 _ 4 48 (by kernel_rfl) hi hz0 hz1 hz2 rfl (by omega) (fun _ => rfl) dt_one _ _ _ rfl HOW3.out _ [⟨⟨s, false⟩, ea, ec⟩] rfl HDL.out (by have := HK8.out; unfold maxLen; simp; omega) (by have := HK8.out; simp; omega) (HK.out.trans ((Kp.refl wr none).drew.trans KB.out)).size ?_
          intro v3 w3 ho hg hbb
          obtain ⟨ea3, ec3, rfl⟩ := own_slice ho
          have HO3 := Lib.hid ho
          have K3 : Hid (Kp w w3 none) := Lib.hid (Kp.row (HK.out.trans ((Kp.refl wr none).drew.trans KB.out)) hg (fun q hq => (HOW3.out.lt q hq).1))
          have HC3 : Hid (w3.cell? ⟨b, off + k, none⟩ = _) := Lib.hid ((World.grownBy.cell_far hg ⟨b, off + k, none⟩ (Nat.lt_of_lt_of_le HBW.out (HK.out.trans ((Kp.refl wr none).drew.trans KB.out)).size) (fun e => by have := (HOW3.out.lt b e.symm).1; have := HBW.out; omega)).trans (HCK.out _ ((Kp.refl wr none).drew.trans KB.out)))
          have HT3 : Hid (∀ t ∈ ts ++ [(⟨⟨s, false⟩, ea, ec⟩ : DT)], LiesOff 7 edC w3 t.ea t.ec t.d.s.es (.slice ea3 (k + 1) ec3)) := Lib.hid (fun t ht => by
            have hv : (Value.slice ea3 (k + 1) ec3).ownBlock = (Value.slice ua k uc).ownBlock ∨ ∃ n, (w2.alloc (Obj.cells #[.int .i64 s.k, .slice ea s.es.length ec, .int .i64 s.r, .bool false] 30)).heap.size ≤ n ∧ (Value.slice ea3 (k + 1) ec3).ownBlock = some n := by
              rcases hbb with hbb | hbb
              · exact .inl hbb
              · exact .inr ⟨_, Nat.le_refl _, hbb⟩
            rcases List.mem_append.1 ht with ht | ht
            · exact ((HOFF.out t ht).keep (((Kp.refl wr none).drew.trans KB.out).weak _)).turn hg hv
            · rw [List.mem_singleton.1 ht]; exact ((HLO2.out.keep (((Kp.refl w2 none).alloc (Obj.cells #[.int .i64 s.k, .slice ea s.es.length ec, .int .i64 s.r, .bool false] 30)).weak _)).turn hg hv))
          clear ho hg hbb
          try simp only [Act.put, sm]
          refine hK _ _ ?_ (fun hHeld => ?_)
          · exact ⟨HC3.out, trivial⟩
          clear hK K
          try simp only [Act.put, sm]
          refine wpAnyL_ready (rs := [17]) (by kernel_rfl) (by simp) ?_
          refine AllReadyL.last (o := _) rfl (fun K hK => ?_)
          clear hHeld
          go_simp
          try go_wp2_with fail
          refine hK.out _ _ ?_
          clear hK K
          try simp only [Act.put, sm]
          have HREL : Hid (MmRel n w (.slice ea3 (k + 1) ec3) (.int .i64 (k + 1)) w3) := Lib.hid ⟨k + 1, ts ++ [⟨⟨s, false⟩, ea, ec⟩], hlt, by omega, by go_num, by rw [List.length_append, HLEN.out]; rfl, (fun t ht => by
            rcases List.mem_append.1 ht with ht | ht
            · exact HGOOD.out t ht
            · rw [List.mem_singleton.1 ht]; exact HFINE.out), K3.out, (by have h := HO3.out; rw [List.flatMap_append]; exact h), HT3.out⟩
          clear HO3 HT3 HC3 K3 KB KA HOW2 HOW3 HLO2 HDL
          refine wpAnyL_done (by kernel_rfl) ?_ _
          go_wp2_with fail
          first | exact ⟨HREL.out, by simp [intOf]; omega⟩ | (go_roundw; all_goals first | exact HREL.out | (simp [intOf]; omega))
        · obtain ⟨rb, ro, rfl, hrb, _, hcell0⟩ := HLI.out.int 0 hpos
          obtain ⟨L, hL⟩ : ∃ L, xs.length = L := ⟨_, rfl⟩
          rw [hL] at HCKw hlc hl62
          obtain ⟨x0, hx0⟩ : ∃ x0, xs[0] = x0 := ⟨_, rfl⟩
          have hc0 := hcell0 0 hpos
          rw [hx0] at hc0
          have hL0 : 0 < L := by omega
          have hLz : (0 : Int) < (L : Int) := by omega
          have HCK : Hid (∀ V, Kp wr V none → V.cell? ⟨b, off + k, none⟩ = some (.slice (some ⟨rb, ro, none⟩) L rc)) := Lib.hid (fun V kv => ((HK.out.trans kv).below.cell (p := ⟨b, off + k, none⟩) HBW.out).trans HCKw.out)
          have hck := HCK.out wr (Kp.refl _ _)
          have hcx : wr.cell? ⟨rb, ro, none⟩ = some (.int .i64 x0) := (HK.out.below.cell (p := ⟨rb, ro, none⟩) hrb).trans (by simpa using hc0)
          have HTLN : Hid ((xs.drop 1).length = L - 1) := Lib.hid (by rw [List.length_drop, hL])
          have HTN : Hid (LenOk (L - 1)) := Lib.hid (by unfold LenOk at *; omega)
          have HTL0 : Hid (∀ V, Kp wr V none → LiesAt 1 intVal V (if rc = 1 then some ⟨rb, ro, none⟩ else some ⟨rb, ro + 1, none⟩) (rc - 1) (xs.drop 1)) := Lib.hid (fun V kv => (lies_tail HLI.out hpos).keep (HK.out.trans kv))
          obtain ⟨c, hc⟩ : ∃ c, (x0.tmod 3 == 0) = c := ⟨_, rfl⟩
          have hmin : min (L : Int) 1 = 1 := by omega
          have hle : 1 ≤ L := by omega
          have hlc1 : (1 : Int) ≤ (L : Int) := by omega
          clear HCKw hL hx0 hc0 hcell0 hrb hl62 HLI
          by_cases hrc : rc = 1
          · have HTL : Hid (∀ V ra rc, LiesAt 1 intVal V ra rc ([] : List Int)) := Lib.hid (fun V ra rc i hi => absurd hi (by simp))
            clear HTL0 HTLN HTN
            have HTLN : Hid (([] : List Int).length = 0) := Lib.hid rfl
            have HTN : Hid (LenOk 0) := Lib.hid (by unfold LenOk; omega)
            subst hrc
            go_wp2_with fail
            refine wp_region_last (fun V => V.cell? ⟨b, off + k, none⟩ = some (.slice (some ⟨rb, ro, none⟩) L 1) ∧ True) 17 (by kernel_rfl) ?_ (fun hHeld => ?_)
            · exact ⟨HCK.out _ (Kp.refl wr none).drew, trivial⟩
            refine tkL 0 rfl ?_
            try simp only [Act.put, sm]
            refine tkL 1 rfl ?_
            try simp only [Act.put, sm]
            refine tkL 2 rfl ?_
            try simp only [Act.put, sm]
            refine tkL 3 rfl ?_
            try simp only [Act.put, sm]
            refine tkL 4 rfl ?_
            try simp only [Act.put, sm]
            refine tkL 5 rfl ?_
            try simp only [Act.put, sm]
            refine tkL 6 rfl ?_
            try simp only [Act.put, sm]
            refine tkL 7 rfl ?_
            try simp only [Act.put, sm]
            refine tkL 8 rfl ?_
            try simp only [Act.put, sm]
            refine tkL 9 rfl ?_
            try simp only [Act.put, sm]
            refine tkL 10 rfl ?_
            try simp only [Act.put, sm]
            refine tkL 11 rfl ?_
            try simp only [Act.put, sm]
            refine tkL 13 rfl ?_
            try simp only [Act.put, sm]
            refine wpAnyL_ready (rs := [12]) (by kernel_rfl) (by simp) ?_
            refine AllReadyL.cons (o := _) rfl (fun K hK => ?_) AllReadyL.nil
            have gK := hHeld.2
            clear hHeld
            clear gK
            go_simp
            refine (made_any ([] : List Int) _ HTLN.out _ _ _ (HTL.out _ _ _) HTN.out).mono ?_
            rintro E w2 ⟨s, ea, ec, hfine, rfl, hlies, hfresh, kk⟩
            have HFINE := Lib.hid hfine
            have KA := Lib.hid kk
            have HLO2 : Hid (LiesOff 7 edC w2 ea ec s.es (.slice ua k uc)) := Lib.hid (lies_off_fresh hlies (fun q hq => by have := (HOW.out.lt q hq).2; exact this) hfresh)
            have HOW2 := Lib.hid (HOW.out.kept ((Kp.refl wr none).drew.trans kk) (by cases (Value.slice ua k uc).ownBlock <;> simp))
            clear hfine hlies hfresh kk
            try go_wp2_with fail
            refine hK.out _ _ ?_ (fun hHeld => ?_)
            · exact ⟨HCK.out _ ((Kp.refl wr none).drew.trans KA.out), trivial⟩
            clear hK K
            try simp only [Act.put, sm]
            refine tkL 14 rfl ?_
            try simp only [Act.put, sm]
            refine wpAnyL_ready (rs := [15]) (by kernel_rfl) (by simp) ?_
            refine AllReadyL.cons (o := _) rfl (fun K hK => ?_) AllReadyL.nil
            have gK := hHeld.2
            clear hHeld
            clear gK
            go_simp
            have KB : Hid (Kp wr.drew (w2.alloc (Obj.cells #[.int .i64 s.k, .slice ea s.es.length ec, .int .i64 s.r, .bool c] 30)) none) := Lib.hid (KA.out.alloc _)
            have HOW3 := Lib.hid (HOW2.out.kept ((Kp.refl w2 none).alloc (Obj.cells #[.int .i64 s.k, .slice ea s.es.length ec, .int .i64 s.r, .bool c] 30)) (by cases (Value.slice ua k uc).ownBlock <;> simp))
            have HDL : Hid (IsList 4 dtC (w2.alloc (Obj.cells #[.int .i64 s.k, .slice ea s.es.length ec, .int .i64 s.r, .bool c] 30)) (.slice (some ⟨w2.heap.size, 0, none⟩) 1 1) [⟨⟨s, c⟩, ea, ec⟩]) := Lib.hid (dt_list w2 ⟨⟨s, c⟩, ea, ec⟩)
            try go_wp2_with fail
            refine hK.out _ _ ?_ (fun hHeld => ?_)
            · exact ⟨HCK.out _ ((Kp.refl wr none).drew.trans KB.out), trivial⟩
            clear hK K
            try simp only [Act.put, sm]
            refine wpAnyL_ready (rs := [16]) (by kernel_rfl) (by simp) ?_
            refine AllReadyL.cons (o := _) rfl (fun K hK => ?_) AllReadyL.nil
            have gK := hHeld.2
            clear hHeld
            clear gK
            refine step_app (f := dtC) rfl (.tmp 32) (.tmp 47) w.heap.size 27 30 rfl i0 _ 4 48 (by kernel_rfl) hi hz0 hz1 hz2 rfl (by omega) (fun _ => rfl) dt_one _ _ _ rfl HOW3.out _ [⟨⟨s, c⟩, ea, ec⟩] rfl HDL.out (by have := HK8.out; unfold maxLen; simp; omega) (by have := HK8.out; simp; omega) (HK.out.trans ((Kp.refl wr none).drew.trans KB.out)).size ?_
            intro v3 w3 ho hg hbb
            obtain ⟨ea3, ec3, rfl⟩ := own_slice ho
            have HO3 := Lib.hid ho
            have K3 : Hid (Kp w w3 none) := Lib.hid (Kp.row (HK.out.trans ((Kp.refl wr none).drew.trans KB.out)) hg (fun q hq => (HOW3.out.lt q hq).1))
            have HC3 : Hid (w3.cell? ⟨b, off + k, none⟩ = _) := Lib.hid ((World.grownBy.cell_far hg ⟨b, off + k, none⟩ (Nat.lt_of_lt_of_le HBW.out (HK.out.trans ((Kp.refl wr none).drew.trans KB.out)).size) (fun e => by have := (HOW3.out.lt b e.symm).1; have := HBW.out; omega)).trans (HCK.out _ ((Kp.refl wr none).drew.trans KB.out)))
            have HT3 : Hid (∀ t ∈ ts ++ [(⟨⟨s, c⟩, ea, ec⟩ : DT)], LiesOff 7 edC w3 t.ea t.ec t.d.s.es (.slice ea3 (k + 1) ec3)) := Lib.hid (fun t ht => by
              have hv : (Value.slice ea3 (k + 1) ec3).ownBlock = (Value.slice ua k uc).ownBlock ∨ ∃ n, (w2.alloc (Obj.cells #[.int .i64 s.k, .slice ea s.es.length ec, .int .i64 s.r, .bool c] 30)).heap.size ≤ n ∧ (Value.slice ea3 (k + 1) ec3).ownBlock = some n := by
                rcases hbb with hbb | hbb
                · exact .inl hbb
                · exact .inr ⟨_, Nat.le_refl _, hbb⟩
              rcases List.mem_append.1 ht with ht | ht
              · exact ((HOFF.out t ht).keep (((Kp.refl wr none).drew.trans KB.out).weak _)).turn hg hv
              · rw [List.mem_singleton.1 ht]; exact ((HLO2.out.keep (((Kp.refl w2 none).alloc (Obj.cells #[.int .i64 s.k, .slice ea s.es.length ec, .int .i64 s.r, .bool c] 30)).weak _)).turn hg hv))
            clear ho hg hbb
            try simp only [Act.put, sm]
            refine hK _ _ ?_ (fun hHeld => ?_)
            · exact ⟨HC3.out, trivial⟩
            clear hK K
            try simp only [Act.put, sm]
            refine wpAnyL_ready (rs := [17]) (by kernel_rfl) (by simp) ?_
            refine AllReadyL.last (o := _) rfl (fun K hK => ?_)
            clear hHeld
            go_simp
            try go_wp2_with fail
            refine hK.out _ _ ?_
            clear hK K
            try simp only [Act.put, sm]
            have HREL : Hid (MmRel n w (.slice ea3 (k + 1) ec3) (.int .i64 (k + 1)) w3) := Lib.hid ⟨k + 1, ts ++ [⟨⟨s, c⟩, ea, ec⟩], hlt, by omega, by go_num, by rw [List.length_append, HLEN.out]; rfl, (fun t ht => by
              rcases List.mem_append.1 ht with ht | ht
              · exact HGOOD.out t ht
              · rw [List.mem_singleton.1 ht]; exact HFINE.out), K3.out, (by have h := HO3.out; rw [List.flatMap_append]; exact h), HT3.out⟩
            clear HO3 HT3 HC3 K3 KB KA HOW2 HOW3 HLO2 HDL
            refine wpAnyL_done (by kernel_rfl) ?_ _
            go_wp2_with fail
            first | exact ⟨HREL.out, by simp [intOf]; omega⟩ | (go_roundw; all_goals first | exact HREL.out | (simp [intOf]; omega))
          · have HTL : Hid (∀ V, Kp wr V none → LiesAt 1 intVal V (some ⟨rb, ro + 1, none⟩) (rc - 1) (xs.drop 1)) := Lib.hid (fun V kv => by have h := HTL0.out V kv; rw [if_neg hrc] at h; exact h)
            clear HTL0
            go_wp2_with fail
            refine wp_region_last (fun V => V.cell? ⟨b, off + k, none⟩ = some (.slice (some ⟨rb, ro, none⟩) L rc) ∧ True) 17 (by kernel_rfl) ?_ (fun hHeld => ?_)
            · exact ⟨HCK.out _ (Kp.refl wr none).drew, trivial⟩
            refine tkL 0 rfl ?_
            try simp only [Act.put, sm]
            refine tkL 1 rfl ?_
            try simp only [Act.put, sm]
            refine tkL 2 rfl ?_
            try simp only [Act.put, sm]
            refine tkL 3 rfl ?_
            try simp only [Act.put, sm]
            refine tkL 4 rfl ?_
            try simp only [Act.put, sm]
            refine tkL 5 rfl ?_
            try simp only [Act.put, sm]
            refine tkL 6 rfl ?_
            try simp only [Act.put, sm]
            refine tkL 7 rfl ?_
            try simp only [Act.put, sm]
            refine tkL 8 rfl ?_
            try simp only [Act.put, sm]
            refine tkL 9 rfl ?_
            try simp only [Act.put, sm]
            refine tkL 10 rfl ?_
            try simp only [Act.put, sm]
            refine tkL 11 rfl ?_
            try simp only [Act.put, sm]
            refine tkL 13 rfl ?_
            try simp only [Act.put, sm]
            refine wpAnyL_ready (rs := [12]) (by kernel_rfl) (by simp) ?_
            refine AllReadyL.cons (o := _) rfl (fun K hK => ?_) AllReadyL.nil
            have gK := hHeld.2
            clear hHeld
            clear gK
            go_simp
            refine (made_any (xs.drop 1) _ HTLN.out _ _ _ (HTL.out _ (Kp.refl wr none).drew) HTN.out).mono ?_
            rintro E w2 ⟨s, ea, ec, hfine, rfl, hlies, hfresh, kk⟩
            have HFINE := Lib.hid hfine
            have KA := Lib.hid kk
            have HLO2 : Hid (LiesOff 7 edC w2 ea ec s.es (.slice ua k uc)) := Lib.hid (lies_off_fresh hlies (fun q hq => by have := (HOW.out.lt q hq).2; exact this) hfresh)
            have HOW2 := Lib.hid (HOW.out.kept ((Kp.refl wr none).drew.trans kk) (by cases (Value.slice ua k uc).ownBlock <;> simp))
            clear hfine hlies hfresh kk
            try go_wp2_with fail
            refine hK.out _ _ ?_ (fun hHeld => ?_)
            · exact ⟨HCK.out _ ((Kp.refl wr none).drew.trans KA.out), trivial⟩
            clear hK K
            try simp only [Act.put, sm]
            refine tkL 14 rfl ?_
            try simp only [Act.put, sm]
            refine wpAnyL_ready (rs := [15]) (by kernel_rfl) (by simp) ?_
            refine AllReadyL.cons (o := _) rfl (fun K hK => ?_) AllReadyL.nil
            have gK := hHeld.2
            clear hHeld
            clear gK
            go_simp
            have KB : Hid (Kp wr.drew (w2.alloc (Obj.cells #[.int .i64 s.k, .slice ea s.es.length ec, .int .i64 s.r, .bool c] 30)) none) := Lib.hid (KA.out.alloc _)
            have HOW3 := Lib.hid (HOW2.out.kept ((Kp.refl w2 none).alloc (Obj.cells #[.int .i64 s.k, .slice ea s.es.length ec, .int .i64 s.r, .bool c] 30)) (by cases (Value.slice ua k uc).ownBlock <;> simp))
            have HDL : Hid (IsList 4 dtC (w2.alloc (Obj.cells #[.int .i64 s.k, .slice ea s.es.length ec, .int .i64 s.r, .bool c] 30)) (.slice (some ⟨w2.heap.size, 0, none⟩) 1 1) [⟨⟨s, c⟩, ea, ec⟩]) := Lib.hid (dt_list w2 ⟨⟨s, c⟩, ea, ec⟩)
            try go_wp2_with fail
            refine hK.out _ _ ?_ (fun hHeld => ?_)
            · exact ⟨HCK.out _ ((Kp.refl wr none).drew.trans KB.out), trivial⟩
            clear hK K
            try simp only [Act.put, sm]
            refine wpAnyL_ready (rs := [16]) (by kernel_rfl) (by simp) ?_
            refine AllReadyL.cons (o := _) rfl (fun K hK => ?_) AllReadyL.nil
            have gK := hHeld.2
            clear hHeld
            clear gK
            refine step_app (f := dtC) rfl (.tmp 32) (.tmp 47) w.heap.size 27 30 rfl i0 _ 4 48 (by kernel_rfl) hi hz0 hz1 hz2 rfl (by omega) (fun _ => rfl) dt_one _ _ _ rfl HOW3.out _ [⟨⟨s, c⟩, ea, ec⟩] rfl HDL.out (by have := HK8.out; unfold maxLen; simp; omega) (by have := HK8.out; simp; omega) (HK.out.trans ((Kp.refl wr none).drew.trans KB.out)).size ?_
            intro v3 w3 ho hg hbb
            obtain ⟨ea3, ec3, rfl⟩ := own_slice ho
            have HO3 := Lib.hid ho
            have K3 : Hid (Kp w w3 none) := Lib.hid (Kp.row (HK.out.trans ((Kp.refl wr none).drew.trans KB.out)) hg (fun q hq => (HOW3.out.lt q hq).1))
            have HC3 : Hid (w3.cell? ⟨b, off + k, none⟩ = _) := Lib.hid ((World.grownBy.cell_far hg ⟨b, off + k, none⟩ (Nat.lt_of_lt_of_le HBW.out (HK.out.trans ((Kp.refl wr none).drew.trans KB.out)).size) (fun e => by have := (HOW3.out.lt b e.symm).1; have := HBW.out; omega)).trans (HCK.out _ ((Kp.refl wr none).drew.trans KB.out)))
            have HT3 : Hid (∀ t ∈ ts ++ [(⟨⟨s, c⟩, ea, ec⟩ : DT)], LiesOff 7 edC w3 t.ea t.ec t.d.s.es (.slice ea3 (k + 1) ec3)) := Lib.hid (fun t ht => by
              have hv : (Value.slice ea3 (k + 1) ec3).ownBlock = (Value.slice ua k uc).ownBlock ∨ ∃ n, (w2.alloc (Obj.cells #[.int .i64 s.k, .slice ea s.es.length ec, .int .i64 s.r, .bool c] 30)).heap.size ≤ n ∧ (Value.slice ea3 (k + 1) ec3).ownBlock = some n := by
                rcases hbb with hbb | hbb
                · exact .inl hbb
                · exact .inr ⟨_, Nat.le_refl _, hbb⟩
              rcases List.mem_append.1 ht with ht | ht
              · exact ((HOFF.out t ht).keep (((Kp.refl wr none).drew.trans KB.out).weak _)).turn hg hv
              · rw [List.mem_singleton.1 ht]; exact ((HLO2.out.keep (((Kp.refl w2 none).alloc (Obj.cells #[.int .i64 s.k, .slice ea s.es.length ec, .int .i64 s.r, .bool c] 30)).weak _)).turn hg hv))
            clear ho hg hbb
            try simp only [Act.put, sm]
            refine hK _ _ ?_ (fun hHeld => ?_)
            · exact ⟨HC3.out, trivial⟩
            clear hK K
            try simp only [Act.put, sm]
            refine wpAnyL_ready (rs := [17]) (by kernel_rfl) (by simp) ?_
            refine AllReadyL.last (o := _) rfl (fun K hK => ?_)
            clear hHeld
            go_simp
            try go_wp2_with fail
            refine hK.out _ _ ?_
            clear hK K
            try simp only [Act.put, sm]
            have HREL : Hid (MmRel n w (.slice ea3 (k + 1) ec3) (.int .i64 (k + 1)) w3) := Lib.hid ⟨k + 1, ts ++ [⟨⟨s, c⟩, ea, ec⟩], hlt, by omega, by go_num, by rw [List.length_append, HLEN.out]; rfl, (fun t ht => by
              rcases List.mem_append.1 ht with ht | ht
              · exact HGOOD.out t ht
              · rw [List.mem_singleton.1 ht]; exact HFINE.out), K3.out, (by have h := HO3.out; rw [List.flatMap_append]; exact h), HT3.out⟩
            clear HO3 HT3 HC3 K3 KB KA HOW2 HOW3 HLO2 HDL
            refine wpAnyL_done (by kernel_rfl) ?_ _
            go_wp2_with fail
            first | exact ⟨HREL.out, by simp [intOf]; omega⟩ | (go_roundw; all_goals first | exact HREL.out | (simp [intOf]; omega))
      · have hk2 : ¬ (k : Int) < 8 := by omega
        go_wp2_with fail
        go_ret
        exact ⟨ts, ua, uc, HGOOD.out, by rw [HLEN.out]; exact HK8.out, (by rw [HLEN.out]; rfl), (own_lies (m := 4) (f := dtC) (fun _ => rfl) (by rw [HLEN.out]; exact HOW.out)).2, (fun t ht => (HOFF.out t ht).at), ⟨by rw [HLEN.out]; exact own_cap HOW.out, fun h => by subst h; exact own_nil HOW.out⟩, (fun p hp => by subst hp; exact (HOW.out.lt p.block (by cases p; rfl)).1), HK.out⟩
    · have hk1 : ¬ (k : Int) < (n : Int) := by omega
      go_wp2_with fail
      go_ret
      exact ⟨ts, ua, uc, HGOOD.out, by rw [HLEN.out]; exact HK8.out, (by rw [HLEN.out]; rfl), (own_lies (m := 4) (f := dtC) (fun _ => rfl) (by rw [HLEN.out]; exact HOW.out)).2, (fun t ht => (HOFF.out t ht).at), ⟨by rw [HLEN.out]; exact own_cap HOW.out, fun h => by subst h; exact own_nil HOW.out⟩, (fun p hp => by subst hp; exact (HOW.out.lt p.block (by cases p; rfl)).1), HK.out⟩

end Go.Proofs.YtggplbenliaodaaGreatDoor
