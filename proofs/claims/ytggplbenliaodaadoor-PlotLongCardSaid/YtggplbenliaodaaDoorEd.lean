/- A command of the plots' writer. Conditions: what it is given takes at most 2^47 bytes.
   The edges of a shape, as the program writes them. Conditions: valid edges, at least one; what is written takes at most 2^47 bytes. -/
import Derived.Test.YtggplbenliaodaaDoorPt

namespace Go.Proofs.YtggplbenliaodaaDoor
open Go.RowKit Go.Lib

def strV (s : List UInt8) : Value := .string ⟨s.toArray⟩
theorem flat_take (ws : List (List UInt8)) (k : Nat) (h : k < ws.length) : (ws.take (k + 1)).flatten = (ws.take k).flatten ++ ws[k] := by
  rw [List.take_succ_eq_append_getElem h, List.flatten_append]; simp
theorem flat_le (ws : List (List UInt8)) (k : Nat) : (ws.take k).flatten.length ≤ ws.flatten.length := by
  have := congrArg List.length (congrArg List.flatten (List.take_append_drop k ws))
  rw [List.flatten_append, List.length_append] at this
  omega
theorem flat_le' (ws : List (List UInt8)) (k : Nat) (h : k < ws.length) : (ws.take k).flatten.length + ws[k].length ≤ ws.flatten.length := by
  have h1 := flat_le ws (k + 1)
  rw [flat_take ws k h, List.length_append] at h1
  exact h1
def CmdRel (B b : Nat) (l : List UInt8) (ws : List (List UInt8)) (m : Nat) (ap : Int) (c : Bool) (w : World) (i : Value) (wr : World) : Prop :=
  ∃ k : Nat, k ≤ ws.length ∧ i = .int .i64 k ∧ Wr B b (l ++ (ws.take k).flatten) m ap c wr ∧ Kw b w wr

set_option maxHeartbeats 4000000 in
set_option maxRecDepth 100000 in
theorem command_any (B b : Nat) (l : List UInt8) (ws : List (List UInt8)) (m : Nat) (ap : Int) (c : Bool) (N : Nat) (w : World) (h : Wr B b l m ap c w) (hN : w.heap[N]? = some (.cells (ws.map strV).toArray 9 (0, 0))) (ho : Off b w N) (hn : ws.length ≤ 1000)
    (hlen : l.length + ws.flatten.length + 1 ≤ 140737488355328) (hBw : B ≤ w.heap.size) :
    Calls Tryd.prog 11 #[.pointer (some ⟨b, 0, none⟩), .slice (some ⟨N, 0, none⟩) ws.length ws.length] w fun e w' => e = .returned (.tuple #[]) ∧ Wr B b (l ++ (ws.flatten ++ [10])) m ap c w' ∧ Kw b w w' := by
  have H0 := Lib.hid h
  have HN := Lib.hid hN
  have HO := Lib.hid ho
  have HLEN := Lib.hid hlen
  clear h hN ho hlen
  have hn0 : (0 : Int) ≤ (ws.length : Int) := Int.natCast_nonneg _
  go_enter Tryd.func11, Tryd.ntmps11
  go_wp2_with fail
  go_loopw [8] (fun i wr => CmdRel B b l ws m ap c w i wr) (fun i _ => ws.length - (intOf i).toNat)
  case atStart => exact ⟨0, Nat.zero_le _, rfl, by simpa using H0.out, Kw.refl _ _⟩
  case round =>
    obtain ⟨k, hk, rfl, hW, hK⟩ := hrel
    have HW := Lib.hid hW
    have HK := Lib.hid hK
    have hBr : B ≤ wr.heap.size := Nat.le_trans hBw hK.size
    clear hW hK
    have hk0 : (0 : Int) ≤ (k : Int) := Int.natCast_nonneg _
    by_cases hlt : k < ws.length
    · have hk1 : (k : Int) < (ws.length : Int) := by omega
      obtain ⟨s, hs⟩ : ∃ s, ws[k] = s := ⟨_, rfl⟩
      have c0 : wr.cell? ⟨N, k, none⟩ = some (.string ⟨s.toArray⟩) := by
        rw [Lib.cell_of_heap ((HO.out.same HK.out).trans HN.out), ← hs]
        simp [strV, hlt]
      have hb1 : (l ++ (ws.take k).flatten).length + s.length ≤ 140737488355328 := by
        have h1 := flat_le' ws k hlt
        have h2 := HLEN.out
        rw [hs] at h1
        rw [List.length_append]; omega
      have HS := Lib.hid hs
      have HB1 := Lib.hid hb1
      clear hs hb1
      go_wp2_with (go_at_call 24; refine (writeString_any B b _ s m ap c _ HW.out HB1.out hBr).mono ?_; rintro e w1 ⟨rfl, h1, k1⟩; have H1 := Lib.hid h1; have K1 := Lib.hid k1; clear h1 k1)
      go_roundw
      case rel => exact ⟨k + 1, hlt, by go_num, by rw [flat_take ws k hlt, ← List.append_assoc, HS.out]; exact H1.out.wr, HK.out.trans K1.out⟩
      case measure => simp [intOf]; omega
    · have hk1 : ¬ (k : Int) < (ws.length : Int) := by omega
      have hkn : k = ws.length := by omega
      have HW2 : Hid (Wr B b (l ++ ws.flatten) m ap c wr) := Lib.hid (by have := HW.out; rw [hkn, List.take_length] at this; exact this)
      have HB2 : Hid ((l ++ ws.flatten).length + [(10 : UInt8)].length ≤ 140737488355328) := Lib.hid (by have := HLEN.out; rw [List.length_append]; simpa using this)
      clear HW
      go_wp2_with (go_at_call 24; refine (writeString_any B b _ [10] m ap c _ HW2.out HB2.out hBr).mono ?_; rintro e w1 ⟨rfl, h1, k1⟩; have H1 := Lib.hid h1; have K1 := Lib.hid k1; clear h1 k1)
      go_end0
      exact ⟨rfl, by rw [← List.append_assoc]; exact H1.out.wr, HK.out.trans K1.out⟩

/-- A command whose words the call has just laid in memory. -/
theorem cmd_at {B b : Nat} {l : List UInt8} {m : Nat} {ap : Int} {c : Bool} {X : World} (h : Wr B b l m ap c X) (ws : List (List UInt8)) (N n : Nat) (cs : Array Value) (hNe : N = X.heap.size) (hcs : cs = (ws.map strV).toArray) (hn : n = ws.length) (hn2 : ws.length ≤ 1000) (out : List UInt8) (hout : out = ws.flatten ++ [10])
    (hlen : l.length + out.length ≤ 140737488355328) (hBw : B ≤ X.heap.size) :
    Calls Tryd.prog 11 #[.pointer (some ⟨b, 0, none⟩), .slice (some ⟨N, 0, none⟩) n n] (X.alloc (.cells cs 9)) fun e w' => e = .returned (.tuple #[]) ∧ Wr B b (l ++ out) m ap c w' ∧ Kw b X w' := by
  subst hNe hcs hn hout
  have hk : Kp X (X.alloc (.cells (ws.map strV).toArray 9)) none := (Kp.refl X none).alloc _
  refine (command_any B b l ws m ap c X.heap.size _ (h.kp hk) (heap_alloc_new X _) (Off.new h _) hn2 (by simp only [List.length_append, List.length_cons, List.length_nil] at hlen; omega) (by simp; omega)).mono ?_
  rintro e w' ⟨he, h1, k1⟩
  exact ⟨he, h1, (Kw.of_kp hk h.lt).trans k1⟩

set_option maxHeartbeats 2000000 in
set_option maxRecDepth 100000 in
theorem polarity_any (B b : Nat) (l : List UInt8) (m : Nat) (ap : Int) (c d : Bool) (w : World) (h : Wr B b l m ap c w) (hlen : l.length + 7 ≤ 140737488355328) (hBw : B ≤ w.heap.size) :
    Calls Tryd.prog 15 #[.pointer (some ⟨b, 0, none⟩), .bool d] w fun e w' => e = .returned (.tuple #[]) ∧ Wr B b (l ++ Pl.polT c d) m ap d w' ∧ Kw b w w' := by
  obtain ⟨_, _, c4, _, f4⟩ := h.cells
  have hs := h.set (o := 4) (u := .bool d) (ap' := ap) (c' := d) (.inr ⟨rfl, rfl, rfl⟩)
  have H0 := Lib.hid h
  have HS := Lib.hid hs
  have hsz : B ≤ (w.setCell ⟨b, 4, none⟩ (.bool d)).heap.size := by simpa using hBw
  have HZ := Lib.hid hsz
  clear h hs hsz
  by_cases hcd : d = c
  · subst hcd
    have hq : (d == d) = true := by simp
    go_enter Tryd.func15, Tryd.ntmps15
    go_wp2_with fail
    go_returns
    exact ⟨rfl, by unfold Pl.polT; simpa using H0.out, Kw.refl _ _⟩
  · have hq : (d == c) = false := by simpa using hcd
    have HQ : Hid (Pl.polT c d = Pl.polOf d) := Lib.hid (by unfold Pl.polT; rw [if_neg hcd])
    clear hcd
    cases d
    · go_enter Tryd.func15, Tryd.ntmps15
      go_wp2_with (go_at_call 11; refine (cmd_at HS.out.1 [[37, 76, 80, 68, 42, 37]] _ _ _ (by simp) rfl rfl (by decide) [37, 76, 80, 68, 42, 37, 10] rfl (by simpa using hlen) HZ.out).mono ?_; rintro e w1 ⟨rfl, h1, k1⟩; have H1 := Lib.hid h1; have K1 := Lib.hid k1; clear h1 k1)
      go_end0
      exact ⟨rfl, by rw [HQ.out]; exact H1.out, HS.out.2.trans K1.out⟩
    · go_enter Tryd.func15, Tryd.ntmps15
      go_wp2_with (go_at_call 11; refine (cmd_at HS.out.1 [[37, 76, 80, 67, 42, 37]] _ _ _ (by simp) rfl rfl (by decide) [37, 76, 80, 67, 42, 37, 10] rfl (by simpa using hlen) HZ.out).mono ?_; rintro e w1 ⟨rfl, h1, k1⟩; have H1 := Lib.hid h1; have K1 := Lib.hid k1; clear h1 k1)
      go_end0
      exact ⟨rfl, by rw [HQ.out]; exact H1.out, HS.out.2.trans K1.out⟩

end Go.Proofs.YtggplbenliaodaaDoor

namespace Go.Proofs.YtggplbenliaodaaDoor
open Go.RowKit Go.Lib

theorem In.mid {n : Int} (h : Pl.In n) : Mid n := by unfold Pl.In at h; unfold Mid; omega
theorem chkE_zero {e : Pl.Ed} (h : Pl.chkE e = 0) : (e.k = 1 ∨ e.k = 2 ∨ e.k = 3) ∧ e.a.ok ∧ e.b.ok ∧ e.c.ok ∧ (e.k = 1 → e.c = ⟨0, 0⟩) ∧ (e.k ≠ 1 → Pl.Arc e) := by
  unfold Pl.chkE at h
  split at h
  · cases h
  · rename_i h1
    split at h
    · cases h
    · rename_i h2
      have h3 := Classical.not_not.1 h2
      refine ⟨by omega, h3.1, h3.2.1, h3.2.2, fun h4 => ?_, fun h4 => ?_⟩
      · rw [if_pos h4] at h
        split at h
        · assumption
        · cases h
      · rw [if_neg h4] at h
        split at h
        · assumption
        · cases h
theorem sub_mid {a b : Int} (h1 : Pl.In a) (h2 : Pl.In b) : Mid (a - b) := by unfold Pl.In at h1 h2; unfold Mid; omega
theorem edgeT_length {e : Pl.Ed} (h : Pl.chkE e = 0) : (Pl.edgeT e).length ≤ 92 := by
  obtain ⟨hk, ha, hb, hc, _⟩ := chkE_zero h
  have h1 := pnt_length 88 e.b 89 (In.mid hb.1) (In.mid hb.2)
  have h2 : (Pl.arcT e).length ≤ 42 := by
    unfold Pl.arcT
    split
    · simp
    · exact pnt_length 73 (Pl.sub e.c e.a) 74 (sub_mid hc.1 ha.1) (sub_mid hc.2 ha.2)
  have h3 : (Pl.gOf e.k).length = 3 := by unfold Pl.gOf; split; rfl; split <;> rfl
  unfold Pl.edgeT
  simp only [List.length_append, List.length_cons, List.length_nil]
  omega
theorem edges_length (es : List Pl.Ed) (h : ∀ e ∈ es, Pl.chkE e = 0) : (es.flatMap Pl.edgeT).length ≤ 92 * es.length := by
  induction es with
  | nil => simp
  | cons e es ih =>
    have h1 := edgeT_length (h e (by simp))
    have h2 := ih (fun x hx => h x (by simp [hx]))
    rw [List.flatMap_cons, List.length_append, List.length_cons]; omega
theorem edgesT_length (es : List Pl.Ed) (h : ∀ e ∈ es, Pl.chkE e = 0) : (Pl.edgesT es).length ≤ 92 * es.length + 47 := by
  cases es with
  | nil => simp [Pl.edgesT]
  | cons e es =>
    obtain ⟨hk, ha, _⟩ := chkE_zero (h e (by simp))
    have h1 := pnt_length 88 e.a 89 (In.mid ha.1) (In.mid ha.2)
    have h2 := edges_length (e :: es) h
    unfold Pl.edgesT
    rw [List.length_append, List.length_append, List.length_cons, List.length_cons, List.length_cons, List.length_cons, List.length_cons, List.length_nil]
    omega
theorem take_le (es : List Pl.Ed) (h : ∀ e ∈ es, Pl.chkE e = 0) (k : Nat) (hk : k ≤ es.length) : ((es.take k).flatMap Pl.edgeT).length ≤ 92 * es.length := by
  have := edges_length (es.take k) (fun e he => h e (List.mem_of_mem_take he))
  rw [List.length_take, Nat.min_eq_left hk] at this
  omega
theorem emap_step (es : List Pl.Ed) (k : Nat) (h : k < es.length) : (es.take (k + 1)).flatMap Pl.edgeT = (es.take k).flatMap Pl.edgeT ++ Pl.edgeT es[k] := by
  rw [List.take_succ_eq_append_getElem h, List.flatMap_append]; simp
/-- The cells of edge k. -/
theorem LiesAt.ed {w : World} {ao : Option Addr} {cap : Nat} {es : List Pl.Ed} (h : LiesAt 7 edC w ao cap es) {k : Nat} (hk : k < es.length) : ∃ b off, ao = some ⟨b, off, none⟩ ∧ es.length ≤ cap ∧ b < w.heap.size ∧ ∀ w', Kp w w' none →
    w'.cell? ⟨b, off + k * 7, none⟩ = some (.int .i64 es[k].k) ∧ w'.cell? ⟨b, off + k * 7 + 1, none⟩ = some (.int .i64 es[k].a.x) ∧ w'.cell? ⟨b, off + k * 7 + 2, none⟩ = some (.int .i64 es[k].a.y) ∧ w'.cell? ⟨b, off + k * 7 + 3, none⟩ = some (.int .i64 es[k].b.x) ∧ w'.cell? ⟨b, off + k * 7 + 4, none⟩ = some (.int .i64 es[k].b.y) ∧ w'.cell? ⟨b, off + k * 7 + 5, none⟩ = some (.int .i64 es[k].c.x) ∧ w'.cell? ⟨b, off + k * 7 + 6, none⟩ = some (.int .i64 es[k].c.y) := by
  obtain ⟨b, off, e, hb, hc, hr⟩ := h k hk
  refine ⟨b, off, e, hc, hb, fun w' K => ?_⟩
  have q : ∀ j, (hj : j < (edC es[k]).length) → w'.cell? ⟨b, off + k * 7 + j, none⟩ = some (edC es[k])[j] := fun j hj => (K.below.cell (p := ⟨b, off + k * 7 + j, none⟩) hb).trans (hr j hj)
  exact ⟨q 0 (by simp [edC]), q 1 (by simp [edC]), q 2 (by simp [edC]), q 3 (by simp [edC]), q 4 (by simp [edC]), q 5 (by simp [edC]), q 6 (by simp [edC])⟩

def EdRel (b : Nat) (l : List UInt8) (es : List Pl.Ed) (m : Nat) (ap : Int) (c : Bool) (W w : World) (i : Value) (wr : World) : Prop :=
  ∃ k : Nat, k ≤ es.length ∧ i = .int .i64 k ∧ Wr W.heap.size b (l ++ (es.take k).flatMap Pl.edgeT) m ap c wr ∧ Kw b w wr ∧ Kp W wr none

set_option maxHeartbeats 8000000 in
set_option maxRecDepth 100000 in
theorem edges_any (b : Nat) (l : List UInt8) (es : List Pl.Ed) (m : Nat) (ap : Int) (c : Bool) (ao : Option Addr) (cap : Nat) (W w : World) (h : Wr W.heap.size b l m ap c w) (hK : Kp W w none) (he : Env w) (hes : LiesAt 7 edC W ao cap es) (hv : ∀ e ∈ es, Pl.chkE e = 0) (h0 : 0 < es.length) (hn : es.length ≤ 40) (hlen : l.length ≤ 140737488300000) (hW1 : 1 ≤ W.heap.size) :
    Calls Tryd.prog 29 #[.pointer (some ⟨b, 0, none⟩), .slice ao es.length cap] w fun e w' => e = .returned (.tuple #[]) ∧ Wr W.heap.size b (l ++ Pl.edgesT es) m ap c w' ∧ Kw b w w' := by
  have H0 := Lib.hid h
  have HK0 := Lib.hid hK
  have HE := Lib.hid he
  have FE := Lib.hid hes
  have HV := Lib.hid hv
  have HENV : Hid (∀ V, Kp W V none → Env V) := Lib.hid fun V k => HE.out.keep0 HK0.out k hW1
  have HTL := Lib.hid (take_le es hv)
  clear h hK he hes hv
  have hn0 : (0 : Int) ≤ (es.length : Int) := Int.natCast_nonneg _
  have hn1 : (0 : Int) < (es.length : Int) := by omega
  obtain ⟨f, hf⟩ : ∃ e, es[0] = e := ⟨_, rfl⟩
  obtain ⟨bo, off, rfl, hcap, hbo, hcells⟩ := FE.out.ed h0
  have hc0 := hcells _ HK0.out
  have hfv := HV.out f (by rw [← hf]; exact List.getElem_mem h0)
  rw [hf] at hc0
  obtain ⟨fk, ⟨fax, fay⟩, ⟨fbx, fby⟩, ⟨fcx, fcy⟩⟩ := f
  have hfz := chkE_zero hfv
  dsimp only at hc0 hfz
  obtain ⟨_, ⟨hfa1, hfa2⟩, _⟩ := hfz
  dsimp only at hfa1 hfa2
  have m1 := In.mid hfa1
  have m2 := In.mid hfa2
  have M1 := Lib.hid m1
  have M2 := Lib.hid m2
  have HPL := Lib.hid (pnt_length 88 ⟨fax, fay⟩ 89 m1 m2)
  have HF := Lib.hid hf
  obtain ⟨_, d1, d2, _⟩ := hc0
  clear hfv hf hcells hfa1 hfa2 m1 m2
  simp only [Nat.zero_mul, Nat.add_zero] at d1 d2
  obtain ⟨hd, hhd⟩ : ∃ q, Pl.pnt 88 ⟨fax, fay⟩ 89 ++ [68, 48, 50, 42, 10] = q := ⟨_, rfl⟩
  have HHD := Lib.hid hhd
  have hhl : hd.length ≤ 47 := by rw [← hhd, List.length_append]; have := HPL.out; simp only [List.length_cons, List.length_nil]; omega
  clear hhd
  go_enter Tryd.func29, Tryd.ntmps29
  go_wp2_with (first
    | (go_at_call 30; refine (point_any 88 89 fax fay _ (HENV.out _ HK0.out) M1.out M2.out).mono ?_; rintro e w1 ⟨rfl, k1⟩; have K1 := Lib.hid k1; have H1 := Lib.hid (H0.out.kp k1); clear k1)
    | (go_at_call 11; refine (cmd_at H1.out [Pl.pnt 88 ⟨fax, fay⟩ 89, [68, 48, 50, 42]] _ _ _ rfl rfl rfl (by simp) hd (by rw [← HHD.out]; simp) (by omega) (by have := K1.out.size; have := HK0.out.size; omega)).mono ?_; rintro e w2 ⟨rfl, h2, k2⟩; have H2 := Lib.hid h2; have K2 := Lib.hid ((Kw.of_kp K1.out H0.out.lt).trans k2); clear h2 k2)
    | fail)
  have HFIN : Hid (l ++ Pl.edgesT es = (l ++ hd) ++ es.flatMap Pl.edgeT) := Lib.hid (by
    rw [← HHD.out]
    match es, h0, HF with
    | e :: r, _, HF =>
      have : e = ⟨fk, ⟨fax, fay⟩, ⟨fbx, fby⟩, ⟨fcx, fcy⟩⟩ := HF.out
      subst this
      unfold Pl.edgesT
      simp only [List.append_assoc])
  obtain ⟨l0, hl0⟩ : ∃ q, l ++ hd = q := ⟨_, rfl⟩
  have hl0b : l0.length ≤ 140737488300047 := by rw [← hl0, List.length_append]; omega
  rw [hl0] at HFIN H2
  clear hl0 HHD H1 d1 d2
  go_loopw [17] (fun i wr => EdRel b l0 es m ap c W w i wr) (fun i _ => es.length - (intOf i).toNat)
  case atStart => exact ⟨0, Nat.zero_le _, rfl, by simpa using H2.out, K2.out, H0.out.kpw HK0.out K2.out⟩
  case round =>
    obtain ⟨k, hk, rfl, hW, hKw, hKp⟩ := hrel
    have HW := Lib.hid hW
    have HKW := Lib.hid hKw
    have HKP := Lib.hid hKp
    have HBW : Hid (W.heap.size ≤ wr.heap.size) := Lib.hid hKp.size
    clear hW hKw hKp K2 H2
    have hk0 : (0 : Int) ≤ (k : Int) := Int.natCast_nonneg _
    by_cases hlt : k < es.length
    · have hk1 : (k : Int) < (es.length : Int) := by omega
      obtain ⟨e, hx⟩ : ∃ e, es[k] = e := ⟨_, rfl⟩
      obtain ⟨bo', off', hao, _, _, hcells⟩ := FE.out.ed hlt
      injection hao with hao
      injection hao with e1 e2
      subst e1; subst e2
      have hc0 := hcells _ HKP.out
      have hev := HV.out e (by rw [← hx]; exact List.getElem_mem hlt)
      rw [hx] at hc0
      have HST : Hid (∀ wq, Wr W.heap.size b ((l0 ++ (es.take k).flatMap Pl.edgeT) ++ Pl.edgeT e) m ap c wq → Kw b wr wq → EdRel b l0 es m ap c W w (.int .i64 (k + 1)) wq) := Lib.hid fun wq h1 k1 =>
        ⟨k + 1, hlt, by go_num, by rw [emap_step es k hlt, hx, ← List.append_assoc]; exact h1, HKW.out.trans k1, HW.out.kpw HKP.out k1⟩
      have hlb : (l0 ++ (es.take k).flatMap Pl.edgeT).length + 92 ≤ 140737488355328 := by rw [List.length_append]; have := HTL.out k hk; omega
      obtain ⟨lk, hlk⟩ : ∃ q, l0 ++ (es.take k).flatMap Pl.edgeT = q := ⟨_, rfl⟩
      rw [hlk] at HST HW hlb
      have hel := edgeT_length hev
      have hez := chkE_zero hev
      clear hlk hev hcells hx
      obtain ⟨ek, ⟨ax, ay⟩, ⟨bx, bY⟩, ⟨cx, cy⟩⟩ := e
      dsimp only at hc0 hez
      obtain ⟨hek, ⟨ha1, ha2⟩, ⟨hb1, hb2⟩, ⟨hc1, hc2⟩, hz1, hz2⟩ := hez
      clear hz1 hz2
      dsimp only at ha1 ha2 hb1 hb2 hc1 hc2
      have MB1 := Lib.hid (In.mid hb1)
      have MB2 := Lib.hid (In.mid hb2)
      have MA1 := Lib.hid (In.mid ha1)
      have MA2 := Lib.hid (In.mid ha2)
      have MC1 := Lib.hid (In.mid hc1)
      have MC2 := Lib.hid (In.mid hc2)
      have MD1 := Lib.hid (sub_mid hc1 ha1)
      have MD2 := Lib.hid (sub_mid hc2 ha2)
      clear ha1 ha2 hb1 hb2 hc1 hc2
      obtain ⟨c0, c1, c2, c3, c4, c5, c6⟩ := hc0
      have HBX := Lib.hid (heap_alloc_new wr (Obj.cells #[.int .i64 ek, .int .i64 ax, .int .i64 ay, .int .i64 bx, .int .i64 bY, .int .i64 cx, .int .i64 cy] 42))
      have HKB : Hid (Kp wr (wr.alloc (Obj.cells #[.int .i64 ek, .int .i64 ax, .int .i64 ay, .int .i64 bx, .int .i64 bY, .int .i64 cx, .int .i64 cy] 42)) none) := Lib.hid ((Kp.refl wr none).alloc _)
      obtain ⟨et, het⟩ : ∃ q, Pl.edgeT ⟨ek, ⟨ax, ay⟩, ⟨bx, bY⟩, ⟨cx, cy⟩⟩ = q := ⟨_, rfl⟩
      rw [het] at HST hel
      rcases hek with rfl | rfl | rfl
      · have HOUT : Hid (et = [[71, 48, 49], Pl.pnt 88 ⟨bx, bY⟩ 89, [68, 48, 49, 42]].flatten ++ [10]) := Lib.hid (by rw [← het]; simp [Pl.edgeT, Pl.gOf, Pl.arcT])
        clear het
        go_wp2_with (first
          | (go_at_call 30; refine (point_any 88 89 bx bY _ (HENV.out _ (HKP.out.trans HKB.out)) MB1.out MB2.out).mono ?_; rintro e w1 ⟨rfl, k1⟩; have K1 := Lib.hid (HKB.out.trans k1); have H1 := Lib.hid (HW.out.kp K1.out); have z0 : w1.cell? ⟨wr.heap.size, 0, none⟩ = some (.int .i64 1) := ckr HBX.out k1 (by simp) 0 rfl; clear k1)
          | (go_at_call 11; refine (cmd_at H1.out [[71, 48, 49], Pl.pnt 88 ⟨bx, bY⟩ 89, [68, 48, 49, 42]] _ _ _ rfl rfl rfl (by simp) et HOUT.out (by omega) (Nat.le_trans HBW.out K1.out.size)).mono ?_; rintro e w2 ⟨rfl, h2, k2⟩; have K2 := Lib.hid ((Kw.of_kp K1.out HW.out.lt).trans k2); have HR := Lib.hid (HST.out _ h2 K2.out); clear h2 k2)
          | fail)
        exact ⟨HR.out, by simp [intOf]; omega⟩
      · have HOUT : Hid (et = [[71, 48, 51], Pl.pnt 88 ⟨bx, bY⟩ 89, Pl.pnt 73 ⟨cx - ax, cy - ay⟩ 74, [68, 48, 49, 42]].flatten ++ [10]) := Lib.hid (by rw [← het]; simp [Pl.edgeT, Pl.gOf, Pl.arcT, Pl.sub])
        clear het
        go_wp2_with fail
        refine (point_any 88 89 bx bY _ (HENV.out _ (HKP.out.trans HKB.out)) MB1.out MB2.out).mono ?_
        rintro e w1 ⟨rfl, k1⟩
        have K1 := Lib.hid (HKB.out.trans k1)
        have z0 : w1.cell? ⟨wr.heap.size, 0, none⟩ = some (.int .i64 2) := ckr HBX.out k1 (by simp) 0 rfl
        have z1 : w1.cell? ⟨wr.heap.size, 1, none⟩ = some (.int .i64 ax) := ckr HBX.out k1 (by simp) 1 rfl
        have z2 : w1.cell? ⟨wr.heap.size, 2, none⟩ = some (.int .i64 ay) := ckr HBX.out k1 (by simp) 2 rfl
        have z5 : w1.cell? ⟨wr.heap.size, 5, none⟩ = some (.int .i64 cx) := ckr HBX.out k1 (by simp) 5 rfl
        have z6 : w1.cell? ⟨wr.heap.size, 6, none⟩ = some (.int .i64 cy) := ckr HBX.out k1 (by simp) 6 rfl
        clear k1
        go_wp2_with fail
        refine (vsub_any cx cy ax ay _ MC1.out MC2.out MA1.out MA2.out).mono ?_
        rintro e w3 ⟨rfl, k3⟩
        have K3 := Lib.hid (K1.out.trans k3)
        clear k3
        go_wp2_with fail
        refine (point_any 73 74 (cx - ax) (cy - ay) _ (HENV.out _ (HKP.out.trans K3.out)) MD1.out MD2.out).mono ?_
        rintro e w4 ⟨rfl, k4⟩
        have K4 := Lib.hid (K3.out.trans k4)
        have H1 := Lib.hid (HW.out.kp K4.out)
        clear k4
        go_wp2_with fail
        refine (cmd_at H1.out [[71, 48, 51], Pl.pnt 88 ⟨bx, bY⟩ 89, Pl.pnt 73 ⟨cx - ax, cy - ay⟩ 74, [68, 48, 49, 42]] _ _ _ rfl rfl rfl (by simp) et HOUT.out (by omega) (Nat.le_trans HBW.out K4.out.size)).mono ?_
        rintro e w2 ⟨rfl, h2, k2⟩
        have K2 := Lib.hid ((Kw.of_kp K4.out HW.out.lt).trans k2)
        have HR := Lib.hid (HST.out _ h2 K2.out)
        clear h2 k2
        go_wp2_with fail
        exact ⟨HR.out, by simp [intOf]; omega⟩
      · have HOUT : Hid (et = [[71, 48, 50], Pl.pnt 88 ⟨bx, bY⟩ 89, Pl.pnt 73 ⟨cx - ax, cy - ay⟩ 74, [68, 48, 49, 42]].flatten ++ [10]) := Lib.hid (by rw [← het]; simp [Pl.edgeT, Pl.gOf, Pl.arcT, Pl.sub])
        clear het
        go_wp2_with fail
        refine (point_any 88 89 bx bY _ (HENV.out _ (HKP.out.trans HKB.out)) MB1.out MB2.out).mono ?_
        rintro e w1 ⟨rfl, k1⟩
        have K1 := Lib.hid (HKB.out.trans k1)
        have z0 : w1.cell? ⟨wr.heap.size, 0, none⟩ = some (.int .i64 3) := ckr HBX.out k1 (by simp) 0 rfl
        have z1 : w1.cell? ⟨wr.heap.size, 1, none⟩ = some (.int .i64 ax) := ckr HBX.out k1 (by simp) 1 rfl
        have z2 : w1.cell? ⟨wr.heap.size, 2, none⟩ = some (.int .i64 ay) := ckr HBX.out k1 (by simp) 2 rfl
        have z5 : w1.cell? ⟨wr.heap.size, 5, none⟩ = some (.int .i64 cx) := ckr HBX.out k1 (by simp) 5 rfl
        have z6 : w1.cell? ⟨wr.heap.size, 6, none⟩ = some (.int .i64 cy) := ckr HBX.out k1 (by simp) 6 rfl
        clear k1
        go_wp2_with fail
        refine (vsub_any cx cy ax ay _ MC1.out MC2.out MA1.out MA2.out).mono ?_
        rintro e w3 ⟨rfl, k3⟩
        have K3 := Lib.hid (K1.out.trans k3)
        clear k3
        go_wp2_with fail
        refine (point_any 73 74 (cx - ax) (cy - ay) _ (HENV.out _ (HKP.out.trans K3.out)) MD1.out MD2.out).mono ?_
        rintro e w4 ⟨rfl, k4⟩
        have K4 := Lib.hid (K3.out.trans k4)
        have H1 := Lib.hid (HW.out.kp K4.out)
        clear k4
        go_wp2_with fail
        refine (cmd_at H1.out [[71, 48, 50], Pl.pnt 88 ⟨bx, bY⟩ 89, Pl.pnt 73 ⟨cx - ax, cy - ay⟩ 74, [68, 48, 49, 42]] _ _ _ rfl rfl rfl (by simp) et HOUT.out (by omega) (Nat.le_trans HBW.out K4.out.size)).mono ?_
        rintro e w2 ⟨rfl, h2, k2⟩
        have K2 := Lib.hid ((Kw.of_kp K4.out HW.out.lt).trans k2)
        have HR := Lib.hid (HST.out _ h2 K2.out)
        clear h2 k2
        go_wp2_with fail
        exact ⟨HR.out, by simp [intOf]; omega⟩
    · have hk1 : ¬ (k : Int) < (es.length : Int) := by omega
      have hkn : k = es.length := by omega
      have HR : Hid (Wr W.heap.size b (l0 ++ es.flatMap Pl.edgeT) m ap c wr) := Lib.hid (by have := HW.out; rw [hkn, List.take_length] at this; exact this)
      clear hkn
      go_wp2_with fail
      go_end0
      exact ⟨rfl, by rw [HFIN.out]; exact HR.out, HKW.out⟩

end Go.Proofs.YtggplbenliaodaaDoor
