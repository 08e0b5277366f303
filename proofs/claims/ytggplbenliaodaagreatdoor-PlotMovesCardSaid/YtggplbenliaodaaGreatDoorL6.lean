/- The law PlotMoves: drawings are moved, and moved back. Condition: the library's table of powers. -/
import Derived.Test.YtggplbenliaodaaGreatDoorSn
import Derived.Test.YtggplbenliaodaaGreatDoorIv
import Derived.Test.YtggplbenliaodaaGreatDoorL3
import Derived.Test.YtggplbenliaodaaGreatDoorPlF
namespace Pl
def inv (m : Mo) : Mo :=
  if m.mirror then ⟨⟨-(apply ⟨⟨0, 0⟩, m.turn % 4, true⟩ m.at_).x, -(apply ⟨⟨0, 0⟩, m.turn % 4, true⟩ m.at_).y⟩, m.turn % 4, true⟩
  else ⟨⟨-(apply ⟨⟨0, 0⟩, (4 - m.turn % 4) % 4, false⟩ m.at_).x, -(apply ⟨⟨0, 0⟩, (4 - m.turn % 4) % 4, false⟩ m.at_).y⟩, (4 - m.turn % 4) % 4, false⟩
theorem inv_apply (m : Mo) (p : Pt) : apply (inv m) (apply m p) = p := by
  obtain ⟨⟨ax, ay⟩, t, b⟩ := m
  obtain ⟨x, y⟩ := p
  have h4 : t % 4 = 0 ∨ t % 4 = 1 ∨ t % 4 = 2 ∨ t % 4 = 3 := by omega
  cases b <;> rcases h4 with h | h | h | h <;> simp [inv, apply, add, turn, h] <;> omega
theorem inv_moveE (m : Mo) (e : Ed) (h : e.k = 1 ∨ e.k = 2 ∨ e.k = 3) : moveE (inv m) (moveE m e) = e := by
  have hm : (inv m).mirror = m.mirror := by unfold inv; cases m.mirror <;> rfl
  obtain ⟨k, a, b, c⟩ := e
  dsimp only at h
  unfold moveE
  dsimp only
  rw [inv_apply, inv_apply, hm]
  rcases h with rfl | rfl | rfl <;> cases m.mirror <;> simp [other, inv_apply]
theorem inv_moveD (m : Mo) (d : Dr) (h : ∀ e ∈ d.s.es, e.k = 1 ∨ e.k = 2 ∨ e.k = 3) : moveD (inv m) (moveD m d) = d := by
  obtain ⟨⟨k, es, r⟩, c⟩ := d
  dsimp only at h
  unfold moveD moveS
  dsimp only
  rw [List.map_map]
  have : es.map (moveE (inv m) ∘ moveE m) = es := by
    conv => rhs; rw [← List.map_id es]
    exact List.map_congr_left (fun e he => inv_moveE m e (h e he))
  rw [this]
end Pl
namespace Go.Proofs.YtggplbenliaodaaGreatDoor
open Go.RowKit

theorem inverse_any (m : Pl.Mo) (w : World) (h1 : Mid m.at_.x) (h2 : Mid m.at_.y) : Calls Tryz.prog 17 #[.agg #[.int .i64 m.at_.x, .int .i64 m.at_.y, .int .i64 m.turn, .bool m.mirror]] w fun E w' => E = .returned (.agg #[.int .i64 (Pl.inv m).at_.x, .int .i64 (Pl.inv m).at_.y, .int .i64 (Pl.inv m).turn, .bool (Pl.inv m).mirror]) ∧ Kp w w' none := by
  obtain ⟨⟨x, y⟩, t, b⟩ := m
  cases b
  · exact inverse_false x y t w h1 h2
  · exact inverse_true x y t w h1 h2
theorem inv_mid {m : Pl.Mo} (h : Pl.Lim 1000 m.at_) : Mid (Pl.inv m).at_.x ∧ Mid (Pl.inv m).at_.y := by
  obtain ⟨⟨x, y⟩, t, b⟩ := m
  unfold Pl.Lim at h
  dsimp only at h
  have q : ∀ t b, Mid (Pl.apply ⟨⟨0, 0⟩, t, b⟩ ⟨x, y⟩).x ∧ Mid (Pl.apply ⟨⟨0, 0⟩, t, b⟩ ⟨x, y⟩).y := fun t b => apply_mid _ _ (by unfold Mid; dsimp only; omega) (by unfold Mid; dsimp only; omega) rfl
  unfold Pl.inv
  cases b
  · have := q ((4 - t % 4) % 4) false
    unfold Mid at *
    dsimp only
    simp only [Bool.false_eq_true, if_false]
    omega
  · have := q (t % 4) true
    unfold Mid at *
    dsimp only
    simp only [if_true]
    omega
/-- A coordinate of some thousands. -/
def SmE (b : Int) (e : Pl.Ed) : Prop := (e.k = 1 ∨ e.k = 2 ∨ e.k = 3) ∧ Pl.Lim b e.a ∧ Pl.Lim b e.b ∧ Pl.Lim b e.c
theorem SmE.mid {b : Int} {e : Pl.Ed} (h : SmE b e) (hb : b ≤ 100000) : MidE e := by
  obtain ⟨h1, h2, h3, h4⟩ := h
  unfold Pl.Lim at h2 h3 h4
  exact ⟨h1, by unfold MidP Mid; omega, by unfold MidP Mid; omega, by unfold MidP Mid; omega⟩
theorem apply_lim {b : Int} {m : Pl.Mo} {p : Pl.Pt} (h : Pl.Lim b p) (hm : Pl.Lim 1000 m.at_) : Pl.Lim (b + 1000) (Pl.apply m p) := by
  obtain ⟨⟨ax, ay⟩, t, mb⟩ := m
  obtain ⟨x, y⟩ := p
  unfold Pl.Lim at *
  unfold Pl.apply Pl.add Pl.turn
  dsimp only at *
  have h4 : t % 4 = 0 ∨ t % 4 = 1 ∨ t % 4 = 2 ∨ t % 4 = 3 := by omega
  cases mb <;> rcases h4 with h' | h' | h' | h' <;> simp [h'] <;> omega
theorem moveE_lim {b : Int} {m : Pl.Mo} {e : Pl.Ed} (h : SmE b e) (hm : Pl.Lim 1000 m.at_) : SmE (b + 1000) (Pl.moveE m e) := by
  obtain ⟨h1, h2, h3, h4⟩ := h
  refine ⟨?_, apply_lim h2 hm, apply_lim h3 hm, ?_⟩
  · unfold Pl.moveE Pl.other
    dsimp only
    rcases h1 with h | h | h <;> rw [h] <;> cases m.mirror <;> simp
  · unfold Pl.moveE
    dsimp only
    split
    · unfold Pl.Lim at h4 ⊢; omega
    · exact apply_lim h4 hm
theorem fine_sm {s : Pl.Sh} (h : Pl.Fine s) : (0 < s.es.length ∧ s.es.length ≤ 8) ∧ ∀ e ∈ s.es, SmE 1000 e := by
  obtain ⟨h1, h2, h3⟩ := h
  obtain ⟨_, a2, a3, _⟩ := Pl.chk_shape h1
  exact ⟨⟨a2, h2⟩, fun e he => ⟨(chkE_zero (a3 e he)).1, h3 e he⟩⟩
set_option maxHeartbeats 16000000 in
set_option maxRecDepth 100000 in
theorem pmoves_any (rows : List (List Int)) (nr : Nat) (hr : rows.length = nr) (ro : Option Addr) (rc : Nat) (mx my t : Int) (mb : Bool) (w : World) (he : Env w) (hrows : LiesRows w ro rc rows) (hn2 : LenOk nr) :
    Calls Tryz.prog 6 #[.slice ro nr rc, .agg #[.int .i64 mx, .int .i64 my, .int .i64 t, .bool mb]] w fun E w' => E = .returned (.bool true) ∧ Kp w w' none := by
  have HE := Lib.hid he
  have HRW := Lib.hid hrows
  obtain ⟨ax, hax⟩ : ∃ z, mx.tmod 1000 = z := ⟨_, rfl⟩
  obtain ⟨ay, hay⟩ : ∃ z, my.tmod 1000 = z := ⟨_, rfl⟩
  have HA : Hid (Pl.Lim 1000 ⟨ax, ay⟩) := Lib.hid (by have h1 := tmod_range mx 1000 (by omega); have h2 := tmod_range my 1000 (by omega); rw [hax] at h1; rw [hay] at h2; unfold Pl.Lim; dsimp only; omega)
  have HAM : Hid (Mid ax ∧ Mid ay) := Lib.hid (by have := HA.out; unfold Pl.Lim at this; unfold Mid; dsimp only at this; omega)
  clear he hrows
  go_enter Tryz.func6, Tryz.ntmps6
  go_wp2_with fail
  have HB0 : Hid ((w.alloc (Obj.cells #[.int .i64 mx, .int .i64 my, .int .i64 t, .bool mb] 48)).heap[w.heap.size]? = some (Obj.cells #[.int .i64 mx, .int .i64 my, .int .i64 t, .bool mb] 48 (0, 0))) := Lib.hid (heap_alloc_new w _)
  have K0 : Hid (Kp w (w.alloc (Obj.cells #[.int .i64 mx, .int .i64 my, .int .i64 t, .bool mb] 48)) none) := Lib.hid ((Kp.refl w none).alloc _)
  refine (sanity_any _ (HE.out.kp0 K0.out)).mono ?_
  rintro E w1 ⟨rfl, k1⟩
  have HB1 := Lib.hid (blk HB0.out k1)
  have K1 := Lib.hid (K0.out.trans k1)
  clear k1 HB0 K0
  have b0 := hcell HB1.out 0 rfl
  have b1 := hcell HB1.out 1 rfl
  have g0 := Lib.frozen_of_heap HB1.out 0
  have g1 := Lib.frozen_of_heap HB1.out 1
  go_upto_region 3 with fail
  clear b0 b1 g0 g1
  try rw [hax, hay]
  clear hax hay
  have hs := heap_set (o := 1) (v := .int .i64 ay) (heap_set (o := 0) (v := .int .i64 ax) HB1.out)
  simp at hs
  have kz := ((Kp.refl w1 (some w.heap.size)).set (o := 0) (.int .i64 ax)).set (o := 1) (.int .i64 ay)
  have HB2 := Lib.hid hs
  have K2 := Lib.hid (K1.out.of_own kz (Nat.le_refl _))
  clear hs kz HB1 K1
  generalize (w1.setCell ⟨w.heap.size, 0, none⟩ (.int .i64 ax)).setCell ⟨w.heap.size, 1, none⟩ (.int .i64 ay) = w2 at *
  go_wp2_with fail
  refine (rmade_any rows nr hr ro rc w2 (HRW.out.keep K2.out) hn2).mono ?_
  rintro E w3 ⟨ts, ao, cap, hfine, hlen, rfl, hli, hed, hcap, hfr, k3⟩
  have HB3 := Lib.hid (blk HB2.out k3)
  have K3 := Lib.hid (K2.out.trans k3)
  have HFI : Hid (∀ z ∈ ts, (0 < z.d.s.es.length ∧ z.d.s.es.length ≤ 8) ∧ ∀ e ∈ z.d.s.es, SmE 1000 e) := Lib.hid (fun z hz => fine_sm (hfine z hz))
  have HLI := Lib.hid hli
  have HED := Lib.hid hed
  have HLEN := Lib.hid hlen
  have HCAP := Lib.hid hcap
  clear k3 HB2 K2 hfine hli hed hfr hcap hlen hr HRW
  have b0 := hcell HB3.out 0 rfl
  have b1 := hcell HB3.out 1 rfl
  have b2 := hcell HB3.out 2 rfl
  have b3 := hcell HB3.out 3 rfl
  obtain ⟨n, hn⟩ : ∃ n, ts.length = n := ⟨_, rfl⟩
  rw [hn] at HLEN HCAP
  rw [hn]
  have HN := Lib.hid hn
  clear hn
  have hn8 : n ≤ 8 := HLEN.out
  have hn0 : (0 : Int) ≤ (n : Int) := Int.natCast_nonneg _
  go_wp2_with fail
  refine (pmove_any ax ay t mb ts n HN.out ao cap w3 HLI.out HCAP.out.2 HED.out (by omega) (fun z hz => ⟨⟨(HFI.out z hz).1.1, by have := (HFI.out z hz).1.2; omega⟩, fun e he => ((HFI.out z hz).2 e he).mid (by omega)⟩) HAM.out).mono ?_
  rintro E w4 ⟨us, uo, uc, u1, rfl, u3, u4, u5, k4⟩
  have HU1 := Lib.hid u1
  have HU3 := Lib.hid u3
  have HU4 := Lib.hid u4
  have HU5 := Lib.hid u5
  have hul : us.length = n := by have h := congrArg List.length u1; rw [List.length_map, List.length_map, HN.out] at h; exact h
  rw [hul]
  rw [hul] at HU5
  have HUL := Lib.hid hul
  have HMO : Hid (∀ V, Kp w4 V none → V.cell? ⟨w.heap.size, 0, none⟩ = some (.int .i64 ax) ∧ V.cell? ⟨w.heap.size, 1, none⟩ = some (.int .i64 ay) ∧ V.cell? ⟨w.heap.size, 2, none⟩ = some (.int .i64 t) ∧ V.cell? ⟨w.heap.size, 3, none⟩ = some (.bool mb)) := Lib.hid (fun V k => by
    have h := blk HB3.out (k4.trans k)
    exact ⟨hcell h 0 rfl, hcell h 1 rfl, hcell h 2 rfl, hcell h 3 rfl⟩)
  have HT3 : Hid (LiesAt 4 dtC w4 ao cap ts) := Lib.hid (HLI.out.keep k4)
  have HT4 : Hid (∀ z ∈ ts, LiesAt 7 edC w4 z.ea z.ec z.d.s.es) := Lib.hid (fun z hz => (HED.out z hz).keep k4)
  have K4Z := Lib.hid (K3.out.trans k4)
  clear u1 u3 u4 u5 k4 hul HB3 HLI HED K3 b0 b1 b2 b3
  go_wp2_with fail
  go_loopw [32] (fun i wr => ∃ k : Nat, k ≤ n ∧ i = .int .i64 k ∧ Kp w4 wr none) (fun i _ => n - (intOf i).toNat)
  case atStart => exact ⟨0, Nat.zero_le _, rfl, Kp.refl _ _⟩
  case round =>
    obtain ⟨k, hk, rfl, hK⟩ := hrel
    have HK := Lib.hid hK
    clear hK
    have hk0 : (0 : Int) ≤ (k : Int) := Int.natCast_nonneg _
    by_cases hlt : k < n
    · have hk1 : (k : Int) < (n : Int) := by omega
      obtain ⟨b, off, rfl, hcx1, hcx⟩ := HU3.out.dt (k := k) (by have := HUL.out; omega)
      obtain ⟨b2, off2, rfl, hcy1, hcy⟩ := HT3.out.dt (k := k) (by have := HN.out; omega)
      have hcu : n ≤ uc := HU5.out.1
      have hct : n ≤ cap := HCAP.out.1
      have hd : (us[k]'(by have := HUL.out; omega)).d = Pl.moveD ⟨⟨ax, ay⟩, t, mb⟩ (ts[k]'(by have := HN.out; omega)).d := by
        have h : (us.map (fun z : DT => z.d))[k]'(by rw [List.length_map]; have := HUL.out; omega) = (ts.map (fun z : DT => Pl.moveD ⟨⟨ax, ay⟩, t, mb⟩ z.d))[k]'(by rw [List.length_map]; have := HN.out; omega) := by
          have h1 := HU1.out
          simp only [h1]
        simpa using h
      have hx4 := HU4.out _ (List.getElem_mem (show k < us.length by have := HUL.out; omega))
      have hyf := HFI.out _ (List.getElem_mem (show k < ts.length by have := HN.out; omega))
      have hy4 := HT4.out _ (List.getElem_mem (show k < ts.length by have := HN.out; omega))
      obtain ⟨x, hx⟩ : ∃ z, us[k]'(by have := HUL.out; omega) = z := ⟨_, rfl⟩
      obtain ⟨y, hy⟩ : ∃ z, ts[k]'(by have := HN.out; omega) = z := ⟨_, rfl⟩
      rw [hx] at hcx hd hx4
      rw [hy] at hcy hd hyf hy4
      obtain ⟨s2, hs2⟩ : ∃ s, Pl.moveS ⟨⟨ax, ay⟩, t, mb⟩ y.d.s = s := ⟨_, rfl⟩
      have hxs : x.d.s = s2 := by rw [hd, ← hs2]; rfl
      have hxc : x.d.clear = y.d.clear := by rw [hd]; rfl
      obtain ⟨cl, hcl⟩ : ∃ c, y.d.clear = c := ⟨_, rfl⟩
      rw [hcl] at hxc hcy
      rw [hxc] at hcx
      have HCX := Lib.hid hcx
      have HCY := Lib.hid hcy
      have HMS : Hid (∀ V, Kp w4 V none → Calls Tryz.prog 16 #[.agg #[.int .i64 y.d.s.k, .slice y.ea y.d.s.es.length y.ec, .int .i64 y.d.s.r], .agg #[.int .i64 ax, .int .i64 ay, .int .i64 t, .bool mb]] V (ShapeIs V s2)) := Lib.hid (fun V kv => by
        rw [← hs2]
        exact smove_any y.d.s.k y.d.s.r ax ay t mb y.d.s.es _ rfl y.ea y.ec V (hy4.keep kv) hyf.1.1 (by have := hyf.1.2; omega) (fun e he => (hyf.2 e he).mid (by omega)) HAM.out)
      have HSS : Hid (∀ V ez cz, Kp w4 V none → LiesAt 7 edC V ez cz s2.es → Calls Tryz.prog 15 #[.agg #[.int .i64 x.d.s.k, .slice x.ea x.d.s.es.length x.ec, .int .i64 x.d.s.r], .agg #[.int .i64 s2.k, .slice ez s2.es.length cz, .int .i64 s2.r]] V fun E w' => E = .returned (.bool true) ∧ Kp V w' none) := Lib.hid (fun V ez cz kv hl => by
        have hle : s2.es.length ≤ 1000000 := by rw [← hs2]; show (y.d.s.es.map _).length ≤ _; rw [List.length_map]; have := hyf.1.2; omega
        have h := ssame_any x.d.s.k x.d.s.r s2.k s2.r x.d.s.es s2.es _ _ rfl rfl x.ea ez x.ec cz V (hx4.keep kv) hl (by rw [hxs]; exact hle) hle
        rw [decide_eq_true (show (⟨x.d.s.k, x.d.s.es, x.d.s.r⟩ : Pl.Sh) = ⟨s2.k, s2.es, s2.r⟩ by rw [hxs])] at h
        exact h)
      have hn8I : (n : Int) ≤ 8 := by omega
      clear hcx hcy hd hx4 hyf hy4 hx hy hs2 hxs hxc hcl hcx1 hcy1
      go_wp2_with fail
      cases cl
      · refine wp_region_held_drew (S := fun V => V.cell? ⟨w.heap.size, 0, none⟩ = some (.int .i64 ax) ∧ V.cell? ⟨w.heap.size, 1, none⟩ = some (.int .i64 ay) ∧ V.cell? ⟨w.heap.size, 2, none⟩ = some (.int .i64 t) ∧ V.cell? ⟨w.heap.size, 3, none⟩ = some (.bool mb) ∧ V.cell? ⟨b, off + k * 4, none⟩ = some (.int .i64 x.d.s.k) ∧ V.cell? ⟨b, off + k * 4 + 1, none⟩ = some (.slice x.ea x.d.s.es.length x.ec) ∧ V.cell? ⟨b, off + k * 4 + 2, none⟩ = some (.int .i64 x.d.s.r) ∧ V.cell? ⟨b, off + k * 4 + 3, none⟩ = some (.bool false) ∧ V.cell? ⟨b2, off2 + k * 4, none⟩ = some (.int .i64 y.d.s.k) ∧ V.cell? ⟨b2, off2 + k * 4 + 1, none⟩ = some (.slice y.ea y.d.s.es.length y.ec) ∧ V.cell? ⟨b2, off2 + k * 4 + 2, none⟩ = some (.int .i64 y.d.s.r) ∧ V.cell? ⟨b2, off2 + k * 4 + 3, none⟩ = some (.bool false) ∧ True) (by kernel_rfl) ?_ (fun hHeld => ?_)
        · exact ⟨(HMO.out _ HK.out.drew).1, (HMO.out _ HK.out.drew).2.1, (HMO.out _ HK.out.drew).2.2.1, (HMO.out _ HK.out.drew).2.2.2, (HCX.out _ HK.out.drew).1, (HCX.out _ HK.out.drew).2.1, (HCX.out _ HK.out.drew).2.2.1, (HCX.out _ HK.out.drew).2.2.2, (HCY.out _ HK.out.drew).1, (HCY.out _ HK.out.drew).2.1, (HCY.out _ HK.out.drew).2.2.1, (HCY.out _ HK.out.drew).2.2.2, trivial⟩
        refine tkH 0 rfl ?_
        try simp only [Act.put, sm]
        refine tkH 1 rfl ?_
        try simp only [Act.put, sm]
        refine tkH 2 rfl ?_
        try simp only [Act.put, sm]
        refine tkH 3 rfl ?_
        try simp only [Act.put, sm]
        refine tkH 4 rfl ?_
        try simp only [Act.put, sm]
        refine tkH 5 rfl ?_
        try simp only [Act.put, sm]
        refine tkH 6 rfl ?_
        try simp only [Act.put, sm]
        refine tkH 7 rfl ?_
        try simp only [Act.put, sm]
        refine tkH 8 rfl ?_
        try simp only [Act.put, sm]
        refine tkH 9 rfl ?_
        try simp only [Act.put, sm]
        refine tkH 10 rfl ?_
        try simp only [Act.put, sm]
        refine wpAnyH_ready (rs := [11]) (by kernel_rfl) (by simp) ?_
        refine AllReadyH.cons (o := _) rfl (fun K hK => ?_) AllReadyH.nil
        have gK := hHeld
        clear hHeld
        go_simp
        refine (HMS.out _ HK.out.drew).mono ?_
        rintro E w2 ⟨ez, cz, rfl, hl, _, kk⟩
        have HLZ := Lib.hid hl
        have K2 := Lib.hid (HK.out.drew.trans kk)
        clear hl kk
        try go_wp2_with fail
        refine hK.out _ _ ?_ (fun hHeld => ?_)
        · exact ⟨(HMO.out _ K2.out).1, (HMO.out _ K2.out).2.1, (HMO.out _ K2.out).2.2.1, (HMO.out _ K2.out).2.2.2, (HCX.out _ K2.out).1, (HCX.out _ K2.out).2.1, (HCX.out _ K2.out).2.2.1, (HCX.out _ K2.out).2.2.2, (HCY.out _ K2.out).1, (HCY.out _ K2.out).2.1, (HCY.out _ K2.out).2.2.1, (HCY.out _ K2.out).2.2.2, trivial⟩
        clear hK K gK
        try simp only [Act.put, sm]
        refine wpAnyH_ready (rs := [12]) (by kernel_rfl) (by simp) ?_
        refine AllReadyH.cons (o := _) rfl (fun K hK => ?_) AllReadyH.nil
        have gK := hHeld
        clear hHeld
        go_simp
        refine (HSS.out _ ez cz K2.out HLZ.out).mono ?_
        rintro E w3 ⟨rfl, kk⟩
        have K3 := Lib.hid (K2.out.trans kk)
        clear kk
        try go_wp2_with fail
        refine hK.out _ _ ?_ (fun hHeld => ?_)
        · exact ⟨(HMO.out _ K3.out).1, (HMO.out _ K3.out).2.1, (HMO.out _ K3.out).2.2.1, (HMO.out _ K3.out).2.2.2, (HCX.out _ K3.out).1, (HCX.out _ K3.out).2.1, (HCX.out _ K3.out).2.2.1, (HCX.out _ K3.out).2.2.2, (HCY.out _ K3.out).1, (HCY.out _ K3.out).2.1, (HCY.out _ K3.out).2.2.1, (HCY.out _ K3.out).2.2.2, trivial⟩
        clear hK K gK
        try simp only [Act.put, sm]
        refine tkH 13 rfl ?_
        try simp only [Act.put, sm]
        refine tkH 14 rfl ?_
        try simp only [Act.put, sm]
        refine tkH 15 rfl ?_
        try simp only [Act.put, sm]
        refine tkH 16 rfl ?_
        try simp only [Act.put, sm]
        refine tkH 17 rfl ?_
        try simp only [Act.put, sm]
        refine tkH 18 rfl ?_
        try simp only [Act.put, sm]
        refine tkH 19 rfl ?_
        try simp only [Act.put, sm]
        refine tkH 20 rfl ?_
        try simp only [Act.put, sm]
        refine tkH 21 rfl ?_
        try simp only [Act.put, sm]
        refine tkH 22 rfl ?_
        try simp only [Act.put, sm]
        refine tkH 23 rfl ?_
        try simp only [Act.put, sm]
        refine tkH 24 rfl ?_
        try simp only [Act.put, sm]
        refine tkH 25 rfl ?_
        try simp only [Act.put, sm]
        refine wpAnyH_ready (rs := [26]) (by kernel_rfl) (by simp) ?_
        refine AllReadyH.cons (o := _) rfl (fun K hK => ?_) AllReadyH.nil
        have gK := hHeld
        clear hHeld
        go_simp
        try go_wp2_with fail
        refine hK.out _ _ ?_ (fun hHeld => ?_)
        · exact ⟨(HMO.out _ K3.out).1, (HMO.out _ K3.out).2.1, (HMO.out _ K3.out).2.2.1, (HMO.out _ K3.out).2.2.2, (HCX.out _ K3.out).1, (HCX.out _ K3.out).2.1, (HCX.out _ K3.out).2.2.1, (HCX.out _ K3.out).2.2.2, (HCY.out _ K3.out).1, (HCY.out _ K3.out).2.1, (HCY.out _ K3.out).2.2.1, (HCY.out _ K3.out).2.2.2, trivial⟩
        clear hK K gK
        try simp only [Act.put, sm]
        clear hHeld
        refine wpAnyH_done (by kernel_rfl) ?_ _
        have hm3 : (n : Int) ≤ 8 := by omega
        go_wp2_with fail
        try rw [wrap_mid (n := (k : Int) + 1) (by omega) (by omega)]
        first | exact ⟨⟨k + 1, hlt, by go_num, K3.out⟩, by simp [intOf]; omega⟩ | (go_roundw; all_goals first | exact ⟨k + 1, hlt, by go_num, K3.out⟩ | (simp [intOf]; omega))
      · refine wp_region_held_drew (S := fun V => V.cell? ⟨w.heap.size, 0, none⟩ = some (.int .i64 ax) ∧ V.cell? ⟨w.heap.size, 1, none⟩ = some (.int .i64 ay) ∧ V.cell? ⟨w.heap.size, 2, none⟩ = some (.int .i64 t) ∧ V.cell? ⟨w.heap.size, 3, none⟩ = some (.bool mb) ∧ V.cell? ⟨b, off + k * 4, none⟩ = some (.int .i64 x.d.s.k) ∧ V.cell? ⟨b, off + k * 4 + 1, none⟩ = some (.slice x.ea x.d.s.es.length x.ec) ∧ V.cell? ⟨b, off + k * 4 + 2, none⟩ = some (.int .i64 x.d.s.r) ∧ V.cell? ⟨b, off + k * 4 + 3, none⟩ = some (.bool true) ∧ V.cell? ⟨b2, off2 + k * 4, none⟩ = some (.int .i64 y.d.s.k) ∧ V.cell? ⟨b2, off2 + k * 4 + 1, none⟩ = some (.slice y.ea y.d.s.es.length y.ec) ∧ V.cell? ⟨b2, off2 + k * 4 + 2, none⟩ = some (.int .i64 y.d.s.r) ∧ V.cell? ⟨b2, off2 + k * 4 + 3, none⟩ = some (.bool true) ∧ True) (by kernel_rfl) ?_ (fun hHeld => ?_)
        · exact ⟨(HMO.out _ HK.out.drew).1, (HMO.out _ HK.out.drew).2.1, (HMO.out _ HK.out.drew).2.2.1, (HMO.out _ HK.out.drew).2.2.2, (HCX.out _ HK.out.drew).1, (HCX.out _ HK.out.drew).2.1, (HCX.out _ HK.out.drew).2.2.1, (HCX.out _ HK.out.drew).2.2.2, (HCY.out _ HK.out.drew).1, (HCY.out _ HK.out.drew).2.1, (HCY.out _ HK.out.drew).2.2.1, (HCY.out _ HK.out.drew).2.2.2, trivial⟩
        refine tkH 0 rfl ?_
        try simp only [Act.put, sm]
        refine tkH 1 rfl ?_
        try simp only [Act.put, sm]
        refine tkH 2 rfl ?_
        try simp only [Act.put, sm]
        refine tkH 3 rfl ?_
        try simp only [Act.put, sm]
        refine tkH 4 rfl ?_
        try simp only [Act.put, sm]
        refine tkH 5 rfl ?_
        try simp only [Act.put, sm]
        refine tkH 6 rfl ?_
        try simp only [Act.put, sm]
        refine tkH 7 rfl ?_
        try simp only [Act.put, sm]
        refine tkH 8 rfl ?_
        try simp only [Act.put, sm]
        refine tkH 9 rfl ?_
        try simp only [Act.put, sm]
        refine tkH 10 rfl ?_
        try simp only [Act.put, sm]
        refine wpAnyH_ready (rs := [11]) (by kernel_rfl) (by simp) ?_
        refine AllReadyH.cons (o := _) rfl (fun K hK => ?_) AllReadyH.nil
        have gK := hHeld
        clear hHeld
        go_simp
        refine (HMS.out _ HK.out.drew).mono ?_
        rintro E w2 ⟨ez, cz, rfl, hl, _, kk⟩
        have HLZ := Lib.hid hl
        have K2 := Lib.hid (HK.out.drew.trans kk)
        clear hl kk
        try go_wp2_with fail
        refine hK.out _ _ ?_ (fun hHeld => ?_)
        · exact ⟨(HMO.out _ K2.out).1, (HMO.out _ K2.out).2.1, (HMO.out _ K2.out).2.2.1, (HMO.out _ K2.out).2.2.2, (HCX.out _ K2.out).1, (HCX.out _ K2.out).2.1, (HCX.out _ K2.out).2.2.1, (HCX.out _ K2.out).2.2.2, (HCY.out _ K2.out).1, (HCY.out _ K2.out).2.1, (HCY.out _ K2.out).2.2.1, (HCY.out _ K2.out).2.2.2, trivial⟩
        clear hK K gK
        try simp only [Act.put, sm]
        refine wpAnyH_ready (rs := [12]) (by kernel_rfl) (by simp) ?_
        refine AllReadyH.cons (o := _) rfl (fun K hK => ?_) AllReadyH.nil
        have gK := hHeld
        clear hHeld
        go_simp
        refine (HSS.out _ ez cz K2.out HLZ.out).mono ?_
        rintro E w3 ⟨rfl, kk⟩
        have K3 := Lib.hid (K2.out.trans kk)
        clear kk
        try go_wp2_with fail
        refine hK.out _ _ ?_ (fun hHeld => ?_)
        · exact ⟨(HMO.out _ K3.out).1, (HMO.out _ K3.out).2.1, (HMO.out _ K3.out).2.2.1, (HMO.out _ K3.out).2.2.2, (HCX.out _ K3.out).1, (HCX.out _ K3.out).2.1, (HCX.out _ K3.out).2.2.1, (HCX.out _ K3.out).2.2.2, (HCY.out _ K3.out).1, (HCY.out _ K3.out).2.1, (HCY.out _ K3.out).2.2.1, (HCY.out _ K3.out).2.2.2, trivial⟩
        clear hK K gK
        try simp only [Act.put, sm]
        refine tkH 13 rfl ?_
        try simp only [Act.put, sm]
        refine tkH 14 rfl ?_
        try simp only [Act.put, sm]
        refine tkH 15 rfl ?_
        try simp only [Act.put, sm]
        refine tkH 16 rfl ?_
        try simp only [Act.put, sm]
        refine tkH 17 rfl ?_
        try simp only [Act.put, sm]
        refine tkH 18 rfl ?_
        try simp only [Act.put, sm]
        refine tkH 19 rfl ?_
        try simp only [Act.put, sm]
        refine tkH 20 rfl ?_
        try simp only [Act.put, sm]
        refine tkH 21 rfl ?_
        try simp only [Act.put, sm]
        refine tkH 22 rfl ?_
        try simp only [Act.put, sm]
        refine tkH 23 rfl ?_
        try simp only [Act.put, sm]
        refine tkH 24 rfl ?_
        try simp only [Act.put, sm]
        refine tkH 25 rfl ?_
        try simp only [Act.put, sm]
        refine wpAnyH_ready (rs := [26]) (by kernel_rfl) (by simp) ?_
        refine AllReadyH.cons (o := _) rfl (fun K hK => ?_) AllReadyH.nil
        have gK := hHeld
        clear hHeld
        go_simp
        try go_wp2_with fail
        refine hK.out _ _ ?_ (fun hHeld => ?_)
        · exact ⟨(HMO.out _ K3.out).1, (HMO.out _ K3.out).2.1, (HMO.out _ K3.out).2.2.1, (HMO.out _ K3.out).2.2.2, (HCX.out _ K3.out).1, (HCX.out _ K3.out).2.1, (HCX.out _ K3.out).2.2.1, (HCX.out _ K3.out).2.2.2, (HCY.out _ K3.out).1, (HCY.out _ K3.out).2.1, (HCY.out _ K3.out).2.2.1, (HCY.out _ K3.out).2.2.2, trivial⟩
        clear hK K gK
        try simp only [Act.put, sm]
        clear hHeld
        refine wpAnyH_done (by kernel_rfl) ?_ _
        have hm3 : (n : Int) ≤ 8 := by omega
        go_wp2_with fail
        try rw [wrap_mid (n := (k : Int) + 1) (by omega) (by omega)]
        first | exact ⟨⟨k + 1, hlt, by go_num, K3.out⟩, by simp [intOf]; omega⟩ | (go_roundw; all_goals first | exact ⟨k + 1, hlt, by go_num, K3.out⟩ | (simp [intOf]; omega))
    · have hk1 : ¬ (k : Int) < (n : Int) := by omega
      have hkn : k = n := by omega
      subst hkn
      clear hk1
      obtain ⟨m, hm⟩ : ∃ m : Pl.Mo, (⟨⟨ax, ay⟩, t, mb⟩ : Pl.Mo) = m := ⟨_, rfl⟩
      have HIV : Hid (∀ V, Calls Tryz.prog 17 #[.agg #[.int .i64 ax, .int .i64 ay, .int .i64 t, .bool mb]] V fun E w' => E = .returned (.agg #[.int .i64 (Pl.inv m).at_.x, .int .i64 (Pl.inv m).at_.y, .int .i64 (Pl.inv m).turn, .bool (Pl.inv m).mirror]) ∧ Kp V w' none) := Lib.hid (fun V => by rw [← hm]; exact inverse_any ⟨⟨ax, ay⟩, t, mb⟩ V HAM.out.1 HAM.out.2)
      have HIL : Hid (Mid (Pl.inv m).at_.x ∧ Mid (Pl.inv m).at_.y) := Lib.hid (by rw [← hm]; exact inv_mid HA.out)
      rw [hm] at HU1
      have HUS : Hid (∀ z ∈ us, (0 < z.d.s.es.length ∧ z.d.s.es.length ≤ 1000) ∧ ∀ e ∈ z.d.s.es, MidE e) := Lib.hid (fun z hz => by
        have h1 : z.d ∈ ts.map (fun z : DT => Pl.moveD m z.d) := by rw [← HU1.out]; exact List.mem_map_of_mem hz
        obtain ⟨y, hy, e⟩ := List.mem_map.1 h1
        have hf := HFI.out y hy
        rw [← e]
        refine ⟨?_, fun f hf2 => ?_⟩
        · show 0 < (y.d.s.es.map _).length ∧ (y.d.s.es.map _).length ≤ 1000
          rw [List.length_map]; omega
        · obtain ⟨g, hg, rfl⟩ := List.mem_map.1 hf2
          exact (moveE_lim (hf.2 g hg) (by rw [← hm]; exact HA.out)).mid (by omega))
      have HBK : Hid (∀ V, Kp w4 V none → Calls Tryz.prog 14 #[.slice uo k uc, .agg #[.int .i64 (Pl.inv m).at_.x, .int .i64 (Pl.inv m).at_.y, .int .i64 (Pl.inv m).turn, .bool (Pl.inv m).mirror]] V (MovedIs (Pl.inv m) us V)) := Lib.hid (fun V kv => pmove_any (Pl.inv m).at_.x (Pl.inv m).at_.y (Pl.inv m).turn (Pl.inv m).mirror us k HUL.out uo uc V (HU3.out.keep kv) HU5.out.2 (fun z hz => (HU4.out z hz).keep kv) (by omega) HUS.out HIL.out)
      have HSD : Hid (∀ V (vs : List DT) vo vc, Kp w4 V none → vs.map (fun z : DT => z.d) = us.map (fun z : DT => Pl.moveD (Pl.inv m) z.d) → LiesAt 4 dtC V vo vc vs → (∀ z ∈ vs, LiesAt 7 edC V z.ea z.ec z.d.s.es) → Calls Tryz.prog 13 #[.slice vo vs.length vc, .slice ao k cap] V fun E w' => E = .returned (.bool true) ∧ Kp V w' none) := Lib.hid (fun V vs vo vc kv h1 h2 h3 => by
        have hvd : vs.map (fun z : DT => z.d) = ts.map (fun z : DT => z.d) := by
          rw [h1]
          have e1 : us.map (fun z : DT => Pl.moveD (Pl.inv m) z.d) = (us.map (fun z : DT => z.d)).map (Pl.moveD (Pl.inv m)) := by rw [List.map_map]; rfl
          rw [e1, HU1.out, List.map_map]
          exact List.map_congr_left (fun z hz => Pl.inv_moveD m z.d (fun e he => ((HFI.out z hz).2 e he).1))
        have hle : ∀ z ∈ vs, z.d.s.es.length ≤ 1000000 := fun z hz => by
          have h4 : z.d ∈ ts.map (fun z : DT => z.d) := by rw [← hvd]; exact List.mem_map_of_mem hz
          obtain ⟨y, hy, e⟩ := List.mem_map.1 h4
          rw [← e]
          have := (HFI.out y hy).1.2; omega
        have hvl : vs.length = k := by have h := congrArg List.length hvd; rw [List.length_map, List.length_map, HN.out] at h; exact h
        have h := dsame_any vs ts vs.length k rfl HN.out vo ao vc cap V h2 (HT3.out.keep kv) (fun z hz => ⟨h3 z hz, hle z hz⟩) (fun z hz => ⟨(HT4.out z hz).keep kv, by have := (HFI.out z hz).1.2; omega⟩) (by omega) (by omega)
        rw [decide_eq_true hvd] at h
        exact h)
      have hmo := HMO.out _ HK.out
      obtain ⟨m0, m1, m2, m3⟩ := hmo
      clear hm HIL HUS
      go_wp2_with fail
      refine (HIV.out _).mono ?_
      rintro E w5 ⟨rfl, kk⟩
      have K5 := Lib.hid (HK.out.trans kk)
      clear kk
      go_wp2_with fail
      refine (HBK.out _ K5.out).mono ?_
      rintro E w6 ⟨vs, vo, vc, v1, rfl, v3, v4, v5, kk⟩
      have K6 := Lib.hid (K5.out.trans kk)
      have HD := HSD.out w6 vs vo vc K6.out v1 v3 v4
      clear v1 v3 v4 v5 kk
      go_wp2_with fail
      refine HD.mono ?_
      rintro E w7 ⟨rfl, kk⟩
      have K7 := Lib.hid (K6.out.trans kk)
      clear kk HD
      go_wp2_with fail
      go_ret
      exact ⟨rfl, K4Z.out.trans K7.out⟩

end Go.Proofs.YtggplbenliaodaaGreatDoor
