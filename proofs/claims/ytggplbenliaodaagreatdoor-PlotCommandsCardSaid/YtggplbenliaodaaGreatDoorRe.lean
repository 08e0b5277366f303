/- The edges of a shape, as the reference writes them. Condition: valid edges, at least one, at most 40. -/
import Derived.Test.YtggplbenliaodaaGreatDoorPt
import Derived.Test.YtggplbenliaodaaGreatDoorEd
namespace Go.Proofs.YtggplbenliaodaaGreatDoor
open Go.RowKit Go.Lib

/-- A sum of strings, as the walk meets it. -/
theorem sumB (a b q : List UInt8) (h : a ++ b = q) : (⟨a.toArray⟩ : ByteArray) ++ ⟨b.toArray⟩ = ⟨q.toArray⟩ := by rw [cat_eq, h]
theorem head_cons {es : List Pl.Ed} {e : Pl.Ed} (h : es[0]? = some e) : ∃ r, es = e :: r := by
  cases es with
  | nil => cases h
  | cons a r => simp at h; exact ⟨r, by rw [h]⟩
def REdRel (hd : List UInt8) (es : List Pl.Ed) (W : World) (v i : Value) (wr : World) : Prop :=
  ∃ k : Nat, k ≤ es.length ∧ i = .int .i64 k ∧ v = .string ⟨(hd ++ (es.take k).flatMap Pl.edgeT).toArray⟩ ∧ Kp W wr none

set_option maxHeartbeats 8000000 in
set_option maxRecDepth 100000 in
theorem redges_any (es : List Pl.Ed) (n : Nat) (hn : es.length = n) (ao : Option Addr) (cap : Nat) (w : World) (hes : LiesAt 7 edC w ao cap es) (hv : ∀ e ∈ es, Pl.chkE e = 0) (h0 : 0 < n) (h40 : n ≤ 40) :
    Calls Tryz.prog 34 #[.slice ao n cap] w fun e w' => e = .returned (.string ⟨(Pl.edgesT es).toArray⟩) ∧ Kp w w' none := by
  have FE := Lib.hid hes
  have HV := Lib.hid hv
  have HN := Lib.hid hn
  have HTL := Lib.hid (take_le es hv)
  clear hes hv hn
  have hn0 : (0 : Int) ≤ (n : Int) := Int.natCast_nonneg _
  have hn1 : (0 : Int) < (n : Int) := by omega
  obtain ⟨f, hf⟩ : ∃ e, es[0]'(by have := HN.out; omega) = e := ⟨_, rfl⟩
  obtain ⟨bo, off, rfl, hcap, hbo, hcells⟩ := FE.out.ed (k := 0) (by have := HN.out; omega)
  have hc0 := hcells _ (Kp.refl _ _)
  have hfv := HV.out f (by rw [← hf]; exact List.getElem_mem _)
  rw [hf] at hc0
  obtain ⟨fk, ⟨fax, fay⟩, ⟨fbx, fby⟩, ⟨fcx, fcy⟩⟩ := f
  have hfz := chkE_zero hfv
  dsimp only at hc0 hfz
  obtain ⟨_, ⟨hfa1, hfa2⟩, _⟩ := hfz
  dsimp only at hfa1 hfa2
  have M1 := Lib.hid (In.mid hfa1)
  have M2 := Lib.hid (In.mid hfa2)
  have HPL := Lib.hid (pnt_length 88 ⟨fax, fay⟩ 89 M1.out M2.out)
  have HF : Hid (es[0]? = some ⟨fk, ⟨fax, fay⟩, ⟨fbx, fby⟩, ⟨fcx, fcy⟩⟩) := Lib.hid (by rw [List.getElem?_eq_getElem (by have := HN.out; omega), hf])
  obtain ⟨_, d1, d2, _⟩ := hc0
  have hcap2 : n ≤ cap := by have := HN.out; omega
  clear hfv hf hcells hfa1 hfa2 hcap
  simp only [Nat.zero_mul, Nat.add_zero] at d1 d2
  obtain ⟨p0, hp0⟩ : ∃ q, Pl.pnt 88 ⟨fax, fay⟩ 89 = q := ⟨_, rfl⟩
  have HRP : Hid (∀ V, Calls Tryz.prog 35 #[.agg #[.int .i64 fax, .int .i64 fay]] V fun e w' => e = .returned (.string ⟨p0.toArray⟩) ∧ Kp V w' none) := Lib.hid fun V => by rw [← hp0]; exact rpoint_any fax fay V M1.out M2.out
  rw [hp0] at HPL
  obtain ⟨hd, hhd⟩ : ∃ q : List UInt8, p0 ++ [68, 48, 50, 42, 10] = q := ⟨_, rfl⟩
  have hhl : hd.length ≤ 47 := by rw [← hhd, List.length_append]; have := HPL.out; simp only [List.length_cons, List.length_nil]; omega
  have g0 : (9223372036854775807 < p0.length + 5) = False := eq_false (by have := HPL.out; omega)
  have s0 : (⟨p0.toArray⟩ : ByteArray) ++ ⟨#[68, 48, 50, 42, 10]⟩ = ⟨hd.toArray⟩ := sumB p0 [68, 48, 50, 42, 10] hd hhd
  have HFIN : Hid (Pl.edgesT es = hd ++ es.flatMap Pl.edgeT) := Lib.hid (by
    rw [← hhd, ← hp0]
    obtain ⟨r, hr⟩ := head_cons HF.out
    rw [hr]
    rfl)
  clear hhd hp0 HPL
  go_enter Tryz.func34, Tryz.ntmps34
  go_wp2_with fail
  refine (HRP.out _).mono ?_
  rintro e w1 ⟨rfl, k1⟩
  have K1 := Lib.hid k1
  clear k1 d1 d2
  go_wp2_with fail
  clear g0 s0
  go_loopw [3, 4] (fun v i wr => REdRel hd es w v i wr) (fun _ i _ => n - (intOf i).toNat)
  case atStart => exact ⟨0, Nat.zero_le _, rfl, by simp, K1.out⟩
  case round =>
    obtain ⟨k, hk, rfl, rfl, hKp⟩ := hrel
    have HK := Lib.hid hKp
    clear hKp K1
    have hk0 : (0 : Int) ≤ (k : Int) := Int.natCast_nonneg _
    by_cases hlt : k < n
    · have hk1 : (k : Int) < (n : Int) := by omega
      have hlt2 : k < es.length := by have := HN.out; omega
      obtain ⟨e, hx⟩ : ∃ e, es[k] = e := ⟨_, rfl⟩
      obtain ⟨bo', off', hao, _, _, hcells⟩ := FE.out.ed hlt2
      injection hao with hao
      injection hao with e1 e2
      subst e1; subst e2
      have hc0 := hcells _ HK.out
      have hev := HV.out e (by rw [← hx]; exact List.getElem_mem _)
      rw [hx] at hc0
      have HST : Hid (∀ (t : List UInt8) wq, t = (hd ++ (es.take k).flatMap Pl.edgeT) ++ Pl.edgeT e → Kp w wq none → REdRel hd es w (.string ⟨t.toArray⟩) (.int .i64 (k + 1)) wq) := Lib.hid fun t wq h1 k1 =>
        ⟨k + 1, hlt2, by go_num, by rw [h1, emap_step es k hlt2, hx, ← List.append_assoc], k1⟩
      have hlb : (hd ++ (es.take k).flatMap Pl.edgeT).length ≤ 4000 := by rw [List.length_append]; have := HTL.out k hk; have := HN.out; omega
      obtain ⟨lk, hlk⟩ : ∃ q, hd ++ (es.take k).flatMap Pl.edgeT = q := ⟨_, rfl⟩
      rw [hlk] at HST hlb ⊢
      have hez := chkE_zero hev
      clear hlk hev hcells hx
      obtain ⟨ek, ⟨ax, ay⟩, ⟨bx, bY⟩, ⟨cx, cy⟩⟩ := e
      dsimp only at hc0 hez
      obtain ⟨hek, ⟨ha1, ha2⟩, ⟨hb1, hb2⟩, ⟨hc1, hc2⟩, hz1, hz2⟩ := hez
      clear hz1 hz2
      dsimp only at ha1 ha2 hb1 hb2 hc1 hc2
      have MB1 := Lib.hid (In.mid hb1)
      have MB2 := Lib.hid (In.mid hb2)
      have MD1 := Lib.hid (sub_mid hc1 ha1)
      have MD2 := Lib.hid (sub_mid hc2 ha2)
      have HN1 : Hid (wrap64 (cx - ax) = cx - ax) := Lib.hid (wrap_mid (by have := MD1.out; unfold Mid at this; omega) (by have := MD1.out; unfold Mid at this; omega))
      have HN2 : Hid (wrap64 (cy - ay) = cy - ay) := Lib.hid (wrap_mid (by have := MD2.out; unfold Mid at this; omega) (by have := MD2.out; unfold Mid at this; omega))
      clear ha1 ha2 hb1 hb2 hc1 hc2
      obtain ⟨dx, hdx⟩ : ∃ q, cx - ax = q := ⟨_, rfl⟩
      obtain ⟨dy, hdy⟩ : ∃ q, cy - ay = q := ⟨_, rfl⟩
      have HN1' : Hid (wrap64 (cx - ax) = dx) := Lib.hid (by rw [HN1.out, hdx])
      have HN2' : Hid (wrap64 (cy - ay) = dy) := Lib.hid (by rw [HN2.out, hdy])
      rw [hdx] at MD1
      rw [hdy] at MD2
      have HDX := Lib.hid hdx
      have HDY := Lib.hid hdy
      clear hdx hdy HN1 HN2
      obtain ⟨c0, c1, c2, c3, c4, c5, c6⟩ := hc0
      have HBX := Lib.hid (heap_alloc_new wr (Obj.cells #[.int .i64 ek, .int .i64 ax, .int .i64 ay, .int .i64 bx, .int .i64 bY, .int .i64 cx, .int .i64 cy] 39))
      have HKB : Hid (Kp wr (wr.alloc (Obj.cells #[.int .i64 ek, .int .i64 ax, .int .i64 ay, .int .i64 bx, .int .i64 bY, .int .i64 cx, .int .i64 cy] 39)) none) := Lib.hid ((Kp.refl wr none).alloc _)
      obtain ⟨pt, hpt⟩ : ∃ q, Pl.pnt 88 ⟨bx, bY⟩ 89 = q := ⟨_, rfl⟩
      have HPTL : Hid (pt.length ≤ 42) := Lib.hid (by rw [← hpt]; exact pnt_length 88 ⟨bx, bY⟩ 89 MB1.out MB2.out)
      have HRQ : Hid (∀ V, Calls Tryz.prog 35 #[.agg #[.int .i64 bx, .int .i64 bY]] V fun e w' => e = .returned (.string ⟨pt.toArray⟩) ∧ Kp V w' none) := Lib.hid fun V => by rw [← hpt]; exact rpoint_any bx bY V MB1.out MB2.out
      have HPT := Lib.hid hpt
      clear hpt
      rcases hek with rfl | rfl | rfl
      · obtain ⟨r1, hr1⟩ : ∃ q : List UInt8, lk ++ [71, 48, 49] = q := ⟨_, rfl⟩
        have hl1 : r1.length ≤ 4003 := by rw [← hr1, List.length_append]; simp only [List.length_cons, List.length_nil]; omega
        obtain ⟨r2, hr2⟩ : ∃ q : List UInt8, r1 ++ pt = q := ⟨_, rfl⟩
        have hl2 : r2.length ≤ 4045 := by rw [← hr2, List.length_append]; have := HPTL.out; omega
        have HR1 := Lib.hid hr1
        have HR2 := Lib.hid hr2
        have G1 : Hid ((9223372036854775807 < lk.length + 3) = False) := Lib.hid (eq_false (by omega))
        have S1 : Hid ((⟨lk.toArray⟩ : ByteArray) ++ ⟨#[71, 48, 49]⟩ = ⟨r1.toArray⟩) := Lib.hid (sumB lk [71, 48, 49] r1 hr1)
        have G2 : Hid ((9223372036854775807 < r1.length + pt.length) = False) := Lib.hid (eq_false (by have := HPTL.out; omega))
        have S2 : Hid ((⟨r1.toArray⟩ : ByteArray) ++ ⟨pt.toArray⟩ = ⟨r2.toArray⟩) := Lib.hid (sumB r1 pt r2 hr2)
        clear hr1 hr2 hl1 hlb
        have g1 := G1.out
        have s1 := S1.out
        go_wp2_with fail
        refine (HRQ.out _).mono ?_
        rintro e w1 ⟨rfl, k1⟩
        have K1 := Lib.hid k1
        have z0 : w1.cell? ⟨wr.heap.size, 0, none⟩ = some (.int .i64 1) := ckr HBX.out k1 (by simp) 0 rfl
        clear k1 g1 s1 c0 c1 c2 c3 c4 c5 c6
        have g2 := G2.out
        have s2 := S2.out
        obtain ⟨r3, hr3⟩ : ∃ q : List UInt8, r2 ++ [68, 48, 49, 42, 10] = q := ⟨_, rfl⟩
        have g3 : (9223372036854775807 < r2.length + 5) = False := eq_false (by omega)
        have s3 : (⟨r2.toArray⟩ : ByteArray) ++ ⟨#[68, 48, 49, 42, 10]⟩ = ⟨r3.toArray⟩ := sumB r2 [68, 48, 49, 42, 10] r3 hr3
        have HREL := Lib.hid (HST.out r3 w1 (by rw [← hr3, ← HR2.out, ← HR1.out, ← HPT.out]; simp [Pl.edgeT, Pl.gOf, Pl.arcT]) (HK.out.trans (HKB.out.trans K1.out)))
        clear hr3 hl2
        go_wp2_with fail
        first | exact ⟨HREL.out, by simp [intOf]; omega⟩ | (go_roundw; all_goals first | exact HREL.out | (simp [intOf]; omega))
      · obtain ⟨r1, hr1⟩ : ∃ q : List UInt8, lk ++ [71, 48, 51] = q := ⟨_, rfl⟩
        have hl1 : r1.length ≤ 4003 := by rw [← hr1, List.length_append]; simp only [List.length_cons, List.length_nil]; omega
        obtain ⟨r2, hr2⟩ : ∃ q : List UInt8, r1 ++ pt = q := ⟨_, rfl⟩
        have hl2 : r2.length ≤ 4045 := by rw [← hr2, List.length_append]; have := HPTL.out; omega
        have HR1 := Lib.hid hr1
        have HR2 := Lib.hid hr2
        have G1 : Hid ((9223372036854775807 < lk.length + 3) = False) := Lib.hid (eq_false (by omega))
        have S1 : Hid ((⟨lk.toArray⟩ : ByteArray) ++ ⟨#[71, 48, 51]⟩ = ⟨r1.toArray⟩) := Lib.hid (sumB lk [71, 48, 51] r1 hr1)
        have G2 : Hid ((9223372036854775807 < r1.length + pt.length) = False) := Lib.hid (eq_false (by have := HPTL.out; omega))
        have S2 : Hid ((⟨r1.toArray⟩ : ByteArray) ++ ⟨pt.toArray⟩ = ⟨r2.toArray⟩) := Lib.hid (sumB r1 pt r2 hr2)
        clear hr1 hr2 hl1 hlb
        have g1 := G1.out
        have s1 := S1.out
        go_wp2_with fail
        refine (HRQ.out _).mono ?_
        rintro e w1 ⟨rfl, k1⟩
        have K1 := Lib.hid k1
        have z0 : w1.cell? ⟨wr.heap.size, 0, none⟩ = some (.int .i64 2) := ckr HBX.out k1 (by simp) 0 rfl
        clear k1 g1 s1 c0 c1 c2 c3 c4 c5 c6
        have g2 := G2.out
        have s2 := S2.out
        have CC : Hid (∀ V, Kp w1 V none → V.cell? ⟨wr.heap.size, 1, none⟩ = some (.int .i64 ax) ∧ V.cell? ⟨wr.heap.size, 2, none⟩ = some (.int .i64 ay) ∧ V.cell? ⟨wr.heap.size, 5, none⟩ = some (.int .i64 cx) ∧ V.cell? ⟨wr.heap.size, 6, none⟩ = some (.int .i64 cy)) := Lib.hid fun V kv =>
          ⟨ckr HBX.out (K1.out.trans kv) (by simp) 1 rfl, ckr HBX.out (K1.out.trans kv) (by simp) 2 rfl, ckr HBX.out (K1.out.trans kv) (by simp) 5 rfl, ckr HBX.out (K1.out.trans kv) (by simp) 6 rfl⟩
        go_wp2_with fail
        clear g2 s2
        obtain ⟨q1, hq1⟩ : ∃ q : List UInt8, r2 ++ [73] = q := ⟨_, rfl⟩
        have HBq1 : Hid ((⟨(r2).toArray⟩ : ByteArray) ++ (⟨#[73]⟩ : ByteArray) = ⟨(q1).toArray⟩) := Lib.hid (by rw [← hq1]; exact ByteArray.mk_append_mk _ _)
        have hbq1 : q1.length ≤ 4046 := by rw [← hq1, List.length_append]; (try simp only [List.length_cons, List.length_nil]); omega
        have HGq1 : Hid ((9223372036854775807 < (r2).length + 1) = False) := Lib.hid (eq_false (by (try simp only [List.length_cons, List.length_nil]); omega))
        have Hq1 := Lib.hid hq1
        clear hq1 
        obtain ⟨q2, hq2⟩ : ∃ q : List UInt8, q1 ++ Lib.itoa dx = q := ⟨_, rfl⟩
        have HBq2 : Hid ((⟨(q1).toArray⟩ : ByteArray) ++ (⟨(Lib.itoa dx).toArray⟩ : ByteArray) = ⟨(q2).toArray⟩) := Lib.hid (by rw [← hq2]; exact ByteArray.mk_append_mk _ _)
        have hlb2 : (Lib.itoa dx).length ≤ 20 := itoa_length dx MD1.out
        have hbq2 : q2.length ≤ 4066 := by rw [← hq2, List.length_append]; (try simp only [List.length_cons, List.length_nil]); omega
        have HGq2 : Hid ((9223372036854775807 < (q1).length + (Lib.itoa dx).length) = False) := Lib.hid (eq_false (by (try simp only [List.length_cons, List.length_nil]); omega))
        have Hq2 := Lib.hid hq2
        clear hq2 hlb2
        obtain ⟨q3, hq3⟩ : ∃ q : List UInt8, q2 ++ [74] = q := ⟨_, rfl⟩
        have HBq3 : Hid ((⟨(q2).toArray⟩ : ByteArray) ++ (⟨#[74]⟩ : ByteArray) = ⟨(q3).toArray⟩) := Lib.hid (by rw [← hq3]; exact ByteArray.mk_append_mk _ _)
        have hbq3 : q3.length ≤ 4067 := by rw [← hq3, List.length_append]; (try simp only [List.length_cons, List.length_nil]); omega
        have HGq3 : Hid ((9223372036854775807 < (q2).length + 1) = False) := Lib.hid (eq_false (by (try simp only [List.length_cons, List.length_nil]); omega))
        have Hq3 := Lib.hid hq3
        clear hq3 
        obtain ⟨q4, hq4⟩ : ∃ q : List UInt8, q3 ++ Lib.itoa dy = q := ⟨_, rfl⟩
        have HBq4 : Hid ((⟨(q3).toArray⟩ : ByteArray) ++ (⟨(Lib.itoa dy).toArray⟩ : ByteArray) = ⟨(q4).toArray⟩) := Lib.hid (by rw [← hq4]; exact ByteArray.mk_append_mk _ _)
        have hlb4 : (Lib.itoa dy).length ≤ 20 := itoa_length dy MD2.out
        have hbq4 : q4.length ≤ 4087 := by rw [← hq4, List.length_append]; (try simp only [List.length_cons, List.length_nil]); omega
        have HGq4 : Hid ((9223372036854775807 < (q3).length + (Lib.itoa dy).length) = False) := Lib.hid (eq_false (by (try simp only [List.length_cons, List.length_nil]); omega))
        have Hq4 := Lib.hid hq4
        clear hq4 hlb4
        have HBQ := Lib.hid hbq4
        clear hbq1 hbq2 hbq3 hbq4
        have hn1' : IntKind.i64.wrap (cx - ax) = dx := by rw [IntKind.wrap_i64]; have := HDX.out; have := MD1.out; unfold Mid at this; omega
        have hn2' : IntKind.i64.wrap (cy - ay) = dy := by rw [IntKind.wrap_i64]; have := HDY.out; have := MD2.out; unfold Mid at this; omega
        refine wp_region_held_drew (S := fun V => (V.cell? ⟨wr.heap.size, 1, none⟩ = some (.int .i64 ax) ∧ V.cell? ⟨wr.heap.size, 2, none⟩ = some (.int .i64 ay) ∧ V.cell? ⟨wr.heap.size, 5, none⟩ = some (.int .i64 cx) ∧ V.cell? ⟨wr.heap.size, 6, none⟩ = some (.int .i64 cy)) ∧ Hid (Kp w1 V none)) (by kernel_rfl) ?_ (fun hHeld => ?_)
        · exact ⟨CC.out _ (Kp.refl w1 none).drew, Lib.hid (Kp.refl w1 none).drew⟩
        refine tkH 2 rfl ?_
        try simp only [Act.put, sm]
        refine tkH 3 rfl ?_
        try simp only [Act.put, sm]
        refine tkH 4 rfl ?_
        try simp only [Act.put, sm]
        refine tkH 5 rfl ?_
        try simp only [Act.put, sm]
        refine tkH 6 rfl ?_
        try simp only [Act.put, sm]
        refine tkH 7 rfl ?_
        try simp only [Act.put, sm]
        refine tkH 8 rfl ?_
        try simp only [Act.put, sm]
        refine tkH 12 rfl ?_
        try simp only [Act.put, sm]
        refine tkH 13 rfl ?_
        try simp only [Act.put, sm]
        refine tkH 14 rfl ?_
        try simp only [Act.put, sm]
        refine tkH 15 rfl ?_
        try simp only [Act.put, sm]
        refine tkH 16 rfl ?_
        try simp only [Act.put, sm]
        refine tkH 17 rfl ?_
        try simp only [Act.put, sm]
        refine tkH 18 rfl ?_
        try simp only [Act.put, sm]
        refine tkH 0 rfl ?_
        try simp only [Act.put, sm]
        have hq1 := HBq1.out
        have g1 := HGq1.out
        refine tkH 1 rfl ?_
        try simp only [Act.put, sm]
        clear g1 hq1
        refine wpAnyH_ready (rs := [9]) (by kernel_rfl) (by simp) ?_
        refine AllReadyH.cons (o := _) rfl (fun K hK => ?_) AllReadyH.nil
        have gK := hHeld.2
        go_simp
        refine (dec_any dx MD1.out _).mono ?_
        rintro e w21 ⟨rfl, kk⟩
        try go_wp2_with fail
        refine hK.out _ _ ?_ (fun hHeld2 => ?_)
        · exact ⟨CC.out _ (gK.out.trans kk), Lib.hid (gK.out.trans kk)⟩
        clear hK K hHeld gK kk
        have hHeld := hHeld2
        clear hHeld2
        try simp only [Act.put, sm]
        have hq2 := HBq2.out
        have g2 := HGq2.out
        refine tkH 10 rfl ?_
        try simp only [Act.put, sm]
        clear g2 hq2
        have hq3 := HBq3.out
        have g3 := HGq3.out
        refine tkH 11 rfl ?_
        try simp only [Act.put, sm]
        clear g3 hq3
        refine wpAnyH_ready (rs := [19]) (by kernel_rfl) (by simp) ?_
        refine AllReadyH.cons (o := _) rfl (fun K hK => ?_) AllReadyH.nil
        have gK := hHeld.2
        go_simp
        refine (dec_any dy MD2.out _).mono ?_
        rintro e w22 ⟨rfl, kk⟩
        try go_wp2_with fail
        refine hK.out _ _ ?_ (fun hHeld2 => ?_)
        · exact ⟨CC.out _ (gK.out.trans kk), Lib.hid (gK.out.trans kk)⟩
        clear hK K hHeld gK kk
        have hHeld := hHeld2
        clear hHeld2
        try simp only [Act.put, sm]
        have hq4 := HBq4.out
        have g4 := HGq4.out
        refine tkH 20 rfl ?_
        try simp only [Act.put, sm]
        clear g4 hq4
        refine wpAnyH_ready (rs := [21]) (by kernel_rfl) (by simp) ?_
        refine AllReadyH.cons (o := _) rfl (fun K hK => ?_) AllReadyH.nil
        have gK := hHeld.2
        go_simp
        try go_wp2_with fail
        refine hK.out _ _ ?_ (fun hHeld2 => ?_)
        · exact ⟨CC.out _ gK.out, Lib.hid gK.out⟩
        have KZ := Lib.hid gK.out
        clear hK K hHeld hHeld2 gK
        try simp only [Act.put, sm]
        refine wpAnyH_done (by kernel_rfl) ?_ _
        obtain ⟨r3, hr3⟩ : ∃ q : List UInt8, q4 ++ [68, 48, 49, 42, 10] = q := ⟨_, rfl⟩
        have HREL := Lib.hid (HST.out r3 _ (by rw [← hr3, ← Hq4.out, ← Hq3.out, ← Hq2.out, ← Hq1.out, ← HR2.out, ← HR1.out, ← HPT.out, ← HDX.out, ← HDY.out]; simp [Pl.edgeT, Pl.gOf, Pl.arcT, Pl.pnt, Pl.sub]) (HK.out.trans (HKB.out.trans (K1.out.trans KZ.out))))
        have s3 : (⟨q4.toArray⟩ : ByteArray) ++ ⟨#[68, 48, 49, 42, 10]⟩ = ⟨r3.toArray⟩ := sumB q4 [68, 48, 49, 42, 10] r3 hr3
        have g3 : (9223372036854775807 < q4.length + 5) = False := eq_false (by have := HBQ.out; omega)
        clear hr3 hn1' hn2'
        go_wp2_with fail
        first | exact ⟨HREL.out, by simp [intOf]; omega⟩ | (go_roundw; all_goals first | exact HREL.out | (simp [intOf]; omega))
      · obtain ⟨r1, hr1⟩ : ∃ q : List UInt8, lk ++ [71, 48, 50] = q := ⟨_, rfl⟩
        have hl1 : r1.length ≤ 4003 := by rw [← hr1, List.length_append]; simp only [List.length_cons, List.length_nil]; omega
        obtain ⟨r2, hr2⟩ : ∃ q : List UInt8, r1 ++ pt = q := ⟨_, rfl⟩
        have hl2 : r2.length ≤ 4045 := by rw [← hr2, List.length_append]; have := HPTL.out; omega
        have HR1 := Lib.hid hr1
        have HR2 := Lib.hid hr2
        have G1 : Hid ((9223372036854775807 < lk.length + 3) = False) := Lib.hid (eq_false (by omega))
        have S1 : Hid ((⟨lk.toArray⟩ : ByteArray) ++ ⟨#[71, 48, 50]⟩ = ⟨r1.toArray⟩) := Lib.hid (sumB lk [71, 48, 50] r1 hr1)
        have G2 : Hid ((9223372036854775807 < r1.length + pt.length) = False) := Lib.hid (eq_false (by have := HPTL.out; omega))
        have S2 : Hid ((⟨r1.toArray⟩ : ByteArray) ++ ⟨pt.toArray⟩ = ⟨r2.toArray⟩) := Lib.hid (sumB r1 pt r2 hr2)
        clear hr1 hr2 hl1 hlb
        have g1 := G1.out
        have s1 := S1.out
        go_wp2_with fail
        refine (HRQ.out _).mono ?_
        rintro e w1 ⟨rfl, k1⟩
        have K1 := Lib.hid k1
        have z0 : w1.cell? ⟨wr.heap.size, 0, none⟩ = some (.int .i64 3) := ckr HBX.out k1 (by simp) 0 rfl
        clear k1 g1 s1 c0 c1 c2 c3 c4 c5 c6
        have g2 := G2.out
        have s2 := S2.out
        have CC : Hid (∀ V, Kp w1 V none → V.cell? ⟨wr.heap.size, 1, none⟩ = some (.int .i64 ax) ∧ V.cell? ⟨wr.heap.size, 2, none⟩ = some (.int .i64 ay) ∧ V.cell? ⟨wr.heap.size, 5, none⟩ = some (.int .i64 cx) ∧ V.cell? ⟨wr.heap.size, 6, none⟩ = some (.int .i64 cy)) := Lib.hid fun V kv =>
          ⟨ckr HBX.out (K1.out.trans kv) (by simp) 1 rfl, ckr HBX.out (K1.out.trans kv) (by simp) 2 rfl, ckr HBX.out (K1.out.trans kv) (by simp) 5 rfl, ckr HBX.out (K1.out.trans kv) (by simp) 6 rfl⟩
        go_wp2_with fail
        clear g2 s2
        obtain ⟨q1, hq1⟩ : ∃ q : List UInt8, r2 ++ [73] = q := ⟨_, rfl⟩
        have HBq1 : Hid ((⟨(r2).toArray⟩ : ByteArray) ++ (⟨#[73]⟩ : ByteArray) = ⟨(q1).toArray⟩) := Lib.hid (by rw [← hq1]; exact ByteArray.mk_append_mk _ _)
        have hbq1 : q1.length ≤ 4046 := by rw [← hq1, List.length_append]; (try simp only [List.length_cons, List.length_nil]); omega
        have HGq1 : Hid ((9223372036854775807 < (r2).length + 1) = False) := Lib.hid (eq_false (by (try simp only [List.length_cons, List.length_nil]); omega))
        have Hq1 := Lib.hid hq1
        clear hq1 
        obtain ⟨q2, hq2⟩ : ∃ q : List UInt8, q1 ++ Lib.itoa dx = q := ⟨_, rfl⟩
        have HBq2 : Hid ((⟨(q1).toArray⟩ : ByteArray) ++ (⟨(Lib.itoa dx).toArray⟩ : ByteArray) = ⟨(q2).toArray⟩) := Lib.hid (by rw [← hq2]; exact ByteArray.mk_append_mk _ _)
        have hlb2 : (Lib.itoa dx).length ≤ 20 := itoa_length dx MD1.out
        have hbq2 : q2.length ≤ 4066 := by rw [← hq2, List.length_append]; (try simp only [List.length_cons, List.length_nil]); omega
        have HGq2 : Hid ((9223372036854775807 < (q1).length + (Lib.itoa dx).length) = False) := Lib.hid (eq_false (by (try simp only [List.length_cons, List.length_nil]); omega))
        have Hq2 := Lib.hid hq2
        clear hq2 hlb2
        obtain ⟨q3, hq3⟩ : ∃ q : List UInt8, q2 ++ [74] = q := ⟨_, rfl⟩
        have HBq3 : Hid ((⟨(q2).toArray⟩ : ByteArray) ++ (⟨#[74]⟩ : ByteArray) = ⟨(q3).toArray⟩) := Lib.hid (by rw [← hq3]; exact ByteArray.mk_append_mk _ _)
        have hbq3 : q3.length ≤ 4067 := by rw [← hq3, List.length_append]; (try simp only [List.length_cons, List.length_nil]); omega
        have HGq3 : Hid ((9223372036854775807 < (q2).length + 1) = False) := Lib.hid (eq_false (by (try simp only [List.length_cons, List.length_nil]); omega))
        have Hq3 := Lib.hid hq3
        clear hq3 
        obtain ⟨q4, hq4⟩ : ∃ q : List UInt8, q3 ++ Lib.itoa dy = q := ⟨_, rfl⟩
        have HBq4 : Hid ((⟨(q3).toArray⟩ : ByteArray) ++ (⟨(Lib.itoa dy).toArray⟩ : ByteArray) = ⟨(q4).toArray⟩) := Lib.hid (by rw [← hq4]; exact ByteArray.mk_append_mk _ _)
        have hlb4 : (Lib.itoa dy).length ≤ 20 := itoa_length dy MD2.out
        have hbq4 : q4.length ≤ 4087 := by rw [← hq4, List.length_append]; (try simp only [List.length_cons, List.length_nil]); omega
        have HGq4 : Hid ((9223372036854775807 < (q3).length + (Lib.itoa dy).length) = False) := Lib.hid (eq_false (by (try simp only [List.length_cons, List.length_nil]); omega))
        have Hq4 := Lib.hid hq4
        clear hq4 hlb4
        have HBQ := Lib.hid hbq4
        clear hbq1 hbq2 hbq3 hbq4
        have hn1' : IntKind.i64.wrap (cx - ax) = dx := by rw [IntKind.wrap_i64]; have := HDX.out; have := MD1.out; unfold Mid at this; omega
        have hn2' : IntKind.i64.wrap (cy - ay) = dy := by rw [IntKind.wrap_i64]; have := HDY.out; have := MD2.out; unfold Mid at this; omega
        refine wp_region_held_drew (S := fun V => (V.cell? ⟨wr.heap.size, 1, none⟩ = some (.int .i64 ax) ∧ V.cell? ⟨wr.heap.size, 2, none⟩ = some (.int .i64 ay) ∧ V.cell? ⟨wr.heap.size, 5, none⟩ = some (.int .i64 cx) ∧ V.cell? ⟨wr.heap.size, 6, none⟩ = some (.int .i64 cy)) ∧ Hid (Kp w1 V none)) (by kernel_rfl) ?_ (fun hHeld => ?_)
        · exact ⟨CC.out _ (Kp.refl w1 none).drew, Lib.hid (Kp.refl w1 none).drew⟩
        refine tkH 2 rfl ?_
        try simp only [Act.put, sm]
        refine tkH 3 rfl ?_
        try simp only [Act.put, sm]
        refine tkH 4 rfl ?_
        try simp only [Act.put, sm]
        refine tkH 5 rfl ?_
        try simp only [Act.put, sm]
        refine tkH 6 rfl ?_
        try simp only [Act.put, sm]
        refine tkH 7 rfl ?_
        try simp only [Act.put, sm]
        refine tkH 8 rfl ?_
        try simp only [Act.put, sm]
        refine tkH 12 rfl ?_
        try simp only [Act.put, sm]
        refine tkH 13 rfl ?_
        try simp only [Act.put, sm]
        refine tkH 14 rfl ?_
        try simp only [Act.put, sm]
        refine tkH 15 rfl ?_
        try simp only [Act.put, sm]
        refine tkH 16 rfl ?_
        try simp only [Act.put, sm]
        refine tkH 17 rfl ?_
        try simp only [Act.put, sm]
        refine tkH 18 rfl ?_
        try simp only [Act.put, sm]
        refine tkH 0 rfl ?_
        try simp only [Act.put, sm]
        have hq1 := HBq1.out
        have g1 := HGq1.out
        refine tkH 1 rfl ?_
        try simp only [Act.put, sm]
        clear g1 hq1
        refine wpAnyH_ready (rs := [9]) (by kernel_rfl) (by simp) ?_
        refine AllReadyH.cons (o := _) rfl (fun K hK => ?_) AllReadyH.nil
        have gK := hHeld.2
        go_simp
        refine (dec_any dx MD1.out _).mono ?_
        rintro e w21 ⟨rfl, kk⟩
        try go_wp2_with fail
        refine hK.out _ _ ?_ (fun hHeld2 => ?_)
        · exact ⟨CC.out _ (gK.out.trans kk), Lib.hid (gK.out.trans kk)⟩
        clear hK K hHeld gK kk
        have hHeld := hHeld2
        clear hHeld2
        try simp only [Act.put, sm]
        have hq2 := HBq2.out
        have g2 := HGq2.out
        refine tkH 10 rfl ?_
        try simp only [Act.put, sm]
        clear g2 hq2
        have hq3 := HBq3.out
        have g3 := HGq3.out
        refine tkH 11 rfl ?_
        try simp only [Act.put, sm]
        clear g3 hq3
        refine wpAnyH_ready (rs := [19]) (by kernel_rfl) (by simp) ?_
        refine AllReadyH.cons (o := _) rfl (fun K hK => ?_) AllReadyH.nil
        have gK := hHeld.2
        go_simp
        refine (dec_any dy MD2.out _).mono ?_
        rintro e w22 ⟨rfl, kk⟩
        try go_wp2_with fail
        refine hK.out _ _ ?_ (fun hHeld2 => ?_)
        · exact ⟨CC.out _ (gK.out.trans kk), Lib.hid (gK.out.trans kk)⟩
        clear hK K hHeld gK kk
        have hHeld := hHeld2
        clear hHeld2
        try simp only [Act.put, sm]
        have hq4 := HBq4.out
        have g4 := HGq4.out
        refine tkH 20 rfl ?_
        try simp only [Act.put, sm]
        clear g4 hq4
        refine wpAnyH_ready (rs := [21]) (by kernel_rfl) (by simp) ?_
        refine AllReadyH.cons (o := _) rfl (fun K hK => ?_) AllReadyH.nil
        have gK := hHeld.2
        go_simp
        try go_wp2_with fail
        refine hK.out _ _ ?_ (fun hHeld2 => ?_)
        · exact ⟨CC.out _ gK.out, Lib.hid gK.out⟩
        have KZ := Lib.hid gK.out
        clear hK K hHeld hHeld2 gK
        try simp only [Act.put, sm]
        refine wpAnyH_done (by kernel_rfl) ?_ _
        obtain ⟨r3, hr3⟩ : ∃ q : List UInt8, q4 ++ [68, 48, 49, 42, 10] = q := ⟨_, rfl⟩
        have HREL := Lib.hid (HST.out r3 _ (by rw [← hr3, ← Hq4.out, ← Hq3.out, ← Hq2.out, ← Hq1.out, ← HR2.out, ← HR1.out, ← HPT.out, ← HDX.out, ← HDY.out]; simp [Pl.edgeT, Pl.gOf, Pl.arcT, Pl.pnt, Pl.sub]) (HK.out.trans (HKB.out.trans (K1.out.trans KZ.out))))
        have s3 : (⟨q4.toArray⟩ : ByteArray) ++ ⟨#[68, 48, 49, 42, 10]⟩ = ⟨r3.toArray⟩ := sumB q4 [68, 48, 49, 42, 10] r3 hr3
        have g3 : (9223372036854775807 < q4.length + 5) = False := eq_false (by have := HBQ.out; omega)
        clear hr3 hn1' hn2'
        go_wp2_with fail
        first | exact ⟨HREL.out, by simp [intOf]; omega⟩ | (go_roundw; all_goals first | exact HREL.out | (simp [intOf]; omega))
    · have hk1 : ¬ (k : Int) < (n : Int) := by omega
      have HR : Hid (hd ++ (es.take k).flatMap Pl.edgeT = Pl.edgesT es) := Lib.hid (by rw [HFIN.out, List.take_of_length_le (by have := HN.out; omega)])
      rw [HR.out]
      go_wp2_with fail
      go_ret
      exact ⟨rfl, HK.out⟩

end Go.Proofs.YtggplbenliaodaaGreatDoor
