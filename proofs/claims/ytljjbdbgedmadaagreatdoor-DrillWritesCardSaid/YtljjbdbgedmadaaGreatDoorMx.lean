/- The shapes that numbers make in the reference of layer 10 (Made). Condition: a list of numbers that a machine holds. -/
import Derived.Test.YtljjbdbgedmadaaGreatDoorMr
import Derived.Test.YtljjbdbgedmadaaGreatDoorSh
set_option maxHeartbeats 8000000
set_option maxRecDepth 100000
namespace Go.Proofs.YtljjbdbgedmadaaGreatDoor
open Go.RowKit
def MadeIs (w : World) (E : Ending) (w' : World) : Prop := (∃ (ea : Option Addr) (m ec : Nat), E = .returned (.agg #[I6 2, .slice ea m ec, I6 0]) ∧ Kp w w' none) ∨
 ∃ (s : Pl.Sh) (ea : Option Addr) (ec : Nat), Pl.Fine s ∧ s.k = 1 ∧ E = .returned (.agg #[I6 s.k, .slice ea s.es.length ec, I6 s.r]) ∧ LiesAt 7 edC w' ea ec s.es ∧ (∀ p, ea = some p → w.heap.size ≤ p.block) ∧ Kp w w' none
structure MM (w : World) (ao : Option Addr) (n cap P : Nat) (x y : Int) (X : Nat) (V : World) : Prop where
 kp : Kp w V none
 r : V.heap[w.heap.size]? = some (.cells #[I6 0, .slice none 0 0, I6 0] 50 (0, 0))
 dr : DrawAt (w.heap.size + 1) ao n cap V
 p : V.heap[P]? = some (.cells #[I6 x, I6 y] 42 (0, 0))
 pl : w.heap.size + 1 < P
 lo : X ≤ V.heap.size
section
variable {w V V' : World} {ao : Option Addr} {n cap P X : Nat} {x y : Int}
theorem MM.keep (h : MM w ao n cap P x y X V) (k : Kp V V' none) : MM w ao n cap P x y X V' := ⟨h.kp.trans k, blk h.r k, h.dr.kp k, blk h.p k, h.pl, Nat.le_trans h.lo k.size⟩
theorem MM.next (h : MM w ao n cap P x y X V) (k : Kp V V' (some (w.heap.size + 1))) (hd : DrawAt (w.heap.size + 1) ao n cap V') : MM w ao n cap P x y X V' :=
 have hl := h.pl
 ⟨Kp.of_own h.kp k (by omega), res_kept h.r k (by intro q hq; injection hq with hq; omega), hd, res_kept h.p k (by intro q hq; injection hq with hq; omega), h.pl, Nat.le_trans h.lo k.size⟩
theorem MM.row {B : Nat} (h : MM w ao n cap P x y X V) (k : Kp V V' (some B)) (hB : P < B ∧ w.heap.size + 1 < B) : MM w ao n cap P x y X V' := by
 refine ⟨Kp.of_own h.kp k (by omega), res_kept h.r k (by intro q hq; injection hq with hq; omega), ?_, res_kept h.p k (by intro q hq; injection hq with hq; omega), h.pl, Nat.le_trans h.lo k.size⟩
 obtain ⟨a, h1, h2⟩ := h.dr
 exact ⟨a, res_kept h1 k (by intro q hq; injection hq with hq; omega), h2⟩
theorem MM.low (h : MM w ao n cap P x y X V) : MM w ao n cap P x y 0 V := ⟨h.kp, h.r, h.dr, h.p, h.pl, Nat.zero_le _⟩
theorem MM.up (h : MM w ao n cap P x y X V) : MM w ao n cap P x y V.heap.size V := ⟨h.kp, h.r, h.dr, h.p, h.pl, Nat.le_refl _⟩
theorem MM.sz (h : MM w ao n cap P x y X V) : w.heap.size < V.heap.size := by have := lt_of_block h.p; have := h.pl; omega
end
structure MB (w : World) (ao : Option Addr) (n cap P : Nat) (x y : Int) (A : Nat) (es : List Pl.Ed) (rr : Int) (u : Value) (WR : Nat) (V : World) : Prop where
 mm : MM w ao n cap P x y WR V
 bs : Bs A (A + 1) 1 es rr u V
 pa : P < A
 aw : A < WR
 hu : ∀ q, u.ownBlock = some q → q < WR
section
variable {w V V' : World} {ao : Option Addr} {n cap P A WR : Nat} {x y rr : Int} {es : List Pl.Ed} {u : Value}
theorem MB.keep (h : MB w ao n cap P x y A es rr u WR V) (k : Kp V V' none) : MB w ao n cap P x y A es rr u WR V' := ⟨h.mm.keep k, h.bs.keep k, h.pa, h.aw, h.hu⟩
theorem MB.next (h : MB w ao n cap P x y A es rr u WR V) (k : Kp V V' (some (w.heap.size + 1))) (hd : DrawAt (w.heap.size + 1) ao n cap V') : MB w ao n cap P x y A es rr u WR V' := ⟨h.mm.next k hd, h.bs.keepRow k (by have := h.pa; have := h.mm.pl; omega), h.pa, h.aw, h.hu⟩
theorem MB.row {B : Nat} (h : MB w ao n cap P x y A es rr u WR V) (k : Kp V V' (some B)) (hB : WR ≤ B) : MB w ao n cap P x y A es rr u WR V' :=
 have h1 := h.pa
 have h2 := h.aw
 have h3 := h.mm.pl
 ⟨h.mm.row k (by omega), h.bs.keepFar k (by omega) (fun q hq => by have := h.hu q hq; omega), h.pa, h.aw, h.hu⟩
end
def PxRel (w : World) (ao : Option Addr) (n cap P A : Nat) (rr : Int) (m : Nat) (iv : Value) (wr : World) : Prop := ∃ (k : Nat) (x y : Int) (es : List Pl.Ed) (u : Value), k ≤ m ∧ iv = I6 (k : Int) ∧ es.length = k ∧ Box (50 + 20 * (k : Int)) x y ∧ (∀ e ∈ es, Pl.GoodE e) ∧ Pl.chain es = true ∧ Pl.EndsAt es ⟨x, y⟩ ∧ MM w ao n cap P x y 0 wr ∧ Bs A (A + 1) 1 es rr u wr
def PxCut (w : World) (ao : Option Addr) (n cap P : Nat) (x y : Int) (A : Nat) (es : List Pl.Ed) (rr : Int) (u : Value) (WR k : Nat) (s10 : Value) (wx : World) : Prop := ∃ (B : Nat) (e : Pl.Ed), s10 = .pointer (some ⟨B, 0, none⟩) ∧ MB w ao n cap P x y A es rr u WR wx ∧ wx.heap[B]? = some (.cells #[I6 e.k, I6 e.a.x, I6 e.a.y, I6 e.b.x, I6 e.b.y, I6 e.c.x, I6 e.c.y] 123 (0, 0)) ∧ WR ≤ B ∧ Pl.GoodE e ∧ e.a = ⟨x, y⟩ ∧ Box (50 + 20 * ((k : Int) + 1)) e.b.x e.b.y
theorem quarter_arc (px py r tn : Int) (rt : Bool) : quarterE px py r tn rt = Pl.arc ⟨px + (Pl.turn tn ⟨r, 0⟩).x, py + (Pl.turn tn ⟨r, 0⟩).y⟩ r (tn + 2) (if rt then 3 else 2) := by
 have h4 : tn % 4 = 0 ∨ tn % 4 = 1 ∨ tn % 4 = 2 ∨ tn % 4 = 3 := by omega
 have t1 : (tn + 2) % 4 = (tn % 4 + 2) % 4 := by omega
 have t3 : (tn + 2 + 3) % 4 = (tn % 4 + 1) % 4 := by omega
 have t4 : (tn + 2 + 1) % 4 = (tn % 4 + 3) % 4 := by omega
 cases rt <;> rcases h4 with h | h | h | h <;> simp [quarterE, Pl.arc, Pl.add, Pl.turn, h, t1, t3, t4] <;> omega
theorem quarter_good {x y v1 v2 : Int} {rt : Bool} (h : Box 90 x y) (hv : 0 ≤ v1 ∧ v1 < 9) : Pl.GoodE (quarterE x y (1 + v1) v2 rt) := by
 rw [quarter_arc]; have hb : Box (1 + v1) (1 + v1) 0 := by unfold Box; omega
 have ht := turn_box v2 hb
 exact Pl.good_arc (by unfold Box at *; unfold Pl.Lim; dsimp only; omega) (by omega) (by omega) (by cases rt <;> simp)
theorem quarter_box {x y v1 v2 : Int} {rt : Bool} {k : Nat} (h : Box (50 + 20 * (k : Int)) x y) (hv : 0 ≤ v1 ∧ v1 < 9) : Box (50 + 20 * ((k : Int) + 1)) (quarterE x y (1 + v1) v2 rt).b.x (quarterE x y (1 + v1) v2 rt).b.y := by
 have hb : Box (1 + v1) (1 + v1) 0 := by unfold Box; omega
 have ht := turn_box v2 hb
 obtain ⟨tx, htx⟩ : ∃ z, (Pl.turn v2 ⟨1 + v1, 0⟩).x = z := ⟨_, rfl⟩
 obtain ⟨ty, hty⟩ : ∃ z, (Pl.turn v2 ⟨1 + v1, 0⟩).y = z := ⟨_, rfl⟩
 rw [htx, hty] at ht; have hu : Box (1 + v1) (x - (x + tx)) (y - (y + ty)) := by unfold Box at *; omega
 have h2 := turn_box (if rt then 3 else 1) hu
 have e : (quarterE x y (1 + v1) v2 rt).b = ⟨x + tx + (Pl.turn (if rt then 3 else 1) ⟨x - (x + tx), y - (y + ty)⟩).x, y + ty + (Pl.turn (if rt then 3 else 1) ⟨x - (x + tx), y - (y + ty)⟩).y⟩ := by
  unfold quarterE; dsimp only; rw [htx, hty]
 rw [e]; unfold Box at *
 dsimp only; omega
theorem made38_any (l : List Int) (n : Nat) (hn : l.length = n) (ao : Option Addr) (cap : Nat) (w : World) (hl : LiesAt 1 intVal w ao cap l) (hn2 : LenOk n) : Calls Tryz.prog 38 #[.slice ao n cap] w (MadeIs w) := by
 have HNX0 : Hid (∀ m V, (0 < m ∧ m ≤ 1000000) → Kp w V none → DrawAt (w.heap.size + 1) ao n cap V → Calls Tryz.prog 37 #[.pointer (some ⟨w.heap.size + 1, 0, none⟩), I6 m] V (Drew (w.heap.size + 1) ao n cap V m)) := oh fun m V hm hV hd => next_any l n hn (w.heap.size + 1) ao cap m w V hl (Nat.le_succ _) hV hd hm.1 hm.2 hn2
 have HRECT : Hid (∀ (x1 y1 : Int) V, ∀ x y : Int, Calls Tryz.prog 73 #[.agg #[I6 x, I6 y, I6 x1, I6 y1]] V fun E w' => ∃ (ea : Option Addr) (m ec : Nat), E = .returned (.agg #[I6 2, .slice ea m ec, I6 0]) ∧ Kp V w' none) := oh fun x1 y1 V x y => (rrect_any x y x1 y1 V).mono fun E w' ⟨ea, ec, h1, _, _, h4⟩ => ⟨ea, _, ec, h1, h4⟩
 clear hl hn hn2; obtain ⟨i0, hi, hz0, hz1, hz2⟩ := info_parts infoEd
 have hzero : Hid ((w.alloc (.cells #[I6 0, .slice none 0 0, I6 0] 50)).heap[w.heap.size]? = some (.cells #[I6 0, .slice none 0 0, I6 0] 50 (0, 0))) := oh (heap_alloc_new w _)
 obtain ⟨w0, hw0, hr0, hd0, hk0⟩ : ∃ w0 : World, w0 = (w.alloc (.cells #[I6 0, .slice none 0 0, I6 0] 50)).alloc (.cells #[.slice ao n cap, I6 0] 90) ∧ w0.heap[w.heap.size]? = some (.cells #[I6 0, .slice none 0 0, I6 0] 50 (0, 0)) ∧ DrawAt (w.heap.size + 1) ao n cap w0 ∧ Kp w w0 none := by
  refine ⟨_, rfl, blk hzero.out ((Kp.refl _ none).alloc _), ⟨0, ?_, Nat.zero_le _⟩, ((Kp.refl w none).alloc _).alloc _⟩
  have h := heap_alloc_new (w.alloc (.cells #[I6 0, .slice none 0 0, I6 0] 50)) (.cells #[.slice ao n cap, I6 0] 90)
  simpa using h
 have HW0 := oh hw0; have HR0 := oh hr0; have HD0 := oh hd0; have HK0 := oh hk0; clear hw0 hr0 hd0 hk0 hzero; go_enter Tryz.func38, Tryz.ntmps38
 go_upto_region 2 with fail
 rw [← HW0.out]; clear HW0; go_wp2_with fail
 refine (HNX0.out 50 _ (by omega) HK0.out HD0.out).mono ?_
 rintro E w1 ⟨x, rfl, hx, hd1, k1⟩; have HX := oh hx; have HD1 := oh hd1; have HR1 := oh (res_kept HR0.out k1 (by intro q hq; injection hq with hq; omega))
 have HK1 := oh (Kp.of_own HK0.out k1 (by omega))
 clear hx hd1 k1 HR0 HD0 HK0; go_wp2_with fail
 refine (HNX0.out 50 _ (by omega) HK1.out HD1.out).mono ?_
 rintro E w2 ⟨y, rfl, hy, hd2, k2⟩; have HY := oh hy; have ka := (Kp.refl w2 none).alloc (.cells #[I6 x, I6 y] 42)
 have HQ : Hid (MM w ao n cap w2.heap.size x y (w2.alloc (.cells #[I6 x, I6 y] 42)).heap.size (w2.alloc (.cells #[I6 x, I6 y] 42))) := oh (MM.up (X := 0) ⟨(Kp.of_own HK1.out k2 (by omega)).trans ka, blk (res_kept HR1.out k2 (by intro q hq; injection hq with hq; omega)) ka, hd2.kp ka, heap_alloc_new w2 _, hd2.lt, Nat.zero_le _⟩)
 have HPX : Hid (Box 50 x y) := oh (by have h1 := HX.out; have h2 := HY.out; unfold Box; omega)
 clear hy hd2 k2 ka HR1 HD1 HK1; go_upto_region 3 with fail
 generalize w2.alloc (.cells #[I6 x, I6 y] 42) = w3 at *
 obtain ⟨P, hP⟩ : ∃ z, w2.heap.size = z := ⟨_, rfl⟩
 obtain ⟨XX, hXX⟩ : ∃ z, w3.heap.size = z := ⟨_, rfl⟩
 rw [hP, hXX] at HQ; rw [hP]; clear hP hXX; have HNX : Hid (∀ (m : Int) (V : World) {x y : Int} {P X : Nat}, (0 < m ∧ m ≤ 1000000) → MM w ao n cap P x y X V → Calls Tryz.prog 37 #[.pointer (some ⟨w.heap.size + 1, 0, none⟩), I6 m] V (Drew (w.heap.size + 1) ao n cap V m)) := oh fun m V x y P X hm h => HNX0.out m V hm h.kp h.dr
 have HROUND : Hid (∀ (r a b : Int), (0 ≤ r ∧ r ≤ 9) → (0 ≤ a ∧ a ≤ 9) → (0 ≤ b ∧ b ≤ 9) → ∀ V, Calls Tryz.prog 89 #[.agg #[I6 x, I6 y], I6 r, I6 a, I6 b] V (AreaIs V)) := oh fun r a b h1 h2 h3 V => round_any x y r a b V (by have := HPX.out; unfold Box at *; omega) h1 h2 h3
 clear HNX0 HX HY; go_wp2_with fail
 refine (HNX.out 6 _ (by omega) HQ.out).mono ?_
 rintro E w4 ⟨kd, rfl, hkd, hd, kk⟩; have HKD := oh hkd; have HQn := oh (HQ.out.next kk hd); clear HQ; have HQ := HQn; clear HQn hkd hd kk
 by_cases h0 : kd = 0
 ·subst h0; have hx1 : IntKind.i64.wrap (x + 1) = x + 1 := by have := HPX.out; unfold Box at *; rw [IntKind.wrap_i64]; omega
  have hy1 : IntKind.i64.wrap (y + 1) = y + 1 := by have := HPX.out; unfold Box at *; rw [IntKind.wrap_i64]; omega
  go_upto_region 5 with fail
  replace HQ := oh (HQ.out.keep (Kp.refl w4 none).drew); refine wp_region_last (fun V => V.cell? ⟨P, 0, none⟩ = some (I6 x) ∧ V.cell? ⟨P, 1, none⟩ = some (I6 y) ∧ True) 18 (by kernel_rfl) ?_ (fun eh => ?_)
  ·exact ⟨hcell HQ.out.p 0 rfl, hcell HQ.out.p 1 rfl, trivial⟩
  generalize w4.drew = Y at *
  refine tjL 0 rfl ?_; refine tjL 1 rfl ?_; refine tjL 2 rfl ?_; refine tjL 3 rfl ?_; refine tjL 4 rfl ?_; refine tjL 5 rfl ?_; refine tjL 6 rfl ?_; refine tjL 7 rfl ?_; refine tjL 10 rfl ?_; refine tjL 11 rfl ?_; refine tjL 12 rfl ?_; refine tjL 13 rfl ?_; refine rdL 8 rfl (fun K hK => ?_); clear eh; go_simp
  refine (HNX.out 20 _ (by omega) HQ.out).mono ?_
  rintro E V1 ⟨v1, rfl, hv, hd, kk⟩; replace HQ := oh (HQ.out.next kk hd); have HV_v1 := oh hv; clear kk hd hv
  have hv1 : IntKind.i64.wrap (x + 1 + v1) = x + 1 + v1 := by have := HV_v1.out; have := HPX.out; unfold Box at *; rw [IntKind.wrap_i64]; omega
  try go_wp2_with fail
  refine hK.out _ _ ?_ (fun eh => ?_)
  ·exact ⟨hcell HQ.out.p 0 rfl, hcell HQ.out.p 1 rfl, trivial⟩
  clear hK K; try simp only [Act.put, sm]
  refine tjL 9 rfl ?_; refine rdL 14 rfl (fun K hK => ?_); clear eh; go_simp
  refine (HNX.out 20 _ (by omega) HQ.out).mono ?_
  rintro E V2 ⟨v2, rfl, hv, hd, kk⟩; replace HQ := oh (HQ.out.next kk hd); have HV_v2 := oh hv; clear kk hd hv
  have hv2 : IntKind.i64.wrap (y + 1 + v2) = y + 1 + v2 := by have := HV_v2.out; have := HPX.out; unfold Box at *; rw [IntKind.wrap_i64]; omega
  try go_wp2_with fail
  refine hK.out _ _ ?_ (fun eh => ?_)
  ·exact ⟨hcell HQ.out.p 0 rfl, hcell HQ.out.p 1 rfl, trivial⟩
  clear hK K; try simp only [Act.put, sm]
  refine tjL 15 rfl ?_; refine tjL 16 rfl ?_; refine rdL 17 rfl (fun K hK => ?_); clear eh; go_simp
  refine (HRECT.out _ _ _ _ _).mono ?_
  rintro E V3 ⟨ea, m, ec, rfl, kk⟩; replace HQ := oh (HQ.out.keep kk); clear kk; try go_wp2_with fail
  refine hK.out _ _ ?_ (fun eh => ?_)
  ·exact ⟨hcell HQ.out.p 0 rfl, hcell HQ.out.p 1 rfl, trivial⟩
  clear hK K; try simp only [Act.put, sm]
  refine rdE rfl (fun K hK => ?_)
  have f0 := fz HQ.out.r 0
  have f1 := fz HQ.out.r 1
  have f2 := fz HQ.out.r 2
  have z0 := hcell HQ.out.r 0 rfl
  have z1 := hcell HQ.out.r 1 rfl
  have z2 := hcell HQ.out.r 2 rfl
  clear eh; go_simp; try go_wp2_with fail
  refine hK.out _ _ ?_
  clear hK K f0 f1 f2 z0 z1 z2; try simp only [Act.put, sm]
  refine wpAnyL_done (by kernel_rfl) ?_ _
  have HS := oh (heap_set (o := 2) (v := I6 0) (heap_set (o := 1) (v := .slice ea m ec) (heap_set (o := 0) (v := I6 2) HQ.out.r)))
  have HSS : Hid ((((V3.setCell ⟨w.heap.size, 0, none⟩ (I6 2)).setCell ⟨w.heap.size, 1, none⟩ (.slice ea m ec)).setCell ⟨w.heap.size, 2, none⟩ (I6 0)).heap[w.heap.size]? = some (.cells #[I6 2, .slice ea m ec, I6 0] 50 (0, 0))) := oh HS.out
  have ks : Kp V3 (((V3.setCell ⟨w.heap.size, 0, none⟩ (I6 2)).setCell ⟨w.heap.size, 1, none⟩ (.slice ea m ec)).setCell ⟨w.heap.size, 2, none⟩ (I6 0)) (some (w.heap.size)) := (((Kp.refl V3 (some (w.heap.size))).set (o := 0) (I6 2)).set (o := 1) (.slice ea m ec)).set (o := 2) (I6 0)
  have HKF := oh (Kp.of_own HQ.out.kp ks (Nat.le_refl _))
  clear HS ks
  generalize (((V3.setCell ⟨w.heap.size, 0, none⟩ (I6 2)).setCell ⟨w.heap.size, 1, none⟩ (.slice ea m ec)).setCell ⟨w.heap.size, 2, none⟩ (I6 0)) = wf at *
  have q0 := hcell HSS.out 0 rfl
  have q1 := hcell HSS.out 1 rfl
  have q2 := hcell HSS.out 2 rfl
  go_wp2_with fail
  exact bodyPost_ret (v := .agg #[I6 2, .slice ea m ec, I6 0]) (by simp [results, Tryz.results38, go_sem, q0, q1, q2]) rfl (.inl ⟨_, _, _, rfl, HKF.out⟩)
 have e0 : (kd == 0) = false := by simpa using h0
 by_cases h1 : kd = 1
 ·subst h1; go_upto_region 7 with fail
  replace HQ := oh (HQ.out.keep (Kp.refl w4 none).drew); refine wp_region_last (fun V => V.cell? ⟨P, 0, none⟩ = some (I6 x) ∧ V.cell? ⟨P, 1, none⟩ = some (I6 y) ∧ True) 11 (by kernel_rfl) ?_ (fun eh => ?_)
  ·exact ⟨hcell HQ.out.p 0 rfl, hcell HQ.out.p 1 rfl, trivial⟩
  generalize w4.drew = Y at *
  refine tjL 0 rfl ?_; refine tjL 1 rfl ?_; refine tjL 4 rfl ?_; refine tjL 7 rfl ?_; refine rdL 2 rfl (fun K hK => ?_); clear eh; go_simp
  refine (HNX.out 6 _ (by omega) HQ.out).mono ?_
  rintro E V1 ⟨v1, rfl, hv, hd, kk⟩; replace HQ := oh (HQ.out.next kk hd); have HV_v1 := oh hv; clear kk hd hv
  have hv1 : IntKind.i64.wrap (1 + v1) = 1 + v1 := by have := HV_v1.out; unfold Box at *; rw [IntKind.wrap_i64]; omega
  try go_wp2_with fail
  refine hK.out _ _ ?_ (fun eh => ?_)
  ·exact ⟨hcell HQ.out.p 0 rfl, hcell HQ.out.p 1 rfl, trivial⟩
  clear hK K; try simp only [Act.put, sm]
  refine tjL 3 rfl ?_; refine rdL 5 rfl (fun K hK => ?_); clear eh; go_simp
  refine (HNX.out 9 _ (by omega) HQ.out).mono ?_
  rintro E V2 ⟨v2, rfl, hv, hd, kk⟩; replace HQ := oh (HQ.out.next kk hd); have HV_v2 := oh hv; clear kk hd hv
  have hv2 : IntKind.i64.wrap (1 + v2) = 1 + v2 := by have := HV_v2.out; unfold Box at *; rw [IntKind.wrap_i64]; omega
  try go_wp2_with fail
  refine hK.out _ _ ?_ (fun eh => ?_)
  ·exact ⟨hcell HQ.out.p 0 rfl, hcell HQ.out.p 1 rfl, trivial⟩
  clear hK K; try simp only [Act.put, sm]
  refine tjL 6 rfl ?_; refine rdL 8 rfl (fun K hK => ?_); clear eh; go_simp
  refine (HNX.out 9 _ (by omega) HQ.out).mono ?_
  rintro E V3 ⟨v3, rfl, hv, hd, kk⟩; replace HQ := oh (HQ.out.next kk hd); have HV_v3 := oh hv; clear kk hd hv
  have hv3 : IntKind.i64.wrap (1 + v3) = 1 + v3 := by have := HV_v3.out; unfold Box at *; rw [IntKind.wrap_i64]; omega
  try go_wp2_with fail
  refine hK.out _ _ ?_ (fun eh => ?_)
  ·exact ⟨hcell HQ.out.p 0 rfl, hcell HQ.out.p 1 rfl, trivial⟩
  clear hK K; try simp only [Act.put, sm]
  refine tjL 9 rfl ?_; refine rdL 10 rfl (fun K hK => ?_); clear eh; go_simp
  refine (HROUND.out _ _ _ (by have := HV_v1.out; omega) (by have := HV_v2.out; omega) (by have := HV_v3.out; omega) _).mono ?_
  rintro E V4 ⟨ea, m, ec, rfl, kk⟩; replace HQ := oh (HQ.out.keep kk); clear kk; try go_wp2_with fail
  refine hK.out _ _ ?_ (fun eh => ?_)
  ·exact ⟨hcell HQ.out.p 0 rfl, hcell HQ.out.p 1 rfl, trivial⟩
  clear hK K; try simp only [Act.put, sm]
  refine rdE rfl (fun K hK => ?_)
  have f0 := fz HQ.out.r 0
  have f1 := fz HQ.out.r 1
  have f2 := fz HQ.out.r 2
  have z0 := hcell HQ.out.r 0 rfl
  have z1 := hcell HQ.out.r 1 rfl
  have z2 := hcell HQ.out.r 2 rfl
  clear eh; go_simp; try go_wp2_with fail
  refine hK.out _ _ ?_
  clear hK K f0 f1 f2 z0 z1 z2; try simp only [Act.put, sm]
  refine wpAnyL_done (by kernel_rfl) ?_ _
  have HS := oh (heap_set (o := 2) (v := I6 0) (heap_set (o := 1) (v := .slice ea m ec) (heap_set (o := 0) (v := I6 2) HQ.out.r)))
  have HSS : Hid ((((V4.setCell ⟨w.heap.size, 0, none⟩ (I6 2)).setCell ⟨w.heap.size, 1, none⟩ (.slice ea m ec)).setCell ⟨w.heap.size, 2, none⟩ (I6 0)).heap[w.heap.size]? = some (.cells #[I6 2, .slice ea m ec, I6 0] 50 (0, 0))) := oh HS.out
  have ks : Kp V4 (((V4.setCell ⟨w.heap.size, 0, none⟩ (I6 2)).setCell ⟨w.heap.size, 1, none⟩ (.slice ea m ec)).setCell ⟨w.heap.size, 2, none⟩ (I6 0)) (some (w.heap.size)) := (((Kp.refl V4 (some (w.heap.size))).set (o := 0) (I6 2)).set (o := 1) (.slice ea m ec)).set (o := 2) (I6 0)
  have HKF := oh (Kp.of_own HQ.out.kp ks (Nat.le_refl _))
  clear HS ks
  generalize (((V4.setCell ⟨w.heap.size, 0, none⟩ (I6 2)).setCell ⟨w.heap.size, 1, none⟩ (.slice ea m ec)).setCell ⟨w.heap.size, 2, none⟩ (I6 0)) = wf at *
  have q0 := hcell HSS.out 0 rfl
  have q1 := hcell HSS.out 1 rfl
  have q2 := hcell HSS.out 2 rfl
  go_wp2_with fail
  exact bodyPost_ret (v := .agg #[I6 2, .slice ea m ec, I6 0]) (by simp [results, Tryz.results38, go_sem, q0, q1, q2]) rfl (.inl ⟨_, _, _, rfl, HKF.out⟩)
 have e1 : (kd == 1) = false := by simpa using h1
 by_cases h2 : kd = 2
 ·subst h2; have hx1 : IntKind.i64.wrap (x + 1) = x + 1 := by have := HPX.out; unfold Box at *; rw [IntKind.wrap_i64]; omega
  have hy1 : IntKind.i64.wrap (y + 10) = y + 10 := by have := HPX.out; unfold Box at *; rw [IntKind.wrap_i64]; omega
  go_upto_region 9 with fail
  go_cut [5] from 56 to 67 (fun s5 wx => ∃ (B : Nat) (ax ay : Int), s5 = .pointer (some ⟨B, 0, none⟩) ∧ MM w ao n cap P x y 0 wx ∧ wx.heap[B]? = some (.cells #[I6 ax, I6 ay] 42 (0, 0)) ∧ (P < B ∧ w.heap.size + 1 < B))
  case first =>
   replace HQ := oh (HQ.out.keep (Kp.refl w4 none).drew); refine wp_region_last (fun V => V.cell? ⟨P, 0, none⟩ = some (I6 x) ∧ V.cell? ⟨P, 1, none⟩ = some (I6 y) ∧ True) 13 (by kernel_rfl) ?_ (fun eh => ?_)
   ·exact ⟨hcell HQ.out.p 0 rfl, hcell HQ.out.p 1 rfl, trivial⟩
   generalize w4.drew = Y at *
   refine tjL 0 rfl ?_; refine tjL 1 rfl ?_; refine tjL 2 rfl ?_; refine tjL 3 rfl ?_; refine tjL 6 rfl ?_; refine tjL 7 rfl ?_; refine tjL 8 rfl ?_
   refine rdD 4 12 rfl rfl (fun K hK => ?_) (fun K hK => ?_)
   ·clear eh; go_simp; refine (HNX.out 20 _ (by omega) HQ.out).mono ?_
    rintro E V1 ⟨v1, rfl, hv, hd, kk⟩; replace HQ := oh (HQ.out.next kk hd); have HV_v1 := oh hv; clear kk hd hv
    have hv1 : IntKind.i64.wrap (x + 1 + v1) = x + 1 + v1 := by have := HV_v1.out; have := HPX.out; unfold Box at *; rw [IntKind.wrap_i64]; omega
    try go_wp2_with fail
    refine hK.out _ _ ?_ (fun eh => ?_)
    ·exact ⟨hcell HQ.out.p 0 rfl, hcell HQ.out.p 1 rfl, trivial⟩
    clear hK K; try simp only [Act.put, sm]
    refine tjL 5 rfl ?_
    refine rdD 9 12 rfl rfl (fun K hK => ?_) (fun K hK => ?_)
    ·clear eh; go_simp; refine (HNX.out 9 _ (by omega) HQ.out).mono ?_
     rintro E V2 ⟨v2, rfl, hv, hd, kk⟩; replace HQ := oh (HQ.out.next kk hd); have HV_v2 := oh hv; clear kk hd hv
     have hv2 : IntKind.i64.wrap (y + v2) = y + v2 := by have := HV_v2.out; have := HPX.out; unfold Box at *; rw [IntKind.wrap_i64]; omega
     try go_wp2_with fail
     refine hK.out _ _ ?_ (fun eh => ?_)
     ·exact ⟨hcell HQ.out.p 0 rfl, hcell HQ.out.p 1 rfl, trivial⟩
     clear hK K; try simp only [Act.put, sm]
     refine tjL 10 rfl ?_; refine tjL 11 rfl ?_; refine rdL 12 rfl (fun K hK => ?_); clear eh; go_simp
     have HAX : Hid (XX ≤ V2.heap.size) := oh HQ.out.lo
     have ka := (Kp.refl V2 none).alloc (.cells #[I6 0, I6 0] 42)
     have HAD : Hid (P < V2.heap.size ∧ w.heap.size + 1 < V2.heap.size) := oh (by have h1 := HQ.out.pl; have h2 := lt_of_block HQ.out.p; omega)
     replace HQ := oh (HQ.out.keep ka)
     have HA := oh (heap_alloc_new V2 (.cells #[I6 0, I6 0] 42))
     clear ka; try go_wp2_with fail
     refine hK.out _ _ ?_ (fun eh => ?_)
     ·exact ⟨hcell HQ.out.p 0 rfl, hcell HQ.out.p 1 rfl, trivial⟩
     clear hK K; try simp only [Act.put, sm]
     generalize V2.alloc (.cells #[I6 0, I6 0] 42) = V3 at *
     refine rdE rfl (fun K hK => ?_)
     have f0 := fz HA.out 0
     have f1 := fz HA.out 1
     have z0 := hcell HA.out 0 rfl
     have z1 := hcell HA.out 1 rfl
     clear eh; go_simp; try go_wp2_with fail
     refine hK.out _ _ ?_
     clear hK K f0 f1 z0 z1; try simp only [Act.put, sm]
     refine wpAnyL_done (by kernel_rfl) ?_ _
     have hs := heap_two HA.out (I6 (x + 1 + v1)) (I6 (y + v2))
     have kk := hs.2
     have HS := oh hs.1
     have HQ9 := oh (HQ.out.row kk HAD.out); clear hs kk; go_wp2_with fail
     go_meet
     exact ⟨_, _, _, rfl, HQ9.out.low, HS.out, HAD.out⟩
    ·clear eh; go_simp; have HAX : Hid (XX ≤ V1.heap.size) := oh HQ.out.lo
     have ka := (Kp.refl V1 none).alloc (.cells #[I6 0, I6 0] 42)
     have HAD : Hid (P < V1.heap.size ∧ w.heap.size + 1 < V1.heap.size) := oh (by have h1 := HQ.out.pl; have h2 := lt_of_block HQ.out.p; omega)
     replace HQ := oh (HQ.out.keep ka)
     have HA := oh (heap_alloc_new V1 (.cells #[I6 0, I6 0] 42))
     clear ka; try go_wp2_with fail
     refine hK.out _ _ ?_ (fun eh => ?_)
     ·exact ⟨hcell HQ.out.p 0 rfl, hcell HQ.out.p 1 rfl, trivial⟩
     clear hK K; try simp only [Act.put, sm]
     generalize V1.alloc (.cells #[I6 0, I6 0] 42) = V4 at *
     refine rdL 9 rfl (fun K hK => ?_); clear eh; go_simp; refine (HNX.out 9 _ (by omega) HQ.out).mono ?_
     rintro E V5 ⟨v2, rfl, hv, hd, kk⟩; replace HQ := oh (HQ.out.next kk hd)
     replace HA := oh ((kk.block _ (lt_of_block HA.out) (by have := HAD.out; simp; omega)).trans HA.out); have HV_v2 := oh hv; clear kk hd hv; have hv2 : IntKind.i64.wrap (y + v2) = y + v2 := by have := HV_v2.out; have := HPX.out; unfold Box at *; rw [IntKind.wrap_i64]; omega
     try go_wp2_with fail
     refine hK.out _ _ ?_ (fun eh => ?_)
     ·exact ⟨hcell HQ.out.p 0 rfl, hcell HQ.out.p 1 rfl, trivial⟩
     clear hK K; try simp only [Act.put, sm]
     refine tjL 10 rfl ?_; refine tjL 11 rfl ?_; refine rdE rfl (fun K hK => ?_)
     have f0 := fz HA.out 0
     have f1 := fz HA.out 1
     have z0 := hcell HA.out 0 rfl
     have z1 := hcell HA.out 1 rfl
     clear eh; go_simp; try go_wp2_with fail
     refine hK.out _ _ ?_
     clear hK K f0 f1 z0 z1; try simp only [Act.put, sm]
     refine wpAnyL_done (by kernel_rfl) ?_ _
     have hs := heap_two HA.out (I6 (x + 1 + v1)) (I6 (y + v2))
     have kk := hs.2
     have HS := oh hs.1
     have HQ9 := oh (HQ.out.row kk HAD.out); clear hs kk; go_wp2_with fail
     go_meet
     exact ⟨_, _, _, rfl, HQ9.out.low, HS.out, HAD.out⟩
   ·clear eh; go_simp; have HAX : Hid (XX ≤ Y.heap.size) := oh HQ.out.lo
    have ka := (Kp.refl Y none).alloc (.cells #[I6 0, I6 0] 42)
    have HAD : Hid (P < Y.heap.size ∧ w.heap.size + 1 < Y.heap.size) := oh (by have h1 := HQ.out.pl; have h2 := lt_of_block HQ.out.p; omega)
    replace HQ := oh (HQ.out.keep ka)
    have HA := oh (heap_alloc_new Y (.cells #[I6 0, I6 0] 42))
    clear ka; try go_wp2_with fail
    refine hK.out _ _ ?_ (fun eh => ?_)
    ·exact ⟨hcell HQ.out.p 0 rfl, hcell HQ.out.p 1 rfl, trivial⟩
    clear hK K; try simp only [Act.put, sm]
    generalize Y.alloc (.cells #[I6 0, I6 0] 42) = V6 at *
    refine rdL 4 rfl (fun K hK => ?_); clear eh; go_simp; refine (HNX.out 20 _ (by omega) HQ.out).mono ?_
    rintro E V7 ⟨v1, rfl, hv, hd, kk⟩; replace HQ := oh (HQ.out.next kk hd)
    replace HA := oh ((kk.block _ (lt_of_block HA.out) (by have := HAD.out; simp; omega)).trans HA.out); have HV_v1 := oh hv; clear kk hd hv; have hv1 : IntKind.i64.wrap (x + 1 + v1) = x + 1 + v1 := by have := HV_v1.out; have := HPX.out; unfold Box at *; rw [IntKind.wrap_i64]; omega
    try go_wp2_with fail
    refine hK.out _ _ ?_ (fun eh => ?_)
    ·exact ⟨hcell HQ.out.p 0 rfl, hcell HQ.out.p 1 rfl, trivial⟩
    clear hK K; try simp only [Act.put, sm]
    refine tjL 5 rfl ?_; refine rdL 9 rfl (fun K hK => ?_); clear eh; go_simp
    refine (HNX.out 9 _ (by omega) HQ.out).mono ?_
    rintro E V8 ⟨v2, rfl, hv, hd, kk⟩; replace HQ := oh (HQ.out.next kk hd)
    replace HA := oh ((kk.block _ (lt_of_block HA.out) (by have := HAD.out; simp; omega)).trans HA.out); have HV_v2 := oh hv; clear kk hd hv; have hv2 : IntKind.i64.wrap (y + v2) = y + v2 := by have := HV_v2.out; have := HPX.out; unfold Box at *; rw [IntKind.wrap_i64]; omega
    try go_wp2_with fail
    refine hK.out _ _ ?_ (fun eh => ?_)
    ·exact ⟨hcell HQ.out.p 0 rfl, hcell HQ.out.p 1 rfl, trivial⟩
    clear hK K; try simp only [Act.put, sm]
    refine tjL 10 rfl ?_; refine tjL 11 rfl ?_; refine rdE rfl (fun K hK => ?_)
    have f0 := fz HA.out 0
    have f1 := fz HA.out 1
    have z0 := hcell HA.out 0 rfl
    have z1 := hcell HA.out 1 rfl
    clear eh; go_simp; try go_wp2_with fail
    refine hK.out _ _ ?_
    clear hK K f0 f1 z0 z1; try simp only [Act.put, sm]
    refine wpAnyL_done (by kernel_rfl) ?_ _
    have hs := heap_two HA.out (I6 (x + 1 + v1)) (I6 (y + v2))
    have kk := hs.2
    have HS := oh hs.1
    have HQ9 := oh (HQ.out.row kk HAD.out); clear hs kk; go_wp2_with fail
    go_meet
    exact ⟨_, _, _, rfl, HQ9.out.low, HS.out, HAD.out⟩
  case rest =>
   obtain ⟨B1, ax, ay, rfl, hq, ha, had⟩ := hcut; clear HQ
   have HQ := oh hq.up
   have HA := oh ha; have HAD : Hid (w.heap.size + 1 < B1) := oh had.2
   have HAL := oh (lt_of_block ha)
   obtain ⟨X2, hX2⟩ : ∃ z, wc.heap.size = z := ⟨_, rfl⟩
   rw [hX2] at HQ HAL; clear hq ha had hX2; go_upto_region 10 with fail
   go_cut [6] from 68 to 79 (fun s6 wx => ∃ (B : Nat) (cx cy : Int), s6 = .pointer (some ⟨B, 0, none⟩) ∧ MM w ao n cap P x y 0 wx ∧ wx.heap[B1]? = some (.cells #[I6 ax, I6 ay] 42 (0, 0)) ∧ wx.heap[B]? = some (.cells #[I6 cx, I6 cy] 42 (0, 0)) ∧ (P < B ∧ w.heap.size + 1 < B))
   case first =>
    replace HQ := oh (HQ.out.keep (Kp.refl wc none).drew); replace HA := oh (blk HA.out (Kp.refl wc none).drew); refine wp_region_last (fun V => V.cell? ⟨P, 0, none⟩ = some (I6 x) ∧ V.cell? ⟨P, 1, none⟩ = some (I6 y) ∧ True) 13 (by kernel_rfl) ?_ (fun eh => ?_)
    ·exact ⟨hcell HQ.out.p 0 rfl, hcell HQ.out.p 1 rfl, trivial⟩
    generalize wc.drew = Y at *
    refine tjL 0 rfl ?_; refine tjL 1 rfl ?_; refine tjL 2 rfl ?_; refine tjL 5 rfl ?_; refine tjL 6 rfl ?_; refine tjL 7 rfl ?_; refine tjL 8 rfl ?_
    refine rdD 3 12 rfl rfl (fun K hK => ?_) (fun K hK => ?_)
    ·clear eh; go_simp; refine (HNX.out 9 _ (by omega) HQ.out).mono ?_
     rintro E V1 ⟨v1, rfl, hv, hd, kk⟩; replace HQ := oh (HQ.out.next kk hd)
     replace HA := oh ((kk.block _ (lt_of_block HA.out) (by have := HAD.out; simp; omega)).trans HA.out); have HV_v1 := oh hv; clear kk hd hv; have hv1 : IntKind.i64.wrap (x + v1) = x + v1 := by have := HV_v1.out; have := HPX.out; unfold Box at *; rw [IntKind.wrap_i64]; omega
     try go_wp2_with fail
     refine hK.out _ _ ?_ (fun eh => ?_)
     ·exact ⟨hcell HQ.out.p 0 rfl, hcell HQ.out.p 1 rfl, trivial⟩
     clear hK K; try simp only [Act.put, sm]
     refine tjL 4 rfl ?_
     refine rdD 9 12 rfl rfl (fun K hK => ?_) (fun K hK => ?_)
     ·clear eh; go_simp; refine (HNX.out 20 _ (by omega) HQ.out).mono ?_
      rintro E V2 ⟨v2, rfl, hv, hd, kk⟩; replace HQ := oh (HQ.out.next kk hd)
      replace HA := oh ((kk.block _ (lt_of_block HA.out) (by have := HAD.out; simp; omega)).trans HA.out); have HV_v2 := oh hv; clear kk hd hv; have hv2 : IntKind.i64.wrap (y + 10 + v2) = y + 10 + v2 := by have := HV_v2.out; have := HPX.out; unfold Box at *; rw [IntKind.wrap_i64]; omega
      try go_wp2_with fail
      refine hK.out _ _ ?_ (fun eh => ?_)
      ·exact ⟨hcell HQ.out.p 0 rfl, hcell HQ.out.p 1 rfl, trivial⟩
      clear hK K; try simp only [Act.put, sm]
      refine tjL 10 rfl ?_; refine tjL 11 rfl ?_; refine rdL 12 rfl (fun K hK => ?_); clear eh; go_simp
      have HCX : Hid (X2 ≤ V2.heap.size) := oh HQ.out.lo
      have ka := (Kp.refl V2 none).alloc (.cells #[I6 0, I6 0] 42)
      have HCD : Hid (P < V2.heap.size ∧ w.heap.size + 1 < V2.heap.size) := oh (by have h1 := HQ.out.pl; have h2 := lt_of_block HQ.out.p; omega)
      replace HQ := oh (HQ.out.keep ka); replace HA := oh (blk HA.out ka)
      have HC := oh (heap_alloc_new V2 (.cells #[I6 0, I6 0] 42))
      clear ka; try go_wp2_with fail
      refine hK.out _ _ ?_ (fun eh => ?_)
      ·exact ⟨hcell HQ.out.p 0 rfl, hcell HQ.out.p 1 rfl, trivial⟩
      clear hK K; try simp only [Act.put, sm]
      generalize V2.alloc (.cells #[I6 0, I6 0] 42) = V3 at *
      refine rdE rfl (fun K hK => ?_)
      have f0 := fz HC.out 0
      have f1 := fz HC.out 1
      have z0 := hcell HC.out 0 rfl
      have z1 := hcell HC.out 1 rfl
      clear eh; go_simp; try go_wp2_with fail
      refine hK.out _ _ ?_
      clear hK K f0 f1 z0 z1; try simp only [Act.put, sm]
      refine wpAnyL_done (by kernel_rfl) ?_ _
      have hs := heap_two HC.out (I6 (x + v1)) (I6 (y + 10 + v2))
      have kk := hs.2
      have HS := oh hs.1
      have HQ9 := oh (HQ.out.row kk HCD.out)
      have HA9 := oh ((kk.block _ (lt_of_block HA.out) (by have := HCX.out; have := HAL.out; simp; omega)).trans HA.out)
      clear hs kk; go_wp2_with fail
      go_meet
      exact ⟨_, _, _, rfl, HQ9.out.low, HA9.out, HS.out, HCD.out⟩
     ·clear eh; go_simp; have HCX : Hid (X2 ≤ V1.heap.size) := oh HQ.out.lo
      have ka := (Kp.refl V1 none).alloc (.cells #[I6 0, I6 0] 42)
      have HCD : Hid (P < V1.heap.size ∧ w.heap.size + 1 < V1.heap.size) := oh (by have h1 := HQ.out.pl; have h2 := lt_of_block HQ.out.p; omega)
      replace HQ := oh (HQ.out.keep ka); replace HA := oh (blk HA.out ka)
      have HC := oh (heap_alloc_new V1 (.cells #[I6 0, I6 0] 42))
      clear ka; try go_wp2_with fail
      refine hK.out _ _ ?_ (fun eh => ?_)
      ·exact ⟨hcell HQ.out.p 0 rfl, hcell HQ.out.p 1 rfl, trivial⟩
      clear hK K; try simp only [Act.put, sm]
      generalize V1.alloc (.cells #[I6 0, I6 0] 42) = V4 at *
      refine rdL 9 rfl (fun K hK => ?_); clear eh; go_simp; refine (HNX.out 20 _ (by omega) HQ.out).mono ?_
      rintro E V5 ⟨v2, rfl, hv, hd, kk⟩; replace HQ := oh (HQ.out.next kk hd)
      replace HA := oh ((kk.block _ (lt_of_block HA.out) (by have := HAD.out; simp; omega)).trans HA.out); replace HC := oh ((kk.block _ (lt_of_block HC.out) (by have := HCD.out; simp; omega)).trans HC.out); have HV_v2 := oh hv; clear kk hd hv; have hv2 : IntKind.i64.wrap (y + 10 + v2) = y + 10 + v2 := by have := HV_v2.out; have := HPX.out; unfold Box at *; rw [IntKind.wrap_i64]; omega
      try go_wp2_with fail
      refine hK.out _ _ ?_ (fun eh => ?_)
      ·exact ⟨hcell HQ.out.p 0 rfl, hcell HQ.out.p 1 rfl, trivial⟩
      clear hK K; try simp only [Act.put, sm]
      refine tjL 10 rfl ?_; refine tjL 11 rfl ?_; refine rdE rfl (fun K hK => ?_)
      have f0 := fz HC.out 0
      have f1 := fz HC.out 1
      have z0 := hcell HC.out 0 rfl
      have z1 := hcell HC.out 1 rfl
      clear eh; go_simp; try go_wp2_with fail
      refine hK.out _ _ ?_
      clear hK K f0 f1 z0 z1; try simp only [Act.put, sm]
      refine wpAnyL_done (by kernel_rfl) ?_ _
      have hs := heap_two HC.out (I6 (x + v1)) (I6 (y + 10 + v2))
      have kk := hs.2
      have HS := oh hs.1
      have HQ9 := oh (HQ.out.row kk HCD.out)
      have HA9 := oh ((kk.block _ (lt_of_block HA.out) (by have := HCX.out; have := HAL.out; simp; omega)).trans HA.out)
      clear hs kk; go_wp2_with fail
      go_meet
      exact ⟨_, _, _, rfl, HQ9.out.low, HA9.out, HS.out, HCD.out⟩
    ·clear eh; go_simp; have HCX : Hid (X2 ≤ Y.heap.size) := oh HQ.out.lo
     have ka := (Kp.refl Y none).alloc (.cells #[I6 0, I6 0] 42)
     have HCD : Hid (P < Y.heap.size ∧ w.heap.size + 1 < Y.heap.size) := oh (by have h1 := HQ.out.pl; have h2 := lt_of_block HQ.out.p; omega)
     replace HQ := oh (HQ.out.keep ka); replace HA := oh (blk HA.out ka)
     have HC := oh (heap_alloc_new Y (.cells #[I6 0, I6 0] 42))
     clear ka; try go_wp2_with fail
     refine hK.out _ _ ?_ (fun eh => ?_)
     ·exact ⟨hcell HQ.out.p 0 rfl, hcell HQ.out.p 1 rfl, trivial⟩
     clear hK K; try simp only [Act.put, sm]
     generalize Y.alloc (.cells #[I6 0, I6 0] 42) = V6 at *
     refine rdL 3 rfl (fun K hK => ?_); clear eh; go_simp; refine (HNX.out 9 _ (by omega) HQ.out).mono ?_
     rintro E V7 ⟨v1, rfl, hv, hd, kk⟩; replace HQ := oh (HQ.out.next kk hd)
     replace HA := oh ((kk.block _ (lt_of_block HA.out) (by have := HAD.out; simp; omega)).trans HA.out); replace HC := oh ((kk.block _ (lt_of_block HC.out) (by have := HCD.out; simp; omega)).trans HC.out); have HV_v1 := oh hv; clear kk hd hv; have hv1 : IntKind.i64.wrap (x + v1) = x + v1 := by have := HV_v1.out; have := HPX.out; unfold Box at *; rw [IntKind.wrap_i64]; omega
     try go_wp2_with fail
     refine hK.out _ _ ?_ (fun eh => ?_)
     ·exact ⟨hcell HQ.out.p 0 rfl, hcell HQ.out.p 1 rfl, trivial⟩
     clear hK K; try simp only [Act.put, sm]
     refine tjL 4 rfl ?_; refine rdL 9 rfl (fun K hK => ?_); clear eh; go_simp
     refine (HNX.out 20 _ (by omega) HQ.out).mono ?_
     rintro E V8 ⟨v2, rfl, hv, hd, kk⟩; replace HQ := oh (HQ.out.next kk hd)
     replace HA := oh ((kk.block _ (lt_of_block HA.out) (by have := HAD.out; simp; omega)).trans HA.out); replace HC := oh ((kk.block _ (lt_of_block HC.out) (by have := HCD.out; simp; omega)).trans HC.out); have HV_v2 := oh hv; clear kk hd hv; have hv2 : IntKind.i64.wrap (y + 10 + v2) = y + 10 + v2 := by have := HV_v2.out; have := HPX.out; unfold Box at *; rw [IntKind.wrap_i64]; omega
     try go_wp2_with fail
     refine hK.out _ _ ?_ (fun eh => ?_)
     ·exact ⟨hcell HQ.out.p 0 rfl, hcell HQ.out.p 1 rfl, trivial⟩
     clear hK K; try simp only [Act.put, sm]
     refine tjL 10 rfl ?_; refine tjL 11 rfl ?_; refine rdE rfl (fun K hK => ?_)
     have f0 := fz HC.out 0
     have f1 := fz HC.out 1
     have z0 := hcell HC.out 0 rfl
     have z1 := hcell HC.out 1 rfl
     clear eh; go_simp; try go_wp2_with fail
     refine hK.out _ _ ?_
     clear hK K f0 f1 z0 z1; try simp only [Act.put, sm]
     refine wpAnyL_done (by kernel_rfl) ?_ _
     have hs := heap_two HC.out (I6 (x + v1)) (I6 (y + 10 + v2))
     have kk := hs.2
     have HS := oh hs.1
     have HQ9 := oh (HQ.out.row kk HCD.out)
     have HA9 := oh ((kk.block _ (lt_of_block HA.out) (by have := HCX.out; have := HAL.out; simp; omega)).trans HA.out)
     clear hs kk; go_wp2_with fail
     go_meet
     exact ⟨_, _, _, rfl, HQ9.out.low, HA9.out, HS.out, HCD.out⟩
   case rest =>
    obtain ⟨B2, cx, cy, rfl, hq, ha, hc, hcd⟩ := hcut; clear HQ HA HAL HAD; have HQ := oh hq; have HA := oh ha; have HC := oh hc; clear hq ha hc hcd hx1 hy1; go_upto_region 11 with fail
    replace HQ := oh (HQ.out.keep (Kp.refl wc none).drew); replace HA := oh (blk HA.out (Kp.refl wc none).drew); replace HC := oh (blk HC.out (Kp.refl wc none).drew); refine wp_region_last (fun V => V.cell? ⟨P, 0, none⟩ = some (I6 x) ∧ V.cell? ⟨P, 1, none⟩ = some (I6 y) ∧ V.cell? ⟨B1, 0, none⟩ = some (I6 ax) ∧ V.cell? ⟨B1, 1, none⟩ = some (I6 ay) ∧ V.cell? ⟨B2, 0, none⟩ = some (I6 cx) ∧ V.cell? ⟨B2, 1, none⟩ = some (I6 cy)) 11 (by kernel_rfl) ?_ (fun eh => ?_)
    ·exact ⟨hcell HQ.out.p 0 rfl, hcell HQ.out.p 1 rfl, hcell HA.out 0 rfl, hcell HA.out 1 rfl, hcell HC.out 0 rfl, hcell HC.out 1 rfl⟩
    generalize wc.drew = Y at *
    refine tjL 0 rfl ?_; refine tjL 1 rfl ?_; refine tjL 3 rfl ?_; refine tjL 4 rfl ?_; refine tjL 6 rfl ?_; refine tjL 7 rfl ?_; refine rdL 2 rfl (fun K hK => ?_); clear eh; go_simp
    refine (rline90_any x y ax ay _).mono ?_
    rintro E V1 ⟨rfl, kk⟩; replace HQ := oh (HQ.out.keep kk); replace HA := oh (blk HA.out kk); replace HC := oh (blk HC.out kk); clear kk; try go_wp2_with fail
    refine hK.out _ _ ?_ (fun eh => ?_)
    ·exact ⟨hcell HQ.out.p 0 rfl, hcell HQ.out.p 1 rfl, hcell HA.out 0 rfl, hcell HA.out 1 rfl, hcell HC.out 0 rfl, hcell HC.out 1 rfl⟩
    clear hK K; try simp only [Act.put, sm]
    refine rdL 5 rfl (fun K hK => ?_); clear eh; go_simp; refine (rline90_any ax ay cx cy _).mono ?_
    rintro E V2 ⟨rfl, kk⟩; replace HQ := oh (HQ.out.keep kk); replace HA := oh (blk HA.out kk); replace HC := oh (blk HC.out kk); clear kk; try go_wp2_with fail
    refine hK.out _ _ ?_ (fun eh => ?_)
    ·exact ⟨hcell HQ.out.p 0 rfl, hcell HQ.out.p 1 rfl, hcell HA.out 0 rfl, hcell HA.out 1 rfl, hcell HC.out 0 rfl, hcell HC.out 1 rfl⟩
    clear hK K; try simp only [Act.put, sm]
    refine rdL 8 rfl (fun K hK => ?_); clear eh; go_simp; refine (rline90_any cx cy x y _).mono ?_
    rintro E V3 ⟨rfl, kk⟩; replace HQ := oh (HQ.out.keep kk); replace HA := oh (blk HA.out kk); replace HC := oh (blk HC.out kk); clear kk; try go_wp2_with fail
    refine hK.out _ _ ?_ (fun eh => ?_)
    ·exact ⟨hcell HQ.out.p 0 rfl, hcell HQ.out.p 1 rfl, hcell HA.out 0 rfl, hcell HA.out 1 rfl, hcell HC.out 0 rfl, hcell HC.out 1 rfl⟩
    clear hK K; try simp only [Act.put, sm]
    refine rdL 9 rfl (fun K hK => ?_); clear eh; go_simp; have ka := (Kp.refl V3 none).alloc (.cells #[I6 1, I6 x, I6 y, I6 ax, I6 ay, I6 0, I6 0, I6 1, I6 ax, I6 ay, I6 cx, I6 cy, I6 0, I6 0, I6 1, I6 cx, I6 cy, I6 x, I6 y, I6 0, I6 0] 123)
    replace HQ := oh (HQ.out.keep ka); replace HA := oh (blk HA.out ka); replace HC := oh (blk HC.out ka); clear ka; try go_wp2_with fail
    refine hK.out _ _ ?_ (fun eh => ?_)
    ·exact ⟨hcell HQ.out.p 0 rfl, hcell HQ.out.p 1 rfl, hcell HA.out 0 rfl, hcell HA.out 1 rfl, hcell HC.out 0 rfl, hcell HC.out 1 rfl⟩
    clear hK K; try simp only [Act.put, sm]
    generalize V3.alloc (.cells #[I6 1, I6 x, I6 y, I6 ax, I6 ay, I6 0, I6 0, I6 1, I6 ax, I6 ay, I6 cx, I6 cy, I6 0, I6 0, I6 1, I6 cx, I6 cy, I6 x, I6 y, I6 0, I6 0] 123) = V4 at *
    refine tjL 10 rfl ?_; refine rdE rfl (fun K hK => ?_)
    have f0 := fz HQ.out.r 0
    have f1 := fz HQ.out.r 1
    have f2 := fz HQ.out.r 2
    have z0 := hcell HQ.out.r 0 rfl
    have z1 := hcell HQ.out.r 1 rfl
    have z2 := hcell HQ.out.r 2 rfl
    clear eh; go_simp; try go_wp2_with fail
    refine hK.out _ _ ?_
    clear hK K f0 f1 f2 z0 z1 z2; try simp only [Act.put, sm]
    refine wpAnyL_done (by kernel_rfl) ?_ _
    have HS := oh (heap_set (o := 2) (v := I6 0) (heap_set (o := 1) (v := .slice (some ⟨V3.heap.size, 0, none⟩) 3 3) (heap_set (o := 0) (v := I6 2) HQ.out.r)))
    have HSS : Hid ((((V4.setCell ⟨w.heap.size, 0, none⟩ (I6 2)).setCell ⟨w.heap.size, 1, none⟩ (.slice (some ⟨V3.heap.size, 0, none⟩) 3 3)).setCell ⟨w.heap.size, 2, none⟩ (I6 0)).heap[w.heap.size]? = some (.cells #[I6 2, .slice (some ⟨V3.heap.size, 0, none⟩) 3 3, I6 0] 50 (0, 0))) := oh HS.out
    have ks : Kp V4 (((V4.setCell ⟨w.heap.size, 0, none⟩ (I6 2)).setCell ⟨w.heap.size, 1, none⟩ (.slice (some ⟨V3.heap.size, 0, none⟩) 3 3)).setCell ⟨w.heap.size, 2, none⟩ (I6 0)) (some (w.heap.size)) := (((Kp.refl V4 (some (w.heap.size))).set (o := 0) (I6 2)).set (o := 1) (.slice (some ⟨V3.heap.size, 0, none⟩) 3 3)).set (o := 2) (I6 0)
    have HKF := oh (Kp.of_own HQ.out.kp ks (Nat.le_refl _))
    clear HS ks
    generalize (((V4.setCell ⟨w.heap.size, 0, none⟩ (I6 2)).setCell ⟨w.heap.size, 1, none⟩ (.slice (some ⟨V3.heap.size, 0, none⟩) 3 3)).setCell ⟨w.heap.size, 2, none⟩ (I6 0)) = wf at *
    have q0 := hcell HSS.out 0 rfl
    have q1 := hcell HSS.out 1 rfl
    have q2 := hcell HSS.out 2 rfl
    go_wp2_with fail
    exact bodyPost_ret (v := .agg #[I6 2, .slice (some ⟨V3.heap.size, 0, none⟩) 3 3, I6 0]) (by simp [results, Tryz.results38, go_sem, q0, q1, q2]) rfl (.inl ⟨_, _, _, rfl, HKF.out⟩)
 have e2 : (kd == 2) = false := by simpa using h2
 by_cases h3 : kd = 3
 ·subst h3; go_upto_region 13 with fail
  replace HQ := oh (HQ.out.keep (Kp.refl w4 none).drew); refine wp_region_last (fun V => V.cell? ⟨P, 0, none⟩ = some (I6 x) ∧ V.cell? ⟨P, 1, none⟩ = some (I6 y) ∧ True) 4 (by kernel_rfl) ?_ (fun eh => ?_)
  ·exact ⟨hcell HQ.out.p 0 rfl, hcell HQ.out.p 1 rfl, trivial⟩
  generalize w4.drew = Y at *
  refine tjL 0 rfl ?_; refine tjL 1 rfl ?_; refine rdL 2 rfl (fun K hK => ?_); clear eh; go_simp
  refine (HNX.out 9 _ (by omega) HQ.out).mono ?_
  rintro E V1 ⟨v1, rfl, hv, hd, kk⟩; replace HQ := oh (HQ.out.next kk hd); have HV_v1 := oh hv; clear kk hd hv; try go_wp2_with fail
  refine hK.out _ _ ?_ (fun eh => ?_)
  ·exact ⟨hcell HQ.out.p 0 rfl, hcell HQ.out.p 1 rfl, trivial⟩
  clear hK K; try simp only [Act.put, sm]
  refine rdL 3 rfl (fun K hK => ?_); clear eh; go_simp; refine (rdisc_any x y v1 _).mono ?_
  rintro E V2 ⟨ea, ec, rfl, hl, hfr, kk⟩; have HSZV := oh HQ.out.sz
  replace HQ := oh (HQ.out.keep kk); have HLI := oh hl
  have HFR : Hid (∀ p, ea = some p → w.heap.size < p.block) := oh (fun p hp => by have h1 := hfr p hp; have h2 := HSZV.out; omega)
  clear kk hl hfr; try go_wp2_with fail
  refine hK.out _ _ ?_ (fun eh => ?_)
  ·exact ⟨hcell HQ.out.p 0 rfl, hcell HQ.out.p 1 rfl, trivial⟩
  clear hK K; try simp only [Act.put, sm]
  refine rdE rfl (fun K hK => ?_)
  have f0 := fz HQ.out.r 0
  have f1 := fz HQ.out.r 1
  have f2 := fz HQ.out.r 2
  have z0 := hcell HQ.out.r 0 rfl
  have z1 := hcell HQ.out.r 1 rfl
  have z2 := hcell HQ.out.r 2 rfl
  clear eh; go_simp; try go_wp2_with fail
  refine hK.out _ _ ?_
  clear hK K f0 f1 f2 z0 z1 z2; try simp only [Act.put, sm]
  refine wpAnyL_done (by kernel_rfl) ?_ _
  have HS := oh (heap_set (o := 2) (v := I6 (Pl.disc ⟨x, y⟩ v1).r) (heap_set (o := 1) (v := .slice ea (Pl.disc ⟨x, y⟩ v1).es.length ec) (heap_set (o := 0) (v := I6 (Pl.disc ⟨x, y⟩ v1).k) HQ.out.r)))
  have HSS : Hid ((((V2.setCell ⟨w.heap.size, 0, none⟩ (I6 (Pl.disc ⟨x, y⟩ v1).k)).setCell ⟨w.heap.size, 1, none⟩ (.slice ea (Pl.disc ⟨x, y⟩ v1).es.length ec)).setCell ⟨w.heap.size, 2, none⟩ (I6 (Pl.disc ⟨x, y⟩ v1).r)).heap[w.heap.size]? = some (.cells #[I6 (Pl.disc ⟨x, y⟩ v1).k, .slice ea (Pl.disc ⟨x, y⟩ v1).es.length ec, I6 (Pl.disc ⟨x, y⟩ v1).r] 50 (0, 0))) := oh HS.out
  have ks : Kp V2 (((V2.setCell ⟨w.heap.size, 0, none⟩ (I6 (Pl.disc ⟨x, y⟩ v1).k)).setCell ⟨w.heap.size, 1, none⟩ (.slice ea (Pl.disc ⟨x, y⟩ v1).es.length ec)).setCell ⟨w.heap.size, 2, none⟩ (I6 (Pl.disc ⟨x, y⟩ v1).r)) (some (w.heap.size)) := (((Kp.refl V2 (some (w.heap.size))).set (o := 0) (I6 (Pl.disc ⟨x, y⟩ v1).k)).set (o := 1) (.slice ea (Pl.disc ⟨x, y⟩ v1).es.length ec)).set (o := 2) (I6 (Pl.disc ⟨x, y⟩ v1).r)
  have HKF := oh (Kp.of_own HQ.out.kp ks (Nat.le_refl _))
  have HFINE : Hid (Pl.Fine (Pl.disc ⟨x, y⟩ v1)) := oh (Pl.fine_disc (by have := HPX.out; unfold Box at this; unfold Pl.Lim; dsimp only; omega) (by have := HV_v1.out; omega) (by have := HV_v1.out; omega))
  have HLF := oh (HLI.out.keepRow ks (fun p hp => by have := HFR.out p hp; omega))
  clear HS ks
  generalize (((V2.setCell ⟨w.heap.size, 0, none⟩ (I6 (Pl.disc ⟨x, y⟩ v1).k)).setCell ⟨w.heap.size, 1, none⟩ (.slice ea (Pl.disc ⟨x, y⟩ v1).es.length ec)).setCell ⟨w.heap.size, 2, none⟩ (I6 (Pl.disc ⟨x, y⟩ v1).r)) = wf at *
  have q0 := hcell HSS.out 0 rfl
  have q1 := hcell HSS.out 1 rfl
  have q2 := hcell HSS.out 2 rfl
  go_wp2_with fail
  exact bodyPost_ret (v := .agg #[I6 (Pl.disc ⟨x, y⟩ v1).k, .slice ea (Pl.disc ⟨x, y⟩ v1).es.length ec, I6 (Pl.disc ⟨x, y⟩ v1).r]) (by simp [results, Tryz.results38, go_sem, q0, q1, q2]) rfl (.inr ⟨Pl.disc ⟨x, y⟩ v1, ea, ec, HFINE.out, rfl, rfl, HLF.out, fun p hp => Nat.le_of_lt (HFR.out p hp), HKF.out⟩)
 have e3 : (kd == 3) = false := by simpa using h3
 clear h0 h1 h2 h3; go_wp2_with fail
 refine (HNX.out 6 _ (by omega) HQ.out).mono ?_
 rintro E w5 ⟨rr, rfl, hrr, hd, kk⟩; have HRR := oh hrr; have HQn := oh (HQ.out.next kk hd); clear HQ; have HQ := HQn; clear HQn hrr hd kk; go_upto_region 15 with fail
 have ka := (Kp.refl w5 none).alloc (.cells #[I6 1, .slice none 0 0, I6 rr] 50)
 have HB : Hid (Bs w5.heap.size (w5.heap.size + 1) 1 [] rr (.slice none 0 0) (w5.alloc (.cells #[I6 1, .slice none 0 0, I6 rr] 50))) := oh ⟨heap_alloc_new _ _, ⟨by omega, by simp⟩, by rfl, .inl ⟨rfl, rfl⟩⟩
 have HPA : Hid (P < w5.heap.size) := oh (lt_of_block HQ.out.p)
 have HQn := oh (HQ.out.keep ka); clear HQ; have HQ := HQn; clear HQn ka
 obtain ⟨A, hA⟩ : ∃ z, w5.heap.size = z := ⟨_, rfl⟩
 generalize w5.alloc (.cells #[I6 1, .slice none 0 0, I6 rr] 50) = w6 at *
 rw [hA] at HB HPA ⊢; clear hA; go_wp2_with fail
 refine (HNX.out 3 _ (by omega) HQ.out).mono ?_
 rintro E w7 ⟨m0, rfl, hm, hd, kk⟩; have HQn := oh (HQ.out.next kk hd)
 have HBn := oh (HB.out.keepRow kk (by have h1 := HPA.out; have h2 := HQ.out.pl; omega))
 clear HQ HB; have HQ := HQn; have HB := HBn; obtain ⟨m, hmm⟩ : ∃ m : Nat, (m : Int) = 1 + m0 := ⟨(1 + m0).toNat, by omega⟩
 have hw0 : wrap64 (1 + m0) = 1 + m0 := wrap_mid (by omega) (by omega)
 have HMM : Hid (1 + m0 = (m : Int)) := oh hmm.symm
 have HM1 : Hid (1 ≤ m ∧ m ≤ 3) := oh (by omega)
 clear HQn HBn hm hd kk hmm; go_wp2_with fail
 clear hw0; try rw [HMM.out]
 try rw [show wrap64 (m : Int) = (m : Int) from wrap_mid (by omega) (by have := HM1.out; omega)]
 clear HMM; go_loopw [9] (fun i wr => PxRel w ao n cap P A rr m i wr) (fun i _ => m - (intOf i).toNat)
 case atStart => exact ⟨0, x, y, [], .slice none 0 0, Nat.zero_le _, rfl, rfl, by simpa using HPX.out, (fun e (h : e ∈ ([] : List Pl.Ed)) => absurd h (by simp)), rfl, (fun h => absurd h (by simp)), HQ.out.low, HB.out⟩
 case round =>
  clear HPX HROUND HQ HB HKD e0 e1 e2 e3; obtain ⟨k, x, y, es, u, hk, rfl, hlen, hbox, hgood, hch, hend, hmm, hbs⟩ := hrel; have HLEN := oh hlen; have HPK := oh hbox; have HGOOD := oh hgood; have HCH := oh hch; have HEND := oh hend; have HMMW := oh hmm; have HBSW := oh hbs
  have hk0 := nn k; clear hlen hbox hgood hch hend hmm hbs
  by_cases hlt : k < m
  ·have hk1 : (k : Int) < (m : Int) := by omega
   have hk3 : k ≤ 2 := by have := HM1.out; omega
   have HPX : Hid (Box 90 x y) := oh (by have := HPK.out; unfold Box at *; omega)
   have HQ : Hid (MB w ao n cap P x y A es rr u wr.heap.size wr) := oh ⟨HMMW.out.up, HBSW.out, HPA.out, HBSW.out.lt, fun q hq => (HBSW.out.2.2.lt q hq).2⟩
   obtain ⟨WR, hWR⟩ : ∃ z, wr.heap.size = z := ⟨_, rfl⟩
   rw [hWR] at HQ; clear hWR HMMW HBSW; go_upto_region 19 with fail
   go_cut [10] from 108 to 124 (fun s10 wx => PxCut w ao n cap P x y A es rr u WR k s10 wx)
   case first =>
    replace HQ := oh (HQ.out.keep (Kp.refl wr none).drew); refine wp_region_last (fun V => V.cell? ⟨P, 0, none⟩ = some (I6 x) ∧ V.cell? ⟨P, 1, none⟩ = some (I6 y) ∧ True) 18 (by kernel_rfl) ?_ (fun eh => ?_)
    ·exact ⟨hcell HQ.out.mm.p 0 rfl, hcell HQ.out.mm.p 1 rfl, trivial⟩
    generalize wr.drew = Y at *
    refine tjL 0 rfl ?_; refine tjL 1 rfl ?_; refine tjL 2 rfl ?_; refine tjL 3 rfl ?_; refine tjL 8 rfl ?_; refine tjL 9 rfl ?_; refine tjL 10 rfl ?_
    refine rdD 4 17 rfl rfl (fun K hK => ?_) (fun K hK => ?_)
    ·clear eh; go_simp; refine (HNX.out 21 _ (by omega) HQ.out.mm).mono ?_
     rintro E V1 ⟨v1, rfl, hv, hd, kk⟩; replace HQ := oh (HQ.out.next kk hd); have HV_v1 := oh hv; clear kk hd hv
     have hv1 : IntKind.i64.wrap (x + v1) = x + v1 := by have := HV_v1.out; have := HPX.out; unfold Box at *; rw [IntKind.wrap_i64]; omega
     have hv1b : IntKind.i64.wrap (x + v1 - 10) = x + v1 - 10 := by have := HV_v1.out; have := HPX.out; unfold Box at *; rw [IntKind.wrap_i64]; omega
     try go_wp2_with fail
     refine hK.out _ _ ?_ (fun eh => ?_)
     ·exact ⟨hcell HQ.out.mm.p 0 rfl, hcell HQ.out.mm.p 1 rfl, trivial⟩
     clear hK K; try simp only [Act.put, sm]
     refine tjL 5 rfl ?_; refine tjL 6 rfl ?_; refine tjL 7 rfl ?_
     refine rdD 11 17 rfl rfl (fun K hK => ?_) (fun K hK => ?_)
     ·clear eh; go_simp; refine (HNX.out 21 _ (by omega) HQ.out.mm).mono ?_
      rintro E V2 ⟨v2, rfl, hv, hd, kk⟩; replace HQ := oh (HQ.out.next kk hd); have HV_v2 := oh hv; clear kk hd hv
      have hv2 : IntKind.i64.wrap (y + v2) = y + v2 := by have := HV_v2.out; have := HPX.out; unfold Box at *; rw [IntKind.wrap_i64]; omega
      have hv2b : IntKind.i64.wrap (y + v2 - 10) = y + v2 - 10 := by have := HV_v2.out; have := HPX.out; unfold Box at *; rw [IntKind.wrap_i64]; omega
      try go_wp2_with fail
      refine hK.out _ _ ?_ (fun eh => ?_)
      ·exact ⟨hcell HQ.out.mm.p 0 rfl, hcell HQ.out.mm.p 1 rfl, trivial⟩
      clear hK K; try simp only [Act.put, sm]
      refine tjL 12 rfl ?_; refine tjL 13 rfl ?_; refine tjL 14 rfl ?_; refine tjL 15 rfl ?_
      refine rdD 16 17 rfl rfl (fun K hK => ?_) (fun K hK => ?_)
      ·clear eh; go_simp; refine (rline90_any x y (max 0 (x + v1 - 10)) (max 0 (y + v2 - 10)) _).mono ?_
       rintro E V3 ⟨rfl, kk⟩; replace HQ := oh (HQ.out.keep kk); clear kk; try go_wp2_with fail
       refine hK.out _ _ ?_ (fun eh => ?_)
       ·exact ⟨hcell HQ.out.mm.p 0 rfl, hcell HQ.out.mm.p 1 rfl, trivial⟩
       clear hK K; try simp only [Act.put, sm]
       refine rdL 17 rfl (fun K hK => ?_); clear eh; go_simp; have ka := (Kp.refl V3 none).alloc (.cells #[I6 0, I6 0, I6 0, I6 0, I6 0, I6 0, I6 0] 123)
       have HED : Hid (WR ≤ V3.heap.size ∧ w.heap.size + 1 < V3.heap.size) := oh (by have h1 := HQ.out.mm.lo; have h2 := lt_of_block HQ.out.mm.p; have h3 := HQ.out.mm.pl; omega)
       replace HQ := oh (HQ.out.keep ka)
       have HE := oh (heap_alloc_new V3 (.cells #[I6 0, I6 0, I6 0, I6 0, I6 0, I6 0, I6 0] 123))
       clear ka; try go_wp2_with fail
       refine hK.out _ _ ?_ (fun eh => ?_)
       ·exact ⟨hcell HQ.out.mm.p 0 rfl, hcell HQ.out.mm.p 1 rfl, trivial⟩
       clear hK K; try simp only [Act.put, sm]
       generalize V3.alloc (.cells #[I6 0, I6 0, I6 0, I6 0, I6 0, I6 0, I6 0] 123) = V4 at *
       refine rdE rfl (fun K hK => ?_)
       have f0 := fz HE.out 0
       have f1 := fz HE.out 1
       have f2 := fz HE.out 2
       have f3 := fz HE.out 3
       have f4 := fz HE.out 4
       have f5 := fz HE.out 5
       have f6 := fz HE.out 6
       have z0 := hcell HE.out 0 rfl
       have z1 := hcell HE.out 1 rfl
       have z2 := hcell HE.out 2 rfl
       have z3 := hcell HE.out 3 rfl
       have z4 := hcell HE.out 4 rfl
       have z5 := hcell HE.out 5 rfl
       have z6 := hcell HE.out 6 rfl
       clear eh; go_simp; try go_wp2_with fail
       refine hK.out _ _ ?_
       clear hK K f0 z0 f1 z1 f2 z2 f3 z3 f4 z4 f5 z5 f6 z6; try simp only [Act.put, sm]
       refine wpAnyL_done (by kernel_rfl) ?_ _
       have hs := heap_seven2 HE.out (I6 1) (I6 x) (I6 y) (I6 (max 0 (x + v1 - 10))) (I6 (max 0 (y + v2 - 10))) (I6 0) (I6 0)
       have kk := hs.2
       have HS := oh hs.1
       have HQ9 := oh (HQ.out.row kk HED.out.1); clear hs kk; go_wp2_with fail
       go_meet
       exact ⟨_, Pl.line ⟨x, y⟩ ⟨(max 0 (x + v1 - 10)), (max 0 (y + v2 - 10))⟩, rfl, HQ9.out, HS.out, HED.out.1, Pl.good_line (by have := HPX.out; unfold Box at this; unfold Pl.Lim; dsimp only; omega) (by have := HPX.out; have := HV_v1.out; have := HV_v2.out; unfold Box at *; unfold Pl.Lim; dsimp only; omega), rfl, by have := HPK.out; have := HV_v1.out; have := HV_v2.out; unfold Box at *; dsimp only [Pl.line]; omega⟩
      ·clear eh; go_simp; have ka := (Kp.refl V2 none).alloc (.cells #[I6 0, I6 0, I6 0, I6 0, I6 0, I6 0, I6 0] 123)
       have HED : Hid (WR ≤ V2.heap.size ∧ w.heap.size + 1 < V2.heap.size) := oh (by have h1 := HQ.out.mm.lo; have h2 := lt_of_block HQ.out.mm.p; have h3 := HQ.out.mm.pl; omega)
       replace HQ := oh (HQ.out.keep ka)
       have HE := oh (heap_alloc_new V2 (.cells #[I6 0, I6 0, I6 0, I6 0, I6 0, I6 0, I6 0] 123))
       clear ka; try go_wp2_with fail
       refine hK.out _ _ ?_ (fun eh => ?_)
       ·exact ⟨hcell HQ.out.mm.p 0 rfl, hcell HQ.out.mm.p 1 rfl, trivial⟩
       clear hK K; try simp only [Act.put, sm]
       generalize V2.alloc (.cells #[I6 0, I6 0, I6 0, I6 0, I6 0, I6 0, I6 0] 123) = V5 at *
       refine rdL 16 rfl (fun K hK => ?_); clear eh; go_simp; refine (rline90_any x y (max 0 (x + v1 - 10)) (max 0 (y + v2 - 10)) _).mono ?_
       rintro E V6 ⟨rfl, kk⟩; replace HQ := oh (HQ.out.keep kk); replace HE := oh (blk HE.out kk); clear kk; try go_wp2_with fail
       refine hK.out _ _ ?_ (fun eh => ?_)
       ·exact ⟨hcell HQ.out.mm.p 0 rfl, hcell HQ.out.mm.p 1 rfl, trivial⟩
       clear hK K; try simp only [Act.put, sm]
       refine rdE rfl (fun K hK => ?_)
       have f0 := fz HE.out 0
       have f1 := fz HE.out 1
       have f2 := fz HE.out 2
       have f3 := fz HE.out 3
       have f4 := fz HE.out 4
       have f5 := fz HE.out 5
       have f6 := fz HE.out 6
       have z0 := hcell HE.out 0 rfl
       have z1 := hcell HE.out 1 rfl
       have z2 := hcell HE.out 2 rfl
       have z3 := hcell HE.out 3 rfl
       have z4 := hcell HE.out 4 rfl
       have z5 := hcell HE.out 5 rfl
       have z6 := hcell HE.out 6 rfl
       clear eh; go_simp; try go_wp2_with fail
       refine hK.out _ _ ?_
       clear hK K f0 z0 f1 z1 f2 z2 f3 z3 f4 z4 f5 z5 f6 z6; try simp only [Act.put, sm]
       refine wpAnyL_done (by kernel_rfl) ?_ _
       have hs := heap_seven2 HE.out (I6 1) (I6 x) (I6 y) (I6 (max 0 (x + v1 - 10))) (I6 (max 0 (y + v2 - 10))) (I6 0) (I6 0)
       have kk := hs.2
       have HS := oh hs.1
       have HQ9 := oh (HQ.out.row kk HED.out.1); clear hs kk; go_wp2_with fail
       go_meet
       exact ⟨_, Pl.line ⟨x, y⟩ ⟨(max 0 (x + v1 - 10)), (max 0 (y + v2 - 10))⟩, rfl, HQ9.out, HS.out, HED.out.1, Pl.good_line (by have := HPX.out; unfold Box at this; unfold Pl.Lim; dsimp only; omega) (by have := HPX.out; have := HV_v1.out; have := HV_v2.out; unfold Box at *; unfold Pl.Lim; dsimp only; omega), rfl, by have := HPK.out; have := HV_v1.out; have := HV_v2.out; unfold Box at *; dsimp only [Pl.line]; omega⟩
     ·clear eh; go_simp; have ka := (Kp.refl V1 none).alloc (.cells #[I6 0, I6 0, I6 0, I6 0, I6 0, I6 0, I6 0] 123)
      have HED : Hid (WR ≤ V1.heap.size ∧ w.heap.size + 1 < V1.heap.size) := oh (by have h1 := HQ.out.mm.lo; have h2 := lt_of_block HQ.out.mm.p; have h3 := HQ.out.mm.pl; omega)
      replace HQ := oh (HQ.out.keep ka)
      have HE := oh (heap_alloc_new V1 (.cells #[I6 0, I6 0, I6 0, I6 0, I6 0, I6 0, I6 0] 123))
      clear ka; try go_wp2_with fail
      refine hK.out _ _ ?_ (fun eh => ?_)
      ·exact ⟨hcell HQ.out.mm.p 0 rfl, hcell HQ.out.mm.p 1 rfl, trivial⟩
      clear hK K; try simp only [Act.put, sm]
      generalize V1.alloc (.cells #[I6 0, I6 0, I6 0, I6 0, I6 0, I6 0, I6 0] 123) = V7 at *
      refine rdL 11 rfl (fun K hK => ?_); clear eh; go_simp; refine (HNX.out 21 _ (by omega) HQ.out.mm).mono ?_
      rintro E V8 ⟨v2, rfl, hv, hd, kk⟩; replace HQ := oh (HQ.out.next kk hd)
      replace HE := oh ((kk.block _ (lt_of_block HE.out) (by have := HED.out; simp; omega)).trans HE.out); have HV_v2 := oh hv; clear kk hd hv; have hv2 : IntKind.i64.wrap (y + v2) = y + v2 := by have := HV_v2.out; have := HPX.out; unfold Box at *; rw [IntKind.wrap_i64]; omega
      have hv2b : IntKind.i64.wrap (y + v2 - 10) = y + v2 - 10 := by have := HV_v2.out; have := HPX.out; unfold Box at *; rw [IntKind.wrap_i64]; omega
      try go_wp2_with fail
      refine hK.out _ _ ?_ (fun eh => ?_)
      ·exact ⟨hcell HQ.out.mm.p 0 rfl, hcell HQ.out.mm.p 1 rfl, trivial⟩
      clear hK K; try simp only [Act.put, sm]
      refine tjL 12 rfl ?_; refine tjL 13 rfl ?_; refine tjL 14 rfl ?_; refine tjL 15 rfl ?_; refine rdL 16 rfl (fun K hK => ?_); clear eh; go_simp
      refine (rline90_any x y (max 0 (x + v1 - 10)) (max 0 (y + v2 - 10)) _).mono ?_
      rintro E V9 ⟨rfl, kk⟩; replace HQ := oh (HQ.out.keep kk); replace HE := oh (blk HE.out kk); clear kk; try go_wp2_with fail
      refine hK.out _ _ ?_ (fun eh => ?_)
      ·exact ⟨hcell HQ.out.mm.p 0 rfl, hcell HQ.out.mm.p 1 rfl, trivial⟩
      clear hK K; try simp only [Act.put, sm]
      refine rdE rfl (fun K hK => ?_)
      have f0 := fz HE.out 0
      have f1 := fz HE.out 1
      have f2 := fz HE.out 2
      have f3 := fz HE.out 3
      have f4 := fz HE.out 4
      have f5 := fz HE.out 5
      have f6 := fz HE.out 6
      have z0 := hcell HE.out 0 rfl
      have z1 := hcell HE.out 1 rfl
      have z2 := hcell HE.out 2 rfl
      have z3 := hcell HE.out 3 rfl
      have z4 := hcell HE.out 4 rfl
      have z5 := hcell HE.out 5 rfl
      have z6 := hcell HE.out 6 rfl
      clear eh; go_simp; try go_wp2_with fail
      refine hK.out _ _ ?_
      clear hK K f0 z0 f1 z1 f2 z2 f3 z3 f4 z4 f5 z5 f6 z6; try simp only [Act.put, sm]
      refine wpAnyL_done (by kernel_rfl) ?_ _
      have hs := heap_seven2 HE.out (I6 1) (I6 x) (I6 y) (I6 (max 0 (x + v1 - 10))) (I6 (max 0 (y + v2 - 10))) (I6 0) (I6 0)
      have kk := hs.2
      have HS := oh hs.1
      have HQ9 := oh (HQ.out.row kk HED.out.1); clear hs kk; go_wp2_with fail
      go_meet
      exact ⟨_, Pl.line ⟨x, y⟩ ⟨(max 0 (x + v1 - 10)), (max 0 (y + v2 - 10))⟩, rfl, HQ9.out, HS.out, HED.out.1, Pl.good_line (by have := HPX.out; unfold Box at this; unfold Pl.Lim; dsimp only; omega) (by have := HPX.out; have := HV_v1.out; have := HV_v2.out; unfold Box at *; unfold Pl.Lim; dsimp only; omega), rfl, by have := HPK.out; have := HV_v1.out; have := HV_v2.out; unfold Box at *; dsimp only [Pl.line]; omega⟩
    ·clear eh; go_simp; have ka := (Kp.refl Y none).alloc (.cells #[I6 0, I6 0, I6 0, I6 0, I6 0, I6 0, I6 0] 123)
     have HED : Hid (WR ≤ Y.heap.size ∧ w.heap.size + 1 < Y.heap.size) := oh (by have h1 := HQ.out.mm.lo; have h2 := lt_of_block HQ.out.mm.p; have h3 := HQ.out.mm.pl; omega)
     replace HQ := oh (HQ.out.keep ka)
     have HE := oh (heap_alloc_new Y (.cells #[I6 0, I6 0, I6 0, I6 0, I6 0, I6 0, I6 0] 123))
     clear ka; try go_wp2_with fail
     refine hK.out _ _ ?_ (fun eh => ?_)
     ·exact ⟨hcell HQ.out.mm.p 0 rfl, hcell HQ.out.mm.p 1 rfl, trivial⟩
     clear hK K; try simp only [Act.put, sm]
     generalize Y.alloc (.cells #[I6 0, I6 0, I6 0, I6 0, I6 0, I6 0, I6 0] 123) = V10 at *
     refine rdL 4 rfl (fun K hK => ?_); clear eh; go_simp; refine (HNX.out 21 _ (by omega) HQ.out.mm).mono ?_
     rintro E V11 ⟨v1, rfl, hv, hd, kk⟩; replace HQ := oh (HQ.out.next kk hd)
     replace HE := oh ((kk.block _ (lt_of_block HE.out) (by have := HED.out; simp; omega)).trans HE.out); have HV_v1 := oh hv; clear kk hd hv; have hv1 : IntKind.i64.wrap (x + v1) = x + v1 := by have := HV_v1.out; have := HPX.out; unfold Box at *; rw [IntKind.wrap_i64]; omega
     have hv1b : IntKind.i64.wrap (x + v1 - 10) = x + v1 - 10 := by have := HV_v1.out; have := HPX.out; unfold Box at *; rw [IntKind.wrap_i64]; omega
     try go_wp2_with fail
     refine hK.out _ _ ?_ (fun eh => ?_)
     ·exact ⟨hcell HQ.out.mm.p 0 rfl, hcell HQ.out.mm.p 1 rfl, trivial⟩
     clear hK K; try simp only [Act.put, sm]
     refine tjL 5 rfl ?_; refine tjL 6 rfl ?_; refine tjL 7 rfl ?_; refine rdL 11 rfl (fun K hK => ?_); clear eh; go_simp
     refine (HNX.out 21 _ (by omega) HQ.out.mm).mono ?_
     rintro E V12 ⟨v2, rfl, hv, hd, kk⟩; replace HQ := oh (HQ.out.next kk hd)
     replace HE := oh ((kk.block _ (lt_of_block HE.out) (by have := HED.out; simp; omega)).trans HE.out); have HV_v2 := oh hv; clear kk hd hv; have hv2 : IntKind.i64.wrap (y + v2) = y + v2 := by have := HV_v2.out; have := HPX.out; unfold Box at *; rw [IntKind.wrap_i64]; omega
     have hv2b : IntKind.i64.wrap (y + v2 - 10) = y + v2 - 10 := by have := HV_v2.out; have := HPX.out; unfold Box at *; rw [IntKind.wrap_i64]; omega
     try go_wp2_with fail
     refine hK.out _ _ ?_ (fun eh => ?_)
     ·exact ⟨hcell HQ.out.mm.p 0 rfl, hcell HQ.out.mm.p 1 rfl, trivial⟩
     clear hK K; try simp only [Act.put, sm]
     refine tjL 12 rfl ?_; refine tjL 13 rfl ?_; refine tjL 14 rfl ?_; refine tjL 15 rfl ?_; refine rdL 16 rfl (fun K hK => ?_); clear eh; go_simp
     refine (rline90_any x y (max 0 (x + v1 - 10)) (max 0 (y + v2 - 10)) _).mono ?_
     rintro E V13 ⟨rfl, kk⟩; replace HQ := oh (HQ.out.keep kk); replace HE := oh (blk HE.out kk); clear kk; try go_wp2_with fail
     refine hK.out _ _ ?_ (fun eh => ?_)
     ·exact ⟨hcell HQ.out.mm.p 0 rfl, hcell HQ.out.mm.p 1 rfl, trivial⟩
     clear hK K; try simp only [Act.put, sm]
     refine rdE rfl (fun K hK => ?_)
     have f0 := fz HE.out 0
     have f1 := fz HE.out 1
     have f2 := fz HE.out 2
     have f3 := fz HE.out 3
     have f4 := fz HE.out 4
     have f5 := fz HE.out 5
     have f6 := fz HE.out 6
     have z0 := hcell HE.out 0 rfl
     have z1 := hcell HE.out 1 rfl
     have z2 := hcell HE.out 2 rfl
     have z3 := hcell HE.out 3 rfl
     have z4 := hcell HE.out 4 rfl
     have z5 := hcell HE.out 5 rfl
     have z6 := hcell HE.out 6 rfl
     clear eh; go_simp; try go_wp2_with fail
     refine hK.out _ _ ?_
     clear hK K f0 z0 f1 z1 f2 z2 f3 z3 f4 z4 f5 z5 f6 z6; try simp only [Act.put, sm]
     refine wpAnyL_done (by kernel_rfl) ?_ _
     have hs := heap_seven2 HE.out (I6 1) (I6 x) (I6 y) (I6 (max 0 (x + v1 - 10))) (I6 (max 0 (y + v2 - 10))) (I6 0) (I6 0)
     have kk := hs.2
     have HS := oh hs.1
     have HQ9 := oh (HQ.out.row kk HED.out.1); clear hs kk; go_wp2_with fail
     go_meet
     exact ⟨_, Pl.line ⟨x, y⟩ ⟨(max 0 (x + v1 - 10)), (max 0 (y + v2 - 10))⟩, rfl, HQ9.out, HS.out, HED.out.1, Pl.good_line (by have := HPX.out; unfold Box at this; unfold Pl.Lim; dsimp only; omega) (by have := HPX.out; have := HV_v1.out; have := HV_v2.out; unfold Box at *; unfold Pl.Lim; dsimp only; omega), rfl, by have := HPK.out; have := HV_v1.out; have := HV_v2.out; unfold Box at *; dsimp only [Pl.line]; omega⟩
   case rest =>
    obtain ⟨B, e, rfl, hq, he, hew, hge, hea, heb⟩ := hcut; clear HQ; have HQ := oh hq; have HE := oh he; have HEW := oh hew
    have HED : Hid (w.heap.size + 1 < B) := oh (by have h1 := hq.pa; have h2 := hq.aw; have h3 := hq.mm.pl; omega)
    have HGE := oh hge; have HEA := oh hea; have HEB := oh heb; clear hq he hew hge hea heb; go_wp2_with fail
    refine (HNX.out 2 _ (by omega) HQ.out.mm).mono ?_
    rintro E wq ⟨v0, rfl, hv0, hd, kk⟩; have HQn := oh (HQ.out.next kk hd)
    have HEn := oh ((kk.block _ (lt_of_block HE.out) (by have := HED.out; simp; omega)).trans HE.out)
    clear HQ HE; have HQ := HQn; have HE := HEn; clear HQn HEn hv0 hd kk; go_upto_if 127 with fail
    go_cut [10] from 128 to 137 (fun s10 wx => PxCut w ao n cap P x y A es rr u WR k s10 wx)
    case first =>
     by_cases hv : v0 = 1
     ·subst hv; go_upto_region 21 with fail
      replace HQ := oh (HQ.out.keep (Kp.refl wq none).drew); replace HE := oh (blk HE.out (Kp.refl wq none).drew); refine wp_region_last (fun V => V.cell? ⟨P, 0, none⟩ = some (I6 x) ∧ V.cell? ⟨P, 1, none⟩ = some (I6 y) ∧ True) 10 (by kernel_rfl) ?_ (fun eh => ?_)
      ·exact ⟨hcell HQ.out.mm.p 0 rfl, hcell HQ.out.mm.p 1 rfl, trivial⟩
      generalize wq.drew = Y at *
      refine tjL 0 rfl ?_; refine tjL 1 rfl ?_; refine tjL 4 rfl ?_; refine tjL 6 rfl ?_; refine rdL 2 rfl (fun K hK => ?_); clear eh; go_simp
      refine (HNX.out 9 _ (by omega) HQ.out.mm).mono ?_
      rintro E V1 ⟨v1, rfl, hv, hd, kk⟩; replace HQ := oh (HQ.out.next kk hd)
      replace HE := oh ((kk.block _ (lt_of_block HE.out) (by have := HED.out; simp; omega)).trans HE.out); have HV_v1 := oh hv; clear kk hd hv; have hv1 : IntKind.i64.wrap (1 + v1) = 1 + v1 := by have := HV_v1.out; unfold Box at *; rw [IntKind.wrap_i64]; omega
      try go_wp2_with fail
      refine hK.out _ _ ?_ (fun eh => ?_)
      ·exact ⟨hcell HQ.out.mm.p 0 rfl, hcell HQ.out.mm.p 1 rfl, trivial⟩
      clear hK K; try simp only [Act.put, sm]
      refine tjL 3 rfl ?_; refine rdL 5 rfl (fun K hK => ?_); clear eh; go_simp
      refine (HNX.out 4 _ (by omega) HQ.out.mm).mono ?_
      rintro E V2 ⟨v2, rfl, hv, hd, kk⟩; replace HQ := oh (HQ.out.next kk hd)
      replace HE := oh ((kk.block _ (lt_of_block HE.out) (by have := HED.out; simp; omega)).trans HE.out); have HV_v2 := oh hv; clear kk hd hv; try go_wp2_with fail
      refine hK.out _ _ ?_ (fun eh => ?_)
      ·exact ⟨hcell HQ.out.mm.p 0 rfl, hcell HQ.out.mm.p 1 rfl, trivial⟩
      clear hK K; try simp only [Act.put, sm]
      refine rdL 7 rfl (fun K hK => ?_); clear eh; go_simp; refine (HNX.out 2 _ (by omega) HQ.out.mm).mono ?_
      rintro E V3 ⟨v3, rfl, hv, hd, kk⟩; replace HQ := oh (HQ.out.next kk hd)
      replace HE := oh ((kk.block _ (lt_of_block HE.out) (by have := HED.out; simp; omega)).trans HE.out); have HV_v3 := oh hv; clear kk hd hv; try go_wp2_with fail
      refine hK.out _ _ ?_ (fun eh => ?_)
      ·exact ⟨hcell HQ.out.mm.p 0 rfl, hcell HQ.out.mm.p 1 rfl, trivial⟩
      clear hK K; try simp only [Act.put, sm]
      refine tjL 8 rfl ?_; refine rdL 9 rfl (fun K hK => ?_); clear eh; go_simp
      refine (quart_any x y (1 + v1) v2 (v3 == 1) _ (by have := HPX.out; unfold Box at *; omega) (by have := HV_v1.out; omega)).mono ?_
      rintro E V4 ⟨rfl, kk⟩; replace HQ := oh (HQ.out.keep kk); replace HE := oh (blk HE.out kk); clear kk; try go_wp2_with fail
      refine hK.out _ _ ?_ (fun eh => ?_)
      ·exact ⟨hcell HQ.out.mm.p 0 rfl, hcell HQ.out.mm.p 1 rfl, trivial⟩
      clear hK K; try simp only [Act.put, sm]
      refine rdE rfl (fun K hK => ?_)
      have f0 := fz HE.out 0
      have f1 := fz HE.out 1
      have f2 := fz HE.out 2
      have f3 := fz HE.out 3
      have f4 := fz HE.out 4
      have f5 := fz HE.out 5
      have f6 := fz HE.out 6
      have z0 := hcell HE.out 0 rfl
      have z1 := hcell HE.out 1 rfl
      have z2 := hcell HE.out 2 rfl
      have z3 := hcell HE.out 3 rfl
      have z4 := hcell HE.out 4 rfl
      have z5 := hcell HE.out 5 rfl
      have z6 := hcell HE.out 6 rfl
      clear eh; go_simp; try go_wp2_with fail
      refine hK.out _ _ ?_
      clear hK K f0 z0 f1 z1 f2 z2 f3 z3 f4 z4 f5 z5 f6 z6; try simp only [Act.put, sm]
      refine wpAnyL_done (by kernel_rfl) ?_ _
      have hs := heap_seven2 HE.out (I6 (quarterE x y (1 + v1) v2 (v3 == 1)).k) (I6 (quarterE x y (1 + v1) v2 (v3 == 1)).a.x) (I6 (quarterE x y (1 + v1) v2 (v3 == 1)).a.y) (I6 (quarterE x y (1 + v1) v2 (v3 == 1)).b.x) (I6 (quarterE x y (1 + v1) v2 (v3 == 1)).b.y) (I6 (quarterE x y (1 + v1) v2 (v3 == 1)).c.x) (I6 (quarterE x y (1 + v1) v2 (v3 == 1)).c.y)
      have kk := hs.2
      have HS := oh hs.1
      have HQ9 := oh (HQ.out.row kk HEW.out); clear hs kk; go_wp2_with fail
      go_meet
      exact ⟨B, (quarterE x y (1 + v1) v2 (v3 == 1)), rfl, HQ9.out, HS.out, HEW.out, quarter_good HPX.out HV_v1.out, rfl, quarter_box HPK.out HV_v1.out⟩
     ·have hvb : (v0 == 1) = false := by simpa using hv
      go_wp2_with fail
      go_meet
      exact ⟨B, e, rfl, HQ.out, HE.out, HEW.out, HGE.out, HEA.out, HEB.out⟩
    case rest =>
     clear HQ HE HEW HGE HEA HEB HED; obtain ⟨B, e, rfl, hq, he, hew, hge, hea, heb⟩ := hcut; have HQ := oh hq; have HE := oh he; have HEW := oh hew; have HGE := oh hge; have HEA := oh hea; have HEB := oh heb
     have HLT : Hid (w.heap.size + 1 < P ∧ P < A ∧ A < WR ∧ WR ≤ B) := oh ⟨hq.mm.pl, hq.pa, hq.aw, hew⟩
     have c1 := hq.bs.cell
     have y0 := hcell he 0 rfl
     have y1 := hcell he 1 rfl
     have y2 := hcell he 2 rfl
     have y3 := hcell he 3 rfl
     have y4 := hcell he 4 rfl
     have y5 := hcell he 5 rfl
     have y6 := hcell he 6 rfl
     clear hq he hew hge hea heb; have KAL := oh ((Kp.refl wc none).alloc (.cells #[I6 e.k, I6 e.a.x, I6 e.a.y, I6 e.b.x, I6 e.b.y, I6 e.c.x, I6 e.c.y] 123))
     have HQA := oh (HQ.out.keep KAL.out)
     have HEL := oh (ed_list (w := wc) e)
     go_wp2_with (at_builtin; go_must (refine wpList_app (f := edC) (by rfl) _ _ (A + 1) 48 123 (by rfl) i0 _ 7 56 Tryz.underlying48 hi hz0 hz1 hz2 rfl (by omega) (fun _ => rfl) ed_one u es.length (es.flatMap edC) (by rfl) HQA.out.bs.2.2 (.slice (some ⟨wc.heap.size, 0, none⟩) 1 1) [e] (by rfl) HEL.out (by have := HLEN.out; have := HM1.out; unfold maxLen; simp; omega) (by have := HLEN.out; have := HM1.out; simp; omega) HQA.out.bs.2.1.2 ?_))
     intro v3 w3 ho hg hbb; obtain ⟨ea3, ec3, rfl⟩ := own_slice ho
     have HO3 : Hid (w3.ownsRow (A + 1) 123 7 (.slice ea3 (es.length + [e].length) ec3) (es ++ [e]).length ((es ++ [e]).flatMap edC)) := oh (by rw [List.length_append, List.flatMap_append]; exact ho)
     have HG3 := oh hg; have HU : Hid (∀ q, u.ownBlock = some q → A + 1 ≤ q ∧ q < WR) := oh (fun q hq => ⟨(HQA.out.bs.2.2.lt q hq).1, HQA.out.hu q hq⟩)
     have HP3 := oh (res_kept HQA.out.mm.p hg (fun q hq => by have h1 := HU.out q hq; have h2 := HLT.out; omega))
     have HR3 := oh (res_kept HQA.out.mm.r hg (fun q hq => by have h1 := HU.out q hq; have h2 := HLT.out; omega))
     have HE3 := oh (res_kept (blk HE.out KAL.out) hg (fun q hq => by have h1 := HU.out q hq; have h2 := HLT.out; omega))
     have HD3 : Hid (DrawAt (w.heap.size + 1) ao n cap w3) := oh (by
      obtain ⟨a, h1, h2⟩ := HQA.out.mm.dr
      exact ⟨a, res_kept h1 hg (fun q hq => by have h1 := HU.out q hq; have h2 := HLT.out; omega), h2⟩)
     clear ho hg hbb c1 y0 y1 y2 y3 y4 y5 y6; have hA3 : Hid (w3.heap[A]? = _) := oh (HQA.out.bs.other HG3.out)
     have f3 := fz hA3.out 1
     have c3 : w3.cell? ⟨A, 1, none⟩ = some u := hcell hA3.out 1 rfl
     go_upto_region 23 with fail
     have HF : Hid (Bs A (A + 1) 1 (es ++ [e]) rr (.slice ea3 (es.length + [e].length) ec3) (w3.setCell ⟨A, 1, none⟩ (.slice ea3 (es.length + [e].length) ec3))) := oh (HQA.out.bs.put HG3.out HO3.out rfl rfl)
     have ks : Kp w3 (w3.setCell ⟨A, 1, none⟩ (.slice ea3 (es.length + [e].length) ec3)) (some A) := (Kp.refl w3 (some A)).set _
     have HKF : Hid (Kp w (w3.setCell ⟨A, 1, none⟩ (.slice ea3 (es.length + [e].length) ec3)) none) := oh (HQA.out.bs.far HQA.out.mm.kp (by have := HLT.out; omega) HG3.out)
     have HPF := oh (res_kept HP3.out ks (by intro q hq; injection hq with hq; have := HLT.out; omega))
     have HRF := oh (res_kept HR3.out ks (by intro q hq; injection hq with hq; have := HLT.out; omega))
     have HEF := oh (res_kept HE3.out ks (by intro q hq; injection hq with hq; have := HLT.out; omega))
     have HDF : Hid (DrawAt (w.heap.size + 1) ao n cap (w3.setCell ⟨A, 1, none⟩ (.slice ea3 (es.length + [e].length) ec3))) := oh (by
      obtain ⟨a, h1, h2⟩ := HD3.out
      exact ⟨a, res_kept h1 ks (by intro q hq; injection hq with hq; have := HLT.out; omega), h2⟩)
     have HUF : Hid (∀ q, (Value.slice ea3 (es.length + [e].length) ec3).ownBlock = some q → A + 1 ≤ q) := oh (fun q hq => (HO3.out.lt q hq).1)
     clear f3 c3 hA3 HP3 HR3 HE3 HD3 HO3 HG3 HQA KAL HEL HQ HE ks
     generalize w3.setCell ⟨A, 1, none⟩ (.slice ea3 (es.length + [e].length) ec3) = wF at *
     have z3 := hcell HEF.out 3 rfl
     have z4 := hcell HEF.out 4 rfl
     have g0 := fz HPF.out 0
     have g1 := fz HPF.out 1
     have x0' := hcell HPF.out 0 rfl
     have x1' := hcell HPF.out 1 rfl
     have hm3 : (m : Int) ≤ 3 := by have := HM1.out; omega
     go_wp2_with fail
     try rw [wrap_mid (n := (k : Int) + 1) (by omega) (by omega)]
     have hst := heap_two HPF.out (I6 e.b.x) (I6 e.b.y)
     have kk := hst.2
     have HREL : Hid (PxRel w ao n cap P A rr m (I6 ((k : Int) + 1)) ((wF.setCell ⟨P, 0, none⟩ (I6 e.b.x)).setCell ⟨P, 1, none⟩ (I6 e.b.y))) := oh ⟨k + 1, e.b.x, e.b.y, es ++ [e], _, hlt, by push_cast; rfl, by rw [List.length_append, HLEN.out]; rfl,
      by have h := HEB.out; push_cast; exact h,
      fun f hf => by
       rcases List.mem_append.1 hf with hf | hf
       ·exact HGOOD.out f hf
       ·rw [List.mem_singleton.1 hf]; exact HGE.out,
      Pl.chain_snoc HCH.out (by rw [HEA.out]; exact HEND.out), Pl.ends_snoc es e,
      ⟨Kp.of_own HKF.out kk (by have := HLT.out; omega), res_kept HRF.out kk (by intro q hq; injection hq with hq; have := HLT.out; omega), by
       obtain ⟨a, h1, h2⟩ := HDF.out
       exact ⟨a, res_kept h1 kk (by intro q hq; injection hq with hq; have := HLT.out; omega), h2⟩, hst.1, HLT.out.1, Nat.zero_le _⟩,
      HF.out.keepFar kk (by have := HLT.out; omega) (fun q hq => by have h1 := HUF.out q hq; have := HLT.out; omega)⟩
     have HME : Hid (m - (intOf (I6 ((k : Int) + 1))).toNat < m - (intOf (I6 (k : Int))).toNat) := oh (by simp [intOf]; omega)
     clear hst kk z3 z4 g0 g1 x0' x1' HPF HRF HEF HDF HF HKF
     first | exact ⟨HREL.out, HME.out⟩ | (go_roundw; all_goals first | exact HREL.out | exact HME.out)
  ·have hk1 : ¬ (k : Int) < (m : Int) := by omega
   have hkm : k = m := by omega
   subst hkm; have HFIN : Hid (Pl.Fine ⟨1, es, rr⟩) := oh (Pl.fine_path (by have := HLEN.out; have := HM1.out; omega) (by have := HLEN.out; have := HM1.out; omega) HGOOD.out HCH.out HRR.out.1 (by have := HRR.out; omega))
   obtain ⟨ea, ec, rfl⟩ := HBSW.out.slice
   have HFR : Hid (∀ p, ea = some p → w.heap.size < p.block) := oh (fun p hp => by have h1 := HBSW.out.fresh p hp; have h2 := HPA.out; have h3 := HMMW.out.pl; omega)
   have HLI := oh (own_lies (m := 7) (f := edC) (fun _ => rfl) HBSW.out.2.2).2
   have a0 := hcell HBSW.out.1 0 rfl
   have a1 := hcell HBSW.out.1 1 rfl
   have a2 := hcell HBSW.out.1 2 rfl
   have HQ := HMMW; have f0 := fz HQ.out.r 0
   have f1 := fz HQ.out.r 1
   have f2 := fz HQ.out.r 2
   have z0 := hcell HQ.out.r 0 rfl
   have z1 := hcell HQ.out.r 1 rfl
   have z2 := hcell HQ.out.r 2 rfl
   go_wp2_with fail
   have HS := oh (heap_set (o := 2) (v := I6 rr) (heap_set (o := 1) (v := .slice ea es.length ec) (heap_set (o := 0) (v := I6 1) HQ.out.r)))
   have HSS : Hid ((((wr.setCell ⟨w.heap.size, 0, none⟩ (I6 1)).setCell ⟨w.heap.size, 1, none⟩ (.slice ea es.length ec)).setCell ⟨w.heap.size, 2, none⟩ (I6 rr)).heap[w.heap.size]? = some (.cells #[I6 1, .slice ea es.length ec, I6 rr] 50 (0, 0))) := oh HS.out
   have ks : Kp wr (((wr.setCell ⟨w.heap.size, 0, none⟩ (I6 1)).setCell ⟨w.heap.size, 1, none⟩ (.slice ea es.length ec)).setCell ⟨w.heap.size, 2, none⟩ (I6 rr)) (some (w.heap.size)) := (((Kp.refl wr (some (w.heap.size))).set (o := 0) (I6 1)).set (o := 1) (.slice ea es.length ec)).set (o := 2) (I6 rr)
   have HKF := oh (Kp.of_own HQ.out.kp ks (Nat.le_refl _))
   have HLF := oh (HLI.out.keepRow ks (fun p hp => by have := HFR.out p hp; omega))
   clear a0 a1 a2 f0 f1 f2 z0 z1 z2; clear HS ks
   generalize (((wr.setCell ⟨w.heap.size, 0, none⟩ (I6 1)).setCell ⟨w.heap.size, 1, none⟩ (.slice ea es.length ec)).setCell ⟨w.heap.size, 2, none⟩ (I6 rr)) = wf at *
   have q0 := hcell HSS.out 0 rfl
   have q1 := hcell HSS.out 1 rfl
   have q2 := hcell HSS.out 2 rfl
   exact bodyPost_ret (v := .agg #[I6 1, .slice ea es.length ec, I6 rr]) (by simp [results, Tryz.results38, go_sem, q0, q1, q2]) rfl (.inr ⟨⟨1, es, rr⟩, ea, ec, HFIN.out, rfl, rfl, HLF.out, fun p hp => Nat.le_of_lt (HFR.out p hp), HKF.out⟩)
end Go.Proofs.YtljjbdbgedmadaaGreatDoor
