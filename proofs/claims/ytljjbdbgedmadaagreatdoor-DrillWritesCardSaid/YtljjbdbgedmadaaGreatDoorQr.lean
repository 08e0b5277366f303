/- A line of a slot (routed). Conditions: lines of at most 10^9 bytes; at most 10^6 holes, and edges; numbers of at most nine digits. -/
import Derived.Test.YtljjbdbgedmadaaGreatDoorEz
import Derived.Test.YtljjbdbgedmadaaGreatDoorQs
set_option maxHeartbeats 16000000
set_option maxRecDepth 100000
namespace Go.Proofs.YtljjbdbgedmadaaGreatDoor
open Go.RowKit Go.Lib
theorem routed_end (W : World) (L : Option Nat) (R m : Nat) (st : Dl.St) (w : World) (h : RdAt W L R m st w) (hp : st.ph = 5) (hsl : 0 ≤ st.sel ∧ st.sel ≤ 8388608) (hol : st.out.length ≤ 1000000) : Calls Tryz.prog 252 #[.pointer (some ⟨R, 0, none⟩), str [77, 49, 54]] w (StepIs W L R m (Dl.routed st [77, 49, 54])) := by
 obtain ⟨ph, tools, sel, f, t, pl, at_, es, out⟩ := st
 dsimp only at hp hsl hol
 subst hp; obtain ⟨eu, ov, ts, hts, hb, hr⟩ := h
 dsimp only at hts hb hr
 obtain ⟨ea, ec, rfl⟩ := own_slice hr.eo
 obtain ⟨n, hn⟩ : ∃ n, es.length = n := ⟨_, rfl⟩
 have hlt : ts.length ≤ 1000000 := by have := congrArg List.length hts; rw [List.length_map] at this; omega
 have heo := hr.eo
 rw [hn] at hb heo hr
 have hd : (Value.slice ea n ec).ownBlock = none ∨ (Value.slice ea n ec).ownBlock ≠ (Value.slice none 0 0).ownBlock := by
  cases hq : (Value.slice ea n ec).ownBlock with
  | none => exact .inl rfl
  | some g => exact .inr (by simp [Value.ownBlock])
 have HP := oh (put_any W L R m (fnV 5) (.slice ea n ec) (.slice none 0 0) ov (decide (5 = 6)) sel f t pl at_.x at_.y tools [] ts es n hn ea ec w hb hr.drop heo hd hsl hlt)
 have c11 : w.cell? ⟨R, 11, none⟩ = some (.slice ea n ec) := hcell hb 11 rfl
 have HT := oh hts; obtain ⟨c, hc⟩ : ∃ c, Pl.chk ⟨1, es, sel / 2⟩ = c := ⟨_, rfl⟩
 rw [hc] at HP; have HPX : Hid (Dl.put ⟨5, tools, sel, f, t, pl, at_, es, out⟩ es = if c = 0 then .inl ⟨5, tools, sel, f, t, pl, at_, es, out ++ [⟨⟨1, es, sel / 2⟩, f, t, pl⟩]⟩ else .inr c) := oh (by unfold Dl.put; dsimp only; rw [hc])
 have HST : Hid (Dl.routed ⟨5, tools, sel, f, t, pl, at_, es, out⟩ [77, 49, 54] = if c = 0 then .inl ⟨3, tools, sel, f, t, pl, at_, [], out ++ [⟨⟨1, es, sel / 2⟩, f, t, pl⟩]⟩ else .inr c) := oh (by
  unfold Dl.routed
  rw [if_pos (show ([77, 49, 54] : List UInt8) = Dl.kM16 from rfl)]
  dsimp only; rw [HPX.out]
  by_cases hz : c = 0
  ·rw [if_pos hz, if_pos hz]
  ·rw [if_neg hz, if_neg hz])
 clear hts hb hr heo hd hlt hc HPX hn
 by_cases hz : c = 0
 ·subst hz; have HST2 : Hid (Dl.routed ⟨5, tools, sel, f, t, pl, at_, es, out⟩ [77, 49, 54] = .inl ⟨3, tools, sel, f, t, pl, at_, [], out ++ [⟨⟨1, es, sel / 2⟩, f, t, pl⟩]⟩) := oh HST.out
  clear HST; go_enter Tryz.func252, Tryz.ntmps252
  go_upto_region 2 with (go_at_call 238; refine HP.out.mono ?_; rintro e w7 hput; have HPU : Hid (e = .returned (.tuple #[]) ∧ _) := oh (by unfold PutIs at hput; rw [if_pos rfl] at hput; exact hput); obtain ⟨rfl, hpu⟩ := HPU.out; have HPV := oh hpu; clear hput hpu HPU)
  obtain ⟨ov7, hb7, hr7⟩ := HPV.out; have HB7 := oh hb7; have HR7 := oh hr7; clear c11 HPV HP
  have d11 : w7.cell? ⟨R, 11, none⟩ = some (.slice ea n ec) := hcell hb7 11 rfl
  have d0 : w7.cell? ⟨R, 0, none⟩ = some (fnV 5) := hcell hb7 0 rfl
  have f0 := fz hb7 0
  have f11 := fz hb7 11
  clear hb7 hr7; go_wp2_with fail
  go_end0
  have hb8 : ((w7.setCell ⟨R, 11, none⟩ (.slice none 0 0)).setCell ⟨R, 0, none⟩ (fnV 3)).heap[R]? = some (.cells (RC 3 m ⟨3, tools, sel, f, t, pl, at_, [], out ++ [⟨⟨1, es, sel / 2⟩, f, t, pl⟩]⟩ (.slice none 0 0) ov7) 117 (0, 0)) := heap_set (heap_set HB7.out)
  exact step_inl HST2.out ⟨_, ov7, _, by rw [List.map_append, HT.out]; rfl, hb8, HR7.out.set (((Kp.refl _ (some R)).set _).set _) hb8⟩
 ·have HZ := oh hz; have HST2 : Hid (Dl.routed ⟨5, tools, sel, f, t, pl, at_, es, out⟩ [77, 49, 54] = .inr c) := oh (by rw [HST.out, if_neg hz])
  clear HST hz; go_enter Tryz.func252, Tryz.ntmps252
  go_wp2_with (go_at_call 238; refine HP.out.mono ?_; rintro e w7 hput; have HPU : Hid (e = .panicked (bad c) ∧ _) := oh (by unfold PutIs at hput; rw [if_neg HZ.out] at hput; exact hput); obtain ⟨rfl, hpu⟩ := HPU.out; have HPV := oh hpu; clear hput hpu HPU)
  exact ⟨rfl, step_inr HST2.out HPV.out⟩
theorem infoEdge : (Tryz.prog.info? 123).map (fun i => (i.zero, i.size, i.bytes)) = some (some (.agg #[I6 0, I6 0, I6 0, I6 0, I6 0, I6 0, I6 0]), 7, 56) := by kernel_rfl
def RtRel (_W w5 w : World) (R B N hit : Nat) (b6 : Bool) (z5 : Value) (ax ay x y i j : Int) (RCS : Array Value) (v5 v6 iv : Value) (wr : World) : Prop := ∃ k : Nat, k ≤ 2 ∧ iv = I6 k ∧ Kp w wr none ∧ wr.heap[R]? = some (.cells RCS 117 (0, 0)) ∧ wr.heap[N]? = some (.cells #[str [71, 48, 51, 88, 35, 89, 35, 73, 35, 74, 35], str [71, 48, 50, 88, 35, 89, 35, 73, 35, 74, 35]] 9 (0, 0)) ∧
 ((k ≤ hit ∧ v5 = z5 ∧ v6 = .bool b6 ∧ wr.heap[B]? = some (.cells #[I6 0, I6 ax, I6 ay, I6 0, I6 0, I6 0, I6 0] 123 (0, 0)) ∧ Kp w5 wr none) ∨ (hit < k ∧ v6 = .bool true ∧ ∃ ao cap, v5 = .slice ao 4 cap ∧ LiesAt 1 intVal wr ao cap [x, y, i, j] ∧ (∀ q, ao = some q → q.block ≠ B) ∧ wr.heap[B]? = some (.cells #[I6 (2 + (hit : Int)), I6 ax, I6 ay, I6 0, I6 0, I6 (ax + i), I6 (ay + j)] 123 (0, 0))))
theorem wrap_sum (a b : Int) (ha : -4000000000 ≤ a ∧ a ≤ 4000000000) (hb : -4000000000 ≤ b ∧ b ≤ 4000000000) : wrap64 (a + b) = a + b ∧ IntKind.i64.wrap (a + b) = a + b := ⟨by unfold wrap64; omega, by rw [IntKind.wrap_i64]; omega⟩
theorem four_at {w : World} {ao : Option Addr} {cap : Nat} {a b c d : Int} (h : LiesAt 1 intVal w ao cap [a, b, c, d]) : ∃ g off, ao = some ⟨g, off, none⟩ ∧ g < w.heap.size ∧ 4 ≤ cap ∧ w.cell? ⟨g, off, none⟩ = some (I6 a) ∧ w.cell? ⟨g, off + 1, none⟩ = some (I6 b) ∧ w.cell? ⟨g, off + 2, none⟩ = some (I6 c) ∧ w.cell? ⟨g, off + 3, none⟩ = some (I6 d) := by
 obtain ⟨g, off, e, hg, hc, hr⟩ := h.int 0 (by simp)
 exact ⟨g, off, e, hg, hc, hr 0 (by simp), hr 1 (by simp), hr 2 (by simp), hr 3 (by simp)⟩
theorem routed_walk (W : World) (L : Option Nat) (R m : Nat) (tools : List (Int × Int)) (sel f t : Int) (pl : Bool) (ax ay : Int) (es : List Pl.Ed) (out : List Dl.Ho) (s : List UInt8) (w : World) (h : RdAt W L R m ⟨5, tools, sel, f, t, pl, ⟨ax, ay⟩, es, out⟩ w) (he : Env w) (hs : s.length ≤ 1000000000) (hne : s ≠ [77, 49, 54]) (hel : es.length ≤ 1000000)
  (hax : (-4000000000 ≤ ax ∧ ax ≤ 4000000000) ∧ (-4000000000 ≤ ay ∧ ay ≤ 4000000000)) (hit : Nat) (hh : hit ≤ 2) (b6 : Bool) (x y i j : Int) (hij : (-4000000000 ≤ i ∧ i ≤ 4000000000) ∧ (-4000000000 ≤ j ∧ j ≤ 4000000000))
  (h1 : Dl.scan [71, 48, 49, 88] [[89], []] s = if b6 then some [x, y] else none) (hb6 : b6 = true → hit = 2)
  (h3 : Dl.scan [71, 48, 51, 88] [[89], [73], [74], []] s = if hit = 0 then some [x, y, i, j] else none)
  (h2 : Dl.scan [71, 48, 50, 88] [[89], [73], [74], []] s = if hit = 1 then some [x, y, i, j] else none)
  (x0 : Dl.St ⊕ Int) (hx0 : x0 = if b6 = false ∧ hit = 2 then .inr 4 else if Pl.chkE ⟨if hit = 2 then 1 else 2 + (hit : Int), ⟨ax, ay⟩, ⟨x, y⟩, if hit = 2 then ⟨0, 0⟩ else ⟨ax + i, ay + j⟩⟩ = 0 then .inl ⟨5, tools, sel, f, t, pl, ⟨x, y⟩, es ++ [⟨if hit = 2 then 1 else 2 + (hit : Int), ⟨ax, ay⟩, ⟨x, y⟩, if hit = 2 then ⟨0, 0⟩ else ⟨ax + i, ay + j⟩⟩], out⟩ else .inr (Pl.chkE ⟨if hit = 2 then 1 else 2 + (hit : Int), ⟨ax, ay⟩, ⟨x, y⟩, if hit = 2 then ⟨0, 0⟩ else ⟨ax + i, ay + j⟩⟩)) :
  Calls Tryz.prog 252 #[.pointer (some ⟨R, 0, none⟩), str s] w (StepIs W L R m x0) := by
 have HEN : Hid (∀ V, Kp w V none → Env V) := oh fun V k => he.kp0 k
 have HX0 := oh hx0; have HB6 := oh hb6; have HAX := oh hax; have HIJ := oh hij; have hne1 : (s == [77, 49, 54]) = false := by simpa using hne
 obtain ⟨eu, ov, ts, hts, hb, hr⟩ := h
 dsimp only at hts hb hr
 have HT := oh hts; have HRR := oh hr; have hRw : R < w.heap.size := lt_of_block hb
 obtain ⟨RCS, hrcs⟩ : ∃ c, RC 5 m ⟨5, tools, sel, f, t, pl, ⟨ax, ay⟩, es, out⟩ eu ov = c := ⟨_, rfl⟩
 have HRC : Hid (RCS[9]? = some (I6 ax) ∧ RCS[10]? = some (I6 ay)) := oh (by rw [← hrcs]; exact ⟨rfl, rfl⟩)
 rw [hrcs] at hb; have HRCS := oh hrcs; have HB0 := oh hb; have c9 := hcell hb 9 HRC.out.1
 have c10 := hcell hb 10 HRC.out.2
 have HS1 : Hid (∀ V, Kp w V none → Calls Tryz.prog 186 #[str s, str [71, 48, 49, 88, 35, 89, 35]] V fun E w' => (∃ z5, E = .returned (.tuple #[z5, .bool b6]) ∧ (b6 = true → ∃ ao cap, z5 = .slice ao 2 cap ∧ LiesAt 1 intVal w' ao cap [x, y] ∧ ∀ q, ao = some q → V.heap.size ≤ q.block)) ∧ Kp V w' none) := oh fun V k => by
  cases b6 with
  | true => exact (scan_yes pat_g1 (by decide) (by decide) hs h1 V (HEN.out V k)).mono fun E w' ⟨⟨ao, cap, h1, h2, h4⟩, h3⟩ => ⟨⟨_, h1, fun _ => ⟨ao, cap, rfl, h2, h4⟩⟩, h3⟩
  | false => exact (scan_not pat_g1 (by decide) (by decide) hs h1 V (HEN.out V k)).mono fun E w' ⟨⟨ao, n, cap, h1⟩, h3⟩ => ⟨⟨_, h1, fun h => by cases h⟩, h3⟩
 have HS3Y : Hid (hit = 0 → ∀ V, Kp w V none → Calls Tryz.prog 186 #[str s, str [71, 48, 51, 88, 35, 89, 35, 73, 35, 74, 35]] V fun E w' => (∃ ao cap, E = .returned (.tuple #[.slice ao 4 cap, .bool true]) ∧ LiesAt 1 intVal w' ao cap [x, y, i, j] ∧ ∀ q, ao = some q → V.heap.size ≤ q.block) ∧ Kp V w' none) := oh fun hbb V k => by
  rw [if_pos hbb] at h3; exact scan_yes pat_g3 (by decide) (by decide) hs h3 V (HEN.out V k)
 have HS3N : Hid (hit ≠ 0 → ∀ V, Kp w V none → Calls Tryz.prog 186 #[str s, str [71, 48, 51, 88, 35, 89, 35, 73, 35, 74, 35]] V fun E w' => (∃ ao n cap, E = .returned (.tuple #[.slice ao n cap, .bool false])) ∧ Kp V w' none) := oh fun hbb V k => by
  rw [if_neg hbb] at h3; exact scan_not pat_g3 (by decide) (by decide) hs h3 V (HEN.out V k)
 have HS2Y : Hid (hit = 1 → ∀ V, Kp w V none → Calls Tryz.prog 186 #[str s, str [71, 48, 50, 88, 35, 89, 35, 73, 35, 74, 35]] V fun E w' => (∃ ao cap, E = .returned (.tuple #[.slice ao 4 cap, .bool true]) ∧ LiesAt 1 intVal w' ao cap [x, y, i, j] ∧ ∀ q, ao = some q → V.heap.size ≤ q.block) ∧ Kp V w' none) := oh fun hbb V k => by
  rw [if_pos hbb] at h2; exact scan_yes pat_g2 (by decide) (by decide) hs h2 V (HEN.out V k)
 have HS2N : Hid (hit ≠ 1 → ∀ V, Kp w V none → Calls Tryz.prog 186 #[str s, str [71, 48, 50, 88, 35, 89, 35, 73, 35, 74, 35]] V fun E w' => (∃ ao n cap, E = .returned (.tuple #[.slice ao n cap, .bool false])) ∧ Kp V w' none) := oh fun hbb V k => by
  rw [if_neg hbb] at h2; exact scan_not pat_g2 (by decide) (by decide) hs h2 V (HEN.out V k)
 clear hx0 hb6 hax hij hne hts hb hr hrcs h1 h2 h3 hs he; have k1 := (Kp.refl w none).alloc (.cells #[I6 0, I6 ax, I6 ay, I6 0, I6 0, I6 0, I6 0] 123)
 have HBB := oh (heap_alloc_new w (.cells #[I6 0, I6 ax, I6 ay, I6 0, I6 0, I6 0, I6 0] 123))
 have HRB := oh (blk HB0.out k1); have K1 := oh k1; clear k1
 go_enter Tryz.func252, Tryz.ntmps252
 go_upto_region 4 with fail
 clear c9 c10
 generalize w.alloc (.cells #[I6 0, I6 ax, I6 ay, I6 0, I6 0, I6 0, I6 0] 123) = w1 at *
 obtain ⟨B, hB⟩ : ∃ q, w.heap.size = q := ⟨_, rfl⟩
 have HBw : Hid (w.heap.size ≤ B) := oh (by omega)
 have HBe := oh hB; rw [hB] at HBB hRw ⊢; clear hB; have hB1 : B < w1.heap.size := lt_of_block HBB.out
 go_upto_region 5 with (go_at_call 186; refine (HS1.out _ K1.out).mono ?_; rintro e w4 ⟨⟨z5, rfl, hz5⟩, k4⟩; have HZ5 := oh hz5; have K4 := oh k4; clear k4 hz5)
 have k5 := (Kp.refl w4 none).alloc (.cells #[str [71, 48, 51, 88, 35, 89, 35, 73, 35, 74, 35], str [71, 48, 50, 88, 35, 89, 35, 73, 35, 74, 35]] 9)
 have K5 := oh k5; have HNN := oh (heap_alloc_new w4 (.cells #[str [71, 48, 51, 88, 35, 89, 35, 73, 35, 74, 35], str [71, 48, 50, 88, 35, 89, 35, 73, 35, 74, 35]] 9))
 have HR5 := oh (blk HRB.out (K4.out.trans k5))
 have HB5 := oh (blk HBB.out (K4.out.trans k5))
 have KW5 := oh (K1.out.trans (K4.out.trans k5))
 have hNB : B < w4.heap.size := Nat.lt_of_lt_of_le hB1 K4.out.size
 clear k5 HRB HBB K1; go_wp2_with fail
 generalize w4.alloc (.cells #[str [71, 48, 51, 88, 35, 89, 35, 73, 35, 74, 35], str [71, 48, 50, 88, 35, 89, 35, 73, 35, 74, 35]] 9) = w5 at *
 obtain ⟨N, hN⟩ : ∃ q, w4.heap.size = q := ⟨_, rfl⟩
 rw [hN] at HNN hNB ⊢; clear hN; go_loopw [5, 6, 37] (fun v5 v6 iv wr => RtRel W w5 w R B N hit b6 z5 ax ay x y i j RCS v5 v6 iv wr) (fun _ _ iv _ => 2 - (intOf iv).toNat)
 case atStart => exact ⟨0, by omega, rfl, KW5.out, HR5.out, HNN.out, .inl ⟨by omega, rfl, rfl, HB5.out, Kp.refl _ _⟩⟩
 case round =>
  obtain ⟨k, hk, rfl, hkw, hrb, hnb, halt⟩ := hrel; have HK := oh hkw; have HR := oh hrb; have HN := oh hnb
  have hNlt : N < wr.heap.size := lt_of_block hnb
  have HALT := oh halt; clear hkw hrb hnb halt; have n0 : wr.cell? ⟨N, 0, none⟩ = some (str [71, 48, 51, 88, 35, 89, 35, 73, 35, 74, 35]) := hcell HN.out 0 rfl
  have n1 : wr.cell? ⟨N, 1, none⟩ = some (str [71, 48, 50, 88, 35, 89, 35, 73, 35, 74, 35]) := hcell HN.out 1 rfl
  by_cases hk0 : k = 0
  ·subst hk0; rw [show ((0 : Nat) : Int) = 0 from rfl]
   have hal : 0 ≤ hit ∧ u5 = z5 ∧ u6 = .bool b6 ∧ wr.heap[B]? = some (.cells #[I6 0, I6 ax, I6 ay, I6 0, I6 0, I6 0, I6 0] 123 (0, 0)) ∧ Kp w5 wr none := by
    rcases HALT.out with h | h
    ·exact h
    ·exact absurd h.1 (by omega)
   obtain ⟨_, h5, h6, hbb, hk5⟩ := hal; subst h5; subst h6; have HB := oh hbb; have HK5 := oh hk5
   have hBr : B < wr.heap.size := lt_of_block hbb
   clear hbb hk5 HALT
   by_cases hh0 : hit = 0
   ·subst hh0; go_upto_region 10 with (go_at_call 186; refine (HS3Y.out rfl _ HK.out).mono ?_; rintro e wl ⟨⟨ao, cap, rfl, hla, hfr⟩, kl⟩; have HLA := oh hla; have HFR := oh hfr; have KL := oh kl; clear hla hfr kl)
    clear n0 n1; obtain ⟨g, off, rfl, hg, hcap, _, _, ci, cj⟩ := four_at HLA.out
    have HGB : Hid (g ≠ B) := oh (by have := HFR.out _ rfl; dsimp only at this; omega)
    have HRw := oh (blk HR.out (KL.out.trans (Kp.refl _ none).drew))
    have HNw := oh (blk HN.out (KL.out.trans (Kp.refl _ none).drew))
    have HBv := oh (blk HB.out (KL.out.trans (Kp.refl _ none).drew))
    have KWw := oh (HK.out.trans (KL.out.trans (Kp.refl _ none).drew))
    have HCA : Hid (∀ V, Kp wl V (some B) → V.cell? ⟨g, off + 2, none⟩ = some (I6 i) ∧ V.cell? ⟨g, off + 3, none⟩ = some (I6 j)) := oh fun V k => ⟨(k.cell_far ⟨g, off + 2, none⟩ hg (fun e => HGB.out (Option.some.inj e))).trans ci, (k.cell_far ⟨g, off + 3, none⟩ hg (fun e => HGB.out (Option.some.inj e))).trans cj⟩
    have KD : Hid (Kp wl wl.drew (some B)) := oh (Kp.refl _ _).drew
    obtain ⟨hx1, hx2⟩ := wrap_sum ax i HAX.out.1 HIJ.out.1
    obtain ⟨hy1, hy2⟩ := wrap_sum ay j HAX.out.2 HIJ.out.2
    have hkw : IntKind.i64.wrap 2 = 2 := by decide
    clear ci cj; refine wp_region_last (fun V => V.cell? ⟨R, 9, none⟩ = some (I6 ax) ∧ V.cell? ⟨R, 10, none⟩ = some (I6 ay) ∧ V.cell? ⟨g, off + 2, none⟩ = some (I6 i) ∧ V.cell? ⟨g, off + 3, none⟩ = some (I6 j)) 27 (by kernel_rfl) ?_ (fun eh => ?_)
    ·exact ⟨(by have h := hcell HRw.out 9 HRC.out.1; exact h), (by have h := hcell HRw.out 10 HRC.out.2; exact h), HCA.out _ KD.out⟩
    generalize wl.drew = Y at *
    refine tjL 0 rfl ?_; refine tjL 1 rfl ?_; refine tjL 2 rfl ?_; refine tjL 3 rfl ?_; refine tjL 4 rfl ?_; refine tjL 5 rfl ?_; refine tjL 6 rfl ?_; refine tjL 7 rfl ?_; refine tjL 8 rfl ?_; refine tjL 9 rfl ?_; refine tjL 10 rfl ?_; refine tjL 11 rfl ?_; refine tjL 12 rfl ?_; refine tjL 13 rfl ?_; refine tjL 14 rfl ?_; refine tjL 15 rfl ?_; refine tjL 16 rfl ?_; refine tjL 17 rfl ?_; refine tjL 18 rfl ?_; refine tjL 19 rfl ?_; refine tjL 20 rfl ?_; refine tjL 21 rfl ?_; clear hx1 hx2 hy1 hy2 hkw; refine rdL 22 rfl (fun K hK => ?_); have gS := eh; clear eh; go_simp; try go_wp2_with fail
    refine hK.out _ _ (gS) (fun eh => ?_)
    clear hK K gS; try simp only [Act.put, sm]
    refine rdL 23 rfl (fun K hK => ?_); have gS := eh; clear eh; go_simp; try go_wp2_with fail
    refine hK.out _ _ (gS) (fun eh => ?_)
    clear hK K gS; try simp only [Act.put, sm]
    refine tjL 24 rfl ?_
    have f0 := fz HBv.out 0
    have c0 : Y.cell? ⟨B, 0, none⟩ = some (I6 0) := hcell HBv.out 0 rfl
    refine rdL 25 rfl (fun K hK => ?_); clear eh; go_simp; try go_wp2_with fail
    have hbq : (Y.setCell ⟨B, 0, none⟩ (I6 2)).heap[B]? = some (.cells #[I6 2, I6 ax, I6 ay, I6 0, I6 0, I6 0, I6 0] 123 (0, 0)) := heap_set HBv.out
    have HBq := oh hbq; have ks : Kp Y (Y.setCell ⟨B, 0, none⟩ (I6 2)) (some B) := (Kp.refl Y (some B)).set _
    have HRq := oh (res_kept HRw.out ks (fun q hq => by injection hq with hq; omega))
    have HNq := oh (res_kept HNw.out ks (fun q hq => by injection hq with hq; omega))
    have KS := oh (KD.out.trans ks); have KWq := oh (KWw.out.of_own ks HBw.out)
    refine hK.out _ _ (⟨(by have h := hcell HRq.out 9 HRC.out.1; exact h), (by have h := hcell HRq.out 10 HRC.out.2; exact h), HCA.out _ KS.out⟩) (fun eh => ?_)
    clear hK K f0 c0 hbq ks HRw HNw HBv KWw KD
    generalize Y.setCell ⟨B, 0, none⟩ (I6 2) = Z at *
    try simp only [Act.put, sm]
    refine tjL 26 rfl ?_; refine rdE rfl (fun K hK => ?_)
    have f5 := fz HBq.out 5
    have f6 := fz HBq.out 6
    have c5 : Z.cell? ⟨B, 5, none⟩ = some (I6 0) := hcell HBq.out 5 rfl
    have c6 : Z.cell? ⟨B, 6, none⟩ = some (I6 0) := hcell HBq.out 6 rfl
    clear eh; go_simp; try go_wp2_with fail
    refine hK.out _ _ ?_
    clear hK K f5 f6 c5 c6; try simp only [Act.put, sm]
    refine wpAnyL_done (by kernel_rfl) ?_ _
    have kz : Kp Z ((Z.setCell ⟨B, 5, none⟩ (I6 (ax + i))).setCell ⟨B, 6, none⟩ (I6 (ay + j))) (some B) := ((Kp.refl Z (some B)).set _).set _
    have hbz : ((Z.setCell ⟨B, 5, none⟩ (I6 (ax + i))).setCell ⟨B, 6, none⟩ (I6 (ay + j))).heap[B]? = some (.cells #[I6 2, I6 ax, I6 ay, I6 0, I6 0, I6 (ax + i), I6 (ay + j)] 123 (0, 0)) := heap_set (heap_set HBq.out)
    have HREL : Hid (RtRel W w5 w R B N 0 b6 u5 ax ay x y i j RCS (.slice (some ⟨g, off, none⟩) 4 cap) (.bool true) (I6 (0 + 1)) ((Z.setCell ⟨B, 5, none⟩ (I6 (ax + i))).setCell ⟨B, 6, none⟩ (I6 (ay + j)))) := oh ⟨0 + 1, by omega, by go_num, KWq.out.of_own kz HBw.out, res_kept HRq.out kz (fun q hq => by injection hq with hq; omega), res_kept HNq.out kz (fun q hq => by injection hq with hq; omega), .inr ⟨by omega, rfl, _, _, rfl, HLA.out.keepRow (KS.out.trans kz) (fun p hp => by injection hp with hp; rw [← hp]; exact HGB.out), (fun p hp => by injection hp with hp; rw [← hp]; exact HGB.out), hbz⟩⟩
    clear kz hbz HRq HNq HBq KWq KS
    generalize (Z.setCell ⟨B, 5, none⟩ (I6 (ax + i))).setCell ⟨B, 6, none⟩ (I6 (ay + j)) = wF at *
    go_wp2_with fail
    first | exact ⟨HREL.out, by simp [intOf]⟩ | (go_roundw; all_goals first | exact HREL.out | (simp [intOf]))
   ·have HH0 := oh hh0; clear hh0; go_wp2_with (go_at_call 186; refine (HS3N.out HH0.out _ HK.out).mono ?_; rintro e wl ⟨⟨ao, n, cap, rfl⟩, kl⟩; have KL := oh kl; clear kl)
    have HREL : Hid (RtRel W w5 w R B N hit b6 u5 ax ay x y i j RCS u5 (.bool b6) (I6 1) wl) := oh ⟨1, by omega, by go_num, HK.out.trans KL.out, blk HR.out KL.out, blk HN.out KL.out, .inl ⟨by have := HH0.out; omega, rfl, rfl, blk HB.out KL.out, HK5.out.trans KL.out⟩⟩
    first | exact ⟨HREL.out, by simp [intOf]⟩ | (go_roundw; all_goals first | exact HREL.out | (simp [intOf]))
  by_cases hk1 : k = 1
  ·subst hk1; rw [show ((1 : Nat) : Int) = 1 from rfl]
   rcases HALT.out with ⟨h1h, h5, h6, hbb, hk5⟩ | ⟨h1h, h6, ao3, cap3, h5, hl3, hg3, hbb⟩
   ·subst h5; subst h6; have HB := oh hbb; have HK5 := oh hk5; have hBr : B < wr.heap.size := lt_of_block hbb
    clear hbb hk5 HALT hk0
    by_cases hh1 : hit = 1
    ·subst hh1; go_upto_region 10 with (go_at_call 186; refine (HS2Y.out rfl _ HK.out).mono ?_; rintro e wl ⟨⟨ao, cap, rfl, hla, hfr⟩, kl⟩; have HLA := oh hla; have HFR := oh hfr; have KL := oh kl; clear hla hfr kl)
     clear n0 n1; obtain ⟨g, off, rfl, hg, hcap, _, _, ci, cj⟩ := four_at HLA.out
     have HGB : Hid (g ≠ B) := oh (by have := HFR.out _ rfl; dsimp only at this; omega)
     have HRw := oh (blk HR.out (KL.out.trans (Kp.refl _ none).drew))
     have HNw := oh (blk HN.out (KL.out.trans (Kp.refl _ none).drew))
     have HBv := oh (blk HB.out (KL.out.trans (Kp.refl _ none).drew))
     have KWw := oh (HK.out.trans (KL.out.trans (Kp.refl _ none).drew))
     have HCA : Hid (∀ V, Kp wl V (some B) → V.cell? ⟨g, off + 2, none⟩ = some (I6 i) ∧ V.cell? ⟨g, off + 3, none⟩ = some (I6 j)) := oh fun V k => ⟨(k.cell_far ⟨g, off + 2, none⟩ hg (fun e => HGB.out (Option.some.inj e))).trans ci, (k.cell_far ⟨g, off + 3, none⟩ hg (fun e => HGB.out (Option.some.inj e))).trans cj⟩
     have KD : Hid (Kp wl wl.drew (some B)) := oh (Kp.refl _ _).drew
     obtain ⟨hx1, hx2⟩ := wrap_sum ax i HAX.out.1 HIJ.out.1
     obtain ⟨hy1, hy2⟩ := wrap_sum ay j HAX.out.2 HIJ.out.2
     have hkw : IntKind.i64.wrap 3 = 3 := by decide
     clear ci cj; refine wp_region_last (fun V => V.cell? ⟨R, 9, none⟩ = some (I6 ax) ∧ V.cell? ⟨R, 10, none⟩ = some (I6 ay) ∧ V.cell? ⟨g, off + 2, none⟩ = some (I6 i) ∧ V.cell? ⟨g, off + 3, none⟩ = some (I6 j)) 27 (by kernel_rfl) ?_ (fun eh => ?_)
     ·exact ⟨(by have h := hcell HRw.out 9 HRC.out.1; exact h), (by have h := hcell HRw.out 10 HRC.out.2; exact h), HCA.out _ KD.out⟩
     generalize wl.drew = Y at *
     refine tjL 0 rfl ?_; refine tjL 1 rfl ?_; refine tjL 2 rfl ?_; refine tjL 3 rfl ?_; refine tjL 4 rfl ?_; refine tjL 5 rfl ?_; refine tjL 6 rfl ?_; refine tjL 7 rfl ?_; refine tjL 8 rfl ?_; refine tjL 9 rfl ?_; refine tjL 10 rfl ?_; refine tjL 11 rfl ?_; refine tjL 12 rfl ?_; refine tjL 13 rfl ?_; refine tjL 14 rfl ?_; refine tjL 15 rfl ?_; refine tjL 16 rfl ?_; refine tjL 17 rfl ?_; refine tjL 18 rfl ?_; refine tjL 19 rfl ?_; refine tjL 20 rfl ?_; refine tjL 21 rfl ?_; clear hx1 hx2 hy1 hy2 hkw; refine rdL 22 rfl (fun K hK => ?_); have gS := eh; clear eh; go_simp; try go_wp2_with fail
     refine hK.out _ _ (gS) (fun eh => ?_)
     clear hK K gS; try simp only [Act.put, sm]
     refine rdL 23 rfl (fun K hK => ?_); have gS := eh; clear eh; go_simp; try go_wp2_with fail
     refine hK.out _ _ (gS) (fun eh => ?_)
     clear hK K gS; try simp only [Act.put, sm]
     refine tjL 24 rfl ?_
     have f0 := fz HBv.out 0
     have c0 : Y.cell? ⟨B, 0, none⟩ = some (I6 0) := hcell HBv.out 0 rfl
     refine rdL 25 rfl (fun K hK => ?_); clear eh; go_simp; try go_wp2_with fail
     have hbq : (Y.setCell ⟨B, 0, none⟩ (I6 3)).heap[B]? = some (.cells #[I6 3, I6 ax, I6 ay, I6 0, I6 0, I6 0, I6 0] 123 (0, 0)) := heap_set HBv.out
     have HBq := oh hbq; have ks : Kp Y (Y.setCell ⟨B, 0, none⟩ (I6 3)) (some B) := (Kp.refl Y (some B)).set _
     have HRq := oh (res_kept HRw.out ks (fun q hq => by injection hq with hq; omega))
     have HNq := oh (res_kept HNw.out ks (fun q hq => by injection hq with hq; omega))
     have KS := oh (KD.out.trans ks); have KWq := oh (KWw.out.of_own ks HBw.out)
     refine hK.out _ _ (⟨(by have h := hcell HRq.out 9 HRC.out.1; exact h), (by have h := hcell HRq.out 10 HRC.out.2; exact h), HCA.out _ KS.out⟩) (fun eh => ?_)
     clear hK K f0 c0 hbq ks HRw HNw HBv KWw KD
     generalize Y.setCell ⟨B, 0, none⟩ (I6 3) = Z at *
     try simp only [Act.put, sm]
     refine tjL 26 rfl ?_; refine rdE rfl (fun K hK => ?_)
     have f5 := fz HBq.out 5
     have f6 := fz HBq.out 6
     have c5 : Z.cell? ⟨B, 5, none⟩ = some (I6 0) := hcell HBq.out 5 rfl
     have c6 : Z.cell? ⟨B, 6, none⟩ = some (I6 0) := hcell HBq.out 6 rfl
     clear eh; go_simp; try go_wp2_with fail
     refine hK.out _ _ ?_
     clear hK K f5 f6 c5 c6; try simp only [Act.put, sm]
     refine wpAnyL_done (by kernel_rfl) ?_ _
     have kz : Kp Z ((Z.setCell ⟨B, 5, none⟩ (I6 (ax + i))).setCell ⟨B, 6, none⟩ (I6 (ay + j))) (some B) := ((Kp.refl Z (some B)).set _).set _
     have hbz : ((Z.setCell ⟨B, 5, none⟩ (I6 (ax + i))).setCell ⟨B, 6, none⟩ (I6 (ay + j))).heap[B]? = some (.cells #[I6 3, I6 ax, I6 ay, I6 0, I6 0, I6 (ax + i), I6 (ay + j)] 123 (0, 0)) := heap_set (heap_set HBq.out)
     have HREL : Hid (RtRel W w5 w R B N 1 b6 u5 ax ay x y i j RCS (.slice (some ⟨g, off, none⟩) 4 cap) (.bool true) (I6 (1 + 1)) ((Z.setCell ⟨B, 5, none⟩ (I6 (ax + i))).setCell ⟨B, 6, none⟩ (I6 (ay + j)))) := oh ⟨1 + 1, by omega, by go_num, KWq.out.of_own kz HBw.out, res_kept HRq.out kz (fun q hq => by injection hq with hq; omega), res_kept HNq.out kz (fun q hq => by injection hq with hq; omega), .inr ⟨by omega, rfl, _, _, rfl, HLA.out.keepRow (KS.out.trans kz) (fun p hp => by injection hp with hp; rw [← hp]; exact HGB.out), (fun p hp => by injection hp with hp; rw [← hp]; exact HGB.out), hbz⟩⟩
     clear kz hbz HRq HNq HBq KWq KS
     generalize (Z.setCell ⟨B, 5, none⟩ (I6 (ax + i))).setCell ⟨B, 6, none⟩ (I6 (ay + j)) = wF at *
     go_wp2_with fail
     first | exact ⟨HREL.out, by simp [intOf]⟩ | (go_roundw; all_goals first | exact HREL.out | (simp [intOf]))
    ·have HH1 := oh hh1; clear hh1; go_wp2_with (go_at_call 186; refine (HS2N.out HH1.out _ HK.out).mono ?_; rintro e wl ⟨⟨ao, n, cap, rfl⟩, kl⟩; have KL := oh kl; clear kl)
     have HREL : Hid (RtRel W w5 w R B N hit b6 u5 ax ay x y i j RCS u5 (.bool b6) (I6 2) wl) := oh ⟨2, by omega, by go_num, HK.out.trans KL.out, blk HR.out KL.out, blk HN.out KL.out, .inl ⟨by have := HH1.out; omega, rfl, rfl, blk HB.out KL.out, HK5.out.trans KL.out⟩⟩
     first | exact ⟨HREL.out, by simp [intOf]⟩ | (go_roundw; all_goals first | exact HREL.out | (simp [intOf]))
   ·have hh0 : hit = 0 := by omega
    subst hh0; subst h6; subst h5; have HB := oh hbb; have HL3 := oh hl3; clear hbb hl3 HALT h1h hk0; go_wp2_with (go_at_call 186; refine (HS2N.out (by decide) _ HK.out).mono ?_; rintro e wl ⟨⟨ao, n, cap, rfl⟩, kl⟩; have KL := oh kl; clear kl)
    have HREL : Hid (RtRel W w5 w R B N 0 b6 z5 ax ay x y i j RCS (.slice ao3 4 cap3) (.bool true) (I6 2) wl) := oh ⟨2, by omega, by go_num, HK.out.trans KL.out, blk HR.out KL.out, blk HN.out KL.out, .inr ⟨by omega, rfl, ao3, cap3, rfl, HL3.out.keep KL.out, hg3, blk HB.out KL.out⟩⟩
    first | exact ⟨HREL.out, by simp [intOf]⟩ | (go_roundw; all_goals first | exact HREL.out | (simp [intOf]))
  ·have hk2 : k = 2 := by omega
   subst hk2; rw [show ((2 : Nat) : Int) = 2 from rfl]; clear n0 n1 hk0 hk1
   by_cases hbad : b6 = false ∧ hit = 2
   ·have hx1 : x0 = .inr 4 := by rw [HX0.out, if_pos hbad]
    have h6 : u6 = .bool false := by
     rcases HALT.out with ⟨_, _, h6, _⟩ | ⟨h, _⟩
     ·rw [h6, hbad.1]
     ·exact absurd h (by omega)
    have HX1 := oh hx1; subst h6; clear hbad hx1 HALT; go_wp2_with (go_at_call 100; refine (need_no _ _).mono ?_; rintro e w' ⟨rfl, rfl⟩)
    exact ⟨rfl, step_inr HX1.out (HRR.out.kl.trans HK.out)⟩
   have HU : ∃ (g off len cap : Nat) (k0 cx cy : Int), u5 = .slice (some ⟨g, off, none⟩) len cap ∧ 2 ≤ len ∧ len ≤ cap ∧ u6 = .bool true ∧ g < wr.heap.size ∧ (wr.cell? ⟨g, off, none⟩ = some (I6 x) ∧ wr.cell? ⟨g, off + 1, none⟩ = some (I6 y)) ∧ wr.heap[B]? = some (.cells #[I6 k0, I6 ax, I6 ay, I6 0, I6 0, I6 cx, I6 cy] 123 (0, 0)) ∧ (k0 = 0 ∨ k0 = 2 ∨ k0 = 3) ∧ g ≠ B ∧ (⟨if hit = 2 then 1 else 2 + (hit : Int), ⟨ax, ay⟩, ⟨x, y⟩, if hit = 2 then ⟨0, 0⟩ else ⟨ax + i, ay + j⟩⟩ : Pl.Ed) = ⟨if k0 = 0 then 1 else k0, ⟨ax, ay⟩, ⟨x, y⟩, ⟨cx, cy⟩⟩ := by
    rcases HALT.out with ⟨h2h, h5, h6, hbb, hk5⟩ | ⟨h2h, h6, ao3, cap3, h5, hl3, hg3, hbb⟩
    ·have hh2 : hit = 2 := by omega
     have hbt : b6 = true := by
      cases b6 with
      | true => rfl
      | false => exact absurd ⟨rfl, hh2⟩ hbad
     obtain ⟨ao, cap, hz, hl, hf⟩ := HZ5.out hbt
     obtain ⟨g, off, rfl, hg, hc, c1, c2⟩ := two_at (hl.keep (K5.out.trans hk5))
     refine ⟨g, off, 2, cap, 0, 0, 0, by rw [h5, hz], by omega, hc, by rw [h6, hbt], hg, ⟨c1, c2⟩, hbb, .inl rfl, ?_, by rw [if_pos hh2, if_pos hh2]; rfl⟩
     have := hf _ rfl
     dsimp only at this
     omega
    ·obtain ⟨g, off, rfl, hg, hc, c1, c2, _, _⟩ := four_at hl3
     refine ⟨g, off, 4, cap3, 2 + (hit : Int), ax + i, ay + j, h5, by omega, hc, h6, hg, ⟨c1, c2⟩, hbb, by omega, hg3 _ rfl, by rw [if_neg (by omega), if_neg (by omega), if_neg (by omega)]⟩
   obtain ⟨g, off, len, cap, k0, cx, cy, h5, hlen, hcap, h6, hg, ⟨cx0, cy0⟩, hbb, hk0, hgB, hed⟩ := HU; subst h5; subst h6
   obtain ⟨k9, hk9⟩ : ∃ q : Int, (if k0 = 0 then 1 else k0) = q := ⟨_, rfl⟩
   rw [hk9] at hed; have HX1 : Hid (x0 = if Pl.chkE ⟨k9, ⟨ax, ay⟩, ⟨x, y⟩, ⟨cx, cy⟩⟩ = 0 then .inl ⟨5, tools, sel, f, t, pl, ⟨x, y⟩, es ++ [⟨k9, ⟨ax, ay⟩, ⟨x, y⟩, ⟨cx, cy⟩⟩], out⟩ else .inr (Pl.chkE ⟨k9, ⟨ax, ay⟩, ⟨x, y⟩, ⟨cx, cy⟩⟩)) := oh (by rw [HX0.out, if_neg hbad, hed])
   have HB := oh hbb; have hln0 : 0 < len := by omega
   have hln1 : (1 : Int) < (len : Int) := by omega
   have hBr : B < wr.heap.size := lt_of_block hbb
   have HGB := oh hgB; clear HALT hbad hed hbb hgB HZ5
   have hk90 : (k0 = 0 ∧ k9 = 1) ∨ (k0 = 2 ∧ k9 = 2) ∨ (k0 = 3 ∧ k9 = 3) := by
    rcases hk0 with rfl | rfl | rfl
    ·exact .inl ⟨rfl, hk9.symm⟩
    ·exact .inr (.inl ⟨rfl, hk9.symm⟩)
    ·exact .inr (.inr ⟨rfl, hk9.symm⟩)
   have HMX : Hid (∀ V, (Builtin.max_ #[3, 3] 3 #[I6 k0, I6 1]).run Tryz.prog V = .ok (I6 k9) V) := oh fun V => by
    rcases hk90 with ⟨rfl, rfl⟩ | ⟨rfl, rfl⟩ | ⟨rfl, rfl⟩ <;> rfl
   clear hk0 hk9 hk90; go_upto_region 13 with (go_at_call 100; refine (need_yes _ _).mono ?_; rintro e w' ⟨rfl, rfl⟩)
   have HCA : Hid (∀ V, Kp wr V (some B) → V.cell? ⟨g, off, none⟩ = some (I6 x) ∧ V.cell? ⟨g, off + 1, none⟩ = some (I6 y)) := oh fun V k => ⟨(k.cell_far ⟨g, off, none⟩ hg (fun e => HGB.out (Option.some.inj e))).trans cx0, (k.cell_far ⟨g, off + 1, none⟩ hg (fun e => HGB.out (Option.some.inj e))).trans cy0⟩
   have KD : Hid (Kp wr wr.drew (some B)) := oh (Kp.refl _ _).drew
   have HRv := oh (blk HR.out (Kp.refl _ none).drew)
   have HBv := oh (blk HB.out (Kp.refl _ none).drew)
   have KWv : Hid (Kp w wr.drew none) := oh HK.out.drew
   clear cx0 cy0 HR HB; refine wp_region_last (fun V => V.cell? ⟨g, off, none⟩ = some (I6 x) ∧ V.cell? ⟨g, off + 1, none⟩ = some (I6 y)) 13 (by kernel_rfl) ?_ (fun eh => ?_)
   ·exact HCA.out _ KD.out
   generalize wr.drew = Y at *
   refine tjL 3 rfl ?_; refine tjL 4 rfl ?_; refine tjL 5 rfl ?_; refine tjL 6 rfl ?_; refine tjL 7 rfl ?_; refine tjL 8 rfl ?_; refine tjL 9 rfl ?_; refine tjL 0 rfl ?_
   have hx0 : Y.cell? ⟨B, 0, none⟩ = some (I6 k0) := hcell HBv.out 0 rfl
   have hmx := HMX.out; refine rdL 1 rfl (fun K hK => ?_); have gS := eh; clear eh; go_simp; try go_wp2_with fail
   refine hK.out _ _ (gS) (fun eh => ?_)
   clear hK K gS; try simp only [Act.put, sm]
   clear hx0; refine tjL 2 rfl ?_; refine tjL 10 rfl ?_
   have f0 := fz HBv.out 0
   have c0 : Y.cell? ⟨B, 0, none⟩ = some (I6 k0) := hcell HBv.out 0 rfl
   refine rdL 11 rfl (fun K hK => ?_); clear eh; go_simp; try go_wp2_with fail
   have hbq : (Y.setCell ⟨B, 0, none⟩ (I6 k9)).heap[B]? = some (.cells #[I6 k9, I6 ax, I6 ay, I6 0, I6 0, I6 cx, I6 cy] 123 (0, 0)) := heap_set HBv.out
   have HBq := oh hbq; have ks : Kp Y (Y.setCell ⟨B, 0, none⟩ (I6 k9)) (some B) := (Kp.refl Y (some B)).set _
   have HRq := oh (res_kept HRv.out ks (fun q hq => by injection hq with hq; omega))
   have KS := oh (KD.out.trans ks); have KWq := oh (KWv.out.of_own ks HBw.out)
   refine hK.out _ _ (HCA.out _ KS.out) (fun eh => ?_)
   clear hK K f0 c0 hbq ks HRv HBv KWv KD hmx
   generalize Y.setCell ⟨B, 0, none⟩ (I6 k9) = Z at *
   try simp only [Act.put, sm]
   refine tjL 12 rfl ?_; refine rdE rfl (fun K hK => ?_)
   have f3 := fz HBq.out 3
   have f4 := fz HBq.out 4
   have c3 : Z.cell? ⟨B, 3, none⟩ = some (I6 0) := hcell HBq.out 3 rfl
   have c4 : Z.cell? ⟨B, 4, none⟩ = some (I6 0) := hcell HBq.out 4 rfl
   clear eh; go_simp; try go_wp2_with fail
   refine hK.out _ _ ?_
   clear hK K f3 f4 c3 c4; try simp only [Act.put, sm]
   refine wpAnyL_done (by kernel_rfl) ?_ _
   have kz : Kp Z ((Z.setCell ⟨B, 3, none⟩ (I6 x)).setCell ⟨B, 4, none⟩ (I6 y)) (some B) := ((Kp.refl Z (some B)).set _).set _
   have hbz : ((Z.setCell ⟨B, 3, none⟩ (I6 x)).setCell ⟨B, 4, none⟩ (I6 y)).heap[B]? = some (.cells #[I6 k9, I6 ax, I6 ay, I6 x, I6 y, I6 cx, I6 cy] 123 (0, 0)) := heap_set (heap_set HBq.out)
   have HEz := oh hbz; have HRz := oh (res_kept HRq.out kz (fun q hq => by injection hq with hq; omega))
   have KWz := oh (KWq.out.of_own kz HBw.out); clear kz hbz HRq HBq KWq KS HCA
   generalize (Z.setCell ⟨B, 3, none⟩ (I6 x)).setCell ⟨B, 4, none⟩ (I6 y) = wF at *
   have y0 := hcell HEz.out 0 rfl
   have y1 := hcell HEz.out 1 rfl
   have y2 := hcell HEz.out 2 rfl
   have y3 := hcell HEz.out 3 rfl
   have y4 := hcell HEz.out 4 rfl
   have y5 := hcell HEz.out 5 rfl
   have y6 := hcell HEz.out 6 rfl
   have HCK := oh (fun V => check_any (⟨k9, ⟨ax, ay⟩, ⟨x, y⟩, ⟨cx, cy⟩⟩ : Pl.Ed) V)
   obtain ⟨c, hc⟩ : ∃ c, Pl.chkE (⟨k9, ⟨ax, ay⟩, ⟨x, y⟩, ⟨cx, cy⟩⟩ : Pl.Ed) = c := ⟨_, rfl⟩
   rw [hc] at HX1 HCK; have HCK2 : Hid (∀ V, Calls Tryz.prog 144 #[.agg #[I6 k9, I6 ax, I6 ay, I6 x, I6 y, I6 cx, I6 cy]] V fun E w' => E = .returned (I6 c) ∧ Kp V w' none) := oh HCK.out
   clear hc HCK
   by_cases hcz : c = 0
   ·subst hcz; have HX2 : Hid (x0 = .inl ⟨5, tools, sel, f, t, pl, ⟨x, y⟩, es ++ [(⟨k9, ⟨ax, ay⟩, ⟨x, y⟩, ⟨cx, cy⟩⟩ : Pl.Ed)], out⟩) := oh HX1.out
    go_upto_region 15 with (first | (go_at_call 144; refine (HCK2.out _).mono ?_; rintro E w8 ⟨rfl, k8⟩; have K8 := oh k8; clear k8) | (go_at_call 253; refine (fine_yes _).mono ?_; rintro E w9 ⟨rfl, k9'⟩; have K9 := oh (K8.out.trans k9'); clear k9'))
    clear y0 y1 y2 y3 y4 y5 y6 HX1; have kd := K9.out.trans (Kp.refl _ none).drew
    have HR0 : Hid (w9.drew.heap[R]? = some (.cells (RC 5 m ⟨5, tools, sel, f, t, pl, ⟨ax, ay⟩, es, out⟩ eu ov) 117 (0, 0))) := oh (by rw [HRCS.out]; exact blk HRz.out kd)
    have HE0 := oh (blk HEz.out kd)
    have HRR0 := oh (HRR.out.keep (KWz.out.trans kd))
    clear kd HRz HEz; obtain ⟨i0, hi, hz0, hz1, hz2⟩ := info_parts infoEdge
    refine wp_region_last (fun V => V.cell? ⟨R, 11, none⟩ = some eu ∧ V.cell? ⟨B, 0, none⟩ = some (I6 k9) ∧ V.cell? ⟨B, 1, none⟩ = some (I6 ax) ∧ V.cell? ⟨B, 2, none⟩ = some (I6 ay) ∧ V.cell? ⟨B, 3, none⟩ = some (I6 x) ∧ V.cell? ⟨B, 4, none⟩ = some (I6 y) ∧ V.cell? ⟨B, 5, none⟩ = some (I6 cx) ∧ V.cell? ⟨B, 6, none⟩ = some (I6 cy)) 10 (by kernel_rfl) ?_ (fun eh => ?_)
    ·exact ⟨hcell HR0.out 11 rfl, hcell HE0.out 0 rfl, hcell HE0.out 1 rfl, hcell HE0.out 2 rfl, hcell HE0.out 3 rfl, hcell HE0.out 4 rfl, hcell HE0.out 5 rfl, hcell HE0.out 6 rfl⟩
    generalize w9.drew = Y2 at *
    refine tjL 0 rfl ?_; refine tjL 1 rfl ?_; refine tjL 2 rfl ?_; refine tjL 3 rfl ?_; refine tjL 4 rfl ?_; refine tjL 5 rfl ?_; refine rdL 6 rfl (fun K hK => ?_); clear eh; go_simp; try go_wp2_with fail
    have ka := (Kp.refl Y2 none).alloc (.cells #[I6 k9, I6 ax, I6 ay, I6 x, I6 y, I6 cx, I6 cy] 123)
    have HR1 := oh (blk HR0.out ka); have HE1 := oh (blk HE0.out ka); have HRR1 := oh (HRR0.out.keep ka)
    have HLS : Hid (IsList 7 edC (Y2.alloc (.cells #[I6 k9, I6 ax, I6 ay, I6 x, I6 y, I6 cx, I6 cy] 123)) (.slice (some ⟨Y2.heap.size, 0, none⟩) 1 1) [(⟨k9, ⟨ax, ay⟩, ⟨x, y⟩, ⟨cx, cy⟩⟩ : Pl.Ed)]) := oh (ed_list (w := Y2) (⟨k9, ⟨ax, ay⟩, ⟨x, y⟩, ⟨cx, cy⟩⟩ : Pl.Ed))
    have HSB : Hid (W.heap.size ≤ (Y2.alloc (.cells #[I6 k9, I6 ax, I6 ay, I6 x, I6 y, I6 cx, I6 cy] 123)).heap.size) := oh HRR1.out.kp.size
    refine hK.out _ _ ?_ (fun eh => ?_)
    ·exact ⟨hcell HR1.out 11 rfl, hcell HE1.out 0 rfl, hcell HE1.out 1 rfl, hcell HE1.out 2 rfl, hcell HE1.out 3 rfl, hcell HE1.out 4 rfl, hcell HE1.out 5 rfl, hcell HE1.out 6 rfl⟩
    clear hK K ka HR0 HE0 HRR0; try simp only [Act.put, sm]
    generalize Y2.alloc (.cells #[I6 k9, I6 ax, I6 ay, I6 x, I6 y, I6 cx, I6 cy] 123) = Z2 at *
    refine rdL 7 rfl (fun K hK => ?_); clear eh; refine step_app (f := edC) rfl (.tmp 95) (.tmp 97) W.heap.size 48 123 rfl i0 _ 7 56 Tryz.underlying48 hi hz0 hz1 hz2 rfl (by omega) (fun _ => rfl) ed_one eu es.length _ rfl HRR1.out.eo _ [(⟨k9, ⟨ax, ay⟩, ⟨x, y⟩, ⟨cx, cy⟩⟩ : Pl.Ed)] rfl HLS.out (by unfold maxLen; simp; omega) (by simp; omega) HSB.out ?_
    intro v3 w3 ho hg2 hb2; obtain ⟨ea3, ec3, rfl⟩ := own_slice ho
    have HO3 := oh ho; have HG3 := oh hg2; have HV3 := oh hb2; have HR2 := oh (res_kept HR1.out hg2 (fun q hq e => own_not HRR1.out.eo HR1.out (by decide) (by rw [hq, e])))
    have HE2 := oh (res_kept HE1.out hg2 (fun q hq e => by
     have h1 := (HRR.out.eo.lt q hq).2
     have h2 := HBe.out; omega))
    clear ho hg2 hb2; try simp only [Act.put, sm]
    refine hK _ _ ?_ (fun eh => ?_)
    ·exact ⟨hcell HR2.out 11 rfl, hcell HE2.out 0 rfl, hcell HE2.out 1 rfl, hcell HE2.out 2 rfl, hcell HE2.out 3 rfl, hcell HE2.out 4 rfl, hcell HE2.out 5 rfl, hcell HE2.out 6 rfl⟩
    clear hK K; try simp only [Act.put, sm]
    refine rdL 8 rfl (fun K hK => ?_); clear eh; go_simp; try go_wp2_with fail
    refine hK.out _ _ ?_ (fun eh => ?_)
    ·exact ⟨hcell HR2.out 11 rfl, hcell HE2.out 0 rfl, hcell HE2.out 1 rfl, hcell HE2.out 2 rfl, hcell HE2.out 3 rfl, hcell HE2.out 4 rfl, hcell HE2.out 5 rfl, hcell HE2.out 6 rfl⟩
    clear hK K; try simp only [Act.put, sm]
    refine tjL 9 rfl ?_; refine rdE rfl (fun K hK => ?_)
    have f3 := fz HR2.out 11
    have c3 : w3.cell? ⟨R, 11, none⟩ = some eu := hcell HR2.out 11 rfl
    clear eh; go_simp; try go_wp2_with fail
    refine hK.out _ _ ?_
    clear hK K; try simp only [Act.put, sm]
    refine wpAnyL_done (by kernel_rfl) ?_ _
    clear f3 c3; have HRH : Hid (RdRest W L R m tools (es ++ [(⟨k9, ⟨ax, ay⟩, ⟨x, y⟩, ⟨cx, cy⟩⟩ : Pl.Ed)]) ts (.slice ea3 (es.length + [(⟨k9, ⟨ax, ay⟩, ⟨x, y⟩, ⟨cx, cy⟩⟩ : Pl.Ed)].length) ec3) ov w3) := oh (HRR1.out.edges HG3.out (by rw [List.length_append, List.flatMap_append]; exact HO3.out) HV3.out)
    have hb4 : (w3.setCell ⟨R, 11, none⟩ (.slice ea3 (es.length + [(⟨k9, ⟨ax, ay⟩, ⟨x, y⟩, ⟨cx, cy⟩⟩ : Pl.Ed)].length) ec3)).heap[R]? = some (.cells (RC 5 m ⟨5, tools, sel, f, t, pl, ⟨ax, ay⟩, es, out⟩ (.slice ea3 (es.length + [(⟨k9, ⟨ax, ay⟩, ⟨x, y⟩, ⟨cx, cy⟩⟩ : Pl.Ed)].length) ec3) ov) 117 (0, 0)) := heap_set HR2.out
    have ks4 : Kp w3 (w3.setCell ⟨R, 11, none⟩ (.slice ea3 (es.length + [(⟨k9, ⟨ax, ay⟩, ⟨x, y⟩, ⟨cx, cy⟩⟩ : Pl.Ed)].length) ec3)) (some R) := (Kp.refl w3 (some R)).set _
    have HF := oh (HRH.out.set ks4 hb4)
    have HE4 := oh (res_kept HE2.out ks4 (fun q hq => by injection hq with hq; omega))
    have HB4 := oh hb4; clear hb4 ks4 HRH HO3 HG3 HR2 HE2 HR1 HE1 HRR1 HLS HV3
    generalize w3.setCell ⟨R, 11, none⟩ (.slice ea3 (es.length + [(⟨k9, ⟨ax, ay⟩, ⟨x, y⟩, ⟨cx, cy⟩⟩ : Pl.Ed)].length) ec3) = wG at *
    have y3 := hcell HE4.out 3 rfl
    have y4 := hcell HE4.out 4 rfl
    have d9 : wG.cell? ⟨R, 9, none⟩ = some (I6 ax) := hcell HB4.out 9 rfl
    have d10 : wG.cell? ⟨R, 10, none⟩ = some (I6 ay) := hcell HB4.out 10 rfl
    have f9 := fz HB4.out 9
    have f10 := fz HB4.out 10
    go_wp2_with fail
    go_end0
    have hb9 : ((wG.setCell ⟨R, 9, none⟩ (I6 x)).setCell ⟨R, 10, none⟩ (I6 y)).heap[R]? = some (.cells (RC 5 m ⟨5, tools, sel, f, t, pl, ⟨x, y⟩, es ++ [(⟨k9, ⟨ax, ay⟩, ⟨x, y⟩, ⟨cx, cy⟩⟩ : Pl.Ed)], out⟩ (.slice ea3 (es.length + [(⟨k9, ⟨ax, ay⟩, ⟨x, y⟩, ⟨cx, cy⟩⟩ : Pl.Ed)].length) ec3) ov) 117 (0, 0)) := heap_set (heap_set HB4.out)
    exact step_inl HX2.out ⟨_, ov, ts, HT.out, hb9, HF.out.set (((Kp.refl _ (some R)).set _).set _) hb9⟩
   ·have HZ := oh hcz; have HX2 : Hid (x0 = .inr c) := oh (by rw [HX1.out, if_neg hcz])
    clear hcz HX1
    go_upto_region 15 with (first | (go_at_call 144; refine (HCK2.out _).mono ?_; rintro E w8 ⟨rfl, k8⟩; have K8 := oh k8; clear k8) | (go_at_call 253; refine (fine_no c _ HZ.out).mono ?_; rintro E w9 ⟨rfl, k9'⟩; have K9 := oh (K8.out.trans k9'); clear k9'))
    exact ⟨rfl, step_inr HX2.out (HRR.out.kl.trans (KWz.out.trans K9.out))⟩
end Go.Proofs.YtljjbdbgedmadaaGreatDoor
