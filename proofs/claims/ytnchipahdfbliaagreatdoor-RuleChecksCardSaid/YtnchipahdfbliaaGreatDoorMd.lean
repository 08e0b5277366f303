/- The rules that numbers make. Conditions: a list of numbers of a machine's length. -/
import Derived.Test.YtnchipahdfbliaaGreatDoorCd
import Derived.Test.YtnchipahdfbliaaGreatDoorSh
import Derived.Test.YtnchipahdfbliaaGreatDoorRuE
namespace Go.Proofs.YtnchipahdfbliaaGreatDoor
open Go.RowKit

/-- What made rules are. -/
def MadeIs (w : World) (e : Ending) (w' : World) : Prop := ∃ (qs : List RV) (ao : Option Addr) (p : Nat), e = .returned (.slice ao qs.length p) ∧ LiesAt 20 rC w' ao p qs ∧ (∀ q ∈ qs, q.Tree w') ∧ (∀ q ∈ qs, Ru.Good q.r) ∧ (qs.map (·.r)).map (·.name) = Ru.names4.take qs.length ∧ qs.length ≤ 4 ∧ Kp w w' none
def prio4 : List Int := [0, 1, 2, 1000]
theorem names_cell (k : Nat) (hk : k < 4) : (#[.string ⟨#[99, 49]⟩, .string ⟨#[114, 117, 108, 101]⟩, .string ⟨#[119, 45, 50]⟩, .string ⟨#[43, 101]⟩] : Array Value)[k]? = some (str (Ru.names4.getD k [])) := by
 have : k = 0 ∨ k = 1 ∨ k = 2 ∨ k = 3 := by omega
 rcases this with rfl | rfl | rfl | rfl <;> rfl
theorem prio_cell (k : Nat) (hk : k < 4) : (#[.int .i64 0, .int .i64 1, .int .i64 2, .int .i64 1000] : Array Value)[k]? = some (.int .i64 (prio4.getD k 0)) := by
 have : k = 0 ∨ k = 1 ∨ k = 2 ∨ k = 3 := by omega
 rcases this with rfl | rfl | rfl | rfl <;> rfl
theorem prio_range (k : Nat) : 0 ≤ prio4.getD k 0 ∧ prio4.getD k 0 ≤ 1000 := by
 match k with
 | 0 => decide
 | 1 => decide
 | 2 => decide
 | 3 => decide
 | k + 4 => simp [prio4]
theorem names_name (k : Nat) (hk : k < 4) : Ru.nameR (Ru.names4.getD k []) = true := by
 have : k = 0 ∨ k = 1 ∨ k = 2 ∨ k = 3 := by omega
 rcases this with rfl | rfl | rfl | rfl <;> decide
theorem names_step (k : Nat) (hk : k < 4) : Ru.names4.take (k + 1) = Ru.names4.take k ++ [Ru.names4.getD k []] := by
 have : k = 0 ∨ k = 1 ∨ k = 2 ∨ k = 3 := by omega
 rcases this with rfl | rfl | rfl | rfl <;> rfl
/-- What holds in the region that builds a rule, whichever operations are done. -/
structure M7 (W7 : World) (D : Nat) (lo : Option Addr) (n cap k : Nat) (d : Nat → Bool) (w : World) (z18 z20 z21 z22 z24 z25 z26 z28 z29 z31 z33 z35 z7 : Value) (bR : Nat) : Prop where
 kp : Kp W7 w (some D)
 dr : DrawAt D lo n cap w
 f0 : d 0 = true → ∃ b, z18 = .slice (some ⟨b, 0, none⟩) 4 4 ∧ w.heap[b]? = some (.cells #[.string ⟨#[99, 49]⟩, .string ⟨#[114, 117, 108, 101]⟩, .string ⟨#[119, 45, 50]⟩, .string ⟨#[43, 101]⟩] 9 (0, 0)) ∧ W7.heap.size ≤ b
 f2 : d 2 = true → ∃ b, z20 = .pointer (some ⟨b, k, none⟩) ∧ w.heap[b]? = some (.cells #[.string ⟨#[99, 49]⟩, .string ⟨#[114, 117, 108, 101]⟩, .string ⟨#[119, 45, 50]⟩, .string ⟨#[43, 101]⟩] 9 (0, 0)) ∧ W7.heap.size ≤ b
 f3 : d 3 = true → z21 = str (Ru.names4.getD k [])
 f4 : d 4 = true → ∃ b, z22 = .slice (some ⟨b, 0, none⟩) 4 4 ∧ w.heap[b]? = some (.cells #[.int .i64 0, .int .i64 1, .int .i64 2, .int .i64 1000] 3 (0, 0)) ∧ W7.heap.size ≤ b
 f6 : d 6 = true → ∃ j : Nat, z24 = .int .i64 (j : Int) ∧ j < 4
 f7 : d 7 = true → ∃ b j : Nat, z25 = .pointer (some ⟨b, j, none⟩) ∧ j < 4 ∧ w.heap[b]? = some (.cells #[.int .i64 0, .int .i64 1, .int .i64 2, .int .i64 1000] 3 (0, 0)) ∧ W7.heap.size ≤ b
 f8 : d 8 = true → ∃ j : Nat, z26 = .int .i64 (prio4.getD j 0)
 f10 : d 10 = true → ∃ x : Int, z28 = .int .i64 x ∧ 0 ≤ x ∧ x < 4
 f11 : d 11 = true → ∃ x : Int, z29 = .int .i64 x ∧ 1 ≤ x ∧ x ≤ 4
 f13 : d 13 = true → ∃ x : Int, z31 = .int .i64 x ∧ 0 ≤ x ∧ x < 40
 f15 : d 15 = true → ∃ (c : Ru.Cond) (a : Option Addr) (m p : Nat), z33 = .agg #[.int .i64 c.op, str c.text, .int .i64 c.n, .int .i64 c.box.x0, .int .i64 c.box.y0, .int .i64 c.box.x1, .int .i64 c.box.y1, .slice a m p] ∧ TreeP (fun q => W7.heap.size ≤ q ∧ (d 18 = true → q ≠ bR)) w c (.slice a m p) ∧ Ru.right c = true ∧ Ru.size c ≤ 13
 f17 : d 17 = true → ∃ (j : Nat) (wh va : Int) (c : Ru.Cond) (a : Option Addr) (m p : Nat), z35 = .agg #[str (Ru.names4.getD k []), .int .i64 (prio4.getD j 0), .int .i64 wh, .int .i64 c.op, str c.text, .int .i64 c.n, .int .i64 c.box.x0, .int .i64 c.box.y0, .int .i64 c.box.x1, .int .i64 c.box.y1, .slice a m p, .int .i64 1, .string ⟨#[]⟩, .int .i64 0, .int .i64 0, .int .i64 0, .int .i64 0, .int .i64 0, .slice none 0 0, .int .i64 va] ∧ (1 ≤ wh ∧ wh ≤ 4) ∧ (0 ≤ va ∧ va < 40) ∧ TreeP (fun q => W7.heap.size ≤ q ∧ (d 18 = true → q ≠ bR)) w c (.slice a m p) ∧ Ru.right c = true ∧ Ru.size c ≤ 13
 f18 : d 18 = true → z7 = .pointer (some ⟨bR, 0, none⟩) ∧ W7.heap.size ≤ bR ∧ bR < w.heap.size ∧ w.heap[bR]? = some (.cells #[.string ⟨#[]⟩, .int .i64 0, .int .i64 0, .int .i64 0, .string ⟨#[]⟩, .int .i64 0, .int .i64 0, .int .i64 0, .int .i64 0, .int .i64 0, .slice none 0 0, .int .i64 0, .string ⟨#[]⟩, .int .i64 0, .int .i64 0, .int .i64 0, .int .i64 0, .int .i64 0, .slice none 0 0, .int .i64 0] 42 (0, 0))
/-- What holds when the rule is stored. -/
def F7 (W7 : World) (D : Nat) (lo : Option Addr) (n cap k : Nat) (w : World) (z7 : Value) : Prop := ∃ (bR j : Nat) (wh va : Int) (c : Ru.Cond) (a : Option Addr) (m p : Nat), z7 = .pointer (some ⟨bR, 0, none⟩) ∧ W7.heap.size ≤ bR ∧ w.heap[bR]? = some (.cells #[str (Ru.names4.getD k []), .int .i64 (prio4.getD j 0), .int .i64 wh, .int .i64 c.op, str c.text, .int .i64 c.n, .int .i64 c.box.x0, .int .i64 c.box.y0, .int .i64 c.box.x1, .int .i64 c.box.y1, .slice a m p, .int .i64 1, .string ⟨#[]⟩, .int .i64 0, .int .i64 0, .int .i64 0, .int .i64 0, .int .i64 0, .slice none 0 0, .int .i64 va] 42 (0, 0)) ∧ (1 ≤ wh ∧ wh ≤ 4) ∧ (0 ≤ va ∧ va < 40) ∧ TreeP (fun q => W7.heap.size ≤ q ∧ q ≠ bR) w c (.slice a m p) ∧ Ru.right c = true ∧ Ru.size c ≤ 13 ∧ Kp W7 w (some D) ∧ DrawAt D lo n cap w
theorem M7.keep {W7 : World} {D : Nat} {lo : Option Addr} {n cap k : Nat} {d : Nat → Bool} {w w' : World} {z18 z20 z21 z22 z24 z25 z26 z28 z29 z31 z33 z35 z7 : Value} {bR : Nat} (h : M7 W7 D lo n cap k d w z18 z20 z21 z22 z24 z25 z26 z28 z29 z31 z33 z35 z7 bR) (hk : Kp w w' (some D)) (hd : DrawAt D lo n cap w') (hD : D < W7.heap.size) :
  M7 W7 D lo n cap k d w' z18 z20 z21 z22 z24 z25 z26 z28 z29 z31 z33 z35 z7 bR := by
 have kb : ∀ {b : Nat} {o : Obj}, w.heap[b]? = some o → W7.heap.size ≤ b → w'.heap[b]? = some o := fun hb h1 => res_kept hb hk (fun q hq e => by injection hq with hq; omega)
 have kt : ∀ {S : Nat → Prop} {c : Ru.Cond} {v : Value}, (∀ b, S b → W7.heap.size ≤ b) → TreeP S w c v → TreeP S w' c v := fun hS ht => ht.row hk (fun r hr hs => by injection hr with hr; have := hS _ hs; omega)
 refine ⟨h.kp.trans hk, hd, fun e => ?_, fun e => ?_, h.f3, fun e => ?_, h.f6, fun e => ?_, h.f8, h.f10, h.f11, h.f13, fun e => ?_, fun e => ?_, fun e => ?_⟩
 ·obtain ⟨b, e1, h1, h2⟩ := h.f0 e
  exact ⟨b, e1, kb h1 h2, h2⟩
 ·obtain ⟨b, e1, h1, h2⟩ := h.f2 e
  exact ⟨b, e1, kb h1 h2, h2⟩
 ·obtain ⟨b, e1, h1, h2⟩ := h.f4 e
  exact ⟨b, e1, kb h1 h2, h2⟩
 ·obtain ⟨b, j, e1, h0, h1, h2⟩ := h.f7 e
  exact ⟨b, j, e1, h0, kb h1 h2, h2⟩
 ·obtain ⟨c, a, m, p, e1, ht, h1, h2⟩ := h.f15 e
  exact ⟨c, a, m, p, e1, kt (fun _ hb => hb.1) ht, h1, h2⟩
 ·obtain ⟨j, wh, va, c, a, m, p, e1, h3, h4, ht, h1, h2⟩ := h.f17 e
  exact ⟨j, wh, va, c, a, m, p, e1, h3, h4, kt (fun _ hb => hb.1) ht, h1, h2⟩
 ·obtain ⟨e1, h1, h2, h3⟩ := h.f18 e
  exact ⟨e1, h1, Nat.lt_of_lt_of_le h2 hk.size, kb h3 h1⟩
theorem M7.start {W7 : World} {D : Nat} {lo : Option Addr} {n cap k : Nat} {d : Nat → Bool} (hD : DrawAt D lo n cap W7) (h : ∀ i, d i = true → i = 1 ∨ i = 5 ∨ i = 9 ∨ i = 12 ∨ i = 14 ∨ i = 16) (z18 z20 z21 z22 z24 z25 z26 z28 z29 z31 z33 z35 z7 : Value) : M7 W7 D lo n cap k d W7 z18 z20 z21 z22 z24 z25 z26 z28 z29 z31 z33 z35 z7 0 :=
 ⟨Kp.refl _ _, hD, fun e => absurd (h _ e) (by decide), fun e => absurd (h _ e) (by decide), fun e => absurd (h _ e) (by decide), fun e => absurd (h _ e) (by decide), fun e => absurd (h _ e) (by decide), fun e => absurd (h _ e) (by decide), fun e => absurd (h _ e) (by decide), fun e => absurd (h _ e) (by decide), fun e => absurd (h _ e) (by decide), fun e => absurd (h _ e) (by decide), fun e => absurd (h _ e) (by decide), fun e => absurd (h _ e) (by decide), fun e => absurd (h _ e) (by decide)⟩

theorem start_done {done : Array Bool} (hs : done.size = 20) (hb : ((List.range 20).all fun i => !done.getD i false || (i == 1 || i == 5 || i == 9 || i == 12 || i == 14 || i == 16)) = true) (i : Nat) (h : done.getD i false = true) : i = 1 ∨ i = 5 ∨ i = 9 ∨ i = 12 ∨ i = 14 ∨ i = 16 := by
 rcases Nat.lt_or_ge i done.size with hi | hi
 ·have := List.all_eq_true.1 hb i (by simp; omega)
  rw [h] at this
  simpa [or_assoc] using this
 ·simp [Array.getElem?_eq_none hi] at h

set_option maxHeartbeats 16000000 in
set_option maxRecDepth 100000 in
theorem made_any (l : List Int) (n : Nat) (lo : Option Addr) (cap : Nat) (w : World) (hl : LiesAt 1 intVal w lo cap l) (hn : l.length = n) (hn2 : LenOk n) : Calls Tryz.prog 10 #[.slice lo n cap] w (MadeIs w) := by
 have HL := Lib.hid hl
 have HN := Lib.hid hn
 have k1 : Kp w (w.alloc (.cells #[.slice lo n cap, .int .i64 0] 59)) none := (Kp.refl _ _).alloc _
 have hd1 : DrawAt w.heap.size lo n cap (w.alloc (.cells #[.slice lo n cap, .int .i64 0] 59)) := ⟨0, heap_alloc_new w _, Nat.zero_le _⟩
 obtain ⟨D, hDD⟩ : ∃ D, w.heap.size = D := ⟨_, rfl⟩
 have HNX : Hid (∀ (V : World) (m : Int), Kp w V none → DrawAt D lo n cap V → 0 < m → m ≤ 1000000 → Calls Tryz.prog 29 #[.pointer (some ⟨D, 0, none⟩), .int .i64 m] V (Drew D lo n cap V m)) := Lib.hid fun V m h1 h2 h3 h4 => draw_any l n hn D lo cap m w V hl (by omega) h1 h2 h3 h4 hn2
 have HCD : Hid (∀ (V : World), Kp w V none → DrawAt D lo n cap V → Calls Tryz.prog 23 #[.pointer (some ⟨D, 0, none⟩), .int .i64 2] V (Made1 D lo n cap 13 V)) := Lib.hid fun V h1 h2 => cond_made n D lo cap w (by omega) (fun v m h1 h2 h3 h4 => draw_any l n hn D lo cap m w v hl (by omega) h1 h2 h3 h4 hn2) 2 (by omega) V h1 h2
 have z1 : (w.alloc (.cells #[.slice lo n cap, .int .i64 0] 59)).heap.size = D + 1 := by simp [hDD]
 rw [hDD] at hd1
 have c1 := HNX.out _ 5 k1 hd1 (by omega) (by omega)
 have HK1 := Lib.hid k1
 have HDD := Lib.hid hDD
 generalize hW1 : w.alloc (.cells #[.slice lo n cap, .int .i64 0] 59) = W1 at *
 clear hl hn k1 hd1 HL HN hn2
 go_enter Tryz.func10, Tryz.ntmps10
 go_wp2_with fail
 try rw [hW1, hDD]
 clear hW1 hDD
 refine c1.mono ?_
 rintro e w2 ⟨mv, rfl, hmv, hd2, hk2⟩
 obtain ⟨many, rfl⟩ : ∃ t : Nat, mv = (t : Int) := ⟨mv.toNat, by omega⟩
 have hm4 : many ≤ 4 := by omega
 have HD2 := Lib.hid hd2
 have HK2 := Lib.hid hk2
 have hz2 := hk2.size
 clear c1 hd2 hk2 hmv
 go_wp2_with fail
 go_loopw [4, 6] (fun lv i wr => ∃ (k : Nat) (qs : List RV), k ≤ many ∧ i = .int .i64 (k : Int) ∧ qs.length = k ∧ Hid (wr.ownsRow (D + 1) 42 20 lv qs.length (qs.flatMap rC)) ∧ Hid (∀ p ∈ qs, RTree (fun b => D + 1 ≤ b ∧ lv.ownBlock ≠ some b) wr p) ∧ Hid (∀ p ∈ qs, Ru.Good p.r) ∧ Hid ((qs.map (·.r)).map (·.name) = Ru.names4.take qs.length) ∧ Hid (DrawAt D lo n cap wr) ∧ Hid (Kp W1 wr (some D))) (fun _ i _ => many - (intOf i).toNat)
 case atStart => exact ⟨0, [], Nat.zero_le _, rfl, rfl, Lib.hid ⟨rfl, .inl ⟨rfl, rfl⟩⟩, Lib.hid (by simp), Lib.hid (by simp), Lib.hid (by simp), HD2, HK2⟩
 case round =>
  obtain ⟨k, qs, hk, rfl, hql, HOW, HT, HG, HNM, HDR, HKR⟩ := hrel
  have hk0 : (0 : Int) ≤ (k : Int) := by omega
  by_cases hlt : k < many
  ·have hk1 : (k : Int) < (many : Int) := by omega
   go_upto_region 7 with fail
   go_cut [7] from 18 to 36 (fun s7 wx => Hid (F7 wr.drew D lo n cap k wx s7))
   case first =>
    have hkD : Kp wr wr.drew none := (Kp.refl _ _).drew
    refine wp_region_held_drew (S := fun _ => True) (by kernel_rfl) trivial (fun hHeld => ?_)
    have HD7 := Lib.hid (HDR.out.kp hkD)
    have HK7 : Hid (Kp W1 wr.drew (some D)) := Lib.hid (HKR.out.trans (hkD.weak _))
    clear hkD
    generalize wr.drew = W7 at *
    refine tkH 1 rfl ?_
    try simp only [Act.put, sm]
    refine tkH 5 rfl ?_
    try simp only [Act.put, sm]
    refine tkH 9 rfl ?_
    try simp only [Act.put, sm]
    refine tkH 12 rfl ?_
    try simp only [Act.put, sm]
    refine tkH 14 rfl ?_
    try simp only [Act.put, sm]
    refine tkH 16 rfl ?_
    try simp only [Act.put, sm]
    have hk4 : k < 4 := by omega
    have hk04 : (k : Int) < 4 := by omega
    have hDW : D < W7.heap.size := HD7.out.lt
    have HNV : Hid (∀ (V : World) (m : Int), Kp W7 V (some D) → DrawAt D lo n cap V → 0 < m → m ≤ 1000000 → Calls Tryz.prog 29 #[.pointer (some ⟨D, 0, none⟩), .int .i64 m] V (Drew D lo n cap V m)) := Lib.hid fun V m hV hd h0 h1 => HNX.out V m (Kp.row HK1.out (HK7.out.trans hV) (fun r hr => by injection hr with hr; have := HDD.out; omega)) hd h0 h1
    have HCV : Hid (∀ (V : World), Kp W7 V (some D) → DrawAt D lo n cap V → Calls Tryz.prog 23 #[.pointer (some ⟨D, 0, none⟩), .int .i64 2] V (Made1 D lo n cap 13 V)) := Lib.hid fun V hV hd => HCD.out V (Kp.row HK1.out (HK7.out.trans hV) (fun r hr => by injection hr with hr; have := HDD.out; omega)) hd
    clear hHeld HOW HT HG HNM HDR HKR
    refine wpAnyH_inv (J := fun d a v => ∃ (z18 z20 z21 z22 z24 z25 z26 z28 z29 z31 z33 z35 z7 : Value) (bR : Nat), a = { tmps := #[.slice lo n cap, undef, .slice none 0 0, .pointer (some ⟨D, 0, none⟩), u4, .int .i64 (many : Int), .int .i64 (k : Int), z7, .slice lo n cap, .agg #[.slice lo n cap, .int .i64 0], .pointer (some ⟨D, 0, none⟩), .pointer (some ⟨D, 0, none⟩), .int .i64 (many : Int), .int .i64 (k : Int), .int .i64 (many : Int), .bool true, u16, u17, z18, .int .i64 (k : Int), z20, z21, z22, .pointer (some ⟨D, 0, none⟩), z24, z25, z26, .pointer (some ⟨D, 0, none⟩), z28, z29, .pointer (some ⟨D, 0, none⟩), z31, .pointer (some ⟨D, 0, none⟩), z33, .agg #[.int .i64 1, .string ⟨#[]⟩, .int .i64 0, .int .i64 0, .int .i64 0, .int .i64 0, .int .i64 0, .slice none 0 0], z35, u36, u37, u38, u39, u40, u41, u42, u43, u44, u45, u46, u47, u48, u49, u50, u51, u52, u53, u54, u55, undef], defers := [] } ∧ Hid (d 19 = false → M7 W7 D lo n cap k d v z18 z20 z21 z22 z24 z25 z26 z28 z29 z31 z33 z35 z7 bR) ∧ Hid (d 19 = true → F7 W7 D lo n cap k v z7) ∧ (d 1 = true ∧ d 5 = true ∧ d 9 = true ∧ d 12 = true ∧ d 14 = true ∧ d 16 = true)) (by kernel_rfl) rfl ⟨_, _, _, _, _, _, _, _, _, _, _, _, _, 0, rfl, Lib.hid (fun _ => M7.start HD7.out (fun i h => start_done (by kernel_rfl) (by kernel_rfl) i h) _ _ _ _ _ _ _ _ _ _ _ _ _), Lib.hid (fun h => absurd h (by decide)), by decide⟩ ?_ ?_
    refine Steps.cons (o := _) rfl (fun d a v hnd hwt hcl hJ K hK => ?_) ?_
    ·obtain ⟨z18, z20, z21, z22, z24, z25, z26, z28, z29, z31, z33, z35, z7, bR, rfl, HM, HF, htk⟩ := hJ
     have h19 : d 19 = false := by
      cases h : d 19 with
      | false => rfl
      | true => exact absurd (hcl 19 0 (by kernel_rfl) h) (by simp [hnd])
     have HM0 := Lib.hid (HM.out h19)
     have hv0 := HM0.out.kp.size
     go_simp
     have ka : Kp v (v.alloc (.cells #[.string ⟨#[99, 49]⟩, .string ⟨#[114, 117, 108, 101]⟩, .string ⟨#[119, 45, 50]⟩, .string ⟨#[43, 101]⟩] 9)) none := (Kp.refl _ _).alloc _
     have M := HM0.out.keep (ka.weak (some D)) (HM0.out.dr.kp ka) hDW
     refine hK.out _ _ ⟨_, _, _, _, _, _, _, _, _, _, _, _, _, bR, rfl, Lib.hid (fun _ => ?_), Lib.hid (fun h => absurd (h.symm.trans h19) (by decide)), htk⟩
     clear hK K
     exact ⟨M.kp, M.dr, fun _ => ⟨_, rfl, heap_alloc_new v _, hv0⟩, M.f2, M.f3, M.f4, M.f6, M.f7, M.f8, M.f10, M.f11, M.f13, M.f15, M.f17, M.f18⟩
    refine Steps.skip (fun d a w h => by
     obtain ⟨_, _, _, _, _, _, _, _, _, _, _, _, _, _, _, _, _, htk⟩ := h
     exact htk.1) ?_
    refine Steps.cons (o := _) rfl (fun d a v hnd hwt hcl hJ K hK => ?_) ?_
    ·obtain ⟨z18, z20, z21, z22, z24, z25, z26, z28, z29, z31, z33, z35, z7, bR, rfl, HM, HF, htk⟩ := hJ
     have h19 : d 19 = false := by
      cases h : d 19 with
      | false => rfl
      | true => exact absurd (hcl 19 2 (by kernel_rfl) h) (by simp [hnd])
     have HM0 := Lib.hid (HM.out h19)
     have hv0 := HM0.out.kp.size
     obtain ⟨b, rfl, hb, hb2⟩ := HM0.out.f0 (hwt 0 (by kernel_rfl))
     have HB := Lib.hid hb
     clear hb
     go_simp
     have M := HM0.out
     refine hK.out _ _ ⟨_, _, _, _, _, _, _, _, _, _, _, _, _, bR, rfl, Lib.hid (fun _ => ?_), Lib.hid (fun h => absurd (h.symm.trans h19) (by decide)), htk⟩
     clear hK K
     exact ⟨M.kp, M.dr, M.f0, fun _ => ⟨b, by simp, HB.out, hb2⟩, M.f3, M.f4, M.f6, M.f7, M.f8, M.f10, M.f11, M.f13, M.f15, M.f17, M.f18⟩
    refine Steps.cons (o := _) rfl (fun d a v hnd hwt hcl hJ K hK => ?_) ?_
    ·obtain ⟨z18, z20, z21, z22, z24, z25, z26, z28, z29, z31, z33, z35, z7, bR, rfl, HM, HF, htk⟩ := hJ
     have h19 : d 19 = false := by
      cases h : d 19 with
      | false => rfl
      | true => exact absurd (hcl 19 3 (by kernel_rfl) h) (by simp [hnd])
     have HM0 := Lib.hid (HM.out h19)
     have hv0 := HM0.out.kp.size
     obtain ⟨b, rfl, hb, hb2⟩ := HM0.out.f2 (hwt 2 (by kernel_rfl))
     have hc := hcell hb k (names_cell k hk4)
     clear hb
     go_simp
     have M := HM0.out
     refine hK.out _ _ ⟨_, _, _, _, _, _, _, _, _, _, _, _, _, bR, rfl, Lib.hid (fun _ => ?_), Lib.hid (fun h => absurd (h.symm.trans h19) (by decide)), htk⟩
     clear hK K
     exact ⟨M.kp, M.dr, M.f0, M.f2, fun _ => rfl, M.f4, M.f6, M.f7, M.f8, M.f10, M.f11, M.f13, M.f15, M.f17, M.f18⟩
    refine Steps.cons (o := _) rfl (fun d a v hnd hwt hcl hJ K hK => ?_) ?_
    ·obtain ⟨z18, z20, z21, z22, z24, z25, z26, z28, z29, z31, z33, z35, z7, bR, rfl, HM, HF, htk⟩ := hJ
     have h19 : d 19 = false := by
      cases h : d 19 with
      | false => rfl
      | true => exact absurd (hcl 19 4 (by kernel_rfl) h) (by simp [hnd])
     have HM0 := Lib.hid (HM.out h19)
     have hv0 := HM0.out.kp.size
     go_simp
     have ka : Kp v (v.alloc (.cells #[.int .i64 0, .int .i64 1, .int .i64 2, .int .i64 1000] 3)) none := (Kp.refl _ _).alloc _
     have M := HM0.out.keep (ka.weak (some D)) (HM0.out.dr.kp ka) hDW
     refine hK.out _ _ ⟨_, _, _, _, _, _, _, _, _, _, _, _, _, bR, rfl, Lib.hid (fun _ => ?_), Lib.hid (fun h => absurd (h.symm.trans h19) (by decide)), htk⟩
     clear hK K
     exact ⟨M.kp, M.dr, M.f0, M.f2, M.f3, fun _ => ⟨_, rfl, heap_alloc_new v _, hv0⟩, M.f6, M.f7, M.f8, M.f10, M.f11, M.f13, M.f15, M.f17, M.f18⟩
    refine Steps.skip (fun d a w h => by
     obtain ⟨_, _, _, _, _, _, _, _, _, _, _, _, _, _, _, _, _, htk⟩ := h
     exact htk.2.1) ?_
    refine Steps.cons (o := _) rfl (fun d a v hnd hwt hcl hJ K hK => ?_) ?_
    ·obtain ⟨z18, z20, z21, z22, z24, z25, z26, z28, z29, z31, z33, z35, z7, bR, rfl, HM, HF, htk⟩ := hJ
     have h19 : d 19 = false := by
      cases h : d 19 with
      | false => rfl
      | true => exact absurd (hcl 19 6 (by kernel_rfl) h) (by simp [hnd])
     have HM0 := Lib.hid (HM.out h19)
     have hv0 := HM0.out.kp.size
     have cN := HNV.out v 4 HM0.out.kp HM0.out.dr (by omega) (by omega)
     go_simp
     refine cN.mono ?_
     rintro e v1 ⟨x, rfl, hx, hd1, hk1⟩
     have M := HM0.out.keep hk1 hd1 hDW
     clear cN
     try go_wp2_with fail
     refine hK.out _ _ ⟨_, _, _, _, _, _, _, _, _, _, _, _, _, bR, rfl, Lib.hid (fun _ => ?_), Lib.hid (fun h => absurd (h.symm.trans h19) (by decide)), htk⟩
     clear hK K
     exact ⟨M.kp, M.dr, M.f0, M.f2, M.f3, M.f4, fun _ => ⟨x.toNat, by rw [Int.toNat_of_nonneg hx.1], by omega⟩, M.f7, M.f8, M.f10, M.f11, M.f13, M.f15, M.f17, M.f18⟩
    refine Steps.cons (o := _) rfl (fun d a v hnd hwt hcl hJ K hK => ?_) ?_
    ·obtain ⟨z18, z20, z21, z22, z24, z25, z26, z28, z29, z31, z33, z35, z7, bR, rfl, HM, HF, htk⟩ := hJ
     have h19 : d 19 = false := by
      cases h : d 19 with
      | false => rfl
      | true => exact absurd (hcl 19 7 (by kernel_rfl) h) (by simp [hnd])
     have HM0 := Lib.hid (HM.out h19)
     have hv0 := HM0.out.kp.size
     obtain ⟨b, rfl, hb, hb2⟩ := HM0.out.f4 (hwt 4 (by kernel_rfl))
     obtain ⟨j, rfl, hj⟩ := HM0.out.f6 (hwt 6 (by kernel_rfl))
     have HB := Lib.hid hb
     have hj0 : (0 : Int) ≤ (j : Int) := by omega
     have hj1 : (j : Int) < 4 := by omega
     clear hb
     go_simp
     have M := HM0.out
     refine hK.out _ _ ⟨_, _, _, _, _, _, _, _, _, _, _, _, _, bR, rfl, Lib.hid (fun _ => ?_), Lib.hid (fun h => absurd (h.symm.trans h19) (by decide)), htk⟩
     clear hK K
     exact ⟨M.kp, M.dr, M.f0, M.f2, M.f3, M.f4, M.f6, fun _ => ⟨b, j, by simp, hj, HB.out, hb2⟩, M.f8, M.f10, M.f11, M.f13, M.f15, M.f17, M.f18⟩
    refine Steps.cons (o := _) rfl (fun d a v hnd hwt hcl hJ K hK => ?_) ?_
    ·obtain ⟨z18, z20, z21, z22, z24, z25, z26, z28, z29, z31, z33, z35, z7, bR, rfl, HM, HF, htk⟩ := hJ
     have h19 : d 19 = false := by
      cases h : d 19 with
      | false => rfl
      | true => exact absurd (hcl 19 8 (by kernel_rfl) h) (by simp [hnd])
     have HM0 := Lib.hid (HM.out h19)
     have hv0 := HM0.out.kp.size
     obtain ⟨b, j, rfl, hj, hb, hb2⟩ := HM0.out.f7 (hwt 7 (by kernel_rfl))
     have hc := hcell hb j (prio_cell j hj)
     clear hb
     go_simp
     have M := HM0.out
     refine hK.out _ _ ⟨_, _, _, _, _, _, _, _, _, _, _, _, _, bR, rfl, Lib.hid (fun _ => ?_), Lib.hid (fun h => absurd (h.symm.trans h19) (by decide)), htk⟩
     clear hK K
     exact ⟨M.kp, M.dr, M.f0, M.f2, M.f3, M.f4, M.f6, M.f7, fun _ => ⟨j, rfl⟩, M.f10, M.f11, M.f13, M.f15, M.f17, M.f18⟩
    refine Steps.skip (fun d a w h => by
     obtain ⟨_, _, _, _, _, _, _, _, _, _, _, _, _, _, _, _, _, htk⟩ := h
     exact htk.2.2.1) ?_
    refine Steps.cons (o := _) rfl (fun d a v hnd hwt hcl hJ K hK => ?_) ?_
    ·obtain ⟨z18, z20, z21, z22, z24, z25, z26, z28, z29, z31, z33, z35, z7, bR, rfl, HM, HF, htk⟩ := hJ
     have h19 : d 19 = false := by
      cases h : d 19 with
      | false => rfl
      | true => exact absurd (hcl 19 10 (by kernel_rfl) h) (by simp [hnd])
     have HM0 := Lib.hid (HM.out h19)
     have hv0 := HM0.out.kp.size
     have cN := HNV.out v 4 HM0.out.kp HM0.out.dr (by omega) (by omega)
     go_simp
     refine cN.mono ?_
     rintro e v1 ⟨x, rfl, hx, hd1, hk1⟩
     have M := HM0.out.keep hk1 hd1 hDW
     clear cN
     try go_wp2_with fail
     refine hK.out _ _ ⟨_, _, _, _, _, _, _, _, _, _, _, _, _, bR, rfl, Lib.hid (fun _ => ?_), Lib.hid (fun h => absurd (h.symm.trans h19) (by decide)), htk⟩
     clear hK K
     exact ⟨M.kp, M.dr, M.f0, M.f2, M.f3, M.f4, M.f6, M.f7, M.f8, fun _ => ⟨x, rfl, hx.1, hx.2⟩, M.f11, M.f13, M.f15, M.f17, M.f18⟩
    refine Steps.cons (o := _) rfl (fun d a v hnd hwt hcl hJ K hK => ?_) ?_
    ·obtain ⟨z18, z20, z21, z22, z24, z25, z26, z28, z29, z31, z33, z35, z7, bR, rfl, HM, HF, htk⟩ := hJ
     have h19 : d 19 = false := by
      cases h : d 19 with
      | false => rfl
      | true => exact absurd (hcl 19 11 (by kernel_rfl) h) (by simp [hnd])
     have HM0 := Lib.hid (HM.out h19)
     have hv0 := HM0.out.kp.size
     obtain ⟨x, rfl, hx0, hx1⟩ := HM0.out.f10 (hwt 10 (by kernel_rfl))
     have hw : IntKind.i64.wrap (1 + x) = 1 + x := by rw [IntKind.wrap_i64]; omega
     go_simp
     have M := HM0.out
     refine hK.out _ _ ⟨_, _, _, _, _, _, _, _, _, _, _, _, _, bR, rfl, Lib.hid (fun _ => ?_), Lib.hid (fun h => absurd (h.symm.trans h19) (by decide)), htk⟩
     clear hK K
     exact ⟨M.kp, M.dr, M.f0, M.f2, M.f3, M.f4, M.f6, M.f7, M.f8, M.f10, fun _ => ⟨1 + x, by first | rfl | (rw [hw]), by omega, by omega⟩, M.f13, M.f15, M.f17, M.f18⟩
    refine Steps.skip (fun d a w h => by
     obtain ⟨_, _, _, _, _, _, _, _, _, _, _, _, _, _, _, _, _, htk⟩ := h
     exact htk.2.2.2.1) ?_
    refine Steps.cons (o := _) rfl (fun d a v hnd hwt hcl hJ K hK => ?_) ?_
    ·obtain ⟨z18, z20, z21, z22, z24, z25, z26, z28, z29, z31, z33, z35, z7, bR, rfl, HM, HF, htk⟩ := hJ
     have h19 : d 19 = false := by
      cases h : d 19 with
      | false => rfl
      | true => exact absurd (hcl 19 13 (by kernel_rfl) h) (by simp [hnd])
     have HM0 := Lib.hid (HM.out h19)
     have hv0 := HM0.out.kp.size
     have cN := HNV.out v 40 HM0.out.kp HM0.out.dr (by omega) (by omega)
     go_simp
     refine cN.mono ?_
     rintro e v1 ⟨x, rfl, hx, hd1, hk1⟩
     have M := HM0.out.keep hk1 hd1 hDW
     clear cN
     try go_wp2_with fail
     refine hK.out _ _ ⟨_, _, _, _, _, _, _, _, _, _, _, _, _, bR, rfl, Lib.hid (fun _ => ?_), Lib.hid (fun h => absurd (h.symm.trans h19) (by decide)), htk⟩
     clear hK K
     exact ⟨M.kp, M.dr, M.f0, M.f2, M.f3, M.f4, M.f6, M.f7, M.f8, M.f10, M.f11, fun _ => ⟨x, rfl, hx.1, hx.2⟩, M.f15, M.f17, M.f18⟩
    refine Steps.skip (fun d a w h => by
     obtain ⟨_, _, _, _, _, _, _, _, _, _, _, _, _, _, _, _, _, htk⟩ := h
     exact htk.2.2.2.2.1) ?_
    refine Steps.cons (o := _) rfl (fun d a v hnd hwt hcl hJ K hK => ?_) ?_
    ·obtain ⟨z18, z20, z21, z22, z24, z25, z26, z28, z29, z31, z33, z35, z7, bR, rfl, HM, HF, htk⟩ := hJ
     have h19 : d 19 = false := by
      cases h : d 19 with
      | false => rfl
      | true => exact absurd (hcl 19 15 (by kernel_rfl) h) (by simp [hnd])
     have HM0 := Lib.hid (HM.out h19)
     have hv0 := HM0.out.kp.size
     have cC := HCV.out v HM0.out.kp HM0.out.dr
     go_simp
     refine cC.mono ?_
     rintro e v1 ⟨c, a, m, p, rfl, ht, hr, hs, hd1, hk1⟩
     have M := HM0.out.keep hk1 hd1 hDW
     have HT := Lib.hid ht
     clear cC ht
     try go_wp2_with fail
     refine hK.out _ _ ⟨_, _, _, _, _, _, _, _, _, _, _, _, _, bR, rfl, Lib.hid (fun _ => ?_), Lib.hid (fun h => absurd (h.symm.trans h19) (by decide)), htk⟩
     clear hK K
     have hS : ∀ q, v.heap.size ≤ q → W7.heap.size ≤ q ∧ (d 18 = true → q ≠ bR) := fun q hq => ⟨by omega, fun h => by have := (HM0.out.f18 h).2.2.1; omega⟩
     exact ⟨M.kp, M.dr, M.f0, M.f2, M.f3, M.f4, M.f6, M.f7, M.f8, M.f10, M.f11, M.f13, fun _ => ⟨c, a, m, p, rfl, HT.out.mono (fun q _ hq => hS q hq), hr, hs⟩, M.f17, M.f18⟩
    refine Steps.skip (fun d a w h => by
     obtain ⟨_, _, _, _, _, _, _, _, _, _, _, _, _, _, _, _, _, htk⟩ := h
     exact htk.2.2.2.2.2) ?_
    refine Steps.cons (o := _) rfl (fun d a v hnd hwt hcl hJ K hK => ?_) ?_
    ·obtain ⟨z18, z20, z21, z22, z24, z25, z26, z28, z29, z31, z33, z35, z7, bR, rfl, HM, HF, htk⟩ := hJ
     have h19 : d 19 = false := by
      cases h : d 19 with
      | false => rfl
      | true => exact absurd (hcl 19 17 (by kernel_rfl) h) (by simp [hnd])
     have HM0 := Lib.hid (HM.out h19)
     have hv0 := HM0.out.kp.size
     have e3 := HM0.out.f3 (hwt 3 (by kernel_rfl))
     subst e3
     obtain ⟨j, rfl⟩ := HM0.out.f8 (hwt 8 (by kernel_rfl))
     obtain ⟨wh, rfl, hw1, hw2⟩ := HM0.out.f11 (hwt 11 (by kernel_rfl))
     obtain ⟨va, rfl, hv1, hv2⟩ := HM0.out.f13 (hwt 13 (by kernel_rfl))
     obtain ⟨c, a, m, p, rfl, ht, hr, hs⟩ := HM0.out.f15 (hwt 15 (by kernel_rfl))
     have HT := Lib.hid ht
     clear ht
     go_simp
     have M := HM0.out
     refine hK.out _ _ ⟨_, _, _, _, _, _, _, _, _, _, _, _, _, bR, rfl, Lib.hid (fun _ => ?_), Lib.hid (fun h => absurd (h.symm.trans h19) (by decide)), htk⟩
     clear hK K
     exact ⟨M.kp, M.dr, M.f0, M.f2, M.f3, M.f4, M.f6, M.f7, M.f8, M.f10, M.f11, M.f13, M.f15, fun _ => ⟨j, wh, va, c, a, m, p, rfl, ⟨hw1, hw2⟩, ⟨hv1, hv2⟩, HT.out, hr, hs⟩, M.f18⟩
    refine Steps.cons (o := _) rfl (fun d a v hnd hwt hcl hJ K hK => ?_) ?_
    ·obtain ⟨z18, z20, z21, z22, z24, z25, z26, z28, z29, z31, z33, z35, z7, bR, rfl, HM, HF, htk⟩ := hJ
     have h19 : d 19 = false := by
      cases h : d 19 with
      | false => rfl
      | true => exact absurd (hcl 19 18 (by kernel_rfl) h) (by simp [hnd])
     have HM0 := Lib.hid (HM.out h19)
     have hv0 := HM0.out.kp.size
     go_simp
     have ka : Kp v (v.alloc (.cells #[.string ⟨#[]⟩, .int .i64 0, .int .i64 0, .int .i64 0, .string ⟨#[]⟩, .int .i64 0, .int .i64 0, .int .i64 0, .int .i64 0, .int .i64 0, .slice none 0 0, .int .i64 0, .string ⟨#[]⟩, .int .i64 0, .int .i64 0, .int .i64 0, .int .i64 0, .int .i64 0, .slice none 0 0, .int .i64 0] 42)) none := (Kp.refl _ _).alloc _
     have M := HM0.out.keep (ka.weak (some D)) (HM0.out.dr.kp ka) hDW
     refine hK.out _ _ ⟨_, _, _, _, _, _, _, _, _, _, _, _, _, v.heap.size, rfl, Lib.hid (fun _ => ?_), Lib.hid (fun h => absurd (h.symm.trans h19) (by decide)), htk⟩
     clear hK K
     have up : ∀ {c : Ru.Cond} {u : Value}, TreeP (fun q => W7.heap.size ≤ q ∧ (d 18 = true → q ≠ bR)) v c u → TreeP (fun q => W7.heap.size ≤ q ∧ (true = true → q ≠ v.heap.size)) (v.alloc (.cells #[.string ⟨#[]⟩, .int .i64 0, .int .i64 0, .int .i64 0, .string ⟨#[]⟩, .int .i64 0, .int .i64 0, .int .i64 0, .int .i64 0, .int .i64 0, .slice none 0 0, .int .i64 0, .string ⟨#[]⟩, .int .i64 0, .int .i64 0, .int .i64 0, .int .i64 0, .int .i64 0, .slice none 0 0, .int .i64 0] 42)) c u := fun h => (h.mono (T := fun q => W7.heap.size ≤ q ∧ (true = true → q ≠ v.heap.size)) (fun q hq h2 => ⟨h2.1, fun _ => by omega⟩)).keep ka
     exact ⟨M.kp, M.dr, M.f0, M.f2, M.f3, M.f4, M.f6, M.f7, M.f8, M.f10, M.f11, M.f13, fun h => (HM0.out.f15 h).elim fun c h => h.elim fun a h => h.elim fun m h => h.elim fun p h => ⟨c, a, m, p, h.1, up h.2.1, h.2.2⟩, fun h => (HM0.out.f17 h).elim fun j h => h.elim fun wh h => h.elim fun va h => h.elim fun c h => h.elim fun a h => h.elim fun m h => h.elim fun p h => ⟨j, wh, va, c, a, m, p, h.1, h.2.1, h.2.2.1, up h.2.2.2.1, h.2.2.2.2⟩, fun _ => ⟨rfl, hv0, by simp, heap_alloc_new v _⟩⟩
    refine Steps.cons (o := _) rfl (fun d a v hnd hwt hcl hJ K hK => ?_) ?_
    ·obtain ⟨z18, z20, z21, z22, z24, z25, z26, z28, z29, z31, z33, z35, z7, bR, rfl, HM, HF, htk⟩ := hJ
     have h19 : d 19 = false := hnd
     have HM0 := Lib.hid (HM.out h19)
     have hv0 := HM0.out.kp.size
     obtain ⟨j, wh, va, c, a, m, p, rfl, hw, hv, ht, hr, hs⟩ := HM0.out.f17 (hwt 17 (by kernel_rfl))
     have h18 := hwt 18 (by kernel_rfl)
     obtain ⟨rfl, hb1, hb2, hb3⟩ := HM0.out.f18 h18
     have HT := Lib.hid ht
     clear ht
     refine Eq.mpr (if_pos (by rfl)) ?_
     refine wp_store_blk 42 _ _ rfl bR _ 42 hb3 #[str (Ru.names4.getD k []), .int .i64 (prio4.getD j 0), .int .i64 wh, .int .i64 c.op, str c.text, .int .i64 c.n, .int .i64 c.box.x0, .int .i64 c.box.y0, .int .i64 c.box.x1, .int .i64 c.box.y1, .slice a m p, .int .i64 1, .string ⟨#[]⟩, .int .i64 0, .int .i64 0, .int .i64 0, .int .i64 0, .int .i64 0, .slice none 0 0, .int .i64 va] rfl rfl info42 rfl (by simp [Value.oneCell']) (fun V hV hkV => ?_)
     refine hK.out _ _ ⟨_, _, _, _, _, _, _, _, _, _, _, _, _, bR, rfl, Lib.hid (fun h => absurd h (by show ¬ (true = false); decide)), Lib.hid (fun _ => ?_), htk⟩
     exact ⟨bR, j, wh, va, c, a, m, p, rfl, hb1, hV, hw, hv, (HT.out.mono (T := fun q => W7.heap.size ≤ q ∧ q ≠ bR) (fun q _ hq => ⟨hq.1, hq.2 h18⟩)).row hkV (fun r hr hs => by injection hr with hr; exact hs.2 hr.symm), hr, hs, Kp.of_own HM0.out.kp hkV hb1, HM0.out.dr.row hkV (by omega)⟩
    exact Steps.nil
    intro d a v hall hJ
    obtain ⟨z18, z20, z21, z22, z24, z25, z26, z28, z29, z31, z33, z35, z7, bR, rfl, HM, HF, htk⟩ := hJ
    have HF0 := Lib.hid (HF.out (hall 19 (by decide)))
    clear HM HF htk
    go_wp2_with fail
    go_meet
    exact HF0
   case rest =>
    obtain ⟨bR, j, wh, va, c, a, m, p, rfl, hbR, hB, hwh, hva, ht, hr, hs, hkp, hdr⟩ := hcut.out
    have HB := Lib.hid hB
    have hbR : wr.heap.size ≤ bR := hbR
    have ht : TreeP (fun q => wr.heap.size ≤ q ∧ q ≠ bR) wc c (.slice a m p) := ht
    have HTC := Lib.hid ht
    have HD5 := Lib.hid hdr
    have hDr : D < wr.heap.size := HDR.out.lt
    have HK5 : Hid (Kp wr wc (some D)) := Lib.hid (((Kp.refl wr none).drew.weak (some D)).trans hkp)
    clear hcut hB ht hkp hdr
    have hc2 := hcell HB.out 2 rfl
    go_upto_if 38 with fail
    go_cut [38] from 39 to 42 (fun _ wx => ∃ (cb : Ru.Cond) (a2 : Option Addr) (m2 p2 : Nat), Hid (wx.heap[bR]? = some (.cells #[str (Ru.names4.getD k []), .int .i64 (prio4.getD j 0), .int .i64 wh, .int .i64 c.op, str c.text, .int .i64 c.n, .int .i64 c.box.x0, .int .i64 c.box.y0, .int .i64 c.box.x1, .int .i64 c.box.y1, .slice a m p, .int .i64 cb.op, str cb.text, .int .i64 cb.n, .int .i64 cb.box.x0, .int .i64 cb.box.y0, .int .i64 cb.box.x1, .int .i64 cb.box.y1, .slice a2 m2 p2, .int .i64 va] 42 (0, 0))) ∧ Hid (TreeP (fun q => wr.heap.size ≤ q ∧ q ≠ bR) wx c (.slice a m p) ∧ TreeP (fun q => wr.heap.size ≤ q ∧ q ≠ bR) wx cb (.slice a2 m2 p2)) ∧ Hid (Ru.right cb = true) ∧ Ru.size cb ≤ 13 ∧ Hid (wh ≠ 1 → cb = Ru.cAny) ∧ Hid (Kp wr wx (some D)) ∧ Hid (DrawAt D lo n cap wx))
    case first =>
     by_cases hw1 : wh = 1
     ·have hb1 : (wh == 1) = true := by rw [hw1]; rfl
      have HW1 := Lib.hid hw1
      clear hw1
      have cC := HCD.out wc (Kp.row HK1.out (HKR.out.trans HK5.out) (fun r hr => by injection hr with hr; have := HDD.out; omega)) HD5.out
      go_wp2_with (first | (go_at_call 23; refine cC.mono ?_; rintro e w4 ⟨cb, a2, m2, p2, rfl, ht2, hr2, hs2, hd4, hk4⟩; have HB4 := Lib.hid (res_kept HB.out hk4 (by intro q hq; injection hq with hq; omega)); have HR2 := Lib.hid hr2; have HT2 := Lib.hid ht2; have HD4 := Lib.hid hd4; have HK4 := Lib.hid hk4; have hz4 := hk4.size; clear hr2 ht2 hd4 hk4 cC) | (refine wpList_store_to (by rfl) 40 _ _ (by rfl) bR 11 _ 42 HB4.out #[.int .i64 cb.op, str cb.text, .int .i64 cb.n, .int .i64 cb.box.x0, .int .i64 cb.box.y0, .int .i64 cb.box.x1, .int .i64 cb.box.y1, .slice a2 m2 p2] (by rfl) (by rfl) info40s (by show 11 + 8 ≤ 20; omega) (by simp [Value.oneCell']) _ (put_b ..) (fun U hU hkU => ?_); have HU := Lib.hid hU; have HKU := Lib.hid hkU; clear hU hkU))
      go_meet
      have hbw := lt_of_block HB.out
      exact ⟨cb, a2, m2, p2, HU, Lib.hid ⟨(HTC.out.row HK4.out (fun r hr hs => by injection hr with hr; omega)).row HKU.out (fun r hr hs => by injection hr with hr; omega), ((HT2.out.mono (T := (fun q => wr.heap.size ≤ q ∧ q ≠ bR)) (fun q _ hq => by omega))).row HKU.out (fun r hr hs => by injection hr with hr; omega)⟩, HR2, hs2, Lib.hid (fun h => absurd HW1.out h), Lib.hid (Kp.of_own (HK5.out.trans HK4.out) HKU.out hbR), Lib.hid (HD4.out.row HKU.out (by omega))⟩
     ·have hb1 : (wh == 1) = false := by simpa using hw1
      have HW1 := Lib.hid hw1
      clear hw1
      go_wp2_with fail
      go_meet
      exact ⟨Ru.cAny, none, 0, 0, HB, Lib.hid ⟨HTC.out, TreeP.leaf rfl⟩, Lib.hid Ru.cAny_right, by simp [Ru.cAny, Ru.size, Ru.sizes], Lib.hid (fun _ => rfl), HK5, HD5⟩
    case rest =>
     clear HB HTC HD5 HK5 hc2
     obtain ⟨cb, a2, m2, p2, HB, HTT, HR2, hs2, HANY, HK6, HD6⟩ := hcut
     have HRA := Lib.hid (range_a HB.out).1
     have s1 := sizeR_any c (by omega) wc (.slice a m p) HTT.out.1.tree
     have hs1c : (Ru.size c : Int) ≤ 20 := by omega
     have hs2c : (Ru.size cb : Int) ≤ 20 := by omega
     have HS2 : Hid (∀ V, Tree V cb (.slice a2 m2 p2) → Calls Tryz.prog 30 #[.agg #[.int .i64 cb.op, str cb.text, .int .i64 cb.n, .int .i64 cb.box.x0, .int .i64 cb.box.y0, .int .i64 cb.box.x1, .int .i64 cb.box.y1, .slice a2 m2 p2]] V fun e w' => e = .returned (.int .i64 (Ru.size cb)) ∧ Kp V w' none) := Lib.hid fun V hV => sizeR_any cb (by omega) V _ hV
     have s1 : Calls Tryz.prog 30 #[.agg #[.int .i64 c.op, str c.text, .int .i64 c.n, .int .i64 c.box.x0, .int .i64 c.box.y0, .int .i64 c.box.x1, .int .i64 c.box.y1, .slice a m p]] wc fun e w' => e = .returned (.int .i64 (Ru.size c)) ∧ Kp wc w' none := s1
     obtain ⟨sc, hsc⟩ : ∃ x : Nat, Ru.size c = x := ⟨_, rfl⟩
     obtain ⟨sb, hsb⟩ : ∃ x : Nat, Ru.size cb = x := ⟨_, rfl⟩
     rw [hsc] at s1 hs1c hs
     rw [hsb] at HS2 hs2c hs2
     have HSC := Lib.hid hsc
     have HSB := Lib.hid hsb
     clear hsc hsb
     go_wp2_with (refine wpList_load_mid (by rfl) 40 _ (by rfl) bR 3 (by rfl) #[.int .i64 c.op, str c.text, .int .i64 c.n, .int .i64 c.box.x0, .int .i64 c.box.y0, .int .i64 c.box.x1, .int .i64 c.box.y1, .slice a m p].toList _ HRA.out Tryz.underlying40 (by rfl) info40s ?_)
     refine s1.mono ?_
     clear s1
     rintro e w7 ⟨rfl, hk7⟩
     have HK7 := Lib.hid hk7
     clear hk7
     have HB7 := Lib.hid (res_kept HB.out HK7.out (by simp))
     have s2 := Lib.hid (HS2.out w7 ((HTT.out.2.keep HK7.out).tree))
     have d11 := hcell HB7.out 11 rfl
     have d12 := hcell HB7.out 12 rfl
     have d13 := hcell HB7.out 13 rfl
     have d14 := hcell HB7.out 14 rfl
     have d15 := hcell HB7.out 15 rfl
     have d16 := hcell HB7.out 16 rfl
     have d17 := hcell HB7.out 17 rfl
     have d18 := hcell HB7.out 18 rfl
     clear HRA
     go_wp2_with fail
     refine s2.out.mono ?_
     rintro e w8 ⟨rfl, hk8⟩
     have HK8 := Lib.hid (HK7.out.trans hk8)
     clear s2 hk8 HK7 HB7 d11 d12 d13 d14 d15 d16 d17 d18
     have HB8 := Lib.hid (res_kept HB.out HK8.out (by simp))
     have HR8 := Lib.hid (range_blk HB8.out)
     have HOW8 := Lib.hid (own_kp (own_row HOW.out HK6.out (by omega)) HK8.out)
     have hlv0 : Hid (∀ b, u4.ownBlock = some b → b < wr.heap.size ∧ D + 1 ≤ b) := Lib.hid fun b hb => ⟨(HOW.out.lt b hb).2, (HOW.out.lt b hb).1⟩
     have HD8 := Lib.hid (HD6.out.kp HK8.out)
     have HT8 : Hid (TreeP (fun q => wr.heap.size ≤ q ∧ q ≠ bR) w8 c (.slice a m p) ∧ TreeP (fun q => wr.heap.size ≤ q ∧ q ≠ bR) w8 cb (.slice a2 m2 p2)) := Lib.hid ⟨HTT.out.1.keep HK8.out, HTT.out.2.keep HK8.out⟩
     have HQ8 : Hid (∀ p ∈ qs, RTree (fun b => D + 1 ≤ b ∧ u4.ownBlock ≠ some b) w8 p) := Lib.hid fun p hp => ⟨(((HT.out p hp).1).row HK6.out (fun r hr hs => by injection hr with hr; omega)).keep HK8.out, (((HT.out p hp).2).row HK6.out (fun r hr hs => by injection hr with hr; omega)).keep HK8.out⟩
     have HKR8 : Hid (Kp W1 w8 (some D)) := Lib.hid ((HKR.out.trans HK6.out).trans (HK8.out.weak _))
     have HKS8 : Hid (Kp wr w8 (some D)) := Lib.hid (HK6.out.trans (HK8.out.weak _))
     have hz8 := HKS8.out.size
     have HG2 : Hid (Ru.Good ⟨(Ru.names4.getD k []), (prio4.getD j 0), wh, va, c, cb⟩) := Lib.hid ⟨names_name k (by omega), prio_range j, hwh, ⟨by show (0 : Int) ≤ va; omega, by show va ≤ (4194304 : Int); omega⟩, hr, HR2.out, by rw [HSC.out]; omega, by rw [HSB.out]; omega, HANY.out⟩
     obtain ⟨i0, hi, hz0', hz1', hz2'⟩ := info_parts info42f
     have hcm : qs.length + 1 ≤ maxLen := by unfold maxLen; omega
     have hcb : (qs.length + 1) * 216 ≤ 140737488355328 := by omega
     clear HB HTT HOW HT HD6 HK6 HK8 HB8 HR2 HANY HKR
     go_wp2_with (first | (refine wpList_load_mid (by rfl) 42 _ (by rfl) bR 0 (by rfl) #[str (Ru.names4.getD k []), .int .i64 (prio4.getD j 0), .int .i64 wh, .int .i64 c.op, str c.text, .int .i64 c.n, .int .i64 c.box.x0, .int .i64 c.box.y0, .int .i64 c.box.x1, .int .i64 c.box.y1, .slice a m p, .int .i64 cb.op, str cb.text, .int .i64 cb.n, .int .i64 cb.box.x0, .int .i64 cb.box.y0, .int .i64 cb.box.x1, .int .i64 cb.box.y1, .slice a2 m2 p2, .int .i64 va].toList _ HR8.out Tryz.underlying42 (by rfl) info42 ?_) | (at_builtin; go_must (refine wpList_append_lies _ (by rfl) _ _ _ (by rfl) (D + 1) 42 i0 _ 20 216 Tryz.underlying25 hi hz0' hz1' hz2' rfl (by omega) u4 qs.length (qs.flatMap rC) (by rfl) (own_kp HOW8.out ((Kp.refl _ _).alloc _)) ⟨w8.heap.size, 0, none⟩ 1 1 #[str (Ru.names4.getD k []), .int .i64 (prio4.getD j 0), .int .i64 wh, .int .i64 c.op, str c.text, .int .i64 c.n, .int .i64 c.box.x0, .int .i64 c.box.y0, .int .i64 c.box.x1, .int .i64 c.box.y1, .slice a m p, .int .i64 cb.op, str cb.text, .int .i64 cb.n, .int .i64 cb.box.x0, .int .i64 cb.box.y0, .int .i64 cb.box.x1, .int .i64 cb.box.y1, .slice a2 m2 p2, .int .i64 va].toList (by rfl) (by rfl) (World.news_of_block (cs := #[str (Ru.names4.getD k []), .int .i64 (prio4.getD j 0), .int .i64 wh, .int .i64 c.op, str c.text, .int .i64 c.n, .int .i64 c.box.x0, .int .i64 c.box.y0, .int .i64 c.box.x1, .int .i64 c.box.y1, .slice a m p, .int .i64 cb.op, str cb.text, .int .i64 cb.n, .int .i64 cb.box.x0, .int .i64 cb.box.y0, .int .i64 cb.box.x1, .int .i64 cb.box.y1, .slice a2 m2 p2, .int .i64 va]) (t := 42) (fr := (0, 0)) (heap_alloc_new w8 _)) (by simp [Value.oneCell']) (by omega) hcm hcb (by simp; omega) (w8.heap.size + 1) (by simp) ?_)))
     intro gg capg w5 hown5 hgrow5 hor5 hgl5
     have HOW5 : Hid (w5.ownsRow (D + 1) 42 20 (.slice (some ⟨gg, 0, none⟩) (k + 1) capg) (qs ++ [(⟨⟨(Ru.names4.getD k []), (prio4.getD j 0), wh, va, c, cb⟩, .slice a m p, .slice a2 m2 p2⟩ : RV)]).length ((qs ++ [(⟨⟨(Ru.names4.getD k []), (prio4.getD j 0), wh, va, c, cb⟩, .slice a m p, .slice a2 m2 p2⟩ : RV)]).flatMap rC)) := Lib.hid (by rw [List.flatMap_append, List.length_append, hql]; exact hown5)
     have hgw : ∀ b, b < w8.heap.size → u4.ownBlock ≠ some b → gg ≠ b := fun b hb hne2 e => by
      rcases hor5 with h | h
      ·exact hne2 (by rw [h, e])
      ·omega
     have HT5 : Hid (∀ y ∈ qs ++ [(⟨⟨(Ru.names4.getD k []), (prio4.getD j 0), wh, va, c, cb⟩, .slice a m p, .slice a2 m2 p2⟩ : RV)], RTree (fun b => D + 1 ≤ b ∧ (Value.slice (some ⟨gg, 0, none⟩) (k + 1) capg).ownBlock ≠ some b) w5 y) := Lib.hid (by
      have hrow : ∀ {S : Nat → Prop} {c : Ru.Cond} {v : Value}, (∀ b, S b → u4.ownBlock ≠ some b) → TreeP S w8 c v → TreeP S w5 c v := fun hS h => (h.keep ((Kp.refl w8 none).alloc _)).row hgrow5 (fun r hr hs => hS r hs hr)
      intro p' hp
      rcases List.mem_append.1 hp with hp | hp
      ·have h0 := HQ8.out p' hp
       have up : ∀ {c : Ru.Cond} {v : Value}, TreeP (fun b => D + 1 ≤ b ∧ u4.ownBlock ≠ some b) w8 c v → TreeP (fun b => D + 1 ≤ b ∧ (Value.slice (some ⟨gg, 0, none⟩) (k + 1) capg).ownBlock ≠ some b) w5 c v := fun h => by
        have h2 := h.mono (T := fun b => (D + 1 ≤ b ∧ u4.ownBlock ≠ some b) ∧ b < w8.heap.size) (fun b hb h => ⟨h, hb⟩)
        exact (hrow (fun b hb => hb.1.2) h2).mono fun b _ h => ⟨h.1.1, fun e => hgw b h.2 h.1.2 (by injection e)⟩
       exact ⟨up h0.1, up h0.2⟩
      ·rw [List.mem_singleton] at hp
       subst hp
       have up : ∀ {c : Ru.Cond} {v : Value}, TreeP (fun q => wr.heap.size ≤ q ∧ q ≠ bR) w8 c v → TreeP (fun b => D + 1 ≤ b ∧ (Value.slice (some ⟨gg, 0, none⟩) (k + 1) capg).ownBlock ≠ some b) w5 c v := fun h => by
        have h2 := h.mono (T := fun b => (wr.heap.size ≤ b ∧ u4.ownBlock ≠ some b) ∧ b < w8.heap.size) (fun b hb h => ⟨⟨h.1, fun e => by have := (hlv0.out b e).1; have := h.1; omega⟩, hb⟩)
        exact (hrow (fun b hb => hb.1.2) h2).mono fun b _ h => ⟨by have := h.1.1; omega, fun e => hgw b h.2 h.1.2 (by injection e)⟩
       exact ⟨up HT8.out.1, up HT8.out.2⟩)
     have HG5 : Hid (∀ y ∈ qs ++ [(⟨⟨(Ru.names4.getD k []), (prio4.getD j 0), wh, va, c, cb⟩, .slice a m p, .slice a2 m2 p2⟩ : RV)], Ru.Good y.r) := Lib.hid (fun p' hp => by
      rcases List.mem_append.1 hp with hp | hp
      ·exact HG.out p' hp
      ·rw [List.mem_singleton] at hp; subst hp; exact HG2.out)
     have HK5' : Hid (Kp W1 w5 (some D)) := Lib.hid (Kp.row (HKR8.out.trans (((Kp.refl w8 none).alloc _).weak _)) hgrow5 (fun r hr => by have := (hlv0.out r hr).2; omega))
     have HD5' : Hid (DrawAt D lo n cap w5) := Lib.hid (by
      have h := HD8.out.kp ((Kp.refl w8 none).alloc (.cells #[str (Ru.names4.getD k []), .int .i64 (prio4.getD j 0), .int .i64 wh, .int .i64 c.op, str c.text, .int .i64 c.n, .int .i64 c.box.x0, .int .i64 c.box.y0, .int .i64 c.box.x1, .int .i64 c.box.y1, .slice a m p, .int .i64 cb.op, str cb.text, .int .i64 cb.n, .int .i64 cb.box.x0, .int .i64 cb.box.y0, .int .i64 cb.box.x1, .int .i64 cb.box.y1, .slice a2 m2 p2, .int .i64 va] 42))
      cases hl : u4.ownBlock with
      | none => rw [hl] at hgrow5; exact h.kp hgrow5
      | some r => rw [hl] at hgrow5; exact h.row hgrow5 (by have := (hlv0.out r hl).2; omega))
     have HNM5 : Hid (((qs ++ [(⟨⟨(Ru.names4.getD k []), (prio4.getD j 0), wh, va, c, cb⟩, .slice a m p, .slice a2 m2 p2⟩ : RV)]).map (·.r)).map (·.name) = Ru.names4.take (k + 1)) := Lib.hid (by
      rw [names_step k (by omega), ← hql, ← HNM.out, List.map_append, List.map_append]
      rfl)
     have hql2 : (qs ++ [(⟨⟨(Ru.names4.getD k []), (prio4.getD j 0), wh, va, c, cb⟩, .slice a m p, .slice a2 m2 p2⟩ : RV)]).length = k + 1 := by rw [List.length_append, hql]; rfl
     clear hown5 hgrow5 hor5 hgw HR8
     generalize qs ++ [(⟨⟨(Ru.names4.getD k []), (prio4.getD j 0), wh, va, c, cb⟩, .slice a m p, .slice a2 m2 p2⟩ : RV)] = qs2 at HOW5 HT5 HG5 HNM5 hql2
     go_wp2_with fail
     go_roundw
     case rel => exact ⟨k + 1, qs2, hlt, by go_num, hql2, HOW5, HT5, HG5, by rw [hql2]; exact HNM5, HD5', HK5'⟩
     case measure => simp [intOf]; omega
  ·obtain rfl : k = many := by omega
   obtain ⟨ao, cp, hlv⟩ := own_slice HOW.out
   subst hlv
   have hla := (own_lies (m := 20) (f := rC) (fun _ => rfl) HOW.out).2
   have HLA := Lib.hid hla
   have HKW : Hid (Kp w wr none) := Lib.hid (Kp.row HK1.out HKR.out (fun r hr => by injection hr with hr; have := HDD.out; omega))
   clear hla
   go_wp2_with fail
   go_ret
   exact ⟨qs, ao, cp, rfl, HLA.out, fun q hq => ⟨(HT.out q hq).1.tree, (HT.out q hq).2.tree⟩, HG.out, HNM.out, by omega, HKW.out⟩
end Go.Proofs.YtnchipahdfbliaaGreatDoor
