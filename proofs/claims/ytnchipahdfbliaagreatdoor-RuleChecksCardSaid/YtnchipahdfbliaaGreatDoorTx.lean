/- The program's Text. Conditions: what a machine holds. -/
import Derived.Test.YtnchipahdfbliaaGreatDoorWro
namespace Go.Proofs.YtnchipahdfbliaaGreatDoor
open Go.RowKit

theorem wpAnyH_mono {P : Program} {md : Region.Mode} {ops : Array Oper} {Q : Exit → Act → World → Prop} {S S' : World → Prop} (hS : ∀ w, S' w → S w) :
  ∀ (fuel : Nat) (listed : Array Bool) (a : Act) (w : World), wpAnyH P md ops Q S' fuel listed a w → wpAnyH P md ops Q S fuel listed a w
 | 0, _, _, _, h => h
 | fuel + 1, _, _, _, h => ⟨h.1, fun i hi => wpOp_mono (fun a' w' h' => ⟨hS _ h'.1, wpAnyH_mono hS fuel _ a' w' h'.2⟩) (h.2 i hi)⟩
theorem bld_kp {B b : Nat} {bs : List Value} {w w' : World} (h : Lib.IsBuilder 82 5 B b bs w) (k : Kp w w' none) : Lib.IsBuilder 82 5 B b bs w' := by
 have go : ∀ p, Lib.BuilderAt 82 5 B b p bs w → Lib.BuilderAt 82 5 B b p bs w' := by
  rintro p ⟨hB, v, hb, ho, hne⟩
  exact ⟨hB, v, res_kept hb k (by simp), own_kp ho k, hne⟩
 rcases h with h | h
 ·exact .inl (go _ h)
 ·exact .inr (go _ h)
theorem kp_belowB {W w w' : World} {B : Nat} (h : Kp W w none) (k : Below B w w') (hB : W.heap.size ≤ B) : Kp W w' none :=
 ⟨k.os.trans h.os, k.tape.trans h.tape, k.output.trans h.output, Nat.le_trans h.size k.size, fun g hg hr => (k.block g (by omega)).trans (h.block g hg hr)⟩
theorem join_is (xs : List Ru.Bytes) : Lib.join xs [32] = Ru.joinB 32 xs := by
 unfold Lib.join
 induction xs with
 | nil => rfl
 | cons x l ih =>
  cases l with
  | nil => simp [Ru.joinB, List.intercalate]
  | cons y r => rw [Ru.joinB, ← ih]; simp [List.intercalate]
theorem bld_write (B b : Nat) (bs : List Value) (s : List UInt8) (w : World) (h : Lib.IsBuilder 82 5 B b bs w) (hlen : bs.length + s.length ≤ 140737488355328) (hBw : B ≤ w.heap.size) :
  Calls Tryz.prog 43 #[.pointer (some ⟨b, 0, none⟩), str s] w fun e w' => e = .returned (.tuple #[.int .i64 s.length, .nilIface]) ∧ Lib.IsBuilder 82 5 B b (bs ++ Lib.byteCells s) w' ∧ Below B w w' := by
 have h := Any.Builder_WriteString { Tryz.lays156 with } Tryz.Builder_Extra_156 B b bs ⟨s.toArray⟩ w h (by rw [size_str]; exact hlen) hBw
 refine Calls.mono h ?_
 rintro e w' ⟨h1, h2, h3⟩
 exact ⟨by rw [h1, size_str], .inr h2, h3⟩
theorem bld_string (B b : Nat) (l : List UInt8) (w : World) (h : Lib.IsBuilder 82 5 B b (Lib.byteCells l) w) (hBw : B ≤ w.heap.size) :
  Calls Tryz.prog 45 #[.pointer (some ⟨b, 0, none⟩)] w fun e w' => e = .returned (str l) ∧ Below B w w' :=
 Any.Builder_String_any { Tryz.lays156 with } Tryz.Builder_Extra_156 B b l w h hBw
theorem join_any (xs : List Ru.Bytes) (v : Value) (w : World) (base : Nat) (h : w.ownsRow base 9 1 v xs.length (xs.flatMap strVal)) (h0 : xs ≠ []) (hN : xs.length ≤ 140737488355328) (hlen : (Ru.joinB 32 xs).length ≤ 140737488355328) :
  Calls Tryz.prog 44 #[v, .string ⟨#[32]⟩] w fun e w' => e = .returned (str (Ru.joinB 32 xs)) ∧ Kp w w' none := by
 obtain ⟨ao, cap, e, hl⟩ := (own_isStrs h).form
 have hp : 0 < xs.length := List.length_pos_iff.2 h0
 obtain ⟨b, off, rfl, hb, hc, hcell⟩ := LiesAt.str hl 0 hp
 subst e
 have hm : (xs.map fun l => (⟨l.toArray⟩ : ByteArray)).map (·.data.toList) = xs := by rw [List.map_map]; simp [Function.comp_def]
 have := Tryz.strings_Join b off cap (xs.map fun l => (⟨l.toArray⟩ : ByteArray)) ⟨#[32]⟩ w (fun j x hx => by
  rw [List.getElem?_map] at hx
  obtain ⟨y, hy, rfl⟩ := Option.map_eq_some_iff.1 hx
  obtain ⟨hj, rfl⟩ := List.getElem?_eq_some_iff.1 hy
  exact hcell j hj) hb (by simpa using hN) (by simpa using hc) (by rw [hm, join_is]; exact hlen)
 rw [hm, join_is, List.length_map] at this
 exact this.mono fun e w' ⟨h1, h2⟩ => ⟨h1, Kp.of_below h2⟩
theorem text_take {l : List Ru.Rule} {k : Nat} {r : Ru.Rule} (hk : k < l.length) (hr : l[k] = r) : Ru.textOf (l.take (k + 1)) = Ru.textOf (l.take k) ++ Ru.lineOf r := by
 rw [List.take_succ_eq_append_getElem hk, hr]; simp [Ru.textOf]
theorem text_take_len {l : List Ru.Rule} (h : Ru.check l = 0) (k : Nat) : (Ru.textOf (l.take k)).length ≤ 213600 := by
 have hb := Ru.text_bound h
 rw [← List.take_append_drop k l] at hb
 unfold Ru.textOf at hb ⊢
 rw [List.flatMap_append, List.length_append] at hb; omega
theorem whats_cell (j : Nat) (hj : j < 4) : (Ru.whats.map str).toArray[j]? = some (str (Ru.whats.getD j [])) := by
 have : j = 0 ∨ j = 1 ∨ j = 2 ∨ j = 3 := by omega
 rcases this with rfl | rfl | rfl | rfl <;> rfl
/-- The words of a rule ahead of 'to'. -/
def wordsA (r : Ru.Rule) : List Ru.Bytes := [Ru.kwRule, r.name, Lib.itoa r.prio, Ru.whats.getD (r.what - 1).toNat [], Lib.itoa r.value, Ru.kwWhen] ++ Ru.write 0 r.a
set_option maxHeartbeats 16000000 in
set_option maxRecDepth 100000 in
theorem text_any (ps : List RV) (ao : Option Addr) (cap : Nat) (w : World) (he : Env w) (hl : LiesAt 20 rC w ao cap ps) (ht : ∀ p ∈ ps, p.Tree w) (hf : ∀ p ∈ ps, Fit p.r) :
  Calls Tryz.prog 15 #[.slice ao ps.length cap] w fun e w' => e = .returned (.tuple #[str (Ru.text (ps.map (·.r))).1, .int .i64 (Ru.text (ps.map (·.r))).2]) ∧ Kp w w' none := by
 have hck := check_any ps ao cap w he hl ht hf
 obtain ⟨rs, hrs⟩ : ∃ rs, ps.map (·.r) = rs := ⟨_, rfl⟩
 rw [hrs] at hck ⊢
 have HRS := Lib.hid hrs
 obtain ⟨ck, hc⟩ : ∃ c, Ru.check rs = c := ⟨_, rfl⟩
 rw [hc] at hck
 have HC := Lib.hid hc
 obtain ⟨n, hn⟩ : ∃ n, ps.length = n := ⟨_, rfl⟩
 have HN := Lib.hid hn
 rw [hn] at hck ⊢
 have HL := Lib.hid hl
 have HT := Lib.hid ht
 have HE := Lib.hid he
 clear hl ht hf he hrs hc
 by_cases hz : ck = 0
 ·subst hz
  have hbig : n ≤ 24 := by have := (Ru.check_good HC.out).1; rw [← HRS.out, List.length_map] at this; omega
  have HGOOD : Hid (∀ r ∈ rs, Ru.Good r) := Lib.hid (Ru.check_good HC.out).2
  have hres : Ru.text rs = (Ru.textOf rs, 0) := by unfold Ru.text; rw [if_pos HC.out]
  rw [hres]
  have hn0 : (0 : Int) ≤ (n : Int) := by omega
  clear hres hn
  go_enter Tryz.func15, Tryz.ntmps15
  go_wp2_with (go_at_call 13; refine hck.mono ?_; rintro e w1 ⟨rfl, hk1⟩)
  have HK1 := Lib.hid hk1
  have hB0 : Lib.IsBuilder 82 5 w1.heap.size w1.heap.size (Lib.byteCells []) (w1.alloc (.cells #[.pointer none, .slice none 0 0] 82)) := .inl ⟨Nat.le_refl _, _, heap_alloc_new w1 _, ⟨rfl, .inl ⟨rfl, rfl⟩⟩, by simp [Value.ownBlock]⟩
  have HB0 := Lib.hid hB0
  have hbw := hk1.size
  have ht0 : Ru.textOf (rs.take 0) = [] := rfl
  clear hB0 hck hk1
  go_loopw [16] (fun i wr => ∃ k : Nat, k ≤ n ∧ i = .int .i64 (k : Int) ∧ Hid (Lib.IsBuilder 82 5 w1.heap.size w1.heap.size (Lib.byteCells (Ru.textOf (rs.take k))) wr) ∧ Hid (Kp w wr none) ∧ w1.heap.size ≤ wr.heap.size) (fun i _ => n - (intOf i).toNat)
  case atStart => exact ⟨0, Nat.zero_le _, rfl, Lib.hid (by rw [ht0]; exact HB0.out), Lib.hid (HK1.out.alloc _), by simp⟩
  case round =>
   obtain ⟨k, hk, rfl, HB, HK, hbr⟩ := hrel
   have hk0 : (0 : Int) ≤ (k : Int) := by omega
   clear ht0
   by_cases hlt : k < n
   ·have hk1 : (k : Int) < (n : Int) := by omega
    have hltp : k < ps.length := by rw [HN.out]; exact hlt
    obtain ⟨q, hq⟩ : ∃ q, ps[k] = q := ⟨_, rfl⟩
    have hmem : q ∈ ps := by rw [← hq]; exact List.getElem_mem hltp
    have hgood := HGOOD.out q.r (by rw [← HRS.out]; exact List.mem_map.2 ⟨q, hmem, rfl⟩)
    have HGR := Lib.hid hgood
    have htr := HT.out q hmem
    obtain ⟨⟨a1, m1, p1, hva⟩, a2, m2, p2, hvb⟩ := RV.slices htr
    obtain ⟨b, off, hao, _, hrg⟩ := (HL.out.keep HK.out).range k hltp hq
    have HTS : Hid (Ru.textOf (rs.take (k + 1)) = Ru.textOf (rs.take k) ++ Ru.lineOf q.r) := Lib.hid (by
     have h1 : k < rs.length := by rw [← HRS.out, List.length_map]; exact hltp
     refine text_take h1 ?_
     have h2 : rs[k] = (ps.map (·.r))[k]'(by rw [List.length_map]; exact hltp) := by congr 1; exact HRS.out.symm
     rw [h2, List.getElem_map, hq])
    have HTL : Hid ((Ru.textOf (rs.take k)).length ≤ 213600) := Lib.hid (text_take_len HC.out k)
    obtain ⟨j, hj⟩ : ∃ j : Nat, q.r.what = (j : Int) + 1 := ⟨(q.r.what - 1).toNat, by have := hgood.what; omega⟩
    have hj4 : j < 4 := by have := hgood.what; omega
    have HRG : Hid (wr.rangeAt b (off + k * 20) #[str q.r.name, .int .i64 q.r.prio, .int .i64 ((j : Int) + 1), .int .i64 q.r.a.op, str q.r.a.text, .int .i64 q.r.a.n, .int .i64 q.r.a.box.x0, .int .i64 q.r.a.box.y0, .int .i64 q.r.a.box.x1, .int .i64 q.r.a.box.y1, .slice a1 m1 p1, .int .i64 q.r.b.op, str q.r.b.text, .int .i64 q.r.b.n, .int .i64 q.r.b.box.x0, .int .i64 q.r.b.box.y0, .int .i64 q.r.b.box.x1, .int .i64 q.r.b.box.y1, .slice a2 m2 p2, .int .i64 q.r.value].toList) := Lib.hid (by
     have e : rC q = #[str q.r.name, .int .i64 q.r.prio, .int .i64 ((j : Int) + 1), .int .i64 q.r.a.op, str q.r.a.text, .int .i64 q.r.a.n, .int .i64 q.r.a.box.x0, .int .i64 q.r.a.box.y0, .int .i64 q.r.a.box.x1, .int .i64 q.r.a.box.y1, .slice a1 m1 p1, .int .i64 q.r.b.op, str q.r.b.text, .int .i64 q.r.b.n, .int .i64 q.r.b.box.x0, .int .i64 q.r.b.box.y0, .int .i64 q.r.b.box.x1, .int .i64 q.r.b.box.y1, .slice a2 m2 p2, .int .i64 q.r.value].toList := by unfold rC cC; rw [hva, hvb, hj]; rfl
     rw [← e]; exact hrg)
    have HTA : Hid (Tree w q.r.a (.slice a1 m1 p1)) := Lib.hid (by have h := htr.1; rw [hva] at h; exact h)
    have HTB : Hid (Tree w q.r.b (.slice a2 m2 p2)) := Lib.hid (by have h := htr.2; rw [hvb] at h; exact h)
    have HJ := Lib.hid hj
    subst hao
    clear hgood htr hva hvb hrg hq hmem hltp hj
    go_upto_region 8 with (first | (refine wpList_load_mid (by rfl) 42 _ (by rfl) b (off + k * 20) (by rfl) #[str q.r.name, .int .i64 q.r.prio, .int .i64 ((j : Int) + 1), .int .i64 q.r.a.op, str q.r.a.text, .int .i64 q.r.a.n, .int .i64 q.r.a.box.x0, .int .i64 q.r.a.box.y0, .int .i64 q.r.a.box.x1, .int .i64 q.r.a.box.y1, .slice a1 m1 p1, .int .i64 q.r.b.op, str q.r.b.text, .int .i64 q.r.b.n, .int .i64 q.r.b.box.x0, .int .i64 q.r.b.box.y0, .int .i64 q.r.b.box.x1, .int .i64 q.r.b.box.y1, .slice a2 m2 p2, .int .i64 q.r.value].toList _ HRG.out Tryz.underlying42 (by rfl) info42 ?_) | (refine wpList_store_new (by rfl) 42 _ _ (by rfl) #[.string ⟨#[]⟩, .int .i64 0, .int .i64 0, .int .i64 0, .string ⟨#[]⟩, .int .i64 0, .int .i64 0, .int .i64 0, .int .i64 0, .int .i64 0, .slice none 0 0, .int .i64 0, .string ⟨#[]⟩, .int .i64 0, .int .i64 0, .int .i64 0, .int .i64 0, .int .i64 0, .slice none 0 0, .int .i64 0] #[str q.r.name, .int .i64 q.r.prio, .int .i64 ((j : Int) + 1), .int .i64 q.r.a.op, str q.r.a.text, .int .i64 q.r.a.n, .int .i64 q.r.a.box.x0, .int .i64 q.r.a.box.y0, .int .i64 q.r.a.box.x1, .int .i64 q.r.a.box.y1, .slice a1 m1 p1, .int .i64 q.r.b.op, str q.r.b.text, .int .i64 q.r.b.n, .int .i64 q.r.b.box.x0, .int .i64 q.r.b.box.y0, .int .i64 q.r.b.box.x1, .int .i64 q.r.b.box.y1, .slice a2 m2 p2, .int .i64 q.r.value] 42 (by rfl) (by rfl) rfl info42 (by rfl) (by simp [Value.oneCell']) ?_))
    have HRB := Lib.hid (heap_alloc_new wr (.cells #[str q.r.name, .int .i64 q.r.prio, .int .i64 ((j : Int) + 1), .int .i64 q.r.a.op, str q.r.a.text, .int .i64 q.r.a.n, .int .i64 q.r.a.box.x0, .int .i64 q.r.a.box.y0, .int .i64 q.r.a.box.x1, .int .i64 q.r.a.box.y1, .slice a1 m1 p1, .int .i64 q.r.b.op, str q.r.b.text, .int .i64 q.r.b.n, .int .i64 q.r.b.box.x0, .int .i64 q.r.b.box.y0, .int .i64 q.r.b.box.x1, .int .i64 q.r.b.box.y1, .slice a2 m2 p2, .int .i64 q.r.value] 42))
    have HKR : Hid (Kp wr (wr.alloc (.cells #[str q.r.name, .int .i64 q.r.prio, .int .i64 ((j : Int) + 1), .int .i64 q.r.a.op, str q.r.a.text, .int .i64 q.r.a.n, .int .i64 q.r.a.box.x0, .int .i64 q.r.a.box.y0, .int .i64 q.r.a.box.x1, .int .i64 q.r.a.box.y1, .slice a1 m1 p1, .int .i64 q.r.b.op, str q.r.b.text, .int .i64 q.r.b.n, .int .i64 q.r.b.box.x0, .int .i64 q.r.b.box.y0, .int .i64 q.r.b.box.x1, .int .i64 q.r.b.box.y1, .slice a2 m2 p2, .int .i64 q.r.value] 42)) none) := Lib.hid ((Kp.refl _ _).alloc _)
    have hzz : (wr.alloc (.cells #[str q.r.name, .int .i64 q.r.prio, .int .i64 ((j : Int) + 1), .int .i64 q.r.a.op, str q.r.a.text, .int .i64 q.r.a.n, .int .i64 q.r.a.box.x0, .int .i64 q.r.a.box.y0, .int .i64 q.r.a.box.x1, .int .i64 q.r.a.box.y1, .slice a1 m1 p1, .int .i64 q.r.b.op, str q.r.b.text, .int .i64 q.r.b.n, .int .i64 q.r.b.box.x0, .int .i64 q.r.b.box.y0, .int .i64 q.r.b.box.x1, .int .i64 q.r.b.box.y1, .slice a2 m2 p2, .int .i64 q.r.value] 42)).heap.size = wr.heap.size + 1 := by simp
    generalize hWR : wr.alloc (.cells #[str q.r.name, .int .i64 q.r.prio, .int .i64 ((j : Int) + 1), .int .i64 q.r.a.op, str q.r.a.text, .int .i64 q.r.a.n, .int .i64 q.r.a.box.x0, .int .i64 q.r.a.box.y0, .int .i64 q.r.a.box.x1, .int .i64 q.r.a.box.y1, .slice a1 m1 p1, .int .i64 q.r.b.op, str q.r.b.text, .int .i64 q.r.b.n, .int .i64 q.r.b.box.x0, .int .i64 q.r.b.box.y0, .int .i64 q.r.b.box.x1, .int .i64 q.r.b.box.y1, .slice a2 m2 p2, .int .i64 q.r.value] 42) = W0 at *
    clear hWR
    simp only [Act.put]
    go_cut [8] from 20 to 38 (fun s8 wx => wx.ownsRow (wr.heap.size + 1) 9 1 s8 (wordsA q.r).length ((wordsA q.r).flatMap strVal) ∧ Hid (Kp W0 wx none))
    case first =>
     have HS : Hid (∀ V, Kp W0 V none → V.cell? ⟨wr.heap.size, 0, none⟩ = some (str q.r.name) ∧ V.cell? ⟨wr.heap.size, 1, none⟩ = some (.int .i64 q.r.prio) ∧ V.cell? ⟨wr.heap.size, 2, none⟩ = some (.int .i64 ((j : Int) + 1)) ∧ V.cell? ⟨wr.heap.size, 19, none⟩ = some (.int .i64 q.r.value) ∧ V.rangeAt wr.heap.size 3 #[.int .i64 q.r.a.op, str q.r.a.text, .int .i64 q.r.a.n, .int .i64 q.r.a.box.x0, .int .i64 q.r.a.box.y0, .int .i64 q.r.a.box.x1, .int .i64 q.r.a.box.y1, .slice a1 m1 p1].toList ∧ Hid (Kp W0 V none)) := Lib.hid fun V hV => ⟨ckr HRB.out hV (by simp) 0 rfl, ckr HRB.out hV (by simp) 1 rfl, ckr HRB.out hV (by simp) 2 rfl, ckr HRB.out hV (by simp) 19 rfl, by
      have h := World.rangeAt_of_block (res_kept HRB.out hV (by simp)) 3 8
      simpa using h, Lib.hid hV⟩
     have HI1 : Hid (∀ V, Kp W0 V none → Calls Tryz.prog 40 #[.int .i64 q.r.prio] V fun e w' => e = .returned (str (Lib.itoa q.r.prio)) ∧ Kp V w' none) := Lib.hid fun V hV => itoa_any q.r.prio V (HE.out.kp0 ((HK.out.trans HKR.out).trans hV)) (by have := HGR.out.prio; unfold Wr.I64; omega)
     have HI2 : Hid (∀ V, Kp W0 V none → Calls Tryz.prog 40 #[.int .i64 q.r.value] V fun e w' => e = .returned (str (Lib.itoa q.r.value)) ∧ Kp V w' none) := Lib.hid fun V hV => itoa_any q.r.value V (HE.out.kp0 ((HK.out.trans HKR.out).trans hV)) (by have := HGR.out.value; unfold Wr.I64; omega)
     have HIW : Hid (∀ V, Kp W0 V none → Calls Tryz.prog 42 #[.agg #[.int .i64 q.r.a.op, str q.r.a.text, .int .i64 q.r.a.n, .int .i64 q.r.a.box.x0, .int .i64 q.r.a.box.y0, .int .i64 q.r.a.box.x1, .int .i64 q.r.a.box.y1, .slice a1 m1 p1], .int .i64 0] V (OwnStrs (Ru.write 0 q.r.a) V)) := Lib.hid fun V hV => write_any q.r.a HGR.out.a (by have := HGR.out.sa; omega) 0 V _ (HE.out.kp0 ((HK.out.trans HKR.out).trans hV)) (HTA.out.keep ((HK.out.trans HKR.out).trans hV))
     have hwl := write_short HGR.out.a (by have := HGR.out.sa; omega) 0
     have HWA : Hid (wordsA q.r = [Ru.kwRule, q.r.name, Lib.itoa q.r.prio, Ru.whats.getD j [], Lib.itoa q.r.value, Ru.kwWhen] ++ Ru.write 0 q.r.a) := Lib.hid (by unfold wordsA; rw [HJ.out, show ((j : Int) + 1 - 1).toNat = j by omega])
     obtain ⟨i0, hi, hz0, hz1, hz2⟩ := info_parts info9
     have hsub : (j : Int) + 1 - 1 = (j : Int) := by omega
     have hj0 : (0 : Int) ≤ (j : Int) := by omega
     have hj5 : (j : Int) < 4 := by omega
     have hwj : IntKind.i64.wrap (j : Int) = (j : Int) := by rw [IntKind.wrap_i64]; omega
     refine wp_region_held_drew (S := fun V => V.cell? ⟨wr.heap.size, 0, none⟩ = some (str q.r.name) ∧ V.cell? ⟨wr.heap.size, 1, none⟩ = some (.int .i64 q.r.prio) ∧ V.cell? ⟨wr.heap.size, 2, none⟩ = some (.int .i64 ((j : Int) + 1)) ∧ V.cell? ⟨wr.heap.size, 19, none⟩ = some (.int .i64 q.r.value) ∧ V.rangeAt wr.heap.size 3 #[.int .i64 q.r.a.op, str q.r.a.text, .int .i64 q.r.a.n, .int .i64 q.r.a.box.x0, .int .i64 q.r.a.box.y0, .int .i64 q.r.a.box.x1, .int .i64 q.r.a.box.y1, .slice a1 m1 p1].toList ∧ Hid (Kp W0 V none)) (by kernel_rfl) (HS.out _ (Kp.refl _ none).drew) (fun hHeld => ?_)
     generalize W0.drew = V0 at *
     refine tkH 0 rfl ?_
     try simp only [Act.put, sm]
     refine tkH 1 rfl ?_
     try simp only [Act.put, sm]
     refine tkH 2 rfl ?_
     try simp only [Act.put, sm]
     refine tkH 3 rfl ?_
     try simp only [Act.put, sm]
     refine tkH 6 rfl ?_
     try simp only [Act.put, sm]
     refine tkH 7 rfl ?_
     try simp only [Act.put, sm]
     refine tkH 8 rfl ?_
     try simp only [Act.put, sm]
     refine tkH 11 rfl ?_
     try simp only [Act.put, sm]
     refine tkH 12 rfl ?_
     try simp only [Act.put, sm]
     refine tkH 15 rfl ?_
     try simp only [Act.put, sm]
     refine wpAnyH_take (i := 16) rfl (by kernel_rfl) (by kernel_rfl) (by kernel_rfl) (fun _ _ _ h => h) (yieldsIf_load_mid (by rfl) _ _ rfl wr.heap.size 3 rfl #[.int .i64 q.r.a.op, str q.r.a.text, .int .i64 q.r.a.n, .int .i64 q.r.a.box.x0, .int .i64 q.r.a.box.y0, .int .i64 q.r.a.box.x1, .int .i64 q.r.a.box.y1, .slice a1 m1 p1].toList _ (fun _ h => h.2.2.2.2.1) Tryz.underlying40 rfl info40s) (by assumption) ?_
     try simp only [Act.put, sm]
     refine wpAnyH_ready (rs := [4]) (by kernel_rfl) (by simp) ?_
     refine AllReadyH.cons (o := _) rfl (fun K hK => ?_) AllReadyH.nil
     have gK := hHeld.2.2.2.2.2
     clear hHeld
     go_simp
     refine (HI1.out _ gK.out).mono ?_
     rintro e V1 ⟨rfl, kk⟩
     have k1 := gK.out.trans kk
     try go_wp2_with fail
     refine hK.out _ _ (HS.out _ k1) (fun hHeld => ?_)
     clear hK K gK kk
     try simp only [Act.put, sm]
     refine wpAnyH_ready (rs := [5]) (by kernel_rfl) (by simp) ?_
     refine AllReadyH.cons (o := _) rfl (fun K hK => ?_) AllReadyH.nil
     clear hHeld
     go_simp
     refine (whats_any _).mono ?_
     rintro e V2 ⟨rfl, rfl⟩
     have hwc := hcell (heap_alloc_new V1 (.cells (Ru.whats.map str).toArray 9)) j (whats_cell j hj4)
     have k2 : Kp W0 (V1.alloc (.cells (Ru.whats.map str).toArray 9)) none := k1.alloc _
     have HWC : Hid (∀ V, Kp (V1.alloc (.cells (Ru.whats.map str).toArray 9)) V none → V.cell? ⟨V1.heap.size, j, none⟩ = some (str (Ru.whats.getD j []))) := Lib.hid fun V hV => (hV.below.cell (p := ⟨V1.heap.size, j, none⟩) (by simp)).trans hwc
     try go_wp2_with fail
     refine hK.out _ _ (HS.out _ k2) (fun hHeld => ?_)
     clear hK K k1 hwc
     generalize hV2 : V1.alloc (.cells (Ru.whats.map str).toArray 9) = V2 at *
     generalize V1.heap.size = wb at *
     clear hV2
     refine wpAnyH_mono (S' := fun V => (V.cell? ⟨wb, j, none⟩ = some (str (Ru.whats.getD j []))) ∧ Hid (Kp W0 V none)) (fun V h => HS.out V h.2.out) _ _ _ _ ?_
     have hHeld : V2.cell? ⟨wb, j, none⟩ = some (str (Ru.whats.getD j [])) ∧ Hid (Kp W0 V2 none) := ⟨HWC.out _ (Kp.refl _ _), Lib.hid k2⟩
     try simp only [Act.put, sm]
     refine tkH 9 rfl ?_
     try simp only [Act.put, sm]
     refine tkH 10 rfl ?_
     try simp only [Act.put, sm]
     refine wpAnyH_ready (rs := [13]) (by kernel_rfl) (by simp) ?_
     refine AllReadyH.cons (o := _) rfl (fun K hK => ?_) AllReadyH.nil
     clear hHeld
     go_simp
     refine (HI2.out _ k2).mono ?_
     rintro e V3 ⟨rfl, kk⟩
     have k3 := k2.trans kk
     try go_wp2_with fail
     refine hK.out _ _ ⟨HWC.out _ kk, Lib.hid k3⟩ (fun hHeld => ?_)
     clear hK K
     have HW3 : Hid (∀ V, Kp V3 V none → V.cell? ⟨wb, j, none⟩ = some (str (Ru.whats.getD j [])) ∧ Hid (Kp W0 V none)) := Lib.hid fun V hV => ⟨HWC.out _ (kk.trans hV), Lib.hid (k3.trans hV)⟩
     have HK3 := Lib.hid k3
     clear kk k2 k3 HWC
     try simp only [Act.put, sm]
     refine wpAnyH_ready (rs := [14, 17]) (by kernel_rfl) (by simp) ?_
     refine AllReadyH.cons (o := _) rfl (fun K hK => ?_) (AllReadyH.cons (o := _) rfl (fun K hK => ?_) AllReadyH.nil)
     ·clear hHeld
      go_simp
      have kA : Kp V3 (V3.alloc (.cells #[str Ru.kwRule, str q.r.name, str (Lib.itoa q.r.prio), str (Ru.whats.getD j []), str (Lib.itoa q.r.value), str Ru.kwWhen] 9)) none := (Kp.refl _ _).alloc _
      have hO4 : Hid ((V3.alloc (.cells #[str Ru.kwRule, str q.r.name, str (Lib.itoa q.r.prio), str (Ru.whats.getD j []), str (Lib.itoa q.r.value), str Ru.kwWhen] 9)).ownsRow (wr.heap.size + 1) 9 1 (.slice (some ⟨V3.heap.size, 0, none⟩) 6 6) 6 ([Ru.kwRule, q.r.name, Lib.itoa q.r.prio, Ru.whats.getD j [], Lib.itoa q.r.value, Ru.kwWhen].flatMap strVal)) := Lib.hid (own_strs [Ru.kwRule, q.r.name, Lib.itoa q.r.prio, Ru.whats.getD j [], Lib.itoa q.r.value, Ru.kwWhen] (by have := HK3.out.size; omega) (by simp))
      refine hK.out _ _ (HW3.out _ kA) (fun hHeld => ?_)
      clear hK K
      try simp only [Act.put, sm]
      refine wpAnyH_ready (rs := [17]) (by kernel_rfl) (by simp) ?_
      refine AllReadyH.cons (o := _) rfl (fun K hK => ?_) AllReadyH.nil
      clear hHeld
      go_simp
      refine (HIW.out _ (HK3.out.trans kA)).mono ?_
      rintro e V5 ⟨v5, rfl, h5, hk5⟩
      have hO5 := Lib.hid (own_kp hO4.out hk5)
      have hI5 := Lib.hid (own_isStrs h5)
      have hO5lt : Hid (∀ r, (Value.slice (some ⟨V3.heap.size, 0, none⟩) 6 6).ownBlock = some r → V3.heap.size ≤ r) := Lib.hid (fun r hr => by have : V3.heap.size = r := Option.some.inj hr; omega)
      have kB := kA.trans hk5
      try go_wp2_with fail
      refine hK.out _ _ (HW3.out _ kB) (fun hHeld => ?_)
      clear hK K
      try simp only [Act.put, sm]
      refine wpAnyH_ready (rs := [18]) (by kernel_rfl) (by simp) ?_
      refine AllReadyH.cons (o := _) rfl (fun K hK => ?_) AllReadyH.nil
      refine step_app (f := strVal) (by rfl) _ _ (wr.heap.size + 1) 68 9 (by rfl) i0 _ 1 16 Tryz.underlying68 hi hz0 hz1 hz2 rfl (by omega) (fun _ => rfl) (by simp [strVal, Value.oneCell']) _ 6 _ (by rfl) hO5.out v5 (Ru.write 0 q.r.a) (by rfl) hI5.out (by unfold maxLen; omega) (by omega) (Nat.le_trans (by have := HK3.out.size; omega) kB.size) ?_
      intro v6 w6 hown6 hgrow6 _
      have kC : Kp V3 w6 none := Kp.row kB hgrow6 (fun r hr => by have := (hO5.out.lt r hr).1; have := hO5lt.out r hr; omega)
      refine hK.out _ _ (HW3.out _ kC) (fun hHeld => ?_)
      clear hK K
      try simp only [Act.put, sm]
      refine tkH 19 rfl ?_
      try simp only [Act.put, sm]
      clear hHeld
      refine wpAnyH_done (by kernel_rfl) ?_ _
      go_wp2_with fail
      go_meet
      exact ⟨by rw [HWA.out, List.length_append, List.flatMap_append]; exact hown6, Lib.hid (HK3.out.trans kC)⟩
     ·clear hHeld
      go_simp
      refine (HIW.out _ HK3.out).mono ?_
      rintro e V4 ⟨v5, rfl, h4, hk4⟩
      have hI4 := Lib.hid (own_isStrs h4)
      try go_wp2_with fail
      refine hK.out _ _ (HW3.out _ hk4) (fun hHeld => ?_)
      clear hK K
      try simp only [Act.put, sm]
      refine wpAnyH_ready (rs := [14]) (by kernel_rfl) (by simp) ?_
      refine AllReadyH.cons (o := _) rfl (fun K hK => ?_) AllReadyH.nil
      clear hHeld
      go_simp
      have kB : Kp V3 (V4.alloc (.cells #[str Ru.kwRule, str q.r.name, str (Lib.itoa q.r.prio), str (Ru.whats.getD j []), str (Lib.itoa q.r.value), str Ru.kwWhen] 9)) none := hk4.alloc _
      have hO5 : Hid ((V4.alloc (.cells #[str Ru.kwRule, str q.r.name, str (Lib.itoa q.r.prio), str (Ru.whats.getD j []), str (Lib.itoa q.r.value), str Ru.kwWhen] 9)).ownsRow (wr.heap.size + 1) 9 1 (.slice (some ⟨V4.heap.size, 0, none⟩) 6 6) 6 ([Ru.kwRule, q.r.name, Lib.itoa q.r.prio, Ru.whats.getD j [], Lib.itoa q.r.value, Ru.kwWhen].flatMap strVal)) := Lib.hid (own_strs [Ru.kwRule, q.r.name, Lib.itoa q.r.prio, Ru.whats.getD j [], Lib.itoa q.r.value, Ru.kwWhen] (by have := HK3.out.size; have := hk4.size; omega) (by simp))
      have hI5 : Hid (IsStrs (V4.alloc (.cells #[str Ru.kwRule, str q.r.name, str (Lib.itoa q.r.prio), str (Ru.whats.getD j []), str (Lib.itoa q.r.value), str Ru.kwWhen] 9)) v5 (Ru.write 0 q.r.a)) := Lib.hid (hI4.out.keep ((Kp.refl _ none).alloc _))
      have hO5lt : Hid (∀ r, (Value.slice (some ⟨V4.heap.size, 0, none⟩) 6 6).ownBlock = some r → V3.heap.size ≤ r) := Lib.hid (fun r hr => by have : V4.heap.size = r := Option.some.inj hr; have := hk4.size; omega)
      refine hK.out _ _ (HW3.out _ kB) (fun hHeld => ?_)
      clear hK K
      try simp only [Act.put, sm]
      refine wpAnyH_ready (rs := [18]) (by kernel_rfl) (by simp) ?_
      refine AllReadyH.cons (o := _) rfl (fun K hK => ?_) AllReadyH.nil
      refine step_app (f := strVal) (by rfl) _ _ (wr.heap.size + 1) 68 9 (by rfl) i0 _ 1 16 Tryz.underlying68 hi hz0 hz1 hz2 rfl (by omega) (fun _ => rfl) (by simp [strVal, Value.oneCell']) _ 6 _ (by rfl) hO5.out v5 (Ru.write 0 q.r.a) (by rfl) hI5.out (by unfold maxLen; omega) (by omega) (Nat.le_trans (by have := HK3.out.size; omega) kB.size) ?_
      intro v6 w6 hown6 hgrow6 _
      have kC : Kp V3 w6 none := Kp.row kB hgrow6 (fun r hr => by have := (hO5.out.lt r hr).1; have := hO5lt.out r hr; omega)
      refine hK.out _ _ (HW3.out _ kC) (fun hHeld => ?_)
      clear hK K
      try simp only [Act.put, sm]
      refine tkH 19 rfl ?_
      try simp only [Act.put, sm]
      clear hHeld
      refine wpAnyH_done (by kernel_rfl) ?_ _
      go_wp2_with fail
      go_meet
      exact ⟨by rw [HWA.out, List.length_append, List.flatMap_append]; exact hown6, Lib.hid (HK3.out.trans kC)⟩
    case rest =>
     obtain ⟨hown8, hk8⟩ := hcut
     have HO8 := Lib.hid hown8
     have hc2 : wc.cell? ⟨wr.heap.size, 2, none⟩ = some (.int .i64 ((j : Int) + 1)) := ckr HRB.out hk8.out (by simp) 2 rfl
     have HLJ : Hid (Ru.wordsOf q.r = wordsA q.r ++ (if j = 0 then Ru.kwTo :: Ru.write 0 q.r.b else [])) := Lib.hid (by
      have e : (q.r.what = 1) = (j = 0) := by rw [HJ.out, eq_iff_iff]; omega
      unfold Ru.wordsOf wordsA; simp only [e])
     obtain ⟨i0, hi, hz0, hz1, hz2⟩ := info_parts info9
     have hwla : (wordsA q.r).length ≤ 1000000006 := by have := write_short HGR.out.a (by have := HGR.out.sa; omega) 0; unfold wordsA; simp; omega
     have hwlb := write_short HGR.out.b (by have := HGR.out.sb; omega) 0
     clear hown8
     go_upto_if 41 with fail
     go_cut [8, 41] from 42 to 48 (fun s8 _ wx => wx.ownsRow (wr.heap.size + 1) 9 1 s8 (Ru.wordsOf q.r).length ((Ru.wordsOf q.r).flatMap strVal) ∧ Hid (Kp W0 wx none))
     case first =>
      by_cases hj1 : j = 0
      ·have hjb : (((j : Int) + 1) == 1) = true := by rw [hj1]; rfl
       have hLJ := HLJ.out
       rw [if_pos hj1] at hLJ
       have HLJ1 := Lib.hid hLJ
       have HS : Hid (∀ V, Kp W0 V none → V.rangeAt wr.heap.size 11 #[.int .i64 q.r.b.op, str q.r.b.text, .int .i64 q.r.b.n, .int .i64 q.r.b.box.x0, .int .i64 q.r.b.box.y0, .int .i64 q.r.b.box.x1, .int .i64 q.r.b.box.y1, .slice a2 m2 p2].toList ∧ Hid (Kp W0 V none)) := Lib.hid fun V hV => ⟨by
        have h := World.rangeAt_of_block (res_kept HRB.out hV (by simp)) 11 8
        simpa using h, Lib.hid hV⟩
       have HIW : Hid (∀ V, Kp W0 V none → Calls Tryz.prog 42 #[.agg #[.int .i64 q.r.b.op, str q.r.b.text, .int .i64 q.r.b.n, .int .i64 q.r.b.box.x0, .int .i64 q.r.b.box.y0, .int .i64 q.r.b.box.x1, .int .i64 q.r.b.box.y1, .slice a2 m2 p2], .int .i64 0] V (OwnStrs (Ru.write 0 q.r.b) V)) := Lib.hid fun V hV => write_any q.r.b HGR.out.b (by have := HGR.out.sb; omega) 0 V _ (HE.out.kp0 ((HK.out.trans HKR.out).trans hV)) (HTB.out.keep ((HK.out.trans HKR.out).trans hV))
       clear hj1 hLJ
       go_upto_region 10 with fail
       have kD : Kp wc wc.drew none := (Kp.refl _ _).drew
       have HO9 := Lib.hid (own_kp HO8.out kD)
       have hk9 : Hid (Kp W0 wc.drew none) := Lib.hid (hk8.out.trans kD)
       refine wp_region_held_drew (S := fun V => V.rangeAt wr.heap.size 11 #[.int .i64 q.r.b.op, str q.r.b.text, .int .i64 q.r.b.n, .int .i64 q.r.b.box.x0, .int .i64 q.r.b.box.y0, .int .i64 q.r.b.box.x1, .int .i64 q.r.b.box.y1, .slice a2 m2 p2].toList ∧ Hid (Kp W0 V none)) (by kernel_rfl) (HS.out _ hk9.out) (fun hHeld => ?_)
       generalize wc.drew = V0 at *
       clear kD
       refine tkH 0 rfl ?_
       try simp only [Act.put, sm]
       refine tkH 3 rfl ?_
       try simp only [Act.put, sm]
       refine wpAnyH_take (i := 4) rfl (by kernel_rfl) (by kernel_rfl) (by kernel_rfl) (fun _ _ _ h => h) (yieldsIf_load_mid (by rfl) _ _ rfl wr.heap.size 11 rfl #[.int .i64 q.r.b.op, str q.r.b.text, .int .i64 q.r.b.n, .int .i64 q.r.b.box.x0, .int .i64 q.r.b.box.y0, .int .i64 q.r.b.box.x1, .int .i64 q.r.b.box.y1, .slice a2 m2 p2].toList _ (fun _ h => h.1) Tryz.underlying40 rfl info40s) (by assumption) ?_
       try simp only [Act.put, sm]
       refine wpAnyH_ready (rs := [1]) (by kernel_rfl) (by simp) ?_
       refine AllReadyH.cons (o := _) rfl (fun K hK => ?_) AllReadyH.nil
       clear hHeld
       go_simp
       have kA : Kp V0 (V0.alloc (.cells #[str Ru.kwTo] 9)) none := (Kp.refl _ _).alloc _
       have hI1 : Hid (IsStrs (V0.alloc (.cells #[str Ru.kwTo] 9)) (.slice (some ⟨V0.heap.size, 0, none⟩) 1 1) [Ru.kwTo]) := Lib.hid (str_list Ru.kwTo)
       refine hK.out _ _ (HS.out _ (hk9.out.trans kA)) (fun hHeld => ?_)
       clear hK K
       try simp only [Act.put, sm]
       refine wpAnyH_ready (rs := [2]) (by kernel_rfl) (by simp) ?_
       refine AllReadyH.cons (o := _) rfl (fun K hK => ?_) AllReadyH.nil
       refine step_app (f := strVal) (by rfl) _ _ (wr.heap.size + 1) 68 9 (by rfl) i0 _ 1 16 Tryz.underlying68 hi hz0 hz1 hz2 rfl (by omega) (fun _ => rfl) (by simp [strVal, Value.oneCell']) _ (wordsA q.r).length _ (by rfl) (own_kp HO9.out kA) _ [Ru.kwTo] (by rfl) hI1.out (by unfold maxLen; simp; omega) (by simp; omega) (Nat.le_trans (by have := hk9.out.size; omega) kA.size) ?_
       intro v2 w2 hown2 hgrow2 _
       have HO2 := Lib.hid hown2
       have k2 : Kp W0 w2 none := Kp.row (hk9.out.trans kA) hgrow2 (fun r hr => by have := (HO9.out.lt r hr).1; omega)
       refine hK.out _ _ (HS.out _ k2) (fun hHeld => ?_)
       clear hK K hown2 hgrow2
       try simp only [Act.put, sm]
       refine wpAnyH_ready (rs := [5]) (by kernel_rfl) (by simp) ?_
       refine AllReadyH.cons (o := _) rfl (fun K hK => ?_) AllReadyH.nil
       clear hHeld
       go_simp
       refine (HIW.out _ k2).mono ?_
       rintro e V4 ⟨v5, rfl, h4, hk4⟩
       have hI4 := Lib.hid (own_isStrs h4)
       have hO4 := Lib.hid (own_kp HO2.out hk4)
       have k4 := k2.trans hk4
       try go_wp2_with fail
       refine hK.out _ _ (HS.out _ k4) (fun hHeld => ?_)
       clear hK K
       try simp only [Act.put, sm]
       refine wpAnyH_ready (rs := [6]) (by kernel_rfl) (by simp) ?_
       refine AllReadyH.cons (o := _) rfl (fun K hK => ?_) AllReadyH.nil
       refine step_app (f := strVal) (by rfl) _ _ (wr.heap.size + 1) 68 9 (by rfl) i0 _ 1 16 Tryz.underlying68 hi hz0 hz1 hz2 rfl (by omega) (fun _ => rfl) (by simp [strVal, Value.oneCell']) _ _ _ (by rfl) hO4.out v5 (Ru.write 0 q.r.b) (by rfl) hI4.out (by unfold maxLen; simp; omega) (by simp; omega) (by have := k4.size; omega) ?_
       intro v6 w6 hown6 hgrow6 _
       have k6 : Kp W0 w6 none := Kp.row k4 hgrow6 (fun r hr => by have := (hO4.out.lt r hr).1; omega)
       refine hK.out _ _ (HS.out _ k6) (fun hHeld => ?_)
       clear hK K
       try simp only [Act.put, sm]
       refine tkH 7 rfl ?_
       try simp only [Act.put, sm]
       clear hHeld
       refine wpAnyH_done (by kernel_rfl) ?_ _
       go_wp2_with fail
       go_meet
       exact ⟨by
        have e1 : Ru.wordsOf q.r = wordsA q.r ++ [Ru.kwTo] ++ Ru.write 0 q.r.b := by rw [HLJ1.out]; simp
        rw [e1, List.length_append, List.length_append, List.flatMap_append, List.flatMap_append]; exact hown6, Lib.hid k6⟩
      ·have hjb : (((j : Int) + 1) == 1) = false := by rw [beq_eq_false_iff_ne]; omega
       have hLJ := HLJ.out
       rw [if_neg hj1, List.append_nil] at hLJ
       have HLJ1 := Lib.hid hLJ
       clear hj1 hLJ
       go_wp2_with fail
       go_meet
       exact ⟨by rw [HLJ1.out]; exact HO8.out, hk8⟩
     case rest =>
      obtain ⟨hownW, hkW⟩ := hcut
      have hline := Ru.line_len HGR.out
      have hjl : (Ru.joinB 32 (Ru.wordsOf q.r)).length ≤ 8900 := by unfold Ru.lineOf at hline; simp at hline; omega
      have hwn : (Ru.wordsOf q.r).length ≤ 140737488355328 := by
       rw [HLJ.out]; split
       ·simp; omega
       ·simp; omega
      have cJ := join_any (Ru.wordsOf q.r) u8 wc (wr.heap.size + 1) hownW (Ru.words_ne q.r) hwn (by omega)
      have hlo : Ru.lineOf q.r = Ru.joinB 32 (Ru.wordsOf q.r) ++ [10] := rfl
      have hcat : (⟨(Ru.joinB 32 (Ru.wordsOf q.r)).toArray⟩ : ByteArray) ++ ⟨#[10]⟩ = ⟨(Ru.lineOf q.r).toArray⟩ := by rw [hlo]; exact cat_eq _ [10]
      have hjn : ¬ 9223372036854775807 < List.length (Ru.joinB 32 (Ru.wordsOf q.r)) + 1 := by omega
      generalize Ru.joinB 32 (Ru.wordsOf q.r) = jn at cJ hcat hjn hjl
      generalize Ru.lineOf q.r = ln at hcat hline HTS
      have HBW := Lib.hid (bld_kp (bld_kp HB.out HKR.out) hkW.out)
      have hsW := hkW.out.size
      clear hownW hjl hwn hlo hc2 hwla hwlb
      go_wp2_with (first | (go_at_call 44; refine cJ.mono ?_; rintro e w5 ⟨rfl, hk5⟩; have HK5 := Lib.hid hk5; have hs5 := hk5.size) | (rw [hcat]) | (go_at_call 43; refine (bld_write w1.heap.size w1.heap.size _ ln _ (bld_kp HBW.out HK5.out) (by have := HTL.out; simp [Lib.byteCells]; omega) (by omega)).mono ?_; rintro e w6 ⟨rfl, hb6, hk6⟩))
      go_roundw
      case rel => exact ⟨k + 1, hlt, by go_num, Lib.hid (by rw [HTS.out, Lib.byteCells_append]; exact hb6), Lib.hid (kp_belowB (((HK.out.trans HKR.out).trans hkW.out).trans HK5.out) hk6 hbw), by have := hk6.size; omega⟩
      case measure => simp [intOf]; omega
   ·obtain rfl : k = n := by omega
    have hall : rs.take k = rs := List.take_of_length_le (by rw [← HRS.out, List.length_map, HN.out]; exact Nat.le_refl _)
    rw [hall] at HB
    go_wp2_with (go_at_call 45; refine (bld_string w1.heap.size w1.heap.size (Ru.textOf rs) wr HB.out hbr).mono ?_; rintro e w2 ⟨rfl, hk2⟩)
    go_ret2
    exact ⟨rfl, kp_belowB HK.out hk2 hbw⟩
 ·have hzb : (ck == 0) = false := by simpa using hz
  have hres : Ru.text rs = ([], ck) := by unfold Ru.text; rw [if_neg (by rw [HC.out]; exact hz), HC.out]
  rw [hres]
  clear hres hn hz
  go_enter Tryz.func15, Tryz.ntmps15
  go_wp2_with (go_at_call 13; refine hck.mono ?_; rintro e w1 ⟨rfl, hk1⟩)
  go_ret2
  exact ⟨rfl, hk1⟩
end Go.Proofs.YtnchipahdfbliaaGreatDoor
