/- The program's write: and, or; write whole. Conditions: what a machine holds. -/
import Derived.Test.YtnchipahdfbliaaGreatDoorWrt
namespace Go.Proofs.YtnchipahdfbliaaGreatDoor
open Go.RowKit

theorem wpList_app {α : Type} {f : α → List Value} {w : World} {ops : Array Oper} {rest : List Oper} {o : Oper} {a : Act} {Q : Exit → Act → World → Prop} (hgd : o.guard = none) (s xo : Operand) (base : Nat) (t e : TypeId)
  (ho : o.op = .call { callee := .builtin .append, args := #[s, xo], argTypes := #[t, t] }) (i : TypeInfo) (z : Value) (size bytes : Nat) (ht : Tryz.prog.underlying t = some (.slice e)) (hi : Tryz.prog.info? e = some i) (hz : i.zero = some z)
  (hsize : i.size = size) (hby : i.bytes = bytes) (hzs : z.cells.size = size) (hsz : 0 < size) (hm : ∀ x, (f x).length = size) (h1 : ∀ x, ∀ u ∈ f x, u.oneCell' = true)
  (v : Value) (n : Nat) (xs : List Value) (hs : a.eval s = v) (hown : w.ownsRow base e size v n xs) (x : Value) (ys : List α) (hxo : a.eval xo = x) (hx : IsList size f w x ys)
  (h63 : n + ys.length ≤ maxLen) (hbytes : (n + ys.length) * bytes ≤ 140737488355328) (hbase : base ≤ w.heap.size)
  (h : ∀ v' w', w'.ownsRow base e size v' (n + ys.length) (xs ++ ys.flatMap f) → w.grownBy w' v.ownBlock → (v'.ownBlock = v.ownBlock ∨ v'.ownBlock = some w.heap.size) → wpList Tryz.prog ops Q rest (a.put o.dst v') w') : wpList Tryz.prog ops Q (o :: rest) a w :=
 wpList_plain hgd fun _ hK => wp_app s xo base t e ho i z size bytes ht hi hz hsize hby hzs hsz hm h1 v n xs hs hown x ys hxo hx h63 hbytes hbase fun v' w' h2 h3 h4 => hK _ _ (h v' w' h2 h3 h4)
theorem writes_snoc (kw : Ru.Bytes) (op : Int) (c : Ru.Cond) : ∀ l : List Ru.Cond, Ru.writes kw op (l ++ [c]) = Ru.writes kw op l ++ (if l = [] then [] else [kw]) ++ Ru.write op c := by
 have hT : ∀ l : List Ru.Cond, Ru.writesT kw op (l ++ [c]) = Ru.writesT kw op l ++ kw :: Ru.write op c := by
  intro l
  induction l with
  | nil => simp [Ru.writesT]
  | cons d l ih => rw [List.cons_append, Ru.writesT_eq, Ru.writesT_eq, ih]; simp
 intro l
 cases l with
 | nil => simp [Ru.writes, Ru.writesT]
 | cons d l => rw [List.cons_append, Ru.writes_eq, Ru.writes_eq, hT]; simp
theorem writes_mono (kw : Ru.Bytes) (op : Int) : ∀ (l m : List Ru.Cond), (Ru.writes kw op l).length ≤ (Ru.writes kw op (l ++ m)).length := by
 intro l m
 induction m generalizing l with
 | nil => simp
 | cons c m ih =>
  have h := ih (l ++ [c])
  rw [List.append_assoc] at h
  refine Nat.le_trans ?_ h
  rw [writes_snoc]; simp
set_option maxHeartbeats 8000000 in
set_option maxRecDepth 100000 in
theorem write_l9 (ar : Int) (ps : List (Ru.Cond × Value)) (ao : Option Addr) (cap : Nat) (w : World) (hl : LiesAt 8 cC w ao cap ps) (hv : ∀ p ∈ ps, ∃ a m c, p.2 = .slice a m c) (hlen : (Ru.writes Ru.kwAnd 9 (ps.map (·.1))).length ≤ 1000000000) (hpl : ps.length ≤ 1000000000)
  (ih : ∀ p ∈ ps, ∀ u, Kp w u none → Calls Tryz.prog 42 #[.agg (cC p).toArray, .int .i64 9] u (OwnStrs (Ru.write 9 p.1) u)) : Calls Tryz.prog 42 #[.agg #[.int .i64 9, .string ⟨#[]⟩, .int .i64 0, .int .i64 0, .int .i64 0, .int .i64 0, .int .i64 0, .slice ao ps.length cap], .int .i64 ar] w (OwnStrs (Ru.inB (Ru.brk ar 9) (Ru.writes Ru.kwAnd 9 (ps.map (·.1)))) w) := by
 have hk1 : Kp w (w.alloc (.cells #[.int .i64 9, .string ⟨#[]⟩, .int .i64 0, .int .i64 0, .int .i64 0, .int .i64 0, .int .i64 0, .slice ao ps.length cap] 40)) none := (Kp.refl _ _).alloc _
 have HB := Lib.hid (heap_alloc_new w (.cells #[.int .i64 9, .string ⟨#[]⟩, .int .i64 0, .int .i64 0, .int .i64 0, .int .i64 0, .int .i64 0, .slice ao ps.length cap] 40))
 have HK1 := Lib.hid hk1
 have HLA := Lib.hid (hl.keep hk1)
 have HIH := Lib.hid ih
 have HV := Lib.hid hv
 have HLEN := Lib.hid hlen
 have hH1 : (w.alloc (.cells #[.int .i64 9, .string ⟨#[]⟩, .int .i64 0, .int .i64 0, .int .i64 0, .int .i64 0, .int .i64 0, .slice ao ps.length cap] 40)).heap.size = w.heap.size + 1 := by simp
 obtain ⟨n, hn⟩ : ∃ n, ps.length = n := ⟨_, rfl⟩
 obtain ⟨i0, hi, hz0, hz1, hz2⟩ := info_parts info9
 rw [hn] at HB HK1 HLA hH1 hpl ⊢
 have HN := Lib.hid hn
 have hn0 : (0 : Int) ≤ (n : Int) := by omega
 clear hl ih hv hlen hk1 hn
 go_enter Tryz.func42, Tryz.ntmps42
 go_wp2_with fail
 generalize hW : w.alloc (.cells #[.int .i64 9, .string ⟨#[]⟩, .int .i64 0, .int .i64 0, .int .i64 0, .int .i64 0, .int .i64 0, .slice ao n cap] 40) = W0 at *
 clear hW
 have HC0 : Hid (∀ V, Kp W0 V none → V.cell? ⟨w.heap.size, 0, none⟩ = some (.int .i64 9)) := Lib.hid fun V hV => ckr HB.out hV (by simp) 0 rfl
 have hw0 : (Ru.writes Ru.kwAnd 9 ((ps.take 0).map (·.1))) = [] := by simp [Ru.writes]
 go_loopw [89, 5] (fun i lv wr => ∃ (k : Nat) (L : List (List UInt8)), k ≤ n ∧ i = .int .i64 (k : Int) ∧ Hid (L = Ru.writes Ru.kwAnd 9 ((ps.take k).map (·.1))) ∧ wr.ownsRow (w.heap.size + 1) 9 1 lv L.length (L.flatMap strVal) ∧ Hid (Kp W0 wr none)) (fun i _ _ => n - (intOf i).toNat)
 case atStart => exact ⟨0, [], by omega, rfl, Lib.hid hw0.symm, ⟨rfl, .inl ⟨rfl, rfl⟩⟩, Lib.hid (Kp.refl _ _)⟩
 case round =>
  obtain ⟨k, L, hk, rfl, HL, hown, HK⟩ := hrel
  have HOW := Lib.hid hown
  clear hown hw0
  have hk0 : (0 : Int) ≤ (k : Int) := by omega
  have hc0 := HC0.out wr HK.out
  have hzw := HK.out.size
  by_cases hlt : k < n
  ·have hk1 : (k : Int) < (n : Int) := by omega
   have hltp : k < ps.length := by rw [HN.out]; exact hlt
   obtain ⟨q, hq⟩ : ∃ q, ps[k] = q := ⟨_, rfl⟩
   have hmem : q ∈ ps := by rw [← hq]; exact List.getElem_mem hltp
   obtain ⟨a3, m3, p3, hq2⟩ := HV.out q hmem
   obtain ⟨b, off, hao, _, hrg⟩ := (HLA.out.keep HK.out).range k hltp hq
   have hXE : cC q = #[.int .i64 q.1.op, str q.1.text, .int .i64 q.1.n, .int .i64 q.1.box.x0, .int .i64 q.1.box.y0, .int .i64 q.1.box.x1, .int .i64 q.1.box.y1, .slice a3 m3 p3].toList := by unfold cC; rw [hq2]
   have HRG : Hid (wr.rangeAt b (off + k * 8) #[.int .i64 q.1.op, str q.1.text, .int .i64 q.1.n, .int .i64 q.1.box.x0, .int .i64 q.1.box.y0, .int .i64 q.1.box.x1, .int .i64 q.1.box.y1, .slice a3 m3 p3].toList) := Lib.hid (by rw [← hXE]; exact hrg)
   have cI : ∀ u, Kp w u none → Calls Tryz.prog 42 #[.agg #[.int .i64 q.1.op, str q.1.text, .int .i64 q.1.n, .int .i64 q.1.box.x0, .int .i64 q.1.box.y0, .int .i64 q.1.box.x1, .int .i64 q.1.box.y1, .slice a3 m3 p3], .int .i64 9] u (OwnStrs (Ru.write 9 q.1) u) := fun u hu => by have h := HIH.out q hmem u hu; rw [hXE] at h; exact h
   have HCI := Lib.hid cI
   have HLN : Hid (Ru.writes Ru.kwAnd 9 ((ps.take (k + 1)).map (·.1)) = L ++ (if k = 0 then [] else [Ru.kwAnd]) ++ Ru.write 9 q.1) := Lib.hid (by
    rw [List.take_succ_eq_append_getElem hltp, List.map_append, hq]
    have h := writes_snoc Ru.kwAnd 9 q.1 ((ps.take k).map (·.1))
    rw [← HL.out] at h
    have e : (((ps.take k).map (·.1)) = []) = (k = 0) := by
     rw [eq_iff_iff, List.map_eq_nil_iff, List.take_eq_nil_iff]
     constructor
     ·rintro (h | h)
      ·exact h
      ·rw [h] at hltp; simp at hltp
     ·exact .inl
    simp only [e] at h
    exact h)
   have hbd : (L ++ (if k = 0 then [] else [Ru.kwAnd]) ++ Ru.write 9 q.1).length ≤ 1000000000 := by
    rw [← HLN.out]
    refine Nat.le_trans (writes_mono _ _ _ ((ps.drop (k + 1)).map (·.1))) ?_
    rw [← List.map_append, List.take_append_drop]; exact HLEN.out
   subst hao
   clear hq hmem hq2 hrg hXE hltp cI
   by_cases hk00 : k = 0
   ·subst hk00
    have HLN2 := HLN.out
    rw [if_pos rfl, List.append_nil] at HLN2
    rw [if_pos rfl, List.append_nil, List.length_append] at hbd
    have HL2 := Lib.hid HLN2
    have hcm : L.length + (Ru.write 9 q.1).length ≤ maxLen := by unfold maxLen; omega
    have hcb : (L.length + (Ru.write 9 q.1).length) * 16 ≤ 140737488355328 := by omega
    have hc0a := HC0.out _ (HK.out.alloc (.cells #[.int .i64 q.1.op, str q.1.text, .int .i64 q.1.n, .int .i64 q.1.box.x0, .int .i64 q.1.box.y0, .int .i64 q.1.box.x1, .int .i64 q.1.box.y1, .slice a3 m3 p3] 40))
    have hKX : Kp w (wr.alloc (.cells #[.int .i64 q.1.op, str q.1.text, .int .i64 q.1.n, .int .i64 q.1.box.x0, .int .i64 q.1.box.y0, .int .i64 q.1.box.x1, .int .i64 q.1.box.y1, .slice a3 m3 p3] 40)) none := (HK1.out.trans HK.out).alloc _
    have HKX := Lib.hid hKX
    have HRG0 := HRG.out
    rw [Nat.zero_mul, Nat.add_zero] at HRG0
    have HRG1 := Lib.hid HRG0
    clear HLN2 HLN hbd hKX HRG0 HRG
    go_wp2_with (first | (refine wpList_load_mid (by rfl) 40 _ (by rfl) b off (by rfl) #[.int .i64 q.1.op, str q.1.text, .int .i64 q.1.n, .int .i64 q.1.box.x0, .int .i64 q.1.box.y0, .int .i64 q.1.box.x1, .int .i64 q.1.box.y1, .slice a3 m3 p3].toList _ HRG1.out Tryz.underlying40 (by rfl) info40s ?_) | (refine wpList_store_new (by rfl) 40 _ _ (by rfl) #[.int .i64 0, .string ⟨#[]⟩, .int .i64 0, .int .i64 0, .int .i64 0, .int .i64 0, .int .i64 0, .slice none 0 0] #[.int .i64 q.1.op, str q.1.text, .int .i64 q.1.n, .int .i64 q.1.box.x0, .int .i64 q.1.box.y0, .int .i64 q.1.box.x1, .int .i64 q.1.box.y1, .slice a3 m3 p3] 40 (by rfl) (by rfl) rfl info40s (by rfl) (by simp [Value.oneCell']) ?_; have HRG2 := Lib.hid (range_blk (heap_alloc_new wr (.cells #[.int .i64 q.1.op, str q.1.text, .int .i64 q.1.n, .int .i64 q.1.box.x0, .int .i64 q.1.box.y0, .int .i64 q.1.box.x1, .int .i64 q.1.box.y1, .slice a3 m3 p3] 40)))) | (refine wpList_load_mid (by rfl) 40 _ (by rfl) wr.heap.size 0 (by rfl) #[.int .i64 q.1.op, str q.1.text, .int .i64 q.1.n, .int .i64 q.1.box.x0, .int .i64 q.1.box.y0, .int .i64 q.1.box.x1, .int .i64 q.1.box.y1, .slice a3 m3 p3].toList _ HRG2.out Tryz.underlying40 (by rfl) info40s ?_) | (go_at_call 42; refine (HCI.out _ HKX.out).mono ?_; rintro e w3 ⟨v3, rfl, h3, hk3⟩; have hI3 := Lib.hid (own_isStrs h3); have hz3 := hk3.size) | (at_builtin; go_must (refine wpList_app (f := strVal) (by rfl) _ _ (w.heap.size + 1) 68 9 (by rfl) i0 _ 1 16 Tryz.underlying68 hi hz0 hz1 hz2 rfl (by omega) (fun _ => rfl) (by simp [strVal, Value.oneCell']) _ L.length (L.flatMap strVal) (by rfl) (own_kp HOW.out (((Kp.refl wr none).alloc _).trans hk3)) v3 (Ru.write 9 q.1) (by rfl) hI3.out hcm hcb (by simp at hz3; omega) ?_)))
    intro v5 w5 hown5 hgrow5 _
    have hK5 : Kp W0 w5 none := Kp.row ((HK.out.alloc _).trans hk3) hgrow5 (fun r hr => by have := (HOW.out.lt r hr).1; omega)
    have HOW5 : Hid (w5.ownsRow (w.heap.size + 1) 9 1 v5 (L ++ Ru.write 9 q.1).length ((L ++ Ru.write 9 q.1).flatMap strVal)) := Lib.hid (by rw [List.length_append, List.flatMap_append]; exact hown5)
    generalize (L ++ Ru.write 9 q.1) = L2 at HOW5 HL2
    have HK5 := Lib.hid hK5
    clear hown5 hgrow5 hK5
    go_wp2_with fail
    go_roundw
    case rel => exact ⟨0 + 1, L2, by omega, by go_num, Lib.hid HL2.out.symm, HOW5.out, HK5⟩
    case measure => simp [intOf]; omega
   ·have hkp : (0 : Int) < (k : Int) := by omega
    have HLN2 := HLN.out
    rw [if_neg hk00] at HLN2
    rw [if_neg hk00, List.length_append, List.length_append, List.length_singleton] at hbd
    have HL2 := Lib.hid HLN2
    have hcw : L.length + [Ru.kwAnd].length ≤ maxLen := by unfold maxLen; simp; omega
    have hcw2 : (L.length + [Ru.kwAnd].length) * 16 ≤ 140737488355328 := by simp; omega
    have hcm : L.length + 1 + (Ru.write 9 q.1).length ≤ maxLen := by unfold maxLen; omega
    have hcb : (L.length + 1 + (Ru.write 9 q.1).length) * 16 ≤ 140737488355328 := by omega
    clear HLN2 HLN hbd hk00
    go_wp2_with (first | (refine wpList_load_mid (by rfl) 40 _ (by rfl) b (off + k * 8) (by rfl) #[.int .i64 q.1.op, str q.1.text, .int .i64 q.1.n, .int .i64 q.1.box.x0, .int .i64 q.1.box.y0, .int .i64 q.1.box.x1, .int .i64 q.1.box.y1, .slice a3 m3 p3].toList _ HRG.out Tryz.underlying40 (by rfl) info40s ?_) | (refine wpList_store_new (by rfl) 40 _ _ (by rfl) #[.int .i64 0, .string ⟨#[]⟩, .int .i64 0, .int .i64 0, .int .i64 0, .int .i64 0, .int .i64 0, .slice none 0 0] #[.int .i64 q.1.op, str q.1.text, .int .i64 q.1.n, .int .i64 q.1.box.x0, .int .i64 q.1.box.y0, .int .i64 q.1.box.x1, .int .i64 q.1.box.y1, .slice a3 m3 p3] 40 (by rfl) (by rfl) rfl info40s (by rfl) (by simp [Value.oneCell']) ?_) | (at_builtin; go_must (refine wpList_app (f := strVal) (by rfl) _ _ (w.heap.size + 1) 68 9 (by rfl) i0 _ 1 16 Tryz.underlying68 hi hz0 hz1 hz2 rfl (by omega) (fun _ => rfl) (by simp [strVal, Value.oneCell']) _ L.length (L.flatMap strVal) (by rfl) (own_kp HOW.out (((Kp.refl wr none).alloc _).alloc _)) (.slice (some ⟨wr.heap.size + 1, 0, none⟩) 1 1) [Ru.kwAnd] (by rfl) (by have h := str_list (w := wr.alloc (.cells #[.int .i64 q.1.op, str q.1.text, .int .i64 q.1.n, .int .i64 q.1.box.x0, .int .i64 q.1.box.y0, .int .i64 q.1.box.x1, .int .i64 q.1.box.y1, .slice a3 m3 p3] 40)) Ru.kwAnd; rw [show (wr.alloc (.cells #[.int .i64 q.1.op, str q.1.text, .int .i64 q.1.n, .int .i64 q.1.box.x0, .int .i64 q.1.box.y0, .int .i64 q.1.box.x1, .int .i64 q.1.box.y1, .slice a3 m3 p3] 40)).heap.size = wr.heap.size + 1 by simp] at h; exact h) hcw hcw2 (by simp; omega) ?_)))
    intro v1 w1 hown1 hgrow1 _
    have hlt1 := hgrow1.size
    have hrb : w1.heap[wr.heap.size]? = some (.cells #[.int .i64 q.1.op, str q.1.text, .int .i64 q.1.n, .int .i64 q.1.box.x0, .int .i64 q.1.box.y0, .int .i64 q.1.box.x1, .int .i64 q.1.box.y1, .slice a3 m3 p3] 40 (0, 0)) := res_kept (res_kept (heap_alloc_new wr (.cells #[.int .i64 q.1.op, str q.1.text, .int .i64 q.1.n, .int .i64 q.1.box.x0, .int .i64 q.1.box.y0, .int .i64 q.1.box.x1, .int .i64 q.1.box.y1, .slice a3 m3 p3] 40)) ((Kp.refl _ none).alloc _) (by simp)) hgrow1 (fun r hr => by have := (HOW.out.lt r hr).2; omega)
    have HRG2 := Lib.hid (range_blk hrb)
    have hK1 : Kp W0 w1 none := Kp.row (((HK.out.alloc _)).alloc _) hgrow1 (fun r hr => by have := (HOW.out.lt r hr).1; omega)
    have HKW := Lib.hid hK1
    have hc1 := HC0.out w1 hK1
    have HOW1 : Hid (w1.ownsRow (w.heap.size + 1) 9 1 v1 (L.length + 1) (L.flatMap strVal ++ [Ru.kwAnd].flatMap strVal)) := Lib.hid hown1
    have hzz := hK1.size
    clear hown1 hgrow1 hrb hK1
    go_wp2_with (first | (refine wpList_load_mid (by rfl) 40 _ (by rfl) wr.heap.size 0 (by rfl) #[.int .i64 q.1.op, str q.1.text, .int .i64 q.1.n, .int .i64 q.1.box.x0, .int .i64 q.1.box.y0, .int .i64 q.1.box.x1, .int .i64 q.1.box.y1, .slice a3 m3 p3].toList _ HRG2.out Tryz.underlying40 (by rfl) info40s ?_) | (go_at_call 42; refine (HCI.out _ (HK1.out.trans HKW.out)).mono ?_; rintro e w3 ⟨v3, rfl, h3, hk3⟩; have hI3 := Lib.hid (own_isStrs h3); have hz3 := hk3.size) | (at_builtin; go_must (refine wpList_app (f := strVal) (by rfl) _ _ (w.heap.size + 1) 68 9 (by rfl) i0 _ 1 16 Tryz.underlying68 hi hz0 hz1 hz2 rfl (by omega) (fun _ => rfl) (by simp [strVal, Value.oneCell']) _ (L.length + 1) _ (by rfl) (own_kp HOW1.out hk3) v3 (Ru.write 9 q.1) (by rfl) hI3.out hcm hcb (by omega) ?_)))
    intro v5 w5 hown5 hgrow5 _
    have hK5 : Kp W0 w5 none := Kp.row (HKW.out.trans hk3) hgrow5 (fun r hr => by have := (HOW1.out.lt r hr).1; omega)
    have HOW5 : Hid (w5.ownsRow (w.heap.size + 1) 9 1 v5 (L ++ [Ru.kwAnd] ++ Ru.write 9 q.1).length ((L ++ [Ru.kwAnd] ++ Ru.write 9 q.1).flatMap strVal)) := Lib.hid (by rw [List.length_append, List.length_append, List.flatMap_append, List.flatMap_append, List.append_assoc]; exact hown5)
    generalize (L ++ [Ru.kwAnd] ++ Ru.write 9 q.1) = L2 at HOW5 HL2
    have HK5 := Lib.hid hK5
    clear hown5 hgrow5 hK5
    go_wp2_with fail
    go_roundw
    case rel => exact ⟨k + 1, L2, by omega, by go_num, Lib.hid HL2.out.symm, HOW5.out, HK5⟩
    case measure => simp [intOf]; omega
  ·obtain rfl : k = n := by omega
   have hLe : L = Ru.writes Ru.kwAnd 9 (ps.map (·.1)) := by rw [HL.out, List.take_of_length_le (by rw [HN.out]; exact Nat.le_refl _)]
   rw [← hLe] at HLEN
   have hL9 := HLEN.out
   have HLE := Lib.hid hLe
   have HKF := Lib.hid (HK1.out.trans HK.out)
   clear hLe HL
   by_cases ha0 : ar = 0
   ·have HRES : Hid (Ru.inB (Ru.brk ar 9) (Ru.writes Ru.kwAnd 9 (ps.map (·.1))) = L) := Lib.hid (by rw [ha0, ← HLE.out]; rfl)
    subst ha0
    go_wp2_with fail
    go_ret
    rw [HRES.out]
    exact ⟨_, rfl, own_base_le HOW.out (by omega), HKF.out⟩
   ·by_cases ha10 : ar = 10
    ·have HRES : Hid (Ru.inB (Ru.brk ar 9) (Ru.writes Ru.kwAnd 9 (ps.map (·.1))) = L) := Lib.hid (by rw [ha10, ← HLE.out]; rfl)
     subst ha10
     clear ha0
     go_wp2_with fail
     go_ret
     rw [HRES.out]
     exact ⟨_, rfl, own_base_le HOW.out (by omega), HKF.out⟩
    ·have HRES : Hid (Ru.inB (Ru.brk ar 9) (Ru.writes Ru.kwAnd 9 (ps.map (·.1))) = Ru.kwL :: L ++ [Ru.kwR]) := Lib.hid (by rw [show Ru.brk ar 9 = true by simp [Ru.brk, ha0, ha10], Ru.inB_true, ← HLE.out])
     have hb1 : (ar != 0) = true := by simp [bne, ha0]
     have hb2 : (ar != 10) = true := by simp [bne, ha10]
     clear ha0 ha10
     have hOL : Hid ((wr.alloc (.cells #[.string ⟨#[40]⟩] 9)).ownsRow (w.heap.size + 1) 9 1 (.slice (some ⟨wr.heap.size, 0, none⟩) 1 1) 1 ([Ru.kwL].flatMap strVal)) := Lib.hid (own_strs [Ru.kwL] (by omega) (by simp))
     have hIL : Hid (IsStrs (wr.alloc (.cells #[.string ⟨#[40]⟩] 9)) u5 L) := Lib.hid ((own_isStrs HOW.out).keep ((Kp.refl wr none).alloc _))
     go_wp2_with (at_builtin; go_must (refine wpList_app (f := strVal) (by rfl) _ _ (w.heap.size + 1) 68 9 (by rfl) i0 _ 1 16 Tryz.underlying68 hi hz0 hz1 hz2 rfl (by omega) (fun _ => rfl) (by simp [strVal, Value.oneCell']) _ 1 _ (by rfl) hOL.out _ L (by rfl) hIL.out (by unfold maxLen; omega) (by omega) (by simp; omega) ?_))
     intro v1 w1 hown1 hgrow1 _
     have HOW1 := Lib.hid hown1
     have hz1s := hgrow1.size
     have HK1' : Hid (Kp W0 w1 none) := Lib.hid (Kp.row (HK.out.alloc _) hgrow1 (fun r hr => by have := (hOL.out.lt r hr).1; omega))
     have hzz := HK1'.out.size
     clear hown1 hgrow1 hOL hIL
     go_wp2_with (at_builtin; go_must (refine wpList_app (f := strVal) (by rfl) _ _ (w.heap.size + 1) 68 9 (by rfl) i0 _ 1 16 Tryz.underlying68 hi hz0 hz1 hz2 rfl (by omega) (fun _ => rfl) (by simp [strVal, Value.oneCell']) _ (1 + L.length) _ (by rfl) (own_kp HOW1.out ((Kp.refl w1 none).alloc _)) (.slice (some ⟨w1.heap.size, 0, none⟩) 1 1) [Ru.kwR] (by rfl) (str_list (w := w1) Ru.kwR) (by unfold maxLen; simp; omega) (by simp; omega) (by simp; omega) ?_))
     intro v2 w2 hown2 hgrow2 _
     have hKF : Kp W0 w2 none := Kp.row (HK1'.out.alloc _) hgrow2 (fun r hr => by have := (HOW1.out.lt r hr).1; omega)
     go_wp2_with fail
     go_ret
     rw [HRES.out]
     refine ⟨_, rfl, ?_, HK1.out.trans hKF⟩
     have e : (Ru.kwL :: L ++ [Ru.kwR]).length = 1 + L.length + [Ru.kwR].length := by simp; omega
     have e2 : (Ru.kwL :: L ++ [Ru.kwR]).flatMap strVal = [Ru.kwL].flatMap strVal ++ L.flatMap strVal ++ [Ru.kwR].flatMap strVal := by simp [List.flatMap_append]
     rw [e, e2]
     exact own_base_le hown2 (by omega)
set_option maxHeartbeats 8000000 in
set_option maxRecDepth 100000 in
theorem write_l10 (ar : Int) (ps : List (Ru.Cond × Value)) (ao : Option Addr) (cap : Nat) (w : World) (hl : LiesAt 8 cC w ao cap ps) (hv : ∀ p ∈ ps, ∃ a m c, p.2 = .slice a m c) (hlen : (Ru.writes Ru.kwOr 10 (ps.map (·.1))).length ≤ 1000000000) (hpl : ps.length ≤ 1000000000)
  (ih : ∀ p ∈ ps, ∀ u, Kp w u none → Calls Tryz.prog 42 #[.agg (cC p).toArray, .int .i64 10] u (OwnStrs (Ru.write 10 p.1) u)) : Calls Tryz.prog 42 #[.agg #[.int .i64 10, .string ⟨#[]⟩, .int .i64 0, .int .i64 0, .int .i64 0, .int .i64 0, .int .i64 0, .slice ao ps.length cap], .int .i64 ar] w (OwnStrs (Ru.inB (Ru.brk ar 10) (Ru.writes Ru.kwOr 10 (ps.map (·.1)))) w) := by
 have hk1 : Kp w (w.alloc (.cells #[.int .i64 10, .string ⟨#[]⟩, .int .i64 0, .int .i64 0, .int .i64 0, .int .i64 0, .int .i64 0, .slice ao ps.length cap] 40)) none := (Kp.refl _ _).alloc _
 have HB := Lib.hid (heap_alloc_new w (.cells #[.int .i64 10, .string ⟨#[]⟩, .int .i64 0, .int .i64 0, .int .i64 0, .int .i64 0, .int .i64 0, .slice ao ps.length cap] 40))
 have HK1 := Lib.hid hk1
 have HLA := Lib.hid (hl.keep hk1)
 have HIH := Lib.hid ih
 have HV := Lib.hid hv
 have HLEN := Lib.hid hlen
 have hH1 : (w.alloc (.cells #[.int .i64 10, .string ⟨#[]⟩, .int .i64 0, .int .i64 0, .int .i64 0, .int .i64 0, .int .i64 0, .slice ao ps.length cap] 40)).heap.size = w.heap.size + 1 := by simp
 obtain ⟨n, hn⟩ : ∃ n, ps.length = n := ⟨_, rfl⟩
 obtain ⟨i0, hi, hz0, hz1, hz2⟩ := info_parts info9
 rw [hn] at HB HK1 HLA hH1 hpl ⊢
 have HN := Lib.hid hn
 have hn0 : (0 : Int) ≤ (n : Int) := by omega
 clear hl ih hv hlen hk1 hn
 go_enter Tryz.func42, Tryz.ntmps42
 go_wp2_with fail
 generalize hW : w.alloc (.cells #[.int .i64 10, .string ⟨#[]⟩, .int .i64 0, .int .i64 0, .int .i64 0, .int .i64 0, .int .i64 0, .slice ao n cap] 40) = W0 at *
 clear hW
 have HC0 : Hid (∀ V, Kp W0 V none → V.cell? ⟨w.heap.size, 0, none⟩ = some (.int .i64 10)) := Lib.hid fun V hV => ckr HB.out hV (by simp) 0 rfl
 have hw0 : (Ru.writes Ru.kwOr 10 ((ps.take 0).map (·.1))) = [] := by simp [Ru.writes]
 go_loopw [89, 5] (fun i lv wr => ∃ (k : Nat) (L : List (List UInt8)), k ≤ n ∧ i = .int .i64 (k : Int) ∧ Hid (L = Ru.writes Ru.kwOr 10 ((ps.take k).map (·.1))) ∧ wr.ownsRow (w.heap.size + 1) 9 1 lv L.length (L.flatMap strVal) ∧ Hid (Kp W0 wr none)) (fun i _ _ => n - (intOf i).toNat)
 case atStart => exact ⟨0, [], by omega, rfl, Lib.hid hw0.symm, ⟨rfl, .inl ⟨rfl, rfl⟩⟩, Lib.hid (Kp.refl _ _)⟩
 case round =>
  obtain ⟨k, L, hk, rfl, HL, hown, HK⟩ := hrel
  have HOW := Lib.hid hown
  clear hown hw0
  have hk0 : (0 : Int) ≤ (k : Int) := by omega
  have hc0 := HC0.out wr HK.out
  have hzw := HK.out.size
  by_cases hlt : k < n
  ·have hk1 : (k : Int) < (n : Int) := by omega
   have hltp : k < ps.length := by rw [HN.out]; exact hlt
   obtain ⟨q, hq⟩ : ∃ q, ps[k] = q := ⟨_, rfl⟩
   have hmem : q ∈ ps := by rw [← hq]; exact List.getElem_mem hltp
   obtain ⟨a3, m3, p3, hq2⟩ := HV.out q hmem
   obtain ⟨b, off, hao, _, hrg⟩ := (HLA.out.keep HK.out).range k hltp hq
   have hXE : cC q = #[.int .i64 q.1.op, str q.1.text, .int .i64 q.1.n, .int .i64 q.1.box.x0, .int .i64 q.1.box.y0, .int .i64 q.1.box.x1, .int .i64 q.1.box.y1, .slice a3 m3 p3].toList := by unfold cC; rw [hq2]
   have HRG : Hid (wr.rangeAt b (off + k * 8) #[.int .i64 q.1.op, str q.1.text, .int .i64 q.1.n, .int .i64 q.1.box.x0, .int .i64 q.1.box.y0, .int .i64 q.1.box.x1, .int .i64 q.1.box.y1, .slice a3 m3 p3].toList) := Lib.hid (by rw [← hXE]; exact hrg)
   have cI : ∀ u, Kp w u none → Calls Tryz.prog 42 #[.agg #[.int .i64 q.1.op, str q.1.text, .int .i64 q.1.n, .int .i64 q.1.box.x0, .int .i64 q.1.box.y0, .int .i64 q.1.box.x1, .int .i64 q.1.box.y1, .slice a3 m3 p3], .int .i64 10] u (OwnStrs (Ru.write 10 q.1) u) := fun u hu => by have h := HIH.out q hmem u hu; rw [hXE] at h; exact h
   have HCI := Lib.hid cI
   have HLN : Hid (Ru.writes Ru.kwOr 10 ((ps.take (k + 1)).map (·.1)) = L ++ (if k = 0 then [] else [Ru.kwOr]) ++ Ru.write 10 q.1) := Lib.hid (by
    rw [List.take_succ_eq_append_getElem hltp, List.map_append, hq]
    have h := writes_snoc Ru.kwOr 10 q.1 ((ps.take k).map (·.1))
    rw [← HL.out] at h
    have e : (((ps.take k).map (·.1)) = []) = (k = 0) := by
     rw [eq_iff_iff, List.map_eq_nil_iff, List.take_eq_nil_iff]
     constructor
     ·rintro (h | h)
      ·exact h
      ·rw [h] at hltp; simp at hltp
     ·exact .inl
    simp only [e] at h
    exact h)
   have hbd : (L ++ (if k = 0 then [] else [Ru.kwOr]) ++ Ru.write 10 q.1).length ≤ 1000000000 := by
    rw [← HLN.out]
    refine Nat.le_trans (writes_mono _ _ _ ((ps.drop (k + 1)).map (·.1))) ?_
    rw [← List.map_append, List.take_append_drop]; exact HLEN.out
   subst hao
   clear hq hmem hq2 hrg hXE hltp cI
   by_cases hk00 : k = 0
   ·subst hk00
    have HLN2 := HLN.out
    rw [if_pos rfl, List.append_nil] at HLN2
    rw [if_pos rfl, List.append_nil, List.length_append] at hbd
    have HL2 := Lib.hid HLN2
    have hcm : L.length + (Ru.write 10 q.1).length ≤ maxLen := by unfold maxLen; omega
    have hcb : (L.length + (Ru.write 10 q.1).length) * 16 ≤ 140737488355328 := by omega
    have hc0a := HC0.out _ (HK.out.alloc (.cells #[.int .i64 q.1.op, str q.1.text, .int .i64 q.1.n, .int .i64 q.1.box.x0, .int .i64 q.1.box.y0, .int .i64 q.1.box.x1, .int .i64 q.1.box.y1, .slice a3 m3 p3] 40))
    have hKX : Kp w (wr.alloc (.cells #[.int .i64 q.1.op, str q.1.text, .int .i64 q.1.n, .int .i64 q.1.box.x0, .int .i64 q.1.box.y0, .int .i64 q.1.box.x1, .int .i64 q.1.box.y1, .slice a3 m3 p3] 40)) none := (HK1.out.trans HK.out).alloc _
    have HKX := Lib.hid hKX
    have HRG0 := HRG.out
    rw [Nat.zero_mul, Nat.add_zero] at HRG0
    have HRG1 := Lib.hid HRG0
    clear HLN2 HLN hbd hKX HRG0 HRG
    go_wp2_with (first | (refine wpList_load_mid (by rfl) 40 _ (by rfl) b off (by rfl) #[.int .i64 q.1.op, str q.1.text, .int .i64 q.1.n, .int .i64 q.1.box.x0, .int .i64 q.1.box.y0, .int .i64 q.1.box.x1, .int .i64 q.1.box.y1, .slice a3 m3 p3].toList _ HRG1.out Tryz.underlying40 (by rfl) info40s ?_) | (refine wpList_store_new (by rfl) 40 _ _ (by rfl) #[.int .i64 0, .string ⟨#[]⟩, .int .i64 0, .int .i64 0, .int .i64 0, .int .i64 0, .int .i64 0, .slice none 0 0] #[.int .i64 q.1.op, str q.1.text, .int .i64 q.1.n, .int .i64 q.1.box.x0, .int .i64 q.1.box.y0, .int .i64 q.1.box.x1, .int .i64 q.1.box.y1, .slice a3 m3 p3] 40 (by rfl) (by rfl) rfl info40s (by rfl) (by simp [Value.oneCell']) ?_; have HRG2 := Lib.hid (range_blk (heap_alloc_new wr (.cells #[.int .i64 q.1.op, str q.1.text, .int .i64 q.1.n, .int .i64 q.1.box.x0, .int .i64 q.1.box.y0, .int .i64 q.1.box.x1, .int .i64 q.1.box.y1, .slice a3 m3 p3] 40)))) | (refine wpList_load_mid (by rfl) 40 _ (by rfl) wr.heap.size 0 (by rfl) #[.int .i64 q.1.op, str q.1.text, .int .i64 q.1.n, .int .i64 q.1.box.x0, .int .i64 q.1.box.y0, .int .i64 q.1.box.x1, .int .i64 q.1.box.y1, .slice a3 m3 p3].toList _ HRG2.out Tryz.underlying40 (by rfl) info40s ?_) | (go_at_call 42; refine (HCI.out _ HKX.out).mono ?_; rintro e w3 ⟨v3, rfl, h3, hk3⟩; have hI3 := Lib.hid (own_isStrs h3); have hz3 := hk3.size) | (at_builtin; go_must (refine wpList_app (f := strVal) (by rfl) _ _ (w.heap.size + 1) 68 9 (by rfl) i0 _ 1 16 Tryz.underlying68 hi hz0 hz1 hz2 rfl (by omega) (fun _ => rfl) (by simp [strVal, Value.oneCell']) _ L.length (L.flatMap strVal) (by rfl) (own_kp HOW.out (((Kp.refl wr none).alloc _).trans hk3)) v3 (Ru.write 10 q.1) (by rfl) hI3.out hcm hcb (by simp at hz3; omega) ?_)))
    intro v5 w5 hown5 hgrow5 _
    have hK5 : Kp W0 w5 none := Kp.row ((HK.out.alloc _).trans hk3) hgrow5 (fun r hr => by have := (HOW.out.lt r hr).1; omega)
    have HOW5 : Hid (w5.ownsRow (w.heap.size + 1) 9 1 v5 (L ++ Ru.write 10 q.1).length ((L ++ Ru.write 10 q.1).flatMap strVal)) := Lib.hid (by rw [List.length_append, List.flatMap_append]; exact hown5)
    generalize (L ++ Ru.write 10 q.1) = L2 at HOW5 HL2
    have HK5 := Lib.hid hK5
    clear hown5 hgrow5 hK5
    go_wp2_with fail
    go_roundw
    case rel => exact ⟨0 + 1, L2, by omega, by go_num, Lib.hid HL2.out.symm, HOW5.out, HK5⟩
    case measure => simp [intOf]; omega
   ·have hkp : (0 : Int) < (k : Int) := by omega
    have HLN2 := HLN.out
    rw [if_neg hk00] at HLN2
    rw [if_neg hk00, List.length_append, List.length_append, List.length_singleton] at hbd
    have HL2 := Lib.hid HLN2
    have hcw : L.length + [Ru.kwOr].length ≤ maxLen := by unfold maxLen; simp; omega
    have hcw2 : (L.length + [Ru.kwOr].length) * 16 ≤ 140737488355328 := by simp; omega
    have hcm : L.length + 1 + (Ru.write 10 q.1).length ≤ maxLen := by unfold maxLen; omega
    have hcb : (L.length + 1 + (Ru.write 10 q.1).length) * 16 ≤ 140737488355328 := by omega
    clear HLN2 HLN hbd hk00
    go_wp2_with (first | (refine wpList_load_mid (by rfl) 40 _ (by rfl) b (off + k * 8) (by rfl) #[.int .i64 q.1.op, str q.1.text, .int .i64 q.1.n, .int .i64 q.1.box.x0, .int .i64 q.1.box.y0, .int .i64 q.1.box.x1, .int .i64 q.1.box.y1, .slice a3 m3 p3].toList _ HRG.out Tryz.underlying40 (by rfl) info40s ?_) | (refine wpList_store_new (by rfl) 40 _ _ (by rfl) #[.int .i64 0, .string ⟨#[]⟩, .int .i64 0, .int .i64 0, .int .i64 0, .int .i64 0, .int .i64 0, .slice none 0 0] #[.int .i64 q.1.op, str q.1.text, .int .i64 q.1.n, .int .i64 q.1.box.x0, .int .i64 q.1.box.y0, .int .i64 q.1.box.x1, .int .i64 q.1.box.y1, .slice a3 m3 p3] 40 (by rfl) (by rfl) rfl info40s (by rfl) (by simp [Value.oneCell']) ?_) | (at_builtin; go_must (refine wpList_app (f := strVal) (by rfl) _ _ (w.heap.size + 1) 68 9 (by rfl) i0 _ 1 16 Tryz.underlying68 hi hz0 hz1 hz2 rfl (by omega) (fun _ => rfl) (by simp [strVal, Value.oneCell']) _ L.length (L.flatMap strVal) (by rfl) (own_kp HOW.out (((Kp.refl wr none).alloc _).alloc _)) (.slice (some ⟨wr.heap.size + 1, 0, none⟩) 1 1) [Ru.kwOr] (by rfl) (by have h := str_list (w := wr.alloc (.cells #[.int .i64 q.1.op, str q.1.text, .int .i64 q.1.n, .int .i64 q.1.box.x0, .int .i64 q.1.box.y0, .int .i64 q.1.box.x1, .int .i64 q.1.box.y1, .slice a3 m3 p3] 40)) Ru.kwOr; rw [show (wr.alloc (.cells #[.int .i64 q.1.op, str q.1.text, .int .i64 q.1.n, .int .i64 q.1.box.x0, .int .i64 q.1.box.y0, .int .i64 q.1.box.x1, .int .i64 q.1.box.y1, .slice a3 m3 p3] 40)).heap.size = wr.heap.size + 1 by simp] at h; exact h) hcw hcw2 (by simp; omega) ?_)))
    intro v1 w1 hown1 hgrow1 _
    have hlt1 := hgrow1.size
    have hrb : w1.heap[wr.heap.size]? = some (.cells #[.int .i64 q.1.op, str q.1.text, .int .i64 q.1.n, .int .i64 q.1.box.x0, .int .i64 q.1.box.y0, .int .i64 q.1.box.x1, .int .i64 q.1.box.y1, .slice a3 m3 p3] 40 (0, 0)) := res_kept (res_kept (heap_alloc_new wr (.cells #[.int .i64 q.1.op, str q.1.text, .int .i64 q.1.n, .int .i64 q.1.box.x0, .int .i64 q.1.box.y0, .int .i64 q.1.box.x1, .int .i64 q.1.box.y1, .slice a3 m3 p3] 40)) ((Kp.refl _ none).alloc _) (by simp)) hgrow1 (fun r hr => by have := (HOW.out.lt r hr).2; omega)
    have HRG2 := Lib.hid (range_blk hrb)
    have hK1 : Kp W0 w1 none := Kp.row (((HK.out.alloc _)).alloc _) hgrow1 (fun r hr => by have := (HOW.out.lt r hr).1; omega)
    have HKW := Lib.hid hK1
    have hc1 := HC0.out w1 hK1
    have HOW1 : Hid (w1.ownsRow (w.heap.size + 1) 9 1 v1 (L.length + 1) (L.flatMap strVal ++ [Ru.kwOr].flatMap strVal)) := Lib.hid hown1
    have hzz := hK1.size
    clear hown1 hgrow1 hrb hK1
    go_wp2_with (first | (refine wpList_load_mid (by rfl) 40 _ (by rfl) wr.heap.size 0 (by rfl) #[.int .i64 q.1.op, str q.1.text, .int .i64 q.1.n, .int .i64 q.1.box.x0, .int .i64 q.1.box.y0, .int .i64 q.1.box.x1, .int .i64 q.1.box.y1, .slice a3 m3 p3].toList _ HRG2.out Tryz.underlying40 (by rfl) info40s ?_) | (go_at_call 42; refine (HCI.out _ (HK1.out.trans HKW.out)).mono ?_; rintro e w3 ⟨v3, rfl, h3, hk3⟩; have hI3 := Lib.hid (own_isStrs h3); have hz3 := hk3.size) | (at_builtin; go_must (refine wpList_app (f := strVal) (by rfl) _ _ (w.heap.size + 1) 68 9 (by rfl) i0 _ 1 16 Tryz.underlying68 hi hz0 hz1 hz2 rfl (by omega) (fun _ => rfl) (by simp [strVal, Value.oneCell']) _ (L.length + 1) _ (by rfl) (own_kp HOW1.out hk3) v3 (Ru.write 10 q.1) (by rfl) hI3.out hcm hcb (by omega) ?_)))
    intro v5 w5 hown5 hgrow5 _
    have hK5 : Kp W0 w5 none := Kp.row (HKW.out.trans hk3) hgrow5 (fun r hr => by have := (HOW1.out.lt r hr).1; omega)
    have HOW5 : Hid (w5.ownsRow (w.heap.size + 1) 9 1 v5 (L ++ [Ru.kwOr] ++ Ru.write 10 q.1).length ((L ++ [Ru.kwOr] ++ Ru.write 10 q.1).flatMap strVal)) := Lib.hid (by rw [List.length_append, List.length_append, List.flatMap_append, List.flatMap_append, List.append_assoc]; exact hown5)
    generalize (L ++ [Ru.kwOr] ++ Ru.write 10 q.1) = L2 at HOW5 HL2
    have HK5 := Lib.hid hK5
    clear hown5 hgrow5 hK5
    go_wp2_with fail
    go_roundw
    case rel => exact ⟨k + 1, L2, by omega, by go_num, Lib.hid HL2.out.symm, HOW5.out, HK5⟩
    case measure => simp [intOf]; omega
  ·obtain rfl : k = n := by omega
   have hLe : L = Ru.writes Ru.kwOr 10 (ps.map (·.1)) := by rw [HL.out, List.take_of_length_le (by rw [HN.out]; exact Nat.le_refl _)]
   rw [← hLe] at HLEN
   have hL9 := HLEN.out
   have HLE := Lib.hid hLe
   have HKF := Lib.hid (HK1.out.trans HK.out)
   clear hLe HL
   by_cases ha0 : ar = 0
   ·have HRES : Hid (Ru.inB (Ru.brk ar 10) (Ru.writes Ru.kwOr 10 (ps.map (·.1))) = L) := Lib.hid (by rw [ha0, ← HLE.out]; rfl)
    subst ha0
    go_wp2_with fail
    go_ret
    rw [HRES.out]
    exact ⟨_, rfl, own_base_le HOW.out (by omega), HKF.out⟩
   ·have HRES : Hid (Ru.inB (Ru.brk ar 10) (Ru.writes Ru.kwOr 10 (ps.map (·.1))) = Ru.kwL :: L ++ [Ru.kwR]) := Lib.hid (by rw [show Ru.brk ar 10 = true by simp [Ru.brk, ha0], Ru.inB_true, ← HLE.out])
    have hb1 : (ar != 0) = true := by simp [bne, ha0]
    clear ha0
    have hOL : Hid ((wr.alloc (.cells #[.string ⟨#[40]⟩] 9)).ownsRow (w.heap.size + 1) 9 1 (.slice (some ⟨wr.heap.size, 0, none⟩) 1 1) 1 ([Ru.kwL].flatMap strVal)) := Lib.hid (own_strs [Ru.kwL] (by omega) (by simp))
    have hIL : Hid (IsStrs (wr.alloc (.cells #[.string ⟨#[40]⟩] 9)) u5 L) := Lib.hid ((own_isStrs HOW.out).keep ((Kp.refl wr none).alloc _))
    go_wp2_with (at_builtin; go_must (refine wpList_app (f := strVal) (by rfl) _ _ (w.heap.size + 1) 68 9 (by rfl) i0 _ 1 16 Tryz.underlying68 hi hz0 hz1 hz2 rfl (by omega) (fun _ => rfl) (by simp [strVal, Value.oneCell']) _ 1 _ (by rfl) hOL.out _ L (by rfl) hIL.out (by unfold maxLen; omega) (by omega) (by simp; omega) ?_))
    intro v1 w1 hown1 hgrow1 _
    have HOW1 := Lib.hid hown1
    have hz1s := hgrow1.size
    have HK1' : Hid (Kp W0 w1 none) := Lib.hid (Kp.row (HK.out.alloc _) hgrow1 (fun r hr => by have := (hOL.out.lt r hr).1; omega))
    have hzz := HK1'.out.size
    clear hown1 hgrow1 hOL hIL
    go_wp2_with (at_builtin; go_must (refine wpList_app (f := strVal) (by rfl) _ _ (w.heap.size + 1) 68 9 (by rfl) i0 _ 1 16 Tryz.underlying68 hi hz0 hz1 hz2 rfl (by omega) (fun _ => rfl) (by simp [strVal, Value.oneCell']) _ (1 + L.length) _ (by rfl) (own_kp HOW1.out ((Kp.refl w1 none).alloc _)) (.slice (some ⟨w1.heap.size, 0, none⟩) 1 1) [Ru.kwR] (by rfl) (str_list (w := w1) Ru.kwR) (by unfold maxLen; simp; omega) (by simp; omega) (by simp; omega) ?_))
    intro v2 w2 hown2 hgrow2 _
    have hKF : Kp W0 w2 none := Kp.row (HK1'.out.alloc _) hgrow2 (fun r hr => by have := (HOW1.out.lt r hr).1; omega)
    go_wp2_with fail
    go_ret
    rw [HRES.out]
    refine ⟨_, rfl, ?_, HK1.out.trans hKF⟩
    have e : (Ru.kwL :: L ++ [Ru.kwR]).length = 1 + L.length + [Ru.kwR].length := by simp; omega
    have e2 : (Ru.kwL :: L ++ [Ru.kwR]).flatMap strVal = [Ru.kwL].flatMap strVal ++ L.flatMap strVal ++ [Ru.kwR].flatMap strVal := by simp [List.flatMap_append]
    rw [e, e2]
    exact own_base_le hown2 (by omega)
theorem len_wl : ∀ l : List Ru.Bytes, l.length ≤ Ru.wl l
 | [] => by simp
 | x :: l => by rw [Ru.wl_cons]; have := len_wl l; simp; omega
theorem write_short {c : Ru.Cond} (h : Ru.right c = true) (hs : Ru.size c ≤ 1000000) (ar : Int) : (Ru.write ar c).length ≤ 1000000000 := by
 have h1 := Ru.write_len c h ar
 have h2 := len_wl (Ru.write ar c)
 omega
theorem write_any (c : Ru.Cond) : Ru.right c = true → Ru.size c ≤ 1000000 → ∀ (ar : Int) (w : World) (v : Value), Env w → Tree w c v → Calls Tryz.prog 42 #[cA c v, .int .i64 ar] w (OwnStrs (Ru.write ar c) w) := by
 refine Ru.Cond.ind (P := fun c => Ru.right c = true → Ru.size c ≤ 1000000 → ∀ (ar : Int) (w : World) (v : Value), Env w → Tree w c v → Calls Tryz.prog 42 #[cA c v, .int .i64 ar] w (OwnStrs (Ru.write ar c) w)) (fun op t n b l ih h hs => ?_) c
 have hf := Ru.right_form h
 generalize hc : Ru.Cond.mk op t n b l = c at hf h hs
 intro ar w v he ht
 obtain ⟨a, m, p, hv⟩ := ht.slice
 subst hv
 cases hf with
 | any => rw [Ru.write_any]; exact write_l1 ar a m p w
 | net t h1 => rw [Ru.write_net]; exact write_l2 ar a m p w t
 | cls t h1 => rw [Ru.write_cls]; exact write_l3 ar a m p w t
 | kind k h1 h2 => rw [Ru.write_kind]; exact write_l4 ar a m p w k he (by unfold Wr.I64; omega)
 | layer k h1 h2 => rw [Ru.write_layer]; exact write_l5 ar a m p w k he (by unfold Wr.I64; omega)
 | part k h1 h2 => rw [Ru.write_part]; exact write_l6 ar a m p w k he (by unfold Wr.I64; omega)
 | box b h1 =>
  rw [Ru.write_box]
  refine write_l7 ar a m p w b he ?_
  unfold Ru.boxR Ru.coordR at h1
  simp at h1
  intro x hx
  unfold Wr.I64
  simp at hx
  rcases hx with rfl | rfl | rfl | rfl <;> omega
 | not d hd =>
  injection hc with _ _ _ _ hl
  obtain ⟨ps, e1, e2, e3⟩ := ht.open
  have e1 : [d] = ps.map (·.1) := e1
  obtain ⟨q, rfl⟩ : ∃ q, ps = [q] := by
   have := congrArg List.length e1
   rw [List.length_map] at this
   exact List.length_eq_one_iff.1 this.symm
  have eq : d = q.1 := by simpa using e1
  have hq := e3 q (by simp)
  obtain ⟨a3, m3, p3, hq2⟩ := hq.slice
  obtain ⟨ao, cap, e4, hla⟩ := e2.form
  injection e4 with ea eb ec
  obtain ⟨b, off, hao, hb, hrg⟩ := hla.range 0 (by simp) (p := q) rfl
  have hXE : cC q = #[.int .i64 d.op, str d.text, .int .i64 d.n, .int .i64 d.box.x0, .int .i64 d.box.y0, .int .i64 d.box.x1, .int .i64 d.box.y1, .slice a3 m3 p3].toList := by unfold cC; rw [hq2, eq]
  rw [hXE] at hrg
  subst ea; subst hao
  have em : m = 1 := by simpa using eb
  subst em
  have hds : Ru.size d ≤ 1000000 := by rw [Ru.size_mk, Ru.sizes] at hs; omega
  rw [Ru.write_not]
  refine write_l8 ar d a3 m3 p3 b (off + 0 * 8) p w hrg hb (Ru.write 8 d) (write_short hd hds 8) (fun u hu => ?_)
  have ht' : Tree u d (.slice a3 m3 p3) := by have h := hq.keep hu; rw [hq2, ← eq] at h; exact h
  exact ih d (by rw [hl]; simp) hd hds 8 u _ (he.kp0 hu) ht'
 | and l2 h2 hr =>
  injection hc with _ _ _ _ hl
  subst hl
  obtain ⟨ps, e1, e2, e3⟩ := ht.open
  have e1 : l = ps.map (·.1) := e1
  obtain ⟨ao, cap, e4, hla⟩ := e2.form
  injection e4 with ea eb ec
  subst ea eb ec
  have hw : (Ru.writes Ru.kwAnd 9 l).length ≤ 1000000000 := by have := write_short h hs 10; rw [Ru.write_and] at this; exact this
  have hsz : Ru.sizes l ≤ 1000000 := by rw [Ru.size_mk] at hs; omega
  have hlen : ∀ l : List Ru.Cond, l.length ≤ Ru.sizes l := by
   intro l
   induction l with
   | nil => simp
   | cons c l ih => have := Ru.size_pos c; simp [Ru.sizes]; omega
  rw [Ru.write_and, e1]
  refine write_l9 ar ps a p w hla (fun q hq => (e3 q hq).slice) (by rw [← e1]; exact hw) (by have := hlen l; rw [e1, List.length_map] at this; rw [e1] at hsz; omega) (fun q hq u hu => ?_)
  have hm : q.1 ∈ l := by rw [e1]; exact List.mem_map.2 ⟨q, hq, rfl⟩
  exact ih q.1 hm (hr _ hm) (by have := Ru.size_le hm; omega) 9 u q.2 (he.kp0 hu) ((e3 q hq).keep hu)
 | or l2 h2 hr =>
  injection hc with _ _ _ _ hl
  subst hl
  obtain ⟨ps, e1, e2, e3⟩ := ht.open
  have e1 : l = ps.map (·.1) := e1
  obtain ⟨ao, cap, e4, hla⟩ := e2.form
  injection e4 with ea eb ec
  subst ea eb ec
  have hw : (Ru.writes Ru.kwOr 10 l).length ≤ 1000000000 := by have := write_short h hs 0; rw [Ru.write_or] at this; exact this
  have hsz : Ru.sizes l ≤ 1000000 := by rw [Ru.size_mk] at hs; omega
  have hlen : ∀ l : List Ru.Cond, l.length ≤ Ru.sizes l := by
   intro l
   induction l with
   | nil => simp
   | cons c l ih => have := Ru.size_pos c; simp [Ru.sizes]; omega
  rw [Ru.write_or, e1]
  refine write_l10 ar ps a p w hla (fun q hq => (e3 q hq).slice) (by rw [← e1]; exact hw) (by have := hlen l; rw [e1, List.length_map] at this; rw [e1] at hsz; omega) (fun q hq u hu => ?_)
  have hm : q.1 ∈ l := by rw [e1]; exact List.mem_map.2 ⟨q, hq, rfl⟩
  exact ih q.1 hm (hr _ hm) (by have := Ru.size_le hm; omega) 10 u q.2 (he.kp0 hu) ((e3 q hq).keep hu)
end Go.Proofs.YtnchipahdfbliaaGreatDoor
