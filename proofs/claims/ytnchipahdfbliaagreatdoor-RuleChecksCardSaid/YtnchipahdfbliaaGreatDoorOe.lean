/- The reference's changes of conditions, below and whole. Conditions: texts and sizes that a machine holds. -/
import Derived.Test.YtnchipahdfbliaaGreatDoorOc
import Derived.Test.YtnchipahdfbliaaGreatDoorSd
namespace Go.Proofs.YtnchipahdfbliaaGreatDoor
open Go.RowKit

theorem putAll_list : ∀ (l : List Value) (cs : Array Value) (o : Nat), o + l.length ≤ cs.size → (putAll cs o l).toList = cs.toList.take o ++ l ++ cs.toList.drop (o + l.length)
 | [], cs, o, _ => by simp [putAll]
 | v :: l, cs, o, h => by
  have hl : o < cs.toList.length := by simp at h ⊢; omega
  have e : (cs.setIfInBounds o v).toList = cs.toList.take o ++ v :: cs.toList.drop (o + 1) := by
   rw [Array.toList_setIfInBounds, List.set_eq_take_append_cons_drop, if_pos hl]
  have ht : (cs.toList.take o).length = o := by rw [List.length_take]; omega
  rw [putAll, putAll_list l _ _ (by simp at h ⊢; omega), e]
  have e1 : (cs.toList.take o ++ v :: cs.toList.drop (o + 1)).take (o + 1) = cs.toList.take o ++ [v] := by
   rw [List.take_append, ht, List.take_of_length_le (by omega)]; simp
  have e2 : (cs.toList.take o ++ v :: cs.toList.drop (o + 1)).drop (o + 1 + l.length) = cs.toList.drop (o + (l.length + 1)) := by
   rw [List.drop_append, ht, List.drop_of_length_le (by omega), List.nil_append, show o + 1 + l.length - o = l.length + 1 by omega, List.drop_succ_cons, List.drop_drop]
   congr 1; omega
  rw [e1, e2, List.length_cons]; simp
theorem list_put {α : Type} {L A x B y : List α} {m : Nat} (h : L.take m = A ++ (x ++ B)) (hy : y.length = x.length) (hL : m ≤ L.length) : (L.take A.length ++ y ++ L.drop (A.length + y.length)).take m = A ++ (y ++ B) := by
 obtain ⟨R, hR⟩ : ∃ R, L.drop m = R := ⟨_, rfl⟩
 have e : L = A ++ (x ++ (B ++ R)) := by rw [← List.take_append_drop m L, h, hR]; simp
 have hm : m = (A ++ (y ++ B)).length := by
  have := congrArg List.length h
  rw [List.length_take, Nat.min_eq_left hL] at this
  rw [this]; simp only [List.length_append]; omega
 have e1 : (A ++ (x ++ (B ++ R))).take A.length = A := List.take_left
 have e2 : (A ++ (x ++ (B ++ R))).drop (A.length + y.length) = B ++ R := by
  rw [hy, ← List.drop_drop, List.drop_left, List.drop_left]
 rw [e, e1, e2, hm, show A ++ y ++ (B ++ R) = (A ++ (y ++ B)) ++ R by simp, List.take_left]
/-- The list in a block whose element number k is stored anew. -/
theorem own_put {w' : World} {base g cap n k : Nat} {cs : Array Value} {ps : List (Ru.Cond × Value)} {y : Ru.Cond × Value} (hn : ps.length = n) (hk : k < n) (hb : base ≤ g) (hcap : n ≤ cap) (hm : cap ≤ maxLen) (hs : cs.size = cap * 8) (ht : cs.toList.take (n * 8) = ps.flatMap cC)
  (h : w'.heap[g]? = some (.cells (putAll cs (k * 8) (cC y)) 40 (0, 0))) : w'.ownsRow base 40 8 (.slice (some ⟨g, 0, none⟩) n cap) n ((ps.set k y).flatMap cC) := by
 have hkp : k < ps.length := by omega
 have hcl : ∀ z, (cC z).length = 8 := fun _ => rfl
 have hle : k * 8 + 8 ≤ n * 8 := by omega
 have hcn : n * 8 ≤ cap * 8 := Nat.mul_le_mul_right _ hcap
 have hpl := putAll_list (cC y) cs (k * 8) (by rw [hcl, hs]; omega)
 have hsz : (putAll cs (k * 8) (cC y)).size = cap * 8 := by
  have := congrArg List.length hpl
  simp only [Array.length_toList, List.length_append, List.length_take, List.length_drop, hcl, hs] at this
  omega
 have ha : ((ps.take k).flatMap cC).length = k * 8 := by rw [flat_len (m := 8) hcl, List.length_take, Nat.min_eq_left (Nat.le_of_lt hkp)]
 obtain ⟨x, hx⟩ : ∃ x, ps[k] = x := ⟨_, rfl⟩
 have hps : ps.flatMap cC = (ps.take k).flatMap cC ++ (cC x ++ (ps.drop (k + 1)).flatMap cC) := by
  conv => lhs; rw [← List.take_append_drop k ps, List.drop_eq_getElem_cons hkp]
  rw [List.flatMap_append, List.flatMap_cons, hx]
 have hset : (ps.set k y).flatMap cC = (ps.take k).flatMap cC ++ (cC y ++ (ps.drop (k + 1)).flatMap cC) := by
  rw [List.set_eq_take_append_cons_drop, if_pos hkp, List.flatMap_append, List.flatMap_cons]
 have hfin := list_put (L := cs.toList) (A := (ps.take k).flatMap cC) (x := cC x) (B := (ps.drop (k + 1)).flatMap cC) (y := cC y) (m := n * 8) (ht.trans hps) (by rw [hcl, hcl]) (by rw [Array.length_toList, hs]; exact hcn)
 rw [ha] at hfin
 refine ⟨by rw [flat_len (m := 8) hcl, List.length_set, hn], .inr ⟨g, cap, _, rfl, hb, h, hcap, hm, hsz, ?_⟩⟩
 rw [hpl, hset]; exact hfin
theorem sizes_set {S0 : Nat} : ∀ {l : List Ru.Cond} {k : Nat} {d : Ru.Cond} (h : k < l.length), Ru.size d ≤ Ru.size l[k] + S0 → Ru.sizes (l.set k d) ≤ Ru.sizes l + S0
 | c :: l, 0, d, _, hd => by simp [Ru.sizes] at hd ⊢; omega
 | c :: l, k + 1, d, h, hd => by
  have := sizes_set (l := l) (k := k) (d := d) (S0 := S0) (by simpa using h) (by simpa using hd)
  simp [Ru.sizes]; omega
theorem treeP_open {S : Nat → Prop} {w : World} {c : Ru.Cond} {v : Value} (h : TreeP S w c v) : ∃ ps : List (Ru.Cond × Value), c.l = ps.map (·.1) ∧ IsConds w v ps ∧ (∀ a m p, v = .slice (some a) m p → ps ≠ [] → S a.block) ∧ ∀ p ∈ ps, TreeP S w p.1 p.2 := by
 cases h with
 | mk op t n b ps v h1 h2 h3 => exact ⟨ps, rfl, h1, h2, h3⟩
section
variable (S : Nat → Prop) (N : Nat) (c : Ru.Cond) (ps : List (Ru.Cond × Value)) (ao : Option Addr) (ca n : Nat) (q0 q1 q2 : Int) (w : World)
set_option maxHeartbeats 16000000 in
set_option maxRecDepth 100000 in
theorem odd_deep (hs : Short c) (hN : Ru.size c ≤ N) (hN2 : N ≤ 1000) (hc : c.l = ps.map (·.1)) (hn : ps.length = n) (hl : LiesAt 8 cC w ao ca ps) (hb : ∀ a m p, Value.slice ao n ca = .slice (some a) m p → ps ≠ [] → S a.block) (ht : ∀ p ∈ ps, TreeP S w p.1 p.2) (h0 : 0 < n) (h1 : rem q2 2 = 1)
  (ih : ∀ x ∈ ps, ∀ (T : Nat → Prop) (V : World) (y0 y1 y2 : Int), TreeP T V x.1 x.2 → Calls Tryz.prog 31 #[.agg (cC x).toArray, .agg #[.int .i64 y0, .int .i64 y1, .int .i64 y2]] V (OddIs T (Ru.size x.1) V)) :
  Calls Tryz.prog 31 #[.agg #[.int .i64 c.op, str c.text, .int .i64 c.n, .int .i64 c.box.x0, .int .i64 c.box.y0, .int .i64 c.box.x1, .int .i64 c.box.y1, .slice ao n ca], .agg #[.int .i64 q0, .int .i64 q1, .int .i64 q2]] w (OddIs S N w) := by
 have HL := Lib.hid hl; have HT := Lib.hid ht; have HN := Lib.hid hn; have HB := Lib.hid hb; have HC := Lib.hid hc; have HS := Lib.hid hs; have HIH := Lib.hid ih
 have hA := heap_alloc_new w (.cells #[.int .i64 c.op, str c.text, .int .i64 c.n, .int .i64 c.box.x0, .int .i64 c.box.y0, .int .i64 c.box.x1, .int .i64 c.box.y1, .slice ao n ca] 40)
 have hA2 := res_kept (res_kept hA ((Kp.refl _ none).alloc (.cells #[.int .i64 q0, .int .i64 q1, .int .i64 q2] 23)) (by simp)) ((Kp.refl _ none).alloc (.cells #[.int .i64 0, .string ⟨#[]⟩, .int .i64 0, .int .i64 0, .int .i64 0, .int .i64 0, .int .i64 0, .slice none 0 0] 40)) (by simp)
 have hq := heap_alloc_new (w.alloc (.cells #[.int .i64 c.op, str c.text, .int .i64 c.n, .int .i64 c.box.x0, .int .i64 c.box.y0, .int .i64 c.box.x1, .int .i64 c.box.y1, .slice ao n ca] 40)) (.cells #[.int .i64 q0, .int .i64 q1, .int .i64 q2] 23)
 have hq2 := res_kept hq ((Kp.refl _ none).alloc (.cells #[.int .i64 0, .string ⟨#[]⟩, .int .i64 0, .int .i64 0, .int .i64 0, .int .i64 0, .int .i64 0, .slice none 0 0] 40)) (by simp)
 have hz := heap_alloc_new ((w.alloc (.cells #[.int .i64 c.op, str c.text, .int .i64 c.n, .int .i64 c.box.x0, .int .i64 c.box.y0, .int .i64 c.box.x1, .int .i64 c.box.y1, .slice ao n ca] 40)).alloc (.cells #[.int .i64 q0, .int .i64 q1, .int .i64 q2] 23)) (.cells #[.int .i64 0, .string ⟨#[]⟩, .int .i64 0, .int .i64 0, .int .i64 0, .int .i64 0, .int .i64 0, .slice none 0 0] 40)
 rw [show (w.alloc (.cells #[.int .i64 c.op, str c.text, .int .i64 c.n, .int .i64 c.box.x0, .int .i64 c.box.y0, .int .i64 c.box.x1, .int .i64 c.box.y1, .slice ao n ca] 40)).heap.size = w.heap.size + 1 by simp] at hq2
 rw [show ((w.alloc (.cells #[.int .i64 c.op, str c.text, .int .i64 c.n, .int .i64 c.box.x0, .int .i64 c.box.y0, .int .i64 c.box.x1, .int .i64 c.box.y1, .slice ao n ca] 40)).alloc (.cells #[.int .i64 q0, .int .i64 q1, .int .i64 q2] 23)).heap.size = w.heap.size + 2 by simp] at hz
 have HBA := Lib.hid hA2; have HBQ := Lib.hid hq2; have HBZ := Lib.hid hz
 have HK1 : Hid (Kp w (((w.alloc (.cells #[.int .i64 c.op, str c.text, .int .i64 c.n, .int .i64 c.box.x0, .int .i64 c.box.y0, .int .i64 c.box.x1, .int .i64 c.box.y1, .slice ao n ca] 40)).alloc (.cells #[.int .i64 q0, .int .i64 q1, .int .i64 q2] 23)).alloc (.cells #[.int .i64 0, .string ⟨#[]⟩, .int .i64 0, .int .i64 0, .int .i64 0, .int .i64 0, .int .i64 0, .slice none 0 0] 40)) none) := Lib.hid ((((Kp.refl _ none).alloc _).alloc _).alloc _)
 have hz1 : (((w.alloc (.cells #[.int .i64 c.op, str c.text, .int .i64 c.n, .int .i64 c.box.x0, .int .i64 c.box.y0, .int .i64 c.box.x1, .int .i64 c.box.y1, .slice ao n ca] 40)).alloc (.cells #[.int .i64 q0, .int .i64 q1, .int .i64 q2] 23)).alloc (.cells #[.int .i64 0, .string ⟨#[]⟩, .int .i64 0, .int .i64 0, .int .i64 0, .int .i64 0, .int .i64 0, .slice none 0 0] 40)).heap.size = w.heap.size + 3 := by simp
 have cM2 := fun W => mod_any q2 2 W (by omega) (by omega)
 rw [h1] at cM2
 have hlen := sizes_len (ps.map (·.1))
 have HSZ : Hid (Ru.size c = Ru.sizes (ps.map (·.1)) + 1) := Lib.hid (by rw [← hc]; obtain ⟨op, t, nn, b, l⟩ := c; exact Ru.size_mk ..)
 have hszc := HSZ.out
 rw [List.length_map, hn] at hlen
 have hn0 : (0 : Int) < (n : Int) := by omega
 have hn9 : n ≤ 1000 := by omega
 have cMk := fun W => mod_any q1 n W (by omega) (by omega)
 have hrk := rem_range q1 n (by omega)
 obtain ⟨k, hk⟩ : ∃ k : Nat, rem q1 n = (k : Int) := ⟨(rem q1 n).toNat, by omega⟩
 rw [hk] at cMk hrk
 have hkn : k < n := by omega
 have hk0 : (0 : Int) ≤ (k : Int) := by omega
 have hk1 : (k : Int) < (n : Int) := by omega
 have hkp : k < ps.length := by omega
 obtain ⟨x, hx⟩ : ∃ x, ps[k] = x := ⟨_, rfl⟩
 have hmem : x ∈ ps := by rw [← hx]; exact List.getElem_mem hkp
 obtain ⟨a3, m3, p3, hv3⟩ := (ht x hmem).slice
 have hXE : cC x = #[.int .i64 x.1.op, str x.1.text, .int .i64 x.1.n, .int .i64 x.1.box.x0, .int .i64 x.1.box.y0, .int .i64 x.1.box.x1, .int .i64 x.1.box.y1, .slice a3 m3 p3].toList := by unfold cC; rw [hv3]
 have HXE := Lib.hid hXE; have HX := Lib.hid hx; have HM := Lib.hid hmem
 have HT3 : Hid (∀ y ∈ ps, TreeP (fun b => S b ∧ b < w.heap.size) w y.1 y.2) := Lib.hid fun y hy => (ht y hy).mono fun b hb h => ⟨h, hb⟩
 have HCI : Hid (∀ V y0 y1 y2, Kp w V none → Calls Tryz.prog 31 #[.agg #[.int .i64 x.1.op, str x.1.text, .int .i64 x.1.n, .int .i64 x.1.box.x0, .int .i64 x.1.box.y0, .int .i64 x.1.box.x1, .int .i64 x.1.box.y1, .slice a3 m3 p3], .agg #[.int .i64 y0, .int .i64 y1, .int .i64 y2]] V (OddIs (fun b => S b ∧ b < w.heap.size) (Ru.size x.1) V)) := Lib.hid fun V y0 y1 y2 hV => by
  have h := ih x hmem _ V y0 y1 y2 ((HT3.out x hmem).keep hV)
  rw [hXE] at h
  exact h
 have dq0 := hcell HBQ.out 0 rfl
 have dq1 := hcell HBQ.out 1 rfl
 have dq2 := hcell HBQ.out 2 rfl
 have hc7 := hcell HBA.out 7 rfl
 have HRG := Lib.hid (range_blk HBA.out)
 clear hl ht hn hb hc hs hA hA2 hq hq2 hz ih hlen hk hx hmem hv3 hXE h1 hrk
 go_enter Tryz.func31, Tryz.ntmps31
 go_upto_region 1 with fail
 change Code.wp _ _ _ _ (((w.alloc (.cells #[.int .i64 c.op, str c.text, .int .i64 c.n, .int .i64 c.box.x0, .int .i64 c.box.y0, .int .i64 c.box.x1, .int .i64 c.box.y1, .slice ao n ca] 40)).alloc (.cells #[.int .i64 q0, .int .i64 q1, .int .i64 q2] 23)).alloc (.cells #[.int .i64 0, .string ⟨#[]⟩, .int .i64 0, .int .i64 0, .int .i64 0, .int .i64 0, .int .i64 0, .slice none 0 0] 40))
 generalize hW : (((w.alloc (.cells #[.int .i64 c.op, str c.text, .int .i64 c.n, .int .i64 c.box.x0, .int .i64 c.box.y0, .int .i64 c.box.x1, .int .i64 c.box.y1, .slice ao n ca] 40)).alloc (.cells #[.int .i64 q0, .int .i64 q1, .int .i64 q2] 23)).alloc (.cells #[.int .i64 0, .string ⟨#[]⟩, .int .i64 0, .int .i64 0, .int .i64 0, .int .i64 0, .int .i64 0, .slice none 0 0] 40)) = W1 at *
 clear hW
 go_upto_region 3 with (first | (go_at_call 22; refine (cM2 _).mono ?_; rintro e w2 ⟨rfl, hw2⟩; subst w2) | (refine wpList_load_mid (by rfl) 40 _ (by rfl) w.heap.size 0 (by rfl) #[.int .i64 c.op, str c.text, .int .i64 c.n, .int .i64 c.box.x0, .int .i64 c.box.y0, .int .i64 c.box.x1, .int .i64 c.box.y1, .slice ao n ca].toList _ HRG.out Tryz.underlying40 (by rfl) info40s ?_) | (refine wpList_store_new (by rfl) 40 _ _ (by rfl) #[.int .i64 0, .string ⟨#[]⟩, .int .i64 0, .int .i64 0, .int .i64 0, .int .i64 0, .int .i64 0, .slice none 0 0] #[.int .i64 c.op, str c.text, .int .i64 c.n, .int .i64 c.box.x0, .int .i64 c.box.y0, .int .i64 c.box.x1, .int .i64 c.box.y1, .slice ao n ca] 40 (by rfl) (by rfl) rfl info40s (by rfl) (by simp [Value.oneCell']) ?_))
 have HB2 : Hid ((W1.alloc (.cells #[.int .i64 c.op, str c.text, .int .i64 c.n, .int .i64 c.box.x0, .int .i64 c.box.y0, .int .i64 c.box.x1, .int .i64 c.box.y1, .slice ao n ca] 40)).heap[w.heap.size + 3]? = some (.cells #[.int .i64 c.op, str c.text, .int .i64 c.n, .int .i64 c.box.x0, .int .i64 c.box.y0, .int .i64 c.box.x1, .int .i64 c.box.y1, .slice ao n ca] 40 (0, 0))) := Lib.hid (by have h := heap_alloc_new W1 (.cells #[.int .i64 c.op, str c.text, .int .i64 c.n, .int .i64 c.box.x0, .int .i64 c.box.y0, .int .i64 c.box.x1, .int .i64 c.box.y1, .slice ao n ca] 40); rw [hz1] at h; exact h)
 have kW2 : Kp W1 (W1.alloc (.cells #[.int .i64 c.op, str c.text, .int .i64 c.n, .int .i64 c.box.x0, .int .i64 c.box.y0, .int .i64 c.box.x1, .int .i64 c.box.y1, .slice ao n ca] 40)) none := (Kp.refl _ none).alloc _
 have hz2 : (W1.alloc (.cells #[.int .i64 c.op, str c.text, .int .i64 c.n, .int .i64 c.box.x0, .int .i64 c.box.y0, .int .i64 c.box.x1, .int .i64 c.box.y1, .slice ao n ca] 40)).heap.size = w.heap.size + 4 := by simp [hz1]
 have HQ2 := Lib.hid (res_kept HBQ.out kW2 (by simp))
 have HZ2 := Lib.hid (res_kept HBZ.out kW2 (by simp))
 have HA2 := Lib.hid (res_kept HBA.out kW2 (by simp))
 have HK2 := Lib.hid (HK1.out.trans kW2)
 clear kW2 HRG dq0 dq1 dq2 hc7 cM2
 change Code.wp _ _ _ _ (W1.alloc (.cells #[.int .i64 c.op, str c.text, .int .i64 c.n, .int .i64 c.box.x0, .int .i64 c.box.y0, .int .i64 c.box.x1, .int .i64 c.box.y1, .slice ao n ca] 40))
 generalize W1.alloc (.cells #[.int .i64 c.op, str c.text, .int .i64 c.n, .int .i64 c.box.x0, .int .i64 c.box.y0, .int .i64 c.box.x1, .int .i64 c.box.y1, .slice ao n ca] 40) = W2 at *
 clear HBA HBQ HBZ HK1
 have hc7 := hcell HA2.out 7 rfl
 have hA5 := (Kp.refl W2 none).alloc (.cells #[] 40)
 have HO0 : Hid ((W2.alloc (.cells #[] 40)).ownsRow (w.heap.size + 4) 40 8 (.slice (some ⟨w.heap.size + 4, 0, none⟩) 0 0) 0 []) := Lib.hid (by have h := own_empty (w := W2) (base := w.heap.size + 4) (by omega); rw [hz2] at h; exact h)
 have HI0 := Lib.hid (HL.out.list.keep (HK2.out.trans hA5))
 rw [HN.out] at HI0
 have HB5 := Lib.hid (res_kept HB2.out hA5 (by simp))
 have HQ5 := Lib.hid (res_kept HQ2.out hA5 (by simp))
 have HZ5 := Lib.hid (res_kept HZ2.out hA5 (by simp))
 have HA5 := Lib.hid (res_kept HA2.out hA5 (by simp))
 have HK5 := Lib.hid (HK2.out.trans hA5)
 have hw5 : (W2.alloc (.cells #[] 40)).heap.size = w.heap.size + 5 := by simp [hz2]
 have hc75 := hcell HA5.out 7 rfl
 clear hA5
 go_wp2_with (at_builtin; go_must (refine app_conds (by rfl) _ _ (w.heap.size + 4) (by rfl) _ 0 [] (by rfl) HO0.out _ ps (by rfl) HI0.out (tree_slice HT.out) (by rw [HN.out]; omega) (by omega) ?_))
 intro v1 w6 ho1 hg1 hb1
 have hg1 : (W2.alloc (.cells #[] 40)).grownBy w6 (some (w.heap.size + 4)) := hg1
 have HO1 : Hid (w6.ownsRow (w.heap.size + 4) 40 8 v1 n (ps.flatMap cC)) := Lib.hid (by rw [← HN.out]; simpa using ho1)
 have HB6 := Lib.hid (res_kept HB5.out hg1 (by intro q hq; injection hq with hq; omega))
 have HQ6 := Lib.hid (res_kept HQ5.out hg1 (by intro q hq; injection hq with hq; omega))
 have HZ6 := Lib.hid (res_kept HZ5.out hg1 (by intro q hq; injection hq with hq; omega))
 have HK6 : Hid (Kp w w6 none) := Lib.hid (Kp.row HK5.out hg1 (fun k hk => by injection hk with hk; omega))
 have hw6 := hg1.size
 clear HB2 HQ2 HZ2 HA2 HK2 HB5 HQ5 HZ5 HA5 HK5 HO0 HI0 ho1 hg1 hb1 hc75 hc7 hz2 hz1
 obtain ⟨hxl, hown⟩ := HO1.out
 rcases hown with ⟨_, hv0⟩ | ⟨g, cap, cs, hv1, hgb, hgc, hgn, hgm, hgs, hgt⟩
 ·omega
 subst hv1
 have HGC := Lib.hid (And.intro hgc (And.intro hgm (And.intro hgs hgt)))
 clear hgc hgm hgs hgt hxl HO1
 have fz := Lib.frozen_of_heap HB6.out 7
 have cz := hcell HB6.out 7 rfl
 have k7 : Kp w6 (w6.setCell ⟨w.heap.size + 3, 7, none⟩ (.slice (some ⟨g, 0, none⟩) n cap)) (some (w.heap.size + 3)) := (Kp.refl _ _).set _
 have HB7 : Hid ((w6.setCell ⟨w.heap.size + 3, 7, none⟩ (.slice (some ⟨g, 0, none⟩) n cap)).heap[w.heap.size + 3]? = some (.cells #[.int .i64 c.op, str c.text, .int .i64 c.n, .int .i64 c.box.x0, .int .i64 c.box.y0, .int .i64 c.box.x1, .int .i64 c.box.y1, .slice (some ⟨g, 0, none⟩) n cap] 40 (0, 0))) := Lib.hid (heap_set (o := 7) (v := .slice (some ⟨g, 0, none⟩) n cap) HB6.out)
 have HQ7 := Lib.hid (res_kept HQ6.out k7 (by intro q hq; injection hq with hq; omega))
 have HZ7 := Lib.hid (res_kept HZ6.out k7 (by intro q hq; injection hq with hq; omega))
 have HK7 : Hid (Kp w (w6.setCell ⟨w.heap.size + 3, 7, none⟩ (.slice (some ⟨g, 0, none⟩) n cap)) none) := Lib.hid (Kp.of_own HK6.out k7 (by omega))
 have HG7 := Lib.hid (res_kept HGC.out.1 k7 (by intro q hq; injection hq with hq; omega))
 have hgl := lt_of_block HG7.out
 go_upto_region 4 with fail
 clear k7 fz cz HB6 HQ6 HZ6 HK6
 generalize w6.setCell ⟨w.heap.size + 3, 7, none⟩ (.slice (some ⟨g, 0, none⟩) n cap) = w7 at *
 have dq1 := hcell HQ7.out 1 rfl
 have c7 := hcell HB7.out 7 rfl
 have HRX : Hid (w7.rangeAt g (k * 8) #[.int .i64 x.1.op, str x.1.text, .int .i64 x.1.n, .int .i64 x.1.box.x0, .int .i64 x.1.box.y0, .int .i64 x.1.box.x1, .int .i64 x.1.box.y1, .slice a3 m3 p3].toList) := Lib.hid (by
  have hO : w7.ownsRow (w.heap.size + 4) 40 8 (.slice (some ⟨g, 0, none⟩) n cap) ps.length (ps.flatMap cC) := by
   rw [HN.out]
   exact ⟨by rw [flat_len (m := 8) (fun _ => rfl), HN.out], .inr ⟨g, cap, cs, rfl, hgb, HG7.out, hgn, HGC.out.2.1, HGC.out.2.2.1, HGC.out.2.2.2⟩⟩
  rw [← HN.out] at hO
  obtain ⟨b', off', e, _, hr⟩ := (own_lies (m := 8) (f := cC) (fun _ => rfl) hO).2.range k hkp HX.out
  injection e with e; injection e with e1 e2
  subst e1; subst e2
  rw [HXE.out, Nat.zero_add] at hr
  exact hr)
 have HS5 : Hid (∀ V, Kp w7 V none → V.cell? ⟨w.heap.size + 3, 7, none⟩ = some (.slice (some ⟨g, 0, none⟩) n cap) ∧ V.cell? ⟨w.heap.size + 1, 0, none⟩ = some (.int .i64 q0) ∧ V.cell? ⟨w.heap.size + 1, 1, none⟩ = some (.int .i64 q1) ∧ V.cell? ⟨w.heap.size + 1, 2, none⟩ = some (.int .i64 q2) ∧ V.rangeAt g (k * 8) #[.int .i64 x.1.op, str x.1.text, .int .i64 x.1.n, .int .i64 x.1.box.x0, .int .i64 x.1.box.y0, .int .i64 x.1.box.x1, .int .i64 x.1.box.y1, .slice a3 m3 p3].toList ∧ Hid (Kp w7 V none)) := Lib.hid fun V hV => ⟨ckr HB7.out hV (by simp) 7 rfl, ckr HQ7.out hV (by simp) 0 rfl, ckr HQ7.out hV (by simp) 1 rfl, ckr HQ7.out hV (by simp) 2 rfl, fun j v hv => by rw [hV.below.cell (p := ⟨g, k * 8 + j, none⟩) hgl]; exact HRX.out j v hv, Lib.hid hV⟩
 go_upto_region 5 with (go_at_call 22; refine (cMk _).mono ?_; rintro e w2 ⟨rfl, hw2⟩; subst w2)
 clear dq1 c7 cMk
 have kd : Kp w7 w7.drew none := (Kp.refl _ _).drew
 refine wp_region_last (fun V => V.cell? ⟨w.heap.size + 3, 7, none⟩ = some (.slice (some ⟨g, 0, none⟩) n cap) ∧ V.cell? ⟨w.heap.size + 1, 0, none⟩ = some (.int .i64 q0) ∧ V.cell? ⟨w.heap.size + 1, 1, none⟩ = some (.int .i64 q1) ∧ V.cell? ⟨w.heap.size + 1, 2, none⟩ = some (.int .i64 q2) ∧ V.rangeAt g (k * 8) #[.int .i64 x.1.op, str x.1.text, .int .i64 x.1.n, .int .i64 x.1.box.x0, .int .i64 x.1.box.y0, .int .i64 x.1.box.x1, .int .i64 x.1.box.y1, .slice a3 m3 p3].toList ∧ Hid (Kp w7 V none)) 19 (by kernel_rfl) (HS5.out _ kd) (fun hHeld => ?_)
 have hwk : IntKind.i64.wrap (k : Int) = (k : Int) := by rw [IntKind.wrap_i64]; omega
 refine tkL 0 rfl ?_
 try simp only [Act.put, sm]
 refine tkL 1 rfl ?_
 try simp only [Act.put, sm]
 refine tkL 2 rfl ?_
 try simp only [Act.put, sm]
 refine tkL 3 rfl ?_
 try simp only [Act.put, sm]
 refine tkL 4 rfl ?_
 try simp only [Act.put, sm]
 refine tkL 5 rfl ?_
 try simp only [Act.put, sm]
 refine tkL 6 rfl ?_
 try simp only [Act.put, sm]
 refine wpAnyL_take (i := 7) rfl (by kernel_rfl) (by kernel_rfl) (by kernel_rfl) (by kernel_rfl) (fun _ _ _ h => h) (yieldsIf_load_mid (by rfl) _ _ rfl g (k * 8) rfl #[.int .i64 x.1.op, str x.1.text, .int .i64 x.1.n, .int .i64 x.1.box.x0, .int .i64 x.1.box.y0, .int .i64 x.1.box.x1, .int .i64 x.1.box.y1, .slice a3 m3 p3].toList _ (fun _ h => h.2.2.2.2.1) Tryz.underlying40 rfl info40s) (by assumption) ?_
 try simp only [Act.put, sm]
 refine tkL 8 rfl ?_
 try simp only [Act.put, sm]
 refine tkL 9 rfl ?_
 try simp only [Act.put, sm]
 refine tkL 10 rfl ?_
 try simp only [Act.put, sm]
 refine tkL 11 rfl ?_
 try simp only [Act.put, sm]
 refine tkL 12 rfl ?_
 try simp only [Act.put, sm]
 refine tkL 13 rfl ?_
 try simp only [Act.put, sm]
 refine tkL 14 rfl ?_
 try simp only [Act.put, sm]
 refine tkL 15 rfl ?_
 try simp only [Act.put, sm]
 refine tkL 16 rfl ?_
 try simp only [Act.put, sm]
 clear hwk
 refine wpAnyL_ready (rs := [17]) (by kernel_rfl) (by simp) ?_
 refine AllReadyL.cons (o := _) rfl (fun K hK => ?_) AllReadyL.nil
 clear hHeld
 go_simp
 refine (HCI.out _ _ _ _ (HK7.out.trans kd)).mono ?_
 rintro e w8 ⟨d, a2, m2, p2, rfl, htd, hsd, hzd, k8⟩
 have hHS := HS5.out _ (kd.trans k8)
 have K8 := Lib.hid (kd.trans k8)
 have HTD := Lib.hid htd
 have hzk := kd.size
 have hz8 := k8.size
 clear kd k8 htd
 try go_wp2_with fail
 refine hK.out _ _ hHS (fun hHeld => ?_)
 clear hK K hHS
 try simp only [Act.put, sm]
 have hwk : IntKind.i64.wrap (k : Int) = (k : Int) := by rw [IntKind.wrap_i64]; omega
 refine tkL 18 rfl ?_
 try simp only [Act.put, sm]
 clear hwk
 refine wpAnyL_ready (rs := [19]) (by kernel_rfl) (by simp) ?_
 refine AllReadyL.last (o := _) rfl (fun K hK => ?_)
 clear hHeld
 have HG8 := Lib.hid (res_kept HG7.out K8.out (by simp))
 refine wp_store_to 40 _ _ rfl g (k * 8) _ 40 HG8.out #[.int .i64 d.op, str d.text, .int .i64 d.n, .int .i64 d.box.x0, .int .i64 d.box.y0, .int .i64 d.box.x1, .int .i64 d.box.y1, .slice a2 m2 p2] (by rfl) (by rfl) info40s (by show k * 8 + 8 ≤ _; have h1 := HGC.out.2.2.1; have h2 : n * 8 ≤ cap * 8 := Nat.mul_le_mul_right _ hgn; omega) (by simp [Value.oneCell']) _ rfl (fun v9 hV hkV => ?_)
 have HG9 := Lib.hid hV
 have K9 := Lib.hid hkV
 clear hV hkV
 refine hK.out _ _ ?_
 clear hK K
 try simp only [Act.put, sm]
 refine wpAnyL_done (by kernel_rfl) ?_ _
 have HB9 := Lib.hid (res_kept (res_kept HB7.out K8.out (by simp)) K9.out (by intro q hq; injection hq with hq; omega))
 have HZ9 := Lib.hid (res_kept (res_kept HZ7.out K8.out (by simp)) K9.out (by intro q hq; injection hq with hq; omega))
 have HRB := Lib.hid (range_blk HB9.out)
 have HK9 : Hid (Kp w v9 none) := Lib.hid (Kp.of_own (HK7.out.trans K8.out) K9.out (by omega))
 have HO9 : Hid (v9.ownsRow (w.heap.size + 4) 40 8 (.slice (some ⟨g, 0, none⟩) n cap) n ((ps.set k (d, .slice a2 m2 p2)).flatMap cC)) := Lib.hid (own_put HN.out hkn hgb hgn HGC.out.2.1 HGC.out.2.2.1 HGC.out.2.2.2 HG9.out)
 go_wp2_with (first | (refine wpList_load_mid (by rfl) 40 _ (by rfl) (w.heap.size + 3) 0 (by rfl) #[.int .i64 c.op, str c.text, .int .i64 c.n, .int .i64 c.box.x0, .int .i64 c.box.y0, .int .i64 c.box.x1, .int .i64 c.box.y1, .slice (some ⟨g, 0, none⟩) n cap].toList _ HRB.out Tryz.underlying40 (by rfl) info40s ?_) | (refine wpList_store_blk (by rfl) 40 _ _ (by rfl) (w.heap.size + 2) _ 40 HZ9.out #[.int .i64 c.op, str c.text, .int .i64 c.n, .int .i64 c.box.x0, .int .i64 c.box.y0, .int .i64 c.box.x1, .int .i64 c.box.y1, .slice (some ⟨g, 0, none⟩) n cap] (by rfl) (by rfl) info40s (by rfl) (by simp [Value.oneCell']) (fun V hV hkV => ?_); have HV := Lib.hid hV; have HKV := Lib.hid hkV; clear hV hkV))
 refine bodyPost_ret (results_cell_row (p := 4) (ty := 40) (by rfl) _ V (w.heap.size + 2) 40 #[.int .i64 c.op, str c.text, .int .i64 c.n, .int .i64 c.box.x0, .int .i64 c.box.y0, .int .i64 c.box.x1, .int .i64 c.box.y1, .slice (some ⟨g, 0, none⟩) n cap] (0, 0) _ (by rfl) HV.out Tryz.underlying40 (by rfl) info40s) (by rfl) ?_
 have hkV : Kp w V none := Kp.of_own HK9.out HKV.out (by omega)
 have hlenS : (ps.set k (d, Value.slice a2 m2 p2)).length = n := by rw [List.length_set, HN.out]
 refine ⟨.mk c.op c.text c.n c.box ((ps.set k (d, .slice a2 m2 p2)).map (·.1)), some ⟨g, 0, none⟩, n, cap, rfl, ?_, ?_, ?_, hkV⟩
 ·refine tree_own (base := w.heap.size + 4) (xs := ps.set k (d, .slice a2 m2 p2)) rfl ?_ (fun b hb => .inr (by omega)) (fun y hy => ?_)
  ·rw [hlenS]; exact own_row HO9.out HKV.out (by omega)
  ·rcases List.mem_or_eq_of_mem_set hy with hy | hy
   ·exact ((HT3.out y hy).mono fun b _ hb => .inl hb.1).keep hkV
   ·subst hy
    have h1 := HTD.out.mono (T := fun b => ((S b ∧ b < w.heap.size) ∨ w7.drew.heap.size ≤ b) ∧ b < w8.heap.size) (fun b hb h => ⟨h, hb⟩)
    have h2 := (h1.row K9.out (fun r hr hs => by injection hr with hr; omega)).row HKV.out (fun r hr hs => by injection hr with hr; omega)
    exact h2.mono fun b _ hb => by
     rcases hb.1 with hb | hb
     ·exact .inl hb.1
     ·exact .inr (by omega)
 ·refine .mk _ _ _ _ _ HS.out.text (by rw [List.length_map, hlenS]; omega) (fun e he => ?_)
  obtain ⟨y, hy, rfl⟩ := List.mem_map.1 he
  rcases List.mem_or_eq_of_mem_set hy with hy | hy
  ·exact HS.out.sub (by rw [HC.out]; exact List.mem_map.2 ⟨y, hy, rfl⟩)
  ·subst hy; exact hsd
 ·rw [Ru.size_mk]
  have h1 := sizes_set (S0 := 1) (l := ps.map (·.1)) (k := k) (d := d) (by rw [List.length_map]; exact hkp) (by rw [List.getElem_map, HX.out]; exact hzd)
  have h2 := HSZ.out
  have e : (ps.set k (d, Value.slice a2 m2 p2)).map (·.1) = (ps.map (·.1)).set k d := List.map_set
  rw [e]
  omega
end
theorem oddCond_any (c : Ru.Cond) : ∀ (S : Nat → Prop) (w : World) (v : Value) (q0 q1 q2 : Int), Short c → Ru.size c ≤ 1000 → TreeP S w c v → Calls Tryz.prog 31 #[cA c v, .agg #[.int .i64 q0, .int .i64 q1, .int .i64 q2]] w (OddIs S (Ru.size c) w) := by
 refine Ru.Cond.ind (P := fun c => ∀ (S : Nat → Prop) (w : World) (v : Value) (q0 q1 q2 : Int), Short c → Ru.size c ≤ 1000 → TreeP S w c v → Calls Tryz.prog 31 #[cA c v, .agg #[.int .i64 q0, .int .i64 q1, .int .i64 q2]] w (OddIs S (Ru.size c) w)) (fun op t n b l ih S w v q0 q1 q2 hs hz ht => ?_) c
 generalize hc : Ru.Cond.mk op t n b l = c at hs hz ht
 obtain ⟨ps, e1, e2, e3, e4⟩ := treeP_open ht
 obtain ⟨ao, ca, e5, hla⟩ := e2.form
 subst e5
 by_cases h : 0 < ps.length ∧ rem q2 2 = 1
 ·refine odd_deep S (Ru.size c) c ps ao ca _ q0 q1 q2 w hs (Nat.le_refl _) hz e1 rfl hla e3 e4 h.1 h.2 (fun x hx T V y0 y1 y2 hT => ?_)
  have hm : x.1 ∈ c.l := by rw [e1]; exact List.mem_map.2 ⟨x, hx, rfl⟩
  have hm2 : x.1 ∈ l := by rw [← hc] at hm; exact hm
  exact ih x.1 hm2 T V x.2 y0 y1 y2 (hs.sub hm) (by have := Ru.size_le hm2; rw [← hc, Ru.size_mk] at hz; omega) hT
 ·exact odd_switch S (Ru.size c) c ps ao ca _ q0 q1 q2 w hs (Nat.le_refl _) hz e1 rfl hla e3 e4 h
end Go.Proofs.YtnchipahdfbliaaGreatDoor

