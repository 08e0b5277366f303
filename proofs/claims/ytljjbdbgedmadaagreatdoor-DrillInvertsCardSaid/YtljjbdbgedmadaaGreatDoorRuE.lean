/- The plain law of the rules, fifth part: the chapter's examples, and lines that are none. No program is in sight; no condition.
  The plain law of the rules, seventh part: the texts of RuleBrackets. No program is in sight; no condition.
  The plain law of the reference's names and numbers: what it decides is what the program decides. No program is in sight; no condition. -/
import Derived.Test.YtljjbdbgedmadaaGreatDoorRuA
import Derived.Lib.Hide

namespace Go.Proofs.YtljjbdbgedmadaaGreatDoor.Ru
open Go Go.Proofs.YtljjbdbgedmadaaGreatDoor
open Go.RowKit

def qC : Rule := ⟨[99, 49], 1, 1, 10, cAny, cAny⟩
def qE (a : Cond) : Rule := ⟨[101], 0, 3, 5, a, cAny⟩
def kindC (n : Int) : Cond := .mk 4 [] n .none []
def netG : Cond := .mk 2 [71, 78, 68] 0 .none []
def notL : Cond := .mk 8 [] 0 .none [.mk 5 [] 2 .none []]
def qW : Rule := ⟨[119], 2, 2, 8, .mk 9 [] 0 .none [netG, notL], cAny⟩
def clsP : Cond := .mk 3 [112] 0 .none []
def a3 : Cond := .mk 10 [] 0 .none [kindC 1, .mk 9 [] 0 .none [kindC 2, clsP]]
def a4 : Cond := .mk 9 [] 0 .none [.mk 10 [] 0 .none [kindC 1, kindC 2], clsP]
def s1 : Bytes := [114, 117, 108, 101, 32, 99, 49, 32, 49, 32, 99, 108, 101, 97, 114, 32, 49, 48, 32, 119, 104, 101, 110, 32, 97, 110, 121, 32, 116, 111, 32, 97, 110, 121]
def s2 : Bytes := [114, 117, 108, 101, 32, 101, 32, 48, 32, 101, 100, 103, 101, 32, 53, 32, 119, 104, 101, 110, 32, 40, 32, 97, 110, 121, 32, 41]
def s3 : Bytes := [114, 117, 108, 101, 32, 119, 32, 50, 32, 119, 105, 100, 116, 104, 32, 56, 32, 119, 104, 101, 110, 32, 110, 101, 116, 32, 71, 78, 68, 32, 97, 110, 100, 32, 110, 111, 116, 32, 108, 97, 121, 101, 114, 32, 50]
def s4 : Bytes := [114, 117, 108, 101, 32, 101, 32, 48, 32, 101, 100, 103, 101, 32, 53, 32, 119, 104, 101, 110, 32, 107, 105, 110, 100, 32, 49, 32, 111, 114, 32, 107, 105, 110, 100, 32, 50, 32, 97, 110, 100, 32, 99, 108, 97, 115, 115, 32, 112]
def s5 : Bytes := [114, 117, 108, 101, 32, 101, 32, 48, 32, 101, 100, 103, 101, 32, 53, 32, 119, 104, 101, 110, 32, 40, 32, 107, 105, 110, 100, 32, 49, 32, 111, 114, 32, 107, 105, 110, 100, 32, 50, 32, 41, 32, 97, 110, 100, 32, 99, 108, 97, 115, 115, 32, 112]
def s6 : Bytes := [114, 117, 108, 101, 32, 101, 32, 48, 32, 101, 100, 103, 101, 32, 53, 32, 119, 104, 101, 110, 32, 97, 110, 121, 32, 116, 111, 32, 97, 110, 121]
def s7 : Bytes := [114, 117, 108, 101, 32, 101, 32, 48, 32, 101, 100, 103, 101, 32, 48, 53, 32, 119, 104, 101, 110, 32, 97, 110, 121]
def s8 : Bytes := [114, 117, 108, 101, 32, 101, 32, 48, 32, 101, 100, 103, 101, 32, 53, 32, 119, 104, 101, 110, 32, 107, 105, 110, 100, 32, 54]
def s9 : Bytes := [114, 117, 108, 101, 32, 57, 32, 48, 32, 101, 100, 103, 101, 32, 53, 32, 119, 104, 101, 110, 32, 97, 110, 121]
def z0 : Bytes := [114, 117, 108, 101]
def z1 : Bytes := []
def z2 : Bytes := [114, 117, 108, 101, 32, 97, 32, 49, 32, 99, 108, 101, 97, 114, 32, 53, 32, 119, 104, 101, 110, 32, 97, 110, 121]
def z3 : Bytes := [114, 117, 108, 101, 115, 32, 97, 32, 49, 32, 101, 100, 103, 101, 32, 53, 32, 119, 104, 101, 110, 32, 97, 110, 121]
theorem p_s1 : parse (s1 ++ [10]) = ([qC], 0, 0) := by kernel_rfl
theorem p_s2 : parse (s2 ++ [10]) = ([qE cAny], 0, 0) := by kernel_rfl
theorem p_s3 : parse (s3 ++ [10]) = ([qW], 0, 0) := by kernel_rfl
theorem p_s4 : parse (s4 ++ [10]) = ([qE a3], 0, 0) := by kernel_rfl
theorem p_s5 : parse (s5 ++ [10]) = ([qE a4], 0, 0) := by kernel_rfl
theorem p_s6 : parse (s6 ++ [10]) = ([], 1, 4) := by kernel_rfl
theorem p_s7 : parse (s7 ++ [10]) = ([], 1, 4) := by kernel_rfl
theorem p_s8 : parse (s8 ++ [10]) = ([], 0, 40) := by kernel_rfl
theorem p_s9 : parse (s9 ++ [10]) = ([], 0, 20) := by kernel_rfl
theorem n_z0 : line z0 = none := by kernel_rfl
theorem n_z1 : line z1 = none := by kernel_rfl
theorem n_z2 : line z2 = none := by kernel_rfl
theorem n_z3 : line z3 = none := by kernel_rfl
theorem t_s5 : textOf [qE a4] = s5 ++ [10] := by kernel_rfl
theorem c_s5 : check [qE a4] = 0 := by kernel_rfl
end Go.Proofs.YtljjbdbgedmadaaGreatDoor.Ru

namespace Go.Proofs.YtljjbdbgedmadaaGreatDoor.Ru
open Go Go.Proofs.YtljjbdbgedmadaaGreatDoor
open Go.RowKit

def beginB : Bytes := [114, 117, 108, 101, 32, 114, 32, 48, 32, 101, 100, 103, 101, 32, 48, 32, 119, 104, 101, 110, 32]
def tx (c : Cond) : Bytes := joinB 32 (write 0 c)
def notC (c : Cond) : Cond := .mk 8 [] 0 .none [c]
theorem begin_is : joinB 32 headB ++ [32] = beginB := by kernel_rfl
theorem join_head {ws : List Bytes} (h : ws ≠ []) : joinB 32 (headB ++ ws) = beginB ++ joinB 32 ws := by
 rw [join_app 32 headB ws (by simp [headB]) h, ← begin_is]; simp
theorem text_edge {c : Cond} (h : right c = true) : textOf [edgeR c] = beginB ++ tx c ++ [10] := by
 simp only [textOf, lineOf, edge_words, List.flatMap_cons, List.flatMap_nil, List.append_nil]
 rw [join_head (write_ne c h 0)]; rfl
theorem edge_check {c : Cond} (h : right c = true) (hs : size c ≤ 20) : check [edgeR c] = 0 := check_one (edge_good h hs)
theorem not_right {c : Cond} (h : right c = true) : right (notC c) = true := by rw [notC, right_mk, rights, rights]; simp [fine, rest, h]
theorem not_size (c : Cond) : size (notC c) = size c + 1 := by rw [notC, size_mk]; simp [sizes]
theorem says_of {ws : List Bytes} {q : Rule} (hw : ∀ w ∈ ws, WordOk w) (hne : ws ≠ []) (hl : lineW (headB ++ ws) = some q) (hs : (joinB 32 ws).length ≤ 200000) (hc : check [q] = 0) : parse (beginB ++ joinB 32 ws ++ [10]) = ([q], 0, 0) := by
 rw [← join_head hne]
 refine parse_one (fun w h => ?_) (by simp [headB]) hl ?_ hc
 ·rcases List.mem_append.1 h with h | h
  ·exact head_ok w h
  ·exact hw w h
 ·rw [join_head hne]; simp [beginB]; omega
theorem tx_len {c : Cond} (h : right c = true) (hs : size c ≤ 20) : (tx c).length ≤ 4400 := by
 have h1 := join_wl 32 (write 0 c)
 have h2 := write_len c h 0
 unfold tx; omega
theorem br_app {c : Cond} (h : right c = true) : joinB 32 (kwL :: write 0 c ++ [kwR]) = [40, 32] ++ tx c ++ [32, 41] := by
 rw [join_app 32 (kwL :: write 0 c) [kwR] (by simp) (by simp), show kwL :: write 0 c = [kwL] ++ write 0 c from rfl, join_app 32 [kwL] (write 0 c) (by simp) (write_ne c h 0)]
 simp [joinB, kwL, kwR, tx]
theorem p_1 {c : Cond} (h : right c = true) (hs : size c ≤ 20) : parse (beginB ++ tx c ++ [10]) = ([edgeR c], 0, 0) := by
 rw [← text_edge h]; exact back (edge_check h hs)
theorem p_2 {c : Cond} (h : right c = true) (hs : size c ≤ 20) : parse (beginB ++ [40, 32] ++ tx c ++ [32, 41] ++ [10]) = ([edgeR c], 0, 0) := by
 have hl := tx_len h hs
 have e := br_app h
 have := says_of (ws := kwL :: write 0 c ++ [kwR]) (q := edgeR c) (fun w hw => ?_) (by simp) (lineW_head (orc_bracket (rest := []) h (by simp) (by simp) (Nat.le_refl _))) (by rw [e]; simp; omega) (edge_check h hs)
 ·rw [e] at this; simpa using this
 ·obtain ⟨_, _, _, _, _, _, _, _, _, _, k11, k12, _⟩ := kw_ok
  simp only [List.cons_append, List.mem_cons, List.mem_append, List.not_mem_nil, or_false] at hw
  rcases hw with rfl | hw | rfl
  ·exact k11
  ·exact write_ok c h 0 w hw
  ·exact k12
theorem p_3 {c : Cond} (h : right c = true) (hs : size c ≤ 20) : parse (beginB ++ [40, 32, 40, 32] ++ tx c ++ [32, 41, 32, 41] ++ [10]) = ([edgeR c], 0, 0) := by
 have hl := tx_len h hs
 have e : joinB 32 (kwL :: kwL :: write 0 c ++ [kwR, kwR]) = [40, 32, 40, 32] ++ tx c ++ [32, 41, 32, 41] := by
  rw [show kwL :: kwL :: write 0 c ++ [kwR, kwR] = [kwL] ++ (kwL :: write 0 c ++ [kwR]) ++ [kwR] by simp, join_app 32 _ [kwR] (by simp) (by simp), join_app 32 [kwL] _ (by simp) (by simp), br_app h]
  simp [joinB, kwL, kwR]
 have := says_of (ws := kwL :: kwL :: write 0 c ++ [kwR, kwR]) (q := edgeR c) (fun w hw => ?_) (by simp) (lineW_head (orc_bracket2 (rest := []) h (by simp) (by simp) (Nat.le_refl _))) (by rw [e]; simp; omega) (edge_check h hs)
 ·rw [e] at this; simpa using this
 ·obtain ⟨_, _, _, _, _, _, _, _, _, _, k11, k12, _⟩ := kw_ok
  simp only [List.cons_append, List.mem_cons, List.mem_append, List.not_mem_nil, or_false] at hw
  rcases hw with rfl | rfl | hw | rfl | rfl
  ·exact k11
  ·exact k11
  ·exact write_ok c h 0 w hw
  ·exact k12
  ·exact k12
theorem p_4 {c : Cond} (h : right c = true) (hs : size c ≤ 19) : parse (beginB ++ [110, 111, 116, 32, 40, 32] ++ tx c ++ [32, 41] ++ [10]) = ([edgeR (notC c)], 0, 0) := by
 have hl := tx_len h (by omega)
 have e : joinB 32 (kwNot :: kwL :: write 0 c ++ [kwR]) = [110, 111, 116, 32, 40, 32] ++ tx c ++ [32, 41] := by
  rw [show kwNot :: kwL :: write 0 c ++ [kwR] = [kwNot] ++ (kwL :: write 0 c ++ [kwR]) by simp, join_app 32 [kwNot] _ (by simp) (by simp), br_app h]
  simp [joinB, kwNot]
 have := says_of (ws := kwNot :: kwL :: write 0 c ++ [kwR]) (q := edgeR (notC c)) (fun w hw => ?_) (by simp) (lineW_head (orc_not h (Nat.le_refl _))) (by rw [e]; simp; omega) (edge_check (not_right h) (by rw [not_size]; omega))
 ·rw [e] at this; simpa using this
 ·obtain ⟨_, _, _, _, _, _, _, k8, _, _, k11, k12, _⟩ := kw_ok
  simp only [List.cons_append, List.mem_cons, List.mem_append, List.not_mem_nil, or_false] at hw
  rcases hw with rfl | rfl | hw | rfl
  ·exact k8
  ·exact k11
  ·exact write_ok c h 0 w hw
  ·exact k12

/-! ### Rules that are made -/
def names4 : List Bytes := [[99, 49], [114, 117, 108, 101], [119, 45, 50], [43, 101]]
theorem names4_nodup : names4.Nodup := by decide
theorem checkL_of : ∀ {l : List Rule} {before : List Bytes}, (∀ r ∈ l, Good r) → (before ++ l.map (·.name)).Nodup → checkL before l = 0
 | [], _, _, _ => by rw [checkL]
 | r :: l, before, h, hn => by
  have h1 : r.name ∉ before := fun hm => by
   rw [List.nodup_append] at hn
   exact hn.2.2 _ hm _ (by simp) rfl
  rw [checkL, if_pos (one_of (h r (by simp)) h1)]
  exact checkL_of (fun q hq => h q (by simp [hq])) (by simpa using hn)
theorem made_check {l : List Rule} (h : ∀ q ∈ l, Good q) (hn : l.map (·.name) = names4.take l.length) (hl : l.length ≤ 4) : check l = 0 := by
 unfold check
 rw [if_neg (by omega)]
 exact checkL_of h (by rw [List.nil_append, hn]; exact (List.take_sublist _ _).nodup names4_nodup)
theorem text_one {r : Rule} (h : Good r) : text [r] = (lineOf r, 0) := by
 unfold text
 rw [if_pos (check_one h)]
 simp [textOf]
theorem text_made {l : List Rule} (h : check l = 0) : text l = (textOf l, 0) := by
 unfold text
 rw [if_pos h]
theorem textOf_take {l : List Rule} {k : Nat} (h : k < l.length) : textOf (l.take (k + 1)) = textOf (l.take k) ++ lineOf l[k] := by
 show List.flatMap lineOf (l.take (k + 1)) = List.flatMap lineOf (l.take k) ++ lineOf l[k]
 rw [List.take_add_one, List.getElem?_eq_getElem h, Option.toList, List.flatMap_append]
 simp
def spoil : List Bytes := [z0, z1, z2, z3]
theorem spoil_ok : ∀ x ∈ spoil, line x = none ∧ 10 ∉ x ∧ x.length ≤ 100 := by
 intro x hx
 simp only [spoil, List.mem_cons, List.not_mem_nil, or_false] at hx
 rcases hx with rfl | rfl | rfl | rfl
 ·exact ⟨n_z0, by decide, by decide⟩
 ·exact ⟨n_z1, by decide, by decide⟩
 ·exact ⟨n_z2, by decide, by decide⟩
 ·exact ⟨n_z3, by decide, by decide⟩
theorem lines_law {l : List Rule} (h : ∀ r ∈ l, Good r) (hl : l.length ≤ 4) {x z : Bytes} (hx : x ∈ spoil) (hz : z.length ≤ 100) : parse (textOf l ++ x ++ [10] ++ z ++ [10]) = (([] : List Rule), (l.length : Int) + 1, (4 : Int)) := by
 obtain ⟨h1, h2, h3⟩ := spoil_ok x hx
 have e : textOf l ++ x ++ [10] ++ z ++ [10] = textOf l ++ x ++ 10 :: (z ++ [10]) := by simp
 have h4 := text_len h
 rw [e]
 exact parse_spoiled h h1 h2 (by simp; omega)
theorem text_same {l m : List Rule} (h : check l = 0) (h' : check m = 0) : textOf l = textOf m ↔ l = m := ⟨text_inj h h', fun e => by rw [e]⟩

end Go.Proofs.YtljjbdbgedmadaaGreatDoor.Ru

namespace Go.Proofs.YtljjbdbgedmadaaGreatDoor.Ru
open Go Go.Proofs.YtljjbdbgedmadaaGreatDoor

/-! ### Numbers -/
theorem dec_len : ∀ (k u : Nat), u < 10 ^ (k + 1) → (Lib.decDigits u).length ≤ k + 1
 | 0, u, h => by rw [Wr.dec_small (by simpa using h)]; simp
 | k + 1, u, h => by
  by_cases h1 : u < 10
  ·rw [Wr.dec_small h1]; simp
  ·rw [Wr.dec_big h1, List.length_append]
   have := dec_len k (u / 10) (by rw [Nat.pow_succ] at h; omega)
   simp; omega
theorem dv_lt {l : Bytes} (h : ∀ c ∈ l, 48 ≤ c.toNat ∧ c.toNat ≤ 57) : ∀ j, j ≤ l.length → Wr.dv (l.take j) < 10 ^ j
 | 0, _ => by simp [Wr.dv]
 | j + 1, hj => by
  have ih := dv_lt h j (by omega)
  rw [Wr.dv_step l j (by omega)]
  have := h l[j] (List.getElem_mem _)
  rw [Nat.pow_succ]; omega
theorem dv_all {l : Bytes} (h : ∀ c ∈ l, 48 ≤ c.toNat ∧ c.toNat ≤ 57) : Wr.dv l < 10 ^ l.length := by
 have := dv_lt h l.length (Nat.le_refl _)
 rwa [List.take_length] at this
/-- The value that the reference reads. -/
def valR (s : Bytes) : Int := if Wr.neg s then -(Wr.dv (Wr.mag s) : Int) else Wr.dv (Wr.mag s)
def digits (s : Bytes) : Prop := ∀ c ∈ s, 48 ≤ c.toNat ∧ c.toNat ≤ 57
instance (s : Bytes) : Decidable (digits s) := by unfold digits; infer_instance
theorem neg_dec (u : Nat) : Wr.neg (Lib.decDigits u) = false := Wr.dec_head u
theorem val_bound {s : Bytes} (h : digits (Wr.mag s)) (hl : (Wr.mag s).length ≤ 10) : -10000000000 < valR s ∧ valR s < 10000000000 := by
 have h1 := dv_all h
 have h2 : 10 ^ (Wr.mag s).length ≤ 10 ^ 10 := Nat.pow_le_pow_right (by omega) hl
 have h3 : Wr.dv (Wr.mag s) < 10000000000 := by omega
 unfold valR
 split <;> omega
theorem mag_itoa_len {n : Int} (h : -10000000000 < n ∧ n < 10000000000) : 1 ≤ (Wr.mag (Lib.itoa n)).length ∧ (Wr.mag (Lib.itoa n)).length ≤ 10 := by
 have key : ∀ u : Nat, u < 10000000000 → 1 ≤ (Lib.decDigits u).length ∧ (Lib.decDigits u).length ≤ 10 := fun u hu =>
  ⟨List.length_pos_iff.2 (Wr.dec_ne u), dec_len 9 u (by simpa using hu)⟩
 unfold Lib.itoa
 split
 ·rename_i hn
  have e : ∀ d : Bytes, Wr.mag (45 :: d) = d := fun d => by simp [Wr.mag, Wr.neg]
  rw [e]
  exact key _ (by omega)
 ·rename_i hn
  unfold Wr.mag
  rw [neg_dec]
  exact key _ (by omega)
theorem num_ref (s : Bytes) : num s = if 1 ≤ (Wr.mag s).length ∧ (Wr.mag s).length ≤ 10 ∧ digits (Wr.mag s) ∧ Lib.itoa (valR s) = s then some (valR s) else none := by
 unfold num
 cases hp : Wr.parse s with
 | none =>
  dsimp only
  rw [if_neg]
  intro ⟨_, h10, hd, e⟩
  have hb := val_bound hd h10
  rw [Wr.parse_some.2 ⟨e.symm, by unfold Wr.I64; omega⟩] at hp
  cases hp
 | some m =>
  obtain ⟨hd, hm, hi, hs⟩ := Wr.parse_spec hp
  have hv : valR s = m := by unfold valR; exact hm.symm
  dsimp only
  rw [hv]
  by_cases hr : -10000000000 < m ∧ m < 10000000000
  ·rw [if_pos hr, if_pos]
   have := mag_itoa_len hr
   rw [← hs] at this
   exact ⟨this.1, this.2, hd, hs.symm⟩
  ·rw [if_neg hr, if_neg]
   intro ⟨_, h10, _, _⟩
   have hb := val_bound hd h10
   rw [hv] at hb
   exact hr hb

/-! ### Indices -/
theorem dec_lead (u : Nat) : 0 < u → (Lib.decDigits u).head? ≠ some 48 := by
 induction u using Nat.strongRecOn with
 | _ u ih =>
  intro h0
  by_cases h : u < 10
  ·rw [Wr.dec_small h]
   intro e
   have e1 : UInt8.ofNat (48 + u) = 48 := by simpa using e
   have := Wr.digit_toNat h
   rw [e1] at this
   simp at this; omega
  ·rw [Wr.dec_big h]
   have h2 := ih (u / 10) (by omega) (by omega)
   have h3 := Wr.dec_ne (u / 10)
   cases hd : Lib.decDigits (u / 10) with
   | nil => exact absurd hd h3
   | cons c t => rw [hd] at h2; simpa using h2
theorem dec_dv : ∀ (l : Bytes), digits l → l ≠ [] → (1 < l.length → l.head? ≠ some 48) → Lib.decDigits (Wr.dv l) = l := by
 intro l
 induction h : l.length generalizing l with
 | zero => intro _ hne; exact absurd (List.length_eq_zero_iff.1 h) hne
 | succ n ih =>
  intro hd hne hz
  obtain ⟨m, c, rfl⟩ : ∃ m c, l = m ++ [c] := ⟨l.dropLast, l.getLast hne, (List.dropLast_concat_getLast hne).symm⟩
  have hc := hd c (by simp)
  have hcn : UInt8.ofNat (48 + (c.toNat - 48)) = c := by
   apply UInt8.toNat_inj.1
   rw [Wr.digit_toNat (by omega)]; omega
  rw [Wr.dv_snoc]
  cases hm : m with
  | nil =>
   simp only [Wr.dv, List.foldl_nil, Nat.mul_zero, Nat.zero_add, List.nil_append]
   rw [Wr.dec_small (by omega), hcn]
  | cons x t =>
   have hml : m.length = n := by simp at h; omega
   have hdm : digits m := fun y hy => hd y (by simp [hy])
   have hne2 : m ≠ [] := by rw [hm]; simp
   have hhead : (m ++ [c]).head? = m.head? := by rw [hm]; rfl
   have hz2 : m.head? ≠ some 48 := by
    rw [← hhead]; exact hz (by rw [hm] at hml; simp at hml; omega)
   have hih := ih m hml hdm hne2 (fun _ => hz2)
   have hpos : 0 < Wr.dv m := by
    rcases Nat.eq_zero_or_pos (Wr.dv m) with h0 | h0
    ·rw [h0, Wr.dec_small (by omega)] at hih
     rw [← hih] at hz2
     exact absurd rfl hz2
    ·exact h0
   rw [← hm, Wr.dec_big (by omega), show (10 * Wr.dv m + (c.toNat - 48)) / 10 = Wr.dv m by omega, show (10 * Wr.dv m + (c.toNat - 48)) % 10 = c.toNat - 48 by omega, hih, hcn]
/-- What an index is, by the reference. -/
def idxR (s : Bytes) : Int := if s.length < 1 ∨ 3 < s.length ∨ (1 < s.length ∧ s.head? = some 48) then -1 else if digits s then Wr.dv s else -1
theorem idx_ref (s : Bytes) : idxR s = (idx s).getD (-1) := by
 unfold idx
 cases hp : Wr.parse s with
 | none =>
  simp only [Option.getD_none]
  unfold idxR
  split; · rfl
  rename_i h1
  split
  ·rename_i hd
   have e := dec_dv s hd (by intro h; rw [h] at h1; simp at h1) (fun h2 h3 => h1 (.inr (.inr ⟨h2, h3⟩)))
   have hlt := dv_all hd
   have h2 : 10 ^ s.length ≤ 10 ^ 3 := Nat.pow_le_pow_right (by omega) (by omega)
   have h4 : Lib.itoa (Wr.dv s : Int) = s := by
    unfold Lib.itoa; rw [if_neg (by omega), Int.toNat_natCast]; exact e
   rw [Wr.parse_some.2 ⟨h4.symm, by unfold Wr.I64; omega⟩] at hp
   cases hp
  ·rfl
 | some m =>
  obtain ⟨hd, hm, hi, hs⟩ := Wr.parse_spec hp
  dsimp only
  by_cases hr : 0 ≤ m ∧ m ≤ 999
  ·rw [if_pos hr, Option.getD_some]
   have hsd : s = Lib.decDigits m.toNat := by rw [hs]; unfold Lib.itoa; rw [if_neg (by omega)]
   have hl := dec_len 2 m.toNat (by omega)
   rw [← hsd] at hl
   have hne : s ≠ [] := by rw [hsd]; exact Wr.dec_ne _
   have hng : Wr.neg s = false := by rw [hsd]; exact neg_dec _
   have hmg : Wr.mag s = s := by unfold Wr.mag; rw [hng]; rfl
   rw [hmg] at hd
   unfold idxR
   rw [if_neg, if_pos (show digits s from hd)]
   ·rw [hm, hng, hmg]; rfl
   ·intro h
    rcases h with h | h | ⟨h1, h2⟩
    ·exact hne (List.length_eq_zero_iff.1 (by omega))
    ·omega
    ·by_cases h3 : m.toNat < 10
     ·rw [hsd, Wr.dec_small h3] at h1; simp at h1
     ·have : (Lib.decDigits m.toNat).head? ≠ some 48 := dec_lead m.toNat (by omega)
      rw [hsd] at h2; exact this h2
  ·rw [if_neg hr]
   simp only [Option.getD_none]
   unfold idxR
   split; · rfl
   rename_i h1
   split
   ·rename_i hd2
    have hlt := dv_all hd2
    have h2 : 10 ^ s.length ≤ 10 ^ 3 := Nat.pow_le_pow_right (by omega) (by omega)
    have hng : Wr.neg s = false := by
     cases hs0 : s with
     | nil => rfl
     | cons c t =>
      have := hd2 c (by rw [hs0]; simp)
      simp only [Wr.neg, List.head?_cons]
      cases hb : (some c == some (45 : UInt8)) with
      | false => rfl
      | true =>
       have : c = 45 := by simpa using hb
       subst this
       simp at this
    have hmg : Wr.mag s = s := by unfold Wr.mag; rw [hng]; rfl
    rw [hng, hmg] at hm
    exact absurd ⟨by rw [hm]; simp, by rw [hm]; simp; omega⟩ hr
   ·rfl
theorem idx_dot {s : Bytes} (h : 46 ∈ s) : idx s = none := by
 unfold idx
 cases hp : Wr.parse s with
 | none => rfl
 | some m =>
  have h1 := (Wr.parse_some.1 hp).1
  rw [h1] at h
  exact absurd (Wr.itoa_byte m _ h) (by decide)
theorem idxR_bound (s : Bytes) : -1 ≤ idxR s ∧ idxR s ≤ 999 := by
 rw [idx_ref]
 cases h : idx s with
 | none => simp
 | some n =>
  have h1 : 0 ≤ n ∧ n ≤ 999 := by
   unfold idx at h
   split at h
   ·split at h
    ·rename_i h2; injection h with h; omega
    ·cases h
   ·cases h
  simp only [Option.getD_some]; omega
/-- The indices of a bus, by the reference. -/
def pairR (a b : Int) : Option (Int × Int) := if a < 0 ∨ b < 0 ∨ 15 < a - b ∨ 15 < b - a then none else some (a, b)
def endsI (inner : Bytes) : Option (Int × Int) := match Wr.cut1 46 inner with
 | none => pairR (idxR inner) (idxR inner)
 | some (f, t) => if t.head? = some 46 then pairR (idxR f) (idxR t.tail) else none
theorem pair_idx (f t : Bytes) : pairR (idxR f) (idxR t) = match idx f, idx t with
  | some a, some b => if a - b ≤ 15 ∧ b - a ≤ 15 then some (a, b) else none
  | _, _ => none := by
 rw [idx_ref, idx_ref]
 have hb : ∀ (s : Bytes) (n : Int), idx s = some n → 0 ≤ n := fun s n h => by
  unfold idx at h
  split at h
  ·split at h
   ·rename_i h2; injection h with h; omega
   ·cases h
  ·cases h
 cases hf : idx f with
 | none => simp [pairR]
 | some a =>
  cases ht : idx t with
  | none => simp [pairR]
  | some b =>
   have h1 := hb f a hf
   have h2 := hb t b ht
   simp only [Option.getD_some, pairR]
   by_cases h : a - b ≤ 15 ∧ b - a ≤ 15
   ·rw [if_pos h, if_neg (by omega)]
   ·rw [if_neg h, if_pos (by omega)]
theorem occ_dots {l : Bytes} {i : Nat} : Lib.occAt l [46, 46] i = true ↔ l[i]? = some 46 ∧ l[i + 1]? = some 46 := by
 unfold Lib.occAt
 have h1 : l[i]? = (l.drop i)[0]? := by simp
 have h2 : l[i + 1]? = (l.drop i)[1]? := by simp
 rw [h1, h2]
 cases l.drop i with
 | nil => simp
 | cons a r =>
  cases r with
  | nil => simp
  | cons b r =>
   simp
   constructor <;> rintro ⟨rfl, rfl⟩ <;> exact ⟨rfl, rfl⟩
theorem ends_ref (inner : Bytes) : ends inner = endsI inner := by
 unfold ends endsI
 cases hc : Wr.cut1 46 inner with
 | none =>
  have hn : 46 ∉ inner := Wr.cut1_none.1 hc
  have hi : Lib.index inner [46, 46] = -1 := by
   rcases Lib.index_spec inner [46, 46] with ⟨h, _⟩ | ⟨i, _, _, h, _⟩
   ·exact h
   ·exact absurd (List.mem_of_getElem? (occ_dots.1 h).1) hn
  have e : Lib.cut inner [46, 46] = (inner, [], false) := by unfold Lib.cut; rw [hi]; rfl
  rw [e, pair_idx]
  rfl
 | some p =>
  obtain ⟨f, t⟩ := p
  obtain ⟨hs, hf⟩ := Wr.cut1_some hc
  dsimp only
  have hget : inner[f.length]? = some 46 := by rw [hs]; simp
  by_cases ht : t.head? = some 46
  ·rw [if_pos ht]
   obtain ⟨t', rfl⟩ : ∃ t', t = 46 :: t' := by
    cases t with
    | nil => simp at ht
    | cons c t' => simp at ht; exact ⟨t', by rw [ht]⟩
   have hi : Lib.index inner [46, 46] = f.length := Lib.index_first (by rw [hs]; simp) (occ_dots.2 ⟨hget, by rw [hs]; simp⟩) (fun j hj => by
    cases h : Lib.occAt inner [46, 46] j with
    | false => rfl
    | true =>
     have h1 := (occ_dots.1 h).1
     rw [hs, List.getElem?_append_left hj] at h1
     exact absurd (List.mem_of_getElem? h1) hf)
   have e : Lib.cut inner [46, 46] = (f, t', true) := by
    unfold Lib.cut
    rw [hi, if_pos (by omega), Int.toNat_natCast, hs]
    simp
   rw [e, pair_idx]
   rfl
  ·rw [if_neg ht]
   have key : ∃ f' t' sev, Lib.cut inner [46, 46] = (f', t', sev) ∧ 46 ∈ f' := by
    unfold Lib.cut
    by_cases h0 : 0 ≤ Lib.index inner [46, 46]
    ·rw [if_pos h0]
     refine ⟨_, _, _, rfl, ?_⟩
     rcases Lib.index_spec inner [46, 46] with ⟨h, _⟩ | ⟨i, h1, _, h, _⟩
     ·omega
     ·rw [h1, Int.toNat_natCast]
      obtain ⟨o1, o2⟩ := occ_dots.1 h
      have hlt : f.length < i := by
       rcases Nat.lt_or_ge f.length i with h2 | h2
       ·exact h2
       ·rcases Nat.lt_or_ge i f.length with h3 | h3
        ·rw [hs, List.getElem?_append_left h3] at o1
         exact absurd (List.mem_of_getElem? o1) hf
        ·obtain rfl : i = f.length := by omega
         rw [hs] at o2
         cases t with
         | nil => simp at o2
         | cons c t => simp at o2; exact absurd (by rw [o2]; rfl) ht
      have : (inner.take i)[f.length]? = some 46 := by rw [List.getElem?_take_of_lt hlt]; exact hget
      exact List.mem_of_getElem? this
    ·rw [if_neg h0]
     exact ⟨_, _, _, rfl, List.mem_of_getElem? hget⟩
   obtain ⟨f', t', sev, e, h46⟩ := key
   rw [e]
   dsimp only
   rw [idx_dot h46]
/-- The members of a bus, one direction. -/
theorem members_step (name : Bytes) (a b t : Int) (ht : t = if b < a then -1 else 1) (K : Nat) (hK : (K : Int) = t * (b - a) + 1) : members name a b = (List.range K).map fun k : Nat => memb name (a + t * (k : Int)) := by
 unfold members
 by_cases h : b < a
 ·rw [if_pos h] at ht
  subst ht
  rw [if_neg (by omega), show (a - b).toNat + 1 = K by omega]
  apply List.map_congr_left
  intro k _
  rw [show a - (k : Int) = a + -1 * (k : Int) by omega]
 ·rw [if_neg h] at ht
  subst ht
  rw [if_pos (by omega), show (b - a).toNat + 1 = K by omega]
  apply List.map_congr_left
  intro k _
  rw [Int.one_mul]
theorem pieces_drop (e : UInt8) (s : Bytes) (a k : Nat) (hak : a ≤ k) (hk : s[k]? = some e) (hn : ∀ i, a ≤ i → i < k → s[i]? ≠ some e) : pieces e (s.drop a) = (s.take k).drop a :: pieces e (s.drop (k + 1)) := by
 have hlt : k < s.length := (List.getElem?_eq_some_iff.1 hk).1
 have h1 : s.drop a = (s.take k).drop a ++ e :: s.drop (k + 1) := by
  have h2 : s = s.take k ++ e :: s.drop (k + 1) := by
   have h3 : s[k] = e := (List.getElem?_eq_some_iff.1 hk).2
   rw [← h3, List.getElem_cons_drop, List.take_append_drop]
  conv => lhs; rw [h2]
  rw [List.drop_append_of_le_length (by rw [List.length_take]; omega)]
 rw [h1]
 exact pieces_app e _ _ (fun h => by
  obtain ⟨i, hi, h2⟩ := List.getElem_of_mem h
  rw [List.length_drop, List.length_take] at hi
  have h3 : s[a + i]? = some e := by
   rw [List.getElem_drop, List.getElem_take] at h2
   rw [List.getElem?_eq_getElem (by omega), h2]
  exact hn (a + i) (by omega) (by omega) h3)
theorem pieces_last (e : UInt8) (s : Bytes) (a : Nat) (hn : ∀ i, a ≤ i → i < s.length → s[i]? ≠ some e) : pieces e (s.drop a) = [s.drop a] :=
 pieces_plain e _ (fun h => by
  obtain ⟨i, hi, h2⟩ := List.getElem_of_mem h
  rw [List.length_drop] at hi
  have h3 : s[a + i]? = some e := by
   rw [List.getElem_drop] at h2
   rw [List.getElem?_eq_getElem (by omega), h2]
  exact hn (a + i) (by omega) (by omega) h3)
end Go.Proofs.YtljjbdbgedmadaaGreatDoor.Ru
