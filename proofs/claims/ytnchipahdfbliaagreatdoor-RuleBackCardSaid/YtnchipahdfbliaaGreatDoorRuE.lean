/- The plain law of the rules, fifth part: the chapter's examples, and lines that are none. No program is in sight; no condition.
   The plain law of the rules, seventh part: the texts of RuleBrackets. No program is in sight; no condition. -/
import Derived.Test.YtnchipahdfbliaaGreatDoorRuA
import Derived.Lib.Hide

namespace Go.Proofs.YtnchipahdfbliaaGreatDoor.Ru
open Go Go.Proofs.YtnchipahdfbliaaGreatDoor
open Go.RowKit

def qC : Rule := ⟨[99, 49], 1, 1, 10, cAny, cAny⟩
def qE (a : Cond) : Rule := ⟨[101], 0, 3, 5, a, cAny⟩
def kindC (n : Int) : Cond := .mk 4 [] n .none []
def netG : Cond := .mk 2 [71, 78, 68] 0 .none []
def notL : Cond := .mk 8 [] 0 .none [.mk 5 [] 2 .none []]
def qW : Rule := ⟨[119], 2, 2, 8, .mk 9 [] 0 .none [netG, notL], cAny⟩
def clsP : Cond := .mk 3 [112] 0 .none []
def a3 : Cond := .mk 10 [] 0 .none [kindC 1, .mk 9 [] 0 .none [kindC 2, clsP]]
def a4 : Cond := .mk 9 [] 0 .none [.mk 10 [] 0 .none [kindC 1, kindC 2], clsP]
def s1 : Bytes := [114, 117, 108, 101, 32, 99, 49, 32, 49, 32, 99, 108, 101, 97, 114, 32, 49, 48, 32, 119, 104, 101, 110, 32, 97, 110, 121, 32, 116, 111, 32, 97, 110, 121]
def s2 : Bytes := [114, 117, 108, 101, 32, 101, 32, 48, 32, 101, 100, 103, 101, 32, 53, 32, 119, 104, 101, 110, 32, 40, 32, 97, 110, 121, 32, 41]
def s3 : Bytes := [114, 117, 108, 101, 32, 119, 32, 50, 32, 119, 105, 100, 116, 104, 32, 56, 32, 119, 104, 101, 110, 32, 110, 101, 116, 32, 71, 78, 68, 32, 97, 110, 100, 32, 110, 111, 116, 32, 108, 97, 121, 101, 114, 32, 50]
def s4 : Bytes := [114, 117, 108, 101, 32, 101, 32, 48, 32, 101, 100, 103, 101, 32, 53, 32, 119, 104, 101, 110, 32, 107, 105, 110, 100, 32, 49, 32, 111, 114, 32, 107, 105, 110, 100, 32, 50, 32, 97, 110, 100, 32, 99, 108, 97, 115, 115, 32, 112]
def s5 : Bytes := [114, 117, 108, 101, 32, 101, 32, 48, 32, 101, 100, 103, 101, 32, 53, 32, 119, 104, 101, 110, 32, 40, 32, 107, 105, 110, 100, 32, 49, 32, 111, 114, 32, 107, 105, 110, 100, 32, 50, 32, 41, 32, 97, 110, 100, 32, 99, 108, 97, 115, 115, 32, 112]
def s6 : Bytes := [114, 117, 108, 101, 32, 101, 32, 48, 32, 101, 100, 103, 101, 32, 53, 32, 119, 104, 101, 110, 32, 97, 110, 121, 32, 116, 111, 32, 97, 110, 121]
def s7 : Bytes := [114, 117, 108, 101, 32, 101, 32, 48, 32, 101, 100, 103, 101, 32, 48, 53, 32, 119, 104, 101, 110, 32, 97, 110, 121]
def s8 : Bytes := [114, 117, 108, 101, 32, 101, 32, 48, 32, 101, 100, 103, 101, 32, 53, 32, 119, 104, 101, 110, 32, 107, 105, 110, 100, 32, 54]
def s9 : Bytes := [114, 117, 108, 101, 32, 57, 32, 48, 32, 101, 100, 103, 101, 32, 53, 32, 119, 104, 101, 110, 32, 97, 110, 121]
def z0 : Bytes := [114, 117, 108, 101]
def z1 : Bytes := []
def z2 : Bytes := [114, 117, 108, 101, 32, 97, 32, 49, 32, 99, 108, 101, 97, 114, 32, 53, 32, 119, 104, 101, 110, 32, 97, 110, 121]
def z3 : Bytes := [114, 117, 108, 101, 115, 32, 97, 32, 49, 32, 101, 100, 103, 101, 32, 53, 32, 119, 104, 101, 110, 32, 97, 110, 121]
theorem p_s1 : parse (s1 ++ [10]) = ([qC], 0, 0) := by kernel_rfl
theorem p_s2 : parse (s2 ++ [10]) = ([qE cAny], 0, 0) := by kernel_rfl
theorem p_s3 : parse (s3 ++ [10]) = ([qW], 0, 0) := by kernel_rfl
theorem p_s4 : parse (s4 ++ [10]) = ([qE a3], 0, 0) := by kernel_rfl
theorem p_s5 : parse (s5 ++ [10]) = ([qE a4], 0, 0) := by kernel_rfl
theorem p_s6 : parse (s6 ++ [10]) = ([], 1, 4) := by kernel_rfl
theorem p_s7 : parse (s7 ++ [10]) = ([], 1, 4) := by kernel_rfl
theorem p_s8 : parse (s8 ++ [10]) = ([], 0, 40) := by kernel_rfl
theorem p_s9 : parse (s9 ++ [10]) = ([], 0, 20) := by kernel_rfl
theorem n_z0 : line z0 = none := by kernel_rfl
theorem n_z1 : line z1 = none := by kernel_rfl
theorem n_z2 : line z2 = none := by kernel_rfl
theorem n_z3 : line z3 = none := by kernel_rfl
theorem t_s5 : textOf [qE a4] = s5 ++ [10] := by kernel_rfl
theorem c_s5 : check [qE a4] = 0 := by kernel_rfl
end Go.Proofs.YtnchipahdfbliaaGreatDoor.Ru

namespace Go.Proofs.YtnchipahdfbliaaGreatDoor.Ru
open Go Go.Proofs.YtnchipahdfbliaaGreatDoor
open Go.RowKit

def beginB : Bytes := [114, 117, 108, 101, 32, 114, 32, 48, 32, 101, 100, 103, 101, 32, 48, 32, 119, 104, 101, 110, 32]
def tx (c : Cond) : Bytes := joinB 32 (write 0 c)
def notC (c : Cond) : Cond := .mk 8 [] 0 .none [c]
theorem begin_is : joinB 32 headB ++ [32] = beginB := by kernel_rfl
theorem join_head {ws : List Bytes} (h : ws ≠ []) : joinB 32 (headB ++ ws) = beginB ++ joinB 32 ws := by
  rw [join_app 32 headB ws (by simp [headB]) h, ← begin_is]; simp
theorem text_edge {c : Cond} (h : right c = true) : textOf [edgeR c] = beginB ++ tx c ++ [10] := by
  simp only [textOf, lineOf, edge_words, List.flatMap_cons, List.flatMap_nil, List.append_nil]
  rw [join_head (write_ne c h 0)]; rfl
theorem edge_check {c : Cond} (h : right c = true) (hs : size c ≤ 20) : check [edgeR c] = 0 := check_one (edge_good h hs)
theorem not_right {c : Cond} (h : right c = true) : right (notC c) = true := by rw [notC, right_mk, rights, rights]; simp [fine, rest, h]
theorem not_size (c : Cond) : size (notC c) = size c + 1 := by rw [notC, size_mk]; simp [sizes]
theorem says_of {ws : List Bytes} {q : Rule} (hw : ∀ w ∈ ws, WordOk w) (hne : ws ≠ []) (hl : lineW (headB ++ ws) = some q) (hs : (joinB 32 ws).length ≤ 200000) (hc : check [q] = 0) : parse (beginB ++ joinB 32 ws ++ [10]) = ([q], 0, 0) := by
  rw [← join_head hne]
  refine parse_one (fun w h => ?_) (by simp [headB]) hl ?_ hc
  · rcases List.mem_append.1 h with h | h
    · exact head_ok w h
    · exact hw w h
  · rw [join_head hne]; simp [beginB]; omega
theorem tx_len {c : Cond} (h : right c = true) (hs : size c ≤ 20) : (tx c).length ≤ 4400 := by
  have h1 := join_wl 32 (write 0 c)
  have h2 := write_len c h 0
  unfold tx; omega
theorem br_app {c : Cond} (h : right c = true) : joinB 32 (kwL :: write 0 c ++ [kwR]) = [40, 32] ++ tx c ++ [32, 41] := by
  rw [join_app 32 (kwL :: write 0 c) [kwR] (by simp) (by simp), show kwL :: write 0 c = [kwL] ++ write 0 c from rfl, join_app 32 [kwL] (write 0 c) (by simp) (write_ne c h 0)]
  simp [joinB, kwL, kwR, tx]
theorem p_1 {c : Cond} (h : right c = true) (hs : size c ≤ 20) : parse (beginB ++ tx c ++ [10]) = ([edgeR c], 0, 0) := by
  rw [← text_edge h]; exact back (edge_check h hs)
theorem p_2 {c : Cond} (h : right c = true) (hs : size c ≤ 20) : parse (beginB ++ [40, 32] ++ tx c ++ [32, 41] ++ [10]) = ([edgeR c], 0, 0) := by
  have hl := tx_len h hs
  have e := br_app h
  have := says_of (ws := kwL :: write 0 c ++ [kwR]) (q := edgeR c) (fun w hw => ?_) (by simp) (lineW_head (orc_bracket (rest := []) h (by simp) (by simp) (Nat.le_refl _))) (by rw [e]; simp; omega) (edge_check h hs)
  · rw [e] at this; simpa using this
  · obtain ⟨_, _, _, _, _, _, _, _, _, _, k11, k12, _⟩ := kw_ok
    simp only [List.cons_append, List.mem_cons, List.mem_append, List.not_mem_nil, or_false] at hw
    rcases hw with rfl | hw | rfl
    · exact k11
    · exact write_ok c h 0 w hw
    · exact k12
theorem p_3 {c : Cond} (h : right c = true) (hs : size c ≤ 20) : parse (beginB ++ [40, 32, 40, 32] ++ tx c ++ [32, 41, 32, 41] ++ [10]) = ([edgeR c], 0, 0) := by
  have hl := tx_len h hs
  have e : joinB 32 (kwL :: kwL :: write 0 c ++ [kwR, kwR]) = [40, 32, 40, 32] ++ tx c ++ [32, 41, 32, 41] := by
    rw [show kwL :: kwL :: write 0 c ++ [kwR, kwR] = [kwL] ++ (kwL :: write 0 c ++ [kwR]) ++ [kwR] by simp, join_app 32 _ [kwR] (by simp) (by simp), join_app 32 [kwL] _ (by simp) (by simp), br_app h]
    simp [joinB, kwL, kwR]
  have := says_of (ws := kwL :: kwL :: write 0 c ++ [kwR, kwR]) (q := edgeR c) (fun w hw => ?_) (by simp) (lineW_head (orc_bracket2 (rest := []) h (by simp) (by simp) (Nat.le_refl _))) (by rw [e]; simp; omega) (edge_check h hs)
  · rw [e] at this; simpa using this
  · obtain ⟨_, _, _, _, _, _, _, _, _, _, k11, k12, _⟩ := kw_ok
    simp only [List.cons_append, List.mem_cons, List.mem_append, List.not_mem_nil, or_false] at hw
    rcases hw with rfl | rfl | hw | rfl | rfl
    · exact k11
    · exact k11
    · exact write_ok c h 0 w hw
    · exact k12
    · exact k12
theorem p_4 {c : Cond} (h : right c = true) (hs : size c ≤ 19) : parse (beginB ++ [110, 111, 116, 32, 40, 32] ++ tx c ++ [32, 41] ++ [10]) = ([edgeR (notC c)], 0, 0) := by
  have hl := tx_len h (by omega)
  have e : joinB 32 (kwNot :: kwL :: write 0 c ++ [kwR]) = [110, 111, 116, 32, 40, 32] ++ tx c ++ [32, 41] := by
    rw [show kwNot :: kwL :: write 0 c ++ [kwR] = [kwNot] ++ (kwL :: write 0 c ++ [kwR]) by simp, join_app 32 [kwNot] _ (by simp) (by simp), br_app h]
    simp [joinB, kwNot]
  have := says_of (ws := kwNot :: kwL :: write 0 c ++ [kwR]) (q := edgeR (notC c)) (fun w hw => ?_) (by simp) (lineW_head (orc_not h (Nat.le_refl _))) (by rw [e]; simp; omega) (edge_check (not_right h) (by rw [not_size]; omega))
  · rw [e] at this; simpa using this
  · obtain ⟨_, _, _, _, _, _, _, k8, _, _, k11, k12, _⟩ := kw_ok
    simp only [List.cons_append, List.mem_cons, List.mem_append, List.not_mem_nil, or_false] at hw
    rcases hw with rfl | rfl | hw | rfl
    · exact k8
    · exact k11
    · exact write_ok c h 0 w hw
    · exact k12

/-! ### Rules that are made -/
def names4 : List Bytes := [[99, 49], [114, 117, 108, 101], [119, 45, 50], [43, 101]]
theorem names4_nodup : names4.Nodup := by decide
theorem checkL_of : ∀ {l : List Rule} {before : List Bytes}, (∀ r ∈ l, Good r) → (before ++ l.map (·.name)).Nodup → checkL before l = 0
  | [], _, _, _ => by rw [checkL]
  | r :: l, before, h, hn => by
    have h1 : r.name ∉ before := fun hm => by
      rw [List.nodup_append] at hn
      exact hn.2.2 _ hm _ (by simp) rfl
    rw [checkL, if_pos (one_of (h r (by simp)) h1)]
    exact checkL_of (fun q hq => h q (by simp [hq])) (by simpa using hn)
theorem made_check {l : List Rule} (h : ∀ q ∈ l, Good q) (hn : l.map (·.name) = names4.take l.length) (hl : l.length ≤ 4) : check l = 0 := by
  unfold check
  rw [if_neg (by omega)]
  exact checkL_of h (by rw [List.nil_append, hn]; exact (List.take_sublist _ _).nodup names4_nodup)
theorem text_one {r : Rule} (h : Good r) : text [r] = (lineOf r, 0) := by
  unfold text
  rw [if_pos (check_one h)]
  simp [textOf]
theorem text_made {l : List Rule} (h : check l = 0) : text l = (textOf l, 0) := by
  unfold text
  rw [if_pos h]
theorem textOf_take {l : List Rule} {k : Nat} (h : k < l.length) : textOf (l.take (k + 1)) = textOf (l.take k) ++ lineOf l[k] := by
  show List.flatMap lineOf (l.take (k + 1)) = List.flatMap lineOf (l.take k) ++ lineOf l[k]
  rw [List.take_add_one, List.getElem?_eq_getElem h, Option.toList, List.flatMap_append]
  simp
def spoil : List Bytes := [z0, z1, z2, z3]
theorem spoil_ok : ∀ x ∈ spoil, line x = none ∧ 10 ∉ x ∧ x.length ≤ 100 := by
  intro x hx
  simp only [spoil, List.mem_cons, List.not_mem_nil, or_false] at hx
  rcases hx with rfl | rfl | rfl | rfl
  · exact ⟨n_z0, by decide, by decide⟩
  · exact ⟨n_z1, by decide, by decide⟩
  · exact ⟨n_z2, by decide, by decide⟩
  · exact ⟨n_z3, by decide, by decide⟩
theorem lines_law {l : List Rule} (h : ∀ r ∈ l, Good r) (hl : l.length ≤ 4) {x z : Bytes} (hx : x ∈ spoil) (hz : z.length ≤ 100) : parse (textOf l ++ x ++ [10] ++ z ++ [10]) = (([] : List Rule), (l.length : Int) + 1, (4 : Int)) := by
  obtain ⟨h1, h2, h3⟩ := spoil_ok x hx
  have e : textOf l ++ x ++ [10] ++ z ++ [10] = textOf l ++ x ++ 10 :: (z ++ [10]) := by simp
  have h4 := text_len h
  rw [e]
  exact parse_spoiled h h1 h2 (by simp; omega)
theorem text_same {l m : List Rule} (h : check l = 0) (h' : check m = 0) : textOf l = textOf m ↔ l = m := ⟨text_inj h h', fun e => by rw [e]⟩

end Go.Proofs.YtnchipahdfbliaaGreatDoor.Ru
