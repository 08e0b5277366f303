/- The plain law of the rules, seventh part: the texts of RuleBrackets. No program is in sight; no condition. -/
import Derived.Test.YtnchipahdfbliaaGreatDoorRuE
namespace Go.Proofs.YtnchipahdfbliaaGreatDoor.Ru
open Go Go.Proofs.YtnchipahdfbliaaGreatDoor
open Go.RowKit

def beginB : Bytes := [114, 117, 108, 101, 32, 114, 32, 48, 32, 101, 100, 103, 101, 32, 48, 32, 119, 104, 101, 110, 32]
def tx (c : Cond) : Bytes := joinB 32 (write 0 c)
def notC (c : Cond) : Cond := .mk 8 [] 0 .none [c]
theorem begin_is : joinB 32 headB ++ [32] = beginB := by kernel_rfl
theorem join_head {ws : List Bytes} (h : ws ≠ []) : joinB 32 (headB ++ ws) = beginB ++ joinB 32 ws := by
  rw [join_app 32 headB ws (by simp [headB]) h, ← begin_is]; simp
theorem text_edge {c : Cond} (h : right c = true) : textOf [edgeR c] = beginB ++ tx c ++ [10] := by
  simp only [textOf, lineOf, edge_words, List.flatMap_cons, List.flatMap_nil, List.append_nil]
  rw [join_head (write_ne c h 0)]; rfl
theorem edge_check {c : Cond} (h : right c = true) (hs : size c ≤ 20) : check [edgeR c] = 0 := check_one (edge_good h hs)
theorem not_right {c : Cond} (h : right c = true) : right (notC c) = true := by rw [notC, right_mk, rights, rights]; simp [fine, rest, h]
theorem not_size (c : Cond) : size (notC c) = size c + 1 := by rw [notC, size_mk]; simp [sizes]
theorem says_of {ws : List Bytes} {q : Rule} (hw : ∀ w ∈ ws, WordOk w) (hne : ws ≠ []) (hl : lineW (headB ++ ws) = some q) (hs : (joinB 32 ws).length ≤ 200000) (hc : check [q] = 0) : parse (beginB ++ joinB 32 ws ++ [10]) = ([q], 0, 0) := by
  rw [← join_head hne]
  refine parse_one (fun w h => ?_) (by simp [headB]) hl ?_ hc
  · rcases List.mem_append.1 h with h | h
    · exact head_ok w h
    · exact hw w h
  · rw [join_head hne]; simp [beginB]; omega
theorem tx_len {c : Cond} (h : right c = true) (hs : size c ≤ 20) : (tx c).length ≤ 4400 := by
  have h1 := join_wl 32 (write 0 c)
  have h2 := write_len c h 0
  unfold tx; omega
theorem br_app {c : Cond} (h : right c = true) : joinB 32 (kwL :: write 0 c ++ [kwR]) = [40, 32] ++ tx c ++ [32, 41] := by
  rw [join_app 32 (kwL :: write 0 c) [kwR] (by simp) (by simp), show kwL :: write 0 c = [kwL] ++ write 0 c from rfl, join_app 32 [kwL] (write 0 c) (by simp) (write_ne c h 0)]
  simp [joinB, kwL, kwR, tx]
theorem p_1 {c : Cond} (h : right c = true) (hs : size c ≤ 20) : parse (beginB ++ tx c ++ [10]) = ([edgeR c], 0, 0) := by
  rw [← text_edge h]; exact back (edge_check h hs)
theorem p_2 {c : Cond} (h : right c = true) (hs : size c ≤ 20) : parse (beginB ++ [40, 32] ++ tx c ++ [32, 41] ++ [10]) = ([edgeR c], 0, 0) := by
  have hl := tx_len h hs
  have e := br_app h
  have := says_of (ws := kwL :: write 0 c ++ [kwR]) (q := edgeR c) (fun w hw => ?_) (by simp) (lineW_head (orc_bracket (rest := []) h (by simp) (by simp) (Nat.le_refl _))) (by rw [e]; simp; omega) (edge_check h hs)
  · rw [e] at this; simpa using this
  · obtain ⟨_, _, _, _, _, _, _, _, _, _, k11, k12, _⟩ := kw_ok
    simp only [List.cons_append, List.mem_cons, List.mem_append, List.not_mem_nil, or_false] at hw
    rcases hw with rfl | hw | rfl
    · exact k11
    · exact write_ok c h 0 w hw
    · exact k12
theorem p_3 {c : Cond} (h : right c = true) (hs : size c ≤ 20) : parse (beginB ++ [40, 32, 40, 32] ++ tx c ++ [32, 41, 32, 41] ++ [10]) = ([edgeR c], 0, 0) := by
  have hl := tx_len h hs
  have e : joinB 32 (kwL :: kwL :: write 0 c ++ [kwR, kwR]) = [40, 32, 40, 32] ++ tx c ++ [32, 41, 32, 41] := by
    rw [show kwL :: kwL :: write 0 c ++ [kwR, kwR] = [kwL] ++ (kwL :: write 0 c ++ [kwR]) ++ [kwR] by simp, join_app 32 _ [kwR] (by simp) (by simp), join_app 32 [kwL] _ (by simp) (by simp), br_app h]
    simp [joinB, kwL, kwR]
  have := says_of (ws := kwL :: kwL :: write 0 c ++ [kwR, kwR]) (q := edgeR c) (fun w hw => ?_) (by simp) (lineW_head (orc_bracket2 (rest := []) h (by simp) (by simp) (Nat.le_refl _))) (by rw [e]; simp; omega) (edge_check h hs)
  · rw [e] at this; simpa using this
  · obtain ⟨_, _, _, _, _, _, _, _, _, _, k11, k12, _⟩ := kw_ok
    simp only [List.cons_append, List.mem_cons, List.mem_append, List.not_mem_nil, or_false] at hw
    rcases hw with rfl | rfl | hw | rfl | rfl
    · exact k11
    · exact k11
    · exact write_ok c h 0 w hw
    · exact k12
    · exact k12
theorem p_4 {c : Cond} (h : right c = true) (hs : size c ≤ 19) : parse (beginB ++ [110, 111, 116, 32, 40, 32] ++ tx c ++ [32, 41] ++ [10]) = ([edgeR (notC c)], 0, 0) := by
  have hl := tx_len h (by omega)
  have e : joinB 32 (kwNot :: kwL :: write 0 c ++ [kwR]) = [110, 111, 116, 32, 40, 32] ++ tx c ++ [32, 41] := by
    rw [show kwNot :: kwL :: write 0 c ++ [kwR] = [kwNot] ++ (kwL :: write 0 c ++ [kwR]) by simp, join_app 32 [kwNot] _ (by simp) (by simp), br_app h]
    simp [joinB, kwNot]
  have := says_of (ws := kwNot :: kwL :: write 0 c ++ [kwR]) (q := edgeR (notC c)) (fun w hw => ?_) (by simp) (lineW_head (orc_not h (Nat.le_refl _))) (by rw [e]; simp; omega) (edge_check (not_right h) (by rw [not_size]; omega))
  · rw [e] at this; simpa using this
  · obtain ⟨_, _, _, _, _, _, _, k8, _, _, k11, k12, _⟩ := kw_ok
    simp only [List.cons_append, List.mem_cons, List.mem_append, List.not_mem_nil, or_false] at hw
    rcases hw with rfl | rfl | hw | rfl
    · exact k8
    · exact k11
    · exact write_ok c h 0 w hw
    · exact k12
end Go.Proofs.YtnchipahdfbliaaGreatDoor.Ru
