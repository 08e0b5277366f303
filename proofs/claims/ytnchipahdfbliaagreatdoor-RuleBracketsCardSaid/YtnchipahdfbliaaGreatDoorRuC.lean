/- The plain law of the rules, third part: lines and files; what is written is read as it was; brackets; spoiled lines. No program is in sight; no condition. -/
import Derived.Test.YtnchipahdfbliaaGreatDoorRuB
namespace Go.Proofs.YtnchipahdfbliaaGreatDoor.Ru
open Go Go.Proofs.YtnchipahdfbliaaGreatDoor

/-! ### The words of a condition are good ones -/
theorem mem_inB {b : Bool} {ws : List Bytes} (h : ∀ w ∈ ws, WordOk w) : ∀ w ∈ inB b ws, WordOk w := by
  intro w hw
  cases b with
  | false => exact h w hw
  | true =>
    rw [inB_true] at hw
    simp only [List.cons_append, List.mem_cons, List.mem_append, List.not_mem_nil, or_false] at hw
    rcases hw with rfl | hw | rfl
    · exact kw_ok.2.2.2.2.2.2.2.2.2.2.1
    · exact h w hw
    · exact kw_ok.2.2.2.2.2.2.2.2.2.2.2.1
theorem writesT_ok {w : Bytes} {op : Int} (hw : WordOk w) : ∀ (l : List Cond), (∀ c ∈ l, ∀ x ∈ write op c, WordOk x) → ∀ x ∈ writesT w op l, WordOk x
  | [], _, x, hx => by rw [writesT] at hx; cases hx
  | c :: l, h, x, hx => by
    rw [writesT_eq] at hx
    simp only [List.cons_append, List.mem_cons, List.mem_append] at hx
    rcases hx with rfl | hx | hx
    · exact hw
    · exact h c (by simp) x hx
    · exact writesT_ok hw l (fun c hc => h c (by simp [hc])) x hx
theorem writes_ok {w : Bytes} {op : Int} (hw : WordOk w) (l : List Cond) (h : ∀ c ∈ l, ∀ x ∈ write op c, WordOk x) : ∀ x ∈ writes w op l, WordOk x := by
  cases l with
  | nil => intro x hx; rw [writes] at hx; cases hx
  | cons c l =>
    intro x hx
    rw [writes_eq] at hx
    rcases List.mem_append.1 hx with hx | hx
    · exact h c (by simp) x hx
    · exact writesT_ok hw l (fun c hc => h c (by simp [hc])) x hx
theorem write_ok (c : Cond) : right c = true → ∀ ar, ∀ w ∈ write ar c, WordOk w := by
  refine Cond.ind (P := fun c => right c = true → ∀ ar, ∀ w ∈ write ar c, WordOk w) (fun op t n b l ih h => ?_) c
  have hf := right_form h
  generalize hc : Cond.mk op t n b l = c at hf h
  obtain ⟨k1, k2, k3, k4, k5, k6, k7, k8, k9, k10, _⟩ := kw_ok
  cases hf with
  | any => intro ar w hw; rw [write_any] at hw; simp at hw; subst hw; exact k1
  | net t ht => intro ar w hw; rw [write_net] at hw; simp at hw; rcases hw with rfl | rfl; exact k2; exact splitR_ok ht
  | cls t ht => intro ar w hw; rw [write_cls] at hw; simp at hw; rcases hw with rfl | rfl; exact k3; exact nameR_ok ht
  | kind m h1 h2 => intro ar w hw; rw [write_kind] at hw; simp at hw; rcases hw with rfl | rfl; exact k4; exact itoa_ok _
  | layer m h1 h2 => intro ar w hw; rw [write_layer] at hw; simp at hw; rcases hw with rfl | rfl; exact k5; exact itoa_ok _
  | part m h1 h2 => intro ar w hw; rw [write_part] at hw; simp at hw; rcases hw with rfl | rfl; exact k6; exact itoa_ok _
  | box b hb => intro ar w hw; rw [write_box] at hw; simp at hw; rcases hw with rfl | rfl | rfl | rfl | rfl; exact k7; all_goals exact itoa_ok _
  | not d hd =>
    injection hc with _ _ _ _ hl
    intro ar w hw
    rw [write_not] at hw
    rcases List.mem_cons.1 hw with rfl | hw
    · exact k8
    · exact ih d (by rw [hl]; simp) hd 8 w hw
  | and m h2 hr =>
    injection hc with _ _ _ _ hl
    subst hl
    intro ar
    rw [write_and]
    exact mem_inB (writes_ok k9 l fun d hd => ih d hd (hr d hd) 9)
  | or m h2 hr =>
    injection hc with _ _ _ _ hl
    subst hl
    intro ar
    rw [write_or]
    exact mem_inB (writes_ok k10 l fun d hd => ih d hd (hr d hd) 10)
theorem inB_ne {b : Bool} {ws : List Bytes} (h : ws ≠ []) : inB b ws ≠ [] := by cases b; exact h; simp [inB]
theorem write_ne (c : Cond) : right c = true → ∀ ar, write ar c ≠ [] := by
  refine Cond.ind (P := fun c => right c = true → ∀ ar, write ar c ≠ []) (fun op t n b l ih h => ?_) c
  have hf := right_form h
  generalize hc : Cond.mk op t n b l = c at hf h
  cases hf with
  | any => intro ar; simp [write_any]
  | net t ht => intro ar; simp [write_net]
  | cls t ht => intro ar; simp [write_cls]
  | kind m h1 h2 => intro ar; simp [write_kind]
  | layer m h1 h2 => intro ar; simp [write_layer]
  | part m h1 h2 => intro ar; simp [write_part]
  | box b hb => intro ar; simp [write_box]
  | not d hd => intro ar; simp [write_not]
  | and m h2 hr =>
    injection hc with _ _ _ _ hl
    subst hl
    intro ar
    rw [write_and]
    cases l with
    | nil => simp at h2
    | cons d l => exact inB_ne (by rw [writes_eq]; simp [ih d (by simp) (hr d (by simp)) 9])
  | or m h2 hr =>
    injection hc with _ _ _ _ hl
    subst hl
    intro ar
    rw [write_or]
    cases l with
    | nil => simp at h2
    | cons d l => exact inB_ne (by rw [writes_eq]; simp [ih d (by simp) (hr d (by simp)) 10])

/-! ### Rules -/
/-- What a rule that Check lets by is. -/
structure Good (r : Rule) : Prop where
  name : nameR r.name = true
  prio : 0 ≤ r.prio ∧ r.prio ≤ 1000
  what : 1 ≤ r.what ∧ r.what ≤ 4
  value : 0 ≤ r.value ∧ r.value ≤ 4194304
  a : right r.a = true
  b : right r.b = true
  sa : size r.a ≤ 20
  sb : size r.b ≤ 20
  any : r.what ≠ 1 → r.b = cAny
theorem op_any {c : Cond} (h : right c = true) (ho : c.op = 1) : c = cAny := by
  have hf := right_form h
  cases hf <;> first | rfl | (simp [Cond.op, leaf] at ho)
theorem one_zero {r : Rule} {before : List Bytes} (h : one r before = 0) : Good r ∧ r.name ∉ before := by
  unfold one at h
  split at h; · cases h
  rename_i h1
  split at h; · cases h
  rename_i h2
  split at h; · cases h
  rename_i h3
  split at h; · cases h
  rename_i h4
  split at h; · cases h
  rename_i h5
  split at h; · cases h
  rename_i h6
  split at h; · cases h
  rename_i h7
  split at h; · cases h
  rename_i h8
  have hb : right r.b = true := by cases hx : right r.b <;> simp_all
  refine ⟨⟨by simpa using h1, by omega, by omega, by omega, by cases hx : right r.a <;> simp_all, hb, by omega, by omega, fun hw => op_any hb ?_⟩, h2⟩
  by_cases ho : r.b.op = 1
  · exact ho
  · exact absurd ⟨hw, ho⟩ h8
theorem one_of {r : Rule} {before : List Bytes} (h : Good r) (hn : r.name ∉ before) : one r before = 0 := by
  have := h.prio; have := h.what; have := h.value; have := h.sa; have := h.sb
  unfold one
  rw [if_neg (by simp [h.name]), if_neg hn, if_neg (by omega), if_neg (by omega), if_neg (by omega), if_neg (by simp [h.a, h.b]), if_neg (by omega), if_neg]
  intro ⟨h1, h2⟩
  exact h2 (by rw [h.any h1]; rfl)
theorem checkL_zero : ∀ {l : List Rule} {before : List Bytes}, checkL before l = 0 → (∀ r ∈ l, Good r)
  | [], _, _ => by simp
  | r :: l, before, h => by
    rw [checkL] at h
    split at h
    · rename_i h1
      intro q hq
      rcases List.mem_cons.1 hq with rfl | hq
      · exact (one_zero h1).1
      · exact checkL_zero h q hq
    · rename_i h1; exact absurd h h1
theorem check_good {l : List Rule} (h : check l = 0) : l.length ≤ 24 ∧ ∀ r ∈ l, Good r := by
  unfold check at h
  split at h
  · cases h
  · exact ⟨by omega, checkL_zero h⟩
theorem check_one {r : Rule} (h : Good r) : check [r] = 0 := by
  unfold check
  rw [if_neg (by simp), checkL, if_pos (one_of h (by simp)), checkL]

theorem whats_get {w : Int} (h : 1 ≤ w ∧ w ≤ 4) : whats.getD (w - 1).toNat [] ∈ whats ∧ whatOf (whats.getD (w - 1).toNat []) = w := by
  have : w = 1 ∨ w = 2 ∨ w = 3 ∨ w = 4 := by omega
  rcases this with rfl | rfl | rfl | rfl <;> decide
theorem words_ok {r : Rule} (h : Good r) : ∀ w ∈ wordsOf r, WordOk w := by
  intro w hw
  unfold wordsOf at hw
  rcases List.mem_append.1 hw with hw | hw
  · rcases List.mem_append.1 hw with hw | hw
    · simp only [List.mem_cons, List.not_mem_nil, or_false] at hw
      rcases hw with rfl | rfl | rfl | rfl | rfl | rfl
      · exact kw_ok.2.2.2.2.2.2.2.2.2.2.2.2.1
      · exact nameR_ok h.name
      · exact itoa_ok _
      · exact whats_ok _ (whats_get h.what).1
      · exact itoa_ok _
      · exact kw_ok.2.2.2.2.2.2.2.2.2.2.2.2.2.1
    · exact write_ok _ h.a 0 w hw
  · split at hw
    · rcases List.mem_cons.1 hw with rfl | hw
      · exact kw_ok.2.2.2.2.2.2.2.2.2.2.2.2.2.2
      · exact write_ok _ h.b 0 w hw
    · cases hw
theorem words_ne (r : Rule) : wordsOf r ≠ [] := by simp [wordsOf]
theorem lineW_words {r : Rule} (h : Good r) : lineW (wordsOf r) = some r := by
  obtain ⟨nm, prio, what, value, a, b⟩ := r
  have h1 := h.prio; have h2 := h.what; have h3 := h.value
  have hw := (whats_get h2).2
  have hne := (whats_ok _ (whats_get h2).1).1
  simp only at h1 h2 h3 hw hne
  unfold lineW wordsOf
  simp only [List.cons_append, List.nil_append]
  rw [must_cons (by decide)]
  simp only [Option.bind_some]
  rw [next_cons (nameR_ok h.name).1]
  simp only [Option.bind_some]
  rw [number_itoa _ (by omega) (by omega)]
  simp only [Option.bind_some]
  rw [next_cons hne]
  simp only [Option.bind_some]
  rw [number_itoa _ (by omega) (by omega)]
  simp only [Option.bind_some]
  rw [must_cons (by decide)]
  simp only [Option.bind_some]
  rw [hw]
  by_cases h1' : what = 1
  · subst h1'
    rw [if_pos rfl, (reads a h.a).2.2 _ _ (by simp [kwTo, kwAnd]) (by simp [kwTo, kwOr]) (Nat.le_refl _)]
    simp only [Option.bind_some, if_true]
    rw [must_cons (by decide)]
    simp only [Option.bind_some]
    have := (reads b h.b).2.2 (write 0 b).length [] (by simp) (by simp) (by simp)
    rw [List.append_nil] at this
    rw [this]
    simp
  · rw [if_neg h1', (reads a h.a).2.2 _ _ (by simp) (by simp) (Nat.le_refl _)]
    simp only [Option.bind_some]
    rw [if_neg h1', if_pos (by refine ⟨by omega, ?_⟩; simp)]
    have := h.any h1'
    simp only at this
    rw [this]
theorem line_words {ws : List Bytes} (h : ∀ w ∈ ws, WordOk w) (hne : ws ≠ []) : line (joinB 32 ws) = lineW ws := by
  unfold line; rw [pieces_join 32 ws hne (fun w hw => (h w hw).2.1)]
theorem line_of {r : Rule} (h : Good r) : line (joinB 32 (wordsOf r)) = some r := by
  rw [line_words (words_ok h) (words_ne r), lineW_words h]
theorem join_no {e : UInt8} {c : UInt8} {ws : List Bytes} (h : ∀ w ∈ ws, c ∉ w) (hc : c ≠ e) : c ∉ joinB e ws := fun hx => by
  rcases join_mem hx with hx | ⟨w, hw, hx⟩
  · exact hc hx
  · exact h w hw hx
theorem line_no {r : Rule} (h : Good r) : 10 ∉ joinB 32 (wordsOf r) := join_no (fun w hw => (words_ok h w hw).2.2) (by decide)
theorem pieces_text : ∀ (l : List Rule) (z : Bytes), (∀ r ∈ l, Good r) → pieces 10 (textOf l ++ z) = l.map (fun r => joinB 32 (wordsOf r)) ++ pieces 10 z
  | [], z, _ => by simp [textOf]
  | r :: l, z, h => by
    have ih := pieces_text l z (fun q hq => h q (by simp [hq]))
    have e : textOf (r :: l) ++ z = joinB 32 (wordsOf r) ++ 10 :: (textOf l ++ z) := by simp [textOf, lineOf]
    rw [e, pieces_app 10 _ _ (line_no (h r (by simp))), ih]; rfl
theorem parseL_lines : ∀ (l : List Rule) (n : Int) (acc : List Rule) (ps : List Bytes), (∀ r ∈ l, Good r) → ps ≠ [] → parseL n acc (l.map (fun r => joinB 32 (wordsOf r)) ++ ps) = parseL (n + l.length) (acc ++ l) ps
  | [], n, acc, ps, _, _ => by simp
  | r :: l, n, acc, ps, h, hp => by
    have ih := parseL_lines l (n + 1) (acc ++ [r]) ps (fun q hq => h q (by simp [hq])) hp
    have e : ∃ y t, l.map (fun r => joinB 32 (wordsOf r)) ++ ps = y :: t := by
      cases hq : l.map (fun r => joinB 32 (wordsOf r)) ++ ps with
      | nil => exact absurd (List.append_eq_nil_iff.1 hq).2 hp
      | cons y t => exact ⟨y, t, rfl⟩
    obtain ⟨y, t, e⟩ := e
    rw [List.map_cons, List.cons_append, e, parseL, line_of (h r (by simp))]
    dsimp only
    rw [← e, ih]
    simp only [List.length_cons, List.append_assoc, List.cons_append, List.nil_append]
    congr 1
    simp; omega
/-- What is written is read. -/
theorem parse_text {l : List Rule} (h : check l = 0) (hs : (textOf l).length ≤ 262144) : parse (textOf l) = (l, 0, 0) := by
  unfold parse
  have hp := pieces_text l [] (check_good h).2
  rw [List.append_nil] at hp
  rw [if_neg (by omega), hp, parseL_lines l 1 [] _ (check_good h).2 (by simp [pieces])]
  simp [pieces, parseL, h]
/-- A line that is not readable is named, whatever comes behind it. -/
theorem parse_spoiled {l : List Rule} (h : ∀ r ∈ l, Good r) {x z : Bytes} (hx : line x = none) (hn : 10 ∉ x) (hs : (textOf l ++ x ++ 10 :: z).length ≤ 262144) : parse (textOf l ++ x ++ 10 :: z) = (([] : List Rule), (l.length : Int) + 1, (4 : Int)) := by
  unfold parse
  rw [if_neg (by omega), List.append_assoc, pieces_text l _ h, pieces_app 10 _ _ hn, parseL_lines l 1 [] _ h (by simp)]
  cases hz : pieces 10 z with
  | nil => exact absurd hz (pieces_ne 10 z)
  | cons y t =>
    rw [parseL, hx]
    dsimp only
    congr 2
    omega

/-! ### How long the text is -/
theorem join_len (e : UInt8) : ∀ (ws : List Bytes), (joinB e ws).length ≤ (ws.map List.length).sum + ws.length
  | [] => by simp [joinB]
  | [w] => by simp [joinB]
  | w :: v :: r => by
    have ih := join_len e (v :: r)
    rw [joinB]
    simp only [List.length_append, List.length_cons, List.map_cons, List.sum_cons] at ih ⊢
    omega
def wl (ws : List Bytes) : Nat := (ws.map fun w => w.length + 1).sum
theorem wl_app (a b : List Bytes) : wl (a ++ b) = wl a + wl b := by simp [wl]
theorem wl_cons (a : Bytes) (b : List Bytes) : wl (a :: b) = a.length + 1 + wl b := by simp [wl]
theorem join_wl (e : UInt8) (ws : List Bytes) : (joinB e ws).length ≤ wl ws := by
  have h := join_len e ws
  have e : wl ws = (ws.map List.length).sum + ws.length := by
    unfold wl
    induction ws with
    | nil => rfl
    | cons w ws ih => simp only [List.map_cons, List.sum_cons, List.length_cons]; have := ih (join_len e ws); omega
  omega
theorem itoa_len {n : Int} (h : -10000000000 < n) (h' : n < 10000000000) : (Lib.itoa n).length ≤ 20 := Wr.itoa_length n (by unfold Wr.I64; omega)
theorem name_len {s : Bytes} (h : nameR s = true) : s.length ≤ 16 := by
  cases s with
  | nil => simp
  | cons c l => simp only [nameR, Bool.and_eq_true, decide_eq_true_eq] at h; exact h.1.1
theorem idx_range {s : Bytes} {n : Int} (h : idx s = some n) : 0 ≤ n ∧ n ≤ 999 := by
  unfold idx at h
  split at h
  · split at h
    · injection h with h; subst h; assumption
    · cases h
  · cases h
theorem ends_range {s : Bytes} {p : Int × Int} (h : ends s = some p) : (0 ≤ p.1 ∧ p.1 ≤ 999) ∧ 0 ≤ p.2 ∧ p.2 ≤ 999 := by
  unfold ends at h
  split at h
  split at h
  · rename_i a b ha hb
    split at h
    · injection h with h; subst h; exact ⟨idx_range ha, idx_range hb⟩
    · cases h
  · cases h
theorem bus_range {s : Bytes} {p : Bytes × Int × Int} (h : bus s = some p) : (0 ≤ p.2.1 ∧ p.2.1 ≤ 999) ∧ 0 ≤ p.2.2 ∧ p.2.2 ≤ 999 := by
  unfold bus at h
  split at h
  · cases h
  · split at h
    · split at h
      · simp only [Option.map_eq_some_iff] at h
        obtain ⟨q, hq, rfl⟩ := h
        exact ends_range hq
      · cases h
    · cases h
theorem member_len {s : Bytes} (h : member s = true) : s.length ≤ 38 := by
  unfold member expand at h
  split at h
  · rename_i hn; have := name_len hn; omega
  · have h := eq_of_beq h
    simp only [Option.map_eq_some_iff] at h
    obtain ⟨p, hp, he⟩ := h
    have hn := name_len (bus_name hp)
    have hr := bus_range hp
    unfold members at he
    have hx : ∃ n : Int, 0 ≤ n ∧ n ≤ 999 ∧ memb p.1 n = s := by
      split at he
      · rw [List.range_succ_eq_map] at he
        simp only [List.map_cons] at he
        injection he with he _
        exact ⟨_, by omega, by simp; omega, he⟩
      · rw [List.range_succ_eq_map] at he
        simp only [List.map_cons] at he
        injection he with he _
        exact ⟨_, by simp; omega, by simp; omega, he⟩
    obtain ⟨n, h0, h1, rfl⟩ := hx
    have := itoa_len (n := n) (by omega) (by omega)
    unfold memb
    simp only [List.length_append, List.length_cons, List.length_nil]
    omega
theorem wl_members : ∀ (l : List Bytes), l.all member = true → wl l ≤ 39 * l.length
  | [], _ => by simp [wl]
  | w :: l, h => by
    rw [List.all_cons, Bool.and_eq_true] at h
    have := wl_members l h.2
    have := member_len h.1
    rw [wl_cons, List.length_cons]; omega
theorem splitR_len {t : Bytes} (h : splitR t = true) : t.length ≤ 195 := by
  unfold splitR split at h
  split at h
  · rename_i l hl
    split at hl
    · rename_i ha
      injection hl with hl
      have h := of_decide_eq_true h
      have h1 := wl_members _ ha
      have h2 := join_wl 47 (pieces 47 t)
      rw [join_pieces] at h2
      rw [hl] at h1 h2
      omega
    · cases hl
  · cases h
theorem wl_inB (b : Bool) (ws : List Bytes) : wl (inB b ws) ≤ wl ws + 4 := by
  cases b with
  | false => rw [inB_false]; omega
  | true => rw [inB_true, wl_app, wl_cons]; simp [wl, kwL, kwR]; omega
theorem wl_writesT {w : Bytes} {op : Int} (hw : w.length ≤ 3) : ∀ (l : List Cond), (∀ c ∈ l, wl (write op c) + 4 ≤ 220 * size c) → wl (writesT w op l) ≤ 220 * sizes l
  | [], _ => by rw [writesT]; simp [wl]
  | c :: l, h => by
    have h1 := wl_writesT hw l (fun d hd => h d (by simp [hd]))
    have h2 := h c (by simp)
    rw [writesT_eq, sizes, List.cons_append, wl_cons, wl_app]
    omega
theorem wl_writes {w : Bytes} {op : Int} (hw : w.length ≤ 3) (l : List Cond) (h : ∀ c ∈ l, wl (write op c) + 4 ≤ 220 * size c) : wl (writes w op l) ≤ 220 * sizes l := by
  cases l with
  | nil => rw [writes]; simp [wl]
  | cons c l =>
    have h1 := wl_writesT (op := op) hw l (fun d hd => h d (by simp [hd]))
    have h2 := h c (by simp)
    rw [writes_eq, sizes, wl_app]
    omega
theorem write_len (c : Cond) : right c = true → ∀ ar, wl (write ar c) + 4 ≤ 220 * size c := by
  refine Cond.ind (P := fun c => right c = true → ∀ ar, wl (write ar c) + 4 ≤ 220 * size c) (fun op t n b l ih h => ?_) c
  have hf := right_form h
  generalize hc : Cond.mk op t n b l = c at hf h
  have hp := size_pos c
  cases hf with
  | any => intro ar; rw [write_any]; simp [wl, kwAny]; omega
  | net t ht => intro ar; have := splitR_len ht; rw [write_net]; simp [wl, kwNet]; omega
  | cls t ht => intro ar; have := name_len ht; rw [write_cls]; simp [wl, kwClass]; omega
  | kind m h1 h2 => intro ar; have := itoa_len (n := m) (by omega) (by omega); rw [write_kind]; simp [wl, kwKind]; omega
  | layer m h1 h2 => intro ar; have := itoa_len (n := m) (by omega) (by omega); rw [write_layer]; simp [wl, kwLayer]; omega
  | part m h1 h2 => intro ar; have := itoa_len (n := m) (by omega) (by omega); rw [write_part]; simp [wl, kwPart]; omega
  | box b hb =>
    intro ar
    obtain ⟨⟨h0, h1⟩, h2, h3⟩ := boxR_num hb
    have := itoa_len (coord_num h0).1 (coord_num h0).2
    have := itoa_len (coord_num h1).1 (coord_num h1).2
    have := itoa_len (coord_num h2).1 (coord_num h2).2
    have := itoa_len (coord_num h3).1 (coord_num h3).2
    rw [write_box]; simp [wl, kwIn]; omega
  | not d hd =>
    injection hc with _ _ _ _ hl
    intro ar
    have := ih d (by rw [hl]; simp) hd 8
    rw [write_not, size_mk, wl_cons, sizes, sizes]; simp [kwNot]; omega
  | and m h2 hr =>
    injection hc with _ _ _ _ hl
    subst hl
    intro ar
    have h1 := wl_writes (w := kwAnd) (op := 9) (by decide) l (fun d hd => ih d hd (hr d hd) 9)
    have h2 := wl_inB (brk ar 9) (writes kwAnd 9 l)
    rw [write_and, size_mk]; omega
  | or m h2 hr =>
    injection hc with _ _ _ _ hl
    subst hl
    intro ar
    have h1 := wl_writes (w := kwOr) (op := 10) (by decide) l (fun d hd => ih d hd (hr d hd) 10)
    have h2 := wl_inB (brk ar 10) (writes kwOr 10 l)
    rw [write_or, size_mk]; omega
theorem line_len {r : Rule} (h : Good r) : (lineOf r).length ≤ 8900 := by
  have h1 := write_len r.a h.a 0
  have h2 := write_len r.b h.b 0
  have := h.sa; have := h.sb; have := h.prio; have := h.value
  have h3 := join_wl 32 (wordsOf r)
  have h4 := name_len h.name
  have h5 := itoa_len (n := r.prio) (by omega) (by omega)
  have h6 := itoa_len (n := r.value) (by omega) (by omega)
  have h7 : (whats.getD (r.what - 1).toNat []).length ≤ 5 := by
    have := (whats_get h.what).1
    have hall : ∀ w ∈ whats, w.length ≤ 5 := by decide
    exact hall _ this
  have h8 : wl (wordsOf r) ≤ 8890 := by
    unfold wordsOf
    rw [wl_app, wl_app]
    have h9 : wl (if r.what = 1 then kwTo :: write 0 r.b else []) ≤ 3 + wl (write 0 r.b) := by
      split
      · rw [wl_cons]; simp [kwTo]
      · simp [wl]
    simp only [wl_cons]
    have e0 : wl [] = 0 := rfl
    rw [e0]
    simp only [kwRule, kwWhen, List.length_cons, List.length_nil]
    omega
  unfold lineOf
  simp only [List.length_append, List.length_cons, List.length_nil]
  omega
theorem text_len : ∀ {l : List Rule}, (∀ r ∈ l, Good r) → (textOf l).length ≤ 8900 * l.length
  | [], _ => by simp [textOf]
  | r :: l, h => by
    have h1 := text_len (l := l) (fun q hq => h q (by simp [hq]))
    have h2 := line_len (h r (by simp))
    have e : textOf (r :: l) = lineOf r ++ textOf l := by simp [textOf]
    rw [e, List.length_append, List.length_cons]; omega
theorem text_bound {l : List Rule} (h : check l = 0) : (textOf l).length ≤ 213600 := by
  obtain ⟨h1, h2⟩ := check_good h
  have := text_len h2
  omega
theorem back {l : List Rule} (h : check l = 0) : parse (textOf l) = (l, 0, 0) := parse_text h (by have := text_bound h; omega)
/-- Different rules have different texts. -/
theorem text_inj {l m : List Rule} (h : check l = 0) (h' : check m = 0) (e : textOf l = textOf m) : l = m := by
  have h1 := back h
  rw [e, back h'] at h1
  injection h1 with h1 _
  exact h1.symm

/-! ### Brackets around a whole condition -/
theorem orc_bracket {c : Cond} (h : right c = true) {n : Nat} {rest : Ws} (h1 : rest.head? ≠ some kwAnd) (h2 : rest.head? ≠ some kwOr) (hn : (kwL :: write 0 c ++ kwR :: rest).length ≤ n) : orc (fac n) (kwL :: write 0 c ++ kwR :: rest) = some (c, rest) :=
  lst_one (lst_one (fac_bracket (reads c h).2.2 hn) h1) h2
theorem orc_bracket2 {c : Cond} (h : right c = true) {n : Nat} {rest : Ws} (h1 : rest.head? ≠ some kwAnd) (h2 : rest.head? ≠ some kwOr) (hn : (kwL :: kwL :: write 0 c ++ kwR :: kwR :: rest).length ≤ n) : orc (fac n) (kwL :: kwL :: write 0 c ++ kwR :: kwR :: rest) = some (c, rest) := by
  refine lst_one (lst_one ?_ h1) h2
  simp only [List.cons_append, List.length_cons, List.length_append] at hn
  obtain ⟨n, rfl⟩ : ∃ j, n = j + 1 := ⟨n - 1, by omega⟩
  rw [List.cons_append, fac_word (by decide)]
  simp only [show (kwL = kwNet) = False by decide, show (kwL = kwClass) = False by decide, show (kwL = kwKind) = False by decide, show (kwL = kwLayer) = False by decide, show (kwL = kwPart) = False by decide, show (kwL = kwAny) = False by decide, show (kwL = kwIn) = False by decide, show (kwL = kwNot) = False by decide, if_false, if_true]
  rw [orc_bracket (rest := kwR :: rest) h (by simp [kwR, kwAnd]) (by simp [kwR, kwOr]) (by simp; omega)]
  simp [must_cons (show kwR ≠ [] by decide)]
theorem orc_not {c : Cond} (h : right c = true) {n : Nat} (hn : (kwNot :: kwL :: write 0 c ++ [kwR]).length ≤ n) : orc (fac n) (kwNot :: kwL :: write 0 c ++ [kwR]) = some (.mk 8 [] 0 .none [c], []) := by
  refine lst_one (lst_one ?_ (by simp)) (by simp)
  simp only [List.cons_append, List.length_cons, List.length_append] at hn
  obtain ⟨n, rfl⟩ : ∃ j, n = j + 1 := ⟨n - 1, by omega⟩
  rw [List.cons_append, fac_word (by decide)]
  simp only [show (kwNot = kwNet) = False by decide, show (kwNot = kwClass) = False by decide, show (kwNot = kwKind) = False by decide, show (kwNot = kwLayer) = False by decide, show (kwNot = kwPart) = False by decide, show (kwNot = kwAny) = False by decide, show (kwNot = kwIn) = False by decide, if_false, if_true]
  rw [show kwL :: write 0 c ++ [kwR] = kwL :: write 0 c ++ kwR :: [] from rfl, fac_bracket (rest := []) (reads c h).2.2 (by simp; omega)]
  rfl
/-- The rule of RuleBrackets. -/
def edgeR (c : Cond) : Rule := ⟨[114], 0, 3, 0, c, cAny⟩
def headB : List Bytes := [kwRule, [114], [48], [101, 100, 103, 101], [48], kwWhen]
theorem itoa_0 : Lib.itoa 0 = [48] := by unfold Lib.itoa; rw [if_neg (by omega)]; exact Wr.dec_small (by decide)
theorem cAny_right : right cAny = true := by rw [cAny, right_mk, rights]; rfl
theorem edge_words (c : Cond) : wordsOf (edgeR c) = headB ++ write 0 c := by
  have h0 := itoa_0
  simp [wordsOf, edgeR, headB, h0, whats]
theorem edge_good {c : Cond} (h : right c = true) (hs : size c ≤ 20) : Good (edgeR c) :=
  ⟨by show nameR [114] = true; decide, by simp [edgeR], by simp [edgeR], by simp [edgeR], h, cAny_right, hs, by simp [edgeR, cAny, size, sizes], fun _ => rfl⟩
theorem lineW_head {ws : Ws} {c : Cond} (h : orc (fac ws.length) ws = some (c, [])) : lineW (headB ++ ws) = some (edgeR c) := by
  have h0 := itoa_0.symm
  unfold lineW headB
  simp only [List.cons_append, List.nil_append]
  rw [must_cons (by decide)]
  simp only [Option.bind_some]
  rw [next_cons (by decide)]
  simp only [Option.bind_some]
  rw [h0, number_itoa _ (by omega) (by omega)]
  simp only [Option.bind_some]
  rw [next_cons (by decide)]
  simp only [Option.bind_some]
  rw [number_itoa _ (by omega) (by omega)]
  simp only [Option.bind_some]
  rw [must_cons (by decide)]
  simp only [Option.bind_some]
  rw [h]
  rfl
theorem head_ok : ∀ w ∈ headB, WordOk w := by unfold WordOk; decide
/-- One line that says what rule q is. -/
theorem parse_one {ws : List Bytes} {q : Rule} (hw : ∀ w ∈ ws, WordOk w) (hne : ws ≠ []) (hl : lineW ws = some q) (hs : (joinB 32 ws ++ [10]).length ≤ 262144) (hc : check [q] = 0) : parse (joinB 32 ws ++ [10]) = ([q], 0, 0) := by
  unfold parse
  rw [if_neg (by omega), pieces_app 10 _ _ (join_no (fun w h => (hw w h).2.2) (by decide)), pieces, parseL, line_words hw hne, hl]
  dsimp only
  rw [parseL]
  simp [hc]
end Go.Proofs.YtnchipahdfbliaaGreatDoor.Ru
