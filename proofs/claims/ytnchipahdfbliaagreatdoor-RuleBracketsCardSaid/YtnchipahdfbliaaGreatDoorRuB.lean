/- The plain law of the rules, second part: what is written is read again. No program is in sight; no condition. -/
import Derived.Test.YtnchipahdfbliaaGreatDoorRuA
namespace Go.Proofs.YtnchipahdfbliaaGreatDoor.Ru
open Go Go.Proofs.YtnchipahdfbliaaGreatDoor

/-! ### Good words -/
def WordOk (w : Bytes) : Prop := w ≠ [] ∧ 32 ∉ w ∧ 10 ∉ w
theorem itoa_ok (n : Int) : WordOk (Lib.itoa n) := ⟨Wr.itoa_ne n, fun h => by
    rcases Wr.itoa_byte n _ h with h | h <;> revert h <;> decide, fun h => by
    rcases Wr.itoa_byte n _ h with h | h <;> revert h <;> decide⟩
theorem nameC_ok {c : UInt8} (h : nameC c = true) : c ≠ 32 ∧ c ≠ 10 := by
  constructor <;> (intro e; subst e; revert h; decide)
theorem nameR_ok {s : Bytes} (h : nameR s = true) : WordOk s := by
  cases s with
  | nil => simp [nameR] at h
  | cons c l =>
    simp only [nameR, Bool.and_eq_true] at h
    have ha := List.all_eq_true.1 h.1.2
    exact ⟨by simp, fun hx => (nameC_ok (ha _ hx)).1 rfl, fun hx => (nameC_ok (ha _ hx)).2 rfl⟩
theorem memb_ok {name : Bytes} {n : Int} (h : nameR name = true) : WordOk (memb name n) := by
  obtain ⟨h1, h2, h3⟩ := nameR_ok h
  obtain ⟨i1, i2, i3⟩ := itoa_ok n
  unfold memb
  refine ⟨by simp, ?_, ?_⟩ <;> simp_all
theorem bus_name {s : Bytes} {p : Bytes × Int × Int} (h : bus s = some p) : nameR p.1 = true := by
  unfold bus at h
  split at h
  · cases h
  · split at h
    · split at h
      · rename_i hn
        simp only [Option.map_eq_some_iff] at h
        obtain ⟨q, _, rfl⟩ := h
        exact hn
      · cases h
    · cases h
theorem member_ok {s : Bytes} (h : member s = true) : WordOk s := by
  unfold member expand at h
  split at h
  · rename_i hn; exact nameR_ok hn
  · have h := eq_of_beq h
    simp only [Option.map_eq_some_iff] at h
    obtain ⟨p, hp, he⟩ := h
    have hn := bus_name hp
    unfold members at he
    split at he
    · rw [List.range_succ_eq_map] at he
      simp only [List.map_cons] at he
      injection he with he _
      rw [← he]; exact memb_ok hn
    · rw [List.range_succ_eq_map] at he
      simp only [List.map_cons] at he
      injection he with he _
      rw [← he]; exact memb_ok hn
theorem join_mem {e : UInt8} {c : UInt8} : ∀ {ws : List Bytes}, c ∈ joinB e ws → c = e ∨ ∃ w ∈ ws, c ∈ w
  | [], h => by simp [joinB] at h
  | [w], h => .inr ⟨w, by simp, h⟩
  | w :: v :: r, h => by
    rw [joinB] at h
    rcases List.mem_append.1 h with h | h
    · exact .inr ⟨w, by simp, h⟩
    · rcases List.mem_cons.1 h with h | h
      · exact .inl h
      · rcases join_mem h with h | ⟨x, hx, h⟩
        · exact .inl h
        · exact .inr ⟨x, by simp [hx], h⟩
theorem splitR_ok {t : Bytes} (h : splitR t = true) : WordOk t := by
  unfold splitR split at h
  split at h
  · rename_i l hl
    split at hl
    · rename_i ha
      have ha := List.all_eq_true.1 ha
      refine ⟨fun e => ?_, fun hx => ?_, fun hx => ?_⟩
      · subst e
        have := ha [] (by simp [pieces])
        revert this; decide
      · rw [← join_pieces 47 t] at hx
        rcases join_mem hx with hx | ⟨w, hw, hx⟩
        · revert hx; decide
        · exact (member_ok (ha w hw)).2.1 hx
      · rw [← join_pieces 47 t] at hx
        rcases join_mem hx with hx | ⟨w, hw, hx⟩
        · revert hx; decide
        · exact (member_ok (ha w hw)).2.2 hx
    · cases hl
  · cases h

/-! ### A condition's form -/
theorem kw_ok : WordOk kwAny ∧ WordOk kwNet ∧ WordOk kwClass ∧ WordOk kwKind ∧ WordOk kwLayer ∧ WordOk kwPart ∧ WordOk kwIn ∧ WordOk kwNot ∧ WordOk kwAnd ∧ WordOk kwOr ∧ WordOk kwL ∧ WordOk kwR ∧ WordOk kwRule ∧ WordOk kwWhen ∧ WordOk kwTo := by
  refine ⟨?_, ?_, ?_, ?_, ?_, ?_, ?_, ?_, ?_, ?_, ?_, ?_, ?_, ?_, ?_⟩ <;> (unfold WordOk; decide)
theorem whats_ok : ∀ w ∈ whats, WordOk w := by unfold WordOk; decide

/-- The operators of right conditions, with what else they have. -/
inductive Form : Cond → Prop
  | any : Form cAny
  | net (t : Bytes) : splitR t = true → Form (leaf 2 t 0 .none)
  | cls (t : Bytes) : nameR t = true → Form (leaf 3 t 0 .none)
  | kind (n : Int) : 1 ≤ n → n ≤ 5 → Form (leaf 4 [] n .none)
  | layer (n : Int) : 1 ≤ n → n ≤ 4 → Form (leaf 5 [] n .none)
  | part (n : Int) : 1 ≤ n → n ≤ 1000000000 → Form (leaf 6 [] n .none)
  | box (b : Box) : boxR b = true → Form (leaf 7 [] 0 b)
  | not (c : Cond) : right c = true → Form (.mk 8 [] 0 .none [c])
  | and (l : List Cond) : 2 ≤ l.length → (∀ c ∈ l, right c = true) → Form (.mk 9 [] 0 .none l)
  | or (l : List Cond) : 2 ≤ l.length → (∀ c ∈ l, right c = true) → Form (.mk 10 [] 0 .none l)
theorem right_form {c : Cond} (h : right c = true) : Form c := by
  obtain ⟨op, t, n, b, l⟩ := c
  rw [right_mk, rights_all, Bool.and_eq_true, Bool.and_eq_true] at h
  obtain ⟨⟨h1, h2⟩, h3⟩ := h
  unfold fine at h1
  unfold rest at h2
  simp only [Bool.and_eq_true, Bool.or_eq_true, decide_eq_true_eq, beq_iff_eq, List.isEmpty_iff, List.length_eq_zero_iff] at h2
  have h3 := List.all_eq_true.1 h3
  obtain ⟨⟨⟨a1, a2⟩, a3⟩, a4⟩ := h2
  split at h1
  · subst op
    have e1 : t = [] := by simpa using a1
    have e2 : n = 0 := by simpa using a2
    have e3 : b = .none := by simpa using a3
    have e4 : l = [] := by simpa using a4
    subst e1 e2 e3 e4; exact .any
  split at h1
  · subst op
    have e2 : n = 0 := by simpa using a2
    have e3 : b = .none := by simpa using a3
    have e4 : l = [] := by simpa using a4
    subst e2 e3 e4; exact .net t h1
  split at h1
  · subst op
    have e2 : n = 0 := by simpa using a2
    have e3 : b = .none := by simpa using a3
    have e4 : l = [] := by simpa using a4
    subst e2 e3 e4; exact .cls t h1
  split at h1
  · subst op
    have e1 : t = [] := by simpa using a1
    have e3 : b = .none := by simpa using a3
    have e4 : l = [] := by simpa using a4
    simp only [decide_eq_true_eq] at h1
    subst e1 e3 e4; exact .kind n h1.1 h1.2
  split at h1
  · subst op
    have e1 : t = [] := by simpa using a1
    have e3 : b = .none := by simpa using a3
    have e4 : l = [] := by simpa using a4
    simp only [decide_eq_true_eq] at h1
    subst e1 e3 e4; exact .layer n h1.1 h1.2
  split at h1
  · subst op
    have e1 : t = [] := by simpa using a1
    have e3 : b = .none := by simpa using a3
    have e4 : l = [] := by simpa using a4
    simp only [decide_eq_true_eq] at h1
    subst e1 e3 e4; exact .part n h1.1 h1.2
  split at h1
  · subst op
    have e1 : t = [] := by simpa using a1
    have e2 : n = 0 := by simpa using a2
    have e4 : l = [] := by simpa using a4
    subst e1 e2 e4; exact .box b h1
  split at h1
  · subst op
    have e1 : t = [] := by simpa using a1
    have e2 : n = 0 := by simpa using a2
    have e3 : b = .none := by simpa using a3
    subst e1 e2 e3
    have hl : l.length = 1 := by simpa using h1
    obtain ⟨c, rfl⟩ := List.length_eq_one_iff.1 hl
    exact .not c (h3 c (by simp))
  split at h1
  · rename_i ho
    have h1 := of_decide_eq_true h1
    rcases ho with rfl | rfl
    all_goals
      have e1 : t = [] := by simpa using a1
      have e2 : n = 0 := by simpa using a2
      have e3 : b = .none := by simpa using a3
      subst e1 e2 e3
    · exact .and l h1 h3
    · exact .or l h1 h3
  · cases h1

theorem writes_eq (w : Bytes) (op : Int) (c : Cond) (l : List Cond) : writes w op (c :: l) = write op c ++ writesT w op l := by rw [writes]
theorem writesT_eq (w : Bytes) (op : Int) (c : Cond) (l : List Cond) : writesT w op (c :: l) = w :: write op c ++ writesT w op l := by rw [writesT]
theorem write_any (ar : Int) : write ar cAny = [kwAny] := by simp [cAny, write]
theorem write_net (ar : Int) (t : Bytes) : write ar (leaf 2 t 0 .none) = [kwNet, t] := by simp [leaf, write]
theorem write_cls (ar : Int) (t : Bytes) : write ar (leaf 3 t 0 .none) = [kwClass, t] := by simp [leaf, write]
theorem write_kind (ar n : Int) : write ar (leaf 4 [] n .none) = [kwKind, Lib.itoa n] := by simp [leaf, write]
theorem write_layer (ar n : Int) : write ar (leaf 5 [] n .none) = [kwLayer, Lib.itoa n] := by simp [leaf, write]
theorem write_part (ar n : Int) : write ar (leaf 6 [] n .none) = [kwPart, Lib.itoa n] := by simp [leaf, write]
theorem write_box (ar : Int) (b : Box) : write ar (leaf 7 [] 0 b) = [kwIn, Lib.itoa b.x0, Lib.itoa b.y0, Lib.itoa b.x1, Lib.itoa b.y1] := by simp [leaf, write]
theorem write_not (ar : Int) (c : Cond) : write ar (.mk 8 [] 0 .none [c]) = kwNot :: write 8 c := by simp [write, writeH]
theorem write_and (ar : Int) (l : List Cond) : write ar (.mk 9 [] 0 .none l) = inB (brk ar 9) (writes kwAnd 9 l) := by rw [write]; simp
theorem write_or (ar : Int) (l : List Cond) : write ar (.mk 10 [] 0 .none l) = inB (brk ar 10) (writes kwOr 10 l) := by rw [write]; simp

/-! ### What is written is read -/
theorem num_itoa {n : Int} (h : -10000000000 < n) (h' : n < 10000000000) : num (Lib.itoa n) = some n := by
  unfold num
  rw [Wr.parse_some.2 ⟨rfl, by unfold Wr.I64; omega⟩]
  simp only [h, h', and_self, if_true]
theorem next_cons {w : Bytes} {r : Ws} (h : w ≠ []) : next (w :: r) = some (w, r) := by simp [next, h]
theorem number_itoa {n : Int} (r : Ws) (h : -10000000000 < n) (h' : n < 10000000000) : number (Lib.itoa n :: r) = some (n, r) := by
  unfold number
  rw [next_cons (itoa_ok n).1]
  dsimp only
  rw [num_itoa h h']; rfl
theorem must_cons {k : Bytes} {r : Ws} (h : k ≠ []) : must k (k :: r) = some r := by simp [must, next_cons h]
theorem more_zero (word : Bytes) (op : Int) (rd : Ws → Option (Cond × Ws)) (l : List Cond) (r : Ws) : more word op rd 0 l r = some (mk1 op l, r) := rfl
theorem more_stop {word : Bytes} {op : Int} {rd : Ws → Option (Cond × Ws)} {k : Nat} {l : List Cond} {r : Ws} (h : r.head? ≠ some word) : more word op rd k l r = some (mk1 op l, r) := by
  cases k with
  | zero => rfl
  | succ k => rw [more, if_neg h]
theorem more_go {word : Bytes} {op : Int} {rd : Ws → Option (Cond × Ws)} {k : Nat} {l : List Cond} {r : Ws} : more word op rd (k + 1) l (word :: r) = match rd r with
    | none => none
    | some (c, r') => more word op rd k (l ++ [c]) r' := by
  rw [more, if_pos (by simp)]; rfl
theorem more_writes {word : Bytes} {op : Int} {rd : Ws → Option (Cond × Ws)} {N : Nat} {B : Ws → Prop} (hb : ∀ t, B (word :: t)) : ∀ (l acc : List Cond) (r : Ws) (k : Nat),
    (∀ x ∈ l, ∀ r', B r' → (write op x ++ r').length ≤ N → rd (write op x ++ r') = some (x, r')) → B r → r.head? ≠ some word → (writesT word op l ++ r).length ≤ N → (writesT word op l ++ r).length ≤ k →
    more word op rd k acc (writesT word op l ++ r) = some (mk1 op (acc ++ l), r)
  | [], acc, r, k, _, _, hw, _, _ => by
    rw [writesT, List.nil_append, more_stop hw, List.append_nil]
  | x :: l, acc, r, k, hx, hbd, hw, hN, hk => by
    rw [writesT_eq] at hN hk ⊢
    simp only [List.cons_append, List.append_assoc, List.length_cons, List.length_append] at hN hk ⊢
    obtain ⟨k, rfl⟩ : ∃ j, k = j + 1 := ⟨k - 1, by omega⟩
    rw [more_go, hx x (by simp) (writesT word op l ++ r) ?_ (by simp; omega)]
    · dsimp only
      rw [more_writes hb l (acc ++ [x]) r k (fun y hy => hx y (by simp [hy])) hbd hw (by simp; omega) (by simp; omega), List.append_assoc]; rfl
    · cases l with
      | nil => simpa [writesT] using hbd
      | cons y l => rw [writesT_eq]; exact hb _
theorem lst_writes {word : Bytes} {op : Int} {rd : Ws → Option (Cond × Ws)} {N : Nat} {B : Ws → Prop} (hb : ∀ t, B (word :: t)) {l : List Cond} {r : Ws} (hl : l ≠ [])
    (hx : ∀ x ∈ l, ∀ r', B r' → (write op x ++ r').length ≤ N → rd (write op x ++ r') = some (x, r')) (hbd : B r) (hw : r.head? ≠ some word) (hN : (writes word op l ++ r).length ≤ N) :
    lst word op rd (writes word op l ++ r) = some (mk1 op l, r) := by
  cases l with
  | nil => exact absurd rfl hl
  | cons x l =>
    rw [writes_eq, List.append_assoc] at hN ⊢
    unfold lst
    rw [hx x (by simp) _ ?_ hN]
    · dsimp only
      simp only [List.length_append] at hN
      rw [more_writes hb l [x] r _ (fun y hy => hx y (by simp [hy])) hbd hw (by simp; omega) (Nat.le_refl _)]; rfl
    · cases l with
      | nil => simpa [writesT] using hbd
      | cons y l => rw [writesT_eq]; exact hb _

def Fac (c : Cond) : Prop := ∀ n rest ar, (ar = 8 ∨ ar = 9) → (write ar c ++ rest).length ≤ n → fac n (write ar c ++ rest) = some (c, rest)
def And' (c : Cond) : Prop := ∀ n rest, rest.head? ≠ some kwAnd → (write 10 c ++ rest).length ≤ n → lst kwAnd 9 (fac n) (write 10 c ++ rest) = some (c, rest)
def Or' (c : Cond) : Prop := ∀ n rest, rest.head? ≠ some kwAnd → rest.head? ≠ some kwOr → (write 0 c ++ rest).length ≤ n → orc (fac n) (write 0 c ++ rest) = some (c, rest)
theorem lst_one {word : Bytes} {op : Int} {rd : Ws → Option (Cond × Ws)} {ws r : Ws} {c : Cond} (h : rd ws = some (c, r)) (hw : r.head? ≠ some word) : lst word op rd ws = some (c, r) := by
  unfold lst; rw [h]; dsimp only; rw [more_stop hw]; rfl
theorem all_of_fac {c : Cond} (h : Fac c) (he : ∀ ar, write ar c = write 8 c) : Fac c ∧ And' c ∧ Or' c := by
  have ha : And' c := fun n rest h1 hn => by
    rw [he] at hn ⊢
    exact lst_one (h n rest 8 (.inl rfl) hn) h1
  refine ⟨h, ha, fun n rest h1 h2 hn => ?_⟩
  rw [he, ← he 10] at hn ⊢
  exact lst_one (ha n rest h1 hn) h2
theorem fac_word {n : Nat} {w : Bytes} {r : Ws} (h : w ≠ []) : fac (n + 1) (w :: r) =
      (if w = kwNet then (next r).map fun p => (leaf 2 p.1 0 .none, p.2)
      else if w = kwClass then (next r).map fun p => (leaf 3 p.1 0 .none, p.2)
      else if w = kwKind then (number r).map fun p => (leaf 4 [] p.1 .none, p.2)
      else if w = kwLayer then (number r).map fun p => (leaf 5 [] p.1 .none, p.2)
      else if w = kwPart then (number r).map fun p => (leaf 6 [] p.1 .none, p.2)
      else if w = kwAny then some (cAny, r)
      else if w = kwIn then (four r).map fun p => (leaf 7 [] 0 p.1, p.2)
      else if w = kwNot then (fac n r).map fun p => (.mk 8 [] 0 .none [p.1], p.2)
      else if w = kwL then (orc (fac n) r).bind fun p => (must kwR p.2).map fun q => (p.1, q)
      else none) := by
  rw [fac, next_cons h]
theorem fac_bracket {c : Cond} (h : Or' c) {n : Nat} {rest : Ws} (hn : (kwL :: write 0 c ++ kwR :: rest).length ≤ n) : fac n (kwL :: write 0 c ++ kwR :: rest) = some (c, rest) := by
  simp only [List.cons_append, List.length_cons, List.length_append] at hn
  obtain ⟨n, rfl⟩ : ∃ j, n = j + 1 := ⟨n - 1, by omega⟩
  rw [List.cons_append, fac_word (by decide)]
  simp only [show (kwL = kwNet) = False by decide, show (kwL = kwClass) = False by decide, show (kwL = kwKind) = False by decide, show (kwL = kwLayer) = False by decide, show (kwL = kwPart) = False by decide, show (kwL = kwAny) = False by decide, show (kwL = kwIn) = False by decide, show (kwL = kwNot) = False by decide, if_false, if_true]
  rw [h n (kwR :: rest) (by simp [kwR, kwAnd]) (by simp [kwR, kwOr]) (by simp; omega)]
  simp [must_cons (show kwR ≠ [] by decide)]
theorem inB_true (ws : List Bytes) : inB true ws = kwL :: ws ++ [kwR] := rfl
theorem inB_false (ws : List Bytes) : inB false ws = ws := rfl
theorem coord_num {x : Int} (h : coordR x = true) : -10000000000 < x ∧ x < 10000000000 := by
  have := of_decide_eq_true h; omega
theorem boxR_num {b : Box} (h : boxR b = true) : (coordR b.x0 = true ∧ coordR b.y0 = true) ∧ coordR b.x1 = true ∧ coordR b.y1 = true := by
  simp only [boxR, Bool.and_eq_true] at h
  exact ⟨h.1.2, h.2⟩
theorem four_write {b : Box} (r : Ws) (h : boxR b = true) : four (Lib.itoa b.x0 :: Lib.itoa b.y0 :: Lib.itoa b.x1 :: Lib.itoa b.y1 :: r) = some (b, r) := by
  obtain ⟨⟨h0, h1⟩, h2, h3⟩ := boxR_num h
  unfold four
  rw [number_itoa _ (coord_num h0).1 (coord_num h0).2]
  simp only [Option.bind_some]
  rw [number_itoa _ (coord_num h1).1 (coord_num h1).2]
  simp only [Option.bind_some]
  rw [number_itoa _ (coord_num h2).1 (coord_num h2).2]
  simp only [Option.bind_some]
  rw [number_itoa _ (coord_num h3).1 (coord_num h3).2]
  rfl
theorem reads (c : Cond) : right c = true → Fac c ∧ And' c ∧ Or' c := by
  refine Cond.ind (P := fun c => right c = true → Fac c ∧ And' c ∧ Or' c) (fun op t n b l ih h => ?_) c
  have hf := right_form h
  generalize hc : Cond.mk op t n b l = c at hf h
  cases hf with
  | any =>
    refine all_of_fac (fun n rest ar _ hn => ?_) (fun ar => by rw [write_any, write_any])
    rw [write_any] at hn ⊢
    obtain ⟨n, rfl⟩ : ∃ j, n = j + 1 := ⟨n - 1, by simp at hn; omega⟩
    rw [List.cons_append, fac_word (by decide)]; rfl
  | net t ht =>
    refine all_of_fac (fun n rest ar _ hn => ?_) (fun ar => by rw [write_net, write_net])
    rw [write_net] at hn ⊢
    obtain ⟨n, rfl⟩ : ∃ j, n = j + 1 := ⟨n - 1, by simp at hn; omega⟩
    rw [List.cons_append, fac_word (by decide), if_pos rfl, List.cons_append, next_cons (splitR_ok ht).1]; rfl
  | cls t ht =>
    refine all_of_fac (fun n rest ar _ hn => ?_) (fun ar => by rw [write_cls, write_cls])
    rw [write_cls] at hn ⊢
    obtain ⟨n, rfl⟩ : ∃ j, n = j + 1 := ⟨n - 1, by simp at hn; omega⟩
    rw [List.cons_append, fac_word (by decide), if_neg (by decide), if_pos rfl, List.cons_append, next_cons (nameR_ok ht).1]; rfl
  | kind m h1 h2 =>
    refine all_of_fac (fun n rest ar _ hn => ?_) (fun ar => by rw [write_kind, write_kind])
    rw [write_kind] at hn ⊢
    obtain ⟨n, rfl⟩ : ∃ j, n = j + 1 := ⟨n - 1, by simp at hn; omega⟩
    rw [List.cons_append, fac_word (by decide), if_neg (by decide), if_neg (by decide), if_pos rfl, List.cons_append, number_itoa _ (by omega) (by omega)]; rfl
  | layer m h1 h2 =>
    refine all_of_fac (fun n rest ar _ hn => ?_) (fun ar => by rw [write_layer, write_layer])
    rw [write_layer] at hn ⊢
    obtain ⟨n, rfl⟩ : ∃ j, n = j + 1 := ⟨n - 1, by simp at hn; omega⟩
    rw [List.cons_append, fac_word (by decide), if_neg (by decide), if_neg (by decide), if_neg (by decide), if_pos rfl, List.cons_append, number_itoa _ (by omega) (by omega)]; rfl
  | part m h1 h2 =>
    refine all_of_fac (fun n rest ar _ hn => ?_) (fun ar => by rw [write_part, write_part])
    rw [write_part] at hn ⊢
    obtain ⟨n, rfl⟩ : ∃ j, n = j + 1 := ⟨n - 1, by simp at hn; omega⟩
    rw [List.cons_append, fac_word (by decide), if_neg (by decide), if_neg (by decide), if_neg (by decide), if_neg (by decide), if_pos rfl, List.cons_append, number_itoa _ (by omega) (by omega)]; rfl
  | box b hb =>
    refine all_of_fac (fun n rest ar _ hn => ?_) (fun ar => by rw [write_box, write_box])
    rw [write_box] at hn ⊢
    obtain ⟨n, rfl⟩ : ∃ j, n = j + 1 := ⟨n - 1, by simp at hn; omega⟩
    rw [List.cons_append, fac_word (by decide), if_neg (by decide), if_neg (by decide), if_neg (by decide), if_neg (by decide), if_neg (by decide), if_neg (by decide), if_pos rfl]
    simp only [List.cons_append, List.nil_append]
    rw [four_write _ hb]; rfl
  | not d hd =>
    injection hc with _ _ _ _ hl
    have hi := (ih d (by rw [hl]; simp) hd).1
    refine all_of_fac (fun n rest ar _ hn => ?_) (fun ar => by rw [write_not, write_not])
    rw [write_not] at hn ⊢
    obtain ⟨n, rfl⟩ : ∃ j, n = j + 1 := ⟨n - 1, by simp at hn; omega⟩
    rw [List.cons_append, fac_word (by decide), if_neg (by decide), if_neg (by decide), if_neg (by decide), if_neg (by decide), if_neg (by decide), if_neg (by decide), if_neg (by decide), if_pos rfl, hi n rest 8 (.inl rfl) (by simpa using hn)]; rfl
  | and m h2 hr =>
    injection hc with _ _ _ _ hl
    subst hl
    have hm : mk1 9 l = .mk 9 [] 0 .none l := by
      unfold mk1; split
      · simp at h2
      · rfl
    have e10 : write 10 (.mk 9 [] 0 .none l) = writes kwAnd 9 l := by rw [write_and]; rfl
    have e0 : write 0 (.mk 9 [] 0 .none l) = writes kwAnd 9 l := by rw [write_and]; rfl
    have ha : And' (.mk 9 [] 0 .none l) := fun n rest h1 hn => by
      rw [e10] at hn ⊢
      rw [← hm]
      exact lst_writes (B := fun _ => True) (fun _ => trivial) (by intro e; subst e; simp at h2) (fun x hx r' _ hN => (ih x hx (hr x hx)).1 n r' 9 (.inr rfl) hN) trivial h1 hn
    have ho : Or' (.mk 9 [] 0 .none l) := fun n rest h1 h2 hn => by
      rw [e0, ← e10] at hn ⊢
      exact lst_one (ha n rest h1 hn) h2
    refine ⟨fun n rest ar har hn => ?_, ha, ho⟩
    have e : write ar (.mk 9 [] 0 .none l) ++ rest = kwL :: write 0 (.mk 9 [] 0 .none l) ++ kwR :: rest := by
      rw [write_and, e0]; rcases har with rfl | rfl <;> simp [brk, inB]
    rw [e] at hn ⊢
    exact fac_bracket ho hn
  | or m h2 hr =>
    injection hc with _ _ _ _ hl
    subst hl
    have hm : mk1 10 l = .mk 10 [] 0 .none l := by
      unfold mk1; split
      · simp at h2
      · rfl
    have e0 : write 0 (.mk 10 [] 0 .none l) = writes kwOr 10 l := by rw [write_or]; rfl
    have ho : Or' (.mk 10 [] 0 .none l) := fun n rest h1 h2' hn => by
      rw [e0] at hn ⊢
      rw [← hm]
      exact lst_writes (B := fun r => r.head? ≠ some kwAnd) (fun t => by simp [kwOr, kwAnd]) (by intro e; subst e; simp at h2) (fun x hx r' hr' hN => (ih x hx (hr x hx)).2.1 n r' hr' hN) h1 h2' hn
    have hfc : Fac (.mk 10 [] 0 .none l) := fun n rest ar har hn => by
      have e : write ar (.mk 10 [] 0 .none l) ++ rest = kwL :: write 0 (.mk 10 [] 0 .none l) ++ kwR :: rest := by
        rw [write_or, e0]; rcases har with rfl | rfl <;> simp [brk, inB]
      rw [e] at hn ⊢
      exact fac_bracket ho hn
    refine ⟨hfc, fun n rest h1 hn => ?_, ho⟩
    have e : write 10 (.mk 10 [] 0 .none l) = write 8 (.mk 10 [] 0 .none l) := by rw [write_or, write_or]; rfl
    rw [e] at hn ⊢
    exact lst_one (hfc n rest 8 (.inl rfl) hn) h1
end Go.Proofs.YtnchipahdfbliaaGreatDoor.Ru
