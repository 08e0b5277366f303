/- What the laws of the lists lean on: lengths of files, elements that were read. No condition. -/
import Derived.Test.YtldjhjbodhhnbaaDoorLo
import Derived.Test.YtldjhjbodhhnbaaDoorSa
import Derived.Test.YtldjhjbodhhnbaaDoorRg
import Derived.Test.YtldjhjbodhhnbaaDoorAp
import Derived.Test.YtldjhjbodhhnbaaDoorSr
import Derived.Test.YtldjhjbodhhnbaaDoorRdp
namespace Go.Proofs.YtldjhjbodhhnbaaDoor
open Go.RowKit

theorem IsArg.len {w : World} {v : Value} {xs : List (List Li.Fld)} (h : IsArg w v xs) : xs.length ≤ 8 := by
  rcases h with ⟨_, _, _, rfl⟩ | ⟨_, _, _, _, _, _, _, hx, _⟩
  · simp
  · omega
theorem cut_all {ks : List Li.Kd} {xs : List (List Li.Fld)} (hg : ∀ x ∈ xs, ArgEl ks x) : ∀ x ∈ xs.map cutX, Li.Good ks x ∧ Short x := fun x hx => by
  obtain ⟨y, hy, rfl⟩ := List.mem_map.1 hx
  exact cut_good (hg y hy).1
theorem cut_short {ks : List Li.Kd} {xs : List (List Li.Fld)} (_hg : ∀ x ∈ xs, ArgEl ks x) : ∀ x ∈ xs.map cutX, ∀ t, Li.Fld.s t ∈ x → t.length ≤ 40 := fun x hx t ht => by
  obtain ⟨y, hy, rfl⟩ := List.mem_map.1 hx
  obtain ⟨g, hg, he⟩ := List.mem_map.1 ht
  cases g with
  | s u => injection he with he; subst he; simp; omega
  | i n => cases he
  | b x => cases he
theorem encF_len {f : Li.Fld} (hf : f.ok) (hs : ∀ t, f = .s t → t.length ≤ 40) : (Li.encF f).length ≤ 122 := by
  cases f with
  | i n => have := Wr.itoa_length n hf; show (Lib.itoa n).length ≤ 122; omega
  | s t => have := word_length t; have := hs t rfl; show (Li.word t).length ≤ 122; omega
  | b x => unfold Li.encF; cases x <;> decide
theorem flat_len {x : List Li.Fld} (h : ∀ f ∈ x, f.ok) (hs : ∀ t, Li.Fld.s t ∈ x → t.length ≤ 40) : (flat x).length ≤ 123 * x.length := by
  induction x with
  | nil => simp [flat]
  | cons f x ih =>
    have h1 := encF_len (h f (by simp)) (fun t e => hs t (by rw [← e]; simp))
    have h2 := ih (fun g hg => h g (by simp [hg])) (fun t ht => hs t (by simp [ht]))
    have e : flat (f :: x) = (32 :: Li.encF f) ++ flat x := rfl
    rw [e, List.length_append, List.length_cons, List.length_cons]; omega
theorem good_six {ks : List Li.Kd} {x : List Li.Fld} (h : Li.Good ks x) (hk : ks.length = 6) : x.length = 6 := by
  have := congrArg List.length h.1
  rwa [List.length_map, hk] at this
theorem lines_len {kind : List UInt8} (hkl : kind.length = 5) {ks : List Li.Kd} (hk : ks.length = 6) {l : List (List Li.Fld)} (hg : ∀ x ∈ l, Li.Good ks x) (hs : ∀ x ∈ l, ∀ t, Li.Fld.s t ∈ x → t.length ≤ 40) :
    (l.flatMap fun x => Li.lineOf kind x ++ [10]).length ≤ 744 * l.length := by
  induction l with
  | nil => simp
  | cons x l ih =>
    have h1 := flat_len (hg x (by simp)).2 (hs x (by simp))
    have h6 := good_six (hg x (by simp)) hk
    have h2 := ih (fun y hy => hg y (by simp [hy])) (fun y hy => hs y (by simp [hy]))
    rw [List.flatMap_cons, List.length_append, List.length_append, List.length_cons, show Li.lineOf kind x = kind ++ flat x from rfl, List.length_append]
    rw [h6] at h1
    simp only [List.length_cons, List.length_nil]; omega
theorem end_len (n : Nat) (h : n ≤ 65536) : (Li.endOf n).length ≤ 24 := by
  have := Wr.itoa_length (n : Int) (by unfold Wr.I64; omega)
  unfold Li.endOf; rw [List.length_append]; simp; omega
theorem file_len {kind : List UInt8} (hkl : kind.length = 5) {ks : List Li.Kd} (hk : ks.length = 6) {l : List (List Li.Fld)} (hl : l.length ≤ 8) (hg : ∀ x ∈ l, Li.Good ks x) (hs : ∀ x ∈ l, ∀ t, Li.Fld.s t ∈ x → t.length ≤ 40) : (Li.fileOf kind l).length ≤ 6000 := by
  have h1 := lines_len hkl hk hg hs
  have h2 := end_len l.length (by omega)
  unfold Li.fileOf
  rw [List.length_append, List.length_append]
  simp only [List.length_cons, List.length_nil]; omega
theorem flatMap_ge {α β : Type} {f : α → List β} {x : α} : ∀ {l : List α}, x ∈ l → (f x).length ≤ (l.flatMap f).length
  | y :: l, h => by
    rw [List.flatMap_cons, List.length_append]
    rcases List.mem_cons.1 h with rfl | h
    · omega
    · have := flatMap_ge (f := f) h; omega
theorem flatMap_count {α β : Type} {f : α → List β} (hf : ∀ x, 1 ≤ (f x).length) : ∀ l : List α, l.length ≤ (l.flatMap f).length
  | [] => by simp
  | y :: l => by
    rw [List.flatMap_cons, List.length_append, List.length_cons]
    have := hf y; have := flatMap_count hf l; omega
theorem enc_pos (c : UInt8) : 1 ≤ (Li.enc c).length := by unfold Li.enc; split <;> simp
theorem word_ge (t : List UInt8) : t.length ≤ (Li.word t).length := by
  have := flatMap_count enc_pos t
  unfold Li.word; rw [List.length_append, List.length_cons]; omega
/-- What stands in a file is no longer than the file. -/
theorem file_short {kind : List UInt8} {l : List (List Li.Fld)} {N : Nat} (h : (Li.fileOf kind l).length ≤ N) : l.length ≤ N ∧ ∀ x ∈ l, ∀ t, Li.Fld.s t ∈ x → t.length ≤ N := by
  unfold Li.fileOf at h
  rw [List.length_append, List.length_append] at h
  constructor
  · have := flatMap_count (f := fun x => Li.lineOf kind x ++ [10]) (fun x => by rw [List.length_append]; simp) l
    omega
  · intro x hx t ht
    have h1 := flatMap_ge (f := fun x => Li.lineOf kind x ++ [10]) hx
    have h2 := flatMap_ge (f := fun f => 32 :: Li.encF f) ht
    have h3 := word_ge t
    have e : Li.lineOf kind x = kind ++ x.flatMap fun f => 32 :: Li.encF f := rfl
    rw [List.length_append, e, List.length_append] at h1
    rw [List.length_cons] at h2
    have h4 : (Li.encF (.s t)).length = (Li.word t).length := rfl
    omega
theorem cellsOf_get : ∀ (xs : List (List Li.Fld)) (k j : Nat) (h : k < xs.length) (_h6 : ∀ x ∈ xs, x.length = 6) (h2 : j < xs[k].length), (cellsOf xs)[k * 6 + j]? = some (fldVal xs[k][j])
  | [], _, _, h, _, _ => by simp at h
  | x :: xs, 0, j, h, h6, h2 => by
    have e : cellsOf (x :: xs) = x.map fldVal ++ cellsOf xs := rfl
    simp only [Nat.zero_mul, Nat.zero_add, List.getElem_cons_zero] at h2 ⊢
    rw [e, List.getElem?_append_left (by simpa using h2), List.getElem?_map, List.getElem?_eq_getElem h2]; rfl
  | x :: xs, k + 1, j, h, h6, h2 => by
    have e : cellsOf (x :: xs) = x.map fldVal ++ cellsOf xs := rfl
    have hl : (x.map fldVal).length = 6 := by simp [h6 x (by simp)]
    have ih := cellsOf_get xs k j (by simpa using h) (fun y hy => h6 y (by simp [hy])) (by simpa using h2)
    rw [e, List.getElem?_append_right (by omega), hl, show (k + 1) * 6 + j - 6 = k * 6 + j by omega, ih]
    rfl
theorem of_isRows {w : World} {base : Nat} {e : TypeId} {v : Value} {l : List (List Li.Fld)} (h : w.ownsRow base e 6 v l.length (cellsOf l)) (h6 : ∀ x ∈ l, x.length = 6) : IsRows w v l := by
  have e1 : l.map id = l := List.map_id l
  rcases h.2 with ⟨rfl, h0⟩ | ⟨g, cap, cur, rfl, _, hg, hc, _⟩
  · exact .inl ⟨_, _, rfl, List.length_eq_zero_iff.1 h0⟩
  · refine .inr ⟨g, 0, cap, rfl, hc, lt_of_block hg, fun k hk j hj => ?_⟩
    have := h.cells rfl (k * 6 + j) _ (cellsOf_get l k j hk h6 hj)
    rw [show ((⟨g, 0, none⟩ : Addr).add (k * 6 + j)) = ⟨g, k * 6 + j, none⟩ by simp [Addr.add]; omega] at this
    simpa using this

end Go.Proofs.YtldjhjbodhhnbaaDoor
