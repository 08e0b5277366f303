/- The plain law of the lists, seventh part: a line field by field, as the program reads it. No program is in sight. -/
import Derived.Test.YtldjhjbodhhnbaaDoorLiQ
namespace Go.Proofs.YtldjhjbodhhnbaaDoor.Li
open Go Go.Proofs.YtldjhjbodhhnbaaDoor

theorem upTo_cut (t : Bytes) : (upTo t, from_ t) = match Wr.cut1 32 t with | some (d, r) => (d, 32 :: r) | none => (t, []) := by
  cases h : Wr.cut1 32 t with
  | none =>
    have hn := Wr.cut1_none.1 h
    have := split_blank (r := []) hn (.inl rfl)
    rw [List.append_nil] at this
    simp only [this.1, this.2]
  | some p =>
    obtain ⟨d, r⟩ := p
    obtain ⟨rfl, hn⟩ := Wr.cut1_some h
    have := split_blank (r := 32 :: r) hn (.inr ⟨r, rfl⟩)
    simp only [this.1, this.2]
/-- The first blank's place, or the end. -/
theorem blank_at (t : Bytes) (n : Int) (h : Lib.indexByte t 32 = n) : (n < 0 ∧ upTo t = t ∧ from_ t = []) ∨ (∃ m : Nat, n = (m : Int) ∧ m ≤ t.length ∧ t.take m = upTo t ∧ t.drop m = from_ t) := by
  have hc := upTo_cut t
  rw [Wr.indexByte_cut] at h
  cases e : Wr.cut1 32 t with
  | none =>
    rw [e] at h hc
    simp only at h hc
    injection hc with h1 h2
    exact .inl ⟨by omega, h1, h2⟩
  | some p =>
    obtain ⟨d, r⟩ := p
    rw [e] at h hc
    simp only at h hc
    injection hc with h1 h2
    obtain ⟨rfl, _⟩ := Wr.cut1_some e
    exact .inr ⟨d.length, h.symm, by simp, by rw [h1, List.take_left], by rw [h2, List.drop_left]⟩
theorem parseL_done (r : Bytes) : parseL [] r = if r = [] then some [] else none := rfl
theorem parseL_no {k : Kd} {ks : List Kd} {r : Bytes} (h : r.take 1 ≠ [32]) : parseL (k :: ks) r = none := by
  match r with
  | [] => rfl
  | c :: t =>
    have : c ≠ 32 := fun e => h (by subst e; rfl)
    simp [parseL, this]
theorem parseL_on {k : Kd} {ks : List Kd} {t : Bytes} : parseL (k :: ks) (32 :: t) = match parseF k t with | some (f, r') => (parseL ks r').map (f :: ·) | none => none := by
  simp only [parseL, if_true]
  cases parseF k t <;> rfl
theorem parseF_len {k : Kd} {t r : Bytes} {f : Fld} (h : parseF k t = some (f, r)) : r.length ≤ t.length := by
  have := (parseF_some h).1
  rw [this, List.length_append]; omega
/-- How a line stands behind some fields: what is left of it, and what it will be. -/
def On (kind : Bytes) (ks : List Kd) (s0 : Bytes) (fs : List Fld) (r : Bytes) : Prop := fs.length ≤ ks.length ∧ r.length ≤ s0.length ∧ parseLine kind ks s0 = (parseL (ks.drop fs.length) r).map (fs ++ ·)
theorem On.start {kind : Bytes} {ks : List Kd} {s0 : Bytes} (h : s0.take kind.length = kind) : On kind ks s0 [] (s0.drop kind.length) :=
  ⟨Nat.zero_le _, by rw [List.length_drop]; omega, by unfold parseLine; rw [if_pos h]; simp⟩
theorem On.no {kind : Bytes} {ks : List Kd} {s0 r : Bytes} {fs : List Fld} (h : On kind ks s0 fs r) (hl : fs.length < ks.length) (hr : r.take 1 ≠ [32]) : parseLine kind ks s0 = none := by
  rw [h.2.2, List.drop_eq_getElem_cons hl, parseL_no hr]; rfl
theorem On.bad {kind : Bytes} {ks : List Kd} {s0 t : Bytes} {fs : List Fld} (h : On kind ks s0 fs (32 :: t)) (hl : fs.length < ks.length) {k : Kd} (hk : ks[fs.length] = k) (hp : parseF k t = none) : parseLine kind ks s0 = none := by
  rw [h.2.2, List.drop_eq_getElem_cons hl, parseL_on, hk, hp]; rfl
theorem On.step {kind : Bytes} {ks : List Kd} {s0 t r : Bytes} {fs : List Fld} {f : Fld} (h : On kind ks s0 fs (32 :: t)) (hl : fs.length < ks.length) {k : Kd} (hk : ks[fs.length] = k) (hp : parseF k t = some (f, r)) : On kind ks s0 (fs ++ [f]) r := by
  refine ⟨by rw [List.length_append]; simp; omega, ?_, ?_⟩
  · have h1 := parseF_len hp
    have h2 := h.2.1
    simp at h2; omega
  · rw [h.2.2, List.drop_eq_getElem_cons hl, parseL_on, hk, hp]
    simp only [List.length_append, List.length_singleton]
    cases parseL (ks.drop (fs.length + 1)) r <;> simp
theorem On.done {kind : Bytes} {ks : List Kd} {s0 r : Bytes} {fs : List Fld} (h : On kind ks s0 fs r) (hl : ¬ fs.length < ks.length) : parseLine kind ks s0 = if r = [] then some fs else none := by
  rw [h.2.2, List.drop_eq_nil_of_le (by omega), parseL_done]
  split <;> simp
theorem parseF_i (t : Bytes) : parseF .i t = (Wr.parse (upTo t)).map fun n => (.i n, from_ t) := rfl
theorem parse_ok {d : Bytes} {n : Int} (h : Lib.atoiAll d = .ok n) : Wr.parse d = if Lib.itoa n = d then some n else none := by
  unfold Wr.parse; rw [h]
theorem parse_err {d : Bytes} (h : ∀ v, Lib.atoiAll d ≠ .ok v) : Wr.parse d = none := by
  unfold Wr.parse
  split
  · rename_i v e; exact absurd e (h v)
  · rfl
theorem parseF_b (t : Bytes) (x : Bool) (h : decide (upTo t = side true) = x) : parseF .b t = if upTo t = side x then some (.b x, from_ t) else none := by
  cases x
  · have : ¬ upTo t = side true := of_decide_eq_false h
    simp [parseF, this]
  · have : upTo t = side true := of_decide_eq_true h
    simp [parseF, this]
end Go.Proofs.YtldjhjbodhhnbaaDoor.Li
