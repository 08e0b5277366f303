/- The plain law of the lists, second part: what was written is read, and what is read was written. No program is in sight. -/
import Derived.Test.YtldjhjbodhhnbaaDoorLiP
namespace Go.Proofs.YtldjhjbodhhnbaaDoor.Li
open Go Go.Proofs.YtldjhjbodhhnbaaDoor

theorem itoa_low (n : Int) : ∀ c ∈ Lib.itoa n, 45 ≤ c.toNat := fun c hc => by
  rcases Wr.itoa_byte n c hc with h | h
  · subst h; decide
  · omega
theorem word_low (s : Bytes) : ∀ c ∈ word s, 32 ≤ c.toNat := fun c hc => by
  have hx : ∀ n : Nat, n < 16 → 32 ≤ (hexd n).toNat := fun n hn => by rw [hexd_toNat hn]; split <;> omega
  unfold word at hc
  simp only [List.mem_append, List.mem_cons, List.not_mem_nil, or_false] at hc
  rcases hc with (h | h) | h
  · subst h; decide
  · obtain ⟨d, _, hd⟩ := List.mem_flatMap.1 h
    unfold enc at hd
    split at hd
    · simp only [List.mem_cons, List.not_mem_nil, or_false] at hd
      rcases hd with h | h | h
      · subst h; decide
      · rw [h]; exact hx _ (div16 d)
      · rw [h]; exact hx _ (mod16 d)
    · rename_i he
      simp at hd
      subst hd
      unfold esc at he
      simp at he
      omega
  · subst h; decide
theorem side_low (x : Bool) : ∀ c ∈ side x, 32 ≤ c.toNat := by cases x <;> decide
theorem encF_low (f : Fld) : ∀ c ∈ encF f, 32 ≤ c.toNat := fun c hc => by
  cases f with
  | i n => have := itoa_low n c hc; omega
  | s t => exact word_low t c hc
  | b x => exact side_low x c hc
theorem flat_low (fs : List Fld) : ∀ c ∈ (fs.flatMap fun f => 32 :: encF f), 32 ≤ c.toNat := fun c hc => by
  obtain ⟨f, _, hf⟩ := List.mem_flatMap.1 hc
  rcases List.mem_cons.1 hf with h | h
  · subst h; decide
  · exact encF_low f c h
theorem no_lf {l : Bytes} (h : ∀ c ∈ l, 32 ≤ c.toNat) : (10 : UInt8) ∉ l := fun hc => by have := h _ hc; revert this; decide
theorem line_no_lf {kind : Bytes} (hk : ∀ c ∈ kind, 32 ≤ c.toNat) (fs : List Fld) : (10 : UInt8) ∉ lineOf kind fs := no_lf fun c hc => by
  rcases List.mem_append.1 hc with h | h
  · exact hk c h
  · exact flat_low fs c h
theorem end_no_lf (n : Nat) : (10 : UInt8) ∉ endOf n := no_lf fun c hc => by
  rcases List.mem_append.1 hc with h | h
  · clear hc; revert c; decide
  · have := itoa_low n c h; omega

/-- A kind of lists: lines begin with its word, which begins like no end. -/
structure Kind (kind : Bytes) : Prop where
  low : ∀ c ∈ kind, 32 ≤ c.toNat
  head : ∃ t, kind = 112 :: t
theorem Kind.ne_end {kind : Bytes} (h : Kind kind) (fs : List Fld) (n : Nat) : lineOf kind fs ≠ endOf n := fun e => by
  obtain ⟨t, rfl⟩ := h.head
  simp [lineOf, endOf] at e
def Good (ks : List Kd) (x : List Fld) : Prop := x.map Fld.kd = ks ∧ ∀ f ∈ x, f.ok

theorem readL_fuel (kind : Bytes) (ks : List Kd) : ∀ (f f' : Nat) (s : Bytes) (out : List (List Fld)) (n : Nat), s.length < f → s.length < f' → readL kind ks f s out n = readL kind ks f' s out n
  | 0, _, _, _, _, h, _ => by omega
  | _, 0, _, _, _, _, h => by omega
  | f + 1, f' + 1, s, out, n, h1, h2 => by
    unfold readL
    cases hc : Wr.cut1 10 s with
    | none => rfl
    | some p =>
      obtain ⟨this, rest⟩ := p
      have hl : rest.length < s.length := by have := (Wr.cut1_some hc).1; rw [this]; simp; omega
      simp only
      split
      · rfl
      · cases parseLine kind ks this with
        | none => rfl
        | some x => exact readL_fuel kind ks f f' rest _ _ (by omega) (by omega)
/-- From here on. -/
def readOn (kind : Bytes) (ks : List Kd) (s : Bytes) (out : List (List Fld)) (n : Nat) : Rd := readL kind ks (s.length + 1) s out n
theorem readFile_on (kind : Bytes) (ks : List Kd) (s : Bytes) : readFile kind ks s = readOn kind ks s [] 1 := rfl
theorem on_none {kind : Bytes} {ks : List Kd} {s : Bytes} (out : List (List Fld)) (n : Nat) (h : Wr.cut1 10 s = none) : readOn kind ks s out n = .bad n := by
  unfold readOn readL; rw [h]
theorem on_end {kind : Bytes} {ks : List Kd} {s rest : Bytes} (out : List (List Fld)) (n : Nat) (h : Wr.cut1 10 s = some (endOf out.length, rest)) : readOn kind ks s out n = if rest = [] then .ok out else .bad (n + 1) := by
  unfold readOn readL; rw [h]; simp
theorem on_bad {kind : Bytes} {ks : List Kd} {s this rest : Bytes} (out : List (List Fld)) (n : Nat) (h : Wr.cut1 10 s = some (this, rest)) (hne : this ≠ endOf out.length) (hp : parseLine kind ks this = none) : readOn kind ks s out n = .bad n := by
  unfold readOn readL; rw [h]; simp [hne, hp]
theorem on_line {kind : Bytes} {ks : List Kd} {s this rest : Bytes} {x : List Fld} (out : List (List Fld)) (n : Nat) (h : Wr.cut1 10 s = some (this, rest)) (hne : this ≠ endOf out.length) (hp : parseLine kind ks this = some x) : readOn kind ks s out n = readOn kind ks rest (out ++ [x]) (n + 1) := by
  have hl : rest.length < s.length := by have := (Wr.cut1_some h).1; rw [this]; simp; omega
  conv => lhs; unfold readOn readL
  rw [h]
  simp only [hne, if_false, hp]
  exact readL_fuel kind ks _ _ _ _ _ (by omega) (by omega)
theorem on_one {kind : Bytes} {ks : List Kd} (hk : Kind kind) {x : List Fld} (hx : Good ks x) (s : Bytes) (out : List (List Fld)) (n : Nat) : readOn kind ks (lineOf kind x ++ 10 :: s) out n = readOn kind ks s (out ++ [x]) (n + 1) :=
  on_line out n (Wr.cut1_append s (line_no_lf hk.low x)) (hk.ne_end x _) (parseLine_iff.2 ⟨rfl, hx.1, hx.2⟩)
theorem on_lines {kind : Bytes} {ks : List Kd} (hk : Kind kind) : ∀ (l : List (List Fld)), (∀ x ∈ l, Good ks x) → ∀ (s : Bytes) (out : List (List Fld)) (n : Nat), readOn kind ks ((l.flatMap fun x => lineOf kind x ++ [10]) ++ s) out n = readOn kind ks s (out ++ l) (n + l.length)
  | [], _, s, out, n => by simp
  | x :: l, h, s, out, n => by
    rw [List.flatMap_cons]
    have e : (lineOf kind x ++ [10] ++ l.flatMap fun x => lineOf kind x ++ [10]) ++ s = lineOf kind x ++ 10 :: ((l.flatMap fun x => lineOf kind x ++ [10]) ++ s) := by simp
    rw [e, on_one hk (h x (by simp)), on_lines hk l (fun y hy => h y (by simp [hy]))]
    congr 1
    · simp
    · simp; omega
theorem read_write {kind : Bytes} {ks : List Kd} (hk : Kind kind) {l : List (List Fld)} (h : ∀ x ∈ l, Good ks x) (t : Bytes) : readFile kind ks (fileOf kind l ++ t) = if t = [] then .ok l else .bad (l.length + 2) := by
  rw [readFile_on]
  have e : fileOf kind l ++ t = (l.flatMap fun x => lineOf kind x ++ [10]) ++ (endOf l.length ++ 10 :: t) := by unfold fileOf; simp
  rw [e, on_lines hk l h, on_end _ _ (rest := t) (by rw [List.nil_append]; exact Wr.cut1_append t (end_no_lf _))]
  simp only [List.nil_append]
  split
  · rfl
  · congr 1; omega
theorem readL_can {kind : Bytes} {ks : List Kd} : ∀ (f : Nat) (s : Bytes) (out l : List (List Fld)) (n : Nat), readL kind ks f s out n = .ok l → ∃ m, l = out ++ m ∧ s = (m.flatMap fun x => lineOf kind x ++ [10]) ++ (endOf l.length ++ [10]) ∧ ∀ x ∈ m, Good ks x
  | 0, _, _, _, _, h => by cases h
  | f + 1, s, out, l, n, h => by
    unfold readL at h
    cases hc : Wr.cut1 10 s with
    | none => rw [hc] at h; cases h
    | some p =>
      obtain ⟨this, rest⟩ := p
      rw [hc] at h
      have hs := (Wr.cut1_some hc).1
      simp only at h
      split at h
      · rename_i he
        split at h
        · rename_i hr
          injection h with h
          subst h hr
          exact ⟨[], by simp, by rw [hs, he]; simp, by simp⟩
        · cases h
      · cases hp : parseLine kind ks this with
        | none => rw [hp] at h; cases h
        | some x =>
          rw [hp] at h
          obtain ⟨m, rfl, hm, hg⟩ := readL_can f rest _ l _ h
          obtain ⟨ht, hk, ho⟩ := parseLine_iff.1 hp
          refine ⟨x :: m, by simp, ?_, ?_⟩
          · rw [hs, ht, hm]; simp
          · intro y hy
            rcases List.mem_cons.1 hy with rfl | hy
            · exact ⟨hk, ho⟩
            · exact hg y hy
theorem read_can {kind : Bytes} {ks : List Kd} {s : Bytes} {l : List (List Fld)} (h : readFile kind ks s = .ok l) : s = fileOf kind l ∧ ∀ x ∈ l, Good ks x := by
  obtain ⟨m, rfl, hs, hg⟩ := readL_can _ _ _ _ _ h
  exact ⟨by rw [hs]; unfold fileOf; simp, hg⟩
theorem readL_num {kind : Bytes} {ks : List Kd} : ∀ (f : Nat) (s : Bytes) (out : List (List Fld)) (n k : Nat), readL kind ks f s out n = .bad k → n ≤ k
  | 0, _, _, _, _, h => by injection h with h; omega
  | f + 1, s, out, n, k, h => by
    unfold readL at h
    cases hc : Wr.cut1 10 s with
    | none => rw [hc] at h; injection h with h; omega
    | some p =>
      obtain ⟨this, rest⟩ := p
      rw [hc] at h
      simp only at h
      split at h
      · split at h
        · cases h
        · injection h with h; omega
      · cases hp : parseLine kind ks this with
        | none => rw [hp] at h; injection h with h; omega
        | some x => rw [hp] at h; have := readL_num f rest _ _ _ h; omega
/-- A file that is cut off is refused. -/
theorem read_cut {kind : Bytes} {ks : List Kd} (hk : Kind kind) {l : List (List Fld)} (h : ∀ x ∈ l, Good ks x) {k : Nat} (hlt : k < (fileOf kind l).length) : ∃ n, 1 ≤ n ∧ readFile kind ks ((fileOf kind l).take k) = .bad n := by
  cases hr : readFile kind ks ((fileOf kind l).take k) with
  | bad n => exact ⟨n, readL_num _ _ _ _ _ hr, rfl⟩
  | ok m =>
    exfalso
    obtain ⟨hs, hg⟩ := read_can hr
    have e : fileOf kind l = fileOf kind m ++ (fileOf kind l).drop k := by rw [← hs, List.take_append_drop]
    have h1 := read_write hk h []
    rw [List.append_nil, e, read_write hk hg, if_neg (by intro hd; have := congrArg List.length hd; simp at this; omega)] at h1
    cases h1
theorem read_more {kind : Bytes} {ks : List Kd} (hk : Kind kind) {l : List (List Fld)} (h : ∀ x ∈ l, Good ks x) (c : UInt8) : ∃ n, 1 ≤ n ∧ readFile kind ks (fileOf kind l ++ [c]) = .bad n :=
  ⟨l.length + 2, by omega, by rw [read_write hk h, if_neg (by simp)]⟩
/-- A byte ahead of a line. -/
theorem read_odd {kind : Bytes} {ks : List Kd} (hk : Kind kind) {l _m : List (List Fld)} (h : ∀ x ∈ l, Good ks x) {x : List Fld} (b : UInt8) (hb : b ≠ 112) (hb2 : b ≠ 10) (t : Bytes) :
    readFile kind ks ((l.flatMap fun x => lineOf kind x ++ [10]) ++ (b :: lineOf kind x ++ 10 :: t)) = .bad (l.length + 1) := by
  rw [readFile_on, on_lines hk l h]
  have e : Wr.cut1 10 (b :: lineOf kind x ++ 10 :: t) = some (b :: lineOf kind x, t) := Wr.cut1_append t (by simp only [List.mem_cons, not_or]; exact ⟨fun e => hb2 e.symm, line_no_lf hk.low x⟩)
  obtain ⟨r, hr⟩ := hk.head
  rw [on_bad _ _ e]
  · congr 1; omega
  · intro he
    rw [hr] at he
    simp [lineOf, endOf] at he
  · cases hp : parseLine kind ks (b :: lineOf kind x) with
    | none => rfl
    | some y =>
      have := (parseLine_iff.1 hp).1
      rw [hr] at this
      simp [lineOf] at this
      exact absurd this.1 hb
end Go.Proofs.YtldjhjbodhhnbaaDoor.Li
