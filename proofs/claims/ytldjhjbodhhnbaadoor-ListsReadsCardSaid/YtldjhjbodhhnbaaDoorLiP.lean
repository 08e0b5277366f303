/- The plain law of the lists: words, lines, files. No program is in sight. -/
import Derived.Test.YtldjhjbodhhnbaaDoorPlain
namespace Go.Proofs.YtldjhjbodhhnbaaDoor.Li
open Go Go.Proofs.YtldjhjbodhhnbaaDoor
abbrev Bytes := List UInt8

/-! ### Words -/
def hexd (n : Nat) : UInt8 := UInt8.ofNat (if n < 10 then 48 + n else 87 + n)
def hexv (c : UInt8) : Option Nat := if 48 ≤ c.toNat ∧ c.toNat ≤ 57 then some (c.toNat - 48) else if 97 ≤ c.toNat ∧ c.toNat ≤ 102 then some (c.toNat - 87) else none
def esc (c : UInt8) : Bool := c == 34 || c == 92 || decide (c.toNat < 32) || decide (126 < c.toNat)
def enc (c : UInt8) : Bytes := if esc c then [92, hexd (c.toNat / 16), hexd (c.toNat % 16)] else [c]
def word (s : Bytes) : Bytes := 34 :: s.flatMap enc ++ [34]

theorem hexd_toNat {n : Nat} (h : n < 16) : (hexd n).toNat = if n < 10 then 48 + n else 87 + n := by
  unfold hexd; rw [UInt8.toNat_ofNat']; split <;> omega
theorem hexv_hexd {n : Nat} (h : n < 16) : hexv (hexd n) = some n := by
  unfold hexv; rw [hexd_toNat h]
  by_cases h1 : n < 10
  · rw [if_pos h1, if_pos (by omega)]; congr 1; omega
  · rw [if_neg h1, if_neg (by omega), if_pos (by omega)]; congr 1; omega
theorem hexv_lt {c : UInt8} {n : Nat} (h : hexv c = some n) : n < 16 ∧ hexd n = c := by
  unfold hexv at h
  split at h
  · injection h with h; subst h
    refine ⟨by omega, UInt8.toNat.inj ?_⟩
    rw [hexd_toNat (by omega)]; split <;> omega
  · split at h
    · injection h with h; subst h
      refine ⟨by omega, UInt8.toNat.inj ?_⟩
      rw [hexd_toNat (by omega)]; split <;> omega
    · cases h

theorem div16 (c : UInt8) : c.toNat / 16 < 16 := by have := c.toNat_lt; omega
theorem mod16 (c : UInt8) : c.toNat % 16 < 16 := by omega
theorem join16 (c : UInt8) : UInt8.ofNat (16 * (c.toNat / 16) + c.toNat % 16) = c := by
  apply UInt8.toNat.inj
  rw [UInt8.toNat_ofNat', Nat.div_add_mod]; have := c.toNat_lt; omega

/-- What a word's bytes stand for. -/
def dec : Bytes → Option Bytes
  | [] => some []
  | 92 :: a :: b :: r => match hexv a, hexv b with
    | some x, some y => (dec r).map (UInt8.ofNat (16 * x + y) :: ·)
    | _, _ => none
  | c :: r => if c = 92 then none else (dec r).map (c :: ·)
theorem dec_esc (a b : UInt8) (r : Bytes) : dec (92 :: a :: b :: r) = match hexv a, hexv b with
    | some x, some y => (dec r).map (UInt8.ofNat (16 * x + y) :: ·)
    | _, _ => none := by rw [dec]
theorem dec_cons {c : UInt8} (r : Bytes) (h : c ≠ 92) : dec (c :: r) = (dec r).map (c :: ·) := by
  rw [dec]
  · rw [if_neg h]
  · intro a b r' e; exact absurd e h
theorem dec_short1 : dec [92] = none := by rw [dec]; · rfl
                                           · intro a b r _ h; cases h
theorem dec_short2 (a : UInt8) : dec [92, a] = none := by rw [dec]; · rfl
                                                          · intro a b r _ h; cases h
theorem dec_enc (s r : Bytes) : dec (s.flatMap enc ++ r) = (dec r).map (s ++ ·) := by
  induction s with
  | nil => simp
  | cons c s ih =>
    rw [List.flatMap_cons, List.append_assoc]
    have hh : ∀ t : Bytes, dec (enc c ++ t) = (dec t).map (c :: ·) := fun t => by
      unfold enc
      split
      · show dec (92 :: hexd (c.toNat / 16) :: hexd (c.toNat % 16) :: t) = _
        rw [dec_esc, hexv_hexd (div16 c), hexv_hexd (mod16 c)]
        simp only [join16]
      · rename_i h
        refine dec_cons _ (fun e => h ?_)
        subst e; rfl
    rw [hh, ih]
    cases dec r <;> simp
theorem enc_noquote (s : Bytes) : (34 : UInt8) ∉ s.flatMap enc := by
  intro h
  obtain ⟨c, _, hc⟩ := List.mem_flatMap.1 h
  have hx : ∀ n : Nat, n < 16 → hexd n ≠ 34 := fun n hn e => by
    have := congrArg UInt8.toNat e
    rw [hexd_toNat hn] at this
    have h34 : (34 : UInt8).toNat = 34 := rfl
    split at this <;> omega
  unfold enc at hc
  split at hc
  · simp only [List.mem_cons, List.not_mem_nil, or_false] at hc
    rcases hc with h | h | h
    · cases h
    · exact hx _ (div16 c) h.symm
    · exact hx _ (mod16 c) h.symm
  · rename_i he
    simp at hc
    subst hc
    exact he rfl

/-- The word with which a text begins. -/
def quoted : Bytes → Option (Bytes × Bytes)
  | 34 :: t => match Wr.cut1 34 t with
    | some (inner, rest) => match dec inner with
      | some d => if word d = 34 :: inner ++ [34] then some (d, rest) else none
      | none => none
    | none => none
  | _ => none
theorem quoted_word (d r : Bytes) : quoted (word d ++ r) = some (d, r) := by
  have h1 : word d ++ r = 34 :: (d.flatMap enc ++ 34 :: r) := by simp [word]
  have h2 : dec (d.flatMap enc) = some d := by have := dec_enc d []; simpa [dec] using this
  rw [h1]
  unfold quoted
  simp only [Wr.cut1_append r (enc_noquote d), h2]
  rw [if_pos (by simp [word])]
theorem quoted_some {s d r : Bytes} (h : quoted s = some (d, r)) : s = word d ++ r := by
  unfold quoted at h
  split at h
  · rename_i t
    split at h
    · rename_i inner rest hc
      obtain ⟨rfl, _⟩ := Wr.cut1_some hc
      split at h
      · rename_i d' hd
        split at h
        · rename_i hw
          simp only [Option.some.injEq, Prod.mk.injEq] at h
          obtain ⟨rfl, rfl⟩ := h
          rw [hw]; simp
        · cases h
      · cases h
    · cases h
  · cases h
theorem quoted_iff {s d r : Bytes} : quoted s = some (d, r) ↔ s = word d ++ r := ⟨quoted_some, fun h => by rw [h]; exact quoted_word d r⟩

/-! ### Fields and lines -/
inductive Kd | i | s | b
  deriving DecidableEq
inductive Fld | i (n : Int) | s (t : Bytes) | b (x : Bool)
  deriving DecidableEq
def Fld.kd : Fld → Kd | .i _ => .i | .s _ => .s | .b _ => .b
def Fld.ok : Fld → Prop | .i n => Wr.I64 n | _ => True
def side (x : Bool) : Bytes := if x then [98, 111, 116, 116, 111, 109] else [116, 111, 112]
def encF : Fld → Bytes | .i n => Lib.itoa n | .s t => word t | .b x => side x
def lineOf (kind : Bytes) (fs : List Fld) : Bytes := kind ++ fs.flatMap fun f => 32 :: encF f

/-- What stands ahead of the first blank, and the rest. -/
def upTo (s : Bytes) : Bytes := s.takeWhile (· != 32)
def from_ (s : Bytes) : Bytes := s.dropWhile (· != 32)
theorem upTo_from (s : Bytes) : upTo s ++ from_ s = s := List.takeWhile_append_dropWhile
theorem drop_cases : ∀ s : Bytes, s.dropWhile (· != 32) = [] ∨ ∃ t, s.dropWhile (· != 32) = 32 :: t
  | [] => .inl rfl
  | c :: s => by
    by_cases h : c = 32
    · subst h; exact .inr ⟨s, by simp⟩
    · rw [List.dropWhile_cons_of_pos (by simpa using h)]; exact drop_cases s
theorem from_cases (s : Bytes) : from_ s = [] ∨ ∃ t, from_ s = 32 :: t := drop_cases s
theorem take_no : ∀ s : Bytes, (32 : UInt8) ∉ s.takeWhile (· != 32)
  | [] => by simp
  | c :: s => by
    by_cases h : c = 32
    · subst h; simp
    · rw [List.takeWhile_cons_of_pos (by simpa using h)]
      simp only [List.mem_cons, not_or]
      exact ⟨fun e => h e.symm, take_no s⟩
theorem upTo_no (s : Bytes) : (32 : UInt8) ∉ upTo s := take_no s
theorem split_blank {w r : Bytes} (hw : (32 : UInt8) ∉ w) (hr : r = [] ∨ ∃ t, r = 32 :: t) : upTo (w ++ r) = w ∧ from_ (w ++ r) = r := by
  have hp : ∀ a ∈ w, (a != 32) = true := fun a ha => by simp; intro e; exact hw (e ▸ ha)
  unfold upTo from_
  rw [List.takeWhile_append_of_pos hp, List.dropWhile_append_of_pos hp]
  rcases hr with rfl | ⟨t, rfl⟩ <;> simp

def parseF (k : Kd) (s : Bytes) : Option (Fld × Bytes) := match k with
  | .s => (quoted s).map fun p => (.s p.1, p.2)
  | .i => (Wr.parse (upTo s)).map fun n => (.i n, from_ s)
  | .b => if upTo s = side true then some (.b true, from_ s) else if upTo s = side false then some (.b false, from_ s) else none
def parseL : List Kd → Bytes → Option (List Fld)
  | [], s => if s = [] then some [] else none
  | k :: ks, s => match s with
    | [] => none
    | c :: r => if c = 32 then match parseF k r with
        | some (f, r') => (parseL ks r').map (f :: ·)
        | none => none
      else none

theorem itoa_no_blank (n : Int) : (32 : UInt8) ∉ Lib.itoa n := fun h => by
  rcases Wr.itoa_byte n _ h with h | h
  · cases h
  · simp at h
theorem side_no_blank (x : Bool) : (32 : UInt8) ∉ side x := by cases x <;> decide
theorem parseF_some {k : Kd} {s r : Bytes} {f : Fld} (h : parseF k s = some (f, r)) : s = encF f ++ r ∧ f.kd = k ∧ f.ok := by
  unfold parseF at h
  cases k with
  | s =>
    simp only [Option.map_eq_some_iff, Prod.exists, Prod.mk.injEq] at h
    obtain ⟨d, r', h', rfl, rfl⟩ := h
    exact ⟨quoted_some h', rfl, trivial⟩
  | i =>
    simp only [Option.map_eq_some_iff, Prod.mk.injEq] at h
    obtain ⟨n, h', rfl, rfl⟩ := h
    obtain ⟨hd, hI⟩ := Wr.parse_some.1 h'
    exact ⟨by show s = Lib.itoa n ++ from_ s; rw [← hd, upTo_from], rfl, hI⟩
  | b =>
    simp only at h
    split at h
    · rename_i hu
      simp only [Option.some.injEq, Prod.mk.injEq] at h
      obtain ⟨rfl, rfl⟩ := h
      exact ⟨by show s = side true ++ from_ s; rw [← hu, upTo_from], rfl, trivial⟩
    · split at h
      · rename_i hu
        simp only [Option.some.injEq, Prod.mk.injEq] at h
        obtain ⟨rfl, rfl⟩ := h
        exact ⟨by show s = side false ++ from_ s; rw [← hu, upTo_from], rfl, trivial⟩
      · cases h
theorem parseF_enc (f : Fld) (r : Bytes) (hf : f.ok) (hr : r = [] ∨ ∃ t, r = 32 :: t) : parseF f.kd (encF f ++ r) = some (f, r) := by
  cases f with
  | s d => show (quoted (word d ++ r)).map _ = _; rw [quoted_word]; rfl
  | i n =>
    obtain ⟨h1, h2⟩ := split_blank (itoa_no_blank n) hr
    show (Wr.parse (upTo (Lib.itoa n ++ r))).map (fun m => (Fld.i m, from_ (Lib.itoa n ++ r))) = some (Fld.i n, r)
    rw [h1, h2, Wr.parse_some.2 ⟨rfl, hf⟩]; rfl
  | b x =>
    obtain ⟨h1, h2⟩ := split_blank (side_no_blank x) hr
    show (if upTo (side x ++ r) = side true then some (Fld.b true, from_ (side x ++ r)) else if upTo (side x ++ r) = side false then some (Fld.b false, from_ (side x ++ r)) else none) = _
    rw [h1, h2]
    cases x
    · rw [if_neg (by decide), if_pos rfl]
    · rw [if_pos rfl]
theorem flat_head (fs : List Fld) : (fs.flatMap fun f => 32 :: encF f) = [] ∨ ∃ t, (fs.flatMap fun f => 32 :: encF f) = 32 :: t := by
  cases fs with
  | nil => exact .inl rfl
  | cons f fs => exact .inr ⟨_, rfl⟩
theorem parseL_enc : ∀ (fs : List Fld), (∀ f ∈ fs, f.ok) → parseL (fs.map Fld.kd) (fs.flatMap fun f => 32 :: encF f) = some fs
  | [], _ => by simp [parseL]
  | f :: fs, h => by
    have ih := parseL_enc fs (fun g hg => h g (by simp [hg]))
    rw [List.flatMap_cons, List.map_cons]
    show parseL (f.kd :: fs.map Fld.kd) (32 :: (encF f ++ fs.flatMap fun f => 32 :: encF f)) = _
    rw [parseL]
    simp only [if_true, parseF_enc f _ (h f (by simp)) (flat_head fs), ih]
    rfl
theorem parseL_some : ∀ {ks : List Kd} {s : Bytes} {fs : List Fld}, parseL ks s = some fs → s = (fs.flatMap fun f => 32 :: encF f) ∧ fs.map Fld.kd = ks ∧ ∀ f ∈ fs, f.ok
  | [], s, fs, h => by
    unfold parseL at h
    split at h
    · rename_i hs
      injection h with h
      subst h
      exact ⟨by simp [hs], rfl, by simp⟩
    · cases h
  | k :: ks, [], fs, h => by simp [parseL] at h
  | k :: ks, c :: r, fs, h => by
    rw [parseL] at h
    split at h
    · rename_i hc
      split at h
      · rename_i f r' hf
        simp only [Option.map_eq_some_iff] at h
        obtain ⟨gs, hg, rfl⟩ := h
        obtain ⟨rfl, hk, ho⟩ := parseF_some hf
        obtain ⟨rfl, hks, hos⟩ := parseL_some hg
        refine ⟨by rw [hc]; simp, by simp [hk, hks], ?_⟩
        intro g hg'
        rcases List.mem_cons.1 hg' with rfl | hg'
        · exact ho
        · exact hos g hg'
      · cases h
    · cases h
def parseLine (kind : Bytes) (ks : List Kd) (s : Bytes) : Option (List Fld) := if s.take kind.length = kind then parseL ks (s.drop kind.length) else none
theorem parseLine_iff {kind : Bytes} {ks : List Kd} {s : Bytes} {fs : List Fld} : parseLine kind ks s = some fs ↔ s = lineOf kind fs ∧ fs.map Fld.kd = ks ∧ ∀ f ∈ fs, f.ok := by
  unfold parseLine lineOf
  constructor
  · intro h
    split at h
    · rename_i hk
      obtain ⟨h1, h2, h3⟩ := parseL_some h
      refine ⟨?_, h2, h3⟩
      rw [← h1]
      conv => lhs; rw [← List.take_append_drop kind.length s, hk]
    · cases h
  · rintro ⟨rfl, rfl, h⟩
    rw [if_pos (by simp), List.drop_left]
    exact parseL_enc fs h

/-! ### Files -/
def endOf (n : Nat) : Bytes := [101, 110, 100, 32] ++ Lib.itoa n
def fileOf (kind : Bytes) (l : List (List Fld)) : Bytes := (l.flatMap fun x => lineOf kind x ++ [10]) ++ endOf l.length ++ [10]
/-- What a reader returns: the elements, or the number of a line. -/
inductive Rd | ok (l : List (List Fld)) | bad (n : Nat)
def readL (kind : Bytes) (ks : List Kd) : Nat → Bytes → List (List Fld) → Nat → Rd
  | 0, _, _, n => .bad n
  | f + 1, s, out, n => match Wr.cut1 10 s with
    | none => .bad n
    | some (this, rest) => if this = endOf out.length then (if rest = [] then .ok out else .bad (n + 1)) else match parseLine kind ks this with
      | some x => readL kind ks f rest (out ++ [x]) (n + 1)
      | none => .bad n
def readFile (kind : Bytes) (ks : List Kd) (s : Bytes) : Rd := readL kind ks (s.length + 1) s [] 1
end Go.Proofs.YtldjhjbodhhnbaaDoor.Li
