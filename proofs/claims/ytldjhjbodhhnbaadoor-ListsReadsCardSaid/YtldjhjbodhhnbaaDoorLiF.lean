/- The plain law of the lists, fifth part: a line, read as the reference reads it, piece by piece. No program is in sight. -/
import Derived.Test.YtldjhjbodhhnbaaDoorLiR
import Derived.Test.YtldjhjbodhhnbaaDoorLiW
namespace Go.Proofs.YtldjhjbodhhnbaaDoor.Li
open Go Go.Proofs.YtldjhjbodhhnbaaDoor

def isdg (c : UInt8) : Bool := decide (48 ≤ c.toNat ∧ c.toNat ≤ 57)
def numEnd (S : Bytes) : Nat := sgn S + ((S.drop (sgn S)).takeWhile isdg).length
def numF (S : Bytes) : Option (Int × Bytes) := (Wr.parse (S.take (numEnd S))).map fun n => (n, S.drop (numEnd S))
theorem take_while_len (p : UInt8 → Bool) : ∀ l : Bytes, ∀ c, (l.drop (l.takeWhile p).length).head? = some c → p c = false
  | [], c, h => by simp at h
  | a :: l, c, h => by
    by_cases ha : p a = true
    · rw [List.takeWhile_cons_of_pos ha] at h
      exact take_while_len p l c (by simpa using h)
    · rw [List.takeWhile_cons_of_neg ha] at h
      simp at h
      subst h
      simpa using ha
theorem numF_iff {S : Bytes} {n : Int} {r : Bytes} : numF S = some (n, r) ↔ IsNum S n r := by
  constructor
  · intro h
    unfold numF at h
    simp only [Option.map_eq_some_iff, Prod.mk.injEq] at h
    obtain ⟨m, hm, rfl, rfl⟩ := h
    obtain ⟨he, hI⟩ := Wr.parse_some.1 hm
    refine ⟨by rw [← he, List.take_append_drop], hI, fun c hc hd => ?_⟩
    unfold numEnd at hc
    rw [← List.drop_drop] at hc
    have := take_while_len isdg _ c hc
    unfold isdg at this
    simp at this
    have := hd.1
    have := hd.2
    omega
  · intro h
    have hd : ∀ c ∈ Wr.mag (Lib.itoa n), isdg c = true := fun c hc => by have := (Wr.parse_spec h.par).1 c hc; unfold isdg; simpa using this
    have hS : S.drop (sgn S) = Wr.mag (Lib.itoa n) ++ r := by
      rw [← h.mag]
      unfold sgn Wr.mag
      split
      · cases S <;> rfl
      · rfl
    have ht : ((S.drop (sgn S)).takeWhile isdg) = Wr.mag (Lib.itoa n) := by
      rw [hS, List.takeWhile_append_of_pos hd]
      cases hr : r with
      | nil => simp
      | cons c t =>
        have := h.stop c (by rw [hr]; rfl)
        have hc : isdg c = false := by unfold isdg; simpa [dg] using this
        rw [List.takeWhile_cons_of_neg (by simp [hc]), List.append_nil]
    have hn : numEnd S = (Lib.itoa n).length := by
      unfold numEnd
      rw [ht]
      have := Wr.mag_length (Lib.itoa n)
      have := h.sgn
      omega
    unfold numF
    rw [hn]
    have h1 : S.take (Lib.itoa n).length = Lib.itoa n := by rw [h.eq, List.take_left]
    have h2 : S.drop (Lib.itoa n).length = r := by rw [h.eq, List.drop_left]
    rw [h1, h2, h.par]; rfl
theorem numF_itoa {n : Int} (h : Wr.I64 n) {r : Bytes} (hr : ∀ c, r.head? = some c → ¬ dg c) : numF (Lib.itoa n ++ r) = some (n, r) := numF_iff.2 ⟨rfl, h, hr⟩
theorem numF_blank {n : Int} (h : Wr.I64 n) (r : Bytes) : numF (Lib.itoa n ++ 32 :: r) = some (n, 32 :: r) := numF_itoa h fun c hc hd => by
  simp at hc; subst hc; have := hd.1; revert this; decide
theorem numF_lf {n : Int} (h : Wr.I64 n) (r : Bytes) : numF (Lib.itoa n ++ 10 :: r) = some (n, 10 :: r) := numF_itoa h fun c hc hd => by
  simp at hc; subst hc; have := hd.1; revert this; decide

def textF (t S : Bytes) : Option Bytes := if S.take t.length = t then some (S.drop t.length) else none
theorem textF_some {t S r : Bytes} : textF t S = some r ↔ S = t ++ r := by
  unfold textF
  constructor
  · intro h
    split at h
    · rename_i e
      injection h with h
      rw [← h]
      conv => lhs; rw [← List.take_append_drop t.length S, e]
    · cases h
  · intro h
    subst h
    rw [if_pos (by simp), List.drop_left]
def place : Bytes := [112, 108, 97, 99, 101]
def probe : Bytes := [112, 114, 111, 98, 101]
def rowK : List Kd := [.s, .s, .i, .i, .i, .b]
def probeK : List Kd := [.i, .s, .s, .i, .i, .i]
theorem place_kind : Kind place := ⟨by decide, ⟨_, rfl⟩⟩
theorem probe_kind : Kind probe := ⟨by decide, ⟨_, rfl⟩⟩
/-- The end of a line of a placement list. -/
def sideF (S : Bytes) : Option Bool := if S = 32 :: side true ++ [10] then some true else if S = 32 :: side false ++ [10] then some false else none
def rowF (S : Bytes) : Option (List Fld) :=
  (textF (place ++ [32]) S).bind fun S => (quoted S).bind fun (a, S) => (textF [32] S).bind fun S => (quoted S).bind fun (b, S) => (textF [32] S).bind fun S => (numF S).bind fun (x, S) => (textF [32] S).bind fun S => (numF S).bind fun (y, S) => (textF [32] S).bind fun S => (numF S).bind fun (t, S) => (sideF S).map fun u => [.s a, .s b, .i x, .i y, .i t, .b u]
def probeF (S : Bytes) : Option (List Fld) :=
  (textF (probe ++ [32]) S).bind fun S => (numF S).bind fun (c, S) => (textF [32] S).bind fun S => (quoted S).bind fun (a, S) => (textF [32] S).bind fun S => (quoted S).bind fun (b, S) => (textF [32] S).bind fun S => (numF S).bind fun (x, S) => (textF [32] S).bind fun S => (numF S).bind fun (y, S) => (textF [32] S).bind fun S => (numF S).bind fun (t, S) => if S = [10] then some [.i c, .s a, .s b, .i x, .i y, .i t] else none
theorem sideF_some {S : Bytes} {u : Bool} : sideF S = some u ↔ S = 32 :: side u ++ [10] := by
  unfold sideF
  constructor
  · intro h
    split at h
    · rename_i e; injection h with h; subst h; exact e
    · split at h
      · rename_i e; injection h with h; subst h; exact e
      · cases h
  · intro h
    subst h
    cases u
    · rw [if_neg (by decide), if_pos rfl]
    · rw [if_pos rfl]
theorem good_row {fs : List Fld} (h : Good rowK fs) : ∃ a b x y t u, fs = [.s a, .s b, .i x, .i y, .i t, .b u] ∧ Wr.I64 x ∧ Wr.I64 y ∧ Wr.I64 t := by
  obtain ⟨hk, ho⟩ := h
  match fs, hk with
  | [.s a, .s b, .i x, .i y, .i t, .b u], _ => exact ⟨a, b, x, y, t, u, rfl, ho (.i x) (by simp), ho (.i y) (by simp), ho (.i t) (by simp)⟩
theorem good_probe {fs : List Fld} (h : Good probeK fs) : ∃ c a b x y t, fs = [.i c, .s a, .s b, .i x, .i y, .i t] ∧ Wr.I64 c ∧ Wr.I64 x ∧ Wr.I64 y ∧ Wr.I64 t := by
  obtain ⟨hk, ho⟩ := h
  match fs, hk with
  | [.i c, .s a, .s b, .i x, .i y, .i t], _ => exact ⟨c, a, b, x, y, t, rfl, ho (.i c) (by simp), ho (.i x) (by simp), ho (.i y) (by simp), ho (.i t) (by simp)⟩
theorem row_line (a b : Bytes) (x y t : Int) (u : Bool) : lineOf place [.s a, .s b, .i x, .i y, .i t, .b u] ++ [10] = place ++ [32] ++ (word a ++ ([32] ++ (word b ++ ([32] ++ (Lib.itoa x ++ 32 :: (Lib.itoa y ++ 32 :: (Lib.itoa t ++ (32 :: side u ++ [10])))))))) := by
  simp [lineOf, encF]
theorem probe_line (c : Int) (a b : Bytes) (x y t : Int) : lineOf probe [.i c, .s a, .s b, .i x, .i y, .i t] ++ [10] = probe ++ [32] ++ (Lib.itoa c ++ 32 :: (word a ++ ([32] ++ (word b ++ ([32] ++ (Lib.itoa x ++ 32 :: (Lib.itoa y ++ 32 :: (Lib.itoa t ++ [10])))))))) := by
  simp [lineOf, encF]
theorem rowF_iff {S : Bytes} {fs : List Fld} : rowF S = some fs ↔ S = lineOf place fs ++ [10] ∧ Good rowK fs := by
  constructor
  · intro h
    unfold rowF at h
    simp only [Option.bind_eq_some_iff, Option.map_eq_some_iff, Prod.exists] at h
    obtain ⟨S1, h1, a, S2, h2, S3, h3, b, S4, h4, S5, h5, x, S6, h6, S7, h7, y, S8, h8, S9, h9, t, S10, h10, u, h11, rfl⟩ := h
    have e1 := textF_some.1 h1
    have e2 := quoted_iff.1 h2
    have e3 := textF_some.1 h3
    have e4 := quoted_iff.1 h4
    have e5 := textF_some.1 h5
    have e6 := numF_iff.1 h6
    have e7 := textF_some.1 h7
    have e8 := numF_iff.1 h8
    have e9 := textF_some.1 h9
    have e10 := numF_iff.1 h10
    have e11 := sideF_some.1 h11
    refine ⟨?_, rfl, ?_⟩
    · rw [row_line, e1, e2, e3, e4, e5, e6.eq, e7, e8.eq, e9, e10.eq, e11]; simp
    · intro f hf
      simp only [List.mem_cons, List.not_mem_nil, or_false] at hf
      rcases hf with rfl | rfl | rfl | rfl | rfl | rfl
      · trivial
      · trivial
      · exact e6.i
      · exact e8.i
      · exact e10.i
      · trivial
  · rintro ⟨rfl, hg⟩
    obtain ⟨a, b, x, y, t, u, rfl, hx, hy, ht⟩ := good_row hg
    rw [row_line]
    have e7 : ∀ r : Bytes, textF [32] (32 :: r) = some r := fun r => textF_some.2 rfl
    have e32 : ∀ r : Bytes, [32] ++ r = 32 :: r := fun r => rfl
    have hs : ∀ c, (32 :: side u ++ [10]).head? = some c → ¬ dg c := fun c hc hd => by simp at hc; subst hc; have := hd.1; revert this; decide
    unfold rowF
    simp only [textF_some.2 rfl, Option.bind_some, quoted_word, e32, e7, numF_blank hx, numF_blank hy, numF_itoa ht hs, sideF_some.2 rfl, Option.map_some]
theorem probeF_iff {S : Bytes} {fs : List Fld} : probeF S = some fs ↔ S = lineOf probe fs ++ [10] ∧ Good probeK fs := by
  constructor
  · intro h
    unfold probeF at h
    simp only [Option.bind_eq_some_iff, Prod.exists] at h
    obtain ⟨S1, h1, c, S2, h2, S3, h3, a, S4, h4, S5, h5, b, S6, h6, S7, h7, x, S8, h8, S9, h9, y, S10, h10, S11, h11, t, S12, h12, h13⟩ := h
    have e1 := textF_some.1 h1
    have e2 := numF_iff.1 h2
    have e3 := textF_some.1 h3
    have e4 := quoted_iff.1 h4
    have e5 := textF_some.1 h5
    have e6 := quoted_iff.1 h6
    have e7 := textF_some.1 h7
    have e8 := numF_iff.1 h8
    have e9 := textF_some.1 h9
    have e10 := numF_iff.1 h10
    have e11 := textF_some.1 h11
    have e12 := numF_iff.1 h12
    split at h13
    · rename_i e13
      injection h13 with h13
      subst h13
      refine ⟨?_, rfl, ?_⟩
      · rw [probe_line, e1, e2.eq, e3, e4, e5, e6, e7, e8.eq, e9, e10.eq, e11, e12.eq, e13]; simp
      · intro f hf
        simp only [List.mem_cons, List.not_mem_nil, or_false] at hf
        rcases hf with rfl | rfl | rfl | rfl | rfl | rfl
        · exact e2.i
        · trivial
        · trivial
        · exact e8.i
        · exact e10.i
        · exact e12.i
    · cases h13
  · rintro ⟨rfl, hg⟩
    obtain ⟨c, a, b, x, y, t, rfl, hc, hx, hy, ht⟩ := good_probe hg
    rw [probe_line]
    have e7 : ∀ r : Bytes, textF [32] (32 :: r) = some r := fun r => textF_some.2 rfl
    have e32 : ∀ r : Bytes, [32] ++ r = 32 :: r := fun r => rfl
    unfold probeF
    simp only [textF_some.2 rfl, Option.bind_some, quoted_word, e32, e7, numF_blank hc, numF_blank hx, numF_blank hy, numF_lf ht, if_true]
/-- A line as the reference has it, with its line feed, against the line without it. -/
theorem rowF_parse (this : Bytes) : rowF (this ++ [10]) = parseLine place rowK this := by
  cases h : parseLine place rowK this with
  | some fs => obtain ⟨h1, h2, h3⟩ := parseLine_iff.1 h; exact rowF_iff.2 ⟨by rw [h1], h2, h3⟩
  | none =>
    cases k : rowF (this ++ [10]) with
    | none => rfl
    | some fs => obtain ⟨h1, h2, h3⟩ := rowF_iff.1 k; rw [parseLine_iff.2 ⟨List.append_cancel_right h1, h2, h3⟩] at h; cases h
theorem probeF_parse (this : Bytes) : probeF (this ++ [10]) = parseLine probe probeK this := by
  cases h : parseLine probe probeK this with
  | some fs => obtain ⟨h1, h2, h3⟩ := parseLine_iff.1 h; exact probeF_iff.2 ⟨by rw [h1], h2, h3⟩
  | none =>
    cases k : probeF (this ++ [10]) with
    | none => rfl
    | some fs => obtain ⟨h1, h2, h3⟩ := probeF_iff.1 k; rw [parseLine_iff.2 ⟨List.append_cancel_right h1, h2, h3⟩] at h; cases h
theorem rowF_lf {S : Bytes} {fs : List Fld} (h : rowF S = some fs) : ∃ t, S = t ++ [10] := ⟨_, (rowF_iff.1 h).1⟩
theorem probeF_lf {S : Bytes} {fs : List Fld} (h : probeF S = some fs) : ∃ t, S = t ++ [10] := ⟨_, (probeF_iff.1 h).1⟩
end Go.Proofs.YtldjhjbodhhnbaaDoor.Li
