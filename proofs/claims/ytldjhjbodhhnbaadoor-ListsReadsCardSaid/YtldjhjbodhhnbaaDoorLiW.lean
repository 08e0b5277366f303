/- The plain law of the lists, fourth part: the word with which a text begins, read byte by byte. No program is in sight. -/
import Derived.Test.YtldjhjbodhhnbaaDoorLiQ
namespace Go.Proofs.YtldjhjbodhhnbaaDoor.Li
open Go Go.Proofs.YtldjhjbodhhnbaaDoor

def digitOf (c : UInt8) : Nat := (hexv c).getD 0
/-- The byte that stands, or is written, at the head. -/
def oneOf : Bytes → Option UInt8
  | [] => none
  | c :: t => if c = 92 then match t with
      | a :: b :: _ => some (UInt8.ofNat (16 * digitOf a + digitOf b))
      | _ => none
    else some c
theorem one_enc (c : UInt8) (u : Bytes) : oneOf (enc c ++ u) = some c := by
  unfold enc
  split
  · show oneOf (92 :: hexd (c.toNat / 16) :: hexd (c.toNat % 16) :: u) = _
    simp only [oneOf, if_true, digitOf, hexv_hexd (div16 c), hexv_hexd (mod16 c), Option.getD_some, join16]
  · rename_i h
    have : c ≠ 92 := fun e => h (by subst e; rfl)
    simp [oneOf, this]
theorem enc_head (c : UInt8) (u v : Bytes) : enc c ++ u ≠ 34 :: v := fun e => by
  unfold enc at e
  split at e
  · simp at e
  · rename_i h
    simp at e
    exact h (by rw [e.1]; rfl)
theorem enc_ne (c : UInt8) : enc c ≠ [] := by unfold enc; split <;> simp
theorem enc_inj {c d : UInt8} {u v : Bytes} (e : enc c ++ u = enc d ++ v) : c = d ∧ u = v := by
  have h := one_enc c u
  rw [e, one_enc] at h
  injection h with h
  subst h
  exact ⟨rfl, List.append_cancel_left e⟩
theorem flat_inj : ∀ {s d : Bytes} {t r : Bytes}, s.flatMap enc ++ t = d.flatMap enc ++ 34 :: r → ∃ d', d = s ++ d' ∧ t = d'.flatMap enc ++ 34 :: r
  | [], d, t, r, e => ⟨d, rfl, by simpa using e⟩
  | c :: s, [], t, r, e => by
    rw [List.flatMap_cons, List.append_assoc] at e
    exact absurd e (by simpa using enc_head c _ r)
  | c :: s, x :: d, t, r, e => by
    rw [List.flatMap_cons, List.flatMap_cons, List.append_assoc, List.append_assoc] at e
    obtain ⟨rfl, e2⟩ := enc_inj e
    obtain ⟨d', rfl, h⟩ := flat_inj (s := s) (d := d) e2
    exact ⟨d', rfl, h⟩
/-- What has been read of a word, and what is left. -/
def Part (S s T : Bytes) : Prop := S = 34 :: (s.flatMap enc ++ T)
theorem Part.next {S s T : Bytes} (h : Part S s T) {d r : Bytes} (e : S = word d ++ r) : T.head? = some 34 ∨ ∃ c u, T = enc c ++ u := by
  rw [h] at e
  have e' : s.flatMap enc ++ T = d.flatMap enc ++ 34 :: r := by simpa [word] using e
  obtain ⟨d', rfl, rfl⟩ := flat_inj e'
  cases d' with
  | nil => exact .inl rfl
  | cons c d' => exact .inr ⟨c, _, by rw [List.flatMap_cons, List.append_assoc]⟩
theorem Part.step {S s T u : Bytes} {c : UInt8} (h : Part S s T) (e : T = enc c ++ u) : Part S (s ++ [c]) u := by
  unfold Part at *
  rw [h, e]; simp
theorem Part.done {S s T r : Bytes} (h : Part S s T) (e : T = 34 :: r) : S = word s ++ r := by
  rw [h, e]; simp [word]
theorem Part.start {S T : Bytes} (e : S = 34 :: T) : Part S [] T := by unfold Part; simpa using e
/-- The word cannot be had: what stands here is none. -/
theorem Part.no {S s T : Bytes} (h : Part S s T) (h1 : T.head? ≠ some 34) (h2 : ∀ c, oneOf T = some c → T.take (enc c).length ≠ enc c) : ∀ d r, S ≠ word d ++ r := fun d r e => by
  rcases h.next e with k | ⟨c, u, rfl⟩
  · exact h1 k
  · exact h2 c (one_enc c u) (by simp)
theorem word_head (d r : Bytes) : (word d ++ r).head? = some 34 := rfl
theorem word_one (c : UInt8) : word [c] = 34 :: enc c ++ [34] := by simp [word]
end Go.Proofs.YtldjhjbodhhnbaaDoor.Li
