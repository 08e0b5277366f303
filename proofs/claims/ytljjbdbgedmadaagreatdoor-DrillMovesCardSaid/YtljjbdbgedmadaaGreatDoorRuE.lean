/- The plain law of the rules, fifth part: the chapter's examples, and lines that are none. No program is in sight; no condition.
  The plain law of the rules, seventh part: the texts of RuleBrackets. No program is in sight; no condition.
  The plain law of the reference's names and numbers: what it decides is what the program decides. No program is in sight; no condition. -/
import Derived.Test.YtljjbdbgedmadaaGreatDoorRuA
import Derived.Lib.Hide

namespace Go.Proofs.YtljjbdbgedmadaaGreatDoor.Ru
open Go Go.Proofs.YtljjbdbgedmadaaGreatDoor
open Go.RowKit

def kindC (n : Int) : Cond := .mk 4 [] n .none []
def clsP : Cond := .mk 3 [112] 0 .none []
def a3 : Cond := .mk 10 [] 0 .none [kindC 1, .mk 9 [] 0 .none [kindC 2, clsP]]
def a4 : Cond := .mk 9 [] 0 .none [.mk 10 [] 0 .none [kindC 1, kindC 2], clsP]
def s1 : Bytes := [114, 117, 108, 101, 32, 99, 49, 32, 49, 32, 99, 108, 101, 97, 114, 32, 49, 48, 32, 119, 104, 101, 110, 32, 97, 110, 121, 32, 116, 111, 32, 97, 110, 121]
def s2 : Bytes := [114, 117, 108, 101, 32, 101, 32, 48, 32, 101, 100, 103, 101, 32, 53, 32, 119, 104, 101, 110, 32, 40, 32, 97, 110, 121, 32, 41]
def s3 : Bytes := [114, 117, 108, 101, 32, 119, 32, 50, 32, 119, 105, 100, 116, 104, 32, 56, 32, 119, 104, 101, 110, 32, 110, 101, 116, 32, 71, 78, 68, 32, 97, 110, 100, 32, 110, 111, 116, 32, 108, 97, 121, 101, 114, 32, 50]
def s4 : Bytes := [114, 117, 108, 101, 32, 101, 32, 48, 32, 101, 100, 103, 101, 32, 53, 32, 119, 104, 101, 110, 32, 107, 105, 110, 100, 32, 49, 32, 111, 114, 32, 107, 105, 110, 100, 32, 50, 32, 97, 110, 100, 32, 99, 108, 97, 115, 115, 32, 112]
def s5 : Bytes := [114, 117, 108, 101, 32, 101, 32, 48, 32, 101, 100, 103, 101, 32, 53, 32, 119, 104, 101, 110, 32, 40, 32, 107, 105, 110, 100, 32, 49, 32, 111, 114, 32, 107, 105, 110, 100, 32, 50, 32, 41, 32, 97, 110, 100, 32, 99, 108, 97, 115, 115, 32, 112]
def s6 : Bytes := [114, 117, 108, 101, 32, 101, 32, 48, 32, 101, 100, 103, 101, 32, 53, 32, 119, 104, 101, 110, 32, 97, 110, 121, 32, 116, 111, 32, 97, 110, 121]
def z0 : Bytes := [114, 117, 108, 101]
def z1 : Bytes := []
def z2 : Bytes := [114, 117, 108, 101, 32, 97, 32, 49, 32, 99, 108, 101, 97, 114, 32, 53, 32, 119, 104, 101, 110, 32, 97, 110, 121]
def z3 : Bytes := [114, 117, 108, 101, 115, 32, 97, 32, 49, 32, 101, 100, 103, 101, 32, 53, 32, 119, 104, 101, 110, 32, 97, 110, 121]
end Go.Proofs.YtljjbdbgedmadaaGreatDoor.Ru

namespace Go.Proofs.YtljjbdbgedmadaaGreatDoor.Ru
open Go Go.Proofs.YtljjbdbgedmadaaGreatDoor
open Go.RowKit

def tx (c : Cond) : Bytes := joinB 32 (write 0 c)
/-! ### Rules that are made -/
end Go.Proofs.YtljjbdbgedmadaaGreatDoor.Ru

namespace Go.Proofs.YtljjbdbgedmadaaGreatDoor.Ru
open Go Go.Proofs.YtljjbdbgedmadaaGreatDoor

/-! ### Numbers -/
theorem dec_len : ∀ (k u : Nat), u < 10 ^ (k + 1) → (Lib.decDigits u).length ≤ k + 1
 | 0, u, h => by rw [Wr.dec_small (by simpa using h)]; simp
 | k + 1, u, h => by
  by_cases h1 : u < 10
  ·rw [Wr.dec_small h1]; simp
  ·rw [Wr.dec_big h1, List.length_append]
   have := dec_len k (u / 10) (by rw [Nat.pow_succ] at h; omega)
   simp; omega
theorem dv_lt {l : Bytes} (h : ∀ c ∈ l, 48 ≤ c.toNat ∧ c.toNat ≤ 57) : ∀ j, j ≤ l.length → Wr.dv (l.take j) < 10 ^ j
 | 0, _ => by simp [Wr.dv]
 | j + 1, hj => by
  have ih := dv_lt h j (by omega)
  rw [Wr.dv_step l j (by omega)]
  have := h l[j] (List.getElem_mem _)
  rw [Nat.pow_succ]; omega
theorem dv_all {l : Bytes} (h : ∀ c ∈ l, 48 ≤ c.toNat ∧ c.toNat ≤ 57) : Wr.dv l < 10 ^ l.length := by
 have := dv_lt h l.length (Nat.le_refl _)
 rwa [List.take_length] at this
def digits (s : Bytes) : Prop := ∀ c ∈ s, 48 ≤ c.toNat ∧ c.toNat ≤ 57
instance (s : Bytes) : Decidable (digits s) := by unfold digits; infer_instance
/-! ### Indices -/
end Go.Proofs.YtljjbdbgedmadaaGreatDoor.Ru
