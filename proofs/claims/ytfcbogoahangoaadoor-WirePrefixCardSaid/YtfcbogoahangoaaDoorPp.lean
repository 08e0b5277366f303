/- The plain lemmas of WirePrefix and WireInverse: the serialization of a value by its kind. No condition. -/
import Derived.Test.YtfcbogoahangoaaDoorTr
import Derived.Test.YtfcbogoahangoaaDoorHm
namespace Go.Proofs.YtfcbogoahangoaaDoor
open Go.RowKit

theorem ck {wB w' : World} {b : Nat} {T : TypeId} {cs : Array Value} (h : wB.heap[b]? = some (.cells cs T (0, 0))) (k : Kp wB w' none) (i : Nat) {v : Value} (hv : cs[i]? = some v) : w'.cell? ⟨b, i, none⟩ = some v := by
  have h' := (k.block b (lt_of_block h) (by simp)).trans h
  simp [World.cell?, h', hv]

def serN (j : Nat) (n : Int) (s : List UInt8) (xs : List Int) (ts : List (List UInt8)) : List UInt8 :=
  match j with
  | 0 => Wr.wInt n
  | 1 => Wr.wText (s.take 100)
  | 2 => Wr.wInts xs
  | _ => Wr.wTexts (cutL ts)
theorem serN_get (j : Nat) (n : Int) (s : List UInt8) (xs : List Int) (ts : List (List UInt8)) (h : j < 4) :
    (#[.string ⟨(Wr.wInt n).toArray⟩, .string ⟨(Wr.wText (s.take 100)).toArray⟩, .string ⟨(Wr.wInts xs).toArray⟩, .string ⟨(Wr.wTexts (cutL ts)).toArray⟩] : Array Value)[j]? = some (.string ⟨(serN j n s xs ts).toArray⟩) := by
  match j, h with
  | 0, _ => rfl
  | 1, _ => rfl
  | 2, _ => rfl
  | 3, _ => rfl


open Classical in
theorem codec_same {α : Type} [DecidableEq α] {ok : α → Prop} {w : α → List UInt8} {p : List UInt8 → Option (α × List UInt8)} (h : Wr.Codec α ok w p) {x y : α} (hx : ok x) (hy : ok y) :
    (w x == w y) = decide (x = y) ∧ ((w x).take (min (w x).length (w y).length) == (w y).take (min (w x).length (w y).length)) = decide (x = y) := by
  by_cases e : x = y
  · subst e; simp
  · have h1 : w x ≠ w y := fun e' => e (h.inj (r := []) (t := []) hx hy (by simpa using e')).1
    have h2 : (w x).take (min (w x).length (w y).length) ≠ (w y).take (min (w x).length (w y).length) := fun e' => e (h.prefix_ hx hy e')
    exact ⟨(beq_eq_false_iff_ne.2 h1).trans (by simp [e]), (beq_eq_false_iff_ne.2 h2).trans (by simp [e])⟩

def sameN (j : Nat) (n n2 : Int) (s s2 : List UInt8) (xs xs2 : List Int) (ts ts2 : List (List UInt8)) : Bool :=
  match j with
  | 0 => decide (n = n2)
  | 1 => decide (s.take 100 = s2.take 100)
  | 2 => decide (xs = xs2)
  | _ => decide (cutL ts = cutL ts2)

theorem ser_same (j : Nat) {n : Int} {s : List UInt8} {a3 : Option Addr} {l3 c3 : Nat} {xs : List Int} {v4 : Value} {ts : List (List UInt8)} {n2 : Int} {s2 : List UInt8} {b3 : Option Addr} {m3 d3 : Nat} {xs2 : List Int} {u4 : Value} {ts2 : List (List UInt8)} {w : World} (ha : ValOf w n s a3 l3 c3 xs v4 ts) (hb : ValOf w n2 s2 b3 m3 d3 xs2 u4 ts2) :
    (serN j n s xs ts == serN j n2 s2 xs2 ts2) = sameN j n n2 s s2 xs xs2 ts ts2 ∧
    ((serN j n s xs ts).take (min (serN j n s xs ts).length (serN j n2 s2 xs2 ts2).length) == (serN j n2 s2 xs2 ts2).take (min (serN j n s xs ts).length (serN j n2 s2 xs2 ts2).length)) = sameN j n n2 s s2 xs xs2 ts ts2 := by
  have hI : ∀ (z : List (List UInt8)), ∀ x ∈ cutL z, Wr.I64 (x.length : Int) := fun z x hx => by have := cutL_mem z x hx; unfold Wr.I64; omega
  have hS : ∀ z : List UInt8, Wr.I64 ((z.take 100).length : Int) := fun z => by unfold Wr.I64; simp; omega
  match j with
  | 0 => exact codec_same Wr.int_codec ha.n hb.n
  | 1 => exact codec_same Wr.text_codec (hS s) (hS s2)
  | 2 => exact codec_same Wr.ints_codec ha.i hb.i
  | _ + 3 => exact codec_same Wr.texts_codec (hI ts) (hI ts2)

theorem kp_any {a b : World} {n m : Nat} (h : Kp a (b.drewN n) none) : Kp a (b.drewN m) none := ⟨h.os, h.tape, h.output, h.size, h.block⟩
theorem kp_any1 {a b : World} {m : Nat} (h : Kp a b.drew none) : Kp a (b.drewN m) none := ⟨h.os, h.tape, h.output, h.size, h.block⟩
theorem beq_dec {α : Type} [BEq α] [LawfulBEq α] [DecidableEq α] (a b : α) : (a == b) = decide (a = b) := by
  by_cases h : a = b <;> simp [h]
theorem ext_min2 (x : List UInt8) (a b : Nat) : (⟨x.toArray⟩ : ByteArray).extract 0 (min (a : Int) (b : Int)).toNat = ⟨(x.take (min a b)).toArray⟩ := by
  rw [show (min (a : Int) (b : Int)).toNat = min a b by omega]; exact ext_take x _
theorem same_str (a b : List UInt8) : Value.bool (a == b) = .bool (decide (a = b)) := by
  by_cases h : a = b <;> simp [h]
theorem serN_len (j : Nat) {n : Int} {s : List UInt8} {a3 : Option Addr} {l3 c3 : Nat} {xs : List Int} {v4 : Value} {ts : List (List UInt8)} {w : World} (hv : ValOf w n s a3 l3 c3 xs v4 ts) : (serN j n s xs ts).length < 1000000000 := by
  match j with
  | 0 => exact serOf_len (c := 0) (by omega) hv
  | 1 => exact serOf_len (c := 1) (by omega) hv
  | 2 => exact serOf_len (c := 2) (by omega) hv
  | _ + 3 => exact serOf_len (c := 3) (by omega) hv

end Go.Proofs.YtfcbogoahangoaaDoor
