/- The reference's reader in memory: its block (type 181, 15 cells), the tools, the edges and the holes that it owns. No condition.
  The reference's reader: a tool looked for (find). Condition: at most 10^6 tools. -/
import Derived.Test.YtljjbdbgedmadaaGreatDoorQa
set_option maxHeartbeats 8000000
set_option maxRecDepth 100000
namespace Go.Proofs.YtljjbdbgedmadaaGreatDoor
open Go.RowKit Go.Lib
def toC (p : Int × Int) : List Value := [I6 p.1, I6 p.2]
structure RfRest (W : World) (R : Nat) (tools : List (Int × Int)) (es : List Pl.Ed) (ts : List HT) (tv eu ov : Value) (w : World) : Prop where
 hR : W.heap.size ≤ R
 rb : ∃ cs, w.heap[R]? = some (.cells cs 181 (0, 0))
 tl : w.ownsRow W.heap.size 254 2 tv tools.length (tools.flatMap toC)
 eo : w.ownsRow W.heap.size 123 7 eu es.length (es.flatMap edC)
 oo : w.ownsRow W.heap.size 52 6 ov ts.length (ts.flatMap htC)
 he : ∀ t ∈ ts, HoleE W w t
 dis : ∀ t ∈ ts, eBlock t = none ∨ eBlock t ≠ eu.ownBlock
 kp : Kp W w none
variable {W : World} {R : Nat} {tools tools' : List (Int × Int)} {es es' : List Pl.Ed} {ts : List HT} {tv eu ov v : Value} {w w' : World}
theorem RfRest.keep (h : RfRest W R tools es ts tv eu ov w) (k : Kp w w' none) : RfRest W R tools es ts tv eu ov w' where
 hR := h.hR
 rb := by obtain ⟨cs, hb⟩ := h.rb; exact ⟨cs, blk hb k⟩
 tl := own_kp h.tl k
 eo := own_kp h.eo k
 oo := own_kp h.oo k
 he t ht := own_kp (h.he t ht) k
 dis := h.dis
 kp := h.kp.trans k
theorem RfRest.set (h : RfRest W R tools es ts tv eu ov w) (k : Kp w w' (some R)) {cs : Array Value} (hb : w'.heap[R]? = some (.cells cs 181 (0, 0))) : RfRest W R tools es ts tv eu ov w' where
 hR := h.hR
 rb := ⟨cs, hb⟩
 tl := by obtain ⟨_, hc⟩ := h.rb; exact own_r h.tl k (own_not h.tl hc (by decide))
 eo := by obtain ⟨_, hc⟩ := h.rb; exact own_r h.eo k (own_not h.eo hc (by decide))
 oo := by obtain ⟨_, hc⟩ := h.rb; exact own_r h.oo k (own_not h.oo hc (by decide))
 he t ht := by obtain ⟨_, hc⟩ := h.rb; exact own_r (h.he t ht) k (own_not (h.he t ht) hc (by decide))
 dis := h.dis
 kp := h.kp.of_own k h.hR
theorem RfRest.tool (h : RfRest W R tools es ts tv eu ov w) (k : Kp w w' tv.ownBlock) (ho : w'.ownsRow W.heap.size 254 2 v tools'.length (tools'.flatMap toC)) : RfRest W R tools' es ts v eu ov w' where
 hR := h.hR
 rb := by obtain ⟨cs, hb⟩ := h.rb; exact ⟨cs, res_kept hb k (fun q hq e => own_not h.tl hb (by decide) (by rw [hq, e]))⟩
 tl := ho
 eo := ol_row h.eo k (own_apart h.eo h.tl (by decide))
 oo := ol_row h.oo k (own_apart h.oo h.tl (by decide))
 he t ht := ol_row (h.he t ht) k (own_apart (h.he t ht) h.tl (by decide))
 dis := h.dis
 kp := Kp.row h.kp k (fun q hq => (h.tl.lt q hq).1)
theorem RfRest.edges (h : RfRest W R tools es ts tv eu ov w) (k : Kp w w' eu.ownBlock) (ho : w'.ownsRow W.heap.size 123 7 v es'.length (es'.flatMap edC)) (hl : v.ownBlock = eu.ownBlock ∨ v.ownBlock = some w.heap.size) : RfRest W R tools es' ts tv v ov w' where
 hR := h.hR
 rb := by obtain ⟨cs, hb⟩ := h.rb; exact ⟨cs, res_kept hb k (fun q hq e => own_not h.eo hb (by decide) (by rw [hq, e]))⟩
 tl := ol_row h.tl k (own_apart h.tl h.eo (by decide))
 eo := ho
 oo := ol_row h.oo k (own_apart h.oo h.eo (by decide))
 he t ht := ol_row (h.he t ht) k (h.dis t ht)
 dis t ht := by
  rcases hl with hl | hl
  ·rw [hl]; exact h.dis t ht
  ·cases hb : eBlock t with
   | none => exact .inl rfl
   | some g => exact .inr (by rw [hl]; intro e; injection e with e; have := ((h.he t ht).lt g hb).2; omega)
 kp := Kp.row h.kp k (fun q hq => (h.eo.lt q hq).1)
theorem RfRest.hole (h : RfRest W R tools es ts tv eu ov w) (k : Kp w w' ov.ownBlock) {t : HT} (ht : HoleE W w t) (hd : eBlock t = none ∨ eBlock t ≠ eu.ownBlock) (ho : w'.ownsRow W.heap.size 52 6 v (ts ++ [t]).length ((ts ++ [t]).flatMap htC)) : RfRest W R tools es (ts ++ [t]) tv eu v w' where
 hR := h.hR
 rb := by obtain ⟨cs, hb⟩ := h.rb; exact ⟨cs, res_kept hb k (fun q hq e => own_not h.oo hb (by decide) (by rw [hq, e]))⟩
 tl := ol_row h.tl k (own_apart h.tl h.oo (by decide))
 eo := ol_row h.eo k (own_apart h.eo h.oo (by decide))
 oo := ho
 he x hx := by
  rcases List.mem_append.1 hx with hx | hx
  ·exact ol_row (h.he x hx) k (own_apart (h.he x hx) h.oo (by decide))
  ·rw [List.mem_singleton.1 hx]; exact ol_row ht k (own_apart ht h.oo (by decide))
 dis x hx := by
  rcases List.mem_append.1 hx with hx | hx
  ·exact h.dis x hx
  ·rw [List.mem_singleton.1 hx]; exact hd
 kp := Kp.row h.kp k (fun q hq => (h.oo.lt q hq).1)
theorem RfRest.drop (h : RfRest W R tools es ts tv eu ov w) : RfRest W R tools [] ts tv (.slice none 0 0) ov w where
 hR := h.hR
 rb := h.rb
 tl := h.tl
 eo := ⟨by rfl, .inl ⟨rfl, rfl⟩⟩
 oo := h.oo
 he := h.he
 dis t _ := by
  cases hb : eBlock t with
  | none => exact .inl rfl
  | some g => exact .inr (by simp [Value.ownBlock])
 kp := h.kp
def slotOf (ph : Nat) : Int := if ph = 4 then 1 else if ph = 5 then 2 else 0
def RFC (st : Dl.St) (tv eu ov : Value) : Array Value := #[.bool (decide (3 ≤ st.ph)), tv, I6 st.sel, I6 0, .slice none 0 0, I6 0, I6 st.f, I6 st.t, .bool st.pl, I6 (slotOf st.ph), I6 st.at_.x, I6 st.at_.y, eu, ov, .bool (decide (st.ph = 6))]
def RfAt (W : World) (R : Nat) (st : Dl.St) (w : World) : Prop := ∃ (tv eu ov : Value) (ts : List HT), ts.map (·.h) = st.out ∧ w.heap[R]? = some (.cells (RFC st tv eu ov) 181 (0, 0)) ∧ RfRest W R st.tools st.es ts tv eu ov w
theorem RfAt.keep {st : Dl.St} (h : RfAt W R st w) (k : Kp w w' none) : RfAt W R st w' := by
 obtain ⟨tv, eu, ov, ts, h1, h2, h3⟩ := h
 exact ⟨tv, eu, ov, ts, h1, blk h2 k, h3.keep k⟩
theorem RfAt.kp {st : Dl.St} (h : RfAt W R st w) : Kp W w none := by
 obtain ⟨tv, eu, ov, ts, h1, h2, h3⟩ := h; exact h3.kp
def RfIs (W : World) (R : Nat) (x : Dl.St ⊕ Int) (E : Ending) (w' : World) : Prop := match x with
 | .inl u => E = .returned (I6 0) ∧ RfAt W R u w'
 | .inr e => E = .returned (I6 e) ∧ Kp W w' none
theorem rready_any (W : World) (R : Nat) (st : Dl.St) (w : World) (h : RfAt W R st w) (hok : 0 ≤ st.sel ∧ 0 ≤ st.f) : Calls Tryz.prog 142 #[.pointer (some ⟨R, 0, none⟩)] w fun E w' => E = .returned (I6 (Dl.ready st)) ∧ w = w' := by
 obtain ⟨ph, tools, sel, f, t, pl, at_, es, out⟩ := st
 dsimp only at hok
 obtain ⟨tv, eu, ov, ts, hts, hb, hr⟩ := h
 have c2 : w.cell? ⟨R, 2, none⟩ = some (I6 sel) := hcell hb 2 rfl
 have c6 : w.cell? ⟨R, 6, none⟩ = some (I6 f) := hcell hb 6 rfl
 clear hb hr hts
 by_cases h1 : sel = 0
 ·have HST : Hid (Dl.ready ⟨ph, tools, sel, f, t, pl, at_, es, out⟩ = 70) := oh (by unfold Dl.ready; simp only; rw [if_pos (by omega)])
  have e1 : (sel == 0) = true := by simpa using h1
  clear h1 hok; go_enter Tryz.func142, Tryz.ntmps142
  go_wp2_with fail
  go_ret
  exact ⟨by rw [HST.out]; rfl, rfl⟩
 ·have e1 : (sel == 0) = false := by simpa using h1
  by_cases h2 : f = 0
  ·have HST : Hid (Dl.ready ⟨ph, tools, sel, f, t, pl, at_, es, out⟩ = 72) := oh (by unfold Dl.ready; simp only; rw [if_neg (by omega), if_pos (by omega)])
   have e2 : (f == 0) = true := by simpa using h2
   clear h1 h2 hok; go_enter Tryz.func142, Tryz.ntmps142
   go_wp2_with fail
   go_ret
   exact ⟨by rw [HST.out]; rfl, rfl⟩
  ·have HST : Hid (Dl.ready ⟨ph, tools, sel, f, t, pl, at_, es, out⟩ = 0) := oh (by unfold Dl.ready; simp only; rw [if_neg (by omega), if_neg (by omega)])
   have e2 : (f == 0) = false := by simpa using h2
   clear h1 h2 hok; go_enter Tryz.func142, Tryz.ntmps142
   go_wp2_with fail
   go_ret
   exact ⟨by rw [HST.out]; rfl, rfl⟩
theorem find_cons (x : Int × Int) (l : List (Int × Int)) (n : Int) : Dl.find (x :: l) n = if x.1 = n then some x.2 else Dl.find l n := by
 unfold Dl.find; rw [List.find?_cons]
 by_cases h : x.1 = n
 ·simp [h]
 ·have : (x.1 == n) = false := by simpa using h
  rw [this, if_neg h]
theorem tool_cells {w : World} {base : Nat} {ao : Option Addr} {m cap : Nat} {tools : List (Int × Int)} (h : w.ownsRow base 254 2 (.slice ao m cap) tools.length (tools.flatMap toC)) {k : Nat} (hk : k < tools.length) : ∃ b off, ao = some ⟨b, off, none⟩ ∧ tools.length ≤ cap ∧ w.cell? ⟨b, off + k * 2, none⟩ = some (I6 tools[k].1) ∧ w.cell? ⟨b, off + k * 2 + 1, none⟩ = some (I6 tools[k].2) := by
 obtain ⟨b, off, e, hb, hc, hr⟩ := (own_lies (f := toC) (fun _ => rfl) h).2 k hk
 exact ⟨b, off, e, hc, hr 0 (by simp [toC]), hr 1 (by simp [toC])⟩
def FdRel (tools : List (Int × Int)) (n : Int) (m : Nat) (w : World) (iv : Value) (wr : World) : Prop := ∃ k : Nat, k ≤ m ∧ iv = I6 (k : Int) ∧ Dl.find tools n = Dl.find (tools.drop k) n ∧ wr = w
theorem rfind_any (W : World) (R : Nat) (st : Dl.St) (n : Int) (w : World) (h : RfAt W R st w) (hl : st.tools.length ≤ 1000000) : Calls Tryz.prog 141 #[.pointer (some ⟨R, 0, none⟩), I6 n] w fun E w' => E = .returned (I6 ((Dl.find st.tools n).getD 0)) ∧ w = w' := by
 obtain ⟨ph, tools, sel, f, t, pl, at_, es, out⟩ := st
 dsimp only at hl
 obtain ⟨tv, eu, ov, ts, hts, hb, hr⟩ := h
 dsimp only at hb hr
 obtain ⟨m, hm⟩ : ∃ m, tools.length = m := ⟨_, rfl⟩
 have ht := hr.tl
 rw [hm] at hl; obtain ⟨ao, cap, rfl⟩ := own_slice (hm ▸ ht)
 have HT := oh ht; have HM := oh hm; have c1 : w.cell? ⟨R, 1, none⟩ = some (.slice ao m cap) := hcell hb 1 rfl
 obtain ⟨x, hx⟩ : ∃ x, (Dl.find tools n).getD 0 = x := ⟨_, rfl⟩
 have HX := oh hx; dsimp only; rw [hx]; have hm0 := nn m; clear hts hb hr ht hm hx; go_enter Tryz.func141, Tryz.ntmps141
 go_wp2_with fail
 go_loopw [5] (fun iv wr => FdRel tools n m w iv wr) (fun iv _ => m - (intOf iv).toNat)
 case atStart => exact ⟨0, Nat.zero_le _, rfl, rfl, rfl⟩
 case round =>
  obtain ⟨k, hk, rfl, hf, rfl⟩ := hrel; have HF := oh hf
  have hk0 := nn k; clear hf
  by_cases hlt : k < m
  ·have hk1 : (k : Int) < (m : Int) := by omega
   have hlt2 : k < tools.length := by rw [HM.out]; exact hlt
   obtain ⟨b, off, rfl, hcap, d0, d1⟩ := tool_cells HT.out hlt2
   have hcm : m ≤ cap := by rw [← HM.out]; exact hcap
   have HD : Hid (Dl.find (tools.drop k) n = if tools[k].1 = n then some tools[k].2 else Dl.find (tools.drop (k + 1)) n) := oh (by rw [List.drop_eq_getElem_cons hlt2, find_cons])
   obtain ⟨⟨a, c⟩, hac⟩ : ∃ p, tools[k] = p := ⟨_, rfl⟩
   rw [hac] at d0 d1 HD; dsimp only at d0 d1 HD
   clear hac hcap
   by_cases he : a = n
   ·have HR : Hid (x = c) := oh (by rw [← HX.out, HF.out, HD.out, if_pos he]; rfl)
    have e1 : (a == n) = true := by simpa using he
    subst he; go_wp2_with fail
    go_ret
    exact ⟨by rw [HR.out]; rfl, rfl⟩
   ·have HR : Hid (Dl.find tools n = Dl.find (tools.drop (k + 1)) n) := oh (by rw [HF.out, HD.out, if_neg he])
    have e1 : (a == n) = false := by simpa using he
    clear he; go_wp2_with fail
    try rw [wrap_mid (n := (k : Int) + 1) (by omega) (by omega)]
    have HREL : Hid (FdRel tools n m wr (I6 ((k : Int) + 1)) wr) := oh ⟨k + 1, hlt, by push_cast; rfl, HR.out, rfl⟩
    have HME : m - (intOf (I6 ((k : Int) + 1))).toNat < m - (intOf (I6 (k : Int))).toNat := by simp [intOf]; omega
    first | exact ⟨HREL.out, HME⟩ | (go_roundw; all_goals first | exact HREL.out | exact HME)
  ·have hkm : k = m := by omega
   subst hkm; have HR : Hid (x = 0) := oh (by rw [← HX.out, HF.out, ← HM.out, List.drop_length]; rfl)
   go_wp2_with fail
   go_ret
   exact ⟨by rw [HR.out]; rfl, rfl⟩
end Go.Proofs.YtljjbdbgedmadaaGreatDoor
