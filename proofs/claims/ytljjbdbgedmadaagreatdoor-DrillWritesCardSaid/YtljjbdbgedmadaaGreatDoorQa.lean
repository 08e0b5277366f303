/- The reader's state in memory: its block, its map of tools, the edges and the holes that it owns. No condition.
  The reader's states that ask for one word (first, second, opened), the one behind the end (behind), and what a hole needs (ready). No condition.
  A hole put in (put). Conditions: at most 10^6 holes; a diameter within its bounds. -/
import Derived.Test.YtljjbdbgedmadaaGreatDoorEz
import Derived.Test.YtljjbdbgedmadaaGreatDoorSc
import Derived.Test.YtljjbdbgedmadaaGreatDoorSo
import Derived.Maps.OwnOps
import Derived.Maps.OwnSet
import Derived.Carry
import Derived.Test.YtljjbdbgedmadaaGreatDoorBase
set_option maxRecDepth 100000
set_option maxHeartbeats 8000000
namespace Go.Proofs.YtljjbdbgedmadaaGreatDoor
open Go.RowKit Go.Lib Go.Maps
theorem law3 : Keyed Tryz.prog 3 := int_keyed Tryz.underlying3
abbrev MapAt (w : World) (m n : Nat) (D : DataW Unit) : Prop := w.ownsMap Tryz.prog 3 (plainElem (H := Unit) Tryz.prog 3) m n D
theorem MapAt.keep {w w' : World} {m n : Nat} {D : DataW Unit} (h : MapAt w m n D) (e : w'.heap[m]? = w.heap[m]?) : MapAt w' m n D := by
 obtain ⟨es, clock, hb, hr⟩ := h
 exact ⟨es, clock, e.trans hb, hr⟩
theorem MapAt.tidy {w : World} {m n : Nat} {D : DataW Unit} (h : MapAt w m n D) : Tidy D := World.ownsMap.tidy h law3
theorem wf64 {n : Int} (h1 : -9223372036854775808 ≤ n) (h2 : n ≤ 9223372036854775807) : (Lit.int .i64 n).wf = true := by
 have h3 : IntKind.i64.min = -9223372036854775808 := rfl
 have h4 : IntKind.i64.max = 9223372036854775807 := rfl
 simp only [Lit.wf, Bool.and_eq_true, decide_eq_true_eq]
 omega
theorem zero3 (w : World) : (zeroValue 3).run Tryz.prog w = .ok (.int .i64 0) w := by kernel_rfl
theorem keyLit (x : Int) : WideAt.IsKeyLit (.int .i64 x) := by simp [WideAt.IsKeyLit]
def ToolsIs (D : DataW Unit) (ts : List (Int × Int)) : Prop := ∀ n, has D (.int .i64 n) = (Dl.find ts n).isSome ∧ ∀ d, Dl.find ts n = some d → D.atKey (.int .i64 n) (.lit (.int .i64 0)) = .lit (.int .i64 d)
theorem tools_nil : ToolsIs (.map []) [] := fun n => ⟨by simp [has_eq, Dl.find], fun d h => by simp [Dl.find] at h⟩
theorem find_app {ts : List (Int × Int)} {n d x : Int} (h : Dl.find ts n = none) : Dl.find (ts ++ [(n, d)]) x = if x = n then some d else Dl.find ts x := by
 unfold Dl.find at *
 rw [List.find?_append, Option.map_or]
 by_cases hx : x = n
 ·subst hx; rw [if_pos rfl, h]; simp
 ·rw [if_neg hx]; have : ¬ n = x := fun e => hx e.symm
  simp [this]
theorem ToolsIs.put {D : DataW Unit} {ts : List (Int × Int)} (h : ToolsIs D ts) (ht : Tidy D) {n d : Int} (hn : Dl.find ts n = none) : ToolsIs (D.put (.int .i64 n) (.lit (.int .i64 d))) (ts ++ [(n, d)]) := fun x => by
 rw [find_app hn]
 by_cases hx : x = n
 ·subst hx; rw [has_put_same ht.isMap (keyLit _), if_pos rfl]; refine ⟨rfl, fun d' hd => ?_⟩
  injection hd with hd; subst hd; rw [atKey_put_same ht.isMap (keyLit _)]
 ·have hne : (Lit.int .i64 x) ≠ (Lit.int .i64 n) := by intro e; injection e with _ e; exact hx e
  rw [has_put_other hne, if_neg hx, atKey_put_other hne]; exact h x
def tv (D : DataW Unit) (n : Int) : Int := match D.atKey (.int .i64 n) (.lit (.int .i64 0)) with
 | .lit (.int _ c) => c
 | _ => 0
theorem tv_some {D : DataW Unit} {ts : List (Int × Int)} (h : ToolsIs D ts) {n d : Int} (hf : Dl.find ts n = some d) : tv D n = d := by
 unfold tv; rw [(h n).2 d hf]
theorem MapAt.look {w : World} {m nn : Nat} {D : DataW Unit} (h : MapAt w m nn D) {ts : List (Int × Int)} (ht : ToolsIs D ts) {n : Int} (hn : (Lit.int .i64 n).wf = true) :
  (Instr.lookup 114 (.map (some m)) (.int .i64 n) true).run Tryz.prog w = .ok (.tuple #[.int .i64 (tv D n), .bool (Dl.find ts n).isSome]) w := by
 obtain ⟨v, ps, hrun, hv⟩ := World.ownsMap.look_ok h law3 Tryz.underlying114 (z := .int .i64 0) (zero3 w) (plainElem_int (H := Unit) Tryz.underlying3 (wf64 (by decide) (by decide))) (keyOf_int_mk Tryz.underlying3 hn)
 obtain ⟨c, rfl, hc, _⟩ := plainElem_int_inv Tryz.underlying3 hv
 rw [(ht n).1] at hrun; simp only [Prod.mk.injEq] at hc
 rw [hrun]; have : tv D n = c := by unfold tv; rw [hc.1]
 rw [this]
theorem own_not {w : World} {base size n R : Nat} {e T : TypeId} {v : Value} {row : List Value} {cs : Array Value} (h : w.ownsRow base e size v n row) (hb : w.heap[R]? = some (.cells cs T (0, 0))) (hne : e ≠ T) : v.ownBlock ≠ some R := fun hv => by
 rcases h.2 with ⟨rfl, _⟩ | ⟨g, cap, cur, rfl, _, hg, _⟩
 ·simp [Value.ownBlock] at hv
 ·have : g = R := by simpa [Value.ownBlock] using hv
  subst this; rw [hg] at hb; injection hb with hb; injection hb with _ hb
  exact hne hb
theorem own_map {w : World} {base size n m nn : Nat} {e : TypeId} {v : Value} {row : List Value} {D : DataW Unit} (h : w.ownsRow base e size v n row) (hm : MapAt w m nn D) : v.ownBlock ≠ some m := fun hv => by
 obtain ⟨es, clock, hb, _⟩ := hm
 rcases h.2 with ⟨rfl, _⟩ | ⟨g, cap, cur, rfl, _, hg, _⟩
 ·simp [Value.ownBlock] at hv
 ·have : g = m := by simpa [Value.ownBlock] using hv
  subst this; rw [hg] at hb; injection hb with hb
  cases hb
theorem own_apart {w : World} {base base2 size size2 n n2 : Nat} {e e2 : TypeId} {v v2 : Value} {row row2 : List Value} (h : w.ownsRow base e size v n row) (h2 : w.ownsRow base2 e2 size2 v2 n2 row2) (hne : e ≠ e2) : v.ownBlock = none ∨ v.ownBlock ≠ v2.ownBlock := by
 rcases h2.2 with ⟨rfl, _⟩ | ⟨g, cap, cur, rfl, _, hg, _⟩
 ·cases hv : v.ownBlock with
  | none => exact .inl rfl
  | some g => exact .inr (by simp [Value.ownBlock])
 ·exact .inr (own_not h hg hne)
def HoleE (W w : World) (t : HT) : Prop := w.ownsRow W.heap.size 123 7 (.slice t.ea t.h.s.es.length t.ec) t.h.s.es.length (t.h.s.es.flatMap edC)
def eBlock (t : HT) : Option Nat := (Value.slice t.ea t.h.s.es.length t.ec).ownBlock
structure RdRest (W : World) (L : Option Nat) (R m : Nat) (tools : List (Int × Int)) (es : List Pl.Ed) (ts : List HT) (eu ov : Value) (w : World) : Prop where
 hR : W.heap.size ≤ R
 hm : W.heap.size ≤ m
 ne : m ≠ R
 rb : ∃ cs, w.heap[R]? = some (.cells cs 117 (0, 0))
 map : ∃ D nn, MapAt w m nn D ∧ ToolsIs D tools ∧ nn ≤ tools.length
 eo : w.ownsRow W.heap.size 123 7 eu es.length (es.flatMap edC)
 oo : w.ownsRow W.heap.size 52 6 ov ts.length (ts.flatMap htC)
 he : ∀ t ∈ ts, HoleE W w t
 dis : ∀ t ∈ ts, eBlock t = none ∨ eBlock t ≠ eu.ownBlock
 kp : Kp W w none
 ln : ∀ q, L = some q → w.heap[q]? = some (.cells #[.int .i64 0] 27 (0, 0))
theorem RdRest.ln_r {W : World} {L : Option Nat} {R m : Nat} {tools : List (Int × Int)} {es : List Pl.Ed} {ts : List HT} {eu ov : Value} {w : World} (h : RdRest W L R m tools es ts eu ov w) {q : Nat} (hq : L = some q) : q ≠ R := fun e => by
 obtain ⟨cs, hb⟩ := h.rb; rw [← e, h.ln q hq] at hb; injection hb with hb; injection hb with _ hb
 exact absurd hb (by decide)
theorem RdRest.ln_m {W : World} {L : Option Nat} {R m : Nat} {tools : List (Int × Int)} {es : List Pl.Ed} {ts : List HT} {eu ov : Value} {w : World} (h : RdRest W L R m tools es ts eu ov w) {q : Nat} (hq : L = some q) : q ≠ m := fun e => by
 obtain ⟨D, nn, ⟨ps, clock, hb, _⟩, _⟩ := h.map; rw [← e, h.ln q hq] at hb; injection hb with hb
 cases hb
theorem RdRest.keep {W : World} {L : Option Nat} {R m : Nat} {tools : List (Int × Int)} {es : List Pl.Ed} {ts : List HT} {eu ov : Value} {w w' : World} (h : RdRest W L R m tools es ts eu ov w) (k : Kp w w' none) : RdRest W L R m tools es ts eu ov w' where
 hR := h.hR
 hm := h.hm
 ne := h.ne
 rb := by obtain ⟨cs, hb⟩ := h.rb; exact ⟨cs, blk hb k⟩
 map := by obtain ⟨D, nn, h1, h2, h3⟩ := h.map; exact ⟨D, nn, h1.keep (k.block m h1.lt (by simp)), h2, h3⟩
 eo := own_kp h.eo k
 oo := own_kp h.oo k
 he t ht := own_kp (h.he t ht) k
 dis := h.dis
 kp := h.kp.trans k
 ln q hq := blk (h.ln q hq) k
theorem own_r {w w' : World} {base size n R : Nat} {e : TypeId} {v : Value} {row : List Value} (h : w.ownsRow base e size v n row) (k : Kp w w' (some R)) (hne : v.ownBlock ≠ some R) : w'.ownsRow base e size v n row := h.kept k (.inr hne)
theorem RdRest.set {W : World} {L : Option Nat} {R m : Nat} {tools : List (Int × Int)} {es : List Pl.Ed} {ts : List HT} {eu ov : Value} {w w' : World} (h : RdRest W L R m tools es ts eu ov w) (k : Kp w w' (some R)) {cs : Array Value} (hb : w'.heap[R]? = some (.cells cs 117 (0, 0))) : RdRest W L R m tools es ts eu ov w' where
 hR := h.hR
 hm := h.hm
 ne := h.ne
 rb := ⟨cs, hb⟩
 map := by obtain ⟨D, nn, h1, h2, h3⟩ := h.map; exact ⟨D, nn, h1.keep (k.block m h1.lt (by intro e; injection e with e; exact h.ne e)), h2, h3⟩
 eo := by obtain ⟨_, hc⟩ := h.rb; exact own_r h.eo k (own_not h.eo hc (by decide))
 oo := by obtain ⟨_, hc⟩ := h.rb; exact own_r h.oo k (own_not h.oo hc (by decide))
 he t ht := by obtain ⟨_, hc⟩ := h.rb; exact own_r (h.he t ht) k (own_not (h.he t ht) hc (by decide))
 dis := h.dis
 kp := h.kp.of_own k h.hR
 ln q hq := res_kept (h.ln q hq) k (by intro x hx; injection hx with hx; rw [← hx]; exact (h.ln_r hq).symm)
theorem RdRest.tool {W : World} {L : Option Nat} {R m : Nat} {tools tools' : List (Int × Int)} {es : List Pl.Ed} {ts : List HT} {eu ov : Value} {w w' : World} (h : RdRest W L R m tools es ts eu ov w) (k : Kp w w' (some m)) (hmap : ∃ D nn, MapAt w' m nn D ∧ ToolsIs D tools' ∧ nn ≤ tools'.length) : RdRest W L R m tools' es ts eu ov w' where
 hR := h.hR
 hm := h.hm
 ne := h.ne
 rb := by obtain ⟨cs, hb⟩ := h.rb; exact ⟨cs, res_kept hb k (by intro q hq; injection hq with hq; rw [← hq]; exact h.ne)⟩
 map := hmap
 eo := by obtain ⟨_, _, hm, _⟩ := h.map; exact own_r h.eo k (own_map h.eo hm)
 oo := by obtain ⟨_, _, hm, _⟩ := h.map; exact own_r h.oo k (own_map h.oo hm)
 he t ht := by obtain ⟨_, _, hm, _⟩ := h.map; exact own_r (h.he t ht) k (own_map (h.he t ht) hm)
 dis := h.dis
 kp := h.kp.of_own k h.hm
 ln q hq := res_kept (h.ln q hq) k (by intro x hx; injection hx with hx; rw [← hx]; exact (h.ln_m hq).symm)
theorem ol_row {w w' : World} {base size n : Nat} {e : TypeId} {v : Value} {row : List Value} {row' : Option Nat} (h : w.ownsRow base e size v n row) (k : Kp w w' row') (hne : v.ownBlock = none ∨ v.ownBlock ≠ row') : w'.ownsRow base e size v n row := h.kept k hne
theorem RdRest.edges {W : World} {L : Option Nat} {R m : Nat} {tools : List (Int × Int)} {es es' : List Pl.Ed} {ts : List HT} {eu ov v : Value} {w w' : World} (h : RdRest W L R m tools es ts eu ov w) (k : Kp w w' eu.ownBlock) (ho : w'.ownsRow W.heap.size 123 7 v es'.length (es'.flatMap edC)) (hl : v.ownBlock = eu.ownBlock ∨ v.ownBlock = some w.heap.size) : RdRest W L R m tools es' ts v ov w' where
 hR := h.hR
 hm := h.hm
 ne := h.ne
 rb := by obtain ⟨cs, hb⟩ := h.rb; exact ⟨cs, res_kept hb k (fun q hq e => own_not h.eo hb (by decide) (by rw [hq, e]))⟩
 map := by obtain ⟨D, nn, h1, h2, h3⟩ := h.map; exact ⟨D, nn, h1.keep (k.block m h1.lt (fun e => own_map h.eo h1 e.symm)), h2, h3⟩
 eo := ho
 oo := ol_row h.oo k (own_apart h.oo h.eo (by decide))
 he t ht := ol_row (h.he t ht) k (h.dis t ht)
 dis t ht := by
  rcases hl with hl | hl
  ·rw [hl]; exact h.dis t ht
  ·cases hb : eBlock t with
   | none => exact .inl rfl
   | some g => exact .inr (by rw [hl]; intro e; injection e with e; have := ((h.he t ht).lt g hb).2; omega)
 kp := Kp.row h.kp k (fun q hq => (h.eo.lt q hq).1)
 ln q hq := res_kept (h.ln q hq) k (fun x hx e => own_not h.eo (h.ln q hq) (by decide) (by rw [hx, e]))
theorem RdRest.hole {W : World} {L : Option Nat} {R m : Nat} {tools : List (Int × Int)} {es : List Pl.Ed} {ts : List HT} {eu ov v : Value} {w w' : World} (h : RdRest W L R m tools es ts eu ov w) (k : Kp w w' ov.ownBlock) {t : HT} (ht : HoleE W w t) (hd : eBlock t = none ∨ eBlock t ≠ eu.ownBlock) (ho : w'.ownsRow W.heap.size 52 6 v (ts ++ [t]).length ((ts ++ [t]).flatMap htC)) : RdRest W L R m tools es (ts ++ [t]) eu v w' where
 hR := h.hR
 hm := h.hm
 ne := h.ne
 rb := by obtain ⟨cs, hb⟩ := h.rb; exact ⟨cs, res_kept hb k (fun q hq e => own_not h.oo hb (by decide) (by rw [hq, e]))⟩
 map := by obtain ⟨D, nn, h1, h2, h3⟩ := h.map; exact ⟨D, nn, h1.keep (k.block m h1.lt (fun e => own_map h.oo h1 e.symm)), h2, h3⟩
 eo := ol_row h.eo k (own_apart h.eo h.oo (by decide))
 oo := ho
 he x hx := by
  rcases List.mem_append.1 hx with hx | hx
  ·exact ol_row (h.he x hx) k (own_apart (h.he x hx) h.oo (by decide))
  ·rw [List.mem_singleton.1 hx]; exact ol_row ht k (own_apart ht h.oo (by decide))
 dis x hx := by
  rcases List.mem_append.1 hx with hx | hx
  ·exact h.dis x hx
  ·rw [List.mem_singleton.1 hx]; exact hd
 kp := Kp.row h.kp k (fun q hq => (h.oo.lt q hq).1)
 ln q hq := res_kept (h.ln q hq) k (fun x hx e => own_not h.oo (h.ln q hq) (by decide) (by rw [hx, e]))
theorem RdRest.drop {W : World} {L : Option Nat} {R m : Nat} {tools : List (Int × Int)} {es : List Pl.Ed} {ts : List HT} {eu ov : Value} {w : World} (h : RdRest W L R m tools es ts eu ov w) : RdRest W L R m tools [] ts (.slice none 0 0) ov w where
 hR := h.hR
 hm := h.hm
 ne := h.ne
 rb := h.rb
 map := h.map
 eo := ⟨by rfl, .inl ⟨rfl, rfl⟩⟩
 oo := h.oo
 he := h.he
 dis t _ := by
  cases hb : eBlock t with
  | none => exact .inl rfl
  | some g => exact .inr (by simp [Value.ownBlock])
 kp := h.kp
 ln := h.ln
def fnOf (ph : Nat) : Nat := if ph = 0 then 51 else if ph = 1 then 101 else if ph = 2 then 159 else if ph = 3 then 185 else if ph = 4 then 237 else if ph = 5 then 252 else 208
def fnV (ph : Nat) : Value := .func (.func (fnOf ph)) #[] #[]
def RC (ph : Nat) (m : Nat) (st : Dl.St) (eu ov : Value) : Array Value := #[fnV ph, .map (some m), .int .i64 st.sel, .int .i64 0, .slice none 0 0, .int .i64 0, .int .i64 st.f, .int .i64 st.t, .bool st.pl, .int .i64 st.at_.x, .int .i64 st.at_.y, eu, ov, .bool (decide (ph = 6))]
def RdAt (W : World) (L : Option Nat) (R m : Nat) (st : Dl.St) (w : World) : Prop := ∃ (eu ov : Value) (ts : List HT), ts.map (·.h) = st.out ∧ w.heap[R]? = some (.cells (RC st.ph m st eu ov) 117 (0, 0)) ∧ RdRest W L R m st.tools st.es ts eu ov w
theorem RdAt.keep {W : World} {L : Option Nat} {R m : Nat} {st : Dl.St} {w w' : World} (h : RdAt W L R m st w) (k : Kp w w' none) : RdAt W L R m st w' := by
 obtain ⟨eu, ov, ts, h1, h2, h3⟩ := h
 exact ⟨eu, ov, ts, h1, blk h2 k, h3.keep k⟩
theorem RdAt.kp {W : World} {L : Option Nat} {R m : Nat} {st : Dl.St} {w : World} (h : RdAt W L R m st w) : Kp W w none := by
 obtain ⟨eu, ov, ts, h1, h2, h3⟩ := h; exact h3.kp
structure KpL (W : World) (L : Option Nat) (w : World) : Prop where
 kp : Kp W w none
 ln : ∀ q, L = some q → w.heap[q]? = some (.cells #[.int .i64 0] 27 (0, 0))
theorem KpL.trans {W : World} {L : Option Nat} {w w' : World} (h : KpL W L w) (k : Kp w w' none) : KpL W L w' := ⟨h.kp.trans k, fun q hq => blk (h.ln q hq) k⟩
theorem KpL.drewN {W : World} {L : Option Nat} {w : World} (h : KpL W L w) (n : Nat) : KpL W L (w.drewN n) := h.trans ((Kp.refl w none).drewN n)
theorem RdRest.kl {W : World} {L : Option Nat} {R m : Nat} {tools : List (Int × Int)} {es : List Pl.Ed} {ts : List HT} {eu ov : Value} {w : World} (h : RdRest W L R m tools es ts eu ov w) : KpL W L w := ⟨h.kp, h.ln⟩
theorem RdAt.kl {W : World} {L : Option Nat} {R m : Nat} {st : Dl.St} {w : World} (h : RdAt W L R m st w) : KpL W L w := by
 obtain ⟨eu, ov, ts, h1, h2, h3⟩ := h; exact h3.kl
def StepIs (W : World) (L : Option Nat) (R m : Nat) (x : Dl.St ⊕ Int) (E : Ending) (w' : World) : Prop := match x with
 | .inl u => E = .returned (.tuple #[]) ∧ RdAt W L R m u w'
 | .inr e => E = .panicked (bad e) ∧ KpL W L w'
theorem step_inl {W : World} {L : Option Nat} {R m : Nat} {x : Dl.St ⊕ Int} {u : Dl.St} {w' : World} (h : x = .inl u) (hr : RdAt W L R m u w') : StepIs W L R m x (.returned (.tuple #[])) w' := by subst h; exact ⟨rfl, hr⟩
theorem step_inr {W : World} {L : Option Nat} {R m : Nat} {x : Dl.St ⊕ Int} {e : Int} {w' : World} (h : x = .inr e) (hr : KpL W L w') : StepIs W L R m x (.panicked (bad e)) w' := by subst h; exact ⟨rfl, hr⟩
end Go.Proofs.YtljjbdbgedmadaaGreatDoor
namespace Go.Proofs.YtljjbdbgedmadaaGreatDoor
open Go.RowKit Go.Lib
theorem first_any (W : World) (L : Option Nat) (R m : Nat) (st : Dl.St) (s : List UInt8) (w : World) (h : RdAt W L R m st w) (hp : st.ph = 0) : Calls Tryz.prog 51 #[.pointer (some ⟨R, 0, none⟩), str s] w (StepIs W L R m (Dl.step st s)) := by
 obtain ⟨ph, tools, sel, f, t, pl, at_, es, out⟩ := st
 dsimp only at hp
 subst hp; obtain ⟨eu, ov, ts, hts, hb, hr⟩ := h
 dsimp only at hts hb hr
 have HB := oh hb; have HR := oh hr; have HT := oh hts; have c0 : w.cell? ⟨R, 0, none⟩ = some (fnV 0) := hcell hb 0 rfl
 have f0 : w.frozen? ⟨R, 0, none⟩ = false := fz hb 0
 clear hb hr hts
 by_cases hs : s = [77, 52, 56]
 ·have HST : Hid (Dl.step ⟨0, tools, sel, f, t, pl, at_, es, out⟩ s = .inl ⟨1, tools, sel, f, t, pl, at_, es, out⟩) := oh (by subst hs; rfl)
  subst hs; go_enter Tryz.func51, Tryz.ntmps51
  go_wp2_with (go_at_call 100; refine (need_yes _ _).mono ?_; rintro e w' ⟨rfl, rfl⟩)
  go_end0
  have hb2 : (w.setCell ⟨R, 0, none⟩ (fnV 1)).heap[R]? = some (.cells (RC 1 m ⟨1, tools, sel, f, t, pl, at_, es, out⟩ eu ov) 117 (0, 0)) := heap_set HB.out
  exact step_inl HST.out ⟨eu, ov, ts, HT.out, hb2, HR.out.set ((Kp.refl w (some R)).set _) hb2⟩
 ·have HST : Hid (Dl.step ⟨0, tools, sel, f, t, pl, at_, es, out⟩ s = .inr 4) := oh (show (if s = Dl.kM48 then Sum.inl (⟨1, tools, sel, f, t, pl, at_, es, out⟩ : Dl.St) else Sum.inr (4 : Int)) = Sum.inr 4 from if_neg hs)
  have hb1 : (s == [77, 52, 56]) = false := by simpa using hs
  clear hs; go_enter Tryz.func51, Tryz.ntmps51
  go_wp2_with (go_at_call 100; refine (need_no _ _).mono ?_; rintro e w' ⟨rfl, rfl⟩)
  exact ⟨rfl, step_inr HST.out HR.out.kl⟩
theorem second_any (W : World) (L : Option Nat) (R m : Nat) (st : Dl.St) (s : List UInt8) (w : World) (h : RdAt W L R m st w) (hp : st.ph = 1) : Calls Tryz.prog 101 #[.pointer (some ⟨R, 0, none⟩), str s] w (StepIs W L R m (Dl.step st s)) := by
 obtain ⟨ph, tools, sel, f, t, pl, at_, es, out⟩ := st
 dsimp only at hp
 subst hp; obtain ⟨eu, ov, ts, hts, hb, hr⟩ := h
 dsimp only at hts hb hr
 have HB := oh hb; have HR := oh hr; have HT := oh hts; have c0 : w.cell? ⟨R, 0, none⟩ = some (fnV 1) := hcell hb 0 rfl
 have f0 : w.frozen? ⟨R, 0, none⟩ = false := fz hb 0
 clear hb hr hts
 by_cases hs : s = [59, 101, 116, 99, 104, 97, 110, 116]
 ·have HST : Hid (Dl.step ⟨1, tools, sel, f, t, pl, at_, es, out⟩ s = .inl ⟨2, tools, sel, f, t, pl, at_, es, out⟩) := oh (by subst hs; rfl)
  subst hs; go_enter Tryz.func101, Tryz.ntmps101
  go_wp2_with (go_at_call 100; refine (need_yes _ _).mono ?_; rintro e w' ⟨rfl, rfl⟩)
  go_end0
  have hb2 : (w.setCell ⟨R, 0, none⟩ (fnV 2)).heap[R]? = some (.cells (RC 2 m ⟨2, tools, sel, f, t, pl, at_, es, out⟩ eu ov) 117 (0, 0)) := heap_set HB.out
  exact step_inl HST.out ⟨eu, ov, ts, HT.out, hb2, HR.out.set ((Kp.refl w (some R)).set _) hb2⟩
 ·have HST : Hid (Dl.step ⟨1, tools, sel, f, t, pl, at_, es, out⟩ s = .inr 4) := oh (show (if s = Dl.kEt then Sum.inl (⟨2, tools, sel, f, t, pl, at_, es, out⟩ : Dl.St) else Sum.inr (4 : Int)) = Sum.inr 4 from if_neg hs)
  have hb1 : (s == [59, 101, 116, 99, 104, 97, 110, 116]) = false := by simpa using hs
  clear hs; go_enter Tryz.func101, Tryz.ntmps101
  go_wp2_with (go_at_call 100; refine (need_no _ _).mono ?_; rintro e w' ⟨rfl, rfl⟩)
  exact ⟨rfl, step_inr HST.out HR.out.kl⟩
theorem opened_any (W : World) (L : Option Nat) (R m : Nat) (st : Dl.St) (s : List UInt8) (w : World) (h : RdAt W L R m st w) (hp : st.ph = 4) : Calls Tryz.prog 237 #[.pointer (some ⟨R, 0, none⟩), str s] w (StepIs W L R m (Dl.step st s)) := by
 obtain ⟨ph, tools, sel, f, t, pl, at_, es, out⟩ := st
 dsimp only at hp
 subst hp; obtain ⟨eu, ov, ts, hts, hb, hr⟩ := h
 dsimp only at hts hb hr
 have HB := oh hb; have HR := oh hr; have HT := oh hts; have c0 : w.cell? ⟨R, 0, none⟩ = some (fnV 4) := hcell hb 0 rfl
 have f0 : w.frozen? ⟨R, 0, none⟩ = false := fz hb 0
 clear hb hr hts
 by_cases hs : s = [77, 49, 53]
 ·have HST : Hid (Dl.step ⟨4, tools, sel, f, t, pl, at_, es, out⟩ s = .inl ⟨5, tools, sel, f, t, pl, at_, es, out⟩) := oh (by subst hs; rfl)
  subst hs; go_enter Tryz.func237, Tryz.ntmps237
  go_wp2_with (go_at_call 100; refine (need_yes _ _).mono ?_; rintro e w' ⟨rfl, rfl⟩)
  go_end0
  have hb2 : (w.setCell ⟨R, 0, none⟩ (fnV 5)).heap[R]? = some (.cells (RC 5 m ⟨5, tools, sel, f, t, pl, at_, es, out⟩ eu ov) 117 (0, 0)) := heap_set HB.out
  exact step_inl HST.out ⟨eu, ov, ts, HT.out, hb2, HR.out.set ((Kp.refl w (some R)).set _) hb2⟩
 ·have HST : Hid (Dl.step ⟨4, tools, sel, f, t, pl, at_, es, out⟩ s = .inr 4) := oh (show (if s = Dl.kM15 then Sum.inl (⟨5, tools, sel, f, t, pl, at_, es, out⟩ : Dl.St) else Sum.inr (4 : Int)) = Sum.inr 4 from if_neg hs)
  have hb1 : (s == [77, 49, 53]) = false := by simpa using hs
  clear hs; go_enter Tryz.func237, Tryz.ntmps237
  go_wp2_with (go_at_call 100; refine (need_no _ _).mono ?_; rintro e w' ⟨rfl, rfl⟩)
  exact ⟨rfl, step_inr HST.out HR.out.kl⟩
theorem behind_any (W : World) (L : Option Nat) (R m : Nat) (st : Dl.St) (s : List UInt8) (w : World) (h : RdAt W L R m st w) (hp : st.ph = 6) : Calls Tryz.prog 208 #[.pointer (some ⟨R, 0, none⟩), str s] w (StepIs W L R m (Dl.step st s)) := by
 have HST : Hid (Dl.step st s = .inr 4) := oh (by unfold Dl.step; rw [hp]; rfl)
 have HK := oh h.kl
 clear h hp; go_enter Tryz.func208, Tryz.ntmps208
 go_wp2_with (go_at_call 100; refine (need_no _ _).mono ?_; rintro e w' ⟨rfl, rfl⟩)
 exact ⟨rfl, step_inr HST.out HK.out⟩
def ReadyIs (w : World) (x : Int) (E : Ending) (w' : World) : Prop := (E = if x = 0 then .returned (.tuple #[]) else .panicked (bad x)) ∧ w = w'
theorem ready_any (W : World) (L : Option Nat) (R m : Nat) (st : Dl.St) (w : World) (h : RdAt W L R m st w) : Calls Tryz.prog 236 #[.pointer (some ⟨R, 0, none⟩)] w (ReadyIs w (Dl.ready st)) := by
 obtain ⟨ph, tools, sel, f, t, pl, at_, es, out⟩ := st; obtain ⟨eu, ov, ts, hts, hb, hr⟩ := h
 dsimp only at hts hb hr
 have c2 : w.cell? ⟨R, 2, none⟩ = some (.int .i64 sel) := hcell hb 2 rfl
 have c6 : w.cell? ⟨R, 6, none⟩ = some (.int .i64 f) := hcell hb 6 rfl
 clear hb hr hts
 by_cases h1 : sel ≤ 0
 ·have HST : Hid (Dl.ready ⟨ph, tools, sel, f, t, pl, at_, es, out⟩ = 70) := oh (by unfold Dl.ready; simp only; rw [if_pos h1])
  have h2 : decide (0 < sel) = false := by simp; omega
  clear h1; go_enter Tryz.func236, Tryz.ntmps236
  go_wp2_with (go_at_call 100; refine (need_no _ _).mono ?_; rintro e w' ⟨rfl, rfl⟩)
  exact ⟨rfl, by rw [HST.out]; rfl, rfl⟩
 ·have h2 : 0 < sel := by omega
  by_cases h3 : f ≤ 0
  ·have HST : Hid (Dl.ready ⟨ph, tools, sel, f, t, pl, at_, es, out⟩ = 72) := oh (by unfold Dl.ready; simp only; rw [if_neg h1, if_pos h3])
   have h4 : decide (0 < f) = false := by simp; omega
   clear h1 h3; go_enter Tryz.func236, Tryz.ntmps236
   go_wp2_with fail
   refine (need_yes _ _).mono ?_
   rintro e w' ⟨rfl, rfl⟩; go_wp2_with fail
   refine (need_no _ _).mono ?_
   rintro e w' ⟨rfl, rfl⟩; exact ⟨rfl, by rw [HST.out]; rfl, rfl⟩
  ·have HST : Hid (Dl.ready ⟨ph, tools, sel, f, t, pl, at_, es, out⟩ = 0) := oh (by unfold Dl.ready; simp only; rw [if_neg h1, if_neg h3])
   have h4 : decide (0 < f) = true := by simp; omega
   clear h1 h3; go_enter Tryz.func236, Tryz.ntmps236
   go_wp2_with fail
   refine (need_yes _ _).mono ?_
   rintro e w' ⟨rfl, rfl⟩; go_wp2_with fail
   refine (need_yes _ _).mono ?_
   rintro e w' ⟨rfl, rfl⟩; go_wp2_with fail
   go_end0
   exact ⟨by rw [HST.out]; rfl, rfl⟩
def PutIs (W : World) (L : Option Nat) (R m : Nat) (nx xe eu : Value) (dn : Bool) (sel f t : Int) (pl : Bool) (ax ay : Int) (tools : List (Int × Int)) (es : List Pl.Ed) (ts : List HT) (l : List Pl.Ed) (ea : Option Addr) (ec : Nat) (c : Int) (E : Ending) (w' : World) : Prop :=
 if c = 0 then E = .returned (.tuple #[]) ∧ ∃ ov, w'.heap[R]? = some (.cells #[nx, .map (some m), .int .i64 sel, .int .i64 0, .slice none 0 0, .int .i64 0, .int .i64 f, .int .i64 t, .bool pl, .int .i64 ax, .int .i64 ay, xe, ov, .bool dn] 117 (0, 0)) ∧ RdRest W L R m tools es (ts ++ [⟨⟨⟨1, l, sel / 2⟩, f, t, pl⟩, ea, ec⟩]) eu ov w'
 else E = .panicked (bad c) ∧ KpL W L w'
theorem put_any (W : World) (L : Option Nat) (R m : Nat) (nx xe eu ov : Value) (dn : Bool) (sel f t : Int) (pl : Bool) (ax ay : Int) (tools : List (Int × Int)) (es : List Pl.Ed) (ts : List HT) (l : List Pl.Ed) (n : Nat) (hn : l.length = n) (ea : Option Addr) (ec : Nat) (w : World)
  (hb : w.heap[R]? = some (.cells #[nx, .map (some m), .int .i64 sel, .int .i64 0, .slice none 0 0, .int .i64 0, .int .i64 f, .int .i64 t, .bool pl, .int .i64 ax, .int .i64 ay, xe, ov, .bool dn] 117 (0, 0))) (hr : RdRest W L R m tools es ts eu ov w) (hl : w.ownsRow W.heap.size 123 7 (.slice ea n ec) n (l.flatMap edC)) (hd : (Value.slice ea n ec).ownBlock = none ∨ (Value.slice ea n ec).ownBlock ≠ eu.ownBlock) (hs : 0 ≤ sel ∧ sel ≤ 8388608) (hts : ts.length ≤ 1000000) :
  Calls Tryz.prog 238 #[.pointer (some ⟨R, 0, none⟩), .slice ea n ec] w (PutIs W L R m nx xe eu dn sel f t pl ax ay tools es ts l ea ec (Pl.chk ⟨1, l, sel / 2⟩)) := by
 have hll : LiesAt 7 edC w ea ec l := (own_lies (m := 7) (f := edC) (fun _ => rfl) (xs := l) (n := n) (by rw [hn]; exact hl)).2
 have HCK := oh (fun V (kv : Kp w V none) => scheck_any ⟨1, l, sel / 2⟩ n hn ea ec V (hll.keep kv))
 obtain ⟨c, hc⟩ : ∃ c, Pl.chk ⟨1, l, sel / 2⟩ = c := ⟨_, rfl⟩
 rw [hc] at HCK ⊢; dsimp only at HCK
 have HR := oh hb; have HRR := oh hr; have HL := oh hl; have HN := oh hn; have HD := oh hd; obtain ⟨i0, hi, hz0, hz1, hz2⟩ := info_parts infoHole
 have c2 : w.cell? ⟨R, 2, none⟩ = some (.int .i64 sel) := hcell hb 2 rfl
 have c3 : w.cell? ⟨R, 3, none⟩ = some (.int .i64 0) := hcell hb 3 rfl
 have c4 : w.cell? ⟨R, 4, none⟩ = some (.slice none 0 0) := hcell hb 4 rfl
 have c5 : w.cell? ⟨R, 5, none⟩ = some (.int .i64 0) := hcell hb 5 rfl
 have c6 : w.cell? ⟨R, 6, none⟩ = some (.int .i64 f) := hcell hb 6 rfl
 have c7 : w.cell? ⟨R, 7, none⟩ = some (.int .i64 t) := hcell hb 7 rfl
 have c8 : w.cell? ⟨R, 8, none⟩ = some (.bool pl) := hcell hb 8 rfl
 have hRB : R < w.heap.size := lt_of_block hb
 have hs0 := hs.1
 have hs1 := hs.2
 have hq : sel.tdiv 2 = sel / 2 := Int.tdiv_eq_ediv_of_nonneg hs0
 clear hc hb hr hl hn hll hd hs; go_enter Tryz.func238, Tryz.ntmps238
 go_upto_region 2 with fail
 clear c2 c3 c4 c5 c6 c7 c8 hq; have HBX := oh (heap_alloc_new w (.cells #[.int .i64 1, .slice ea n ec, .int .i64 (sel / 2), .int .i64 f, .int .i64 t, .bool pl] 52))
 have KX : Hid (Kp w (w.alloc (.cells #[.int .i64 1, .slice ea n ec, .int .i64 (sel / 2), .int .i64 f, .int .i64 t, .bool pl] 52)) none) := oh ((Kp.refl w none).alloc _)
 generalize w.alloc (.cells #[.int .i64 1, .slice ea n ec, .int .i64 (sel / 2), .int .i64 f, .int .i64 t, .bool pl] 52) = X at *
 have HOB : Hid (∀ q, ov.ownBlock = some q → q < w.heap.size) := oh fun q hq => (HRR.out.oo.lt q hq).2
 obtain ⟨B, hB⟩ : ∃ x, w.heap.size = x := ⟨_, rfl⟩
 rw [hB] at HBX hRB HOB ⊢; clear hB; have x0 := hcell HBX.out 0 rfl
 have x1 := hcell HBX.out 1 rfl
 have x2 := hcell HBX.out 2 rfl
 by_cases hz : c = 0
 ·subst hz
  go_upto_region 3 with (first | (go_at_call 93; refine (HCK.out _ KX.out).mono ?_; rintro E w1 ⟨rfl, k1⟩; have K1 := oh k1; clear k1) | (go_at_call 253; refine (fine_yes _).mono ?_; rintro E w2 ⟨rfl, k2⟩; have K2 := oh (K1.out.trans k2); clear k2))
  clear x0 x1 x2; have KW := oh (KX.out.trans K2.out)
  have HR0 := oh (blk HR.out (KW.out.trans (Kp.refl _ none).drew))
  have HB0 := oh (blk HBX.out (K2.out.trans (Kp.refl _ none).drew))
  have HRR0 := oh (HRR.out.keep (KW.out.trans (Kp.refl _ none).drew))
  have HL0 := oh (own_kp HL.out (KW.out.trans (Kp.refl _ none).drew))
  clear HR HBX HRR HL KW K2 KX HCK; refine wp_region_last (fun V => V.cell? ⟨R, 12, none⟩ = some ov ∧ V.cell? ⟨B, 0, none⟩ = some (.int .i64 1) ∧ V.cell? ⟨B, 1, none⟩ = some (.slice ea n ec) ∧ V.cell? ⟨B, 2, none⟩ = some (.int .i64 (sel / 2)) ∧ V.cell? ⟨B, 3, none⟩ = some (.int .i64 f) ∧ V.cell? ⟨B, 4, none⟩ = some (.int .i64 t) ∧ V.cell? ⟨B, 5, none⟩ = some (.bool pl)) 10 (by kernel_rfl) ?_ (fun eh => ?_)
  ·exact ⟨hcell HR0.out 12 rfl, hcell HB0.out 0 rfl, hcell HB0.out 1 rfl, hcell HB0.out 2 rfl, hcell HB0.out 3 rfl, hcell HB0.out 4 rfl, hcell HB0.out 5 rfl⟩
  generalize w2.drew = Y at *
  refine tjL 0 rfl ?_; refine tjL 1 rfl ?_; refine tjL 2 rfl ?_; refine tjL 3 rfl ?_; refine tjL 4 rfl ?_; refine tjL 5 rfl ?_; refine rdL 6 rfl (fun K hK => ?_); clear eh; go_simp; try go_wp2_with fail
  have ka := (Kp.refl Y none).alloc (.cells #[.int .i64 1, .slice ea n ec, .int .i64 (sel / 2), .int .i64 f, .int .i64 t, .bool pl] 52)
  have HR1 := oh (blk HR0.out ka); have HB1 := oh (blk HB0.out ka); have HRR1 := oh (HRR0.out.keep ka); have HL1 := oh (own_kp HL0.out ka)
  have HLS : Hid (IsList 6 htC (Y.alloc (.cells #[.int .i64 1, .slice ea n ec, .int .i64 (sel / 2), .int .i64 f, .int .i64 t, .bool pl] 52)) (.slice (some ⟨Y.heap.size, 0, none⟩) 1 1) [(⟨⟨⟨1, l, sel / 2⟩, f, t, pl⟩, ea, ec⟩ : HT)]) := oh (by have h := hole_list (w := Y) (⟨⟨⟨1, l, sel / 2⟩, f, t, pl⟩, ea, ec⟩ : HT); dsimp only at h; rw [HN.out] at h; exact h)
  have HSB : Hid (W.heap.size ≤ (Y.alloc (.cells #[.int .i64 1, .slice ea n ec, .int .i64 (sel / 2), .int .i64 f, .int .i64 t, .bool pl] 52)).heap.size) := oh HRR1.out.kp.size
  refine hK.out _ _ ?_ (fun eh => ?_)
  ·exact ⟨hcell HR1.out 12 rfl, hcell HB1.out 0 rfl, hcell HB1.out 1 rfl, hcell HB1.out 2 rfl, hcell HB1.out 3 rfl, hcell HB1.out 4 rfl, hcell HB1.out 5 rfl⟩
  clear hK K ka HR0 HB0 HRR0 HL0; try simp only [Act.put, sm]
  generalize Y.alloc (.cells #[.int .i64 1, .slice ea n ec, .int .i64 (sel / 2), .int .i64 f, .int .i64 t, .bool pl] 52) = Z at *
  refine rdL 7 rfl (fun K hK => ?_); clear eh; refine step_app (f := htC) rfl (.tmp 25) (.tmp 27) W.heap.size 30 52 rfl i0 _ 6 64 Tryz.underlying30 hi hz0 hz1 hz2 rfl (by omega) (fun _ => rfl) ht_one ov ts.length _ rfl HRR1.out.oo _ [(⟨⟨⟨1, l, sel / 2⟩, f, t, pl⟩, ea, ec⟩ : HT)] rfl HLS.out (by unfold maxLen; simp; omega) (by simp; omega) HSB.out ?_
  intro v3 w3 ho hg _; obtain ⟨ea3, ec3, rfl⟩ := own_slice ho
  have HO3 := oh ho; have HG3 := oh hg; have HR2 := oh (res_kept HR1.out hg (fun q hq e => own_not HRR1.out.oo HR1.out (by decide) (by rw [hq, e])))
  have HB2 := oh (res_kept HB1.out hg (fun q hq => by have := HOB.out q hq; omega))
  clear ho hg; try simp only [Act.put, sm]
  refine hK _ _ ?_ (fun eh => ?_)
  ·exact ⟨hcell HR2.out 12 rfl, hcell HB2.out 0 rfl, hcell HB2.out 1 rfl, hcell HB2.out 2 rfl, hcell HB2.out 3 rfl, hcell HB2.out 4 rfl, hcell HB2.out 5 rfl⟩
  clear hK K; try simp only [Act.put, sm]
  refine rdL 8 rfl (fun K hK => ?_); clear eh; go_simp; try go_wp2_with fail
  refine hK.out _ _ ?_ (fun eh => ?_)
  ·exact ⟨hcell HR2.out 12 rfl, hcell HB2.out 0 rfl, hcell HB2.out 1 rfl, hcell HB2.out 2 rfl, hcell HB2.out 3 rfl, hcell HB2.out 4 rfl, hcell HB2.out 5 rfl⟩
  clear hK K; try simp only [Act.put, sm]
  refine tjL 9 rfl ?_; refine rdE rfl (fun K hK => ?_)
  have f3 := fz HR2.out 12
  have c3 : w3.cell? ⟨R, 12, none⟩ = some ov := hcell HR2.out 12 rfl
  clear eh; go_simp; try go_wp2_with fail
  refine hK.out _ _ ?_
  clear hK K; try simp only [Act.put, sm]
  refine wpAnyL_done (by kernel_rfl) ?_ _
  clear f3 c3; have HRH : Hid (RdRest W L R m tools es (ts ++ [(⟨⟨⟨1, l, sel / 2⟩, f, t, pl⟩, ea, ec⟩ : HT)]) eu (.slice ea3 (ts.length + [(⟨⟨⟨1, l, sel / 2⟩, f, t, pl⟩, ea, ec⟩ : HT)].length) ec3) w3) := oh (HRR1.out.hole HG3.out (t := (⟨⟨⟨1, l, sel / 2⟩, f, t, pl⟩, ea, ec⟩ : HT)) (by unfold HoleE; dsimp only; rw [HN.out]; exact HL1.out) (by unfold eBlock; dsimp only; rw [HN.out]; exact HD.out) (by rw [List.length_append, List.flatMap_append]; exact HO3.out))
  have hb4 : (w3.setCell ⟨R, 12, none⟩ (.slice ea3 (ts.length + [(⟨⟨⟨1, l, sel / 2⟩, f, t, pl⟩, ea, ec⟩ : HT)].length) ec3)).heap[R]? = some (.cells #[nx, .map (some m), .int .i64 sel, .int .i64 0, .slice none 0 0, .int .i64 0, .int .i64 f, .int .i64 t, .bool pl, .int .i64 ax, .int .i64 ay, xe, (.slice ea3 (ts.length + [(⟨⟨⟨1, l, sel / 2⟩, f, t, pl⟩, ea, ec⟩ : HT)].length) ec3), .bool dn] 117 (0, 0)) := heap_set HR2.out
  have HF := oh (HRH.out.set ((Kp.refl w3 (some R)).set _) hb4)
  have HB4 := oh hb4; clear hb4 HRH HO3 HG3 HR2 HB2 HR1 HB1 HRR1 HL1 HLS
  generalize w3.setCell ⟨R, 12, none⟩ (.slice ea3 (ts.length + [(⟨⟨⟨1, l, sel / 2⟩, f, t, pl⟩, ea, ec⟩ : HT)].length) ec3) = wF at *
  go_wp2_with fail
  go_end0
  unfold PutIs; rw [if_pos rfl]
  exact ⟨rfl, _, HB4.out, HF.out⟩
 ·have HZ := oh hz; clear hz
  go_upto_region 3 with (first | (go_at_call 93; refine (HCK.out _ KX.out).mono ?_; rintro E w1 ⟨rfl, k1⟩; have K1 := oh k1; clear k1) | (go_at_call 253; refine (fine_no c _ HZ.out).mono ?_; rintro E w2 ⟨rfl, k2⟩; have K2 := oh (K1.out.trans k2); clear k2))
  all_goals
   refine ⟨rfl, ?_⟩
   unfold PutIs; rw [if_neg HZ.out]
   exact ⟨rfl, HRR.out.kl.trans (KX.out.trans K2.out)⟩
end Go.Proofs.YtljjbdbgedmadaaGreatDoor
