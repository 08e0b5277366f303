/- From a row to its walk: what the listed variables hold gives what the library's code asks; the frame in which a walk is lifted. No condition. -/
import Derived.Test.YtljjbdbgedmadaaGreatDoorSn
import Derived.Test.YtljjbdbgedmadaaGreatDoorPt
import Derived.ProofKit
import Derived.LaidMore
import Derived.OpenShut
import Derived.ShutString
import Derived.Stop.Joined
import Derived.Stop.LaidErr
import Derived.Lib.LaidTab
import Derived.Lay
import Derived.HandedShaped
import Derived.Shelf.Vars
import Derived.Deep.Slices
import Derived.Deep.Fields
import Derived.ChangeSame
import Derived.Lib.SmallJoins
namespace Go.Proofs.YtljjbdbgedmadaaGreatDoor
open Go.ChangeShapes Go.WideShapes Go.ChangeAt Go.RowKit

theorem own : ownKnob Tryz.prog.godebug = none := by kernel_rfl
theorem laidOut : laidOutB Tryz.prog = true := by kernel_rfl
def laidAll : List (String × DataW Unit) := [("math/bits.deBruijn32tab", Rows.laid_math_bits_deBruijn32tab), ("math/bits.deBruijn64tab", Rows.laid_math_bits_deBruijn64tab), ("internal/strconv.uint64pow10", Rows.laid_internal_strconv_uint64pow10), ("unicode/utf8.acceptRanges", Rows.laid_unicode_utf8_acceptRanges), ("strconv.ErrRange", Rows.laid_strconv_ErrRange), ("strconv.ErrSyntax", Rows.laid_strconv_ErrSyntax), ("unicode/utf8.first", Rows.laid_unicode_utf8_first)]
theorem glob7 : Tryz.prog.globalNamed "unicode/utf8.acceptRanges" = some 7 := by kernel_rfl
theorem ty1 : (Tryz.prog.globals[1]?).map (·.type) = some 333 := by kernel_rfl
theorem ty4 : (Tryz.prog.globals[4]?).map (·.type) = some 189 := by kernel_rfl
theorem ty5 : (Tryz.prog.globals[5]?).map (·.type) = some 189 := by kernel_rfl
theorem cells148 : Tryz.prog.cellsOf 275 = 1 := by kernel_rfl
theorem cells161 : Tryz.prog.cellsOf 333 = 20 := by kernel_rfl
theorem cells191 : Tryz.prog.cellsOf 363 = 1 := by kernel_rfl
theorem cells9 : Tryz.prog.cellsOf 9 = 1 := by kernel_rfl
theorem cells3 : Tryz.prog.cellsOf 3 = 1 := by kernel_rfl
theorem star : "*errors.errorString" = "*" ++ "errors.errorString" := by decide
theorem row189 (u : TypeId) (h : Tryz.prog.typeName? 3 u = some "*errors.errorString") : u = 361 :=
 typeName_ptr_named (nm := "errors.errorString") (by rw [← star]; kernel_rfl) (by kernel_rfl) (by decide) u (by rw [← star]; exact h)
theorem block_of_var {w : World} {name : String} {g : Nat} {cs : Array Value} (hg : Tryz.prog.globalNamed name = some g) (h : w.var? Tryz.prog name = some cs) : g < w.heap.size := by
 rcases Nat.lt_or_ge g w.heap.size with h' | h'
 ·exact h'
 ·simp [World.var?, hg, Array.getElem?_eq_none h'] at h
theorem var_of_head {W : World} {name : String} {d : DataW Unit} {rest : List (String × DataW Unit)} (h : laidMet Tryz.prog ((name, d) :: rest) W) : ∃ cs, W.var? Tryz.prog name = some cs := by
 obtain ⟨ps, ⟨g', t', cs, fuel, p, q, hg', ht', hvar, hd, _, _⟩, _⟩ := h
 exact ⟨cs, hvar⟩
theorem env_of {W : World} (hL : laidMetH Tryz.prog laidAll W) (hm : ∃ m, W.cell? ⟨0, 0, none⟩ = some (.int .i64 m)) : Env W := by
 rw [MakeChecks.laidMetH_plain _ _ _ (by kernel_rfl)] at hL
 have hL1 := laidMet.tail hL
 have hL2 := laidMet.tail hL1
 have hL3 := laidMet.tail hL2
 have hL4 := laidMet.tail hL3
 have hL5 := laidMet.tail hL4
 obtain ⟨c7, hv7⟩ := var_of_head hL3
 have t1 : Lib.TabIs Tryz.prog W "internal/strconv.uint64pow10" .u64 Lib.pow10Tab := Lib.tabIs_of_head glob1 ty1 Tryz.underlying333 Tryz.underlying275 cells148 cells161 hL2
 obtain ⟨a5, s5, hv5, _⟩ := laid_sentinel hL4 glob5 ty5 Tryz.underlying189 row189 Tryz.underlying361 Tryz.underlying363 rfl rfl Tryz.underlying9 cells191 cells9
 obtain ⟨a4, s4, hv4, _⟩ := laid_sentinel hL5 glob4 ty4 Tryz.underlying189 row189 Tryz.underlying361 Tryz.underlying363 rfl rfl Tryz.underlying9 cells191 cells9
 exact ⟨t1, ⟨_, _, hv4⟩, ⟨_, _, hv5⟩, hm, block_of_var glob7 hv7⟩
/-- The plain wrap with a condition and the world's shape. -/
theorem returns_all {H : Type} {enc : TypeId × Value → H} {a : Assume} {C : Checked} {os : Os} {f : FuncId} {fn : Func} {s : ChangeSpec} {conds : List PathCond} {apart fresh handsOn again : Bool} {X : World → Array Value → Prop}
  (hX : ∀ (w w' : World) (args : Array Value), w.heap = w'.heap → X w args → X w' args)
  (own : ownKnob C.prog.godebug = none) (started : os.Started) (noInit : C.prog.inits.idxOf? f = none) (hfn : C.prog.funcs[f]? = some fn)
  (witness : ∃ (w : World) (tape : Tape) (i : Input), w.os = os ∧ (w.forCall tape i).Shaped C.prog ∧ i.vars = [] ∧ Input.okWide C.prog (w.forCall tape i) .any w.heap.size f i ∧
   ((s.pre enc C.prog fn conds apart (w.forCall tape i).memory i.args ∧ X (w.forCall tape i).memory i.args) ∧ sizedMet enc C.prog fn (OpenSpec.ofChange s) apart (w.forCall tape i).memory i.args) ∧ a.holds C.prog (lone (Frame.enter C.prog f i.args .normal) [] (w.forCall tape i)))
  (contract : ∀ (W : World) (base : Nat) (args : Array Value) (ds gs : List (DataW H)) (before : List MemPlace),
   (∀ (j : Nat) t v, fn.params[j]? = some t → args[j]? = some v → Value.okWide C.prog W .any base t v) →
   DataW.Whole enc C.prog fn.params.toList s.vars apart W args.toList ds gs before →
   (DataW.weightsEach C.prog (fn.params.toList ++ s.plain.varTypes C.prog) (ds ++ gs)).all (· ≤ reachBytes) = true → X W args → W.ShapedOpen C.prog →
   Calls C.prog f args W fun e W' => ∃ v, e = .returned v ∧ s.post enc C.prog fn apart fresh handsOn again W args v W') :
  ReturnsInHanded a C os f .any (fun w args => (s.pre enc C.prog fn conds apart w args ∧ X w args) ∧ sizedMet enc C.prog fn (OpenSpec.ofChange s) apart w args) (s.post enc C.prog fn apart fresh handsOn again) := by
 refine returnsInHanded_of_calls own started noInit witness ?_
 intro w tape i _ hsh _ hok hpre _
 obtain ⟨_, _, _, fn', hfn', _, _, _, _, hval⟩ := hok
 have e : fn' = fn := Option.some.inj (hfn'.symm.trans hfn)
 subst e
 obtain ⟨⟨⟨ds, gs, before, hw, hc⟩, hx⟩, hz⟩ := hpre
 have hw' := DataW.Whole.of_heap (w' := w.forCall tape i) (by rfl) hw
 refine (contract (w.forCall tape i) w.heap.size i.args ds gs before hval hw' (hz.weights hw) (hX _ _ _ (by rfl) hx) hsh).mono fun e W' ⟨v, he, hp⟩ => ?_
 subst he
 exact ChangeSpec.post_blind hp

theorem mx_of (W : World) (h : W.ShapedOpen Tryz.prog) : ∃ m, W.cell? ⟨0, 0, none⟩ = some (.int .i64 m) :=
 Go.Proofs.cell_of_shapedOpen_int (zero := #[.int .i64 0]) (t := 3) h (of_decide_eq_true (by kernel_rfl)) (by kernel_rfl) rfl (by kernel_rfl) (by kernel_rfl) Tryz.underlying3

/-- The listed variables, laid into a world, meet the condition. -/
theorem door_met (os : Os) (args : Array Value) : laidMetH Tryz.prog laidAll ((World.laidAll Tryz.prog os laidAll).forCall (fun _ _ => 0) ⟨#[], args, []⟩).memory := by
 rw [MakeChecks.laidMetH_plain _ _ _ (by kernel_rfl)]; exact laidMet_laidAll _ (by kernel_rfl) (by kernel_rfl)

theorem i64_of_wf {n : Int} (h : (Lit.int .i64 n).wf = true) : Wr.I64 n := by
 have h1 : IntKind.i64.min = -9223372036854775808 := rfl
 have h2 : IntKind.i64.max = 9223372036854775807 := rfl
 simp only [Lit.wf, Bool.and_eq_true, decide_eq_true_eq] at h
 unfold Wr.I64; omega
section
variable {H : Type} {enc : TypeId × Value → H} {W : World} {sp : Nat → Bool}
theorem one_int {n : Nat} {c : Value} {y : DataW H × List MemPlace} (h : DataW.trod enc Tryz.prog W 0 sp true n 3 [c] = some y) : ∃ k : Int, c = .int .i64 k ∧ Wr.I64 k := by
 obtain ⟨k, e, _, wk⟩ := DataW.trod_int Tryz.underlying3 h
 simp only [List.cons.injEq, and_true] at e
 exact ⟨k, e, i64_of_wf wk⟩
theorem one_bool {n : Nat} {c : Value} {y : DataW H × List MemPlace} (h : DataW.trod enc Tryz.prog W 0 sp true n 4 [c] = some y) : ∃ b : Bool, c = .bool b := by
 obtain ⟨b, e, _⟩ := DataW.trod_bool Tryz.underlying4 h
 simp only [List.cons.injEq, and_true] at e
 exact ⟨b, e⟩
theorem el_int {n : Nat} {cs : List Value} {y : DataW H × List MemPlace} (hl : cs.length = 1) (h : DataW.trod enc Tryz.prog W 0 sp true n 3 cs = some y) : ∃ k : Int, cs = intVal k ∧ True := by
 match cs, hl with
 | [c], _ =>
  obtain ⟨k, rfl, _⟩ := one_int h
  exact ⟨k, rfl, trivial⟩
theorem pick_list {α : Type} {p : Nat → α → Prop} : ∀ n : Nat, (∀ i, i < n → ∃ x, p i x) → ∃ xs : List α, xs.length = n ∧ ∀ i, (h : i < xs.length) → p i xs[i]
 | 0, _ => ⟨[], rfl, fun i h => by simp at h⟩
 | n + 1, h => by
  obtain ⟨xs, hl, hx⟩ := pick_list n (fun i hi => h i (by omega))
  obtain ⟨x, hp⟩ := h n (by omega)
  refine ⟨xs ++ [x], by simp [hl], fun i hi => ?_⟩
  rcases Nat.lt_or_ge i xs.length with h1 | h1
  ·rw [List.getElem_append_left h1]; exact hx i h1
  ·have : i = xs.length := by simp at hi; omega
   subst this
   simp [hl, hp]
/-- A slice of an argument, or of an argument's row, as a list. -/
theorem open_lies {α : Type} {t e : TypeId} {size fuel : Nat} {f : α → List Value} {Q : α → Prop} {cs : List Value} {y : DataW H × List MemPlace} (ht : Tryz.prog.underlying t = some (.slice e)) (hC : Tryz.prog.cellsOf e = size) (hs : 0 < size) (hf : ∀ x, (f x).length = size)
  (hel : ∀ (n : Nat) (cs : List Value) (y : DataW H × List MemPlace), cs.length = size → DataW.trod enc Tryz.prog W 0 (fun _ => true) true n e cs = some y → ∃ x : α, cs = f x ∧ Q x)
  (h : DataW.trod enc Tryz.prog W 0 (fun _ => true) true fuel t cs = some y) : ∃ (ao : Option Addr) (xs : List α) (cap : Nat), cs = [.slice ao xs.length cap] ∧ LiesAt size f W ao cap xs ∧ xs.length ≤ cap ∧ LenOk xs.length ∧ ∀ x ∈ xs, Q x := by
 rcases Go.Deep.open_slice ht h with ⟨hcs, _⟩ | ⟨a, len, cap, m, n, D, Pl, hcs, _, hl, hm, hmm, _, hi⟩
 ·exact ⟨none, [], 0, hcs, fun k hk => by simp at hk, Nat.le_refl _, by unfold LenOk; simp, fun x hx => by cases hx⟩
 ·simp only [if_true] at hmm
  subst hmm
  have hlo : LenOk len := by unfold LenOk; unfold maxLen at hm; omega
  rcases Nat.eq_zero_or_pos len with h0 | hpos
  ·subst h0
   exact ⟨some a, [], m, hcs, fun k hk => by simp at hk, Nat.zero_le _, hlo, fun x hx => by cases hx⟩
  ·obtain ⟨xs, hxl, hx⟩ := pick_list (p := fun i x => Q x ∧ ∀ j, (hj : j < (f x).length) → W.cell? ((a.add (i * size)).add j) = some ((f x)[j])) len (fun i him => by
    obtain ⟨cs', hc, ht'⟩ := hi i (by omega)
    rw [hC] at hc
    obtain ⟨_, hcl, hat⟩ := World.cells?_some hc
    obtain ⟨x, rfl, hx⟩ := hel _ _ _ hcl ht'
    refine ⟨x, hx, fun j hj => ?_⟩
    rw [hat j (by rw [← hf x]; exact hj)]
    simp)
   obtain ⟨b, off, spot⟩ := a
   have hspot : spot = none := by simpa [Addr.add] using World.cell?_spot ((hx 0 (by omega)).2 0 (by rw [hf]; exact hs))
   subst hspot
   have hcell : ∀ k, (h : k < xs.length) → ∀ j, (h2 : j < (f xs[k]).length) → W.cell? ⟨b, off + k * size + j, none⟩ = some (f xs[k])[j] := fun k hk j hj => by
    have := (hx k hk).2 j hj
    rw [Go.WideShapes.add_plain, Go.WideShapes.add_plain] at this
    exact this
   refine ⟨some ⟨b, off, none⟩, xs, m, by rw [hxl]; exact hcs, fun k hk => ⟨b, off, rfl, cell_lt (hcell 0 (by omega) 0 (by rw [hf]; exact hs)), by rw [hxl]; exact hl, fun j hj => hcell k hk j hj⟩, by rw [hxl]; exact hl, by rw [hxl]; exact hlo, fun x hx' => ?_⟩
   obtain ⟨i, hi', rfl⟩ := List.getElem_of_mem hx'
   exact (hx i hi').1
end
end Go.Proofs.YtljjbdbgedmadaaGreatDoor
