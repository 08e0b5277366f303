/- From a row to its walk: rows and test points out of arguments; what the listed variables hold gives what the library's code asks; the frame in which a walk is lifted. No condition. -/
import Derived.Test.YtldjhjbodhhnbaaDoorRq
import Derived.ProofKit
import Derived.LaidMore
import Derived.OpenShut
import Derived.ShutString
import Derived.Stop.Joined
import Derived.Stop.LaidErr
import Derived.Lib.LaidTab
import Derived.HandedShaped
import Derived.Shelf.Vars
import Derived.Deep.Slices
import Derived.Deep.Fields
import Derived.ChangeSame
import Derived.Lib.SmallJoins
namespace Go.Proofs.YtldjhjbodhhnbaaDoor
open Go.ChangeShapes Go.WideShapes Go.ChangeAt Go.RowKit

theorem own : ownKnob Tryd.prog.godebug = none := by kernel_rfl
def laidAll : List (String × DataW Unit) := [("math/bits.deBruijn32tab", Rows.laid_math_bits_deBruijn32tab), ("math/bits.deBruijn64tab", Rows.laid_math_bits_deBruijn64tab), ("internal/strconv.uint64pow10", Rows.laid_internal_strconv_uint64pow10), ("strconv.ErrRange", Rows.laid_strconv_ErrRange), ("strconv.ErrSyntax", Rows.laid_strconv_ErrSyntax)]
theorem glob5 : Tryd.prog.globalNamed "math/bits.deBruijn64tab" = some 5 := by kernel_rfl
theorem ty1 : (Tryd.prog.globals[1]?).map (·.type) = some 123 := by kernel_rfl
theorem ty2 : (Tryd.prog.globals[2]?).map (·.type) = some 73 := by kernel_rfl
theorem ty3 : (Tryd.prog.globals[3]?).map (·.type) = some 73 := by kernel_rfl
theorem ty5 : (Tryd.prog.globals[5]?).map (·.type) = some 142 := by kernel_rfl
theorem cells110 : Tryd.prog.cellsOf 110 = 1 := by kernel_rfl
theorem cells123 : Tryd.prog.cellsOf 123 = 20 := by kernel_rfl
theorem cells5 : Tryd.prog.cellsOf 5 = 1 := by kernel_rfl
theorem cells142 : Tryd.prog.cellsOf 142 = 64 := by kernel_rfl
theorem cells140 : Tryd.prog.cellsOf 140 = 1 := by kernel_rfl
theorem cells9 : Tryd.prog.cellsOf 9 = 1 := by kernel_rfl
theorem cells3 : Tryd.prog.cellsOf 3 = 1 := by kernel_rfl
theorem cells4 : Tryd.prog.cellsOf 4 = 1 := by kernel_rfl
theorem cells31 : Tryd.prog.cellsOf 31 = 2 := by kernel_rfl
theorem cells52 : Tryd.prog.cellsOf 52 = 2 := by kernel_rfl
theorem cells33 : Tryd.prog.cellsOf 33 = 6 := by kernel_rfl
theorem cells54 : Tryd.prog.cellsOf 54 = 6 := by kernel_rfl
theorem cells41 : Tryd.prog.cellsOf 41 = 3 := by kernel_rfl

theorem star : "*errors.errorString" = "*" ++ "errors.errorString" := by decide
theorem row138 (u : TypeId) (h : Tryd.prog.typeName? 3 u = some "*errors.errorString") : u = 138 :=
  typeName_ptr_named (nm := "errors.errorString") (by rw [← star]; kernel_rfl) (by kernel_rfl) (by decide) u (by rw [← star]; exact h)
theorem block_of_var {w : World} {name : String} {g : Nat} {cs : Array Value} (hg : Tryd.prog.globalNamed name = some g) (h : w.var? Tryd.prog name = some cs) : g < w.heap.size := by
  rcases Nat.lt_or_ge g w.heap.size with h' | h'
  · exact h'
  · simp [World.var?, hg, Array.getElem?_eq_none h'] at h

theorem env_of {W : World} (hL : laidMetH Tryd.prog laidAll W) (hm : ∃ m, W.cell? ⟨0, 0, none⟩ = some (.int .i64 m)) : Env W := by
  rw [MakeChecks.laidMetH_plain _ _ _ (by kernel_rfl)] at hL
  have hL1 := laidMet.tail hL
  have hL2 := laidMet.tail hL1
  have hL3 := laidMet.tail hL2
  have hL4 := laidMet.tail hL3
  have t5 : Lib.TabIs Tryd.prog W "math/bits.deBruijn64tab" .u8 _ := Lib.tabIs_of_head (zs := [0, 1, 56, 2, 57, 49, 28, 3, 61, 58, 42, 50, 38, 29, 17, 4, 62, 47, 59, 36, 45, 43, 51, 22, 53, 39, 33, 30, 24, 18, 12, 5, 63, 55, 48, 27, 60, 41, 37, 16, 46, 35, 44, 21, 52, 32, 23, 11, 54, 26, 40, 15, 34, 20, 31, 10, 25, 14, 19, 9, 13, 8, 7, 6]) glob5 ty5 Tryd.underlying142 Tryd.underlying5 cells5 cells142 hL1
  have t1 : Lib.TabIs Tryd.prog W "internal/strconv.uint64pow10" .u64 Lib.pow10Tab := Lib.tabIs_of_head glob1 ty1 Tryd.underlying123 Tryd.underlying110 cells110 cells123 hL2
  obtain ⟨a3, s3, hv3, _⟩ := laid_sentinel hL3 glob3 ty3 Tryd.underlying73 row138 Tryd.underlying138 Tryd.underlying140 rfl rfl Tryd.underlying9 cells140 cells9
  obtain ⟨a2, s2, hv2, _⟩ := laid_sentinel hL4 glob2 ty2 Tryd.underlying73 row138 Tryd.underlying138 Tryd.underlying140 rfl rfl Tryd.underlying9 cells140 cells9
  exact ⟨t1, ⟨_, _, hv2⟩, ⟨_, _, hv3⟩, hm, block_of_var glob5 t5⟩

/-- The plain wrap with a condition and the world's shape. -/
theorem returns_all {H : Type} {enc : TypeId × Value → H} {a : Assume} {C : Checked} {os : Os} {f : FuncId} {fn : Func} {s : ChangeSpec} {conds : List PathCond} {apart fresh handsOn again : Bool} {X : World → Array Value → Prop}
    (hX : ∀ (w w' : World) (args : Array Value), w.heap = w'.heap → X w args → X w' args)
    (own : ownKnob C.prog.godebug = none) (started : os.Started) (noInit : C.prog.inits.idxOf? f = none) (hfn : C.prog.funcs[f]? = some fn)
    (witness : ∃ (w : World) (tape : Tape) (i : Input), w.os = os ∧ (w.forCall tape i).Shaped C.prog ∧ i.vars = [] ∧ Input.okWide C.prog (w.forCall tape i) .any w.heap.size f i ∧
      ((s.pre enc C.prog fn conds apart (w.forCall tape i).memory i.args ∧ X (w.forCall tape i).memory i.args) ∧ sizedMet enc C.prog fn (OpenSpec.ofChange s) apart (w.forCall tape i).memory i.args) ∧ a.holds C.prog (lone (Frame.enter C.prog f i.args .normal) [] (w.forCall tape i)))
    (contract : ∀ (W : World) (base : Nat) (args : Array Value) (ds gs : List (DataW H)) (before : List MemPlace),
      (∀ (j : Nat) t v, fn.params[j]? = some t → args[j]? = some v → Value.okWide C.prog W .any base t v) →
      DataW.Whole enc C.prog fn.params.toList s.vars apart W args.toList ds gs before →
      (DataW.weightsEach C.prog (fn.params.toList ++ s.plain.varTypes C.prog) (ds ++ gs)).all (· ≤ reachBytes) = true → X W args → W.ShapedOpen C.prog →
      Calls C.prog f args W fun e W' => ∃ v, e = .returned v ∧ s.post enc C.prog fn apart fresh handsOn again W args v W') :
    ReturnsInHanded a C os f .any (fun w args => (s.pre enc C.prog fn conds apart w args ∧ X w args) ∧ sizedMet enc C.prog fn (OpenSpec.ofChange s) apart w args) (s.post enc C.prog fn apart fresh handsOn again) := by
  refine returnsInHanded_of_calls own started noInit witness ?_
  intro w tape i _ hsh _ hok hpre _
  obtain ⟨_, _, _, fn', hfn', _, _, _, _, hval⟩ := hok
  have e : fn' = fn := Option.some.inj (hfn'.symm.trans hfn)
  subst e
  obtain ⟨⟨⟨ds, gs, before, hw, hc⟩, hx⟩, hz⟩ := hpre
  have hw' := DataW.Whole.of_heap (w' := w.forCall tape i) (by rfl) hw
  refine (contract (w.forCall tape i) w.heap.size i.args ds gs before hval hw' (hz.weights hw) (hX _ _ _ (by rfl) hx) hsh).mono fun e W' ⟨v, he, hp⟩ => ?_
  subst he
  exact ChangeSpec.post_blind hp

theorem mx_of (W : World) (h : W.ShapedOpen Tryd.prog) : ∃ m, W.cell? ⟨0, 0, none⟩ = some (.int .i64 m) :=
  Go.Proofs.cell_of_shapedOpen_int (zero := #[.int .i64 0]) (t := 3) h (of_decide_eq_true (by kernel_rfl)) (by kernel_rfl) rfl (by kernel_rfl) (by kernel_rfl) Tryd.underlying3

/-- The door's own heap meets the condition: three closed facts. -/
theorem door_met (os : Os) (args : Array Value) : laidMetH Tryd.prog laidAll ((World.doorLaid Tryd.prog 400 os).forCall (fun _ _ => 0) ⟨#[], args, []⟩).memory :=
  laidMetH_of_parts3 (fuel := 8) (laidMet_of_run' 8 (by kernel_rfl) (by kernel_rfl)) (by kernel_rfl) (by kernel_rfl)


theorem i64_of_wf {n : Int} (h : (Lit.int .i64 n).wf = true) : Wr.I64 n := by
  have h1 : IntKind.i64.min = -9223372036854775808 := rfl
  have h2 : IntKind.i64.max = 9223372036854775807 := rfl
  simp only [Lit.wf, Bool.and_eq_true, decide_eq_true_eq] at h
  unfold Wr.I64; omega
section
variable {H : Type} {enc : TypeId × Value → H} {W : World} {sp : Nat → Bool}
theorem one_int {n : Nat} {c : Value} {y : DataW H × List MemPlace} (h : DataW.trod enc Tryd.prog W 0 sp true n 3 [c] = some y) : ∃ k : Int, c = .int .i64 k ∧ Wr.I64 k := by
  obtain ⟨k, e, _, wk⟩ := DataW.trod_int Tryd.underlying3 h
  simp only [List.cons.injEq, and_true] at e
  exact ⟨k, e, i64_of_wf wk⟩
theorem one_bool {n : Nat} {c : Value} {y : DataW H × List MemPlace} (h : DataW.trod enc Tryd.prog W 0 sp true n 4 [c] = some y) : ∃ b : Bool, c = .bool b := by
  obtain ⟨b, e, _⟩ := DataW.trod_bool Tryd.underlying4 h
  simp only [List.cons.injEq, and_true] at e
  exact ⟨b, e⟩
theorem one_str {n : Nat} {c : Value} {y : DataW H × List MemPlace} (h : DataW.trod enc Tryd.prog W 0 sp true n 9 [c] = some y) : ∃ s : List UInt8, c = .string ⟨s.toArray⟩ ∧ s.length ≤ 9223372036854775807 := by
  obtain ⟨s, e, _, hs⟩ := DataW.trod_string Tryd.underlying9 h
  simp only [List.cons.injEq, and_true] at e
  unfold maxLen at hs
  exact ⟨s.data.toList, by rw [e], by show s.data.toList.length ≤ _; simpa using hs⟩
theorem two_ints {n : Nat} {c d : Value} {y : DataW H × List MemPlace} (h : DataW.trod enc Tryd.prog W 0 sp true n 31 [c, d] = some y) : ∃ k m : Int, c = .int .i64 k ∧ d = .int .i64 m ∧ Wr.I64 k ∧ Wr.I64 m := by
  obtain ⟨xs, m, _, _, _, hxl, hg⟩ := DataW.trod_struct Tryd.underlying31 h
  match xs, hxl with
  | [y0, y1], _ =>
    have g0 := hg 0 _ rfl
    have g1 := hg 1 _ rfl
    simp [cells3] at g0 g1
    obtain ⟨k, rfl, hk⟩ := one_int g0
    obtain ⟨m, rfl, hm⟩ := one_int g1
    exact ⟨k, m, rfl, rfl, hk, hm⟩
theorem two_strs {n : Nat} {c d : Value} {y : DataW H × List MemPlace} (h : DataW.trod enc Tryd.prog W 0 sp true n 52 [c, d] = some y) : ∃ s t : List UInt8, c = .string ⟨s.toArray⟩ ∧ d = .string ⟨t.toArray⟩ ∧ s.length ≤ 9223372036854775807 ∧ t.length ≤ 9223372036854775807 := by
  obtain ⟨xs, m, _, _, _, hxl, hg⟩ := DataW.trod_struct Tryd.underlying52 h
  match xs, hxl with
  | [y0, y1], _ =>
    have g0 := hg 0 _ rfl
    have g1 := hg 1 _ rfl
    simp [cells9] at g0 g1
    obtain ⟨k, rfl, hk⟩ := one_str g0
    obtain ⟨m, rfl, hm⟩ := one_str g1
    exact ⟨k, m, rfl, rfl, hk, hm⟩
/-- What is asked of an argument's element. -/
def ArgEl (ks : List Li.Kd) (x : List Li.Fld) : Prop := Li.Good ks x ∧ ∀ t, Li.Fld.s t ∈ x → t.length ≤ 9223372036854775807
set_option maxRecDepth 100000 in
theorem el_row {n : Nat} {cs : List Value} {y : DataW H × List MemPlace} (h : DataW.trod enc Tryd.prog W 0 sp true n 33 cs = some y) : ∃ x : List Li.Fld, cs = x.map fldVal ∧ ArgEl Li.rowK x := by
  obtain ⟨xs, m, _, _, hl, hxl, hg⟩ := DataW.trod_struct Tryd.underlying33 h
  rw [cells33] at hl
  match cs, hl, xs, hxl with
  | [c0, c1, c2, c3, c4, c5], _, [y0, y1, y2, y3, y4], _ =>
    have g0 := hg 0 _ rfl
    have g1 := hg 1 _ rfl
    have g2 := hg 2 _ rfl
    have g3 := hg 3 _ rfl
    have g4 := hg 4 _ rfl
    simp [cells3, cells9, cells4, cells31] at g0 g1 g2 g3 g4
    obtain ⟨a, rfl, ha⟩ := one_str g0
    obtain ⟨b, rfl, hb⟩ := one_str g1
    obtain ⟨p, q, rfl, rfl, hp, hq⟩ := two_ints g2
    obtain ⟨t, rfl, ht⟩ := one_int g3
    obtain ⟨u, rfl⟩ := one_bool g4
    refine ⟨[.s a, .s b, .i p, .i q, .i t, .b u], rfl, ⟨rfl, fun f hf => ?_⟩, fun s hs => ?_⟩
    · simp at hf
      rcases hf with rfl | rfl | rfl | rfl | rfl | rfl <;> simp_all [Li.Fld.ok]
    · simp at hs
      rcases hs with rfl | rfl <;> assumption
set_option maxRecDepth 100000 in
theorem el_probe {n : Nat} {cs : List Value} {y : DataW H × List MemPlace} (h : DataW.trod enc Tryd.prog W 0 sp true n 54 cs = some y) : ∃ x : List Li.Fld, cs = x.map fldVal ∧ ArgEl Li.probeK x := by
  obtain ⟨xs, m, _, _, hl, hxl, hg⟩ := DataW.trod_struct Tryd.underlying54 h
  rw [cells54] at hl
  match cs, hl, xs, hxl with
  | [c0, c1, c2, c3, c4, c5], _, [y0, y1, y2, y3], _ =>
    have g0 := hg 0 _ rfl
    have g1 := hg 1 _ rfl
    have g2 := hg 2 _ rfl
    have g3 := hg 3 _ rfl
    simp [cells3, cells52, cells31] at g0 g1 g2 g3
    obtain ⟨c, rfl, hc⟩ := one_int g0
    obtain ⟨a, b, rfl, rfl, ha, hb⟩ := two_strs g1
    obtain ⟨p, q, rfl, rfl, hp, hq⟩ := two_ints g2
    obtain ⟨t, rfl, ht⟩ := one_int g3
    refine ⟨[.i c, .s a, .s b, .i p, .i q, .i t], rfl, ⟨rfl, fun f hf => ?_⟩, fun s hs => ?_⟩
    · simp at hf
      rcases hf with rfl | rfl | rfl | rfl | rfl | rfl <;> simp_all [Li.Fld.ok]
    · simp at hs
      rcases hs with rfl | rfl <;> assumption
theorem pick_list {α : Type} {p : Nat → α → Prop} : ∀ n : Nat, (∀ i, i < n → ∃ x, p i x) → ∃ xs : List α, xs.length = n ∧ ∀ i, (h : i < xs.length) → p i xs[i]
  | 0, _ => ⟨[], rfl, fun i h => by simp at h⟩
  | n + 1, h => by
    obtain ⟨xs, hl, hx⟩ := pick_list n (fun i hi => h i (by omega))
    obtain ⟨x, hp⟩ := h n (by omega)
    refine ⟨xs ++ [x], by simp [hl], fun i hi => ?_⟩
    rcases Nat.lt_or_ge i xs.length with h1 | h1
    · rw [List.getElem_append_left h1]; exact hx i h1
    · have : i = xs.length := by simp at hi; omega
      subst this
      simp [hl, hp]
theorem open_els {t e : TypeId} {ks : List Li.Kd} {fuel : Nat} {cs : List Value} {x : DataW H × List MemPlace} (ht : Tryd.prog.underlying t = some (.slice e)) (hC : Tryd.prog.cellsOf e = 6) (h6 : ks.length = 6)
    (hel : ∀ (n : Nat) (cs : List Value) (y : DataW H × List MemPlace), DataW.trod enc Tryd.prog W 0 (fun _ => true) true n e cs = some y → ∃ x : List Li.Fld, cs = x.map fldVal ∧ ArgEl ks x)
    (h : DataW.trod enc Tryd.prog W 0 (fun _ => true) true fuel t cs = some x) : ∃ (v : Value) (xs : List (List Li.Fld)), cs = [v] ∧ IsArg W v xs ∧ ∀ x ∈ xs, ArgEl ks x := by
  rcases Go.Deep.open_slice ht h with ⟨hcs, _⟩ | ⟨a, len, cap, m, n, D, Pl, hcs, _, hl, hm, hmm, _, hi⟩
  · exact ⟨_, [], hcs, .inl ⟨none, 0, rfl, rfl⟩, by simp⟩
  · simp only [if_true] at hmm
    subst hmm
    unfold maxLen at hm
    rcases Nat.eq_zero_or_pos len with h0 | hpos
    · subst h0
      exact ⟨_, [], hcs, .inl ⟨_, _, rfl, rfl⟩, by simp⟩
    · obtain ⟨xs, hxl, hx⟩ := pick_list (p := fun i x => ArgEl ks x ∧ ∀ j, (hj : j < x.length) → W.cell? ((a.add (i * 6)).add j) = some (fldVal x[j])) (min len 8) (fun i him => by
        obtain ⟨cs', hc, ht'⟩ := hi i (by omega)
        rw [hC] at hc
        obtain ⟨x, rfl, hx⟩ := hel _ _ _ ht'
        obtain ⟨_, hcl, hat⟩ := World.cells?_some hc
        refine ⟨x, hx, fun j hj => ?_⟩
        have hx6 : x.length = 6 := by have := congrArg List.length hx.1.1; rw [List.length_map, h6] at this; exact this
        rw [hat j (by omega)]
        simp [hj])
      obtain ⟨b, off, spot⟩ := a
      have hx0 := hx 0 (by omega)
      have hx06 : (xs[0]'(by omega)).length = 6 := by have := congrArg List.length hx0.1.1.1; rw [List.length_map, h6] at this; exact this
      have hspot : spot = none := by simpa [Addr.add] using World.cell?_spot (hx0.2 0 (by omega))
      subst hspot
      have hcell : ∀ k, (h : k < xs.length) → ∀ j, (h2 : j < xs[k].length) → W.cell? ⟨b, off + k * 6 + j, none⟩ = some (fldVal xs[k][j]) := fun k hk j hj => by
        have := (hx k hk).2 j hj
        rw [Go.WideShapes.add_plain, Go.WideShapes.add_plain] at this
        exact this
      exact ⟨_, xs, hcs, .inr ⟨b, off, len, m, rfl, hl, by omega, hxl, cell_lt (hcell 0 (by omega) 0 (by omega)), hcell⟩, fun x hx' => by
        obtain ⟨i, hi', rfl⟩ := List.getElem_of_mem hx'
        exact (hx i hi').1⟩
theorem open_rows {v : Value} {d : DataW H} {p : List MemPlace} (h : DataW.Trod enc Tryd.prog W 0 (fun _ => true) true 22 v d p) (hc : v.cells = #[v]) : ∃ xs, IsArg W v xs ∧ ∀ x ∈ xs, ArgEl Li.rowK x := by
  obtain ⟨fuel, hf⟩ := h
  rw [hc] at hf
  obtain ⟨v', xs, e, hi, hx⟩ := open_els Tryd.underlying22 cells33 rfl (fun _ _ _ h => el_row h) hf
  simp only [List.cons.injEq, and_true] at e
  subst e
  exact ⟨xs, hi, hx⟩
theorem open_probes {v : Value} {d : DataW H} {p : List MemPlace} (h : DataW.Trod enc Tryd.prog W 0 (fun _ => true) true 23 v d p) (hc : v.cells = #[v]) : ∃ xs, IsArg W v xs ∧ ∀ x ∈ xs, ArgEl Li.probeK x := by
  obtain ⟨fuel, hf⟩ := h
  rw [hc] at hf
  obtain ⟨v', xs, e, hi, hx⟩ := open_els Tryd.underlying23 cells54 rfl (fun _ _ _ h => el_probe h) hf
  simp only [List.cons.injEq, and_true] at e
  subst e
  exact ⟨xs, hi, hx⟩
end
end Go.Proofs.YtldjhjbodhhnbaaDoor
