/- From a row to its walk: what the listed variables hold gives what the library's code asks; the frame in which a walk is lifted. No condition. -/
import Derived.Test.YtfcbogoahangoaaDoorBase
import Derived.ProofKit
import Derived.LaidMore
import Derived.OpenShut
import Derived.ShutString
import Derived.Stop.Joined
import Derived.Stop.LaidErr
import Derived.Lib.LaidTab
import Derived.HandedShaped
import Derived.Shelf.Vars
namespace Go.Proofs.YtfcbogoahangoaaDoor
open Go.ChangeShapes Go.WideShapes Go.ChangeAt Go.RowKit

theorem own : ownKnob Tryd.prog.godebug = none := by kernel_rfl
def laidAll : List (String × DataW Unit) := [("math/bits.deBruijn32tab", Rows.laid_math_bits_deBruijn32tab), ("math/bits.deBruijn64tab", Rows.laid_math_bits_deBruijn64tab), ("internal/strconv.uint64pow10", Rows.laid_internal_strconv_uint64pow10), ("strconv.ErrRange", Rows.laid_strconv_ErrRange), ("strconv.ErrSyntax", Rows.laid_strconv_ErrSyntax)]
theorem glob1 : Tryd.prog.globalNamed "internal/bytealg.MaxLen" = some 1 := by kernel_rfl
theorem glob5 : Tryd.prog.globalNamed "math/bits.deBruijn64tab" = some 5 := by kernel_rfl
theorem ty0 : (Tryd.prog.globals[0]?).map (·.type) = some 95 := by kernel_rfl
theorem ty2 : (Tryd.prog.globals[2]?).map (·.type) = some 69 := by kernel_rfl
theorem ty3 : (Tryd.prog.globals[3]?).map (·.type) = some 69 := by kernel_rfl
theorem ty5 : (Tryd.prog.globals[5]?).map (·.type) = some 115 := by kernel_rfl
theorem cells79 : Tryd.prog.cellsOf 79 = 1 := by kernel_rfl
theorem cells95 : Tryd.prog.cellsOf 95 = 20 := by kernel_rfl
theorem cells5 : Tryd.prog.cellsOf 5 = 1 := by kernel_rfl
theorem cells115 : Tryd.prog.cellsOf 115 = 64 := by kernel_rfl
theorem cells113 : Tryd.prog.cellsOf 113 = 1 := by kernel_rfl
theorem cells9 : Tryd.prog.cellsOf 9 = 1 := by kernel_rfl

theorem star : "*errors.errorString" = "*" ++ "errors.errorString" := by decide
theorem row111 (u : TypeId) (h : Tryd.prog.typeName? 3 u = some "*errors.errorString") : u = 111 :=
  typeName_ptr_named (nm := "errors.errorString") (by rw [← star]; kernel_rfl) (by kernel_rfl) (by decide) u (by rw [← star]; exact h)
theorem block_of_var {w : World} {name : String} {g : Nat} {cs : Array Value} (hg : Tryd.prog.globalNamed name = some g) (h : w.var? Tryd.prog name = some cs) : g < w.heap.size := by
  rcases Nat.lt_or_ge g w.heap.size with h' | h'
  · exact h'
  · simp [World.var?, hg, Array.getElem?_eq_none h'] at h

theorem env_of {W : World} (hL : laidMetH Tryd.prog laidAll W) (hm : ∃ m, W.cell? ⟨1, 0, none⟩ = some (.int .i64 m)) : Env W := by
  rw [MakeChecks.laidMetH_plain _ _ _ (by kernel_rfl)] at hL
  have hL1 := laidMet.tail hL
  have hL2 := laidMet.tail hL1
  have hL3 := laidMet.tail hL2
  have hL4 := laidMet.tail hL3
  have t5 : Lib.TabIs Tryd.prog W "math/bits.deBruijn64tab" .u8 _ := Lib.tabIs_of_head (zs := [0, 1, 56, 2, 57, 49, 28, 3, 61, 58, 42, 50, 38, 29, 17, 4, 62, 47, 59, 36, 45, 43, 51, 22, 53, 39, 33, 30, 24, 18, 12, 5, 63, 55, 48, 27, 60, 41, 37, 16, 46, 35, 44, 21, 52, 32, 23, 11, 54, 26, 40, 15, 34, 20, 31, 10, 25, 14, 19, 9, 13, 8, 7, 6]) glob5 ty5 Tryd.underlying115 Tryd.underlying5 cells5 cells115 hL1
  have t0 : Lib.TabIs Tryd.prog W "internal/strconv.uint64pow10" .u64 Lib.pow10Tab := Lib.tabIs_of_head glob0 ty0 Tryd.underlying95 Tryd.underlying79 cells79 cells95 hL2
  obtain ⟨a3, s3, hv3, _⟩ := laid_sentinel hL3 glob3 ty3 Tryd.underlying69 row111 Tryd.underlying111 Tryd.underlying113 rfl rfl Tryd.underlying9 cells113 cells9
  obtain ⟨a2, s2, hv2, _⟩ := laid_sentinel hL4 glob2 ty2 Tryd.underlying69 row111 Tryd.underlying111 Tryd.underlying113 rfl rfl Tryd.underlying9 cells113 cells9
  exact ⟨t0, ⟨_, _, hv2⟩, ⟨_, _, hv3⟩, hm, block_of_var glob5 t5⟩

/-- The plain wrap with a condition and the world's shape. -/
theorem returns_all {H : Type} {enc : TypeId × Value → H} {a : Assume} {C : Checked} {os : Os} {f : FuncId} {fn : Func} {s : ChangeSpec} {conds : List PathCond} {apart fresh handsOn again : Bool} {X : World → Array Value → Prop}
    (hX : ∀ (w w' : World) (args : Array Value), w.heap = w'.heap → X w args → X w' args)
    (own : ownKnob C.prog.godebug = none) (started : os.Started) (noInit : C.prog.inits.idxOf? f = none) (hfn : C.prog.funcs[f]? = some fn)
    (witness : ∃ (w : World) (tape : Tape) (i : Input), w.os = os ∧ (w.forCall tape i).Shaped C.prog ∧ i.vars = [] ∧ Input.okWide C.prog (w.forCall tape i) .any w.heap.size f i ∧
      ((s.pre enc C.prog fn conds apart (w.forCall tape i).memory i.args ∧ X (w.forCall tape i).memory i.args) ∧ sizedMet enc C.prog fn (OpenSpec.ofChange s) apart (w.forCall tape i).memory i.args) ∧ a.holds C.prog (lone (Frame.enter C.prog f i.args .normal) [] (w.forCall tape i)))
    (contract : ∀ (W : World) (base : Nat) (args : Array Value) (ds gs : List (DataW H)) (before : List MemPlace),
      (∀ (j : Nat) t v, fn.params[j]? = some t → args[j]? = some v → Value.okWide C.prog W .any base t v) →
      DataW.Whole enc C.prog fn.params.toList s.vars apart W args.toList ds gs before →
      (DataW.weightsEach C.prog (fn.params.toList ++ s.plain.varTypes C.prog) (ds ++ gs)).all (· ≤ reachBytes) = true → X W args → W.ShapedOpen C.prog →
      Calls C.prog f args W fun e W' => ∃ v, e = .returned v ∧ s.post enc C.prog fn apart fresh handsOn again W args v W') :
    ReturnsInHanded a C os f .any (fun w args => (s.pre enc C.prog fn conds apart w args ∧ X w args) ∧ sizedMet enc C.prog fn (OpenSpec.ofChange s) apart w args) (s.post enc C.prog fn apart fresh handsOn again) := by
  refine returnsInHanded_of_calls own started noInit witness ?_
  intro w tape i _ hsh _ hok hpre _
  obtain ⟨_, _, _, fn', hfn', _, _, _, _, hval⟩ := hok
  have e : fn' = fn := Option.some.inj (hfn'.symm.trans hfn)
  subst e
  obtain ⟨⟨⟨ds, gs, before, hw, hc⟩, hx⟩, hz⟩ := hpre
  have hw' := DataW.Whole.of_heap (w' := w.forCall tape i) (by rfl) hw
  refine (contract (w.forCall tape i) w.heap.size i.args ds gs before hval hw' (hz.weights hw) (hX _ _ _ (by rfl) hx) hsh).mono fun e W' ⟨v, he, hp⟩ => ?_
  subst he
  exact ChangeSpec.post_blind hp

theorem cell_lt {w : World} {b o : Nat} {v : Value} (h : w.cell? ⟨b, o, none⟩ = some v) : b < w.heap.size := by
  rcases Nat.lt_or_ge b w.heap.size with h' | h'
  · exact h'
  · simp [World.cell?, Array.getElem?_eq_none h'] at h
theorem mx_of (W : World) (h : W.ShapedOpen Tryd.prog) : ∃ m, W.cell? ⟨1, 0, none⟩ = some (.int .i64 m) :=
  Go.Proofs.cell_of_shapedOpen_int (zero := #[.int .i64 0]) (t := 3) h (of_decide_eq_true (by kernel_rfl)) (by kernel_rfl) rfl (by kernel_rfl) (by kernel_rfl) Tryd.underlying3

/-- The door's own heap meets the condition: three closed facts. -/
theorem door_met (os : Os) (args : Array Value) : laidMetH Tryd.prog laidAll ((World.doorLaid Tryd.prog 400 os).forCall (fun _ _ => 0) ⟨#[], args, []⟩).memory :=
  laidMetH_of_parts3 (fuel := 8) (laidMet_of_run' 8 (by kernel_rfl) (by kernel_rfl)) (by kernel_rfl) (by kernel_rfl)

end Go.Proofs.YtfcbogoahangoaaDoor
