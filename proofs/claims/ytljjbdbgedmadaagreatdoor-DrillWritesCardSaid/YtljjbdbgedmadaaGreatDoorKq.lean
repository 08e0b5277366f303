/- cmp.Compare at int and the insertion sort at holes, as the library has them, laid at this program (printed by the kit's lay-plain). No condition but each contract's own. -/
import Derived.Shelf.SlSortCmp.InsertionK
import Derived.Shelf.SlicesG.Cmp
import Derived.Test.YtljjbdbgedmadaaGreatDoorProg
namespace Go.Proofs
open Go.Shelf
def Tryz.cmpInt_ren : Go.Shelf.Ren := ⟨fun | 5 => 108 | 7 => 165 | n => n, fun | 22 => 3 | 3 => 3 | 4 => 4 | n => n, fun | n => n⟩
theorem Tryz.cmpInt : Go.Proofs.SlLaysC2.n5 Tryz.prog Tryz.cmpInt_ren := {
  mixed := by kernel_rfl
  f5 := ⟨Tryz.f108.name, by decide, Tryz.func108.trans (congrArg some (by kernel_rfl))⟩
  f7 := ⟨Tryz.f165.name, by decide, Tryz.func165.trans (congrArg some (by kernel_rfl))⟩
  t3 := Tryz.underlying3
  a3 := Tryz.isAgg3
  z3 := Tryz.sizeOf3
  v3 := Tryz.zeroValue3
  t4 := Tryz.underlying4
  a4 := Tryz.isAgg4
  z4 := Tryz.sizeOf4
  v4 := Tryz.zeroValue4
  t22 := Tryz.underlying3
  a22 := Tryz.isAgg3
  z22 := Tryz.sizeOf3
  v22 := Tryz.zeroValue3 }
def Tryz.holeSort_ren : Go.Shelf.Ren := ⟨fun | 20 => 163 | n => n, fun | 24 => 52 | 22 => 30 | 3 => 3 | 25 => 131 | 4 => 4 | 0 => 0 | n => n, fun | n => n⟩
theorem Tryz.holeSort : Go.Proofs.SlLaysF0.n20 Tryz.prog Tryz.holeSort_ren := {
  mixed := by kernel_rfl
  f20 := ⟨Tryz.f163.name, by decide, Tryz.func163.trans (congrArg some (by kernel_rfl))⟩
  t0 := Tryz.underlying0
  a0 := Tryz.isAgg0
  z0 := Tryz.sizeOf0
  v0 := Tryz.zeroValue0
  t3 := Tryz.underlying3
  a3 := Tryz.isAgg3
  z3 := Tryz.sizeOf3
  v3 := Tryz.zeroValue3
  t4 := Tryz.underlying4
  a4 := Tryz.isAgg4
  z4 := Tryz.sizeOf4
  v4 := Tryz.zeroValue4
  t22 := Tryz.underlying30
  a22 := Tryz.isAgg30
  z22 := Tryz.sizeOf30
  v22 := Tryz.zeroValue30
  t25 := Tryz.underlying131
  a25 := Tryz.isAgg131
  z25 := Tryz.sizeOf131
  v25 := Tryz.zeroValue131 }
end Go.Proofs
