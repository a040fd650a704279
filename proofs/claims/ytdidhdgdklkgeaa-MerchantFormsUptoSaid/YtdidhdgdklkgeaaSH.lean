/-
  The laying of slices.Insert at []int, as the kit's lay-plain.mjs wrote it at this claim's dump.
-/
import Derived.Ground.Names2Prog
import Derived.Shelf.Spec.SlicesInsert
import Derived.Shelf.Spec.SlicesInsertGrow
import Derived.Test.YtdidhdgdklkgeaaProg
namespace Go.Proofs
open Go.Shelf
def Try.laysNm221_ren : Go.Shelf.Ren := ⟨fun | 21 => 24 | 27 => 50 | 28 => 51 | 35 => 75 | 39 => 85 | n => n, fun | 22 => 29 | 3 => 3 | 4 => 4 | 0 => 0 | n => n, fun | n => n⟩
theorem Try.laysNm221 : Go.Proofs.Lays2.n21 Try.prog Try.laysNm221_ren := {
  mixed := by kernel_rfl
  f21 := Try.func24.trans (congrArg some (by kernel_rfl))
  f27 := Try.func50.trans (congrArg some (by kernel_rfl))
  f28 := Try.func51.trans (congrArg some (by kernel_rfl))
  f35 := Try.func75.trans (congrArg some (by kernel_rfl))
  f39 := Try.func85.trans (congrArg some (by kernel_rfl))
  t0 := Try.underlying0
  a0 := Try.isAgg0
  z0 := Try.sizeOf0
  v0 := Try.zeroValue0
  t3 := Try.underlying3
  a3 := Try.isAgg3
  z3 := Try.sizeOf3
  v3 := Try.zeroValue3
  t4 := Try.underlying4
  a4 := Try.isAgg4
  z4 := Try.sizeOf4
  v4 := Try.zeroValue4
  t22 := Try.underlying29
  a22 := Try.isAgg29
  z22 := Try.sizeOf29
  v22 := Try.zeroValue29
  i3 := by kernel_rfl }
end Go.Proofs
