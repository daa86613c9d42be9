/-
  The kit's contract on slices.insertionSortCmpFunc at structs, laid at this dump, in plain words. No condition beside those that it names.
-/
import Derived.Shelf.SlSortCmp.InsertionK
import Derived.Ground.SlsfProg
import Derived.Test.YtkpklnalfomcbaaProg
namespace Go.Proofs
open Go.RowKit Go.Sort Go.Shelf
def Try.inscL_ren : Go.Shelf.Ren := ⟨fun | 20 => 60 | n => n, fun | 24 => 83 | 22 => 79 | 3 => 3 | 25 => 88 | 4 => 4 | 0 => 0 | n => n, fun | n => n⟩
theorem Try.inscL : Go.Proofs.SlLaysF0.n20 Try.prog Try.inscL_ren := {
  mixed := by kernel_rfl
  f20 := ⟨Try.f60.name, by decide, Try.func60.trans (congrArg some (by kernel_rfl))⟩
  t0 := Try.underlying0
  a0 := Try.isAgg0
  z0 := Try.sizeOf0
  v0 := Try.zeroValue0
  t3 := Try.underlying3
  a3 := Try.isAgg3
  z3 := Try.sizeOf3
  v3 := Try.zeroValue3
  t4 := Try.underlying4
  a4 := Try.isAgg4
  z4 := Try.sizeOf4
  v4 := Try.zeroValue4
  t22 := Try.underlying79
  a22 := Try.isAgg79
  z22 := Try.sizeOf79
  v22 := Try.zeroValue79
  t25 := Try.underlying88
  a25 := Try.isAgg88
  z25 := Try.sizeOf88
  v25 := Try.zeroValue88 }
end Go.Proofs
