/-
  The kit's contracts on maps.Values (string to int), its iterator and slices.Collect at int, laid at this dump, in plain words. No condition beside those that each names.
-/
import Derived.Shelf.SlIter.AllValues
import Derived.Shelf.SlIterI.Collect
import Derived.Ground.GgmProg
import Derived.Ground.GgzProg
import Derived.Test.YtkpklnalfomcbaaProg
namespace Go.Proofs
open Go.RowKit Go.Maps Go.Sort Go.Shelf
def Try.valuesL_ren : Go.Shelf.Ren := ⟨fun | 5 => 44 | 7 => 57 | n => n, fun | 23 => 77 | 27 => 9 | 3 => 3 | 25 => 110 | 0 => 0 | 24 => 109 | 33 => 115 | 4 => 4 | n => n, fun | n => n⟩
theorem Try.valuesL : Go.Proofs.SlLaysY.n5 Try.prog Try.valuesL_ren := {
  mixed := by kernel_rfl
  f5 := ⟨Try.f44.name, by decide, Try.func44.trans (congrArg some (by kernel_rfl))⟩
  f7 := ⟨Try.f57.name, by decide, Try.func57.trans (congrArg some (by kernel_rfl))⟩
  t0 := Try.underlying0
  a0 := Try.isAgg0
  z0 := Try.sizeOf0
  v0 := Try.zeroValue0
  t3 := Try.underlying3
  a3 := Try.isAgg3
  z3 := Try.sizeOf3
  v3 := Try.zeroValue3
  t4 := Try.underlying4
  a4 := Try.isAgg4
  z4 := Try.sizeOf4
  v4 := Try.zeroValue4
  t23 := Try.underlying77
  a23 := Try.isAgg77
  z23 := Try.sizeOf77
  v23 := Try.zeroValue77
  t24 := Try.underlying109
  a24 := Try.isAgg109
  z24 := Try.sizeOf109
  v24 := Try.zeroValue109
  t25 := Try.underlying110
  a25 := Try.isAgg110
  z25 := Try.sizeOf110
  v25 := Try.zeroValue110
  t27 := Try.underlying9
  a27 := Try.isAgg9
  z27 := Try.sizeOf9
  v27 := Try.zeroValue9
  t33 := Try.underlying115
  a33 := Try.isAgg115
  z33 := Try.sizeOf115
  v33 := Try.zeroValue115 }
def Try.collectL_ren : Go.Shelf.Ren := ⟨fun | 8 => 43 | 11 => 56 | n => n, fun | 26 => 3 | 28 => 110 | 24 => 107 | 0 => 0 | 33 => 115 | 4 => 4 | n => n, fun | n => n⟩
theorem Try.collectL : Go.Proofs.SlLaysZI.n8 Try.prog Try.collectL_ren := {
  mixed := by kernel_rfl
  f8 := ⟨Try.f43.name, by decide, Try.func43.trans (congrArg some (by kernel_rfl))⟩
  f11 := ⟨Try.f56.name, by decide, Try.func56.trans (congrArg some (by kernel_rfl))⟩
  t0 := Try.underlying0
  a0 := Try.isAgg0
  z0 := Try.sizeOf0
  v0 := Try.zeroValue0
  t24 := Try.underlying107
  a24 := Try.isAgg107
  z24 := Try.sizeOf107
  v24 := Try.zeroValue107
  t26 := Try.underlying3
  a26 := Try.isAgg3
  z26 := Try.sizeOf3
  v26 := Try.zeroValue3
  t28 := Try.underlying110
  a28 := Try.isAgg110
  z28 := Try.sizeOf110
  v28 := Try.zeroValue110
  i26 := by kernel_rfl }
end Go.Proofs
