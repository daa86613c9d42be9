/-
  gauge.Read of one tenth.
-/
import Derived.Test.YtjiliegfcljjhaaGreatRow
import Derived.Test.YtjiliegfcljjhaaGreatProg
import Derived.Deep.RegionLaw
import Derived.IntWalk
namespace Go.Proofs.YtjiliegfcljjhaaGreat
open Go.RowKit Go.Proofs.Mem
set_option linter.unusedVariables false
set_option linter.unusedSimpArgs false
theorem halved_one (w : World) : Calls Tryz.prog 50 #[.int .u64 7205759403792794000, .int .i64 56] w fun e w' => e = .returned (.int .u64 100) ∧ Below w.heap.size w w' := by
  have h1 : bits BinOp.and IntKind.u64 7205759403792794000 72057594037927935 = 400 := by decide +kernel
  go_enter Tryz.func50, Tryz.ntmps50
  go_wp2_with fail
  go_region
  go_wp2_with fail
  go_ret
  exact ⟨rfl, (Below.refl _ _).drew⟩
theorem parts_one (w : World) : Calls Tryz.prog 48 #[.int .u64 4591870180066957722] w fun e w' => e = .returned (.tuple #[.int .u64 7205759403792794, .int .i64 (-56)]) ∧ w' = w := by
  have h1 : bits BinOp.and IntKind.u64 4591870180066957722 4503599627370495 = 2702159776422298 := by decide +kernel
  have h2 : bits BinOp.or IntKind.u64 2702159776422298 4503599627370496 = 7205759403792794 := by decide +kernel
  go_enter Tryz.func48, Tryz.ntmps48
  go_wp2_with fail
  go_ret2
  exact ⟨rfl, rfl⟩
theorem isnan_one (w : World) : Calls Tryz.prog 46 #[.float .f64 4591870180066957722] w fun e w' => e = .returned (.bool false) ∧ w' = w := by
  have h1 : (FloatKind.f64.format.order 4591870180066957722 4591870180066957722 != some Ordering.eq) = false := by decide +kernel
  go_enter Tryz.func46, Tryz.ntmps46
  go_wp2_with fail
  go_ret
  exact ⟨rfl, rfl⟩
theorem fbits (w : World) : (callFunc 103 #[.float .f64 4591870180066957722]).run Tryz.prog w = .ok (.value (.int .u64 4591870180066957722)) w := by kernel_rfl
theorem ffrom (w : World) : (callFunc 45 #[.int .u64 4591870180066957722]).run Tryz.prog w = .ok (.value (.float .f64 4591870180066957722)) w := by kernel_rfl
set_option maxRecDepth 100000 in
theorem abs_one (w : World) : Calls Tryz.prog 76 #[.float .f64 4591870180066957722] w fun e w' => e = .returned (.float .f64 4591870180066957722) ∧ w' = w := by
  have hb := fbits
  have hf := ffrom
  have h1 : bits BinOp.andNot IntKind.u64 4591870180066957722 9223372036854775808 = 4591870180066957722 := by decide +kernel
  go_enter Tryz.func76, Tryz.ntmps76
  go_wp2_with fail
  go_ret
  exact ⟨rfl, rfl⟩
theorem isinf_one (w : World) : Calls Tryz.prog 47 #[.float .f64 4591870180066957722, .int .i64 0] w fun e w' => e = .returned (.bool false) ∧ w' = w := by
  have h1 : (FloatKind.f64.format.order 4591870180066957722 9218868437227405311 == some Ordering.gt) = false := by decide +kernel
  go_enter Tryz.func47, Tryz.ntmps47
  go_wp2_with fail
  refine (abs_one w).mono ?_
  rintro e w1 ⟨rfl, rfl⟩
  go_wp2_with fail
  go_ret
  exact ⟨rfl, rfl⟩
set_option maxRecDepth 100000 in
theorem gread_one (w : World) : Calls Tryz.prog 26 #[.int .u64 4591870180066957722] w fun e w' => e = .returned (.tuple #[.int .i64 100, .int .i64 0]) ∧ Below w.heap.size w w' := by
  have hf := ffrom
  have h2 : (FloatKind.f64.format.order 4591870180066957722 0 == some Ordering.lt) = false := by decide +kernel
  have h3 : (FloatKind.f64.format.order 4591870180066957722 4845873199050653696 == some Ordering.gt) = false := by decide +kernel
  have h4 : (FloatKind.f64.format.order 4591870180066957722 0 == some Ordering.eq) = false := by decide +kernel
  go_enter Tryz.func26, Tryz.ntmps26
  go_wp2_with fail
  refine (isnan_one w).mono ?_
  rintro e w1 ⟨rfl, rfl⟩
  go_wp2_with fail
  refine (isinf_one _).mono ?_
  rintro e w1 ⟨rfl, rfl⟩
  go_wp2_with fail
  refine (parts_one _).mono ?_
  rintro e w1 ⟨rfl, rfl⟩
  go_wp2_with fail
  refine (halved_one _).mono ?_
  rintro e w2 ⟨rfl, hb⟩
  go_wp2_with fail
  go_ret2
  exact ⟨rfl, hb⟩
end Go.Proofs.YtjiliegfcljjhaaGreat
