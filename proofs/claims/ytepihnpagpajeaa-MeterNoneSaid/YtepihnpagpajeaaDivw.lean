/-
  The walk of math/bits.Div64: it returns quotient and rest, for every number of 64 bits, where the quotient fits; nothing turns.
-/
import Derived.Test.YtepihnpagpajeaaShelf
import Derived.Test.YtepihnpagpajeaaMem
import Derived.Test.YtepihnpagpajeaaDiv
import Derived.RegionTactic
import Derived.Deep.QuietTactic
import Derived.BigQuiet
namespace Go.Proofs.Ytepihnpagpajeaa
open Go.RowKit Go.Proofs.Mem
set_option linter.unusedVariables false
set_option linter.unusedSimpArgs false

theorem quo_rule (U n : Nat) (h : 0 < n) (hU : U < 18446744073709551616) : IntKind.u64.wrap ((U : Int) / (n : Int)) = ((U / n : Nat) : Int) := by
  have e : ((U / n : Nat) : Int) = (U : Int) / (n : Int) := by push_cast; rfl
  rw [← e, IntKind.wrap_u64]
  have := Nat.div_le_self U n
  generalize U / n = q at *
  omega
theorem rem_rule (U n : Nat) (h : 0 < n) (hU : U < 18446744073709551616) : IntKind.u64.wrap ((U : Int) - IntKind.u64.wrap (((U / n : Nat) : Int) * (n : Int))) = ((U % n : Nat) : Int) := by
  have e := Nat.div_add_mod' U n
  have e2 : ((U / n * n : Nat) : Int) = ((U / n : Nat) : Int) * (n : Int) := by push_cast; rfl
  rw [IntKind.wrap_u64, IntKind.wrap_u64, ← e2]
  generalize U / n * n = p at *
  generalize U % n = r at *
  omega
theorem mul_rule (q n T : Nat) (h : T = q * n) (hq : q < 4294967296) (hn : n < 4294967296) : IntKind.u64.wrap ((q : Int) * (n : Int)) = (T : Int) := by
  have e : ((q * n : Nat) : Int) = (q : Int) * (n : Int) := by push_cast; rfl
  have : q * n ≤ 4294967295 * 4294967295 := Nat.mul_le_mul (by omega) (by omega)
  rw [IntKind.wrap_u64, ← e, h]
  generalize q * n = p at *
  omega
theorem low_rule (r u L : Nat) (hL : L = r * 4294967296 + u) (hr : r < 4294967296) (hu : u < 4294967296) : IntKind.u64.wrap (IntKind.u64.wrap (4294967296 * (r : Int)) + (u : Int)) = (L : Int) := by
  rw [IntKind.wrap_u64, IntKind.wrap_u64]; omega
/-- Quotient and rest. -/
def QuoRem (N y : Nat) (w : World) (e : Ending) (w' : World) : Prop := ∃ q r : Nat, e = .returned (.tuple #[.int .u64 q, .int .u64 r]) ∧ N = q * y + r ∧ r < y ∧ q < 18446744073709551616 ∧ w = w'
theorem quorem_end (a b Z s : Nat) : Ending.returned (.tuple #[.int .u64 ((a : Int) * 4294967296 + (b : Int)), .int .u64 ((Z : Int) / 2 ^ s)]) = Ending.returned (.tuple #[.int .u64 ((a * 4294967296 + b : Nat) : Int), .int .u64 ((Z / 2 ^ s : Nat) : Int)]) := by
  have e1 : ((a * 4294967296 + b : Nat) : Int) = (a : Int) * 4294967296 + (b : Int) := by omega
  have e2 : ((Z / 2 ^ s : Nat) : Int) = (Z : Int) / 2 ^ s := by push_cast; rfl
  rw [e1, e2]
end Go.Proofs.Ytepihnpagpajeaa