/-
  What trimtabref06.Empty and Short say of an object that was read: true.
-/
import Derived.Test.YthdjfcfbmmmmcaaOr1
import Derived.Test.YthdjfcfbmmmmcaaEmpty0
import Derived.Test.YthdjfcfbmmmmcaaEmpty1
import Derived.Test.YthdjfcfbmmmmcaaEmpty2
import Derived.Test.YthdjfcfbmmmmcaaEmpty3
import Derived.Test.YthdjfcfbmmmmcaaEmpty4
namespace Go.Proofs.Ythdjfcfbmmmmcaa
open Go.RowKit Go.Proofs.Mem
set_option linter.unusedVariables false
theorem says_empty : Says 9 := by
  intro o w h ho _
  rcases h with ⟨n, v, x, rfl⟩ | ⟨n, v, x, rfl⟩ | ⟨n, v, x, rfl⟩ | ⟨n, v, x, rfl⟩ | ⟨n, v, x, rfl⟩
  · exact empty_0 n v x w ho.w
  · exact empty_1 n v x w ho.p
  · exact empty_2 n v x w ho.n
  · exact empty_3 n v x w ho.g
  · exact empty_4 n v x w ho.h
theorem octetReads_walk (A : Option Addr) (n c : Nat) (w : World) (h : Mem.Ok Try.prog w 9 22 (Value.slice A n c).cells.toList) :
    Calls Try.prog 3 #[.slice A n c] w fun e w' => e = .returned (.bool true) ∧ Below w.heap.size w w' := octetReads_any says_empty says_short A n c w h
end Go.Proofs.Ythdjfcfbmmmmcaa
