/-
  List at a store that isn't there.
-/
import Derived.Test.YtibekpfffimojaaSn
namespace Go.Proofs.Ytibekpfffimojaa
open Go.RowKit Go.Proofs.Mem
set_option linter.unusedVariables false
set_option linter.unusedSimpArgs false
set_option maxRecDepth 100000 in
theorem list_run_nil (l b1 b2 : Nat) (W : World) (h : W.cell? ⟨b1, 0, none⟩ = some (.pointer none)) :
    Calls Try.prog 24 #[.func (.yield l) #[] #[], .pointer (some ⟨b1, 0, none⟩), .pointer (some ⟨b2, 0, none⟩)] W fun e W' => e = .returned (.tuple #[]) ∧ W = W' := by
  go_enter Try.func24, Try.ntmps24
  go_wp2_with fail
  refine bodyPost_ret (results_none rfl _ _ _) rfl ?_
  exact ⟨rfl, rfl⟩
set_option maxRecDepth 100000 in
theorem list_nil (kind : Int) (w : World) : Calls Try.prog 12 #[.pointer none, .int .i64 kind] w fun e w' => e = .returned (.func (.func 24) #[] #[.pointer (some ⟨w.heap.size, 0, none⟩), .pointer (some ⟨w.heap.size + 1, 0, none⟩)]) ∧ w' = (w.alloc (.cells #[.pointer none] 47)).alloc (.cells #[.int .i64 kind] 3) := by
  go_enter Try.func12, Try.ntmps12
  go_wp2_with fail
  go_ret
  exact ⟨rfl, rfl⟩
end Go.Proofs.Ytibekpfffimojaa
