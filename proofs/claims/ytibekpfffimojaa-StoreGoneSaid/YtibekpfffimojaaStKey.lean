/-
  The keys of a store's map: a kind and a name.
-/
import Derived.Test.YtibekpfffimojaaBig
import Derived.Test.YtibekpfffimojaaMaps
import Derived.DeepKeys4
import Derived.ProofKit
namespace Go.Proofs.Ytibekpfffimojaa
open Go.RowKit Go.Proofs.Mem
open Go.Maps (Keyed)
set_option linter.unusedVariables false
set_option linter.unusedSimpArgs false
theorem laidOutS : laidOutB Try.prog = true := by kernel_rfl
theorem stK : Keyed Try.prog 77 := Keyed.of_law (deep_law_laid laidOutS (m := 100) (by omega) (of_decide_eq_true (by kernel_rfl)) (by kernel_rfl) (by kernel_rfl))
/-- The key of a kind and a name, as the datum has it. -/
def kOf (kind : Int) (name : ByteArray) : Lit := .string (keyBytes [.int .i64 kind, .string name.data.toList])
set_option maxRecDepth 100000 in
theorem keyOf_st (kind : Int) (name : ByteArray) (hk : (Lit.int .i64 kind).wf = true) (hn : name.size ≤ maxLen) : keyOf Try.prog 77 (.agg #[.int .i64 kind, .string name]) = some (kOf kind name) := by
  have e2 : Try.prog.keyType 77 = true := by kernel_rfl
  have e4 : Try.prog.cellsOf 77 = 2 := by kernel_rfl
  have e5 : Try.prog.cellsOf 3 = 1 := by kernel_rfl
  have e6 : Try.prog.cellsOf 9 = 1 := by kernel_rfl
  have e7 : ∃ m, Try.prog.types.size = m + 1 := ⟨Try.prog.types.size - 1, by kernel_rfl⟩
  obtain ⟨m, hm⟩ := e7
  have h1 : ∀ m, Try.prog.keyLits (m + 2) 77 [.int .i64 kind, .string name] = some [.int .i64 kind, .string name.data.toList] := by
    intro m
    simp only [Program.keyLits, Try.underlying77]
    simp [Program.keyLits, e4, e5, e6, Try.underlying3, Try.underlying9, hk, hn]
  unfold keyOf
  rw [Try.underlying77]
  have h2 : (Value.agg #[.int .i64 kind, .string name]).formed Try.prog 77 = true := by
    simp [Value.formed, Try.underlying77, e4]
  simp only [e2, h2, Bool.and_self, if_true]
  rw [hm, show (Value.agg #[.int .i64 kind, .string name]).cells.toList = [.int .i64 kind, .string name] from rfl, show m + 1 + 1 = m + 2 from rfl, h1 m]
  rfl
theorem kOf_inj {k k' : Int} {s s' : ByteArray} (hk : (Lit.int .i64 k).wf = true) (hk' : (Lit.int .i64 k').wf = true) (hs : s.size ≤ maxLen) (hs' : s'.size ≤ maxLen) (h : kOf k s = kOf k' s') : k = k' ∧ s = s' := by
  have h1 := keyOf_st k s hk hs
  have h2 := keyOf_st k' s' hk' hs'
  rw [h] at h1
  have h3 := stK.inj h1 h2
  injection h3 with h3
  have h4 := Array.toList_inj.2 h3
  simp at h4
  exact h4
theorem keyLit_kOf (k : Int) (s : ByteArray) : WideAt.IsKeyLit (kOf k s) := by simp [kOf, WideAt.IsKeyLit]
end Go.Proofs.Ytibekpfffimojaa
