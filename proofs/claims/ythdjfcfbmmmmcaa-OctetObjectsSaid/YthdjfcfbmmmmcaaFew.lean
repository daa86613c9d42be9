/-
  The walk of trimtablaw07.Few: whether an object's rows are few. (printed by wip/gen_few.py)
-/
import Derived.Test.YthdjfcfbmmmmcaaShort
import Derived.Test.YthdjfcfbmmmmcaaVars
namespace Go.Proofs.Ythdjfcfbmmmmcaa
open Go.RowKit Go.Proofs.Mem
set_option linter.unusedVariables false
set_option linter.unusedSimpArgs false
/-- Some bool comes back. -/
def SomeB (e : Ending) : Prop := ∃ b, e = .returned (.bool b)
end Go.Proofs.Ythdjfcfbmmmmcaa