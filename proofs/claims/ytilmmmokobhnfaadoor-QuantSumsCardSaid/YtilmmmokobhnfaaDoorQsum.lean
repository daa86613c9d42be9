/-
  The walk of trimtablaw02.QuantSums. (printed by wip/gen_qsum.py)
-/
import Derived.Test.YtilmmmokobhnfaaDoorQsum2
import Derived.Test.YtilmmmokobhnfaaDoorQsum3
import Derived.Test.YtilmmmokobhnfaaDoorQsum4
namespace Go.Proofs.YtilmmmokobhnfaaDoor
open Go.RowKit Go.Proofs.Mem Go.Proofs.Qn Go.Proofs.Bit
set_option linter.unusedVariables false
set_option linter.unusedSimpArgs false
theorem quantSums_walk (a b n : Int) (wa : (Lit.int .i64 a).wf = true) (wb : (Lit.int .i64 b).wf = true) (wn : (Lit.int .i64 n).wf = true) (w : World) (hT : Tab w) : Calls Tryd.prog 6 #[.int .i64 a, .int .i64 b, .int .i64 n] w fun e w' => e = .returned (.bool true) ∧ Below w.heap.size w w' := by
  have hn : n ≤ 9223372036854775807 := by
    simp [Lit.wf, IntKind.min, IntKind.max, IntKind.signed, IntKind.bits] at wn
    omega
  by_cases ha : qOk a
  · by_cases hb : qOk b
    · obtain ⟨a0, a1⟩ := ha
      obtain ⟨b0, b1⟩ := hb
      obtain ⟨a, rfl⟩ := Int.eq_ofNat_of_zero_le a0
      obtain ⟨b, rfl⟩ := Int.eq_ofNat_of_zero_le b0
      by_cases h0 : n < 0
      · exact sums_neg a b n h0 a1 b1 w hT
      · obtain ⟨n, rfl⟩ := Int.eq_ofNat_of_zero_le (show 0 ≤ n by omega)
        by_cases hN : 9007199254740992 < a * n
        · exact sums_big a b n hn hN a1 b1 w hT
        · exact sums_ok a b n hn hN a1 b1 w hT
    · by_cases h0 : n < 0
      · exact sums_badB a b n 0 1 ha hb w hT (fun w1 => qtimes_bad a n (.inr ⟨ha, h0⟩) w1)
      · obtain ⟨n, rfl⟩ := Int.eq_ofNat_of_zero_le (show 0 ≤ n by omega)
        obtain ⟨a, rfl⟩ := Int.eq_ofNat_of_zero_le ha.1
        have a1 : (a : Int) ≤ 9007199254740992 := ha.2
        by_cases hN : 9007199254740992 < a * n
        · exact sums_badB a b n 0 3 ha hb w hT (fun w1 => by rw [← timesV_big hN]; exact qtimes_ok a n (by omega) (by omega) w1)
        · exact sums_badB a b n (a * n : Nat) 0 ha hb w hT (fun w1 => by rw [← timesV_ok hN rfl]; exact qtimes_ok a n (by omega) (by omega) w1)
  · exact sums_badA a b n ha w hT
end Go.Proofs.YtilmmmokobhnfaaDoor
