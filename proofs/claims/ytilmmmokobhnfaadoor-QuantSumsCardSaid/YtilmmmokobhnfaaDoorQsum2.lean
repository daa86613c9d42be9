/-
  The walk of trimtablaw02.QuantSums. (printed by wip/gen_qsum.py)
-/
import Derived.Test.YtilmmmokobhnfaaDoorQsum1
namespace Go.Proofs.YtilmmmokobhnfaaDoor
open Go.RowKit Go.Proofs.Mem Go.Proofs.Qn Go.Proofs.Bit
set_option linter.unusedVariables false
set_option linter.unusedSimpArgs false
set_option maxHeartbeats 8000000 in
set_option maxRecDepth 100000 in
theorem sums_neg (a b : Nat) (n : Int) (hn : n < 0) (a1 : (a : Int) ≤ 9007199254740992) (b1 : (b : Int) ≤ 9007199254740992) (w : World) (hT : Tab w) : Calls Tryd.prog 6 #[.int .i64 a, .int .i64 b, .int .i64 n] w fun e w' => e = .returned (.bool true) ∧ Below w.heap.size w w' := by
  have CL := Lib.hid (fun (u : World) => (lives02_any w hT))
  have C1 := fun w1 => qadd_any a b w1
  have C2 := fun w1 => qsub_any a b w1
  have C3 := fun w1 => qtimes_bad a n (.inr ⟨⟨Int.natCast_nonneg a, a1⟩, hn⟩) w1
  have CT := Lib.hid C3
  clear hT C3
  rcases addR_ok (Int.natCast_nonneg a) a1 (Int.natCast_nonneg b) b1 with ⟨hs, hadd⟩ | ⟨hs, hadd⟩
  all_goals
    rw [hadd] at C1
    have CA := Lib.hid C1
    clear C1 hadd
    rcases subR_ok (Int.natCast_nonneg a) a1 (Int.natCast_nonneg b) b1 with ⟨hd, hsub⟩ | ⟨hd, hsub⟩
    all_goals
      rw [hsub] at C2
      have CS := Lib.hid C2
      clear C2 hsub
      go_enter Tryd.func6, Tryd.ntmps6
      go_wp2_with fail
      refine (CL.out w).mono ?_
      rintro e w1 ⟨rfl, hb1⟩
      go_wp2_with fail
      refine (CA.out _).mono ?_
      rintro e w2 ⟨rfl, rfl⟩
      go_wp2_with fail
      refine (CS.out _).mono ?_
      rintro e w2 ⟨rfl, rfl⟩
      go_wp2_with fail
      refine (CT.out _).mono ?_
      rintro e w2 ⟨rfl, hb2⟩
      have hB2 := below_tr hb1 hb2
      go_wp2_with fail
      go_ret
      exact ⟨rfl, hB2⟩
end Go.Proofs.YtilmmmokobhnfaaDoor
