/-
  The early ways of trimtablaw10.RingPlays: too many acts; a ring that may not be made.
-/
import Derived.Test.YtilmmmokobhnfaaRing9
namespace Go.Proofs.Ytilmmmokobhnfaa
open Go.RowKit Go.Proofs.Mem
set_option linter.unusedVariables false
set_option linter.unusedSimpArgs false
set_option maxHeartbeats 400000 in
set_option maxRecDepth 100000 in
theorem ringPlays_long (most t : Int) (A : Option Addr) (n c : Nat) (hn : 100 < n) (w : World) :
    Calls Try.prog 6 #[.int .i64 most, .slice A n c, .int .i64 t] w fun e w' => e = .returned (.bool true) ∧ Below w.heap.size w w' := by
  have h1 : (100 : Int) < (n : Int) := by omega
  go_enter Try.func6, Try.ntmps6
  go_wp2_with fail
  refine (lives10_any _).mono ?_
  rintro e w1 ⟨rfl, hb1⟩
  go_wp2_with fail
  refine (lives10_any _).mono ?_
  rintro e w2 ⟨rfl, hb2⟩
  go_wp2_with fail
  go_ret
  exact ⟨rfl, below_tr hb1 hb2⟩
set_option maxHeartbeats 400000 in
set_option maxRecDepth 100000 in
theorem ringPlays_bad (most t : Int) (hm : most < 1 ∨ (1 ≤ most ∧ 32 < most)) (A : Option Addr) (n c : Nat) (hn : n ≤ 100) (w : World) :
    Calls Try.prog 6 #[.int .i64 most, .slice A n c, .int .i64 t] w fun e w' => e = .returned (.bool true) ∧ Below w.heap.size w w' := by
  have h1 : (n : Int) ≤ 100 := by omega
  have CN := Lib.hid (fun w1 => newI_bad most hm w1)
  rcases hm with hm | ⟨hm, hm2⟩
  all_goals
    go_enter Try.func6, Try.ntmps6
    go_wp2_with fail
    refine (lives10_any _).mono ?_
    rintro e w1 ⟨rfl, hb1⟩
    go_wp2_with fail
    refine (CN.out _).mono ?_
    rintro e w2 ⟨rfl, rfl⟩
    go_wp2_with fail
    all_goals
      go_ret
      exact ⟨rfl, hb1⟩
end Go.Proofs.Ytilmmmokobhnfaa
