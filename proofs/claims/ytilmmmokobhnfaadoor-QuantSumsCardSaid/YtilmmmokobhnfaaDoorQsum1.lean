/-
  The walk of trimtablaw02.QuantSums. (printed by wip/gen_qsum.py)
-/
import Derived.Test.YtilmmmokobhnfaaDoorQu
import Derived.Test.YtilmmmokobhnfaaDoorBitw
namespace Go.Proofs.YtilmmmokobhnfaaDoor
open Go.RowKit Go.Proofs.Mem Go.Proofs.Qn Go.Proofs.Bit
set_option linter.unusedVariables false
set_option linter.unusedSimpArgs false
theorem len64' {n : Nat} (h : n < 18446744073709551616) : (bitsOf n).length ≤ 64 := length_bitsOf_le (by omega)
theorem lenP {a n : Nat} (h : a < 18446744073709551616) (k : n < 18446744073709551616) : (bitsOf (a * n)).length ≤ 128 := length_bitsOf_le (by
  have := Nat.mul_lt_mul'' h k
  omega)
set_option maxHeartbeats 4000000 in
set_option maxRecDepth 100000 in
theorem sums_badA (a b n : Int) (ha : ¬ qOk a) (w : World) (hT : Tab w) : Calls Tryd.prog 6 #[.int .i64 a, .int .i64 b, .int .i64 n] w fun e w' => e = .returned (.bool true) ∧ Below w.heap.size w w' := by
  have hadd : addR a b = (0, 1) := by unfold addR; rw [if_pos (by have := qNot ha; omega)]
  have hsub : subR a b = (0, 1) := by unfold subR; rw [if_pos (by have := qNot ha; omega)]
  have C1 := fun w1 => qadd_any a b w1
  have C2 := fun w1 => qsub_any a b w1
  rw [hadd] at C1
  rw [hsub] at C2
  have CA := Lib.hid C1
  have CS := Lib.hid C2
  have CT := Lib.hid (fun w1 => qtimes_bad a n (.inl ha) w1)
  have CL := Lib.hid (fun (u : World) => (lives02_any w hT))
  have hq := qNot ha
  clear hadd hsub C1 C2 ha hT
  have hdb : (a < 0 ∧ True) ∨ (0 ≤ a ∧ decide (a ≤ 9007199254740992) = false) := by
    rcases hq with h | ⟨h, h2⟩
    · exact .inl ⟨h, trivial⟩
    · exact .inr ⟨h, by simp; omega⟩
  clear hq
  rcases hdb with ⟨h, _⟩ | ⟨h, h2⟩
  all_goals
    go_enter Tryd.func6, Tryd.ntmps6
    go_wp2_with fail
    refine (CL.out w).mono ?_
    rintro e w1 ⟨rfl, hb1⟩
    go_wp2_with fail
    refine (CA.out _).mono ?_
    rintro e w2 ⟨rfl, rfl⟩
    go_wp2_with fail
    refine (CS.out _).mono ?_
    rintro e w2 ⟨rfl, rfl⟩
    go_wp2_with fail
    refine (CT.out _).mono ?_
    rintro e w2 ⟨rfl, hb2⟩
    have hB2 := below_tr hb1 hb2
    go_wp2_with fail
    all_goals
      go_ret
      exact ⟨rfl, hB2⟩
set_option maxHeartbeats 4000000 in
set_option maxRecDepth 100000 in
theorem sums_badB (a b n x y : Int) (ha : qOk a) (hb : ¬ qOk b) (w : World) (hT : Tab w) (hct : ∀ w1, Calls Tryd.prog 21 #[.int .i64 a, .int .i64 n] w1 fun e w' => e = .returned (.tuple #[.int .i64 x, .int .i64 y]) ∧ Below w1.heap.size w1 w') : Calls Tryd.prog 6 #[.int .i64 a, .int .i64 b, .int .i64 n] w fun e w' => e = .returned (.bool true) ∧ Below w.heap.size w w' := by
  have hadd : addR a b = (0, 1) := by unfold addR; rw [if_pos (by have := qNot hb; omega)]
  have hsub : subR a b = (0, 1) := by unfold subR; rw [if_pos (by have := qNot hb; omega)]
  have C1 := fun w1 => qadd_any a b w1
  have C2 := fun w1 => qsub_any a b w1
  rw [hadd] at C1
  rw [hsub] at C2
  have CA := Lib.hid C1
  have CS := Lib.hid C2
  have CT := Lib.hid hct
  have CL := Lib.hid (fun (u : World) => (lives02_any w hT))
  have hq := qNot hb
  obtain ⟨a0, a1⟩ := ha
  clear hadd hsub C1 C2 hb hT hct
  have hdb : (b < 0 ∧ True) ∨ (0 ≤ b ∧ decide (b ≤ 9007199254740992) = false) := by
    rcases hq with h | ⟨h, h2⟩
    · exact .inl ⟨h, trivial⟩
    · exact .inr ⟨h, by simp; omega⟩
  clear hq
  rcases hdb with ⟨h, _⟩ | ⟨h, h2⟩
  all_goals
    go_enter Tryd.func6, Tryd.ntmps6
    go_wp2_with fail
    refine (CL.out w).mono ?_
    rintro e w1 ⟨rfl, hb1⟩
    go_wp2_with fail
    refine (CA.out _).mono ?_
    rintro e w2 ⟨rfl, rfl⟩
    go_wp2_with fail
    refine (CS.out _).mono ?_
    rintro e w2 ⟨rfl, rfl⟩
    go_wp2_with fail
    refine (CT.out _).mono ?_
    rintro e w2 ⟨rfl, hb2⟩
    have hB2 := below_tr hb1 hb2
    go_wp2_with fail
    all_goals
      go_ret
      exact ⟨rfl, hB2⟩
theorem addR_ok {a b : Int} (a0 : 0 ≤ a) (a1 : a ≤ 9007199254740992) (b0 : 0 ≤ b) (b1 : b ≤ 9007199254740992) : (9007199254740992 < a + b ∧ addR a b = (0, 3)) ∨ (a + b ≤ 9007199254740992 ∧ addR a b = (a + b, 0)) := by
  unfold addR
  rcases Int.lt_or_le 9007199254740992 (a + b) with h | h
  · exact .inl ⟨h, by rw [if_neg (by omega), if_pos h]⟩
  · exact .inr ⟨h, by rw [if_neg (by omega), if_neg (by omega)]⟩
theorem subR_ok {a b : Int} (a0 : 0 ≤ a) (a1 : a ≤ 9007199254740992) (b0 : 0 ≤ b) (b1 : b ≤ 9007199254740992) : (a < b ∧ subR a b = (0, 14)) ∨ (b ≤ a ∧ subR a b = (a - b, 0)) := by
  unfold subR
  rcases Int.lt_or_le a b with h | h
  · exact .inl ⟨h, by rw [if_neg (by omega), if_pos h]⟩
  · exact .inr ⟨h, by rw [if_neg (by omega), if_neg (by omega)]⟩
end Go.Proofs.YtilmmmokobhnfaaDoor
