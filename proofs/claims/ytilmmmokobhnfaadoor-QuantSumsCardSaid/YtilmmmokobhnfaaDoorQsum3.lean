/-
  The walk of trimtablaw02.QuantSums. (printed by wip/gen_qsum.py)
-/
import Derived.Test.YtilmmmokobhnfaaDoorQsum1
namespace Go.Proofs.YtilmmmokobhnfaaDoor
open Go.RowKit Go.Proofs.Mem Go.Proofs.Qn Go.Proofs.Bit
set_option linter.unusedVariables false
set_option linter.unusedSimpArgs false
set_option maxHeartbeats 8000000 in
set_option maxRecDepth 100000 in
theorem sums_big (a b : Nat) (n : Nat) (n1 : (n : Int) ≤ 9223372036854775807) (hN : 9007199254740992 < a * n) (a1 : (a : Int) ≤ 9007199254740992) (b1 : (b : Int) ≤ 9007199254740992) (w : World) (hT : Tab w) : Calls Tryd.prog 6 #[.int .i64 a, .int .i64 b, .int .i64 n] w fun e w' => e = .returned (.bool true) ∧ Below w.heap.size w w' := by
  have CL := Lib.hid (fun (u : World) => (lives02_any w hT))
  have C1 := fun w1 => qadd_any a b w1
  have C2 := fun w1 => qsub_any a b w1
  have C3 := fun w1 => qtimes_ok a n (by omega) (by omega) w1
  rw [timesV_big hN] at C3
  have hNb := Lib.hid hN
  have ha64 := Lib.hid (show a < 18446744073709551616 by omega)
  have hn64 := Lib.hid (show n < 18446744073709551616 by omega)
  clear hN
  have CT := Lib.hid C3
  clear hT C3
  rcases addR_ok (Int.natCast_nonneg a) a1 (Int.natCast_nonneg b) b1 with ⟨hs, hadd⟩ | ⟨hs, hadd⟩
  all_goals
    rw [hadd] at C1
    have CA := Lib.hid C1
    clear C1 hadd
    rcases subR_ok (Int.natCast_nonneg a) a1 (Int.natCast_nonneg b) b1 with ⟨hd, hsub⟩ | ⟨hd, hsub⟩
    all_goals
      rw [hsub] at C2
      have CS := Lib.hid C2
      clear C2 hsub
      go_enter Tryd.func6, Tryd.ntmps6
      go_wp2_with fail
      refine (CL.out w).mono ?_
      rintro e w1 ⟨rfl, hb1⟩
      go_wp2_with fail
      refine (CA.out _).mono ?_
      rintro e w2 ⟨rfl, rfl⟩
      go_wp2_with fail
      refine (CS.out _).mono ?_
      rintro e w2 ⟨rfl, rfl⟩
      go_wp2_with fail
      refine (CT.out _).mono ?_
      rintro e w2 ⟨rfl, hb2⟩
      have hB2 := below_tr hb1 hb2
      go_wp2_with fail
      refine (of_any a _ ha64.out).mono ?_
      rintro e w3 ⟨v3, rfl, k3, hb3⟩
      obtain ⟨A3, c3, rfl, _⟩ := k3.form
      go_wp2_with fail
      refine (of_any n _ hn64.out).mono ?_
      rintro e w4 ⟨v4, rfl, k4, hb4⟩
      obtain ⟨A4, c4, rfl, _⟩ := k4.form
      have CM := mul_any (bitsOf a) (bitsOf n) _ _ w4 (by have := len64' ha64.out; omega) (by have := len64' hn64.out; omega) (bin_bitsOf a) (bin_bitsOf n) (k3.below hb4) k4
      rw [val_bitsOf, val_bitsOf] at CM
      have HCM := Lib.hid CM
      clear CM
      go_wp2_with fail
      refine HCM.out.mono ?_
      rintro e w5 ⟨v5, rfl, k5, hb5⟩
      obtain ⟨A5, c5, rfl, _⟩ := k5.form
      have hB5 := below_tr (below_tr (below_tr hB2 hb3) hb4) hb5
      clear k3 k4 hb3 hb4 hb5 HCM
      go_wp2_with fail
      refine (of_any 9007199254740992 _ (by omega)).mono ?_
      rintro e w6 ⟨v6, rfl, k6, hb6⟩
      obtain ⟨A6, c6, rfl, _⟩ := k6.form
      have CC := cmp_any (bitsOf (a * n)) (bitsOf 9007199254740992) _ _ w6 (by have := lenP ha64.out hn64.out; omega) (by have := len64' (n := 9007199254740992) (by omega); omega) (bin_bitsOf _) (bin_bitsOf _) (k5.below hb6) k6
      rw [val_bitsOf, val_bitsOf] at CC
      rw [show cmpN (a * n) 9007199254740992 = 1 by unfold cmpN; rw [if_pos hNb.out]] at CC
      have HCC := Lib.hid CC
      have k56 := Lib.hid (k5.below hb6)
      have hB6 := below_tr hB5 hb6
      clear CC k5 k6 hb6
      go_wp2_with fail
      refine HCC.out.mono ?_
      rintro e w7 ⟨rfl, rfl⟩
      go_wp2_with fail
      go_ret
      exact ⟨rfl, hB6⟩
end Go.Proofs.YtilmmmokobhnfaaDoor
