/-
  The walks of package quant: Sub, Times.
-/
import Derived.Test.YtilmmmokobhnfaaDoorQt
namespace Go.Proofs.YtilmmmokobhnfaaDoor
open Go.RowKit Go.Proofs.Mem Go.Proofs.Qn
set_option linter.unusedVariables false
set_option linter.unusedSimpArgs false
theorem qsub_any (a b : Int) (w : World) : Calls Tryd.prog 20 #[.int .i64 a, .int .i64 b] w fun e w' => e = .returned (.tuple #[.int .i64 (subR a b).1, .int .i64 (subR a b).2]) ∧ w = w' := by
  by_cases ha : qOk a
  · have CA := Lib.hid (fun w1 => right_t a ha.1 ha.2 w1)
    by_cases hb : qOk b
    · have CB := Lib.hid (fun w1 => right_t b hb.1 hb.2 w1)
      obtain ⟨a0, a1⟩ := ha
      obtain ⟨b0, b1⟩ := hb
      by_cases hs : a < b
      · have hr : subR a b = (0, 14) := by unfold subR; rw [if_neg (by omega), if_pos hs]
        rw [hr]
        clear hr
        go_enter Tryd.func20, Tryd.ntmps20
        go_wp2_with (first | (go_at_call_of 16 (Value.int .i64 a); refine (CA.out _).mono ?_; rintro e w1 ⟨rfl, rfl⟩) | (go_at_call_of 16 (Value.int .i64 b); refine (CB.out _).mono ?_; rintro e w1 ⟨rfl, rfl⟩))
        go_ret2
        exact ⟨rfl, rfl⟩
      · have hr : subR a b = (a - b, 0) := by unfold subR; rw [if_neg (by omega), if_neg hs]
        rw [hr]
        have hs2 : b ≤ a := by omega
        clear hr hs
        go_enter Tryd.func20, Tryd.ntmps20
        go_wp2_with (first | (go_at_call_of 16 (Value.int .i64 a); refine (CA.out _).mono ?_; rintro e w1 ⟨rfl, rfl⟩) | (go_at_call_of 16 (Value.int .i64 b); refine (CB.out _).mono ?_; rintro e w1 ⟨rfl, rfl⟩))
        go_ret2
        exact ⟨rfl, rfl⟩
    · have CB := Lib.hid (fun w1 => right_f b (qNot hb) w1)
      have hr : subR a b = (0, 1) := by unfold subR; rw [if_pos (by have := qNot hb; omega)]
      rw [hr]
      clear hr ha hb
      go_enter Tryd.func20, Tryd.ntmps20
      go_wp2_with fail
      refine (CA.out _).mono ?_
      rintro e w1 ⟨rfl, rfl⟩
      go_wp2_with fail
      refine (CB.out _).mono ?_
      rintro e w1 ⟨rfl, rfl⟩
      go_wp2_with fail
      go_ret2
      exact ⟨rfl, rfl⟩
  · have CA := Lib.hid (fun w1 => right_f a (qNot ha) w1)
    have hr : subR a b = (0, 1) := by unfold subR; rw [if_pos (by have := qNot ha; omega)]
    rw [hr]
    clear hr ha
    go_enter Tryd.func20, Tryd.ntmps20
    go_wp2_with fail
    refine (CA.out _).mono ?_
    rintro e w1 ⟨rfl, rfl⟩
    go_wp2_with fail
    go_ret2
    exact ⟨rfl, rfl⟩
theorem qtimes_bad (a n : Int) (h : ¬ qOk a ∨ (qOk a ∧ n < 0)) (w : World) : Calls Tryd.prog 21 #[.int .i64 a, .int .i64 n] w fun e w' => e = .returned (.tuple #[.int .i64 0, .int .i64 1]) ∧ Below w.heap.size w w' := by
  rcases h with h | ⟨h, hn⟩
  · have CA := Lib.hid (fun w1 => right_f a (qNot h) w1)
    clear h
    go_enter Tryd.func21, Tryd.ntmps21
    go_wp2_with fail
    refine (CA.out _).mono ?_
    rintro e w1 ⟨rfl, rfl⟩
    go_wp2_with fail
    go_ret2
    exact ⟨rfl, Below.refl _ _⟩
  · have CA := Lib.hid (fun w1 => right_t a h.1 h.2 w1)
    clear h
    go_enter Tryd.func21, Tryd.ntmps21
    go_wp2_with fail
    refine (CA.out _).mono ?_
    rintro e w1 ⟨rfl, rfl⟩
    go_wp2_with fail
    go_ret2
    exact ⟨rfl, Below.refl _ _⟩
def timesV (N : Nat) : Value := if 9007199254740992 < N then .tuple #[.int .i64 0, .int .i64 3] else .tuple #[.int .i64 N, .int .i64 0]
theorem timesV_big {N : Nat} (h : 9007199254740992 < N) : timesV N = .tuple #[.int .i64 0, .int .i64 3] := if_pos h
theorem timesV_ok {N l : Nat} (h : ¬ 9007199254740992 < N) (e : N = l) : timesV N = .tuple #[.int .i64 l, .int .i64 0] := by subst e; exact if_neg h
theorem qtimes_ok (a n : Nat) (ha : a ≤ 9007199254740992) (hn : n ≤ 9223372036854775807) (w : World) : Calls Tryd.prog 21 #[.int .i64 a, .int .i64 n] w fun e w' => e = .returned (timesV (a * n)) ∧ Below w.heap.size w w' := by
  have CA := Lib.hid (fun w1 => right_t a (by omega) (by omega) w1)
  have CW := Lib.hid (wof_any a n w (by omega) (by omega))
  have a1 : (a : Int) ≤ 9007199254740992 := by omega
  have n1 : (n : Int) ≤ 9223372036854775807 := by omega
  obtain ⟨N, hN⟩ : ∃ N, N = a * n := ⟨_, rfl⟩
  rw [← hN] at CW ⊢
  clear hN
  go_enter Tryd.func21, Tryd.ntmps21
  go_wp2_with fail
  refine (CA.out _).mono ?_
  rintro e w1 ⟨rfl, rfl⟩
  go_wp2_with fail
  refine CW.out.mono ?_
  rintro e w3 ⟨h, l, rfl, hN, hh, hl, hb3⟩
  have HN := Lib.hid hN
  have hB3 := below_tr hb3 (below_al w3 (.cells #[.int .u64 h, .int .u64 l] 54))
  have hkb := Bk.new w3 54 #[.int .u64 h, .int .u64 l]
  have z0 := hkb.cell 0
  have z1 := hkb.cell 1
  clear hN hkb hb3 CW
  rcases Nat.eq_zero_or_pos h with rfl | h0
  · rcases Nat.lt_or_ge 9007199254740992 l with hlt | hle
    · have hi : (9007199254740992 : Int) < (l : Int) := by omega
      have hif := Lib.hid (show 9007199254740992 < N by rw [HN.out]; omega)
      go_wp2_with fail
      go_ret2
      exact ⟨by rw [timesV_big hif.out]; rfl, hB3⟩
    · have hi : (l : Int) ≤ 9007199254740992 := by omega
      have hif := Lib.hid (show ¬ 9007199254740992 < N by rw [HN.out]; omega)
      have HV := Lib.hid (show N = l by rw [HN.out]; omega)
      go_wp2_with fail
      go_ret2
      exact ⟨by rw [timesV_ok hif.out HV.out]; rfl, hB3⟩
  · have hi : (0 : Int) < (h : Int) := by omega
    have hif := Lib.hid (show 9007199254740992 < N by rw [HN.out]; omega)
    go_wp2_with fail
    go_ret2
    exact ⟨by rw [timesV_big hif.out]; rfl, hB3⟩
end Go.Proofs.YtilmmmokobhnfaaDoor
