/-
  The walk of the law on parts and shares (package trimtablaw03): it returns true, for every input; nothing that was there turns.
-/
import Derived.Test.YtcjfomibbdlbaaaLaws3
namespace Go.Proofs.Ytcjfomibbdlbaaa
open Go.RowKit Go.Proofs.Mem Go.Proofs.Bit
set_option linter.unusedVariables false
set_option linter.unusedSimpArgs false

/-- The three ways of a share. -/
def Share (p t : Int) (s g : Int) : Prop := (((okM p && okM t) = false ∨ t < p) ∧ s = 0 ∧ g = 1) ∨ ((okM p && okM t) = true ∧ ¬ t < p ∧ t = 0 ∧ s = 0 ∧ g = 5) ∨ (∃ a b : Nat, p = a ∧ t = b ∧ okM p = true ∧ okM t = true ∧ a ≤ b ∧ 0 < b ∧ a * 1000 / b ≤ 1000 ∧ s = (a * 1000 / b : Nat) ∧ g = 0)
theorem share_all (p t : Int) (w : World) : Calls Try.prog 27 #[.int .i64 p, .int .i64 t] w fun e w' => ∃ s g, e = .returned (.tuple #[.int .i64 s, .int .i64 g]) ∧ Share p t s g ∧ Below w.heap.size w w' := by
  by_cases h : okM p = false ∨ okM t = false ∨ t < p
  · refine (share_bad p t w h).mono ?_
    rintro e w' ⟨rfl, rfl⟩
    refine ⟨0, 1, rfl, .inl ⟨?_, rfl, rfl⟩, Below.refl _ _⟩
    rcases h with h | h | h
    · left; simp [h]
    · left; simp [h]
    · right; exact h
  · have h1 : okM p = true ∧ okM t = true ∧ ¬ t < p := by simpa using h
    obtain ⟨k1, k2, k3⟩ := h1
    obtain ⟨a, rfl⟩ := okM_nat k1
    obtain ⟨b, rfl⟩ := okM_nat k2
    refine (share_ok a b w k1 k2 (by omega)).mono ?_
    rintro e w' ⟨⟨h0, rfl⟩ | ⟨h0, h1, rfl⟩, hb⟩
    · exact ⟨0, 5, rfl, .inr (.inl ⟨by simp [k1, k2], k3, by omega, rfl, rfl⟩), hb⟩
    · exact ⟨_, _, rfl, .inr (.inr ⟨a, b, rfl, rfl, k1, k2, by omega, h0, h1, rfl, rfl⟩), hb⟩
/-- The two ways of a part. -/
def Part (n p : Int) (up : Bool) (s g : Int) : Prop := ((okR n = false ∨ okR p = false) ∧ s = 0 ∧ g = 1) ∨ (∃ a b : Nat, n = a ∧ p = b ∧ okR n = true ∧ okR p = true ∧ s = mulDivN a b 1000 up ∧ g = 0)
theorem percent_all (n p : Int) (up : Bool) (w : World) : Calls Try.prog 26 #[.int .i64 n, .int .i64 p, .bool up] w fun e w' => ∃ s g, e = .returned (.tuple #[.int .i64 s, .int .i64 g]) ∧ Part n p up s g ∧ Below w.heap.size w w' := by
  by_cases h : okR n = false ∨ okR p = false
  · refine (percent_bad n p up w h).mono ?_
    rintro e w' ⟨rfl, rfl⟩
    exact ⟨0, 1, rfl, .inl ⟨h, rfl, rfl⟩, Below.refl _ _⟩
  · have h1 : okR n = true ∧ okR p = true := by simpa using h
    obtain ⟨k1, k2⟩ := h1
    obtain ⟨a, rfl⟩ : ∃ a : Nat, n = a := Int.eq_ofNat_of_zero_le (okR_t k1).1
    obtain ⟨b, rfl⟩ : ∃ b : Nat, p = b := Int.eq_ofNat_of_zero_le (okR_t k2).1
    refine (percent_ok a b up w k1 k2).mono ?_
    rintro e w' ⟨rfl, hb⟩
    exact ⟨_, _, rfl, .inr ⟨a, b, rfl, rfl, k1, k2, rfl, rfl⟩, hb⟩
/-- What is behind the switch: the parts. The rest of the walk, at whatever shares. -/
theorem tests_bad {n p : Int} (h : okR n = false ∨ okR p = false) : n < 0 ∨ (¬ n < 0 ∧ 1000000 < n) ∨ (¬ n < 0 ∧ ¬ 1000000 < n ∧ p < 0) ∨ (¬ n < 0 ∧ ¬ 1000000 < n ∧ ¬ p < 0 ∧ 1000000 < p) := by
  have h1 : n < 0 ∨ 1000000 < n ∨ p < 0 ∨ 1000000 < p := by
    rcases h with h | h
    · rcases okR_f h with h | h
      · exact .inl h
      · exact .inr (.inl h)
    · rcases okR_f h with h | h
      · exact .inr (.inr (.inl h))
      · exact .inr (.inr (.inr h))
  omega
theorem parts_le (a b : Nat) (up : Bool) (h1 : okR a = true) (h2 : okR b = true) : mulDivN a b 1000 up ≤ 1000000000 := by
  have b1 := okR_t h1
  have b2 := okR_t h2
  exact mulDivN_le _ _ _ _ _ (by have := Nat.mul_le_mul (show a ≤ 1000000 by omega) (show b ≤ 1000000 by omega); omega) (by omega)
theorem floor_part (a b : Nat) (w : World) (h1 : okR a = true) (h2 : okR b = true) :
    Calls Try.prog 28 #[.int .u64 a, .int .u64 b, .int .u64 1000] w fun e w' => e = .returned (.int .u64 (mulDivN a b 1000 false : Nat)) ∧ Below w.heap.size w w' := by
  have b1 := okR_t h1
  have b2 := okR_t h2
  have e := mulDivN_plain a b 1000 false _ rfl (by simp)
  have hle := parts_le a b false h1 h2
  rw [e] at hle ⊢
  exact floor_any a b 1000 w (by omega) (by omega) (by omega) (by omega) (by omega)
theorem ceil_part (a b : Nat) (w : World) (h1 : okR a = true) (h2 : okR b = true) :
    Calls Try.prog 25 #[.int .u64 a, .int .u64 b, .int .u64 1000, .int .u64 4611686018427387904] w fun e w' => e = .returned (.int .u64 (mulDivN a b 1000 true : Nat)) ∧ Below w.heap.size w w' := by
  have b1 := okR_t h1
  have b2 := okR_t h2
  have hle := parts_le a b true h1 h2
  have := ceil_any a b 1000 4611686018427387904 w (by omega) (by omega) (by omega) (by omega) (by omega)
  rw [Nat.min_eq_left (by omega)] at this
  exact this
theorem floor_share (a b : Nat) (w : World) (h1 : okM a = true) (h2 : okM b = true) (h0 : 0 < b) (hle : a * 1000 / b ≤ 1000) :
    Calls Try.prog 28 #[.int .u64 a, .int .u64 1000, .int .u64 b] w fun e w' => e = .returned (.int .u64 (a * 1000 / b : Nat)) ∧ Below w.heap.size w w' := by
  have b1 := okM_t h1
  have b2 := okM_t h2
  exact floor_any a 1000 b w (by omega) (by omega) (by omega) h0 (by omega)
set_option maxRecDepth 100000 in
set_option maxHeartbeats 2000000 in
theorem ratioParts_walk (a0 a1 a2 a3 : Int) (w0 : (Lit.int .i64 a0).wf = true) (w1 : (Lit.int .i64 a1).wf = true) (w2 : (Lit.int .i64 a2).wf = true) (w3 : (Lit.int .i64 a3).wf = true) (w : World) :
    Calls Try.prog 7 #[.int .i64 a0, .int .i64 a1, .int .i64 a2, .int .i64 a3] w fun e w' => e = .returned (.bool true) ∧ Below w.heap.size w w' := by
  clear w0 w1 w2 w3
  go_enter Try.func7, Try.ntmps7
  go_wp2_with (go_at_call 21; refine (lives3_any w).mono ?_; rintro e w1 ⟨rfl, hb1⟩)
  refine (percent_all a0 a1 false _).mono ?_
  rintro e w2 ⟨s1, g1, rfl, hP1, hb2⟩
  have hb := hb1.trans (hb2.mono hb1.size)
  clear hb1 hb2
  have HP1 := Lib.hid hP1
  clear hP1
  go_wp2_with fail
  refine (percent_all a0 a1 true _).mono ?_
  rintro e w3 ⟨s2, g2, rfl, hP2, hb2⟩
  have hb := hb.trans (hb2.mono hb.size)
  clear hb2
  have HP2 := Lib.hid hP2
  clear hP2
  go_wp2_with fail
  refine (share_all a2 a3 _).mono ?_
  rintro e w4 ⟨s3, g3, rfl, hS, hb2⟩
  have hb := hb.trans (hb2.mono hb.size)
  have hb := hb.alloc hb.size (.cells #[.int .i64 a2, .int .i64 a3] 44)
  clear hb2
  have hPP : ((okR a0 = false ∨ okR a1 = false) ∧ s1 = 0 ∧ g1 = 1 ∧ s2 = 0 ∧ g2 = 1) ∨ (∃ a b : Nat, a0 = a ∧ a1 = b ∧ okR a0 = true ∧ okR a1 = true ∧ s1 = mulDivN a b 1000 false ∧ g1 = 0 ∧ s2 = mulDivN a b 1000 true ∧ g2 = 0) := by
    rcases HP1.out with ⟨h1, h2, h3⟩ | ⟨a, b, rfl, rfl, h3, h4, h5, h6⟩
    · rcases HP2.out with ⟨k1, k2, k3⟩ | ⟨a, b, rfl, rfl, k3, k4, k5, k6⟩
      · exact .inl ⟨h1, h2, h3, k2, k3⟩
      · rw [k3, k4] at h1; simp at h1
    · rcases HP2.out with ⟨k1, k2, k3⟩ | ⟨a', b', k1, k2, k3, k4, k5, k6⟩
      · rw [h3, h4] at k1; simp at k1
      · obtain rfl : a = a' := by omega
        obtain rfl : b = b' := by omega
        exact .inr ⟨a, b, rfl, rfl, h3, h4, h5, h6, k5, k6⟩
  clear HP1 HP2
  rcases hPP with ⟨hn, rfl, rfl, rfl, rfl⟩ | ⟨a, b, rfl, rfl, h3, h4, rfl, rfl, rfl, rfl⟩
  · have hT := tests_bad hn
    clear hn
    rcases hT with t1 | ⟨t1, t2⟩ | ⟨t1, t2, t3⟩ | ⟨t1, t2, t3, t4⟩
    all_goals
      rcases hS with ⟨hS, rfl, rfl⟩ | ⟨hS1, hS2, rfl, rfl, rfl⟩ | ⟨pa, pb, rfl, rfl, k1, k2, k3, k4, k5, rfl, rfl⟩
      · by_cases hr : (okM a2 && okM a3) = true
        · have hlt : a3 < a2 := by
            rcases hS with h | h
            · rw [hr] at h; cases h
            · exact h
          have C := Lib.hid (right2 a2 a3 w4 true hr)
          clear hS hr
          go_wp2_with (go_at_call 22; refine C.out.mono ?_; rintro e w' ⟨rfl, rfl⟩)
          go_ret
          exact ⟨rfl, hb⟩
        · have C := Lib.hid (right2 a2 a3 w4 false (by simpa using hr))
          clear hS hr
          go_wp2_with (go_at_call 22; refine C.out.mono ?_; rintro e w' ⟨rfl, rfl⟩)
          go_ret
          exact ⟨rfl, hb⟩
      · have C := Lib.hid (right2 a2 0 w4 true hS1)
        clear hS1
        go_wp2_with (go_at_call 22; refine C.out.mono ?_; rintro e w' ⟨rfl, rfl⟩)
        go_ret
        exact ⟨rfl, hb⟩
      · have C := Lib.hid (right2 pa pb w4 true (by simp [k1, k2]))
        have C6 := Lib.hid (fun w1 => floor_share pa pb w1 k1 k2 k4 k5)
        have z1 : ((pb : Int) == 0) = false := by simp; omega
        have z2 : ¬ (pb : Int) < pa := by omega
        generalize pa * 1000 / pb = S at *
        have z3 : (S : Int) ≤ 1000 := by omega
        have b1 := okM_t k1
        have b2 := okM_t k2
        clear k1 k2 k3 k4
        go_wp2_with (go_at_call 22; refine C.out.mono ?_; rintro e w' ⟨rfl, rfl⟩)
        refine (C6.out _).mono ?_
        rintro e w5 ⟨rfl, hb5⟩
        have hb := hb.trans (hb5.mono hb.size)
        clear hb5
        go_wp2_with fail
        go_ret
        exact ⟨rfl, hb⟩
  · have C4 := Lib.hid (fun w1 => floor_part a b w1 h3 h4)
    have C5 := Lib.hid (fun w1 => ceil_part a b w1 h3 h4)
    have l1 := parts_le a b false h3 h4
    have l2 := parts_le a b true h3 h4
    have t1 := okR_t h3
    have t2 := okR_t h4
    generalize mulDivN a b 1000 false = X at *
    generalize mulDivN a b 1000 true = Y at *
    clear h3 h4
    rcases hS with ⟨hS, rfl, rfl⟩ | ⟨hS1, hS2, rfl, rfl, rfl⟩ | ⟨pa, pb, rfl, rfl, k1, k2, k3, k4, k5, rfl, rfl⟩
    · by_cases hr : (okM a2 && okM a3) = true
      · have hlt : a3 < a2 := by
          rcases hS with h | h
          · rw [hr] at h; cases h
          · exact h
        have C := Lib.hid (right2 a2 a3 w4 true hr)
        clear hS hr
        go_wp2_with (go_at_call 22; refine C.out.mono ?_; rintro e w' ⟨rfl, rfl⟩)
        refine (C4.out _).mono ?_
        rintro e w6 ⟨rfl, hb6⟩
        have hb := hb.trans (hb6.mono hb.size)
        clear hb6
        go_wp2_with fail
        refine (C5.out _).mono ?_
        rintro e w7 ⟨rfl, hb7⟩
        have hb := hb.trans (hb7.mono hb.size)
        clear hb7
        go_wp2_with fail
        go_ret
        exact ⟨rfl, hb⟩
      · have C := Lib.hid (right2 a2 a3 w4 false (by simpa using hr))
        clear hS hr
        go_wp2_with (go_at_call 22; refine C.out.mono ?_; rintro e w' ⟨rfl, rfl⟩)
        refine (C4.out _).mono ?_
        rintro e w6 ⟨rfl, hb6⟩
        have hb := hb.trans (hb6.mono hb.size)
        clear hb6
        go_wp2_with fail
        refine (C5.out _).mono ?_
        rintro e w7 ⟨rfl, hb7⟩
        have hb := hb.trans (hb7.mono hb.size)
        clear hb7
        go_wp2_with fail
        go_ret
        exact ⟨rfl, hb⟩
    · have C := Lib.hid (right2 a2 0 w4 true hS1)
      clear hS1
      go_wp2_with (go_at_call 22; refine C.out.mono ?_; rintro e w' ⟨rfl, rfl⟩)
      refine (C4.out _).mono ?_
      rintro e w6 ⟨rfl, hb6⟩
      have hb := hb.trans (hb6.mono hb.size)
      clear hb6
      go_wp2_with fail
      refine (C5.out _).mono ?_
      rintro e w7 ⟨rfl, hb7⟩
      have hb := hb.trans (hb7.mono hb.size)
      clear hb7
      go_wp2_with fail
      go_ret
      exact ⟨rfl, hb⟩
    · have C := Lib.hid (right2 pa pb w4 true (by simp [k1, k2]))
      have C6 := Lib.hid (fun w1 => floor_share pa pb w1 k1 k2 k4 k5)
      have z1 : ((pb : Int) == 0) = false := by simp; omega
      have z2 : ¬ (pb : Int) < pa := by omega
      generalize pa * 1000 / pb = S at *
      have z3 : (S : Int) ≤ 1000 := by omega
      have b1 := okM_t k1
      have b2 := okM_t k2
      clear k1 k2 k3 k4
      go_wp2_with (go_at_call 22; refine C.out.mono ?_; rintro e w' ⟨rfl, rfl⟩)
      refine (C6.out _).mono ?_
      rintro e w5 ⟨rfl, hb5⟩
      have hb := hb.trans (hb5.mono hb.size)
      clear hb5
      go_wp2_with fail
      refine (C4.out _).mono ?_
      rintro e w6 ⟨rfl, hb6⟩
      have hb := hb.trans (hb6.mono hb.size)
      clear hb6
      go_wp2_with fail
      refine (C5.out _).mono ?_
      rintro e w7 ⟨rfl, hb7⟩
      have hb := hb.trans (hb7.mono hb.size)
      clear hb7
      go_wp2_with fail
      go_ret
      exact ⟨rfl, hb⟩
end Go.Proofs.Ytcjfomibbdlbaaa
