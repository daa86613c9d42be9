/-
  The walks of the four laws on ratios (package trimtablaw03): each returns true, for every input; nothing that was there turns.
-/
import Derived.Test.YtcjfomibbdlbaaaRatio
namespace Go.Proofs.Ytcjfomibbdlbaaa
open Go.RowKit Go.Proofs.Mem Go.Proofs.Bit
set_option linter.unusedVariables false
set_option linter.unusedSimpArgs false

theorem right2 (a b : Int) (w : World) (r : Bool) (h : (okM a && okM b) = r) :
    Calls Try.prog 22 #[.slice (some ⟨w.heap.size, 0, none⟩) 2 2] (w.alloc (.cells #[.int .i64 a, .int .i64 b] 44)) fun e w' => e = .returned (.bool r) ∧ w.alloc (.cells #[.int .i64 a, .int .i64 b] 44) = w' := by
  have := right_any [a, b] _ _ (by simp) (Sl.made w #[.int .i64 a, .int .i64 b] 44 2 2 (Nat.le_refl _) rfl)
  simpa [h] using this
theorem right4 (a b c d : Int) (w : World) (r : Bool) (h : (okM a && (okM b && (okM c && okM d))) = r) :
    Calls Try.prog 22 #[.slice (some ⟨w.heap.size, 0, none⟩) 4 4] (w.alloc (.cells #[.int .i64 a, .int .i64 b, .int .i64 c, .int .i64 d] 44)) fun e w' => e = .returned (.bool r) ∧ w.alloc (.cells #[.int .i64 a, .int .i64 b, .int .i64 c, .int .i64 d] 44) = w' := by
  have := right_any [a, b, c, d] _ _ (by simp) (Sl.made w #[.int .i64 a, .int .i64 b, .int .i64 c, .int .i64 d] 44 4 4 (Nat.le_refl _) rfl)
  simpa [h] using this
theorem needIs_zero {n u : Nat} {w w' : World} {e : Ending} (h : NeedIs n u 0 w e w') : e = .returned (.tuple #[.int .i64 0, .int .i64 5]) ∧ Below w.heap.size w w' := by
  obtain ⟨⟨_, h1⟩ | ⟨h1, _⟩, hb⟩ := h
  · exact ⟨h1, hb⟩
  · omega
theorem needIs_pos {n u t : Nat} {w w' : World} {e : Ending} (h0 : 0 < t) (h : NeedIs n u t w e w') : e = .returned (.tuple #[.int .i64 (capN n u t), .int .i64 0]) ∧ Below w.heap.size w w' := by
  obtain ⟨⟨h1, _⟩ | ⟨_, h1⟩, hb⟩ := h
  · omega
  · exact ⟨h1, hb⟩
theorem needs_bad (n u t : Int) (w : World) (h : okM u = false ∨ okM t = false) :
    Calls Try.prog 6 #[.int .i64 n, .int .i64 u, .int .i64 t] w fun e w' => e = .returned (.bool true) ∧ Below w.heap.size w w' := by
  have C1 := Lib.hid (fun w1 => need_bad n u t w1 (.inr h))
  have C2 := Lib.hid (fun w1 => whole_bad u t w1 h)
  have C3 := Lib.hid (fun w1 => right2 u t w1 false (by rcases h with h | h <;> simp [h]))
  clear h
  go_enter Try.func6, Try.ntmps6
  go_wp2_with (first
    | (go_at_call 21; refine (lives3_any w).mono ?_; rintro e w1 ⟨rfl, hb1⟩)
    | (go_at_call 23; refine (C1.out _).mono ?_; rintro e w' ⟨rfl, rfl⟩)
    | (go_at_call 24; refine (C2.out _).mono ?_; rintro e w' ⟨rfl, rfl⟩)
    | (go_at_call 22; refine (C3.out _).mono ?_; rintro e w' ⟨rfl, rfl⟩))
  go_ret
  exact ⟨rfl, hb1.alloc hb1.size _⟩
theorem needs_zero (n : Int) (u : Nat) (w : World) (h : okM u = true) :
    Calls Try.prog 6 #[.int .i64 n, .int .i64 u, .int .i64 0] w fun e w' => e = .returned (.bool true) ∧ Below w.heap.size w w' := by
  have C2 := Lib.hid (fun w1 => whole_ok u 0 w1 h (by decide))
  have C3 := Lib.hid (fun w1 => right2 u 0 w1 true (by simp [h]; decide))
  by_cases hn : okR n = true
  · obtain ⟨hn1, hn2⟩ := okR_t hn
    obtain ⟨m, rfl⟩ := Int.eq_ofNat_of_zero_le hn1
    have C1 := Lib.hid (fun w1 => need_ok m u 0 w1 hn h (by decide))
    clear h hn
    go_enter Try.func6, Try.ntmps6
    go_wp2_with (go_at_call 21; refine (lives3_any w).mono ?_; rintro e w1 ⟨rfl, hb1⟩)
    refine (C1.out _).mono ?_
    rintro e w2 hn0
    obtain ⟨rfl, hb2⟩ := needIs_zero hn0
    clear hn0
    go_wp2_with fail
    refine (C2.out _).mono ?_
    rintro e w3 hn0
    obtain ⟨rfl, hb3⟩ := needIs_zero hn0
    clear hn0
    go_wp2_with (go_at_call 22; refine (C3.out _).mono ?_; rintro e w' ⟨rfl, rfl⟩)
    go_ret
    refine ⟨rfl, ?_⟩
    have hb4 := hb1.trans (hb2.mono hb1.size)
    have hb5 := hb4.trans (hb3.mono hb4.size)
    exact hb5.alloc hb5.size _
  · have hn2 : okR n = false := by simpa using hn
    have C1 := Lib.hid (fun w1 => need_bad n u 0 w1 (.inl hn2))
    have hr := okR_f hn2
    have ht : n < 0 ∨ (¬ n < 0 ∧ 1000000 < n) := by omega
    clear h hn hn2 hr
    rcases ht with ht | ⟨ht, ht2⟩
    all_goals
      go_enter Try.func6, Try.ntmps6
      go_wp2_with (go_at_call 21; refine (lives3_any w).mono ?_; rintro e w1 ⟨rfl, hb1⟩)
      refine (C1.out _).mono ?_
      rintro e w2 ⟨rfl, rfl⟩
      go_wp2_with fail
      refine (C2.out _).mono ?_
      rintro e w3 hn0
      obtain ⟨rfl, hb3⟩ := needIs_zero hn0
      clear hn0
      go_wp2_with (go_at_call 22; refine (C3.out _).mono ?_; rintro e w' ⟨rfl, rfl⟩)
      go_ret
      refine ⟨rfl, ?_⟩
      have hb5 := hb1.trans (hb3.mono hb1.size)
      exact hb5.alloc hb5.size _
theorem capN_le (a b y : Nat) : capN a b y ≤ 1000000 := by unfold capN; omega
theorem needs_some (n : Int) (u t : Nat) (w : World) (hu : okM u = true) (ht : okM t = true) (h0 : 0 < t) :
    Calls Try.prog 6 #[.int .i64 n, .int .i64 u, .int .i64 t] w fun e w' => e = .returned (.bool true) ∧ Below w.heap.size w w' := by
  have b1 := okM_t hu
  have b2 := okM_t ht
  have z1 : ((t : Int) == 0) = false := by simp; omega
  have C2 := Lib.hid (fun w1 => whole_ok u t w1 hu ht)
  have C3 := Lib.hid (fun w1 => right2 u t w1 true (by simp [hu, ht]))
  have C4 : Hid (∀ w1, Calls Try.prog 25 #[.int .u64 1, .int .u64 u, .int .u64 t, .int .u64 1000000] w1 fun e w' => e = .returned (.int .u64 (capN 1 u t : Nat)) ∧ Below w1.heap.size w1 w') := Lib.hid (fun w1 => by
    have := ceil_any 1 u t 1000000 w1 (by omega) (by omega) (by omega) (by omega) h0
    exact this)
  have k1 := capN_le 1 u t
  by_cases hn : okR n = true
  · obtain ⟨hn1, hn2⟩ := okR_t hn
    obtain ⟨m, rfl⟩ := Int.eq_ofNat_of_zero_le hn1
    have C1 := Lib.hid (fun w1 => need_ok m u t w1 hn hu ht)
    have C5 : Hid (∀ w1, Calls Try.prog 25 #[.int .u64 m, .int .u64 u, .int .u64 t, .int .u64 1000000] w1 fun e w' => e = .returned (.int .u64 (capN m u t : Nat)) ∧ Below w1.heap.size w1 w') := Lib.hid (fun w1 => by
      have := ceil_any m u t 1000000 w1 (by omega) (by omega) (by omega) (by omega) h0
      exact this)
    have k2 := capN_le m u t
    clear hu ht hn
    go_enter Try.func6, Try.ntmps6
    go_wp2_with (go_at_call 21; refine (lives3_any w).mono ?_; rintro e w1 ⟨rfl, hb1⟩)
    refine (C1.out _).mono ?_
    rintro e w2 hn0
    obtain ⟨rfl, hb2⟩ := needIs_pos h0 hn0
    clear hn0
    go_wp2_with fail
    refine (C2.out _).mono ?_
    rintro e w3 hn0
    obtain ⟨rfl, hb3⟩ := needIs_pos h0 hn0
    clear hn0
    generalize capN 1 u t = x1 at *
    generalize capN m u t = xm at *
    have hb4 := hb1.trans (hb2.mono hb1.size)
    have hb5 := hb4.trans (hb3.mono hb4.size)
    have hb6 := hb5.alloc hb5.size (.cells #[.int .i64 u, .int .i64 t] 44)
    go_wp2_with (go_at_call 22; refine (C3.out _).mono ?_; rintro e w' ⟨rfl, rfl⟩)
    refine (C4.out _).mono ?_
    rintro e w4 ⟨rfl, hb7⟩
    have hb8 := hb6.trans (hb7.mono hb6.size)
    go_wp2_with fail
    refine (C5.out _).mono ?_
    rintro e w5 ⟨rfl, hb9⟩
    go_wp2_with fail
    go_ret
    exact ⟨rfl, hb8.trans (hb9.mono hb8.size)⟩
  · have hn2 : okR n = false := by simpa using hn
    have C1 := Lib.hid (fun w1 => need_bad n u t w1 (.inl hn2))
    have hr := okR_f hn2
    have htt : n < 0 ∨ (¬ n < 0 ∧ 1000000 < n) := by omega
    clear hu ht hn hn2 hr
    rcases htt with htt | ⟨htt, ht2⟩
    all_goals
      go_enter Try.func6, Try.ntmps6
      go_wp2_with (go_at_call 21; refine (lives3_any w).mono ?_; rintro e w1 ⟨rfl, hb1⟩)
      refine (C1.out _).mono ?_
      rintro e w2 ⟨rfl, rfl⟩
      go_wp2_with fail
      refine (C2.out _).mono ?_
      rintro e w3 hn0
      obtain ⟨rfl, hb3⟩ := needIs_pos h0 hn0
      clear hn0
      generalize capN 1 u t = x1 at *
      have hb5 := hb1.trans (hb3.mono hb1.size)
      have hb6 := hb5.alloc hb5.size (.cells #[.int .i64 u, .int .i64 t] 44)
      go_wp2_with (go_at_call 22; refine (C3.out _).mono ?_; rintro e w' ⟨rfl, rfl⟩)
      refine (C4.out _).mono ?_
      rintro e w4 ⟨rfl, hb7⟩
      go_wp2_with fail
      go_ret
      exact ⟨rfl, hb6.trans (hb7.mono hb6.size)⟩
theorem i64_bd {a : Int} (h : (Lit.int .i64 a).wf = true) : -9223372036854775808 ≤ a ∧ a ≤ 9223372036854775807 := bounds_i64 h
theorem okM_nat {a : Int} (h : okM a = true) : ∃ n : Nat, a = n := Int.eq_ofNat_of_zero_le (okM_t h).1
theorem ratioNeeds_walk (a0 a1 a2 : Int) (w0 : (Lit.int .i64 a0).wf = true) (w1 : (Lit.int .i64 a1).wf = true) (w2 : (Lit.int .i64 a2).wf = true) (w : World) :
    Calls Try.prog 6 #[.int .i64 a0, .int .i64 a1, .int .i64 a2] w fun e w' => e = .returned (.bool true) ∧ Below w.heap.size w w' := by
  by_cases h1 : okM a1 = true
  · by_cases h2 : okM a2 = true
    · obtain ⟨u, rfl⟩ := okM_nat h1
      obtain ⟨t, rfl⟩ := okM_nat h2
      rcases Nat.eq_zero_or_pos t with h0 | h0
      · subst h0
        exact needs_zero a0 u w h1
      · exact needs_some a0 u t w h1 h2 h0
    · exact needs_bad a0 a1 a2 w (.inr (by simpa using h2))
  · exact needs_bad a0 a1 a2 w (.inl (by simpa using h1))

/-! ### RatioGrows -/
theorem le_mulDivN (a b y : Nat) (h0 : 0 < y) : a * b ≤ y * mulDivN a b y true := by
  have e := Nat.div_add_mod (a * b) y
  have hm := Nat.mod_lt (a * b) h0
  unfold mulDivN
  by_cases h : 0 < a * b % y
  · rw [if_pos ⟨rfl, h⟩, Nat.mul_add]
    omega
  · rw [if_neg (fun k => h k.2), Nat.add_zero]
    omega
theorem capN_more (a b b' y : Nat) (h0 : 0 < y) (h : b ≤ b') : capN a b y ≤ capN a b' y := by
  have : mulDivN a b y true ≤ mulDivN a b' y true := mulDivN_le _ _ _ _ _ (Nat.le_trans (Nat.mul_le_mul_left a h) (le_mulDivN a b' y h0)) h0
  unfold capN
  omega
theorem capN_less (a b y y' : Nat) (h0 : 0 < y) (h : y ≤ y') : capN a b y' ≤ capN a b y := by
  have : mulDivN a b y' true ≤ mulDivN a b y true := mulDivN_le _ _ _ _ _ (Nat.le_trans (le_mulDivN a b y h0) (Nat.mul_le_mul_right _ h)) (by omega)
  unfold capN
  omega
theorem grows_early (n u m t g : Int) (w : World) (h : (okM u && (okM m && (okM t && okM g))) = false ∨ m < u ∨ g < t ∨ t = 0 ∨ okR n = false) :
    Calls Try.prog 5 #[.int .i64 n, .int .i64 u, .int .i64 m, .int .i64 t, .int .i64 g] w fun e w' => e = .returned (.bool true) ∧ Below w.heap.size w w' := by
  by_cases hr : (okM u && (okM m && (okM t && okM g))) = true
  · have C := Lib.hid (fun w1 => right4 u m t g w1 true hr)
    have h2 : m < u ∨ (¬ m < u ∧ g < t) ∨ (¬ m < u ∧ ¬ g < t ∧ (t == 0) = true) ∨ (¬ m < u ∧ ¬ g < t ∧ (t == 0) = false ∧ n < 0) ∨ (¬ m < u ∧ ¬ g < t ∧ (t == 0) = false ∧ ¬ n < 0 ∧ 1000000 < n) := by
      rw [hr] at h
      have h1 : m < u ∨ g < t ∨ t = 0 ∨ okR n = false := by simpa using h
      have h3 : m < u ∨ g < t ∨ t = 0 ∨ n < 0 ∨ 1000000 < n := by
        rcases h1 with h1 | h1 | h1 | h1
        · exact .inl h1
        · exact .inr (.inl h1)
        · exact .inr (.inr (.inl h1))
        · exact .inr (.inr (.inr (okR_f h1)))
      have h4 : (t == 0) = true ↔ t = 0 := by simp
      have h5 : (t == 0) = false ↔ ¬ t = 0 := by simp
      rw [h4, h5]
      omega
    clear h hr
    rcases h2 with h1 | ⟨h1, h2⟩ | ⟨h1, h2, h3⟩ | ⟨h1, h2, h3, h4⟩ | ⟨h1, h2, h3, h4, h5⟩
    all_goals
      go_enter Try.func5, Try.ntmps5
      go_wp2_with (first
        | (go_at_call 21; refine (lives3_any w).mono ?_; rintro e w1 ⟨rfl, hb1⟩)
        | (go_at_call 22; refine (C.out _).mono ?_; rintro e w' ⟨rfl, rfl⟩))
      go_ret
      exact ⟨rfl, hb1.alloc hb1.size _⟩
  · have C := Lib.hid (fun w1 => right4 u m t g w1 false (by simpa using hr))
    clear h hr
    go_enter Try.func5, Try.ntmps5
    go_wp2_with (first
      | (go_at_call 21; refine (lives3_any w).mono ?_; rintro e w1 ⟨rfl, hb1⟩)
      | (go_at_call 22; refine (C.out _).mono ?_; rintro e w' ⟨rfl, rfl⟩))
    go_ret
    exact ⟨rfl, hb1.alloc hb1.size _⟩
theorem grows_late (n u m t g : Nat) (w : World) (h1 : okM u = true) (h2 : okM m = true) (h3 : okM t = true) (h4 : okM g = true) (h5 : okR n = true) (k1 : u ≤ m) (k2 : t ≤ g) (h0 : 0 < t) :
    Calls Try.prog 5 #[.int .i64 n, .int .i64 u, .int .i64 m, .int .i64 t, .int .i64 g] w fun e w' => e = .returned (.bool true) ∧ Below w.heap.size w w' := by
  have C := Lib.hid (fun w1 => right4 u m t g w1 true (by simp [h1, h2, h3, h4]))
  have C1 := Lib.hid (fun w1 => need_ok n u t w1 h5 h1 h3)
  have C2 := Lib.hid (fun w1 => need_ok n m t w1 h5 h2 h3)
  have C3 := Lib.hid (fun w1 => need_ok n u g w1 h5 h1 h4)
  have b5 := okR_t h5
  have l1 := capN_more n u m t h0 k1
  have l2 := capN_less n u t g h0 k2
  have z1 : ((t : Int) == 0) = false := by simp; omega
  have z2 : ¬ (m : Int) < u := by omega
  have z3 : ¬ (g : Int) < t := by omega
  clear h1 h2 h3 h4 h5 k1 k2
  have h0g : 0 < g := by omega
  go_enter Try.func5, Try.ntmps5
  go_wp2_with (first
    | (go_at_call 21; refine (lives3_any w).mono ?_; rintro e w1 ⟨rfl, hb1⟩)
    | (go_at_call 22; refine (C.out _).mono ?_; rintro e w' ⟨rfl, rfl⟩))
  have hb2 := hb1.alloc hb1.size (.cells #[.int .i64 u, .int .i64 m, .int .i64 t, .int .i64 g] 44)
  refine (C1.out _).mono ?_
  rintro e w2 hn0
  obtain ⟨rfl, hb3⟩ := needIs_pos h0 hn0
  clear hn0
  have hb4 := hb2.trans (hb3.mono hb2.size)
  go_wp2_with fail
  refine (C2.out _).mono ?_
  rintro e w3 hn0
  obtain ⟨rfl, hb5⟩ := needIs_pos h0 hn0
  clear hn0
  have hb6 := hb4.trans (hb5.mono hb4.size)
  go_wp2_with fail
  refine (C3.out _).mono ?_
  rintro e w4 hn0
  obtain ⟨rfl, hb7⟩ := needIs_pos h0g hn0
  clear hn0
  generalize capN n u t = x at *
  generalize capN n m t = y at *
  generalize capN n u g = z at *
  go_wp2_with fail
  go_ret
  exact ⟨ret_bool (by simp <;> omega), hb6.trans (hb7.mono hb6.size)⟩
theorem ratioGrows_walk (a0 a1 a2 a3 a4 : Int) (w0 : (Lit.int .i64 a0).wf = true) (w1 : (Lit.int .i64 a1).wf = true) (w2 : (Lit.int .i64 a2).wf = true) (w3 : (Lit.int .i64 a3).wf = true) (w4 : (Lit.int .i64 a4).wf = true) (w : World) :
    Calls Try.prog 5 #[.int .i64 a0, .int .i64 a1, .int .i64 a2, .int .i64 a3, .int .i64 a4] w fun e w' => e = .returned (.bool true) ∧ Below w.heap.size w w' := by
  by_cases h : (okM a1 && (okM a2 && (okM a3 && okM a4))) = false ∨ a2 < a1 ∨ a4 < a3 ∨ a3 = 0 ∨ okR a0 = false
  · exact grows_early a0 a1 a2 a3 a4 w h
  · have h1 : okM a1 = true ∧ okM a2 = true ∧ okM a3 = true ∧ okM a4 = true ∧ okR a0 = true ∧ ¬ a2 < a1 ∧ ¬ a4 < a3 ∧ ¬ a3 = 0 := by
      simp only [not_or] at h
      simp at h
      simp only [Int.not_lt]
      exact ⟨h.1.1, h.1.2.1, h.1.2.2.1, h.1.2.2.2, h.2.2.2.2, h.2.1, h.2.2.1, h.2.2.2.1⟩
    obtain ⟨k1, k2, k3, k4, k5, k6, k7, k8⟩ := h1
    clear h
    obtain ⟨u, rfl⟩ := okM_nat k1
    obtain ⟨m, rfl⟩ := okM_nat k2
    obtain ⟨t, rfl⟩ := okM_nat k3
    obtain ⟨g, rfl⟩ := okM_nat k4
    obtain ⟨n, rfl⟩ : ∃ n : Nat, a0 = n := Int.eq_ofNat_of_zero_le (okR_t k5).1
    exact grows_late n u m t g w k1 k2 k3 k4 k5 (by omega) (by omega) (by omega)

/-! ### RatioNear -/
theorem nears_bad (u t n : Int) (w : World) (h : okM u = false ∨ okM t = false ∨ okT n = false) :
    Calls Try.prog 10 #[.int .i64 u, .int .i64 t, .int .i64 n] w fun e w' => e = .returned (.bool true) ∧ Below w.heap.size w w' := by
  have C1 := Lib.hid (fun w1 => near_bad u t n w1 h)
  by_cases hr : (okM u && okM t) = true
  · have C := Lib.hid (fun w1 => right2 u t w1 true hr)
    have h2 : n < 0 ∨ (¬ n < 0 ∧ 1000 < n) := by
      have hr' : okM u = true ∧ okM t = true := by simpa using hr
      rw [hr'.1, hr'.2] at h
      have h3 : okT n = false := by simpa using h
      have := okT_f h3
      omega
    clear h hr
    rcases h2 with h1 | ⟨h1, h2⟩
    all_goals
      go_enter Try.func10, Try.ntmps10
      go_wp2_with (first
        | (go_at_call 21; refine (lives3_any w).mono ?_; rintro e w1 ⟨rfl, hb1⟩)
        | (go_at_call 34; refine (C1.out _).mono ?_; rintro e w' ⟨rfl, rfl⟩)
        | (go_at_call 22; refine (C.out _).mono ?_; rintro e w' ⟨rfl, rfl⟩))
      go_ret
      exact ⟨rfl, hb1.alloc hb1.size _⟩
  · have C := Lib.hid (fun w1 => right2 u t w1 false (by simpa using hr))
    clear h hr
    go_enter Try.func10, Try.ntmps10
    go_wp2_with (first
      | (go_at_call 21; refine (lives3_any w).mono ?_; rintro e w1 ⟨rfl, hb1⟩)
      | (go_at_call 34; refine (C1.out _).mono ?_; rintro e w' ⟨rfl, rfl⟩)
      | (go_at_call 22; refine (C.out _).mono ?_; rintro e w' ⟨rfl, rfl⟩))
    go_ret
    exact ⟨rfl, hb1.alloc hb1.size _⟩
theorem nears_zero (u n : Nat) (w : World) (h1 : okM u = true) (h3 : okT n = true) :
    Calls Try.prog 10 #[.int .i64 u, .int .i64 0, .int .i64 n] w fun e w' => e = .returned (.bool true) ∧ Below w.heap.size w w' := by
  have C1 := Lib.hid (fun w1 => near_zero u n w1 h1 h3)
  have C := Lib.hid (fun w1 => right2 u 0 w1 true (by simp [h1]; decide))
  have b1 := okT_t h3
  clear h1 h3
  go_enter Try.func10, Try.ntmps10
  go_wp2_with (go_at_call 21; refine (lives3_any w).mono ?_; rintro e w1 ⟨rfl, hb1⟩)
  refine (C1.out _).mono ?_
  rintro e w2 ⟨h1, hb2⟩
  obtain rfl : e = .returned (.tuple #[.bool false, .int .i64 5]) := by
    rcases h1 with ⟨_, h1⟩ | ⟨h1, _⟩
    · exact h1
    · omega
  clear h1
  have hb3 := hb1.trans (hb2.mono hb1.size)
  go_wp2_with (go_at_call 22; refine (C.out _).mono ?_; rintro e w' ⟨rfl, rfl⟩)
  go_ret
  exact ⟨rfl, hb3.alloc hb3.size _⟩
theorem nears_some (u t n : Nat) (w : World) (h1 : okM u = true) (h2 : okM t = true) (h3 : okT n = true) (h0 : 0 < t) :
    Calls Try.prog 10 #[.int .i64 u, .int .i64 t, .int .i64 n] w fun e w' => e = .returned (.bool true) ∧ Below w.heap.size w w' := by
  have C1 := Lib.hid (fun w1 => near_ok u t n w1 h1 h2 h3 h0)
  have C := Lib.hid (fun w1 => right2 u t w1 true (by simp [h1, h2]))
  have b1 := okT_t h3
  have b2 := okM_t h1
  have b3 := okM_t h2
  have C4 := Lib.hid (fun w1 => refnear_any u t n w1 (by omega) (by omega) (by omega))
  have z1 : ((t : Int) == 0) = false := by simp; omega
  clear h1 h2 h3
  go_enter Try.func10, Try.ntmps10
  go_wp2_with (go_at_call 21; refine (lives3_any w).mono ?_; rintro e w1 ⟨rfl, hb1⟩)
  refine (C1.out _).mono ?_
  rintro e w2 ⟨h1, hb2⟩
  obtain rfl : e = .returned (.tuple #[.bool (nearB u t n), .int .i64 0]) := by
    rcases h1 with ⟨h1, _⟩ | ⟨_, h1⟩
    · omega
    · exact h1
  clear h1
  have hb3 := hb1.trans (hb2.mono hb1.size)
  have hb4 := hb3.alloc hb3.size (.cells #[.int .i64 u, .int .i64 t] 44)
  generalize nearB u t n = r at *
  go_wp2_with (go_at_call 22; refine (C.out _).mono ?_; rintro e w' ⟨rfl, rfl⟩)
  refine (C4.out _).mono ?_
  rintro e w4 ⟨rfl, hb5⟩
  cases r
  all_goals
    go_wp2_with fail
    go_ret
    exact ⟨rfl, hb4.trans (hb5.mono hb4.size)⟩
theorem ratioNear_walk (a0 a1 a2 : Int) (w0 : (Lit.int .i64 a0).wf = true) (w1 : (Lit.int .i64 a1).wf = true) (w2 : (Lit.int .i64 a2).wf = true) (w : World) :
    Calls Try.prog 10 #[.int .i64 a0, .int .i64 a1, .int .i64 a2] w fun e w' => e = .returned (.bool true) ∧ Below w.heap.size w w' := by
  by_cases h : okM a0 = false ∨ okM a1 = false ∨ okT a2 = false
  · exact nears_bad a0 a1 a2 w h
  · have h1 : okM a0 = true ∧ okM a1 = true ∧ okT a2 = true := by simpa using h
    obtain ⟨k1, k2, k3⟩ := h1
    obtain ⟨u, rfl⟩ := okM_nat k1
    obtain ⟨t, rfl⟩ := okM_nat k2
    obtain ⟨n, rfl⟩ : ∃ n : Nat, a2 = n := Int.eq_ofNat_of_zero_le (okT_t k3).1
    rcases Nat.eq_zero_or_pos t with h0 | h0
    · subst h0
      exact nears_zero u n w k1 k3
    · exact nears_some u t n w k1 k2 k3 h0
end Go.Proofs.Ytcjfomibbdlbaaa
