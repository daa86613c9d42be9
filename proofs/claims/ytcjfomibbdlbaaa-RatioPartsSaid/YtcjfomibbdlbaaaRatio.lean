/-
  The walks of package ratio, of its reference (trimtabref03) and of the small functions below: each returns what exact arithmetic says; nothing that was there turns.
-/
import Derived.Test.YtcjfomibbdlbaaaLaws1
namespace Go.Proofs.Ytcjfomibbdlbaaa
open Go.RowKit Go.Proofs.Mem Go.Proofs.Bit
set_option linter.unusedVariables false
set_option linter.unusedSimpArgs false

/-! ### The small tests -/
def okM (m : Int) : Bool := decide (0 ≤ m ∧ m ≤ 9007199254740992)
def okR (n : Int) : Bool := decide (0 ≤ n ∧ n ≤ 1000000)
theorem okM_t {m : Int} (h : okM m = true) : 0 ≤ m ∧ m ≤ 9007199254740992 := by simpa [okM] using h
theorem okM_f {m : Int} (h : okM m = false) : m < 0 ∨ 9007199254740992 < m := by unfold okM at h; simp at h; omega
theorem okR_t {m : Int} (h : okR m = true) : 0 ≤ m ∧ m ≤ 1000000 := by simpa [okR] using h
theorem okR_f {m : Int} (h : okR m = false) : m < 0 ∨ 1000000 < m := by unfold okR at h; simp at h; omega
theorem qright_t (m : Int) (w : World) (h : okM m = true) : Calls Try.prog 41 #[.int .i64 m] w fun e w' => e = .returned (.bool true) ∧ w = w' := by
  obtain ⟨h1, h2⟩ := okM_t h
  clear h
  go_enter Try.func41, Try.ntmps41
  go_wp2
  go_ret
  exact ⟨rfl, rfl⟩
theorem qright_f (m : Int) (w : World) (h : okM m = false) : Calls Try.prog 41 #[.int .i64 m] w fun e w' => e = .returned (.bool false) ∧ w = w' := by
  have h1 := okM_f h
  clear h
  by_cases h0 : 0 ≤ m
  · have h2 : ¬ m ≤ 9007199254740992 := by omega
    clear h1
    go_enter Try.func41, Try.ntmps41
    go_wp2
    go_ret
    exact ⟨rfl, rfl⟩
  · clear h1
    go_enter Try.func41, Try.ntmps41
    go_wp2
    go_ret
    exact ⟨rfl, rfl⟩
theorem some_t (m : Int) (w : World) (h : okR m = true) : Calls Try.prog 40 #[.int .i64 m] w fun e w' => e = .returned (.bool true) ∧ w = w' := by
  obtain ⟨h1, h2⟩ := okR_t h
  clear h
  go_enter Try.func40, Try.ntmps40
  go_wp2
  go_ret
  exact ⟨rfl, rfl⟩
theorem some_f (m : Int) (w : World) (h : okR m = false) : Calls Try.prog 40 #[.int .i64 m] w fun e w' => e = .returned (.bool false) ∧ w = w' := by
  have h1 := okR_f h
  clear h
  by_cases h0 : 0 ≤ m
  · have h2 : ¬ m ≤ 1000000 := by omega
    clear h1
    go_enter Try.func40, Try.ntmps40
    go_wp2
    go_ret
    exact ⟨rfl, rfl⟩
  · clear h1
    go_enter Try.func40, Try.ntmps40
    go_wp2
    go_ret
    exact ⟨rfl, rfl⟩
def iv (m : Int) : Value := .int .i64 m
theorem all_step (xs : List Int) (k : Nat) (h : k < xs.length) (ha : (xs.take k).all okM = true) : (okM xs[k] = true → (xs.take (k + 1)).all okM = true) ∧ (okM xs[k] = false → xs.all okM = false) := by
  constructor
  · intro h1
    rw [List.take_succ_eq_append_getElem h, List.all_append, ha]
    simp [h1]
  · intro h1
    rw [List.all_eq_false]
    exact ⟨xs[k], List.getElem_mem h, by simp [h1]⟩
theorem right_any (xs : List Int) (v : Value) (w : World) (hl : xs.length ≤ 100) (h : Sl w 1 v xs.length (xs.map iv)) :
    Calls Try.prog 22 #[v] w fun e w' => e = .returned (.bool (xs.all okM)) ∧ w = w' := by
  obtain ⟨A, c, rfl, hc, _⟩ := id h
  go_enter Try.func22, Try.ntmps22
  go_wp2_with fail
  go_loop [7] (fun i => ∃ k : Nat, k ≤ xs.length ∧ i = .int .i64 k ∧ (xs.take k).all okM = true) (fun i => xs.length - (intOf i).toNat)
  case atStart => exact ⟨0, Nat.zero_le _, rfl, rfl⟩
  case round =>
    obtain ⟨k, hk, rfl, ha⟩ := hrel
    by_cases hlt : k < xs.length
    · have h9 := all_step xs k hlt ha
      obtain ⟨ad, rfl, _, hcell⟩ := Sl.cell1 (k := k) (u := iv xs[k]) h (by simp [hlt])
      unfold iv at hcell
      generalize xs[k] = x at *
      have HA := Lib.hid h9
      clear h9 ha h
      by_cases hx : okM x = true
      · obtain ⟨x1, x2⟩ := okM_t hx
        clear hx
        go_wp2
        go_round
        case rel => exact ⟨k + 1, by omega, by go_num, HA.out.1 (by simpa [okM] using ⟨x1, x2⟩)⟩
        case measure => simp [intOf]; omega
      · have hx' : okM x = false := by simpa using hx
        have hx2 := okM_f hx'
        have HX := Lib.hid hx'
        clear hx hx'
        by_cases h0 : x < 0
        · clear hx2
          go_wp2
          go_ret
          exact ⟨ret_bool (HA.out.2 HX.out).symm, rfl⟩
        · have h1 : (9007199254740992 : Int) < x := by omega
          clear hx2
          go_wp2
          go_ret
          exact ⟨ret_bool (HA.out.2 HX.out).symm, rfl⟩
    · have e : (xs.take k).all okM = xs.all okM := by rw [List.take_of_length_le (by omega)]
      have HE := Lib.hid (e.symm.trans ha)
      clear e ha h
      go_wp2
      go_ret
      exact ⟨ret_bool HE.out.symm, rfl⟩

/-! ### capped, Need, Whole, Percent, Share -/
def capN (a b y : Nat) : Nat := min (mulDivN a b y true) 1000000
theorem capped_none (a b : Nat) (w : World) (ha : a < 18446744073709551616) (hb : b < 18446744073709551616) :
    Calls Try.prog 42 #[.int .u64 a, .int .u64 b, .int .u64 0] w fun e w' => e = .returned (.tuple #[.int .i64 0, .int .i64 5]) ∧ Below w.heap.size w w' := by
  go_enter Try.func42, Try.ntmps42
  go_wp2_with fail
  refine (muldiv_none a b true _ ha hb).mono ?_
  rintro e w2 ⟨h1, hb2⟩
  obtain rfl : e = .returned (.tuple #[.int .u64 0, .int .i64 5]) := by
    rcases h1 with ⟨_, h1⟩ | ⟨h1, _⟩ | ⟨h1, _⟩
    · exact h1
    · omega
    · omega
  clear h1
  go_wp2_with fail
  go_ret2
  exact ⟨rfl, hb2⟩
theorem capped_some (a b y : Nat) (w : World) (ha : a < 18446744073709551616) (hb : b < 18446744073709551616) (hy : y < 18446744073709551616) (h0 : 0 < y) :
    Calls Try.prog 42 #[.int .u64 a, .int .u64 b, .int .u64 y] w fun e w' => e = .returned (.tuple #[.int .i64 (capN a b y), .int .i64 0]) ∧ Below w.heap.size w w' := by
  go_enter Try.func42, Try.ntmps42
  go_wp2_with fail
  refine (muldiv_some a b y true _ ha hb hy h0).mono ?_
  rintro e w2 ⟨h1, hb2⟩
  obtain ⟨N, hN⟩ : ∃ N, N = mulDivN a b y true := ⟨_, rfl⟩
  rw [← hN] at h1
  have HN : Hid (capN a b y = min N 1000000) := by show capN a b y = _; rw [hN]; rfl
  clear hN
  rcases h1 with ⟨h1, _⟩ | ⟨_, h1, rfl⟩ | ⟨_, n, h1, h2, rfl⟩
  · omega
  · have H := Lib.hid h1
    clear h1
    go_wp2_with fail
    go_ret2
    exact ⟨ret_two (by have := H.out; rw [HN.out]; omega) rfl, hb2⟩
  · have H := Lib.hid h1
    clear h1 h2
    by_cases hn : n ≤ 1000000
    · have hn' : ¬ (1000000 : Int) < n := by omega
      go_wp2_with fail
      go_ret2
      exact ⟨ret_two (by have := H.out; rw [HN.out]; omega) rfl, hb2⟩
    · have hn' : (1000000 : Int) < n := by omega
      go_wp2_with fail
      go_ret2
      exact ⟨ret_two (by have := H.out; rw [HN.out]; omega) rfl, hb2⟩
theorem need_bad (n u t : Int) (w : World) (h : okR n = false ∨ okM u = false ∨ okM t = false) :
    Calls Try.prog 23 #[.int .i64 n, .int .i64 u, .int .i64 t] w fun e w' => e = .returned (.tuple #[.int .i64 0, .int .i64 1]) ∧ w = w' := by
  have h3 : okR n = false ∨ (okR n = true ∧ okM u = false) ∨ (okR n = true ∧ okM u = true ∧ okM t = false) := by
    revert h; generalize okR n = x; generalize okM u = y; generalize okM t = z; cases x <;> cases y <;> cases z <;> simp
  rcases h3 with h1 | ⟨h1, h2⟩ | ⟨h1, h2, h3⟩
  · have C1 := Lib.hid (some_f n w h1)
    clear h h1
    go_enter Try.func23, Try.ntmps23
    go_wp2_with (go_at_call 40; (with_reducible refine C1.out.mono ?_); rintro e w' ⟨rfl, rfl⟩)
    go_ret2
    exact ⟨rfl, rfl⟩
  · have C1 := Lib.hid (some_t n w h1)
    have C2 := Lib.hid (qright_f u w h2)
    clear h h1 h2
    go_enter Try.func23, Try.ntmps23
    go_wp2_with (first | (go_at_call 40; (with_reducible refine C1.out.mono ?_); rintro e w' ⟨rfl, rfl⟩) | (go_at_call 41; (with_reducible refine C2.out.mono ?_); rintro e w' ⟨rfl, rfl⟩))
    go_ret2
    exact ⟨rfl, rfl⟩
  · have C1 := Lib.hid (some_t n w h1)
    have C2 := Lib.hid (qright_t u w h2)
    have C3 := Lib.hid (qright_f t w h3)
    clear h h1 h2 h3
    go_enter Try.func23, Try.ntmps23
    go_wp2_with (first | (go_at_call 40; (with_reducible refine C1.out.mono ?_); rintro e w' ⟨rfl, rfl⟩) | (go_at_call 41; (with_reducible refine C2.out.mono ?_); rintro e w' ⟨rfl, rfl⟩) | (go_at_call 41; (with_reducible refine C3.out.mono ?_); rintro e w' ⟨rfl, rfl⟩))
    go_ret2
    exact ⟨rfl, rfl⟩
/-- Need, of numbers that may be: by a target that is 0, or else. -/
def NeedIs (n u t : Nat) (w : World) (e : Ending) (w' : World) : Prop := ((t = 0 ∧ e = .returned (.tuple #[.int .i64 0, .int .i64 5])) ∨ (0 < t ∧ e = .returned (.tuple #[.int .i64 (capN n u t), .int .i64 0]))) ∧ Below w.heap.size w w'
theorem need_ok (n u t : Nat) (w : World) (h1 : okR n = true) (h2 : okM u = true) (h3 : okM t = true) :
    Calls Try.prog 23 #[.int .i64 n, .int .i64 u, .int .i64 t] w (NeedIs n u t w) := by
  have C1 := Lib.hid (some_t n w h1)
  have C2 := Lib.hid (qright_t u w h2)
  have C3 := Lib.hid (qright_t t w h3)
  have b1 := okR_t h1
  have b2 := okM_t h2
  have b3 := okM_t h3
  clear h1 h2 h3
  go_enter Try.func23, Try.ntmps23
  go_wp2_with (first | (go_at_call 40; (with_reducible refine C1.out.mono ?_); rintro e w' ⟨rfl, rfl⟩) | (go_at_call 41; (with_reducible refine C2.out.mono ?_); rintro e w' ⟨rfl, rfl⟩) | (go_at_call 41; (with_reducible refine C3.out.mono ?_); rintro e w' ⟨rfl, rfl⟩))
  rcases Nat.eq_zero_or_pos t with h0 | h0
  · subst h0
    refine (capped_none n u w (by omega) (by omega)).mono ?_
    rintro e w' ⟨rfl, hb⟩
    go_wp2_with fail
    go_ret2
    exact ⟨.inl ⟨rfl, rfl⟩, hb⟩
  · refine (capped_some n u t w (by omega) (by omega) (by omega) h0).mono ?_
    rintro e w' ⟨rfl, hb⟩
    go_wp2_with fail
    go_ret2
    exact ⟨.inr ⟨h0, rfl⟩, hb⟩
theorem whole_bad (u t : Int) (w : World) (h : okM u = false ∨ okM t = false) :
    Calls Try.prog 24 #[.int .i64 u, .int .i64 t] w fun e w' => e = .returned (.tuple #[.int .i64 0, .int .i64 1]) ∧ w = w' := by
  have C := Lib.hid (need_bad 1 u t w (.inr h))
  clear h
  go_enter Try.func24, Try.ntmps24
  go_wp2_with (go_at_call 23; refine C.out.mono ?_; rintro e w' ⟨rfl, rfl⟩)
  go_ret2
  exact ⟨rfl, rfl⟩
theorem whole_ok (u t : Nat) (w : World) (h2 : okM u = true) (h3 : okM t = true) :
    Calls Try.prog 24 #[.int .i64 u, .int .i64 t] w (NeedIs 1 u t w) := by
  have C := Lib.hid (need_ok 1 u t w (by decide) h2 h3)
  clear h2 h3
  go_enter Try.func24, Try.ntmps24
  go_wp2_with fail
  refine C.out.mono ?_
  rintro e w' ⟨⟨h0, rfl⟩ | ⟨h0, rfl⟩, hb⟩
  · have H := Lib.hid h0
    clear h0
    go_wp2_with fail
    go_ret2
    exact ⟨.inl ⟨H.out, rfl⟩, hb⟩
  · go_wp2_with fail
    go_ret2
    exact ⟨.inr ⟨h0, rfl⟩, hb⟩
theorem lives3_any (w : World) : Calls Try.prog 21 #[] w fun e w' => e = .returned (.bool true) ∧ Below w.heap.size w w' := by
  have C : Hid (Calls Try.prog 23 #[.int .i64 3, .int .i64 900, .int .i64 500] w (NeedIs 3 900 500 w)) := by
    have := need_ok 3 900 500 w (by decide) (by decide) (by decide)
    exact Lib.hid (by simpa using this)
  go_enter Try.func21, Try.ntmps21
  go_wp2_with fail
  refine C.out.mono ?_
  rintro e w' ⟨⟨h0, rfl⟩ | ⟨h0, rfl⟩, hb⟩
  · omega
  · have e6 : capN 3 900 500 = 6 := by decide
    rw [e6]
    clear e6
    go_wp2_with fail
    go_ret
    exact ⟨rfl, hb⟩
/-- Of parts that may be. -/
theorem muldiv_ok (a b y : Nat) (up : Bool) (w : World) (ha : a ≤ 9007199254740992) (hb : b ≤ 1000000) (hy : y < 18446744073709551616) (h0 : 0 < y) (hs : mulDivN a b y up < 18446744073709551616) :
    Calls Try.prog 18 #[.int .u64 a, .int .u64 b, .int .u64 y, .bool up] w fun e w' => e = .returned (.tuple #[.int .u64 (mulDivN a b y up), .int .i64 0]) ∧ Below w.heap.size w w' := by
  refine (muldiv_some a b y up w (by omega) (by omega) hy h0).mono ?_
  rintro e w' ⟨h1 | h1 | h1, hb⟩
  · obtain ⟨h1, _⟩ := h1; omega
  · obtain ⟨_, h1, _⟩ := h1; omega
  · obtain ⟨_, m, h1, _, rfl⟩ := h1; subst h1; exact ⟨rfl, hb⟩
theorem mulDivN_le (a b y K : Nat) (up : Bool) (h : a * b ≤ y * K) (h0 : 0 < y) : mulDivN a b y up ≤ K := by
  unfold mulDivN
  have e := Nat.div_add_mod (a * b) y
  have hm := Nat.mod_lt (a * b) h0
  by_cases hu : up = true ∧ 0 < a * b % y
  · rw [if_pos hu]
    have : y * (a * b / y) < y * K := by omega
    have := Nat.lt_of_mul_lt_mul_left this
    omega
  · rw [if_neg hu]
    have : y * (a * b / y) ≤ y * K := by omega
    exact Nat.le_of_mul_le_mul_left this h0
theorem percent_bad (n p : Int) (up : Bool) (w : World) (h : okR n = false ∨ okR p = false) :
    Calls Try.prog 26 #[.int .i64 n, .int .i64 p, .bool up] w fun e w' => e = .returned (.tuple #[.int .i64 0, .int .i64 1]) ∧ w = w' := by
  by_cases hn : okR n = true
  · have hp : okR p = false := by rw [hn] at h; simpa using h
    have h1 := okR_f hp
    have C1 := Lib.hid (some_t n w hn)
    clear h hn hp
    by_cases h0 : p < 0
    · clear h1
      go_enter Try.func26, Try.ntmps26
      go_wp2_with (go_at_call 40; (with_reducible refine C1.out.mono ?_); rintro e w' ⟨rfl, rfl⟩)
      go_ret2
      exact ⟨rfl, rfl⟩
    · have h2 : (1000000 : Int) < p := by omega
      clear h1
      go_enter Try.func26, Try.ntmps26
      go_wp2_with (go_at_call 40; (with_reducible refine C1.out.mono ?_); rintro e w' ⟨rfl, rfl⟩)
      go_ret2
      exact ⟨rfl, rfl⟩
  · have C1 := Lib.hid (some_f n w (by simpa using hn))
    clear h hn
    go_enter Try.func26, Try.ntmps26
    go_wp2_with (go_at_call 40; (with_reducible refine C1.out.mono ?_); rintro e w' ⟨rfl, rfl⟩)
    go_ret2
    exact ⟨rfl, rfl⟩
theorem percent_ok (n p : Nat) (up : Bool) (w : World) (h1 : okR n = true) (h2 : okR p = true) :
    Calls Try.prog 26 #[.int .i64 n, .int .i64 p, .bool up] w fun e w' => e = .returned (.tuple #[.int .i64 (mulDivN n p 1000 up), .int .i64 0]) ∧ Below w.heap.size w w' := by
  have b1 := okR_t h1
  have b2 := okR_t h2
  have C1 := Lib.hid (some_t n w h1)
  have hle : mulDivN n p 1000 up ≤ 1000000000 := mulDivN_le _ _ _ _ _ (by have := Nat.mul_le_mul (show n ≤ 1000000 by omega) (show p ≤ 1000000 by omega); omega) (by omega)
  have C2 := Lib.hid (muldiv_ok n p 1000 up w (by omega) (by omega) (by omega) (by omega) (by omega))
  rw [show ((1000 : Nat) : Int) = 1000 from rfl] at C2
  generalize mulDivN n p 1000 up = N at *
  clear h1 h2
  go_enter Try.func26, Try.ntmps26
  go_wp2_with (first | (go_at_call 40; (with_reducible refine C1.out.mono ?_); rintro e w' ⟨rfl, rfl⟩) | (go_at_call 18; refine C2.out.mono ?_; rintro e w' ⟨rfl, hb⟩))
  go_ret2
  exact ⟨rfl, hb⟩
theorem share_bad (p t : Int) (w : World) (h : okM p = false ∨ okM t = false ∨ t < p) :
    Calls Try.prog 27 #[.int .i64 p, .int .i64 t] w fun e w' => e = .returned (.tuple #[.int .i64 0, .int .i64 1]) ∧ w = w' := by
  by_cases h1 : okM p = true
  · have C1 := Lib.hid (qright_t p w h1)
    by_cases h2 : okM t = true
    · have C2 := Lib.hid (qright_t t w h2)
      have h3 : t < p := by rw [h1, h2] at h; simpa using h
      clear h h1 h2
      go_enter Try.func27, Try.ntmps27
      go_wp2_with (first | (go_at_call 41; (with_reducible refine C1.out.mono ?_); rintro e w' ⟨rfl, rfl⟩) | (go_at_call 41; (with_reducible refine C2.out.mono ?_); rintro e w' ⟨rfl, rfl⟩))
      go_ret2
      exact ⟨rfl, rfl⟩
    · have C2 := Lib.hid (qright_f t w (by simpa using h2))
      clear h h1 h2
      go_enter Try.func27, Try.ntmps27
      go_wp2_with (first | (go_at_call 41; (with_reducible refine C1.out.mono ?_); rintro e w' ⟨rfl, rfl⟩) | (go_at_call 41; (with_reducible refine C2.out.mono ?_); rintro e w' ⟨rfl, rfl⟩))
      go_ret2
      exact ⟨rfl, rfl⟩
  · have C1 := Lib.hid (qright_f p w (by simpa using h1))
    clear h h1
    go_enter Try.func27, Try.ntmps27
    go_wp2_with (go_at_call 41; (with_reducible refine C1.out.mono ?_); rintro e w' ⟨rfl, rfl⟩)
    go_ret2
    exact ⟨rfl, rfl⟩
/-- A share: by a whole that is 0, or else. -/
def ShareIs (p t : Nat) (w : World) (e : Ending) (w' : World) : Prop := ((t = 0 ∧ e = .returned (.tuple #[.int .i64 0, .int .i64 5])) ∨ (0 < t ∧ p * 1000 / t ≤ 1000 ∧ e = .returned (.tuple #[.int .i64 (p * 1000 / t : Nat), .int .i64 0]))) ∧ Below w.heap.size w w'
theorem share_ok (p t : Nat) (w : World) (h1 : okM p = true) (h2 : okM t = true) (hle : p ≤ t) :
    Calls Try.prog 27 #[.int .i64 p, .int .i64 t] w (ShareIs p t w) := by
  have C1 := Lib.hid (qright_t p w h1)
  have C2 := Lib.hid (qright_t t w h2)
  have b1 := okM_t h1
  have b2 := okM_t h2
  clear h1 h2
  rcases Nat.eq_zero_or_pos t with h0 | h0
  · subst h0
    obtain rfl : p = 0 := by omega
    have C3 := Lib.hid (muldiv_none 0 1000 false w (by omega) (by omega))
    rw [show ((1000 : Nat) : Int) = 1000 from rfl, show ((0 : Nat) : Int) = 0 from rfl] at C3
    go_enter Try.func27, Try.ntmps27
    go_wp2_with (first | (go_at_call 41; refine C1.out.mono ?_; rintro e w' ⟨rfl, rfl⟩))
    refine C3.out.mono ?_
    rintro e w2 ⟨h1, hb2⟩
    obtain rfl : e = .returned (.tuple #[.int .u64 0, .int .i64 5]) := by
      rcases h1 with ⟨_, h1⟩ | ⟨h1, _⟩ | ⟨h1, _⟩
      · exact h1
      · omega
      · omega
    clear h1
    go_wp2_with fail
    go_ret2
    exact ⟨.inl ⟨rfl, rfl⟩, hb2⟩
  · have hN : mulDivN p 1000 t false = p * 1000 / t := mulDivN_plain p 1000 t false _ rfl (by simp)
    have hm : p * 1000 / t ≤ 1000 := by
      rw [← hN]
      exact mulDivN_le _ _ _ _ _ (by omega) h0
    have C3 := Lib.hid (muldiv_ok p 1000 t false w (by omega) (by omega) (by omega) h0 (by omega))
    rw [show ((1000 : Nat) : Int) = 1000 from rfl, hN] at C3
    have HM := Lib.hid hm
    clear hN
    have P : Hid (∀ (N : Nat), N = p * 1000 / t → ∀ w', Below w.heap.size w w' → ShareIs p t w (.returned (.tuple #[.int .i64 N, .int .i64 0])) w') := Lib.hid (fun N hN w' hb => ⟨.inr ⟨h0, HM.out, by rw [hN]⟩, hb⟩)
    obtain ⟨N, hN⟩ : ∃ N, N = p * 1000 / t := ⟨_, rfl⟩
    rw [← hN] at C3 hm
    have HN := Lib.hid hN
    clear hN
    go_enter Try.func27, Try.ntmps27
    go_wp2_with (first | (go_at_call 41; (with_reducible refine C1.out.mono ?_); rintro e w' ⟨rfl, rfl⟩) | (go_at_call 41; (with_reducible refine C2.out.mono ?_); rintro e w' ⟨rfl, rfl⟩) | (go_at_call 18; refine C3.out.mono ?_; rintro e w' ⟨rfl, hb⟩))
    go_ret2
    exact P.out N HN.out _ hb

/-! ### Near -/
def okT (n : Int) : Bool := decide (0 ≤ n ∧ n ≤ 1000)
theorem okT_t {m : Int} (h : okT m = true) : 0 ≤ m ∧ m ≤ 1000 := by simpa [okT] using h
theorem okT_f {m : Int} (h : okT m = false) : m < 0 ∨ 1000 < m := by unfold okT at h; simp at h; omega
theorem near_bad (u t n : Int) (w : World) (h : okM u = false ∨ okM t = false ∨ okT n = false) :
    Calls Try.prog 34 #[.int .i64 u, .int .i64 t, .int .i64 n] w fun e w' => e = .returned (.tuple #[.bool false, .int .i64 1]) ∧ w = w' := by
  by_cases h1 : okM u = true
  · have C1 := Lib.hid (qright_t u w h1)
    by_cases h2 : okM t = true
    · have C2 := Lib.hid (qright_t t w h2)
      have h3 : okT n = false := by rw [h1, h2] at h; simpa using h
      have h4 := okT_f h3
      clear h h1 h2 h3
      by_cases h0 : n < 0
      · clear h4
        go_enter Try.func34, Try.ntmps34
        go_wp2_with (first | (go_at_call 41; (with_reducible refine C1.out.mono ?_); rintro e w' ⟨rfl, rfl⟩) | (go_at_call 41; (with_reducible refine C2.out.mono ?_); rintro e w' ⟨rfl, rfl⟩))
        go_ret2
        exact ⟨rfl, rfl⟩
      · have h5 : (1000 : Int) < n := by omega
        clear h4
        go_enter Try.func34, Try.ntmps34
        go_wp2_with (first | (go_at_call 41; (with_reducible refine C1.out.mono ?_); rintro e w' ⟨rfl, rfl⟩) | (go_at_call 41; (with_reducible refine C2.out.mono ?_); rintro e w' ⟨rfl, rfl⟩))
        go_ret2
        exact ⟨rfl, rfl⟩
    · have C2 := Lib.hid (qright_f t w (by simpa using h2))
      clear h h1 h2
      go_enter Try.func34, Try.ntmps34
      go_wp2_with (first | (go_at_call 41; (with_reducible refine C1.out.mono ?_); rintro e w' ⟨rfl, rfl⟩) | (go_at_call 41; (with_reducible refine C2.out.mono ?_); rintro e w' ⟨rfl, rfl⟩))
      go_ret2
      exact ⟨rfl, rfl⟩
  · have C1 := Lib.hid (qright_f u w (by simpa using h1))
    clear h h1
    go_enter Try.func34, Try.ntmps34
    go_wp2_with (go_at_call 41; (with_reducible refine C1.out.mono ?_); rintro e w' ⟨rfl, rfl⟩)
    go_ret2
    exact ⟨rfl, rfl⟩
def offN (u t : Nat) : Nat := max u t - min u t
def nearB (u t n : Nat) : Bool := decide (offN u t * 1000 ≤ n * t)
theorem cmpZ_le {x y : Nat} : cmpZ x y ≤ 0 ↔ x ≤ y := by
  unfold cmpZ
  split
  · constructor <;> intro h <;> omega
  · split <;> constructor <;> intro h <;> omega
/-- Near, of numbers that may be: by a target that is 0, or else. -/
def NearIs (u t n : Nat) (w : World) (e : Ending) (w' : World) : Prop := ((t = 0 ∧ e = .returned (.tuple #[.bool false, .int .i64 5])) ∨ (0 < t ∧ e = .returned (.tuple #[.bool (nearB u t n), .int .i64 0]))) ∧ Below w.heap.size w w'
theorem near_zero (u n : Nat) (w : World) (h1 : okM u = true) (h3 : okT n = true) :
    Calls Try.prog 34 #[.int .i64 u, .int .i64 0, .int .i64 n] w (NearIs u 0 n w) := by
  have C1 := Lib.hid (qright_t u w h1)
  have C2 := Lib.hid (qright_t 0 w (by decide))
  have b1 := okT_t h3
  have b2 := okM_t h1
  clear h1 h3
  go_enter Try.func34, Try.ntmps34
  go_wp2_with (first | (go_at_call 41; (with_reducible refine C1.out.mono ?_); rintro e w' ⟨rfl, rfl⟩) | (go_at_call 41; (with_reducible refine C2.out.mono ?_); rintro e w' ⟨rfl, rfl⟩))
  go_ret2
  exact ⟨.inl ⟨rfl, rfl⟩, Below.refl _ _⟩
theorem near_ok (u t n : Nat) (w : World) (h1 : okM u = true) (h2 : okM t = true) (h3 : okT n = true) (h0 : 0 < t) :
    Calls Try.prog 34 #[.int .i64 u, .int .i64 t, .int .i64 n] w (NearIs u t n w) := by
  have C1 := Lib.hid (qright_t u w h1)
  have C2 := Lib.hid (qright_t t w h2)
  have b1 := okT_t h3
  have b2 := okM_t h1
  have b3 := okM_t h2
  have z1 : ((t : Int) == 0) = false := by simp; omega
  clear h1 h2 h3
  obtain ⟨o, ho⟩ : ∃ o, o = offN u t := ⟨_, rfl⟩
  have hob : o ≤ 9007199254740992 := by rw [ho]; unfold offN; omega
  have C3 := Lib.hid (fun w1 => ratio_any o t n 1000 w1 (by omega) (by omega) (by omega) (by omega) h0 (by omega))
  rw [show ((1000 : Nat) : Int) = 1000 from rfl] at C3
  have HE : Hid (∀ w', Below w.heap.size w w' → NearIs u t n w (.returned (.tuple #[.bool (decide (cmpZ (o * 1000) (n * t) ≤ 0)), .int .i64 0])) w') := by
    refine Lib.hid fun w' hb => ⟨.inr ⟨h0, ?_⟩, hb⟩
    have e : decide (cmpZ (o * 1000) (n * t) ≤ 0) = nearB u t n := by
      unfold nearB
      rw [← ho, decide_eq_decide]
      exact cmpZ_le
    rw [e]
  generalize cmpZ (o * 1000) (n * t) = sg at *
  have ho2 : max (u : Int) (t : Int) - min (u : Int) (t : Int) = o := by rw [ho]; unfold offN; omega
  have HO := Lib.hid ho
  clear ho
  go_enter Try.func34, Try.ntmps34
  go_wp2_with (first | (go_at_call 41; (with_reducible refine C1.out.mono ?_); rintro e w' ⟨rfl, rfl⟩) | (go_at_call 41; (with_reducible refine C2.out.mono ?_); rintro e w' ⟨rfl, rfl⟩))
  refine (C3.out _).mono ?_
  rintro e w' ⟨rfl, hb⟩
  by_cases hs : sg ≤ 0
  · have hs2 : decide (sg ≤ 0) = true := by simpa using hs
    rw [hs2] at HE
    clear hs2
    go_wp2_with fail
    go_ret2
    exact HE.out _ hb
  · have hs2 : decide (sg ≤ 0) = false := by simpa using hs
    rw [hs2] at HE
    clear hs2
    go_wp2_with fail
    go_ret2
    exact HE.out _ hb

/-! ### The reference -/
theorem ceil_any (a b y m : Nat) (w : World) (ha : a < 18446744073709551616) (hb : b < 18446744073709551616) (hy : y < 18446744073709551616) (hm : m < 18446744073709551616) (h0 : 0 < y) :
    Calls Try.prog 25 #[.int .u64 a, .int .u64 b, .int .u64 y, .int .u64 m] w fun e w' => e = .returned (.int .u64 (min (mulDivN a b y true) m : Nat)) ∧ Below w.heap.size w w' := by
  go_enter Try.func25, Try.ntmps25
  go_wp2_with fail
  refine (of_any a w ha).mono ?_
  rintro e w4 ⟨x1, rfl, hx1, h4⟩
  go_wp2_with fail
  refine (of_any b w4 hb).mono ?_
  rintro e w5 ⟨x2, rfl, hx2, h5⟩
  go_wp2_with fail
  refine (prod_any a b _ _ w5 ha hb (hx1.below h5) hx2).mono ?_
  rintro e w6 ⟨x3, rfl, hx3, h6⟩
  go_wp2_with fail
  refine (of_any y w6 hy).mono ?_
  rintro e w7 ⟨x4, rfl, hx4, h7⟩
  go_wp2_with fail
  refine (div_any (bitsOf (a * b)) (bitsOf y) _ _ w7 (by have := len_prod ha hb; omega) (by have := len64 hy; omega) (bin_bitsOf _) (bin_bitsOf _) (hx3.below h7) hx4 (by rw [val_bitsOf]; exact h0)).mono ?_
  rintro e w8 ⟨x5, x6, rfl, hx5, hx6, h8⟩
  rw [val_bitsOf, val_bitsOf] at hx5 hx6
  have hb4 : Below w.heap.size w w8 := by
    have s4 := h4.size; have s5 := h5.size; have s6 := h6.size; have s7 := h7.size
    exact (((h4.trans (h5.mono (by omega))).trans (h6.mono (by omega))).trans (h7.mono (by omega))).trans (h8.mono (by omega))
  clear h4 h5 h6 h7 h8 hx1 hx2 hx3 hx4
  have hQ : a * b / y ≤ 340282366920938463426481119284349108225 := quo_small a b y _ ha hb rfl
  have lq : (bitsOf (a * b / y)).length ≤ 128 := length_bitsOf_le (by omega)
  have lr0 : (bitsOf (a * b % y)).length = 0 ↔ a * b % y = 0 := by
    have := length_bitsOf_iff (a * b % y) 0
    constructor
    · intro h; have := this.1 (by omega); simpa using this
    · intro h; have := this.2 (by simpa using h); omega
  have lr : (bitsOf (a * b % y)).length ≤ 64 := len64 (by have := Nat.mod_lt (a * b) h0; omega)
  obtain ⟨A6, c6, rfl, hc6⟩ := hx6.form
  have LQ := Lib.hid lq
  clear hQ lq hx6
  by_cases hr : 0 < a * b % y
  · have E := Lib.hid (mulDivN_up a b y _ rfl hr)
    have hpos : 0 < (bitsOf (a * b % y)).length := by
      rcases Nat.eq_zero_or_pos (bitsOf (a * b % y)).length with h | h
      · have := lr0.1 h; omega
      · exact h
    clear lr0 hr
    generalize (bitsOf (a * b % y)).length = lr' at *
    generalize a * b / y = Q at *
    go_wp2_with fail
    refine (of_any 1 w8 (by omega)).mono ?_
    rintro e w9 ⟨x7, rfl, hx7, h9⟩
    go_wp2_with fail
    refine (add_any (bitsOf Q) (bitsOf 1) _ _ w9 (by have := LQ.out; omega) (by have := len64 (n := 1) (by omega); omega) (bin_bitsOf _) (bin_bitsOf _) (hx5.below h9) hx7).mono ?_
    rintro e w10 ⟨x8, rfl, hx8, h10⟩
    rw [val_bitsOf, val_bitsOf] at hx8
    have hx8 := Bts.of_own hx8
    have LS := Lib.hid (length_add (n := 200) (x := Q) (y := 1) (by have := LQ.out; omega) (by have := len64 (n := 1) (by omega); omega))
    have hb5 : Below w.heap.size w w10 := by
      have s1 := hb4.size; have s4 := h9.size
      exact (hb4.trans (h9.mono s1)).trans (h10.mono (by omega))
    go_wp2_with fail
    refine (of_any m w10 hm).mono ?_
    rintro e w11 ⟨x9, rfl, hx9, h11⟩
    have hb6 := hb5.trans (h11.mono hb5.size)
    have hx8 := hx8.below h11
    go_wp2_with fail
    have CC := cmp_any (bitsOf (Q + 1)) (bitsOf m) _ _ w11 (by have := LS.out; omega) (by have := len64 hm; omega) (bin_bitsOf _) (bin_bitsOf _) hx8 hx9
    rw [val_bitsOf, val_bitsOf] at CC
    refine CC.mono ?_
    rintro e w12 ⟨rfl, rfl⟩
    clear CC
    by_cases hs : m < Q + 1
    · have e1 : cmpN (Q + 1) m = 1 := by unfold cmpN; rw [if_pos hs]
      have HF : Hid (min (mulDivN a b y true) m = m) := by show min _ _ = _; rw [E.out]; omega
      rw [e1]
      clear e1 hs
      go_wp2_with fail
      go_ret
      exact ⟨ret_int (by rw [HF.out]), hb6⟩
    · have e1 : cmpN (Q + 1) m ≤ 0 := by unfold cmpN; rw [if_neg hs]; split <;> omega
      have HF : Hid (min (mulDivN a b y true) m = Q + 1) := by show min _ _ = _; rw [E.out]; omega
      have HQ : Q + 1 < 18446744073709551616 := by omega
      generalize cmpN (Q + 1) m = sg at *
      clear hs
      go_wp2_with fail
      have CN := numb_any (Q + 1) _ w11 (by have := LS.out; omega) hx8
      rw [Nat.mod_eq_of_lt HQ] at CN
      refine CN.mono ?_
      rintro e w13 ⟨rfl, rfl⟩
      clear CN
      rw [← HF.out]
      go_wp2_with fail
      go_ret
      exact ⟨rfl, hb6⟩
  · have hz : a * b % y = 0 := by omega
    have E := Lib.hid (mulDivN_plain a b y true _ rfl (by simp [hz]))
    have hz2 := lr0.2 hz
    clear lr0 hr hz
    rw [hz2] at hc6 ⊢
    clear hz2 lr
    generalize a * b / y = Q at *
    go_wp2_with fail
    refine (of_any m w8 hm).mono ?_
    rintro e w11 ⟨x9, rfl, hx9, h11⟩
    have hb6 := hb4.trans (h11.mono hb4.size)
    have hx8 := hx5.below h11
    go_wp2_with fail
    have CC := cmp_any (bitsOf Q) (bitsOf m) _ _ w11 (by have := LQ.out; omega) (by have := len64 hm; omega) (bin_bitsOf _) (bin_bitsOf _) hx8 hx9
    rw [val_bitsOf, val_bitsOf] at CC
    refine CC.mono ?_
    rintro e w12 ⟨rfl, rfl⟩
    clear CC
    by_cases hs : m < Q
    · have e1 : cmpN Q m = 1 := by unfold cmpN; rw [if_pos hs]
      have HF : Hid (min (mulDivN a b y true) m = m) := by show min _ _ = _; rw [E.out]; omega
      rw [e1]
      clear e1 hs
      go_wp2_with fail
      go_ret
      exact ⟨ret_int (by rw [HF.out]), hb6⟩
    · have e1 : cmpN Q m ≤ 0 := by unfold cmpN; rw [if_neg hs]; split <;> omega
      have HF : Hid (min (mulDivN a b y true) m = Q) := by show min _ _ = _; rw [E.out]; omega
      have HQ : Q < 18446744073709551616 := by omega
      generalize cmpN Q m = sg at *
      clear hs
      go_wp2_with fail
      have CN := numb_any Q _ w11 (by have := LQ.out; omega) hx8
      rw [Nat.mod_eq_of_lt HQ] at CN
      refine CN.mono ?_
      rintro e w13 ⟨rfl, rfl⟩
      clear CN
      rw [← HF.out]
      go_wp2_with fail
      go_ret
      exact ⟨rfl, hb6⟩
theorem floor_any (a b y : Nat) (w : World) (ha : a < 18446744073709551616) (hb : b < 18446744073709551616) (hy : y < 18446744073709551616) (h0 : 0 < y) (hs : a * b / y < 18446744073709551616) :
    Calls Try.prog 28 #[.int .u64 a, .int .u64 b, .int .u64 y] w fun e w' => e = .returned (.int .u64 (a * b / y : Nat)) ∧ Below w.heap.size w w' := by
  go_enter Try.func28, Try.ntmps28
  go_wp2_with fail
  refine (of_any a w ha).mono ?_
  rintro e w4 ⟨x1, rfl, hx1, h4⟩
  go_wp2_with fail
  refine (of_any b w4 hb).mono ?_
  rintro e w5 ⟨x2, rfl, hx2, h5⟩
  go_wp2_with fail
  refine (prod_any a b _ _ w5 ha hb (hx1.below h5) hx2).mono ?_
  rintro e w6 ⟨x3, rfl, hx3, h6⟩
  go_wp2_with fail
  refine (of_any y w6 hy).mono ?_
  rintro e w7 ⟨x4, rfl, hx4, h7⟩
  go_wp2_with fail
  refine (div_any (bitsOf (a * b)) (bitsOf y) _ _ w7 (by have := len_prod ha hb; omega) (by have := len64 hy; omega) (bin_bitsOf _) (bin_bitsOf _) (hx3.below h7) hx4 (by rw [val_bitsOf]; exact h0)).mono ?_
  rintro e w8 ⟨x5, x6, rfl, hx5, hx6, h8⟩
  rw [val_bitsOf, val_bitsOf] at hx5 hx6
  have hb4 : Below w.heap.size w w8 := by
    have s4 := h4.size; have s5 := h5.size; have s6 := h6.size; have s7 := h7.size
    exact (((h4.trans (h5.mono (by omega))).trans (h6.mono (by omega))).trans (h7.mono (by omega))).trans (h8.mono (by omega))
  clear h4 h5 h6 h7 h8 hx1 hx2 hx3 hx4 hx6
  have CN := Lib.hid (numb_small (a * b / y) _ w8 hs hx5)
  have HQ : Hid (∀ Q : Nat, Q = a * b / y → Ending.returned (.int .u64 Q) = Ending.returned (.int .u64 (a * b / y : Nat))) := Lib.hid (fun Q h => by rw [h])
  generalize hQ : a * b / y = Q at CN
  have HQ2 := Lib.hid hQ
  clear hQ hs hx5
  go_wp2_with fail
  refine CN.out.mono ?_
  rintro e w13 ⟨rfl, rfl⟩
  go_wp2_with fail
  go_ret
  exact ⟨HQ.out Q HQ2.out.symm, hb4⟩
theorem refnear_any (u t n : Nat) (w : World) (hu : u ≤ 9007199254740992) (ht : t ≤ 9007199254740992) (hn : n ≤ 1000) :
    Calls Try.prog 35 #[.int .u64 u, .int .u64 t, .int .u64 n] w fun e w' => e = .returned (.bool (nearB u t n)) ∧ Below w.heap.size w w' := by
  obtain ⟨o, ho⟩ : ∃ o, o = offN u t := ⟨_, rfl⟩
  have hob : o ≤ 9007199254740992 := by rw [ho]; unfold offN; omega
  have HB : Hid (decide (o * 1000 ≤ t * n) = nearB u t n) := by
    show _ = _
    unfold nearB
    rw [← ho, Nat.mul_comm t n]
  have L1 := Lib.hid (len_prod (a := o) (b := 1000) (by omega) (by omega))
  have L2 := Lib.hid (len_prod (a := t) (b := n) (by omega) (by omega))
  by_cases hut : u < t
  · have ho2 : (t : Int) - (u : Int) = o := by rw [ho]; unfold offN; omega
    have HO := Lib.hid ho
    clear ho
    go_enter Try.func35, Try.ntmps35
    go_wp2_with fail
    refine (of_any o w (by omega)).mono ?_
    rintro e w4 ⟨x1, rfl, hx1, h4⟩
    go_wp2_with fail
    refine (of_any 1000 w4 (by omega)).mono ?_
    rintro e w5 ⟨x2, rfl, hx2, h5⟩
    go_wp2_with fail
    refine (prod_any o 1000 _ _ w5 (by omega) (by omega) (hx1.below h5) hx2).mono ?_
    rintro e w6 ⟨x3, rfl, hx3, h6⟩
    go_wp2_with fail
    refine (of_any t w6 (by omega)).mono ?_
    rintro e w7 ⟨x4, rfl, hx4, h7⟩
    go_wp2_with fail
    refine (of_any n w7 (by omega)).mono ?_
    rintro e w8 ⟨x5, rfl, hx5, h8⟩
    go_wp2_with fail
    refine (prod_any t n _ _ w8 (by omega) (by omega) (hx4.below h8) hx5).mono ?_
    rintro e w9 ⟨x6, rfl, hx6, h9⟩
    go_wp2_with fail
    refine (cmp_prod (o * 1000) (t * n) _ _ w9 L1.out L2.out (((hx3.below h7).below h8).below h9) hx6).mono ?_
    rintro e w10 ⟨rfl, rfl⟩
    have hfin : Below w.heap.size w w9 := by
      have s4 := h4.size; have s5 := h5.size; have s6 := h6.size; have s7 := h7.size; have s8 := h8.size
      exact ((((h4.trans (h5.mono (by omega))).trans (h6.mono (by omega))).trans (h7.mono (by omega))).trans (h8.mono (by omega))).trans (h9.mono (by omega))
    have HC := Lib.hid (cmpZ_le (x := o * 1000) (y := t * n))
    clear h4 h5 h6 h7 h8 h9 hx1 hx2 hx3 hx4 hx5 hx6
    generalize cmpZ (o * 1000) (t * n) = sg at *
    by_cases hs : sg ≤ 0
    · have hB : Hid (nearB u t n = true) := by show _ = _; rw [← HB.out]; simpa using HC.out.1 hs
      go_wp2_with fail
      go_ret
      exact ⟨ret_bool hB.out.symm, hfin⟩
    · have hB : Hid (nearB u t n = false) := by show _ = _; rw [← HB.out]; simpa using fun h => hs (HC.out.2 h)
      go_wp2_with fail
      go_ret
      exact ⟨ret_bool (by rw [hB.out]; simpa using hs), hfin⟩
  · have ho2 : (u : Int) - (t : Int) = o := by rw [ho]; unfold offN; omega
    have HO := Lib.hid ho
    clear ho
    go_enter Try.func35, Try.ntmps35
    go_wp2_with fail
    refine (of_any o w (by omega)).mono ?_
    rintro e w4 ⟨x1, rfl, hx1, h4⟩
    go_wp2_with fail
    refine (of_any 1000 w4 (by omega)).mono ?_
    rintro e w5 ⟨x2, rfl, hx2, h5⟩
    go_wp2_with fail
    refine (prod_any o 1000 _ _ w5 (by omega) (by omega) (hx1.below h5) hx2).mono ?_
    rintro e w6 ⟨x3, rfl, hx3, h6⟩
    go_wp2_with fail
    refine (of_any t w6 (by omega)).mono ?_
    rintro e w7 ⟨x4, rfl, hx4, h7⟩
    go_wp2_with fail
    refine (of_any n w7 (by omega)).mono ?_
    rintro e w8 ⟨x5, rfl, hx5, h8⟩
    go_wp2_with fail
    refine (prod_any t n _ _ w8 (by omega) (by omega) (hx4.below h8) hx5).mono ?_
    rintro e w9 ⟨x6, rfl, hx6, h9⟩
    go_wp2_with fail
    refine (cmp_prod (o * 1000) (t * n) _ _ w9 L1.out L2.out (((hx3.below h7).below h8).below h9) hx6).mono ?_
    rintro e w10 ⟨rfl, rfl⟩
    have hfin : Below w.heap.size w w9 := by
      have s4 := h4.size; have s5 := h5.size; have s6 := h6.size; have s7 := h7.size; have s8 := h8.size
      exact ((((h4.trans (h5.mono (by omega))).trans (h6.mono (by omega))).trans (h7.mono (by omega))).trans (h8.mono (by omega))).trans (h9.mono (by omega))
    have HC := Lib.hid (cmpZ_le (x := o * 1000) (y := t * n))
    clear h4 h5 h6 h7 h8 h9 hx1 hx2 hx3 hx4 hx5 hx6
    generalize cmpZ (o * 1000) (t * n) = sg at *
    by_cases hs : sg ≤ 0
    · have hB : Hid (nearB u t n = true) := by show _ = _; rw [← HB.out]; simpa using HC.out.1 hs
      go_wp2_with fail
      go_ret
      exact ⟨ret_bool hB.out.symm, hfin⟩
    · have hB : Hid (nearB u t n = false) := by show _ = _; rw [← HB.out]; simpa using fun h => hs (HC.out.2 h)
      go_wp2_with fail
      go_ret
      exact ⟨ret_bool (by rw [hB.out]; simpa using hs), hfin⟩
end Go.Proofs.Ytcjfomibbdlbaaa
