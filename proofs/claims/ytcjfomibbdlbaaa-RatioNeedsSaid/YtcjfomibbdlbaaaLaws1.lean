/-
  The walks of the four laws on wide numbers (package trimtablaw01): each returns true, for every input; nothing that was there turns.
-/
import Derived.Test.YtcjfomibbdlbaaaWide
import Derived.Test.YtcjfomibbdlbaaaBitx
import Derived.OpenShut
namespace Go.Proofs.Ytcjfomibbdlbaaa
open Go.RowKit Go.Proofs.Mem Go.Proofs.Bit
set_option linter.unusedVariables false
set_option linter.unusedSimpArgs false

theorem u64_nat {a : Int} (h : (Lit.int .u64 a).wf = true) : ∃ n : Nat, a = n ∧ n < 18446744073709551616 := by
  have := bounds_u64 h
  exact ⟨a.toNat, by omega, by omega⟩
theorem muldiv_lit (up : Bool) (n : Nat) (hn : mulDivN 10 3 4 up = n) (h : n < 18446744073709551616) (w : World) : Calls Try.prog 18 #[.int .u64 10, .int .u64 3, .int .u64 4, .bool up] w fun e w' => e = .returned (.tuple #[.int .u64 n, .int .i64 0]) ∧ Below w.heap.size w w' := by
  have h := muldiv_some 10 3 4 up w (by omega) (by omega) (by omega) (by omega)
  refine Calls.mono (R := MulDivIs 10 3 4 up w) (by simpa using h) ?_
  rintro e w' ⟨h1 | h1 | h1, hb⟩
  · obtain ⟨h1, _⟩ := h1; cases h1
  · obtain ⟨_, h1, _⟩ := h1; rw [hn] at h1; omega
  · obtain ⟨_, m, h1, _, rfl⟩ := h1; rw [hn] at h1; subst h1; exact ⟨rfl, hb⟩
theorem lives1_any (w : World) : Calls Try.prog 11 #[] w fun e w' => e = .returned (.bool true) ∧ Below w.heap.size w w' := by
  go_enter Try.func11, Try.ntmps11
  go_wp2_with fail
  refine (muldiv_lit false 7 (by decide) (by omega) w).mono ?_
  rintro e w1 ⟨rfl, hb1⟩
  go_wp2_with fail
  refine (muldiv_lit true 8 (by decide) (by omega) w1).mono ?_
  rintro e w2 ⟨rfl, hb2⟩
  go_wp2_with fail
  go_ret
  exact ⟨rfl, hb1.trans (hb2.mono hb1.size)⟩
theorem divides_none (h l : Nat) (w : World) (hh : h < 18446744073709551616) (hl : l < 18446744073709551616) :
    Calls Try.prog 3 #[.int .u64 h, .int .u64 l, .int .u64 0] w fun e w' => e = .returned (.bool true) ∧ Below w.heap.size w w' := by
  go_enter Try.func3, Try.ntmps3
  go_wp2_with (go_at_call 11; refine (lives1_any w).mono ?_; rintro e w1 ⟨rfl, hb1⟩)
  refine (wdiv_none h l _).mono ?_
  rintro e w2 ⟨rfl, hb2⟩
  go_wp2_with fail
  go_ret
  refine ⟨rfl, ?_⟩
  have hb3 := hb1.trans (hb2.mono hb1.size)
  exact hb3.alloc hb3.size _
theorem two_vals (h l : Nat) (hh : h < 18446744073709551616) (hl : l < 18446744073709551616) : (h * 18446744073709551616 + l) / 18446744073709551616 % 18446744073709551616 = h ∧ (h * 18446744073709551616 + l) % 18446744073709551616 = l := by omega
theorem two_pair (h l : Nat) (v : Value) (w : World) (hh : h < 18446744073709551616) (hl : l < 18446744073709551616) (hv : Bts w v (bitsOf (h * 18446744073709551616 + l))) :
    Calls Try.prog 16 #[v] w fun e w' => e = .returned (.tuple #[.int .u64 h, .int .u64 l]) ∧ Below w.heap.size w w' := by
  have hlen : (bitsOf (h * 18446744073709551616 + l)).length ≤ 128 := length_bitsOf_le (by omega)
  have := two_any _ v w (by omega) hv
  rw [(two_vals h l hh hl).1, (two_vals h l hh hl).2] at this
  exact this
theorem numb_small (n : Nat) (v : Value) (w : World) (hn : n < 18446744073709551616) (hv : Bts w v (bitsOf n)) :
    Calls Try.prog 17 #[v] w fun e w' => e = .returned (.tuple #[.int .u64 n, .bool true]) ∧ w = w' := by
  have hlen : (bitsOf n).length ≤ 64 := length_bitsOf_le (by omega)
  have := numb_any n v w (by omega) hv
  rw [Nat.mod_eq_of_lt hn, decide_eq_true hn] at this
  exact this
theorem len64 {n : Nat} (h : n < 18446744073709551616) : (bitsOf n).length ≤ 64 := length_bitsOf_le (by omega)
theorem len128 {h l : Nat} (hh : h < 18446744073709551616) (hl : l < 18446744073709551616) : (bitsOf (h * 18446744073709551616 + l)).length ≤ 128 := length_bitsOf_le (by omega)
theorem wideDivides_walk (a0 a1 a2 : Int) (w0 : (Lit.int .u64 a0).wf = true) (w1 : (Lit.int .u64 a1).wf = true) (w2 : (Lit.int .u64 a2).wf = true) (w : World) :
    Calls Try.prog 3 #[.int .u64 a0, .int .u64 a1, .int .u64 a2] w fun e w' => e = .returned (.bool true) ∧ Below w.heap.size w w' := by
  obtain ⟨h, rfl, hh⟩ := u64_nat w0
  obtain ⟨l, rfl, hl⟩ := u64_nat w1
  obtain ⟨y, rfl, hy⟩ := u64_nat w2
  rcases Nat.eq_zero_or_pos y with h0 | h0
  · subst h0
    exact divides_none h l w hh hl
  have hy1 : ((y : Int) == 0) = false := by simp; omega
  go_enter Try.func3, Try.ntmps3
  go_wp2_with (go_at_call 11; refine (lives1_any w).mono ?_; rintro e w1 ⟨rfl, hb1⟩)
  refine (wdiv_any h l y _ hh hl hy h0).mono ?_
  rintro e w2 ⟨qh, ql, r, rfl, d1, d2, d3, d4, hb2⟩
  have hb3 := hb1.trans (hb2.mono hb1.size)
  obtain ⟨A1, A2⟩ := mulDiv_arith _ _ _ _ d1 d2
  have A1 := Lib.hid A1
  have A2 := Lib.hid A2
  clear d1 hb1 hb2
  go_wp2_with fail
  have hk := Bk.new w2 25 #[.int .u64 qh, .int .u64 ql]
  have hb4 := hb3.alloc hb3.size (.cells #[.int .u64 qh, .int .u64 ql] 25)
  generalize w2.alloc (.cells #[.int .u64 qh, .int .u64 ql] 25) = w3 at *
  generalize w2.heap.size = g at *
  refine (join_any h l w3 hh hl).mono ?_
  rintro e w4 ⟨x1, rfl, hx1, hb5⟩
  have hk := hk.below' hb5
  have hb6 := hb4.trans (hb5.mono hb4.size)
  go_wp2_with fail
  refine (of_any y w4 hy).mono ?_
  rintro e w5 ⟨x2, rfl, hx2, hb7⟩
  have hk := hk.below' hb7
  have hb8 := hb6.trans (hb7.mono hb6.size)
  go_wp2_with fail
  refine (div_any (bitsOf (h * 18446744073709551616 + l)) (bitsOf y) _ _ w5 (by have := len128 hh hl; omega) (by have := len64 hy; omega) (bin_bitsOf _) (bin_bitsOf _) (hx1.below hb7) hx2 (by rw [val_bitsOf]; exact h0)).mono ?_
  rintro e w6 ⟨x3, x4, rfl, hx3, hx4, hb9⟩
  rw [val_bitsOf, val_bitsOf, A1.out] at hx3
  rw [val_bitsOf, val_bitsOf, A2.out] at hx4
  have hk := hk.below' hb9
  have hb10 := hb8.trans (hb9.mono hb8.size)
  go_wp2_with fail
  refine (two_pair qh ql _ w6 d3 d4 hx3).mono ?_
  rintro e w7 ⟨rfl, hb11⟩
  have hk := hk.below' hb11
  have hb12 := hb10.trans (hb11.mono hb10.size)
  go_wp2_with fail
  refine (numb_small r _ w7 (by omega) (hx4.below hb11)).mono ?_
  rintro e w8 ⟨rfl, rfl⟩
  have c0 := hk.cell 0
  have c1 := hk.cell 1
  clear hk
  go_wp2_with fail
  go_ret
  exact ⟨rfl, hb12⟩
theorem ratios_none (a b c d : Nat) (w : World) (h : b = 0 ∨ d = 0) :
    Calls Try.prog 9 #[.int .u64 a, .int .u64 b, .int .u64 c, .int .u64 d] w fun e w' => e = .returned (.bool true) ∧ Below w.heap.size w w' := by
  have hc : (0 : Int) = b ∨ ((b : Int) == 0) = false ∧ (0 : Int) = d := by
    by_cases h0 : b = 0
    · left; omega
    · right; exact ⟨by simp; omega, by omega⟩
  clear h
  rcases hc with hc | ⟨hc1, hc⟩
  · obtain rfl : b = 0 := by omega
    clear hc
    go_enter Try.func9, Try.ntmps9
    go_wp2_with (go_at_call 11; refine (lives1_any w).mono ?_; rintro e w1 ⟨rfl, hb1⟩)
    refine (ratio_none a 0 c d _ (.inl rfl)).mono ?_
    rintro e w2 ⟨rfl, rfl⟩
    go_wp2_with fail
    refine (ratio_none c d a 0 _ (.inr rfl)).mono ?_
    rintro e w2 ⟨rfl, rfl⟩
    go_wp2_with fail
    go_ret
    exact ⟨rfl, hb1⟩
  · obtain rfl : d = 0 := by omega
    clear hc
    go_enter Try.func9, Try.ntmps9
    go_wp2_with (go_at_call 11; refine (lives1_any w).mono ?_; rintro e w1 ⟨rfl, hb1⟩)
    refine (ratio_none a b c 0 _ (.inr rfl)).mono ?_
    rintro e w2 ⟨rfl, rfl⟩
    go_wp2_with fail
    refine (ratio_none c 0 a b _ (.inl rfl)).mono ?_
    rintro e w2 ⟨rfl, rfl⟩
    go_wp2_with fail
    go_ret
    exact ⟨rfl, hb1⟩
theorem cmpZ_neg (x y : Nat) : cmpZ y x = -cmpZ x y := by
  unfold cmpZ
  rcases Nat.lt_trichotomy x y with h | h | h
  · rw [if_pos h, if_neg (by omega), if_pos h]; rfl
  · subst h; simp
  · rw [if_neg (by omega), if_pos h, if_pos h]
theorem cmpZ_bd (x y : Nat) : -1 ≤ cmpZ x y ∧ cmpZ x y ≤ 1 := by unfold cmpZ; split <;> (try split) <;> omega
theorem cmp_prod (x y : Nat) (u v : Value) (w : World) (hx : (bitsOf x).length ≤ 128) (hy : (bitsOf y).length ≤ 128) (hu : Bts w u (bitsOf x)) (hv : Bts w v (bitsOf y)) :
    Calls Try.prog 32 #[u, v] w fun e w' => e = .returned (.int .i64 (cmpZ x y)) ∧ w = w' := by
  have := cmp_any (bitsOf x) (bitsOf y) u v w (by omega) (by omega) (bin_bitsOf _) (bin_bitsOf _) hu hv
  rw [val_bitsOf, val_bitsOf] at this
  exact this
theorem prod_any (a b : Nat) (u v : Value) (w : World) (ha : a < 18446744073709551616) (hb : b < 18446744073709551616) (hu : Bts w u (bitsOf a)) (hv : Bts w v (bitsOf b)) :
    Calls Try.prog 19 #[u, v] w (NewBts w (bitsOf (a * b))) := by
  have := mul_any (bitsOf a) (bitsOf b) u v w (by have := len64 ha; omega) (by have := len64 hb; omega) (bin_bitsOf _) (bin_bitsOf _) hu hv
  rw [val_bitsOf, val_bitsOf] at this
  exact this
theorem len_prod {a b : Nat} (ha : a < 18446744073709551616) (hb : b < 18446744073709551616) : (bitsOf (a * b)).length ≤ 128 := length_bitsOf_le (Nat.lt_of_lt_of_eq (Nat.mul_lt_mul'' ha hb) rfl)
theorem ratios_some (a b c d : Nat) (w : World) (ha : a < 18446744073709551616) (hb : b < 18446744073709551616) (hc : c < 18446744073709551616) (hd : d < 18446744073709551616) (hb0 : 0 < b) (hd0 : 0 < d) :
    Calls Try.prog 9 #[.int .u64 a, .int .u64 b, .int .u64 c, .int .u64 d] w fun e w' => e = .returned (.bool true) ∧ Below w.heap.size w w' := by
  have z1 : ((b : Int) == 0) = false := by simp; omega
  have z2 : ((d : Int) == 0) = false := by simp; omega
  have L1 := Lib.hid (len_prod ha hd)
  have L2 := Lib.hid (len_prod hc hb)
  have CN := Lib.hid (cmpZ_neg (a * d) (c * b))
  have CB := Lib.hid (cmpZ_bd (a * d) (c * b))
  go_enter Try.func9, Try.ntmps9
  go_wp2_with (go_at_call 11; refine (lives1_any w).mono ?_; rintro e w1 ⟨rfl, hb1⟩)
  refine (ratio_any a b c d _ ha hb hc hd hb0 hd0).mono ?_
  rintro e w2 ⟨rfl, hb2⟩
  have hb3 := hb1.trans (hb2.mono hb1.size)
  go_wp2_with fail
  refine (ratio_any c d a b _ hc hd ha hb hd0 hb0).mono ?_
  rintro e w3 ⟨rfl, hb4⟩
  have hb5 := hb3.trans (hb4.mono hb3.size)
  rw [CN.out]
  clear hb1 hb2 hb3 hb4
  go_wp2_with fail
  refine (of_any a w3 ha).mono ?_
  rintro e w4 ⟨x1, rfl, hx1, h4⟩
  go_wp2_with fail
  refine (of_any d w4 hd).mono ?_
  rintro e w5 ⟨x2, rfl, hx2, h5⟩
  go_wp2_with fail
  refine (prod_any a d _ _ w5 ha hd (hx1.below h5) hx2).mono ?_
  rintro e w6 ⟨x3, rfl, hx3, h6⟩
  go_wp2_with fail
  refine (of_any c w6 hc).mono ?_
  rintro e w7 ⟨x4, rfl, hx4, h7⟩
  go_wp2_with fail
  refine (of_any b w7 hb).mono ?_
  rintro e w8 ⟨x5, rfl, hx5, h8⟩
  go_wp2_with fail
  refine (prod_any c b _ _ w8 hc hb (hx4.below h8) hx5).mono ?_
  rintro e w9 ⟨x6, rfl, hx6, h9⟩
  go_wp2_with fail
  refine (cmp_prod (a * d) (c * b) _ _ w9 L1.out L2.out (((hx3.below h7).below h8).below h9) hx6).mono ?_
  rintro e w10 ⟨rfl, rfl⟩
  have hbd := CB.out
  have hfin : Below w.heap.size w w9 := by
    have s1 := hb5.size; have s4 := h4.size; have s5 := h5.size; have s6 := h6.size; have s7 := h7.size; have s8 := h8.size
    exact (((((hb5.trans (h4.mono s1)).trans (h5.mono (by omega))).trans (h6.mono (by omega))).trans (h7.mono (by omega))).trans (h8.mono (by omega))).trans (h9.mono (by omega))
  clear h4 h5 h6 h7 h8 h9 hx1 hx2 hx3 hx4 hx5 hx6 hb5
  generalize cmpZ (a * d) (c * b) = sg at *
  go_wp2_with fail
  go_ret
  exact ⟨rfl, hfin⟩
theorem wideRatios_walk (a0 a1 a2 a3 : Int) (w0 : (Lit.int .u64 a0).wf = true) (w1 : (Lit.int .u64 a1).wf = true) (w2 : (Lit.int .u64 a2).wf = true) (w3 : (Lit.int .u64 a3).wf = true) (w : World) :
    Calls Try.prog 9 #[.int .u64 a0, .int .u64 a1, .int .u64 a2, .int .u64 a3] w fun e w' => e = .returned (.bool true) ∧ Below w.heap.size w w' := by
  obtain ⟨a, rfl, ha⟩ := u64_nat w0
  obtain ⟨b, rfl, hb⟩ := u64_nat w1
  obtain ⟨c, rfl, hc⟩ := u64_nat w2
  obtain ⟨d, rfl, hd⟩ := u64_nat w3
  by_cases h : b = 0 ∨ d = 0
  · exact ratios_none a b c d w h
  · exact ratios_some a b c d w ha hb hc hd (by omega) (by omega)

/-! ### WideParts -/
theorem parts_none (a b : Nat) (up : Bool) (w : World) (ha : a < 18446744073709551616) (hb : b < 18446744073709551616) :
    Calls Try.prog 4 #[.int .u64 a, .int .u64 b, .int .u64 0, .bool up] w fun e w' => e = .returned (.bool true) ∧ Below w.heap.size w w' := by
  go_enter Try.func4, Try.ntmps4
  go_wp2_with (go_at_call 11; refine (lives1_any w).mono ?_; rintro e w1 ⟨rfl, hb1⟩)
  refine (muldiv_none a b up _ ha hb).mono ?_
  rintro e w2 ⟨h1, hb2⟩
  obtain rfl : e = .returned (.tuple #[.int .u64 0, .int .i64 5]) := by
    rcases h1 with ⟨_, h1⟩ | ⟨h1, _⟩ | ⟨h1, _⟩
    · exact h1
    · omega
    · omega
  clear h1
  go_wp2_with fail
  go_ret
  exact ⟨rfl, hb1.trans (hb2.mono hb1.size)⟩
/-- What the reference comes to behind the division: the quotient's number, rounded. -/
theorem parts_some (a b y : Nat) (up : Bool) (w : World) (ha : a < 18446744073709551616) (hb : b < 18446744073709551616) (hy : y < 18446744073709551616) (h0 : 0 < y) :
    Calls Try.prog 4 #[.int .u64 a, .int .u64 b, .int .u64 y, .bool up] w fun e w' => e = .returned (.bool true) ∧ Below w.heap.size w w' := by
  have z1 : ((y : Int) == 0) = false := by simp; omega
  go_enter Try.func4, Try.ntmps4
  go_wp2_with (go_at_call 11; refine (lives1_any w).mono ?_; rintro e w1 ⟨rfl, hb1⟩)
  refine (muldiv_some a b y up _ ha hb hy h0).mono ?_
  rintro e w2 ⟨h1, hb2⟩
  obtain ⟨n, k, rfl, hn, hk⟩ : ∃ (n : Nat) (k : Int), e = .returned (.tuple #[.int .u64 n, .int .i64 k]) ∧ (18446744073709551616 ≤ mulDivN a b y up → n = 0 ∧ k = 4) ∧ (mulDivN a b y up < 18446744073709551616 → n = mulDivN a b y up ∧ k = 0) := by
    rcases h1 with ⟨h1, _⟩ | ⟨_, h1, rfl⟩ | ⟨_, n, h1, h2, rfl⟩
    · omega
    · exact ⟨0, 4, rfl, fun _ => ⟨rfl, rfl⟩, fun h => by omega⟩
    · exact ⟨n, 0, rfl, fun h => by omega, fun _ => ⟨h1, rfl⟩⟩
  clear h1
  have HN := Lib.hid hn
  have HK := Lib.hid hk
  have hb3 := hb1.trans (hb2.mono hb1.size)
  clear hn hk hb1 hb2
  go_wp2_with fail
  refine (of_any a w2 ha).mono ?_
  rintro e w4 ⟨x1, rfl, hx1, h4⟩
  go_wp2_with fail
  refine (of_any b w4 hb).mono ?_
  rintro e w5 ⟨x2, rfl, hx2, h5⟩
  go_wp2_with fail
  refine (prod_any a b _ _ w5 ha hb (hx1.below h5) hx2).mono ?_
  rintro e w6 ⟨x3, rfl, hx3, h6⟩
  go_wp2_with fail
  refine (of_any y w6 hy).mono ?_
  rintro e w7 ⟨x4, rfl, hx4, h7⟩
  go_wp2_with fail
  refine (div_any (bitsOf (a * b)) (bitsOf y) _ _ w7 (by have := len_prod ha hb; omega) (by have := len64 hy; omega) (bin_bitsOf _) (bin_bitsOf _) (hx3.below h7) hx4 (by rw [val_bitsOf]; exact h0)).mono ?_
  rintro e w8 ⟨x5, x6, rfl, hx5, hx6, h8⟩
  rw [val_bitsOf, val_bitsOf] at hx5 hx6
  have hb4 : Below w.heap.size w w8 := by
    have s1 := hb3.size; have s4 := h4.size; have s5 := h5.size; have s6 := h6.size; have s7 := h7.size
    exact ((((hb3.trans (h4.mono s1)).trans (h5.mono (by omega))).trans (h6.mono (by omega))).trans (h7.mono (by omega))).trans (h8.mono (by omega))
  clear h4 h5 h6 h7 h8 hx1 hx2 hx3 hx4 hb3
  have hQ : a * b / y ≤ 340282366920938463426481119284349108225 := quo_small a b y _ ha hb rfl
  have lq : (bitsOf (a * b / y)).length ≤ 128 := length_bitsOf_le (by omega)
  have lr : (bitsOf (a * b % y)).length ≤ 64 := len64 (by have := Nat.mod_lt (a * b) h0; omega)
  have lr0 : (bitsOf (a * b % y)).length = 0 ↔ a * b % y = 0 := by
    have := length_bitsOf_iff (a * b % y) 0
    constructor
    · intro h; have := this.1 (by omega); simpa using this
    · intro h; have := this.2 (by simpa using h); omega
  obtain ⟨A6, c6, rfl, hc6⟩ := hx6.form
  have LQ := Lib.hid lq
  clear hQ lq hx6
  by_cases hup : up = true ∧ 0 < a * b % y
  · have E := Lib.hid (mulDivN_up a b y _ rfl hup.2)
    obtain ⟨rfl, hr⟩ := hup
    have hpos : 0 < (bitsOf (a * b % y)).length := by
      rcases Nat.eq_zero_or_pos (bitsOf (a * b % y)).length with h | h
      · have := lr0.1 h; omega
      · exact h
    rw [E.out] at HN HK
    clear lr0 hr
    generalize (bitsOf (a * b % y)).length = lr' at *
    generalize a * b / y = Q at *
    go_wp2_with fail
    refine (of_any 1 w8 (by omega)).mono ?_
    rintro e w9 ⟨x7, rfl, hx7, h9⟩
    go_wp2_with fail
    refine (add_any (bitsOf Q) (bitsOf 1) _ _ w9 (by have := LQ.out; omega) (by have := len64 (n := 1) (by omega); omega) (bin_bitsOf _) (bin_bitsOf _) (hx5.below h9) hx7).mono ?_
    rintro e w10 ⟨x8, rfl, hx8, h10⟩
    rw [val_bitsOf, val_bitsOf] at hx8
    have hb5 : Below w.heap.size w w10 := by
      have s1 := hb4.size; have s4 := h9.size
      exact (hb4.trans (h9.mono s1)).trans (h10.mono (by omega))
    go_wp2_with fail
    refine (numb_any (Q + 1) _ w10 (by have := length_add (n := 200) (x := Q) (y := 1) (by have := LQ.out; omega) (by have := len64 (n := 1) (by omega); omega); omega) (Bts.of_own hx8)).mono ?_
    rintro e w11 ⟨rfl, rfl⟩
    by_cases hs : Q + 1 < 18446744073709551616
    · rw [decide_eq_true hs, Nat.mod_eq_of_lt hs]
      obtain ⟨e1, rfl⟩ := HK.out hs
      have E1 := Lib.hid e1
      clear e1 hs HN HK
      rw [← E1.out]
      go_wp2_with fail
      go_ret
      exact ⟨rfl, hb5⟩
    · rw [decide_eq_false hs]
      obtain ⟨rfl, rfl⟩ := HN.out (by omega)
      clear hs HN HK
      go_wp2_with fail
      go_ret
      exact ⟨rfl, hb5⟩
  · have E := Lib.hid (mulDivN_plain a b y up _ rfl hup)
    rw [E.out] at HN HK
    have hlz : up = true → (bitsOf (a * b % y)).length = 0 := by
      intro h
      refine lr0.2 ?_
      have : ¬ 0 < a * b % y := fun h' => hup ⟨h, h'⟩
      omega
    clear lr0 hup E
    generalize (bitsOf (a * b % y)).length = lr' at *
    generalize a * b / y = Q at *
    by_cases hs : Q < 18446744073709551616
    · obtain ⟨e1, rfl⟩ := HK.out hs
      have E1 := Lib.hid e1
      clear e1 HN HK
      rcases up with _ | _
      · clear hlz
        go_wp2_with (go_at_call 17; refine (numb_any Q _ w8 (by have := LQ.out; omega) hx5).mono ?_; rw [decide_eq_true hs, Nat.mod_eq_of_lt hs, ← E1.out]; rintro e w11 ⟨rfl, rfl⟩)
        go_ret
        exact ⟨rfl, hb4⟩
      · obtain rfl := hlz rfl
        clear hlz
        go_wp2_with (go_at_call 17; refine (numb_any Q _ w8 (by have := LQ.out; omega) hx5).mono ?_; rw [decide_eq_true hs, Nat.mod_eq_of_lt hs, ← E1.out]; rintro e w11 ⟨rfl, rfl⟩)
        go_ret
        exact ⟨rfl, hb4⟩
    · obtain ⟨rfl, rfl⟩ := HN.out (by omega)
      clear HN HK
      rcases up with _ | _
      · clear hlz
        go_wp2_with (go_at_call 17; refine (numb_any Q _ w8 (by have := LQ.out; omega) hx5).mono ?_; rw [decide_eq_false hs]; rintro e w11 ⟨rfl, rfl⟩)
        go_ret
        exact ⟨rfl, hb4⟩
      · obtain rfl := hlz rfl
        clear hlz
        go_wp2_with (go_at_call 17; refine (numb_any Q _ w8 (by have := LQ.out; omega) hx5).mono ?_; rw [decide_eq_false hs]; rintro e w11 ⟨rfl, rfl⟩)
        go_ret
        exact ⟨rfl, hb4⟩
theorem wideParts_walk (a0 a1 a2 : Int) (a3 : Bool) (w0 : (Lit.int .u64 a0).wf = true) (w1 : (Lit.int .u64 a1).wf = true) (w2 : (Lit.int .u64 a2).wf = true) (w : World) :
    Calls Try.prog 4 #[.int .u64 a0, .int .u64 a1, .int .u64 a2, .bool a3] w fun e w' => e = .returned (.bool true) ∧ Below w.heap.size w w' := by
  obtain ⟨a, rfl, ha⟩ := u64_nat w0
  obtain ⟨b, rfl, hb⟩ := u64_nat w1
  obtain ⟨y, rfl, hy⟩ := u64_nat w2
  rcases Nat.eq_zero_or_pos y with h0 | h0
  · subst h0
    exact parts_none a b a3 w ha hb
  · exact parts_some a b y a3 w ha hb hy h0

/-! ### WideProducts -/
theorem two_sum (N c h l : Nat) (e : N = c * 340282366920938463463374607431768211456 + h * 18446744073709551616 + l) (hh : h < 18446744073709551616) (hl : l < 18446744073709551616) : N / 18446744073709551616 % 18446744073709551616 = h ∧ N % 18446744073709551616 = l := by omega
theorem over_sum (N c h l : Nat) (e : N = c * 340282366920938463463374607431768211456 + h * 18446744073709551616 + l) (hh : h < 18446744073709551616) (hl : l < 18446744073709551616) (hc : c ≤ 1) : (c = 1 → 128 < (bitsOf N).length) ∧ (c = 0 → (bitsOf N).length ≤ 128) ∧ (bitsOf N).length ≤ 129 := by
  have h1 := length_bitsOf_iff N 128
  refine ⟨fun h => ?_, fun h => ?_, ?_⟩
  · rcases Nat.lt_or_ge 128 (bitsOf N).length with k | k
    · exact k
    · have := h1.1 k
      have e128 : (2 : Nat) ^ 128 = 340282366920938463463374607431768211456 := rfl
      rw [e128] at this
      omega
  · refine h1.2 ?_
    have e128 : (2 : Nat) ^ 128 = 340282366920938463463374607431768211456 := rfl
    rw [e128]
    omega
  · refine length_bitsOf_le ?_
    have e129 : (2 : Nat) ^ 129 = 680564733841876926926749214863536422912 := rfl
    rw [e129]
    omega
set_option maxHeartbeats 800000 in
set_option maxRecDepth 100000 in
theorem products_some (a b c d : Nat) (w : World) (ha : a < 18446744073709551616) (hb : b < 18446744073709551616) (hc : c < 18446744073709551616) (hd : d < 18446744073709551616) :
    Calls Try.prog 8 #[.int .u64 a, .int .u64 b, .int .u64 c, .int .u64 d] w fun e w' => e = .returned (.bool true) ∧ Below w.heap.size w w' := by
  have L1 := Lib.hid (len_prod ha hb)
  have L2 := Lib.hid (len_prod hc hd)
  go_enter Try.func8, Try.ntmps8
  go_wp2_with (go_at_call 11; refine (lives1_any w).mono ?_; rintro e w1 ⟨rfl, hb1⟩)
  refine (of_any a w1 ha).mono ?_
  rintro e w4 ⟨x1, rfl, hx1, h4⟩
  go_wp2_with fail
  refine (of_any b w4 hb).mono ?_
  rintro e w5 ⟨x2, rfl, hx2, h5⟩
  go_wp2_with fail
  refine (prod_any a b _ _ w5 ha hb (hx1.below h5) hx2).mono ?_
  rintro e w6 ⟨x3, rfl, hx3, h6⟩
  go_wp2_with fail
  refine (of_any c w6 hc).mono ?_
  rintro e w7 ⟨x4, rfl, hx4, h7⟩
  go_wp2_with fail
  refine (of_any d w7 hd).mono ?_
  rintro e w8 ⟨x5, rfl, hx5, h8⟩
  go_wp2_with fail
  refine (prod_any c d _ _ w8 hc hd (hx4.below h8) hx5).mono ?_
  rintro e w9 ⟨x6, rfl, hx6, h9⟩
  have hx3 := ((hx3.below h7).below h8).below h9
  have hB : Below w.heap.size w w9 := by
    have s1 := hb1.size; have s4 := h4.size; have s5 := h5.size; have s6 := h6.size; have s7 := h7.size; have s8 := h8.size
    exact (((((hb1.trans (h4.mono s1)).trans (h5.mono (by omega))).trans (h6.mono (by omega))).trans (h7.mono (by omega))).trans (h8.mono (by omega))).trans (h9.mono (by omega))
  clear h4 h5 h6 h7 h8 h9 hx1 hx2 hx4 hx5 hb1
  go_wp2_with fail
  refine (wof_any a b w9 ha hb).mono ?_
  rintro e w10 ⟨ph, pl, rfl, e1, k1, k2, h10⟩
  go_wp2_with fail
  refine (wof_any c d w10 hc hd).mono ?_
  rintro e w11 ⟨qh, ql, rfl, e2, k3, k4, h11⟩
  have hx3 := (hx3.below h10).below h11
  have hx6 := (hx6.below h10).below h11
  have hB : Below w.heap.size w w11 := by
    have s1 := hB.size; have s4 := h10.size
    exact (hB.trans (h10.mono s1)).trans (h11.mono (by omega))
  rw [e1] at hx3 L1
  rw [e2] at hx6 L2
  clear h10 h11 e1 e2
  go_wp2_with fail
  have K1 : Bk ((w11.alloc (.cells #[.int .u64 ph, .int .u64 pl] 25)).alloc (.cells #[.int .u64 qh, .int .u64 ql] 25)) w11.heap.size 25 #[.int .u64 ph, .int .u64 pl] := (Bk.new _ _ _).alloc _
  have K2 : Bk ((w11.alloc (.cells #[.int .u64 ph, .int .u64 pl] 25)).alloc (.cells #[.int .u64 qh, .int .u64 ql] 25)) (w11.heap.size + 1) 25 #[.int .u64 qh, .int .u64 ql] := by have := Bk.new (w11.alloc (.cells #[.int .u64 ph, .int .u64 pl] 25)) 25 #[.int .u64 qh, .int .u64 ql]; simpa using this
  have hB : Below w.heap.size w ((w11.alloc (.cells #[.int .u64 ph, .int .u64 pl] 25)).alloc (.cells #[.int .u64 qh, .int .u64 ql] 25)) := (hB.alloc hB.size _).alloc (by have := hB.size; simp; omega) _
  have hx3 := (hx3.alloc (.cells #[.int .u64 ph, .int .u64 pl] 25)).alloc (.cells #[.int .u64 qh, .int .u64 ql] 25)
  have hx6 := (hx6.alloc (.cells #[.int .u64 ph, .int .u64 pl] 25)).alloc (.cells #[.int .u64 qh, .int .u64 ql] 25)
  generalize (w11.alloc (.cells #[.int .u64 ph, .int .u64 pl] 25)).alloc (.cells #[.int .u64 qh, .int .u64 ql] 25) = w12 at *
  generalize w11.heap.size = g at *
  refine (two_pair ph pl _ w12 k1 k2 hx3).mono ?_
  rintro e w13 ⟨rfl, h13⟩
  have hB := hB.trans (h13.mono hB.size)
  have K1 := K1.below' h13
  have K2 := K2.below' h13
  have hx3 := hx3.below h13
  have hx6 := hx6.below h13
  clear h13
  have c0 := K1.cell 0
  have c1 := K1.cell 1
  have c2 := K2.cell 0
  have c3 := K2.cell 1
  go_wp2_with fail
  clear c0 c1 c2 c3
  refine (wadd_any ph pl qh ql w13 k1 k2 k3 k4).mono ?_
  rintro e w14 ⟨sh, sl, cy, rfl, es, k5, k6, k7, h14⟩
  have hB := hB.trans (h14.mono hB.size)
  have K1 := K1.below' h14
  have K2 := K2.below' h14
  have hx3 := hx3.below h14
  have hx6 := hx6.below h14
  clear h14
  have T1 := two_sum _ _ _ _ es k5 k6
  have T2 := over_sum _ _ _ _ es k5 k6 k7
  have T1 := Lib.hid T1
  have T2 := Lib.hid T2
  clear es
  go_wp2_with fail
  have K3 := Bk.new w14 25 #[.int .u64 sh, .int .u64 sl]
  have K1 := K1.alloc (.cells #[.int .u64 sh, .int .u64 sl] 25)
  have K2 := K2.alloc (.cells #[.int .u64 sh, .int .u64 sl] 25)
  have hx3 := hx3.alloc (.cells #[.int .u64 sh, .int .u64 sl] 25)
  have hx6 := hx6.alloc (.cells #[.int .u64 sh, .int .u64 sl] 25)
  have hB := hB.alloc hB.size (.cells #[.int .u64 sh, .int .u64 sl] 25)
  generalize w14.alloc (.cells #[.int .u64 sh, .int .u64 sl] 25) = w15 at *
  generalize w14.heap.size = g2 at *
  refine (add_any (bitsOf (ph * 18446744073709551616 + pl)) (bitsOf (qh * 18446744073709551616 + ql)) _ _ w15 (by have := L1.out; omega) (by have := L2.out; omega) (bin_bitsOf _) (bin_bitsOf _) hx3 hx6).mono ?_
  rintro e w16 ⟨x7, rfl, hx7, h16⟩
  rw [val_bitsOf, val_bitsOf] at hx7
  have hx7 := Bts.of_own hx7
  have hB := hB.trans (h16.mono hB.size)
  have K1 := K1.below' h16
  have K2 := K2.below' h16
  have K3 := K3.below' h16
  have hx3 := hx3.below h16
  have hx6 := hx6.below h16
  clear h16
  go_wp2_with fail
  refine (two_any _ _ w16 (by have := T2.out.2.2; omega) hx7).mono ?_
  rintro e w17 ⟨rfl, h17⟩
  rw [T1.out.1, T1.out.2]
  have hB := hB.trans (h17.mono hB.size)
  have K1 := K1.below' h17
  have K2 := K2.below' h17
  have K3 := K3.below' h17
  have hx3 := hx3.below h17
  have hx6 := hx6.below h17
  have hx7 := hx7.below h17
  clear h17
  obtain ⟨A7, c7, rfl, hc7⟩ := hx7.form
  have T3 := T2.out
  clear hx7
  clear T1 T2
  generalize (bitsOf (ph * 18446744073709551616 + pl + (qh * 18446744073709551616 + ql))).length = n7 at T3 hc7 ⊢
  have c0 := K1.cell 0
  have c1 := K1.cell 1
  have c2 := K2.cell 0
  have c3 := K2.cell 1
  have c4 := K3.cell 0
  have c5 := K3.cell 1
  have CW := Lib.hid (wcmp_any ph pl qh ql w17 k2 k4)
  have hcy : cy = 0 ∨ cy = 1 := by omega
  rcases hcy with rfl | rfl
  · have hn : ¬ 128 < n7 := by have := T3.2.1 rfl; omega
    clear T3
    go_wp2_with (go_at_call 31; refine CW.out.mono ?_; rintro e w18 ⟨rfl, h18⟩; have C1 := Lib.hid (cmp_prod (ph * 18446744073709551616 + pl) (qh * 18446744073709551616 + ql) _ _ w18 L1.out L2.out (hx3.below h18) (hx6.below h18)); have K4 := K3.below' h18; have c6 := K4.cell 0; have c8 := K4.cell 1)
    refine C1.out.mono ?_
    rintro e w19 ⟨rfl, rfl⟩
    generalize cmpZ (ph * 18446744073709551616 + pl) (qh * 18446744073709551616 + ql) = sg
    go_wp2_with fail
    go_ret
    exact ⟨ret_bool (by simp; omega), hB.trans (h18.mono hB.size)⟩
  · have hn : 128 < n7 := T3.1 rfl
    clear T3
    go_wp2_with (go_at_call 31; refine CW.out.mono ?_; rintro e w18 ⟨rfl, h18⟩; have C1 := Lib.hid (cmp_prod (ph * 18446744073709551616 + pl) (qh * 18446744073709551616 + ql) _ _ w18 L1.out L2.out (hx3.below h18) (hx6.below h18)); have K4 := K3.below' h18; have c6 := K4.cell 0; have c8 := K4.cell 1)
    refine C1.out.mono ?_
    rintro e w19 ⟨rfl, rfl⟩
    generalize cmpZ (ph * 18446744073709551616 + pl) (qh * 18446744073709551616 + ql) = sg
    go_wp2_with fail
    go_ret
    exact ⟨ret_bool (by simp; omega), hB.trans (h18.mono hB.size)⟩
theorem wideProducts_walk (a0 a1 a2 a3 : Int) (w0 : (Lit.int .u64 a0).wf = true) (w1 : (Lit.int .u64 a1).wf = true) (w2 : (Lit.int .u64 a2).wf = true) (w3 : (Lit.int .u64 a3).wf = true) (w : World) :
    Calls Try.prog 8 #[.int .u64 a0, .int .u64 a1, .int .u64 a2, .int .u64 a3] w fun e w' => e = .returned (.bool true) ∧ Below w.heap.size w w' := by
  obtain ⟨a, rfl, ha⟩ := u64_nat w0
  obtain ⟨b, rfl, hb⟩ := u64_nat w1
  obtain ⟨c, rfl, hc⟩ := u64_nat w2
  obtain ⟨d, rfl, hd⟩ := u64_nat w3
  exact products_some a b c d w ha hb hc hd
end Go.Proofs.Ytcjfomibbdlbaaa
