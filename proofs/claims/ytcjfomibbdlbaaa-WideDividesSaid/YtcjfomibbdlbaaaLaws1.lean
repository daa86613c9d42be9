/-
  The walks of the four laws on wide numbers (package trimtablaw01): each returns true, for every input; nothing that was there turns.
-/
import Derived.Test.YtcjfomibbdlbaaaWide
import Derived.Test.YtcjfomibbdlbaaaBitx
import Derived.OpenShut
namespace Go.Proofs.Ytcjfomibbdlbaaa
open Go.RowKit Go.Proofs.Mem Go.Proofs.Bit
set_option linter.unusedVariables false
set_option linter.unusedSimpArgs false

theorem u64_nat {a : Int} (h : (Lit.int .u64 a).wf = true) : ∃ n : Nat, a = n ∧ n < 18446744073709551616 := by
  have := bounds_u64 h
  exact ⟨a.toNat, by omega, by omega⟩
theorem muldiv_lit (up : Bool) (n : Nat) (hn : mulDivN 10 3 4 up = n) (h : n < 18446744073709551616) (w : World) : Calls Try.prog 18 #[.int .u64 10, .int .u64 3, .int .u64 4, .bool up] w fun e w' => e = .returned (.tuple #[.int .u64 n, .int .i64 0]) ∧ Below w.heap.size w w' := by
  have h := muldiv_some 10 3 4 up w (by omega) (by omega) (by omega) (by omega)
  refine Calls.mono (R := MulDivIs 10 3 4 up w) (by simpa using h) ?_
  rintro e w' ⟨h1 | h1 | h1, hb⟩
  · obtain ⟨h1, _⟩ := h1; cases h1
  · obtain ⟨_, h1, _⟩ := h1; rw [hn] at h1; omega
  · obtain ⟨_, m, h1, _, rfl⟩ := h1; rw [hn] at h1; subst h1; exact ⟨rfl, hb⟩
theorem lives1_any (w : World) : Calls Try.prog 11 #[] w fun e w' => e = .returned (.bool true) ∧ Below w.heap.size w w' := by
  go_enter Try.func11, Try.ntmps11
  go_wp2_with fail
  refine (muldiv_lit false 7 (by decide) (by omega) w).mono ?_
  rintro e w1 ⟨rfl, hb1⟩
  go_wp2_with fail
  refine (muldiv_lit true 8 (by decide) (by omega) w1).mono ?_
  rintro e w2 ⟨rfl, hb2⟩
  go_wp2_with fail
  go_ret
  exact ⟨rfl, hb1.trans (hb2.mono hb1.size)⟩
theorem divides_none (h l : Nat) (w : World) (hh : h < 18446744073709551616) (hl : l < 18446744073709551616) :
    Calls Try.prog 3 #[.int .u64 h, .int .u64 l, .int .u64 0] w fun e w' => e = .returned (.bool true) ∧ Below w.heap.size w w' := by
  go_enter Try.func3, Try.ntmps3
  go_wp2_with (go_at_call 11; refine (lives1_any w).mono ?_; rintro e w1 ⟨rfl, hb1⟩)
  refine (wdiv_none h l _).mono ?_
  rintro e w2 ⟨rfl, hb2⟩
  go_wp2_with fail
  go_ret
  refine ⟨rfl, ?_⟩
  have hb3 := hb1.trans (hb2.mono hb1.size)
  exact hb3.alloc hb3.size _
theorem two_vals (h l : Nat) (hh : h < 18446744073709551616) (hl : l < 18446744073709551616) : (h * 18446744073709551616 + l) / 18446744073709551616 % 18446744073709551616 = h ∧ (h * 18446744073709551616 + l) % 18446744073709551616 = l := by omega
theorem two_pair (h l : Nat) (v : Value) (w : World) (hh : h < 18446744073709551616) (hl : l < 18446744073709551616) (hv : Bts w v (bitsOf (h * 18446744073709551616 + l))) :
    Calls Try.prog 16 #[v] w fun e w' => e = .returned (.tuple #[.int .u64 h, .int .u64 l]) ∧ Below w.heap.size w w' := by
  have hlen : (bitsOf (h * 18446744073709551616 + l)).length ≤ 128 := length_bitsOf_le (by omega)
  have := two_any _ v w (by omega) hv
  rw [(two_vals h l hh hl).1, (two_vals h l hh hl).2] at this
  exact this
theorem numb_small (n : Nat) (v : Value) (w : World) (hn : n < 18446744073709551616) (hv : Bts w v (bitsOf n)) :
    Calls Try.prog 17 #[v] w fun e w' => e = .returned (.tuple #[.int .u64 n, .bool true]) ∧ w = w' := by
  have hlen : (bitsOf n).length ≤ 64 := length_bitsOf_le (by omega)
  have := numb_any n v w (by omega) hv
  rw [Nat.mod_eq_of_lt hn, decide_eq_true hn] at this
  exact this
theorem len64 {n : Nat} (h : n < 18446744073709551616) : (bitsOf n).length ≤ 64 := length_bitsOf_le (by omega)
theorem len128 {h l : Nat} (hh : h < 18446744073709551616) (hl : l < 18446744073709551616) : (bitsOf (h * 18446744073709551616 + l)).length ≤ 128 := length_bitsOf_le (by omega)
theorem wideDivides_walk (a0 a1 a2 : Int) (w0 : (Lit.int .u64 a0).wf = true) (w1 : (Lit.int .u64 a1).wf = true) (w2 : (Lit.int .u64 a2).wf = true) (w : World) :
    Calls Try.prog 3 #[.int .u64 a0, .int .u64 a1, .int .u64 a2] w fun e w' => e = .returned (.bool true) ∧ Below w.heap.size w w' := by
  obtain ⟨h, rfl, hh⟩ := u64_nat w0
  obtain ⟨l, rfl, hl⟩ := u64_nat w1
  obtain ⟨y, rfl, hy⟩ := u64_nat w2
  rcases Nat.eq_zero_or_pos y with h0 | h0
  · subst h0
    exact divides_none h l w hh hl
  have hy1 : ((y : Int) == 0) = false := by simp; omega
  go_enter Try.func3, Try.ntmps3
  go_wp2_with (go_at_call 11; refine (lives1_any w).mono ?_; rintro e w1 ⟨rfl, hb1⟩)
  refine (wdiv_any h l y _ hh hl hy h0).mono ?_
  rintro e w2 ⟨qh, ql, r, rfl, d1, d2, d3, d4, hb2⟩
  have hb3 := hb1.trans (hb2.mono hb1.size)
  obtain ⟨A1, A2⟩ := mulDiv_arith _ _ _ _ d1 d2
  have A1 := Lib.hid A1
  have A2 := Lib.hid A2
  clear d1 hb1 hb2
  go_wp2_with fail
  have hk := Bk.new w2 25 #[.int .u64 qh, .int .u64 ql]
  have hb4 := hb3.alloc hb3.size (.cells #[.int .u64 qh, .int .u64 ql] 25)
  generalize w2.alloc (.cells #[.int .u64 qh, .int .u64 ql] 25) = w3 at *
  generalize w2.heap.size = g at *
  refine (join_any h l w3 hh hl).mono ?_
  rintro e w4 ⟨x1, rfl, hx1, hb5⟩
  have hk := hk.below' hb5
  have hb6 := hb4.trans (hb5.mono hb4.size)
  go_wp2_with fail
  refine (of_any y w4 hy).mono ?_
  rintro e w5 ⟨x2, rfl, hx2, hb7⟩
  have hk := hk.below' hb7
  have hb8 := hb6.trans (hb7.mono hb6.size)
  go_wp2_with fail
  refine (div_any (bitsOf (h * 18446744073709551616 + l)) (bitsOf y) _ _ w5 (by have := len128 hh hl; omega) (by have := len64 hy; omega) (bin_bitsOf _) (bin_bitsOf _) (hx1.below hb7) hx2 (by rw [val_bitsOf]; exact h0)).mono ?_
  rintro e w6 ⟨x3, x4, rfl, hx3, hx4, hb9⟩
  rw [val_bitsOf, val_bitsOf, A1.out] at hx3
  rw [val_bitsOf, val_bitsOf, A2.out] at hx4
  have hk := hk.below' hb9
  have hb10 := hb8.trans (hb9.mono hb8.size)
  go_wp2_with fail
  refine (two_pair qh ql _ w6 d3 d4 hx3).mono ?_
  rintro e w7 ⟨rfl, hb11⟩
  have hk := hk.below' hb11
  have hb12 := hb10.trans (hb11.mono hb10.size)
  go_wp2_with fail
  refine (numb_small r _ w7 (by omega) (hx4.below hb11)).mono ?_
  rintro e w8 ⟨rfl, rfl⟩
  have c0 := hk.cell 0
  have c1 := hk.cell 1
  clear hk
  go_wp2_with fail
  go_ret
  exact ⟨rfl, hb12⟩
end Go.Proofs.Ytcjfomibbdlbaaa
