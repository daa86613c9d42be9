/-
  The walks of the four laws on wide numbers (package trimtablaw01): each returns true, for every input; nothing that was there turns.
-/
import Derived.Test.YtalmhnimmhgloaaWide
import Derived.Test.YtalmhnimmhgloaaBitx
import Derived.OpenShut
namespace Go.Proofs.Ytalmhnimmhgloaa
open Go.RowKit Go.Proofs.Mem Go.Proofs.Bit
set_option linter.unusedVariables false
set_option linter.unusedSimpArgs false

theorem u64_nat {a : Int} (h : (Lit.int .u64 a).wf = true) : ∃ n : Nat, a = n ∧ n < 18446744073709551616 := by
  have := bounds_u64 h
  exact ⟨a.toNat, by omega, by omega⟩
theorem muldiv_lit (up : Bool) (n : Nat) (hn : mulDivN 10 3 4 up = n) (h : n < 18446744073709551616) (w : World) : Calls Try.prog 38 #[.int .u64 10, .int .u64 3, .int .u64 4, .bool up] w fun e w' => e = .returned (.tuple #[.int .u64 n, .int .i64 0]) ∧ Below w.heap.size w w' := by
  have h := muldiv_some 10 3 4 up w (by omega) (by omega) (by omega) (by omega)
  refine Calls.mono (R := MulDivIs 10 3 4 up w) (by simpa using h) ?_
  rintro e w' ⟨h1 | h1 | h1, hb⟩
  · obtain ⟨h1, _⟩ := h1; cases h1
  · obtain ⟨_, h1, _⟩ := h1; rw [hn] at h1; omega
  · obtain ⟨_, m, h1, _, rfl⟩ := h1; rw [hn] at h1; subst h1; exact ⟨rfl, hb⟩
theorem two_vals (h l : Nat) (hh : h < 18446744073709551616) (hl : l < 18446744073709551616) : (h * 18446744073709551616 + l) / 18446744073709551616 % 18446744073709551616 = h ∧ (h * 18446744073709551616 + l) % 18446744073709551616 = l := by omega
theorem numb_small (n : Nat) (v : Value) (w : World) (hn : n < 18446744073709551616) (hv : Bts w v (bitsOf n)) :
    Calls Try.prog 55 #[v] w fun e w' => e = .returned (.tuple #[.int .u64 n, .bool true]) ∧ w = w' := by
  have hlen : (bitsOf n).length ≤ 64 := length_bitsOf_le (by omega)
  have := numb_any n v w (by omega) hv
  rw [Nat.mod_eq_of_lt hn, decide_eq_true hn] at this
  exact this
theorem len64 {n : Nat} (h : n < 18446744073709551616) : (bitsOf n).length ≤ 64 := length_bitsOf_le (by omega)
theorem len128 {h l : Nat} (hh : h < 18446744073709551616) (hl : l < 18446744073709551616) : (bitsOf (h * 18446744073709551616 + l)).length ≤ 128 := length_bitsOf_le (by omega)
theorem cmpZ_neg (x y : Nat) : cmpZ y x = -cmpZ x y := by
  unfold cmpZ
  rcases Nat.lt_trichotomy x y with h | h | h
  · rw [if_pos h, if_neg (by omega), if_pos h]; rfl
  · subst h; simp
  · rw [if_neg (by omega), if_pos h, if_pos h]
theorem cmpZ_bd (x y : Nat) : -1 ≤ cmpZ x y ∧ cmpZ x y ≤ 1 := by unfold cmpZ; split <;> (try split) <;> omega
theorem cmp_prod (x y : Nat) (u v : Value) (w : World) (hx : (bitsOf x).length ≤ 128) (hy : (bitsOf y).length ≤ 128) (hu : Bts w u (bitsOf x)) (hv : Bts w v (bitsOf y)) :
    Calls Try.prog 53 #[u, v] w fun e w' => e = .returned (.int .i64 (cmpZ x y)) ∧ w = w' := by
  have := cmp_any (bitsOf x) (bitsOf y) u v w (by omega) (by omega) (bin_bitsOf _) (bin_bitsOf _) hu hv
  rw [val_bitsOf, val_bitsOf] at this
  exact this
theorem prod_any (a b : Nat) (u v : Value) (w : World) (ha : a < 18446744073709551616) (hb : b < 18446744073709551616) (hu : Bts w u (bitsOf a)) (hv : Bts w v (bitsOf b)) :
    Calls Try.prog 51 #[u, v] w (NewBts w (bitsOf (a * b))) := by
  have := mul_any (bitsOf a) (bitsOf b) u v w (by have := len64 ha; omega) (by have := len64 hb; omega) (bin_bitsOf _) (bin_bitsOf _) hu hv
  rw [val_bitsOf, val_bitsOf] at this
  exact this
theorem len_prod {a b : Nat} (ha : a < 18446744073709551616) (hb : b < 18446744073709551616) : (bitsOf (a * b)).length ≤ 128 := length_bitsOf_le (Nat.lt_of_lt_of_eq (Nat.mul_lt_mul'' ha hb) rfl)
/-! ### WideParts -/
/-! ### WideProducts -/
theorem two_sum (N c h l : Nat) (e : N = c * 340282366920938463463374607431768211456 + h * 18446744073709551616 + l) (hh : h < 18446744073709551616) (hl : l < 18446744073709551616) : N / 18446744073709551616 % 18446744073709551616 = h ∧ N % 18446744073709551616 = l := by omega
theorem over_sum (N c h l : Nat) (e : N = c * 340282366920938463463374607431768211456 + h * 18446744073709551616 + l) (hh : h < 18446744073709551616) (hl : l < 18446744073709551616) (hc : c ≤ 1) : (c = 1 → 128 < (bitsOf N).length) ∧ (c = 0 → (bitsOf N).length ≤ 128) ∧ (bitsOf N).length ≤ 129 := by
  have h1 := length_bitsOf_iff N 128
  refine ⟨fun h => ?_, fun h => ?_, ?_⟩
  · rcases Nat.lt_or_ge 128 (bitsOf N).length with k | k
    · exact k
    · have := h1.1 k
      have e128 : (2 : Nat) ^ 128 = 340282366920938463463374607431768211456 := rfl
      rw [e128] at this
      omega
  · refine h1.2 ?_
    have e128 : (2 : Nat) ^ 128 = 340282366920938463463374607431768211456 := rfl
    rw [e128]
    omega
  · refine length_bitsOf_le ?_
    have e129 : (2 : Nat) ^ 129 = 680564733841876926926749214863536422912 := rfl
    rw [e129]
    omega
end Go.Proofs.Ytalmhnimmhgloaa