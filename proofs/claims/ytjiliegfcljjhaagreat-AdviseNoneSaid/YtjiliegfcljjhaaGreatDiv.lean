/-
  Plain arithmetic under math/bits.Div64: a division of 128 bits by 64, by two digits of 32 bits, as the library's text goes; no Go in sight.
-/
import Derived.Laws.BitsAllLaws
import Derived.Laws.Bits64
import Derived.Lib.BitFns
namespace Go.Proofs.Dv
set_option linter.unusedVariables false
set_option linter.unusedSimpArgs false

theorem or_shift (X t s : Nat) (ht : t < 2 ^ s) : (X * 2 ^ s) ||| t = X * 2 ^ s + t := by
  have := Nat.two_pow_add_eq_or_of_lt ht X
  rw [Nat.mul_comm] at this
  exact this.symm

/-- What is shifted: the divisor's highest bit is set; the dividend's two words. -/
theorem norm (hi lo y s Y : Nat) (hY : Y = y * 2 ^ s) (hs : s ≤ 63) (hlo : lo < 18446744073709551616) (h : hi < y) :
    (hi * 2 ^ s + lo / 2 ^ (64 - s)) * 18446744073709551616 + lo * 2 ^ s % 18446744073709551616 = (hi * 18446744073709551616 + lo) * 2 ^ s ∧ hi * 2 ^ s + lo / 2 ^ (64 - s) < Y ∧ lo / 2 ^ (64 - s) < 2 ^ s := by
  have e : (2 : Nat) ^ (64 - s) * 2 ^ s = 18446744073709551616 := by rw [← Nat.pow_add]; have : 64 - s + s = 64 := by omega
                                                                     rw [this]
  have hp : 0 < 2 ^ (64 - s) := Nat.two_pow_pos _
  have hp2 : 0 < 2 ^ s := Nat.two_pow_pos _
  have d : lo / 2 ^ (64 - s) < 2 ^ s := by rw [Nat.div_lt_iff_lt_mul hp, Nat.mul_comm, e]; exact hlo
  have e2 : lo * 2 ^ s = lo / 2 ^ (64 - s) * 18446744073709551616 + lo * 2 ^ s % 18446744073709551616 := by
    have e3 : lo * 2 ^ s / 18446744073709551616 = lo / 2 ^ (64 - s) := by rw [← e, Nat.mul_div_mul_right _ _ hp2]
    rw [← e3]
    exact (Nat.div_add_mod' _ _).symm
  refine ⟨?_, ?_, d⟩
  · rw [Nat.add_mul (hi * 18446744073709551616), e2, Nat.add_mul]
    have e4 : hi * 18446744073709551616 * 2 ^ s = hi * 2 ^ s * 18446744073709551616 := by rw [Nat.mul_right_comm]
    rw [e4]
    omega
  · rw [hY]
    have : hi * 2 ^ s + 2 ^ s ≤ y * 2 ^ s := by rw [← Nat.succ_mul]; exact Nat.mul_le_mul_right _ h
    omega

/-- A digit's trial: what holds at the head of each round. -/
def Rel (U u1 n1 n0 q r : Nat) : Prop := U = q * n1 + r ∧ U * 4294967296 + u1 < (q + 1) * (n1 * 4294967296 + n0) ∧ r < 4294967296 ∧ q ≤ 4294967297
/-- A digit found. -/
def Fnd (U u1 n1 n0 q : Nat) : Prop := q * (n1 * 4294967296 + n0) ≤ U * 4294967296 + u1 ∧ U * 4294967296 + u1 < (q + 1) * (n1 * 4294967296 + n0) ∧ q < 4294967296

section
variable {U u1 n1 n0 q r : Nat}
theorem big (U u1 q n1 n0 r : Nat) (h : U = q * n1 + r) : U * 4294967296 + u1 = q * (n1 * 4294967296) + (r * 4294967296 + u1) := by
  rw [h, Nat.add_mul, Nat.mul_assoc]; omega
theorem rel_start (h1 : 2147483648 ≤ n1) (h1' : n1 < 4294967296) (h0 : n0 < 4294967296) (hu : u1 < 4294967296) (hU : U < n1 * 4294967296 + n0) : Rel U u1 n1 n0 (U / n1) (U % n1) := by
  have hm := Nat.mod_lt U (by omega : n1 > 0)
  have e := Nat.div_add_mod' U n1
  refine ⟨e.symm, ?_, by omega, ?_⟩
  · rw [Nat.add_mul, Nat.one_mul, Nat.mul_add]
    generalize hq : U / n1 = q at *
    generalize hr : U % n1 = r at *
    have := big U u1 q n1 n0 r e.symm
    have : r * 4294967296 + 4294967296 ≤ n1 * 4294967296 := by omega
    omega
  · have h2 : U < 4294967298 * n1 := by omega
    have := (Nat.div_lt_iff_lt_mul (by omega : 0 < n1)).2 h2
    omega
theorem rel_more (h : Rel U u1 n1 n0 q r) (hU : U < n1 * 4294967296 + n0) (hu : u1 < 4294967296) (ht : 4294967296 ≤ q ∨ r * 4294967296 + u1 < q * n0) : 0 < q ∧ U * 4294967296 + u1 < q * (n1 * 4294967296 + n0) := by
  obtain ⟨e, h2, h3, h4⟩ := h
  rcases ht with ht | ht
  · refine ⟨by omega, ?_⟩
    have : 4294967296 * (n1 * 4294967296 + n0) ≤ q * (n1 * 4294967296 + n0) := Nat.mul_le_mul_right _ ht
    omega
  · refine ⟨?_, ?_⟩
    · rcases Nat.eq_zero_or_pos q with h0 | h0
      · subst h0; omega
      · exact h0
    · rw [big U u1 q n1 n0 r e, Nat.mul_add]; omega
theorem rel_step (h : Rel U u1 n1 n0 q r) (hU : U < n1 * 4294967296 + n0) (hu : u1 < 4294967296) (ht : 4294967296 ≤ q ∨ r * 4294967296 + u1 < q * n0) (hr : r + n1 < 4294967296) : Rel U u1 n1 n0 (q - 1) (r + n1) := by
  obtain ⟨hq, hlt⟩ := rel_more h hU hu ht
  obtain ⟨e, h2, h3, h4⟩ := h
  obtain ⟨p, rfl⟩ : ∃ p, q = p + 1 := ⟨q - 1, by omega⟩
  refine ⟨?_, hlt, hr, by omega⟩
  rw [e, Nat.add_mul]; simp; omega
theorem rel_break (h : Rel U u1 n1 n0 q r) (hU : U < n1 * 4294967296 + n0) (hu : u1 < 4294967296) (h0 : n0 < 4294967296) (ht : 4294967296 ≤ q ∨ r * 4294967296 + u1 < q * n0) (hr : 4294967296 ≤ r + n1) : Fnd U u1 n1 n0 (q - 1) := by
  obtain ⟨hq, hlt⟩ := rel_more h hU hu ht
  obtain ⟨e, h2, h3, h4⟩ := h
  obtain ⟨p, rfl⟩ : ∃ p, q = p + 1 := ⟨q - 1, by omega⟩
  have hp : p ≤ 4294967296 := by omega
  have e2 : U = p * n1 + (r + n1) := by rw [e, Nat.add_mul]; omega
  have k1 : p * n0 ≤ 4294967296 * 4294967295 := Nat.mul_le_mul hp (by omega)
  have k2 : p * (n1 * 4294967296 + n0) ≤ U * 4294967296 + u1 := by rw [big U u1 p n1 n0 _ e2, Nat.mul_add]; omega
  refine ⟨by simpa using k2, by simpa using hlt, ?_⟩
  rcases Nat.lt_or_ge p 4294967296 with h5 | h5
  · simpa using h5
  · have : 4294967296 * (n1 * 4294967296 + n0) ≤ p * (n1 * 4294967296 + n0) := Nat.mul_le_mul_right _ h5
    omega
theorem rel_end (h : Rel U u1 n1 n0 q r) (hq : q < 4294967296) (ht : q * n0 ≤ r * 4294967296 + u1) : Fnd U u1 n1 n0 q := by
  obtain ⟨e, h2, h3, h4⟩ := h
  exact ⟨by rw [big U u1 q n1 n0 r e, Nat.mul_add]; omega, h2, hq⟩
theorem rest_lt (h : Fnd U u1 n1 n0 q) : U * 4294967296 + u1 - q * (n1 * 4294967296 + n0) < n1 * 4294967296 + n0 := by
  obtain ⟨h1, h2, _⟩ := h
  rw [Nat.add_mul] at h2
  omega
end
/-- The two digits together. -/
theorem both (N Y y s U u1 u0 n1 n0 q1 q0 V : Nat) (hN : N * 2 ^ s = (U * 4294967296 + u1) * 4294967296 + u0) (hY : Y = y * 2 ^ s) (hy : Y = n1 * 4294967296 + n0) (f1 : Fnd U u1 n1 n0 q1) (hV : V = U * 4294967296 + u1 - q1 * Y) (f0 : Fnd V u0 n1 n0 q0) :
    N = (q1 * 4294967296 + q0) * y + (V * 4294967296 + u0 - q0 * Y) / 2 ^ s ∧ (V * 4294967296 + u0 - q0 * Y) / 2 ^ s < y := by
  obtain ⟨a1, a2, a3⟩ := f1
  have hlt := rest_lt f0
  obtain ⟨b1, b2, b3⟩ := f0
  rw [← hy] at a1 b1 hlt
  have hp : 0 < 2 ^ s := Nat.two_pow_pos _
  have e1 : N * 2 ^ s = (q1 * 4294967296 + q0) * Y + (V * 4294967296 + u0 - q0 * Y) := by
    rw [hN, Nat.add_mul (q1 * 4294967296) q0 Y]
    have k : q1 * 4294967296 * Y = q1 * Y * 4294967296 := by rw [Nat.mul_right_comm]
    omega
  generalize V * 4294967296 + u0 - q0 * Y = R at e1 hlt ⊢
  generalize q1 * 4294967296 + q0 = Q at e1 ⊢
  have e2 : N * 2 ^ s = Q * y * 2 ^ s + R := by rw [e1, hY, Nat.mul_assoc]
  have e3 : N = Q * y + R / 2 ^ s := by
    have k : N * 2 ^ s / 2 ^ s = (Q * y * 2 ^ s + R) / 2 ^ s := by rw [e2]
    rw [Nat.mul_div_cancel _ hp, Nat.add_comm (Q * y * 2 ^ s), Nat.add_mul_div_right _ _ hp] at k
    omega
  exact ⟨e3, by rw [Nat.div_lt_iff_lt_mul hp, ← hY]; exact hlt⟩
/-- What the words going round leave of a rest. -/
theorem wrap_rest (U u1 q Y V : Nat) (hV : V = U * 4294967296 + u1 - q * Y) (hle : q * Y ≤ U * 4294967296 + u1) (hb : V < 18446744073709551616) :
    IntKind.u64.wrap (IntKind.u64.wrap (IntKind.u64.wrap ((U : Int) * 4294967296) + (u1 : Int)) - IntKind.u64.wrap ((q : Int) * (Y : Int))) = (V : Int) := by
  rw [IntKind.wrap_u64, IntKind.wrap_u64, IntKind.wrap_u64, IntKind.wrap_u64]
  have e : ((q * Y : Nat) : Int) = (q : Int) * (Y : Int) := by push_cast; rfl
  rw [← e]
  generalize q * Y = p at *
  omega
theorem bitLen_spec (f x : Nat) (hx : x < 2 ^ f) (h0 : 0 < x) : 2 ^ (Lib.bitLenAux f x - 1) ≤ x ∧ x < 2 ^ Lib.bitLenAux f x ∧ 0 < Lib.bitLenAux f x ∧ Lib.bitLenAux f x ≤ f := by
  induction f generalizing x with
  | zero => simp at hx; omega
  | succ f ih =>
    rw [Lib.bitLenAux, if_neg (by omega)]
    rcases Nat.eq_zero_or_pos (x / 2) with h | h
    · have h1 : Lib.bitLenAux f (x / 2) = 0 := by rw [h]; cases f <;> simp [Lib.bitLenAux]
      rw [h1]
      simp
      omega
    · obtain ⟨i1, i2, i3, i4⟩ := ih (x / 2) (by rw [Nat.pow_succ] at hx; omega) h
      generalize Lib.bitLenAux f (x / 2) = n at *
      obtain ⟨m, rfl⟩ : ∃ m, n = m + 1 := ⟨n - 1, by omega⟩
      have e1 : 1 + (m + 1) - 1 = m + 1 := by omega
      have e2 : 1 + (m + 1) = m + 1 + 1 := by omega
      rw [e1, e2, Nat.pow_succ 2 (m + 1)]
      simp at i1
      have e3 : 2 ^ (m + 1) = 2 * 2 ^ m := by rw [Nat.pow_succ]; omega
      rw [e3] at i2 ⊢
      omega
theorem lz_spec (y : Nat) (h0 : 0 < y) (h1 : y < 18446744073709551616) : ∃ s : Nat, (64 - (Lib.bitLen y : Int)) = (s : Int) ∧ s ≤ 63 ∧ 9223372036854775808 ≤ y * 2 ^ s ∧ y * 2 ^ s < 18446744073709551616 := by
  obtain ⟨a, b, c, d⟩ := bitLen_spec 64 y h1 h0
  unfold Lib.bitLen
  generalize Lib.bitLenAux 64 y = n at *
  refine ⟨64 - n, by omega, by omega, ?_, ?_⟩
  · have e : (2 : Nat) ^ (n - 1) * 2 ^ (64 - n) = 9223372036854775808 := by rw [← Nat.pow_add]; have : n - 1 + (64 - n) = 63 := by omega
                                                                            rw [this]
    rw [← e]
    exact Nat.mul_le_mul_right _ a
  · have e : (2 : Nat) ^ n * 2 ^ (64 - n) = 18446744073709551616 := by rw [← Nat.pow_add]; have : n + (64 - n) = 64 := by omega
                                                                       rw [this]
    rw [← e]
    exact Nat.mul_lt_mul_of_pos_right b (Nat.two_pow_pos _)
end Go.Proofs.Dv
