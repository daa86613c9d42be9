/-
  Plain Lean: a quantity's text says the quantity.
-/
import Derived.Test.YtilmmmokobhnfaaDoorQn
namespace Go.Proofs.Qn
open Go
set_option linter.unusedVariables false
theorem dig_of (u : Nat) (h : u < 10) : isDig (UInt8.ofNat (48 + u)) = true ∧ (UInt8.ofNat (48 + u)).toNat - 48 = u ∧ (UInt8.ofNat (48 + u) = 48 → u = 0) := by
  have e : (UInt8.ofNat (48 + u)).toNat = 48 + u := by simp; omega
  refine ⟨by simp only [isDig, e, Bool.and_eq_true, decide_eq_true_eq]; omega, by rw [e]; omega, fun h2 => ?_⟩
  have := congrArg UInt8.toNat h2
  rw [e] at this
  simp at this
  exact this
theorem dec_ok (n : Nat) : (∀ c ∈ Lib.decDigits n, isDig c = true) ∧ decV (Lib.decDigits n) = n ∧ Lib.decDigits n ≠ [] ∧ (0 < n → (Lib.decDigits n)[0]? ≠ some 48) ∧ (n < 10 → (Lib.decDigits n).length = 1) := by
  induction n using Nat.strongRecOn with
  | ind n ih =>
    rw [Lib.decDigits]
    split
    · rename_i h
      obtain ⟨h1, h2, h3⟩ := dig_of n h
      generalize UInt8.ofNat (48 + n) = c at h1 h2 h3
      refine ⟨by simpa using h1, by simp [decV, h2], by simp, fun h0 e => ?_, fun _ => rfl⟩
      have := h3 (Option.some.inj e)
      omega
    · rename_i h
      obtain ⟨i1, i2, i3, i4, _⟩ := ih (n / 10) (by omega)
      obtain ⟨h1, h2, _⟩ := dig_of (n % 10) (by omega)
      generalize UInt8.ofNat (48 + n % 10) = c0 at h1 h2
      refine ⟨fun c hc => ?_, by rw [decV_snoc, i2, h2]; omega, by simp, fun h0 => ?_, fun h10 => absurd h10 h⟩
      · rcases List.mem_append.1 hc with hc | hc
        · exact i1 c hc
        · simp at hc; subst hc; exact h1
      · have hl : 0 < (Lib.decDigits (n / 10)).length := List.length_pos_iff.2 i3
        rw [List.getElem?_append_left hl]
        exact i4 (by omega)
theorem ndig_all {l u : List UInt8} (h : ∀ c ∈ l, isDig c = true) (hu : ∀ c, u[0]? = some c → isDig c = false) : ndig (l ++ u) = l.length := by
  unfold ndig
  induction l with
  | nil =>
    cases u with
    | nil => rfl
    | cons c u => rw [List.nil_append, List.takeWhile_cons, hu c rfl]; rfl
  | cons a l ih =>
    rw [List.cons_append, List.takeWhile_cons, h a (by simp), if_pos rfl, List.length_cons, ih (fun c hc => h c (by simp [hc])), List.length_cons]
theorem parse_text {l u : List UInt8} {n sc : Nat} (hd : ∀ c ∈ l, isDig c = true) (hl : l ≠ []) (hu : ∀ c, u[0]? = some c → isDig c = false) (hs : scaleN u = sc) (h0 : sc ≠ 0) (hz : 1 < l.length → l[0]? ≠ some 48) (hv : decV l * sc = n) (hn : n ≤ 9007199254740992) : parseR (l ++ u) = (n, 0) := by
  have e1 := ndig_all hd hu
  have e2 : (l ++ u).drop l.length = u := List.drop_left
  have e3 : (l ++ u).take l.length = l := List.take_left
  have hp : 0 < l.length := List.length_pos_iff.2 hl
  unfold parseR
  rw [e1, e2, e3, hs, hv, if_neg, if_neg (by omega)]
  rintro (h | h | ⟨h, h'⟩)
  · omega
  · exact h0 h
  · rw [List.getElem?_append_left hp] at h'
    exact hz h h'
theorem first_not (n : Nat) : 1 < (Lib.decDigits n).length → (Lib.decDigits n)[0]? ≠ some 48 := by
  intro h
  obtain ⟨_, _, _, h4, h5⟩ := dec_ok n
  rcases Nat.eq_zero_or_pos n with e | e
  · have := h5 (by omega); omega
  · exact h4 e
end Go.Proofs.Qn
