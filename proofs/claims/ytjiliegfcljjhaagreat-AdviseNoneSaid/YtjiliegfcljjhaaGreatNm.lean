/-
  Names, plainly: which bytes may stand where ('chB'), and is it a name ('nmB'). Nothing of the program.
-/
import Derived.Test.YtjiliegfcljjhaaGreatMem
namespace Go.Proofs.YtjiliegfcljjhaaGreat
open Go.RowKit Go.Proofs.Mem
set_option linter.unusedVariables false
/-- May this byte stand at place i of a name of n bytes? -/
def chB (n i : Nat) (c : Nat) : Bool := decide (97 ≤ c ∧ c ≤ 122) || (decide (48 ≤ c ∧ c ≤ 57) || decide (c = 45 ∧ i ≠ 0 ∧ i + 1 ≠ n))
def nmAll (s : ByteArray) : Prop := ∀ (i : Nat) (h : i < s.size), chB s.size i s[i].toNat = true
instance (s : ByteArray) : Decidable (nmAll s) := by unfold nmAll; infer_instance
def nmB (s : ByteArray) : Bool := decide (nmAll s) && (decide (1 ≤ s.size) && decide (s.size ≤ 32))
theorem ch_cases (n i c : Nat) : (97 ≤ c ∧ c ≤ 122 ∧ chB n i c = true) ∨ (48 ≤ c ∧ c ≤ 57 ∧ chB n i c = true) ∨ (c = 45 ∧ i ≠ 0 ∧ i + 1 ≠ n ∧ chB n i c = true) ∨ (c = 45 ∧ i = 0 ∧ chB n i c = false) ∨ (c = 45 ∧ i ≠ 0 ∧ i + 1 = n ∧ chB n i c = false) ∨ (c < 48 ∧ c ≠ 45 ∧ chB n i c = false) ∨ (58 ≤ c ∧ c < 97 ∧ chB n i c = false) ∨ (122 < c ∧ chB n i c = false) := by
  by_cases h1 : 97 ≤ c ∧ c ≤ 122
  · exact .inl ⟨h1.1, h1.2, by simp [chB, h1]⟩
  · by_cases h2 : 48 ≤ c ∧ c ≤ 57
    · exact .inr (.inl ⟨h2.1, h2.2, by simp [chB, h2]⟩)
    · by_cases h3 : c = 45
      · subst h3
        by_cases h4 : i = 0
        · exact .inr (.inr (.inr (.inl ⟨rfl, h4, by simp [chB, h4]⟩)))
        · by_cases h5 : i + 1 = n
          · exact .inr (.inr (.inr (.inr (.inl ⟨rfl, h4, h5, by simp [chB, h5]⟩))))
          · exact .inr (.inr (.inl ⟨rfl, h4, h5, by simp [chB, h4, h5]⟩))
      · have hf : chB n i c = false := by
          unfold chB
          simp only [Bool.or_eq_false_iff, decide_eq_false_iff_not]
          exact ⟨h1, h2, fun h => h3 h.1⟩
        rcases Nat.lt_or_ge c 48 with h4 | h4
        · exact .inr (.inr (.inr (.inr (.inr (.inl ⟨h4, h3, hf⟩)))))
        · rcases Nat.lt_or_ge c 97 with h5 | h5
          · exact .inr (.inr (.inr (.inr (.inr (.inr (.inl ⟨by omega, h5, hf⟩))))))
          · exact .inr (.inr (.inr (.inr (.inr (.inr (.inr ⟨by omega, hf⟩))))))
/-- A sign that may stand in a name, wherever. -/
def sgB (c : Nat) : Bool := decide (97 ≤ c ∧ c ≤ 122) || (decide (48 ≤ c ∧ c ≤ 57) || decide (c = 45))
theorem sg_cases (c : Nat) : (97 ≤ c ∧ c ≤ 122 ∧ sgB c = true) ∨ (48 ≤ c ∧ c ≤ 57 ∧ sgB c = true) ∨ (c = 45 ∧ sgB c = true) ∨ (c < 48 ∧ c ≠ 45 ∧ sgB c = false) ∨ (58 ≤ c ∧ c < 97 ∧ sgB c = false) ∨ (122 < c ∧ sgB c = false) := by
  by_cases h1 : 97 ≤ c ∧ c ≤ 122
  · exact .inl ⟨h1.1, h1.2, by simp [sgB, h1]⟩
  · by_cases h2 : 48 ≤ c ∧ c ≤ 57
    · exact .inr (.inl ⟨h2.1, h2.2, by simp [sgB, h2]⟩)
    · by_cases h3 : c = 45
      · subst h3; exact .inr (.inr (.inl ⟨rfl, by decide⟩))
      · have hf : sgB c = false := by
          unfold sgB
          simp only [Bool.or_eq_false_iff, decide_eq_false_iff_not]
          exact ⟨h1, h2, h3⟩
        rcases Nat.lt_or_ge c 48 with h4 | h4
        · exact .inr (.inr (.inr (.inl ⟨h4, h3, hf⟩)))
        · rcases Nat.lt_or_ge c 97 with h5 | h5
          · exact .inr (.inr (.inr (.inr (.inl ⟨by omega, h5, hf⟩))))
          · exact .inr (.inr (.inr (.inr (.inr ⟨by omega, hf⟩))))
theorem ch_sg {n i c : Nat} (h : c = 45 → i ≠ 0 ∧ i + 1 ≠ n) : chB n i c = sgB c := by
  unfold chB sgB
  by_cases h3 : c = 45
  · have := h h3; simp [h3, this]
  · simp [h3]
theorem nm_yes {s : ByteArray} (h1 : 1 ≤ s.size) (h2 : s.size ≤ 32) (ha : ∀ (i : Nat) (h : i < s.size), chB s.size i s[i].toNat = true) : nmB s = true := by
  have : nmAll s := ha
  simp [nmB, this, h1, h2]
theorem nm_no {s : ByteArray} {i : Nat} (h : i < s.size) (hc : chB s.size i s[i].toNat = false) : nmB s = false := by
  unfold nmB
  rw [Bool.and_eq_false_iff]
  left
  rw [decide_eq_false_iff_not]
  intro ha
  have := ha i h
  rw [hc] at this
  cases this
theorem nm_size {s : ByteArray} (h : s.size = 0 ∨ 32 < s.size) : nmB s = false := by
  unfold nmB
  rw [Bool.and_eq_false_iff]
  right
  rcases h with h | h
  · simp [h]
  · simp; omega
end Go.Proofs.YtjiliegfcljjhaaGreat
