/-
  The walks of package trimtabref05: names.
-/
import Derived.Test.YtilmmmokobhnfaaObjOpen
import Derived.Test.YtilmmmokobhnfaaQuiet
import Derived.Laws.StructEq
import Derived.BigQuiet
namespace Go.Proofs.Ytilmmmokobhnfaa
open Go.RowKit Go.Proofs.Mem
set_option linter.unusedVariables false
set_option linter.unusedSimpArgs false
/-- May this byte stand at place i of a name of n bytes? -/
def chB (n i : Nat) (c : Nat) : Bool := decide (97 ≤ c ∧ c ≤ 122) || (decide (48 ≤ c ∧ c ≤ 57) || decide (c = 45 ∧ i ≠ 0 ∧ i + 1 ≠ n))
def nmAll (s : ByteArray) : Prop := ∀ (i : Nat) (h : i < s.size), chB s.size i s[i].toNat = true
instance (s : ByteArray) : Decidable (nmAll s) := by unfold nmAll; infer_instance
def nmB (s : ByteArray) : Bool := decide (nmAll s) && (decide (1 ≤ s.size) && decide (s.size ≤ 32))
theorem ch_cases (n i c : Nat) : (97 ≤ c ∧ c ≤ 122 ∧ chB n i c = true) ∨ (48 ≤ c ∧ c ≤ 57 ∧ chB n i c = true) ∨ (c = 45 ∧ i ≠ 0 ∧ i + 1 ≠ n ∧ chB n i c = true) ∨ (c = 45 ∧ i = 0 ∧ chB n i c = false) ∨ (c = 45 ∧ i ≠ 0 ∧ i + 1 = n ∧ chB n i c = false) ∨ (c < 48 ∧ c ≠ 45 ∧ chB n i c = false) ∨ (58 ≤ c ∧ c < 97 ∧ chB n i c = false) ∨ (122 < c ∧ chB n i c = false) := by
  by_cases h1 : 97 ≤ c ∧ c ≤ 122
  · exact .inl ⟨h1.1, h1.2, by simp [chB, h1]⟩
  · by_cases h2 : 48 ≤ c ∧ c ≤ 57
    · exact .inr (.inl ⟨h2.1, h2.2, by simp [chB, h2]⟩)
    · by_cases h3 : c = 45
      · subst h3
        by_cases h4 : i = 0
        · exact .inr (.inr (.inr (.inl ⟨rfl, h4, by simp [chB, h4]⟩)))
        · by_cases h5 : i + 1 = n
          · exact .inr (.inr (.inr (.inr (.inl ⟨rfl, h4, h5, by simp [chB, h5]⟩))))
          · exact .inr (.inr (.inl ⟨rfl, h4, h5, by simp [chB, h4, h5]⟩))
      · have hf : chB n i c = false := by
          unfold chB
          simp only [Bool.or_eq_false_iff, decide_eq_false_iff_not]
          exact ⟨h1, h2, fun h => h3 h.1⟩
        rcases Nat.lt_or_ge c 48 with h4 | h4
        · exact .inr (.inr (.inr (.inr (.inr (.inl ⟨h4, h3, hf⟩)))))
        · rcases Nat.lt_or_ge c 97 with h5 | h5
          · exact .inr (.inr (.inr (.inr (.inr (.inr (.inl ⟨by omega, h5, hf⟩))))))
          · exact .inr (.inr (.inr (.inr (.inr (.inr (.inr ⟨by omega, hf⟩))))))
set_option maxHeartbeats 2000000 in
set_option maxRecDepth 100000 in
theorem name_any (s : ByteArray) (w : World) (hs : wfs s) :
    Calls Try.prog 51 #[.string s] w fun e w' => e = .returned (.bool (nmB s)) ∧ w = w' := by
  have hl : s.size ≤ 9223372036854775807 := by
    have := Nat.le_trans hs reach_max
    unfold maxLen at this
    omega
  obtain ⟨q, hq⟩ : ∃ q, q = nmB s := ⟨_, rfl⟩
  rw [← hq]
  have hQ := Lib.hid hq
  clear hq hs
  go_enter Try.func51, Try.ntmps51
  go_wp2_with fail
  go_loop [3, 4, 5] (fun i c b => ∃ k : Nat, k ≤ s.size ∧ i = .int .i64 k ∧ Hid (∀ (j : Nat) (h : j < s.size), j < k → chB s.size j s[j].toNat = true)) (fun i c b => s.size - (intOf i).toNat)
  case atStart => exact ⟨0, Nat.zero_le _, rfl, Lib.hid (fun j h hj => absurd hj (by omega))⟩
  case round =>
    obtain ⟨k, hk, rfl, hall⟩ := hrel
    by_cases hlt : k < s.size
    · have hN : chB s.size k s[k].toNat = true → Hid (∀ (j : Nat) (h : j < s.size), j < k + 1 → chB s.size j s[j].toNat = true) := fun e => Lib.hid (fun j h hj => by
        by_cases hjk : j = k
        · subst hjk; exact e
        · exact hall.out j h (by omega))
      have hF : chB s.size k s[k].toNat = false → Hid (q = false) := fun e => Lib.hid (by
        rw [hQ.out]
        unfold nmB
        rw [Bool.and_eq_false_iff]
        left
        rw [decide_eq_false_iff_not]
        intro h
        have := h k hlt
        rw [e] at this
        cases this)
      have hcs := ch_cases s.size k s[k].toNat
      obtain ⟨c, hc⟩ : ∃ c : Nat, c = s[k].toNat := ⟨_, rfl⟩
      rw [← hc] at hcs hN hF
      rcases hcs with ⟨h1, h2, h3⟩ | ⟨h1, h2, h3⟩ | ⟨h1, h2, h4, h3⟩ | ⟨h1, h2, h3⟩ | ⟨h1, h2, h4, h3⟩ | ⟨h1, h2, h3⟩ | ⟨h1, h2, h3⟩ | ⟨h1, h3⟩
      · replace hN := hN h3
        clear hF h3 hall
        have g1 : (97 : Int) ≤ (s[k].toNat : Int) := by omega
        have g2 : (s[k].toNat : Int) ≤ 122 := by omega
        clear hc
        go_wp2_with fail
        exact ⟨⟨k + 1, by omega, by go_num, hN⟩, by simp [intOf]; omega⟩
      · replace hN := hN h3
        clear hF h3 hall
        have g1 : (48 : Int) ≤ (s[k].toNat : Int) := by omega
        have g2 : (s[k].toNat : Int) ≤ 57 := by omega
        clear hc
        go_wp2_with fail
        exact ⟨⟨k + 1, by omega, by go_num, hN⟩, by simp [intOf]; omega⟩
      · replace hN := hN h3
        clear hF h3 hall
        have g1 : (s[k].toNat : Int) < 48 := by omega
        have g2 : ((s[k].toNat : Int) != 45) = false := by rw [bne_eq_false_iff_eq]; omega
        have g3 : ((k : Int) == 0) = false := by rw [beq_eq_false_iff_ne]; omega
        have g4 : ((k : Int) == (s.size : Int) - 1) = false := by rw [beq_eq_false_iff_ne]; omega
        clear hc
        go_wp2_with fail
        exact ⟨⟨k + 1, by omega, by go_num, hN⟩, by simp [intOf]; omega⟩
      · replace hF := hF h3
        clear hN h3 hall
        have g1 : (s[k].toNat : Int) < 48 := by omega
        have g2 : ((s[k].toNat : Int) != 45) = false := by rw [bne_eq_false_iff_eq]; omega
        subst h2
        have g3 : ((0 : Int) == 0) = true := rfl
        clear hc
        go_wp2_with fail
        go_ret
        exact ⟨by rw [hF.out]; rfl, rfl⟩
      · replace hF := hF h3
        clear hN h3 hall
        have g1 : (s[k].toNat : Int) < 48 := by omega
        have g2 : ((s[k].toNat : Int) != 45) = false := by rw [bne_eq_false_iff_eq]; omega
        have g3 : ((k : Int) == 0) = false := by rw [beq_eq_false_iff_ne]; omega
        have g4 : (s.size : Int) - 1 ≤ (k : Int) := by omega
        clear hc h4
        go_wp2_with fail
        go_ret
        exact ⟨by rw [hF.out]; rfl, rfl⟩
      · replace hF := hF h3
        clear hN h3 hall
        have g1 : (s[k].toNat : Int) < 48 := by omega
        have g2 : ((s[k].toNat : Int) != 45) = true := by rw [bne_iff_ne]; omega
        clear hc
        go_wp2_with fail
        go_ret
        exact ⟨by rw [hF.out]; rfl, rfl⟩
      · replace hF := hF h3
        clear hN h3 hall
        have g1 : (58 : Int) ≤ (s[k].toNat : Int) := by omega
        have g3 : (s[k].toNat : Int) < 97 := by omega
        have g4 : decide ((s[k].toNat : Int) ≤ 57) = false := by rw [decide_eq_false_iff_not]; omega
        have g2 : ((s[k].toNat : Int) != 45) = true := by rw [bne_iff_ne]; omega
        clear hc
        go_wp2_with fail
        go_ret
        exact ⟨by rw [hF.out]; rfl, rfl⟩
      · replace hF := hF h3
        clear hN h3 hall
        have g1 : (122 : Int) < (s[k].toNat : Int) := by omega
        have g4 : decide ((s[k].toNat : Int) ≤ 57) = false := by rw [decide_eq_false_iff_not]; omega
        have g5 : decide ((s[k].toNat : Int) ≤ 122) = false := by rw [decide_eq_false_iff_not]; omega
        have g2 : ((s[k].toNat : Int) != 45) = true := by rw [bne_iff_ne]; omega
        clear hc
        go_wp2_with fail
        go_ret
        exact ⟨by rw [hF.out]; rfl, rfl⟩
    · have ha : nmAll s := fun j h => hall.out j h (by omega)
      have hcase : (((1 : Int) ≤ (s.size : Int) ∧ (s.size : Int) ≤ 32) ∧ Hid (q = true)) ∨ ((s.size : Int) < 1 ∧ Hid (q = false)) ∨ (((1 : Int) ≤ (s.size : Int) ∧ 32 < (s.size : Int)) ∧ Hid (q = false)) := by
        by_cases e1 : 1 ≤ s.size
        · by_cases e2 : s.size ≤ 32
          · exact .inl ⟨⟨by omega, by omega⟩, Lib.hid (by rw [hQ.out]; simp [nmB, ha, e1, e2])⟩
          · exact .inr (.inr ⟨⟨by omega, by omega⟩, Lib.hid (by rw [hQ.out]; simp [nmB, e2])⟩)
        · exact .inr (.inl ⟨by omega, Lib.hid (by rw [hQ.out]; simp [nmB, e1])⟩)
      clear hall ha hQ
      rcases hcase with ⟨⟨g1, g2⟩, hF⟩ | ⟨g1, hF⟩ | ⟨⟨g1, g2⟩, hF⟩
      all_goals
        go_wp2_with fail
        go_ret
        exact ⟨by rw [hF.out]; first | rfl | (show Ending.returned (.bool (decide ((s.size : Int) ≤ 32))) = _; first | rw [decide_eq_true (by omega)] | rw [decide_eq_false (by omega)]), rfl⟩
end Go.Proofs.Ytilmmmokobhnfaa
