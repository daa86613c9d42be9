/-
  The walks of package label: signs and names.
-/
import Derived.Test.YtjiliegfcljjhaaGreatNm
import Derived.Test.YtjiliegfcljjhaaGreatProg
import Derived.BigQuiet
import Derived.Outline
namespace Go.Proofs.YtjiliegfcljjhaaGreat
open Go.RowKit Go.Proofs.Mem
set_option linter.unusedVariables false
set_option linter.unusedSimpArgs false
set_option maxHeartbeats 1000000 in
theorem sign_any (c : Nat) (w : World) : Calls Tryz.prog 44 #[.int .u8 c] w fun e w' => e = .returned (.bool (sgB c)) ∧ w = w' := by
  rcases sg_cases c with ⟨h1, h2, h3⟩ | ⟨h1, h2, h3⟩ | ⟨h1, h3⟩ | ⟨h1, h2, h3⟩ | ⟨h1, h2, h3⟩ | ⟨h1, h3⟩
  all_goals rw [h3]; clear h3
  · have g1 : (97 : Int) ≤ (c : Int) := by omega
    have g2 : (c : Int) ≤ 122 := by omega
    clear h1 h2
    go_enter Tryz.func44, Tryz.ntmps44
    go_wp2_with fail
    go_ret
    exact ⟨rfl, rfl⟩
  · have g1 : (48 : Int) ≤ (c : Int) := by omega
    have g2 : (c : Int) ≤ 57 := by omega
    clear h1 h2
    go_enter Tryz.func44, Tryz.ntmps44
    go_wp2_with fail
    go_ret
    exact ⟨rfl, rfl⟩
  · subst h1
    go_enter Tryz.func44, Tryz.ntmps44
    go_wp2_with fail
    go_ret
    exact ⟨rfl, rfl⟩
  · have g1 : (c : Int) < 48 := by omega
    have g2 : ((c : Int) == 45) = false := by rw [beq_eq_false_iff_ne]; omega
    clear h1 h2
    go_enter Tryz.func44, Tryz.ntmps44
    go_wp2_with fail
    go_ret
    exact ⟨rfl, rfl⟩
  · have g1 : (58 : Int) ≤ (c : Int) := by omega
    have g3 : (c : Int) < 97 := by omega
    have g4 : decide ((c : Int) ≤ 57) = false := by rw [decide_eq_false_iff_not]; omega
    have g2 : ((c : Int) == 45) = false := by rw [beq_eq_false_iff_ne]; omega
    clear h1 h2
    go_enter Tryz.func44, Tryz.ntmps44
    go_wp2_with fail
    go_ret
    exact ⟨rfl, rfl⟩
  · have g1 : (122 : Int) < (c : Int) := by omega
    have g4 : decide ((c : Int) ≤ 57) = false := by rw [decide_eq_false_iff_not]; omega
    have g5 : decide ((c : Int) ≤ 122) = false := by rw [decide_eq_false_iff_not]; omega
    have g2 : ((c : Int) == 45) = false := by rw [beq_eq_false_iff_ne]; omega
    clear h1
    go_enter Tryz.func44, Tryz.ntmps44
    go_wp2_with fail
    go_ret
    exact ⟨rfl, rfl⟩
set_option maxHeartbeats 2000000 in
theorem lname_empty (s : ByteArray) (w : World) (h0 : s.size = 0) : Calls Tryz.prog 25 #[.string s] w fun e w' => e = .returned (.bool (nmB s)) ∧ w = w' := by
  rw [nm_size (.inl h0)]
  have e1 : s.toList = [] := List.eq_nil_of_length_eq_zero (by rw [ByteArray.toList_eq, Array.length_toList, ByteArray.size_data]; exact h0)
  have e2 : s.toList.isEmpty = true := by rw [e1]; rfl
  clear h0
  go_enter Tryz.func25, Tryz.ntmps25
  go_wp2_with fail
  go_ret
  exact ⟨rfl, rfl⟩
set_option maxHeartbeats 2000000 in
theorem lname_long (s : ByteArray) (w : World) (hs : s.size ≤ maxLen) (h0 : 32 < s.size) : Calls Tryz.prog 25 #[.string s] w fun e w' => e = .returned (.bool (nmB s)) ∧ w = w' := by
  rw [nm_size (.inr h0)]
  have e1 : s.toList.isEmpty = false := by
    rw [ByteArray.toList_eq, List.isEmpty_eq_false_iff]
    intro h
    have h2 : s.size = 0 := by rw [← ByteArray.size_data, ← Array.length_toList, h]; rfl
    omega
  unfold maxLen at hs
  have g1 : (32 : Int) < (s.size : Int) := by omega
  clear h0
  go_enter Tryz.func25, Tryz.ntmps25
  go_wp2_with fail
  go_ret
  exact ⟨rfl, rfl⟩
set_option maxHeartbeats 2000000 in
theorem lname_mid (s : ByteArray) (w : World) (h0 : 0 < s.size) (h1 : s.size ≤ 32) : Calls Tryz.prog 25 #[.string s] w fun e w' => e = .returned (.bool (nmB s)) ∧ w = w' := by
  have e1 : s.toList.isEmpty = false := by
    rw [ByteArray.toList_eq, List.isEmpty_eq_false_iff]
    intro h
    have h2 : s.size = 0 := by rw [← ByteArray.size_data, ← Array.length_toList, h]; rfl
    omega
  have g1 : (s.size : Int) ≤ 32 := by omega
  have g2 : (1 : Int) ≤ (s.size : Int) := by omega
  have g3 : (s.size : Int) - 1 < (s.size : Int) := by omega
  by_cases c0 : s[0].toNat = 45
  · rw [nm_no (i := 0) h0 (by rw [c0]; simp [chB])]
    have d0 : ((s[0].toNat : Int) == 45) = true := by rw [beq_iff_eq]; omega
    clear c0 h1
    go_enter Tryz.func25, Tryz.ntmps25
    go_wp2_with fail
    go_ret
    exact ⟨rfl, rfl⟩
  · have d0 : ((s[0].toNat : Int) == 45) = false := by rw [beq_eq_false_iff_ne]; omega
    by_cases c1 : (s[s.size - 1]'(by omega)).toNat = 45
    · rw [nm_no (i := s.size - 1) (by omega) (by rw [c1]; simp [chB]; omega)]
      have d1 : (((s[s.size - 1]'(by omega)).toNat : Int) == 45) = true := by rw [beq_iff_eq]; omega
      clear c0 c1
      go_enter Tryz.func25, Tryz.ntmps25
      go_wp2_with fail
      go_ret
      exact ⟨rfl, rfl⟩
    · have d1 : (((s[s.size - 1]'(by omega)).toNat : Int) == 45) = false := by rw [beq_eq_false_iff_ne]; omega
      have HC : ∀ (k : Nat) (h : k < s.size), Hid (chB s.size k s[k].toNat = sgB s[k].toNat) := fun k h => Lib.hid (ch_sg fun e => by
        constructor
        · rintro rfl; exact c0 e
        · intro e2
          obtain rfl : k = s.size - 1 := by omega
          exact c1 e)
      obtain ⟨q, hq⟩ : ∃ q, q = nmB s := ⟨_, rfl⟩
      rw [← hq]
      have HQ := Lib.hid hq
      clear hq c0 c1
      go_enter Tryz.func25, Tryz.ntmps25
      go_wp2_with fail
      go_loop [26] (fun i => ∃ k : Nat, k ≤ s.size ∧ i = .int .i64 k ∧ Hid (∀ (j : Nat) (h : j < s.size), j < k → chB s.size j s[j].toNat = true)) (fun i => s.size - (intOf i).toNat)
      case atStart => exact ⟨0, Nat.zero_le _, rfl, Lib.hid (fun j h hj => absurd hj (by omega))⟩
      case round =>
        obtain ⟨k, hk, rfl, hall⟩ := hrel
        by_cases hlt : k < s.size
        · have hch := HC k hlt
          have CS := Lib.hid (fun w => sign_any s[k].toNat w)
          by_cases hs : sgB s[k].toNat = true
          · have hN : Hid (∀ (j : Nat) (h : j < s.size), j < k + 1 → chB s.size j s[j].toNat = true) := Lib.hid (fun j h hj => by
              by_cases hjk : j = k
              · subst hjk; rw [hch.out]; exact hs
              · exact hall.out j h (by omega))
            rw [hs] at CS
            clear hall hch hs HC d0 d1
            go_wp2_with fail
            refine (CS.out _).mono ?_
            rintro e w' ⟨rfl, rfl⟩
            go_wp2_with fail
            exact ⟨⟨k + 1, by omega, by go_num, hN⟩, by simp [intOf]; omega⟩
          · have hs : sgB s[k].toNat = false := by simpa using hs
            have hF : Hid (q = false) := Lib.hid (by rw [HQ.out]; exact nm_no hlt (by rw [hch.out]; exact hs))
            rw [hs] at CS
            clear hall hch hs HC d0 d1
            go_wp2_with fail
            refine (CS.out _).mono ?_
            rintro e w' ⟨rfl, rfl⟩
            go_wp2_with fail
            go_ret
            exact ⟨by rw [hF.out]; rfl, rfl⟩
        · have hT : Hid (q = true) := Lib.hid (by rw [HQ.out]; exact nm_yes (by omega) h1 (fun j h => hall.out j h (by omega)))
          clear hall HC d0 d1
          go_wp2_with fail
          go_ret
          exact ⟨by rw [hT.out]; rfl, rfl⟩
theorem lname_any (s : ByteArray) (w : World) (hs : s.size ≤ maxLen) : Calls Tryz.prog 25 #[.string s] w fun e w' => e = .returned (.bool (nmB s)) ∧ w = w' := by
  by_cases h0 : s.size = 0
  · exact lname_empty s w h0
  · by_cases h1 : 32 < s.size
    · exact lname_long s w hs h1
    · exact lname_mid s w (by omega) (by omega)
end Go.Proofs.YtjiliegfcljjhaaGreat
