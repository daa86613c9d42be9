/-
  The walk of trimtablaw02.QuantTexts.
-/
import Derived.Test.YtilmmmokobhnfaaDoorQt
import Derived.Test.YtilmmmokobhnfaaDoorQn2
namespace Go.Proofs.YtilmmmokobhnfaaDoor
open Go.RowKit Go.Proofs.Mem Go.Proofs.Qn
set_option linter.unusedVariables false
set_option linter.unusedSimpArgs false
theorem text_back (m : Nat) (h : m ≤ 9007199254740992) : parseR (textL m) = (m, 0) := by
  unfold textL
  split
  · rename_i h0
    obtain ⟨h1, h2, h3, h4, h5⟩ := dec_ok (m / 1000)
    have := parse_text (u := []) (sc := 1000) (n := m) h1 h3 (by simp) rfl (by omega) (first_not _) (by rw [h2]; omega) h
    rwa [List.append_nil] at this
  · obtain ⟨h1, h2, h3, h4, h5⟩ := dec_ok m
    exact parse_text (u := [109]) (sc := 1) (n := m) h1 h3 (by intro c e; simp at e; subst e; rfl) rfl (by omega) (first_not _) (by rw [h2]; omega) h
/-- The last byte: 'm', or a digit. -/
theorem text_last (m : Nat) : ∃ d c, (textL m).length = d + 1 ∧ (textL m)[d]? = some c ∧ ((m % 1000 = 0 ∧ c.toNat ≤ 57) ∨ (¬ m % 1000 = 0 ∧ c = 109)) := by
  unfold textL
  split
  · rename_i h0
    obtain ⟨h1, h2, h3, h4, h5⟩ := dec_ok (m / 1000)
    have hp : 0 < (Lib.decDigits (m / 1000)).length := List.length_pos_iff.2 h3
    have hlt : (Lib.decDigits (m / 1000)).length - 1 < (Lib.decDigits (m / 1000)).length := by omega
    refine ⟨(Lib.decDigits (m / 1000)).length - 1, _, by omega, List.getElem?_eq_getElem hlt, .inl ⟨h0, ?_⟩⟩
    have := h1 _ (List.getElem_mem hlt)
    simp only [isDig, Bool.and_eq_true, decide_eq_true_eq] at this
    exact this.2
  · rename_i h0
    refine ⟨(Lib.decDigits m).length, 109, by simp, ?_, .inr ⟨h0, rfl⟩⟩
    rw [List.getElem?_append_right (Nat.le_refl _)]
    simp
theorem textL_len (m : Nat) (h : m ≤ 9007199254740992) : (textL m).length ≤ 21 := by
  unfold textL
  split
  · exact Nat.le_trans (decDigits_len _ (by omega)) (by omega)
  · rw [List.length_append]
    have := decDigits_len m h
    simp
    omega
set_option maxHeartbeats 1000000 in
set_option maxRecDepth 100000 in
theorem texts_bad (m : Int) (h : m < 0 ∨ (0 ≤ m ∧ 9007199254740992 < m)) (w : World) (hT : Tab w) : Calls Tryd.prog 4 #[.int .i64 m] w fun e w' => e = .returned (.bool true) ∧ Below w.heap.size w w' := by
  have CL := Lib.hid (fun (u : World) => (lives02_any w hT))
  have CT := Lib.hid (fun w1 => qtext_bad m h w1)
  have CR := Lib.hid (fun w1 => right_f m h w1)
  clear hT
  rcases h with h | ⟨h, h2⟩
  all_goals
    go_enter Tryd.func4, Tryd.ntmps4
    go_wp2_with fail
    refine (CL.out w).mono ?_
    rintro e w1 ⟨rfl, hb1⟩
    go_wp2_with fail
    refine (CT.out _).mono ?_
    rintro e w2 ⟨rfl, rfl⟩
    go_wp2_with fail
    refine (CR.out _).mono ?_
    rintro e w2 ⟨rfl, rfl⟩
    go_wp2_with fail
    go_ret
    exact ⟨rfl, hb1⟩
set_option maxHeartbeats 1000000 in
set_option maxRecDepth 100000 in
theorem texts_ok (m : Nat) (h : m ≤ 9007199254740992) (w : World) (hT : Tab w) : Calls Tryd.prog 4 #[.int .i64 m] w fun e w' => e = .returned (.bool true) ∧ Below w.heap.size w w' := by
  have CL := Lib.hid (fun (u : World) => (lives02_any w hT))
  have CT := fun w1 (hb : Below w.heap.size w w1) => qtext_any m h w1 (tab_below hT hb)
  have CR := Lib.hid (fun w1 => right_t m (by omega) (by omega) w1)
  have hi : (m : Int) ≤ 9007199254740992 := by omega
  obtain ⟨s, hs⟩ : ∃ s : ByteArray, s = ⟨(textL m).toArray⟩ := ⟨_, rfl⟩
  have hsl : s.data.toList = textL m := by rw [hs]
  have hsz : s.size = (textL m).length := by rw [← hsl]; rfl
  have CP := fun w1 => qparse_any s (by rw [hsz]; have := textL_len m h; omega) w1
  rw [hsl, text_back m h] at CP
  rw [← hs] at CT
  have CP2 := Lib.hid CP
  have CT2 := Lib.hid CT
  obtain ⟨d, c, hd, hc, hcc⟩ := text_last m
  have hd1 : s.size = d + 1 := hsz.trans hd
  have hd20 : d ≤ 20 := by have := textL_len m h; omega
  have hlt : d < s.size := by omega
  have hsd : s[d] = c := by
    have : s.data.toList[d]? = some s[d] := by
      rw [List.getElem?_eq_getElem (by show d < s.size; exact hlt)]
      rfl
    rw [hsl, hc] at this
    exact (Option.some.inj this).symm
  have HSD := Lib.hid hsd
  clear hs hsl hsz CP CT hT hsd hc hd
  have hcs : ((((m : Int) % 1000 == 0) = true ∧ ((m : Int) % 1000 != 0) = false) ∧ (((s[d]).toNat : Int) == 109) = false) ∨ ((((m : Int) % 1000 == 0) = false ∧ ((m : Int) % 1000 != 0) = true) ∧ (((s[d]).toNat : Int) == 109) = true) := by
    rw [HSD.out]
    rcases hcc with ⟨h1, h2⟩ | ⟨h1, h2⟩
    · exact .inl ⟨⟨by simp; omega, by simp; omega⟩, by simp; omega⟩
    · subst h2
      exact .inr ⟨⟨by simp; omega, by simp; omega⟩, rfl⟩
  clear hcc HSD
  rcases hcs with ⟨⟨q1, q2⟩, q3⟩ | ⟨⟨q1, q2⟩, q3⟩
  all_goals
    go_enter Tryd.func4, Tryd.ntmps4
    go_wp2_with fail
    refine (CL.out w).mono ?_
    rintro e w1 ⟨rfl, hb1⟩
    go_wp2_with fail
    refine (CT2.out _ hb1).mono ?_
    rintro e w2 ⟨rfl, hb2⟩
    have hB2 := below_tr hb1 hb2
    go_wp2_with fail
    refine (CP2.out _).mono ?_
    rintro e w3 ⟨rfl, hb3⟩
    have hB3 := below_tr hB2 hb3
    go_wp2_with fail
    refine (CR.out _).mono ?_
    rintro e w4 ⟨rfl, rfl⟩
    go_wp2_with fail
    go_ret
    exact ⟨rfl, hB3⟩
theorem quantTexts_walk (m : Int) (wm : (Lit.int .i64 m).wf = true) (w : World) (hT : Tab w) : Calls Tryd.prog 4 #[.int .i64 m] w fun e w' => e = .returned (.bool true) ∧ Below w.heap.size w w' := by
  by_cases hm : qOk m
  · obtain ⟨h0, h1⟩ := hm
    obtain ⟨m, rfl⟩ := Int.eq_ofNat_of_zero_le h0
    exact texts_ok m (by omega) w hT
  · exact texts_bad m (qNot hm) w hT
end Go.Proofs.YtilmmmokobhnfaaDoor
