/-
  The walks of package trimtablaw07: whole, sized, wants.
-/
import Derived.Test.YtilmmmokobhnfaaRef5c
namespace Go.Proofs.Ytilmmmokobhnfaa
open Go.RowKit Go.Proofs.Mem
set_option linter.unusedVariables false
set_option linter.unusedSimpArgs false
def whB (m : Int) : Bool := decide (0 ≤ m ∧ m ≤ 9007199254740992)
theorem wh_cases (m : Int) : (0 ≤ m ∧ m ≤ 9007199254740992 ∧ whB m = true) ∨ (m < 0 ∧ whB m = false) ∨ (0 ≤ m ∧ 9007199254740992 < m ∧ whB m = false) := by
  unfold whB
  by_cases h1 : 0 ≤ m
  · by_cases h2 : m ≤ 9007199254740992
    · exact .inl ⟨h1, h2, by simp [h1, h2]⟩
    · exact .inr (.inr ⟨h1, by omega, by simp [h2]⟩)
  · exact .inr (.inl ⟨by omega, by simp [h1]⟩)
set_option maxRecDepth 100000 in
theorem whole_any (m : Int) (w : World) : Calls Try.prog 56 #[.int .i64 m] w fun e w' => e = .returned (.bool (whB m)) ∧ w = w' := by
  obtain ⟨q, hq⟩ : ∃ q, q = whB m := ⟨_, rfl⟩
  rw [← hq]
  rcases wh_cases m with ⟨h1, h2, h3⟩ | ⟨h1, h3⟩ | ⟨h1, h2, h3⟩
  all_goals
    have HQ := Lib.hid (hq.trans h3)
    clear hq h3
    go_enter Try.func56, Try.ntmps56
    go_wp2_with fail
    go_ret
    exact ⟨by rw [HQ.out]; first | rfl | (show Ending.returned (.bool (decide (m ≤ 9007199254740992))) = _; first | rw [decide_eq_true (by omega)] | rw [decide_eq_false (by omega)]), rfl⟩
def szB (a b : Int) : Bool := whB a && (whB b && decide (a ≠ 0))
set_option maxRecDepth 100000 in
theorem sized_any (a b : Int) (w : World) : Calls Try.prog 53 #[.agg #[.int .i64 a, .int .i64 b]] w fun e w' => e = .returned (.bool (szB a b)) ∧ Below w.heap.size w w' := by
  have C1 := Lib.hid (fun w1 => whole_any a w1)
  have C2 := Lib.hid (fun w1 => whole_any b w1)
  obtain ⟨q, hq⟩ : ∃ q, q = szB a b := ⟨_, rfl⟩
  rw [← hq]
  unfold szB at hq
  cases h1 : whB a
  · rw [h1] at C1 hq
    have HQ : Hid (q = false) := Lib.hid (by rw [hq]; rfl)
    clear hq h1
    go_enter Try.func53, Try.ntmps53
    go_wp2_with fail
    refine (C1.out _).mono ?_
    rintro e w1 ⟨rfl, rfl⟩
    go_wp2_with fail
    go_ret
    exact ⟨by rw [HQ.out]; rfl, below_al _ _⟩
  · rw [h1] at C1 hq
    cases h2 : whB b
    · rw [h2] at C2 hq
      have HQ : Hid (q = false) := Lib.hid (by rw [hq]; rfl)
      clear hq h1 h2
      go_enter Try.func53, Try.ntmps53
      go_wp2_with fail
      refine (C1.out _).mono ?_
      rintro e w1 ⟨rfl, rfl⟩
      go_wp2_with fail
      refine (C2.out _).mono ?_
      rintro e w1 ⟨rfl, rfl⟩
      go_wp2_with fail
      go_ret
      exact ⟨by rw [HQ.out]; rfl, below_al _ _⟩
    · rw [h2] at C2 hq
      have hz : ((a != 0) = true ∧ Hid (q = true)) ∨ ((a != 0) = false ∧ Hid (q = false)) := by
        by_cases e : a = 0
        · exact .inr ⟨by simp [e], Lib.hid (by rw [hq]; simp [e])⟩
        · exact .inl ⟨by simp [e], Lib.hid (by rw [hq]; simp [e])⟩
      clear hq h1 h2
      rcases hz with ⟨hz, HQ⟩ | ⟨hz, HQ⟩
      all_goals
        go_enter Try.func53, Try.ntmps53
        go_wp2_with fail
        refine (C1.out _).mono ?_
        rintro e w1 ⟨rfl, rfl⟩
        go_wp2_with fail
        refine (C2.out _).mono ?_
        rintro e w1 ⟨rfl, rfl⟩
        go_wp2_with fail
        go_ret
        exact ⟨by rw [HQ.out]; first | rfl | (show Ending.returned (.bool (a != 0)) = _; rw [hz]), below_al _ _⟩
def wantsB (a b : Int) (l : List Lab) (s : List Req) (t : List Lab) (warm : Int) : Bool := szB a b && (rtB l && (aksB s && (rtB t && decide (0 ≤ warm ∧ warm ≤ 1800))))
set_option maxHeartbeats 2000000 in
set_option maxRecDepth 100000 in
theorem wants_any (a b : Int) (l : Row Lab) (s : Row Req) (t : Row Lab) (warm : Int) (w : World) (hl : LabsOk w l) (hs : ReqsOk w s) (ht : LabsOk w t) :
    Calls Try.prog 52 #[.agg #[.int .i64 a, .int .i64 b], l.v, s.v, t.v, .int .i64 warm] w fun e w' => e = .returned (.bool (wantsB a b l.l s.l t.l warm)) ∧ Below w.heap.size w w' := by
  have C0 := Lib.hid (fun w1 => sized_any a b w1)
  have C1 := Lib.hid (fun w1 (hb : Below w.heap.size w w1) => right5_any l w1 (hl.below hb))
  have C2 := Lib.hid (fun w1 (hb : Below w.heap.size w w1) => asks5_any s w1 (hs.below hb))
  have C3 := Lib.hid (fun w1 (hb : Below w.heap.size w w1) => right5_any t w1 (ht.below hb))
  obtain ⟨q, hq⟩ : ∃ q, q = wantsB a b l.l s.l t.l warm := ⟨_, rfl⟩
  rw [← hq]
  unfold wantsB at hq
  have hk := Bk.new w 24 #[.int .i64 a, .int .i64 b]
  clear hl hs ht
  generalize szB a b = b0 at C0 hq
  generalize rtB l.l = b1 at C1 hq
  generalize aksB s.l = b2 at C2 hq
  generalize rtB t.l = b3 at C3 hq
  generalize l.v = lv at C1 ⊢
  generalize s.v = sv at C2 ⊢
  generalize t.v = tv at C3 ⊢
  cases b0
  · have HQ : Hid (q = false) := Lib.hid (by rw [hq]; rfl)
    clear hq
    go_enter Try.func52, Try.ntmps52
    go_wp2_with fail
    refine (C0.out _).mono ?_
    rintro e w1 ⟨rfl, hb1⟩
    go_wp2_with fail
    go_ret
    exact ⟨by rw [HQ.out]; rfl, below_tr (below_al _ _) hb1⟩
  · cases b1
    · have HQ : Hid (q = false) := Lib.hid (by rw [hq]; rfl)
      clear hq
      go_enter Try.func52, Try.ntmps52
      go_wp2_with fail
      refine (C0.out _).mono ?_
      rintro e w1 ⟨rfl, hb1⟩
      have hP1 := below_tr (below_al _ _) hb1
      go_wp2_with fail
      refine (C1.out _ hP1).mono ?_
      rintro e w2 ⟨rfl, hb2⟩
      go_wp2_with fail
      go_ret
      exact ⟨by rw [HQ.out]; rfl, below_tr hP1 hb2⟩
    · cases b2
      · have HQ : Hid (q = false) := Lib.hid (by rw [hq]; rfl)
        clear hq
        go_enter Try.func52, Try.ntmps52
        go_wp2_with fail
        refine (C0.out _).mono ?_
        rintro e w1 ⟨rfl, hb1⟩
        have hP1 := below_tr (below_al _ _) hb1
        go_wp2_with fail
        refine (C1.out _ hP1).mono ?_
        rintro e w2 ⟨rfl, hb2⟩
        have hP2 := below_tr hP1 hb2
        go_wp2_with fail
        refine (C2.out _ hP2).mono ?_
        rintro e w3 ⟨rfl, hb3⟩
        go_wp2_with fail
        go_ret
        exact ⟨by rw [HQ.out]; rfl, below_tr hP2 hb3⟩
      · have hz : (b3 = false ∧ Hid (q = false)) ∨ (b3 = true ∧ warm < 0 ∧ Hid (q = false)) ∨ (b3 = true ∧ 0 ≤ warm ∧ warm ≤ 1800 ∧ Hid (q = true)) ∨ (b3 = true ∧ 0 ≤ warm ∧ 1800 < warm ∧ Hid (q = false)) := by
          cases b3
          · exact .inl ⟨rfl, Lib.hid (by rw [hq]; rfl)⟩
          · by_cases e1 : 0 ≤ warm
            · by_cases e2 : warm ≤ 1800
              · exact .inr (.inr (.inl ⟨rfl, e1, e2, Lib.hid (by rw [hq]; simp [e1, e2])⟩))
              · exact .inr (.inr (.inr ⟨rfl, e1, by omega, Lib.hid (by rw [hq]; simp [e2])⟩))
            · exact .inr (.inl ⟨rfl, by omega, Lib.hid (by rw [hq]; simp [e1])⟩)
        clear hq
        rcases hz with ⟨rfl, HQ⟩ | ⟨rfl, z1, HQ⟩ | ⟨rfl, z1, z2, HQ⟩ | ⟨rfl, z1, z2, HQ⟩
        all_goals
          go_enter Try.func52, Try.ntmps52
          go_wp2_with fail
          refine (C0.out _).mono ?_
          rintro e w1 ⟨rfl, hb1⟩
          have hP1 := below_tr (below_al _ _) hb1
          go_wp2_with fail
          refine (C1.out _ hP1).mono ?_
          rintro e w2 ⟨rfl, hb2⟩
          have hP2 := below_tr hP1 hb2
          go_wp2_with fail
          refine (C2.out _ hP2).mono ?_
          rintro e w3 ⟨rfl, hb3⟩
          have hP3 := below_tr hP2 hb3
          go_wp2_with fail
          refine (C3.out _ hP3).mono ?_
          rintro e w4 ⟨rfl, hb4⟩
          go_wp2_with fail
          go_ret
          exact ⟨by rw [HQ.out]; first | rfl | (show Ending.returned (.bool (decide (warm ≤ 1800))) = _; first | rw [decide_eq_true (by omega)] | rw [decide_eq_false (by omega)]), below_tr hP3 hb4⟩
end Go.Proofs.Ytilmmmokobhnfaa
