/-
  The walk of the statement BudgetRooms of package trimtablaw32: it returns true, for every input; nothing that was there turns.
-/
import Derived.Test.YtalmhnimmhgloaaBudget
import Derived.Test.YtalmhnimmhgloaaOpen
namespace Go.Proofs.Ytalmhnimmhgloaa
open Go.RowKit Go.Proofs.Mem Go.Proofs.Bit
set_option linter.unusedVariables false
set_option linter.unusedSimpArgs false
set_option linter.constructorNameAsVariable false

theorem rooms_bad (k v : Int) (p : Bool) (r d : Int) (w : World) (h : okB k v p = false ∨ okR r = false) :
    Calls Try.prog 3 #[.agg #[.int .i64 k, .int .i64 v, .bool p], .int .i64 r, .int .i64 d] w fun e w' => e = .returned (.bool true) ∧ Below w.heap.size w w' := by
  have C1 := Lib.hid (fun w1 => must_bad k v p r w1 h)
  have C2 := Lib.hid (fun w1 => room_bad k v p r d w1 (by rcases h with h | h <;> simp [h]))
  by_cases hb : okB k v p = true
  · have C3 := Lib.hid (fun w1 => bright_t k v p w1 hb)
    have C4 := Lib.hid (fun w1 => check_t k v p w1 hb)
    have hr := okR_f (by simpa [hb] using h)
    have ht : r < 0 ∨ (¬ r < 0 ∧ 1000000 < r) := by omega
    clear h hb hr
    rcases ht with ht | ⟨ht, ht2⟩
    all_goals
      go_enter Try.func3, Try.ntmps3
      go_wp2_with (first
        | (go_at_call 9; refine (lives32_any _).mono ?_; rintro e w1 ⟨rfl, hb1⟩; obtain ⟨hk, hb⟩ := boxed hb1; have c0 := hk.cell 0; have c1 := hk.cell 1; have c2 := hk.cell 2)
        | (go_at_call 10; refine (C1.out _).mono ?_; rintro e w2 ⟨rfl, hb2⟩; have hk2 := hk.below' hb2; have d0 := hk2.cell 0; have d1 := hk2.cell 1; have d2 := hk2.cell 2)
        | (go_at_call 11; refine (C2.out _).mono ?_; rintro e w3 ⟨rfl, hb3⟩; have hk3 := hk2.below' hb3; have e0 := hk3.cell 0; have e1 := hk3.cell 1; have e2 := hk3.cell 2)
        | (go_at_call 12; refine (C3.out _).mono ?_; rintro e w4 ⟨rfl, hb4⟩; have hk4 := hk3.below' hb4; have f0 := hk4.cell 0; have f1 := hk4.cell 1; have f2 := hk4.cell 2))
      have hg : w.heap.size < w4.heap.size := hk4.lt
      have hB := (Below.refl w4.heap.size w4).drew
      go_region_held3 (fun w' => w'.cell? ⟨w.heap.size, 0, none⟩ = some (.int .i64 k) ∧ w'.cell? ⟨w.heap.size, 1, none⟩ = some (.int .i64 v) ∧ w'.cell? ⟨w.heap.size, 2, none⟩ = some (.bool p) ∧ Below w4.heap.size w4 w')
        (first | (exact keep3 hg (by assumption) hb9) | (refine ⟨?_, ?_, ?_, ?_⟩ <;> assumption))
        (first
          | (go_at_call 13; refine (C4.out _).mono ?_; rintro e w5 ⟨rfl, hb9⟩)
          | (go_at_call 12; refine (C3.out _).mono ?_; rintro e w5 ⟨rfl, hb9⟩))
      go_wp2_with fail
      go_ret
      obtain ⟨_, _, _, hB2⟩ := (by assumption : _ ∧ _ ∧ _ ∧ Below w4.heap.size w4 _)
      exact ⟨rfl, (((hb.trans (hb2.mono hb.size)).trans (hb3.mono (Nat.le_trans hb.size hb2.size))).trans (hb4.mono (Nat.le_trans (Nat.le_trans hb.size hb2.size) hb3.size))).trans (hB2.mono (Nat.le_trans (Nat.le_trans (Nat.le_trans hb.size hb2.size) hb3.size) hb4.size))⟩
  · have hb2 : okB k v p = false := by simpa using hb
    have C3 := Lib.hid (fun w1 => bright_f k v p w1 hb2)
    have C4 := Lib.hid (fun w1 => check_f k v p w1 hb2)
    clear h hb hb2
    all_goals
      go_enter Try.func3, Try.ntmps3
      go_wp2_with (first
        | (go_at_call 9; refine (lives32_any _).mono ?_; rintro e w1 ⟨rfl, hb1⟩; obtain ⟨hk, hb⟩ := boxed hb1; have c0 := hk.cell 0; have c1 := hk.cell 1; have c2 := hk.cell 2)
        | (go_at_call 10; refine (C1.out _).mono ?_; rintro e w2 ⟨rfl, hb2⟩; have hk2 := hk.below' hb2; have d0 := hk2.cell 0; have d1 := hk2.cell 1; have d2 := hk2.cell 2)
        | (go_at_call 11; refine (C2.out _).mono ?_; rintro e w3 ⟨rfl, hb3⟩; have hk3 := hk2.below' hb3; have e0 := hk3.cell 0; have e1 := hk3.cell 1; have e2 := hk3.cell 2)
        | (go_at_call 12; refine (C3.out _).mono ?_; rintro e w4 ⟨rfl, hb4⟩; have hk4 := hk3.below' hb4; have f0 := hk4.cell 0; have f1 := hk4.cell 1; have f2 := hk4.cell 2))
      have hg : w.heap.size < w4.heap.size := hk4.lt
      have hB := (Below.refl w4.heap.size w4).drew
      go_region_held3 (fun w' => w'.cell? ⟨w.heap.size, 0, none⟩ = some (.int .i64 k) ∧ w'.cell? ⟨w.heap.size, 1, none⟩ = some (.int .i64 v) ∧ w'.cell? ⟨w.heap.size, 2, none⟩ = some (.bool p) ∧ Below w4.heap.size w4 w')
        (first | (exact keep3 hg (by assumption) hb9) | (refine ⟨?_, ?_, ?_, ?_⟩ <;> assumption))
        (first
          | (go_at_call 13; refine (C4.out _).mono ?_; rintro e w5 ⟨rfl, hb9⟩)
          | (go_at_call 12; refine (C3.out _).mono ?_; rintro e w5 ⟨rfl, hb9⟩))
      go_wp2_with fail
      go_ret
      obtain ⟨_, _, _, hB2⟩ := (by assumption : _ ∧ _ ∧ _ ∧ Below w4.heap.size w4 _)
      exact ⟨rfl, (((hb.trans (hb2.mono hb.size)).trans (hb3.mono (Nat.le_trans hb.size hb2.size))).trans (hb4.mono (Nat.le_trans (Nat.le_trans hb.size hb2.size) hb3.size))).trans (hB2.mono (Nat.le_trans (Nat.le_trans (Nat.le_trans hb.size hb2.size) hb3.size) hb4.size))⟩
theorem rooms_ok (k v : Nat) (p : Bool) (r : Nat) (d : Int) (w : World) (h1 : okB k v p = true) (h2 : okR r = true) (hd : (Lit.int .i64 d).wf = true) :
    Calls Try.prog 3 #[.agg #[.int .i64 k, .int .i64 v, .bool p], .int .i64 r, .int .i64 d] w fun e w' => e = .returned (.bool true) ∧ Below w.heap.size w w' := by
  have hle := mustN_le h1 h2
  have C1 := Lib.hid (fun w1 => must_ok k v p r w1 h1 h2)
  have C3 := Lib.hid (fun w1 => bright_t k v p w1 h1)
  have C4 := Lib.hid (fun w1 => check_t k v p w1 h1)
  have C5 := Lib.hid (fun w1 => lawmust_ok k v p r w1 h1 h2)
  obtain ⟨r1, r2⟩ := okR_t h2
  have r3 : ¬ (r : Int) < 0 := by omega
  have r4 : ¬ (1000000 : Int) < r := by omega
  by_cases hd0 : d < 0
  · have C2 := Lib.hid (fun w1 => room_bad k v p r d w1 (by simp [h1, h2, hd0]))
    clear h1 h2
    generalize mustN k v p r = n at hle C1 C2 C5 ⊢
    go_enter Try.func3, Try.ntmps3
    go_wp2_with (first
        | (go_at_call 9; refine (lives32_any _).mono ?_; rintro e w1 ⟨rfl, hb1⟩; obtain ⟨hk, hb⟩ := boxed hb1; have c0 := hk.cell 0; have c1 := hk.cell 1; have c2 := hk.cell 2)
        | (go_at_call 10; refine (C1.out _).mono ?_; rintro e w2 ⟨rfl, hb2⟩; have hk2 := hk.below' hb2; have d0 := hk2.cell 0; have d1 := hk2.cell 1; have d2 := hk2.cell 2)
        | (go_at_call 11; refine (C2.out _).mono ?_; rintro e w3 ⟨rfl, hb3⟩; have hk3 := hk2.below' hb3; have e0 := hk3.cell 0; have e1 := hk3.cell 1; have e2 := hk3.cell 2)
        | (go_at_call 12; refine (C3.out _).mono ?_; rintro e w4 ⟨rfl, hb4⟩; have hk4 := hk3.below' hb4; have f0 := hk4.cell 0; have f1 := hk4.cell 1; have f2 := hk4.cell 2)
        | (go_at_call 14; refine (C5.out _).mono ?_; rintro e w5 ⟨rfl, hb5⟩; have hk5 := hk4.below' hb5; have g0 := hk5.cell 0; have g1 := hk5.cell 1; have g2 := hk5.cell 2)
        | (go_at_call 13; refine (C4.out _).mono ?_; rintro e w6 ⟨rfl, hb6⟩))
    go_ret
    exact ⟨rfl, ((((hb.trans (hb2.mono hb.size)).trans (hb3.mono (Nat.le_trans hb.size hb2.size))).trans (hb4.mono (Nat.le_trans (Nat.le_trans hb.size hb2.size) hb3.size))).trans (hb5.mono (Nat.le_trans (Nat.le_trans (Nat.le_trans hb.size hb2.size) hb3.size) hb4.size))).trans (hb6.mono (Nat.le_trans (Nat.le_trans (Nat.le_trans (Nat.le_trans hb.size hb2.size) hb3.size) hb4.size) hb5.size))⟩
  · have hd1 : 0 ≤ d := by omega
    obtain ⟨d, rfl⟩ := Int.eq_ofNat_of_zero_le hd1
    have hd2 : d < 9223372036854775808 := by simp [Lit.wf, IntKind.min, IntKind.max, IntKind.signed, IntKind.bits] at hd; omega
    have C2 := Lib.hid (fun w1 => room_ok k v p r d w1 h1 h2 hd2)
    clear h1 h2 hd
    generalize mustN k v p r = n at hle C1 C2 C5 ⊢
    have hmax : max ((d : Int) - n) 0 = ((d - n : Nat) : Int) := by omega
    have hr0 : (d : Int) - n ≤ 9223372036854775807 := by omega
    have hr1 : -1000000 ≤ (d : Int) - n := by omega
    generalize d - n = x at hmax C2
    go_enter Try.func3, Try.ntmps3
    go_wp2_with (first
        | (go_at_call 9; refine (lives32_any _).mono ?_; rintro e w1 ⟨rfl, hb1⟩; obtain ⟨hk, hb⟩ := boxed hb1; have c0 := hk.cell 0; have c1 := hk.cell 1; have c2 := hk.cell 2)
        | (go_at_call 10; refine (C1.out _).mono ?_; rintro e w2 ⟨rfl, hb2⟩; have hk2 := hk.below' hb2; have d0 := hk2.cell 0; have d1 := hk2.cell 1; have d2 := hk2.cell 2)
        | (go_at_call 11; refine (C2.out _).mono ?_; rintro e w3 ⟨rfl, hb3⟩; have hk3 := hk2.below' hb3; have e0 := hk3.cell 0; have e1 := hk3.cell 1; have e2 := hk3.cell 2)
        | (go_at_call 12; refine (C3.out _).mono ?_; rintro e w4 ⟨rfl, hb4⟩; have hk4 := hk3.below' hb4; have f0 := hk4.cell 0; have f1 := hk4.cell 1; have f2 := hk4.cell 2)
        | (go_at_call 14; refine (C5.out _).mono ?_; rintro e w5 ⟨rfl, hb5⟩; have hk5 := hk4.below' hb5; have g0 := hk5.cell 0; have g1 := hk5.cell 1; have g2 := hk5.cell 2)
        | (go_at_call 13; refine (C4.out _).mono ?_; rintro e w6 ⟨rfl, hb6⟩))
    go_ret
    exact ⟨by first | rfl | simp [hmax], ((((hb.trans (hb2.mono hb.size)).trans (hb3.mono (Nat.le_trans hb.size hb2.size))).trans (hb4.mono (Nat.le_trans (Nat.le_trans hb.size hb2.size) hb3.size))).trans (hb5.mono (Nat.le_trans (Nat.le_trans (Nat.le_trans hb.size hb2.size) hb3.size) hb4.size))).trans (hb6.mono (Nat.le_trans (Nat.le_trans (Nat.le_trans (Nat.le_trans hb.size hb2.size) hb3.size) hb4.size) hb5.size))⟩
theorem budgetRooms_walk (cs : Array Value) (r d : Int) (w : World) (h : Ok Try.prog w 9 23 cs.toList) (wr : (Lit.int .i64 r).wf = true) (wd : (Lit.int .i64 d).wf = true) :
    Calls Try.prog 3 #[.agg cs, .int .i64 r, .int .i64 d] w fun e w' => e = .returned (.bool true) ∧ Below w.heap.size w w' := by
  obtain ⟨k, v, p, hcs⟩ : ∃ k v p, cs = #[.int .i64 k, .int .i64 v, .bool p] := by
    obtain ⟨hl, hf⟩ := ok_struct (n := 8) Try.underlying23 h
    rw [show Try.prog.cellsOf 23 = 3 by kernel_rfl] at hl
    obtain ⟨k, e0, _⟩ := ok_int (n := 7) Try.underlying3 (ok_field hf 0 3 0 1 rfl (by kernel_rfl))
    obtain ⟨v, e1, _⟩ := ok_int (n := 7) Try.underlying3 (ok_field hf 1 3 1 1 rfl (by kernel_rfl))
    obtain ⟨p, e2⟩ := ok_bool (n := 7) Try.underlying4 (ok_field hf 2 4 2 1 rfl (by kernel_rfl))
    exact ⟨k, v, p, arr_of (three_of hl (one_cell e0) (one_cell e1) (one_cell e2))⟩
  subst hcs
  by_cases hb : okB k v p = true ∧ okR r = true
  · obtain ⟨h1, h2⟩ := hb
    obtain ⟨b1, b2, b3, b4, b5⟩ := okB_t h1
    obtain ⟨r1, r2⟩ := okR_t h2
    obtain ⟨k', rfl⟩ := Int.eq_ofNat_of_zero_le b1
    obtain ⟨v', rfl⟩ := Int.eq_ofNat_of_zero_le b3
    obtain ⟨r', rfl⟩ := Int.eq_ofNat_of_zero_le r1
    exact rooms_ok k' v' p r' d w h1 h2 wd
  · refine rooms_bad k v p r d w ?_
    revert hb
    cases okB k v p <;> cases okR r <;> simp
end Go.Proofs.Ytalmhnimmhgloaa
