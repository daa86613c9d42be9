/-
  The walks of package trimtablaw22: lives, Right, PolicyAllows.
-/
import Derived.Test.YtalmhnimmhgloaaPolicy2
namespace Go.Proofs.Ytalmhnimmhgloaa
open Go.RowKit Go.Proofs.Mem Go.Proofs.Bit
set_option linter.unusedVariables false
set_option linter.unusedSimpArgs false
theorem lives22_any (w : World) : Calls Try.prog 15 #[] w fun e w' => e = .returned (.bool true) ∧ Below w.heap.size w w' := by
  have hR : goR [] 9 [⟨true, 1000, 15⟩, ⟨false, 4, 15⟩] [] (cnt 4) (cnt 20) = 8 := by decide
  have C : Hid (∀ w1 A, Sl w1 3 A 2 [.bool true, .int .i64 1000, .int .i64 15, .bool false, .int .i64 4, .int .i64 15] → Calls Try.prog 17 #[.agg #[.int .i64 0, .int .i64 0, A], .agg #[.int .i64 0, .int .i64 0, .slice none 0 0], .slice none 0 0, .int .i64 9, .int .i64 4, .int .i64 20] w1 fun e w' =>
      e = .returned (.int .i64 8) ∧ Below w1.heap.size w1 w') := Lib.hid (fun w1 A hA => by
    have := go_any [] [⟨true, 1000, 15⟩, ⟨false, 4, 15⟩] [] 9 4 20 0 0 (.slice none 0 0) A (.slice none 0 0) w1 (by simp) (Sl.nil w1 3) (by omega) (by simp) hA (by intro p hp; simp at hp; rcases hp with rfl | rfl <;> decide) (by simp) (Sl.nil w1 3) (by simp)
    rw [hR] at this
    exact this)
  go_enter Try.func15, Try.ntmps15
  go_wp2_with fail
  refine (C.out _ _ ((Sl.made w #[.bool true, .int .i64 1000, .int .i64 15, .bool false, .int .i64 4, .int .i64 15] 37 2 2 (Nat.le_refl _) rfl).alloc _)).mono ?_
  rintro e w1 ⟨rfl, hb⟩
  go_wp2_with fail
  go_ret
  exact ⟨rfl, (((Below.refl _ _).alloc (Nat.le_refl _) _).alloc (by simp) _).trans (hb.mono (by simp; omega))⟩
def okC (n : Int) : Bool := decide (0 ≤ n ∧ n ≤ 4611686018427387904)
theorem okC_t {n : Int} (h : okC n = true) : 0 ≤ n ∧ n ≤ 4611686018427387904 := of_decide_eq_true h
theorem okC_f {n : Int} (h : okC n = false) : n < 0 ∨ 4611686018427387904 < n := by have := of_decide_eq_false h; omega
/-- Right, of an empty past. -/
theorem right0_any (now : Int) (w : World) : Calls Try.prog 16 #[.slice none 0 0, .int .i64 now] w fun e w' => e = .returned (.bool (okC now)) ∧ Below w.heap.size w w' := by
  by_cases hn : okC now = true
  · rw [hn]
    obtain ⟨h1, h2⟩ := okC_t hn
    clear hn
    go_enter Try.func16, Try.ntmps16
    go_wp2_with fail
    go_loop [9] (fun i => i = .int .i64 0) (fun i => 0)
    case atStart => rfl
    case round =>
      subst hrel
      go_wp2_with fail
      go_ret
      exact ⟨rfl, Below.refl _ _⟩
  · have hn : okC now = false := by simpa using hn
    rw [hn]
    have h := okC_f hn
    have h3 : (¬ 0 ≤ now) ∨ (0 ≤ now ∧ ¬ now ≤ 4611686018427387904) := by omega
    clear hn h
    rcases h3 with h1 | ⟨h1, h2⟩
    all_goals
      go_enter Try.func16, Try.ntmps16
      go_wp2_with fail
      go_loop [9] (fun i => i = .int .i64 0) (fun i => 0)
      case atStart => rfl
      case round =>
        subst hrel
        go_wp2_with fail
        go_ret
        exact ⟨rfl, Below.refl _ _⟩
/-- What holds of all that was done at one tick, from so many there. -/
structure Inv (xs : List Done) (now P V there n : Int) : Prop where
  sum : n = there + net now P true xs + net now P false xs
  up0 : 0 ≤ net now P true xs
  up1 : net now P true xs ≤ 2000 * (xs.length : Int)
  down : net now P false xs ≤ 0
  lo : there - V ≤ n
  hi : n ≤ there + V
  nn : 0 ≤ n
theorem counts_now (now P : Int) (up : Bool) (n m : Int) (hP : 0 < P) : counts now P up ⟨now, n, m⟩ = (decide (0 < cnt m - cnt n) == up) := by
  unfold counts Done.by'
  have h1 : decide (0 < P) = true := by simpa using hP
  have h2 : decide (now - P < now) = true := by simp; omega
  simp [h1, h2]
theorem lim_one (xs : List Done) (now P V t : Int) (up : Bool) : limR t up (limL xs now t up [⟨false, V, P⟩]) = limV ⟨false, V, P⟩ (startN xs now t up ⟨false, V, P⟩) up := by
  unfold limR limL
  cases up <;> rfl
theorem inv_step (xs : List Done) (now P V there n u : Int) (hP : 0 < P) (hV : 1 ≤ V ∧ V ≤ 50) (ht : 0 ≤ there ∧ there ≤ 1000) (hl : xs.length ≤ 20) (hu : 0 ≤ u ∧ u ≤ 1000000) (h : Inv xs now P V there n) :
    Inv (xs ++ [⟨now, n, goR xs now [⟨false, V, P⟩] [⟨false, V, P⟩] n u⟩]) now P V there (goR xs now [⟨false, V, P⟩] [⟨false, V, P⟩] n u) := by
  obtain ⟨h1, h2, h3, h4, h5, h6, h7⟩ := h
  have hcV : cnt V = V := by unfold cnt; omega
  have hcn : cnt n = n := by unfold cnt; omega
  have key : goR xs now [⟨false, V, P⟩] [⟨false, V, P⟩] n u = if n < u then max n (min u (cnt (cnt (n - net now P true xs) + V))) else if u < n then min n (max u (cnt (cnt (n - net now P false xs) - V))) else n := by
    unfold goR
    rw [lim_one, lim_one]
    have e : ∀ up, ((startN xs now n up ⟨false, V, P⟩ : Nat) : Int) = cnt (n - net now P up xs) := by
      intro up
      have := cnt_bd (cnt n - net now P up xs)
      unfold startN
      rw [hcn] at this ⊢
      simp only
      omega
    unfold limV Pol.by'
    simp only [e, hcV, if_true, if_false, Bool.false_eq_true]
  obtain ⟨m, hm⟩ : ∃ m, m = goR xs now [⟨false, V, P⟩] [⟨false, V, P⟩] n u := ⟨_, rfl⟩
  rw [← hm] at key ⊢
  clear hm
  have hbd : 0 ≤ m ∧ there - V ≤ m ∧ m ≤ there + V := by
    rw [key]
    unfold cnt
    split
    · omega
    · split
      · omega
      · omega
  have hcm : cnt m = m := by unfold cnt; omega
  have su : net now P true (xs ++ [⟨now, n, m⟩]) = net now P true xs + (if 0 < m - n then m - n else 0) := by
    rw [net_snoc, counts_now _ _ _ _ _ hP, hcm, hcn]
    unfold Done.by'
    simp only [hcm, hcn]
    by_cases hd : 0 < m - n <;> simp [hd]
  have sd : net now P false (xs ++ [⟨now, n, m⟩]) = net now P false xs + (if 0 < m - n then 0 else m - n) := by
    rw [net_snoc, counts_now _ _ _ _ _ hP, hcm, hcn]
    unfold Done.by'
    simp only [hcm, hcn]
    by_cases hd : 0 < m - n <;> simp [hd] <;> (try (split <;> split <;> omega))
  constructor
  · rw [su, sd]; split <;> omega
  · rw [su]; split <;> omega
  · rw [su, List.length_append]; simp only [List.length_cons, List.length_nil]; split <;> omega
  · rw [sd]; split <;> omega
  · omega
  · omega
  · omega
end Go.Proofs.Ytalmhnimmhgloaa
