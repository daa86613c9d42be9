/-
  The walks of package budget's Check, Must, Room, and of the statement BudgetRooms of package trimtablaw32: it returns true, for every input; nothing that was there turns.
-/
import Derived.Test.YtalmhnimmhgloaaRatio
namespace Go.Proofs.Ytalmhnimmhgloaa
open Go.RowKit Go.Proofs.Mem Go.Proofs.Bit
set_option linter.unusedVariables false
set_option linter.unusedSimpArgs false

def okB (k v : Int) (p : Bool) : Bool := decide (0 ≤ k ∧ k ≤ 1 ∧ 0 ≤ v ∧ v ≤ 1000000 ∧ (p = true → v ≤ 1000))
theorem okB_t {k v : Int} {p : Bool} (h : okB k v p = true) : 0 ≤ k ∧ k ≤ 1 ∧ 0 ≤ v ∧ v ≤ 1000000 ∧ (p = true → v ≤ 1000) := of_decide_eq_true h
theorem okB_f {k v : Int} {p : Bool} (h : okB k v p = false) : k < 0 ∨ (0 ≤ k ∧ 1 < k) ∨ (0 ≤ k ∧ k ≤ 1 ∧ v < 0) ∨ (0 ≤ k ∧ k ≤ 1 ∧ 0 ≤ v ∧ 1000000 < v) ∨ (0 ≤ k ∧ k ≤ 1 ∧ 0 ≤ v ∧ v ≤ 1000000 ∧ p = true ∧ 1000 < v) := by
  have h := of_decide_eq_false h
  cases p
  · simp at h ⊢
    omega
  · simp at h ⊢
    omega
theorem boxed {w w1 : World} {t : TypeId} {cs : Array Value} (h : Below (w.alloc (.cells cs t)).heap.size (w.alloc (.cells cs t)) w1) : Bk w1 w.heap.size t cs ∧ Below w.heap.size w w1 :=
  ⟨(Bk.new w t cs).below' h, ((Below.refl _ _).alloc (Nat.le_refl _) _).trans (h.mono (by simp))⟩
theorem check_t (k v : Int) (p : Bool) (w : World) (h : okB k v p = true) :
    Calls Try.prog 13 #[.agg #[.int .i64 k, .int .i64 v, .bool p]] w fun e w' => e = .returned (.int .i64 0) ∧ Below w.heap.size w w' := by
  obtain ⟨h1, h2, h3, h4, h5⟩ := okB_t h
  clear h
  cases p
  all_goals
    try have h6 := h5 rfl
    clear h5
    go_enter Try.func13, Try.ntmps13
    go_wp2
    go_ret
    exact ⟨rfl, (Below.refl _ _).alloc (Nat.le_refl _) _⟩
theorem check_f (k v : Int) (p : Bool) (w : World) (h : okB k v p = false) :
    Calls Try.prog 13 #[.agg #[.int .i64 k, .int .i64 v, .bool p]] w fun e w' => e = .returned (.int .i64 1) ∧ Below w.heap.size w w' := by
  rcases okB_f h with h1 | ⟨h1, h2⟩ | ⟨h1, h2, h3⟩ | ⟨h1, h2, h3, h4⟩ | ⟨h1, h2, h3, h4, rfl, h5⟩
  all_goals
    clear h
    try have h6 : 1000 < v := by omega
    first | cases p | skip
    all_goals
      go_enter Try.func13, Try.ntmps13
      go_wp2
      go_ret
      exact ⟨rfl, (Below.refl _ _).alloc (Nat.le_refl _) _⟩
theorem bright_t (k v : Int) (p : Bool) (w : World) (h : okB k v p = true) :
    Calls Try.prog 12 #[.agg #[.int .i64 k, .int .i64 v, .bool p]] w fun e w' => e = .returned (.bool true) ∧ Below w.heap.size w w' := by
  obtain ⟨h1, h2, h3, h4, h5⟩ := okB_t h
  clear h
  cases p
  all_goals
    try have h6 := h5 rfl
    clear h5
    go_enter Try.func12, Try.ntmps12
    go_wp2
    go_ret
    exact ⟨rfl, (Below.refl _ _).alloc (Nat.le_refl _) _⟩
theorem bright_f (k v : Int) (p : Bool) (w : World) (h : okB k v p = false) :
    Calls Try.prog 12 #[.agg #[.int .i64 k, .int .i64 v, .bool p]] w fun e w' => e = .returned (.bool false) ∧ Below w.heap.size w w' := by
  rcases okB_f h with h1 | ⟨h1, h2⟩ | ⟨h1, h2, h3⟩ | ⟨h1, h2, h3, h4⟩ | ⟨h1, h2, h3, h4, rfl, h5⟩
  all_goals
    clear h
    try have h6 : decide (v ≤ 1000) = false := decide_eq_false (by omega)
    go_enter Try.func12, Try.ntmps12
    go_wp2
    go_ret
    exact ⟨rfl, (Below.refl _ _).alloc (Nat.le_refl _) _⟩
/-- How many must be ready. -/
def mustN (k v : Nat) (p : Bool) (r : Nat) : Nat := if k = 1 then r - (if p then mulDivN r v 1000 false else v) else (if p then mulDivN r v 1000 true else v)
theorem must_bad (k v : Int) (p : Bool) (r : Int) (w : World) (h : okB k v p = false ∨ okR r = false) :
    Calls Try.prog 10 #[.agg #[.int .i64 k, .int .i64 v, .bool p], .int .i64 r] w fun e w' => e = .returned (.tuple #[.int .i64 0, .int .i64 1]) ∧ Below w.heap.size w w' := by
  by_cases hb : okB k v p = true
  · have C := Lib.hid (fun w1 => check_t k v p w1 hb)
    have hr := okR_f (by simpa [hb] using h)
    have ht : r < 0 ∨ (¬ r < 0 ∧ 1000000 < r) := by omega
    clear h hb hr
    rcases ht with ht | ⟨ht, ht2⟩
    all_goals
      go_enter Try.func10, Try.ntmps10
      go_wp2_with (go_at_call 13; refine (C.out _).mono ?_; rintro e w1 ⟨rfl, hb1⟩)
      go_ret2
      exact ⟨rfl, ((Below.refl _ _).alloc (Nat.le_refl _) _).trans (hb1.mono (by simp))⟩
  · have hb2 : okB k v p = false := by simpa using hb
    have C := Lib.hid (fun w1 => check_f k v p w1 hb2)
    clear h hb hb2
    go_enter Try.func10, Try.ntmps10
    go_wp2_with (go_at_call 13; refine (C.out _).mono ?_; rintro e w1 ⟨rfl, hb1⟩)
    go_ret2
    exact ⟨rfl, ((Below.refl _ _).alloc (Nat.le_refl _) _).trans (hb1.mono (by simp))⟩
theorem must_ok (k v : Nat) (p : Bool) (r : Nat) (w : World) (h : okB k v p = true) (hr : okR r = true) :
    Calls Try.prog 10 #[.agg #[.int .i64 k, .int .i64 v, .bool p], .int .i64 r] w fun e w' => e = .returned (.tuple #[.int .i64 (mustN k v p r), .int .i64 0]) ∧ Below w.heap.size w w' := by
  obtain ⟨h1, h2, h3, h4, h5⟩ := okB_t h
  obtain ⟨r1, r2⟩ := okR_t hr
  have C := Lib.hid (fun w1 => check_t k v p w1 h)
  have hv : okR v = true := by unfold okR; simp; omega
  have hk : k = 0 ∨ k = 1 := by omega
  have C1 := Lib.hid (fun up w1 => percent_ok r v up w1 hr hv)
  obtain ⟨n, hn⟩ : ∃ n, n = if p then mulDivN r v 1000 (k == 0) else v := ⟨_, rfl⟩
  have hn1 : (n : Int) ≤ 1000000 := by
    rw [hn]
    cases p
    · simpa using h4
    · have := mulDivN_le r v 1000 1000000 (k == 0) (by have := Nat.mul_le_mul (show r ≤ 1000000 by omega) (show v ≤ 1000 by have := h5 rfl; omega); omega) (by omega)
      simp; omega
  have hm : mustN k v p r = if k = 1 then r - n else n := by
    unfold mustN
    rcases hk with rfl | rfl <;> cases p <;> simp [hn]
  rw [hm]
  clear h h3 h4 h5 hv hr h1 h2 hm
  rcases hk with rfl | rfl
  · cases p
    · have hn := Lib.hid hn
      go_enter Try.func10, Try.ntmps10
      go_wp2_with (go_at_call 13; refine (C.out _).mono ?_; rintro e w1 ⟨rfl, hb1⟩; obtain ⟨hk, hb⟩ := boxed hb1; have c0 := hk.cell 0; have c1 := hk.cell 1; have c2 := hk.cell 2)
      go_ret2
      exact ⟨by simp [hn.out], hb⟩
    · replace hn : mulDivN r v 1000 true = n := by simpa using hn.symm
      have C1 := Lib.hid (C1.out true)
      rw [hn] at C1
      clear hn
      go_enter Try.func10, Try.ntmps10
      go_wp2_with (go_at_call 13; refine (C.out _).mono ?_; rintro e w1 ⟨rfl, hb1⟩; obtain ⟨hk, hb⟩ := boxed hb1; have c0 := hk.cell 0; have c1 := hk.cell 1; have c2 := hk.cell 2)
      refine (C1.out _).mono ?_
      rintro e w2 ⟨rfl, hb2⟩
      have hk2 := hk.below' hb2
      have d0 := hk2.cell 0
      go_wp2_with fail
      go_ret2
      exact ⟨rfl, hb.trans (hb2.mono hb.size)⟩
  · have hmax : max ((r : Int) - n) 0 = ((r - n : Nat) : Int) := by omega
    have hr0 : (r : Int) - n ≤ 1000000 := by omega
    have hr1 : -1000000 ≤ (r : Int) - n := by omega
    have hmax := Lib.hid hmax
    cases p
    · replace hn : n = v := by simpa using hn
      subst hn
      go_enter Try.func10, Try.ntmps10
      go_wp2_with (go_at_call 13; refine (C.out _).mono ?_; rintro e w1 ⟨rfl, hb1⟩; obtain ⟨hk, hb⟩ := boxed hb1; have c0 := hk.cell 0; have c1 := hk.cell 1; have c2 := hk.cell 2)
      go_ret2
      exact ⟨by first | rfl | exact ret_two hmax.out rfl, hb⟩
    · replace hn : mulDivN r v 1000 false = n := by simpa using hn.symm
      have C1 := Lib.hid (C1.out false)
      rw [hn] at C1
      clear hn
      go_enter Try.func10, Try.ntmps10
      go_wp2_with (go_at_call 13; refine (C.out _).mono ?_; rintro e w1 ⟨rfl, hb1⟩; obtain ⟨hk, hb⟩ := boxed hb1; have c0 := hk.cell 0; have c1 := hk.cell 1; have c2 := hk.cell 2)
      refine (C1.out _).mono ?_
      rintro e w2 ⟨rfl, hb2⟩
      have hk2 := hk.below' hb2
      have d0 := hk2.cell 0
      go_wp2_with fail
      go_ret2
      exact ⟨by first | rfl | exact ret_two hmax.out rfl, hb.trans (hb2.mono hb.size)⟩
theorem mustN_le {k v : Nat} {p : Bool} {r : Nat} (h : okB k v p = true) (hr : okR r = true) : mustN k v p r ≤ 1000000 := by
  obtain ⟨h1, h2, h3, h4, h5⟩ := okB_t h
  obtain ⟨r1, r2⟩ := okR_t hr
  have : ∀ up, p = true → mulDivN r v 1000 up ≤ 1000000 := fun up hp => mulDivN_le r v 1000 1000000 up (by have := Nat.mul_le_mul (show r ≤ 1000000 by omega) (show v ≤ 1000 by have := h5 hp; omega); omega) (by omega)
  unfold mustN
  cases p
  · split <;> simp <;> omega
  · have t := this true rfl
    split
    · omega
    · simpa using t
theorem room_bad (k v : Int) (p : Bool) (r d : Int) (w : World) (h : okB k v p = false ∨ okR r = false ∨ (okB k v p = true ∧ okR r = true ∧ d < 0)) :
    Calls Try.prog 11 #[.agg #[.int .i64 k, .int .i64 v, .bool p], .int .i64 r, .int .i64 d] w fun e w' => e = .returned (.tuple #[.int .i64 0, .int .i64 1]) ∧ Below w.heap.size w w' := by
  have h : (okB k v p = false ∨ okR r = false) ∨ (okB k v p = true ∧ okR r = true ∧ d < 0) := by rcases h with h | h | h <;> simp [h]
  rcases h with h | ⟨h1, h2, hd⟩
  · have C := Lib.hid (fun w1 => must_bad k v p r w1 h)
    clear h
    go_enter Try.func11, Try.ntmps11
    go_wp2_with (go_at_call 10; refine (C.out _).mono ?_; rintro e w1 ⟨rfl, hb1⟩; obtain ⟨hk, hb⟩ := boxed hb1)
    go_ret2
    exact ⟨rfl, hb⟩
  · obtain ⟨b1, b2, b3, b4, b5⟩ := okB_t h1
    obtain ⟨r1, r2⟩ := okR_t h2
    obtain ⟨k', rfl⟩ := Int.eq_ofNat_of_zero_le b1
    obtain ⟨v', rfl⟩ := Int.eq_ofNat_of_zero_le b3
    obtain ⟨r', rfl⟩ := Int.eq_ofNat_of_zero_le r1
    have C := Lib.hid (fun w1 => must_ok k' v' p r' w1 h1 h2)
    clear h1 h2 b1 b2 b3 b4 b5 r1 r2
    go_enter Try.func11, Try.ntmps11
    go_wp2_with (go_at_call 10; refine (C.out _).mono ?_; rintro e w1 ⟨rfl, hb1⟩; obtain ⟨hk, hb⟩ := boxed hb1)
    go_ret2
    exact ⟨rfl, hb⟩
theorem room_ok (k v : Nat) (p : Bool) (r d : Nat) (w : World) (h1 : okB k v p = true) (h2 : okR r = true) (hd : d < 9223372036854775808) :
    Calls Try.prog 11 #[.agg #[.int .i64 k, .int .i64 v, .bool p], .int .i64 r, .int .i64 d] w fun e w' => e = .returned (.tuple #[.int .i64 (d - mustN k v p r : Nat), .int .i64 0]) ∧ Below w.heap.size w w' := by
  have hle := mustN_le h1 h2
  have C := Lib.hid (fun w1 => must_ok k v p r w1 h1 h2)
  generalize mustN k v p r = n at hle C ⊢
  have hmax : max ((d : Int) - n) 0 = ((d - n : Nat) : Int) := by omega
  have hmax := Lib.hid hmax
  have hr0 : (d : Int) - n ≤ 9223372036854775807 := by omega
  have hr1 : -1000000 ≤ (d : Int) - n := by omega
  clear h1 h2
  go_enter Try.func11, Try.ntmps11
  go_wp2_with (go_at_call 10; refine (C.out _).mono ?_; rintro e w1 ⟨rfl, hb1⟩; obtain ⟨hk, hb⟩ := boxed hb1)
  go_ret2
  exact ⟨by first | rfl | exact ret_two hmax.out rfl, hb⟩
theorem lives32_any (w : World) : Calls Try.prog 9 #[] w fun e w' => e = .returned (.bool true) ∧ Below w.heap.size w w' := by
  have C : Hid (∀ w, Calls Try.prog 11 #[.agg #[.int .i64 0, .int .i64 2, .bool false], .int .i64 3, .int .i64 3] w fun e w' => e = .returned (.tuple #[.int .i64 1, .int .i64 0]) ∧ Below w.heap.size w w') :=
    Lib.hid fun w => by simpa [mustN] using room_ok 0 2 false 3 3 w (by decide) (by decide) (by omega)
  go_enter Try.func9, Try.ntmps9
  go_wp2_with (go_at_call 11; refine (C.out _).mono ?_; rintro e w1 ⟨rfl, hb1⟩)
  go_ret
  exact ⟨rfl, hb1⟩
theorem lawmust_ok (k v : Nat) (p : Bool) (r : Nat) (w : World) (h : okB k v p = true) (hr : okR r = true) :
    Calls Try.prog 14 #[.agg #[.int .i64 k, .int .i64 v, .bool p], .int .i64 r] w fun e w' => e = .returned (.int .i64 (mustN k v p r)) ∧ Below w.heap.size w w' := by
  obtain ⟨h1, h2, h3, h4, h5⟩ := okB_t h
  obtain ⟨r1, r2⟩ := okR_t hr
  have hk : k = 0 ∨ k = 1 := by omega
  obtain ⟨n, hn⟩ : ∃ n, n = if p then mulDivN r v 1000 (k == 0) else v := ⟨_, rfl⟩
  have hn1 : (n : Int) ≤ 1000000 := by
    rw [hn]
    cases p
    · simpa using h4
    · have := mulDivN_le r v 1000 1000000 (k == 0) (by have := Nat.mul_le_mul (show r ≤ 1000000 by omega) (show v ≤ 1000 by have := h5 rfl; omega); omega) (by omega)
      simp; omega
  have hm : mustN k v p r = if k = 1 then r - n else n := by
    unfold mustN
    rcases hk with rfl | rfl <;> cases p <;> simp [hn]
  rw [hm]
  have C1 := Lib.hid (fun w1 => ceil_any r v 1000 1000000 w1 (by omega) (by omega) (by omega) (by omega) (by omega))
  have C2 : Hid (∀ w1, p = true → k = 1 → Calls Try.prog 34 #[.int .u64 r, .int .u64 v, .int .u64 (1000 : Nat)] w1 fun e w' => e = .returned (.int .u64 n) ∧ Below w1.heap.size w1 w') := Lib.hid (fun w1 hp hk1 => by
    have e : r * v / 1000 = n := by rw [hn, hk1]; simp [hp, mulDivN]
    rw [← e]
    exact floor_any r v 1000 w1 (by omega) (by omega) (by omega) (by omega) (by rw [e]; omega))
  clear h h5 hr h1 h2 hm
  have hnn : (0 : Int) ≤ n := by omega
  rcases hk with rfl | rfl
  · cases p
    · have hn := Lib.hid hn
      go_enter Try.func14, Try.ntmps14
      go_wp2
      go_ret
      exact ⟨by simp [hn.out], (Below.refl _ _).alloc (Nat.le_refl _) _⟩
    · replace hn : min (mulDivN r v 1000 true) 1000000 = n := by simp at hn; omega
      rw [hn] at C1
      clear hn
      go_enter Try.func14, Try.ntmps14
      go_wp2_with (go_at_call 33; refine (C1.out _).mono ?_; rintro e w1 ⟨rfl, hb1⟩; obtain ⟨hk, hb⟩ := boxed hb1; have c0 := hk.cell 0; have c1 := hk.cell 1; have c2 := hk.cell 2)
      go_ret
      exact ⟨rfl, hb⟩
  · by_cases hle : n ≤ r
    · have hsub : (r : Int) - n = ((r - n : Nat) : Int) := by omega
      have hs1 : (0:Int) ≤ ((r - n : Nat) : Int) := by omega
      have hs2 : ((r - n : Nat) : Int) ≤ 1000000 := by omega
      generalize r - n = d at hsub hs1 hs2 ⊢
      cases p
      · replace hn : n = v := by simpa using hn
        subst hn
        go_enter Try.func14, Try.ntmps14
        go_wp2
        go_ret
        exact ⟨by first | rfl | exact ret_int hsub, (Below.refl _ _).alloc (Nat.le_refl _) _⟩
      · clear hn
        have C2 := Lib.hid (fun w1 => C2.out w1 rfl rfl)
        go_enter Try.func14, Try.ntmps14
        go_wp2_with (go_at_call 34; refine (C2.out _).mono ?_; rintro e w1 ⟨rfl, hb1⟩; obtain ⟨hk, hb⟩ := boxed hb1; have c0 := hk.cell 0; have c1 := hk.cell 1; have c2 := hk.cell 2)
        go_ret
        exact ⟨by first | rfl | exact ret_int hsub, hb⟩
    · have hz : r - n = 0 := by omega
      rw [hz]
      have hgt : (r : Int) < n := by omega
      clear hz
      cases p
      · replace hn : n = v := by simpa using hn
        subst hn
        go_enter Try.func14, Try.ntmps14
        go_wp2
        go_ret
        exact ⟨rfl, (Below.refl _ _).alloc (Nat.le_refl _) _⟩
      · clear hn
        have C2 := Lib.hid (fun w1 => C2.out w1 rfl rfl)
        go_enter Try.func14, Try.ntmps14
        go_wp2_with (go_at_call 34; refine (C2.out _).mono ?_; rintro e w1 ⟨rfl, hb1⟩; obtain ⟨hk, hb⟩ := boxed hb1; have c0 := hk.cell 0; have c1 := hk.cell 1; have c2 := hk.cell 2)
        go_ret
        exact ⟨rfl, hb⟩
theorem keep3 {W w1 w2 : World} {g : Nat} {a b c : Value} (hg : g < W.heap.size) (hS : w1.cell? ⟨g, 0, none⟩ = some a ∧ w1.cell? ⟨g, 1, none⟩ = some b ∧ w1.cell? ⟨g, 2, none⟩ = some c ∧ Below W.heap.size W w1) (hb : Below w1.heap.size w1 w2) :
    w2.cell? ⟨g, 0, none⟩ = some a ∧ w2.cell? ⟨g, 1, none⟩ = some b ∧ w2.cell? ⟨g, 2, none⟩ = some c ∧ Below W.heap.size W w2 := by
  obtain ⟨h0, h1, h2, hW⟩ := hS
  have hs := hW.size
  have hl : g < w1.heap.size := by omega
  exact ⟨(hb.cell (p := ⟨g, 0, none⟩) hl).trans h0, (hb.cell (p := ⟨g, 1, none⟩) hl).trans h1, (hb.cell (p := ⟨g, 2, none⟩) hl).trans h2, hW.trans (hb.mono hs)⟩
end Go.Proofs.Ytalmhnimmhgloaa
