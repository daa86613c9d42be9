/-
  The walks of package quant: Right, Text, Add, Sub, Times; the law's own example.
-/
import Derived.Test.YtilmmmokobhnfaaDoorQp2
import Derived.Lib.AppendIntMem
namespace Go.Proofs.YtilmmmokobhnfaaDoor
open Go.RowKit Go.Proofs.Mem Go.Proofs.Qn
set_option linter.unusedVariables false
set_option linter.unusedSimpArgs false
abbrev Tab (w : World) : Prop := Lib.TabIs Tryd.prog w "internal/strconv.uint64pow10" .u64 Lib.pow10Tab
theorem tab_below {w w' : World} (h : Tab w) (hb : Below w.heap.size w w') : Tab w' := by
  unfold Tab Lib.TabIs World.var? at h ⊢
  cases hg : Tryd.prog.globalNamed "internal/strconv.uint64pow10" with
  | none => rw [hg] at h; cases h
  | some g =>
    rw [hg] at h
    simp only [Option.bind_some] at h ⊢
    have hlt : g < w.heap.size := by
      rcases Nat.lt_or_ge g w.heap.size with h' | h'
      · exact h'
      · rw [Array.getElem?_eq_none h'] at h; cases h
    rw [hb.block g hlt]
    exact h
theorem right_t (m : Int) (h0 : 0 ≤ m) (h1 : m ≤ 9007199254740992) (w : World) : Calls Tryd.prog 16 #[.int .i64 m] w fun e w' => e = .returned (.bool true) ∧ w = w' := by
  go_enter Tryd.func16, Tryd.ntmps16
  go_wp2_with fail
  go_ret
  exact ⟨rfl, rfl⟩
theorem right_f (m : Int) (h : m < 0 ∨ (0 ≤ m ∧ 9007199254740992 < m)) (w : World) : Calls Tryd.prog 16 #[.int .i64 m] w fun e w' => e = .returned (.bool false) ∧ w = w' := by
  rcases h with h | ⟨h0, h1⟩
  all_goals
    go_enter Tryd.func16, Tryd.ntmps16
    go_wp2_with fail
    go_ret
    first
      | exact ⟨rfl, rfl⟩
      | exact ⟨ret_bool (by simp; omega), rfl⟩
/-- A quantity's text. -/
def textL (m : Nat) : List UInt8 := if m % 1000 = 0 then Lib.decDigits (m / 1000) else Lib.decDigits m ++ [109]
theorem fmt_nat (m : Nat) (h : m ≤ 9007199254740992) (w : World) (hT : Tab w) : Calls Tryd.prog 27 #[.int .i64 m, .int .i64 10] w fun e w' => e = .returned (.string ⟨(Lib.decDigits m).toArray⟩) ∧ Below w.heap.size w w' := by
  refine (Tryd.strconv_FormatInt_10 (m : Int) (by omega) (by omega) w hT).mono ?_
  rintro e w' ⟨rfl, k, os, rfl⟩
  refine ⟨?_, Lib.below_grow _ _ (Nat.le_refl _) _ _⟩
  have : Lib.itoa (m : Int) = Lib.decDigits m := by
    unfold Lib.itoa
    rw [if_neg (by omega)]
    rfl
  rw [this]
theorem qtext_bad (m : Int) (h : m < 0 ∨ (0 ≤ m ∧ 9007199254740992 < m)) (w : World) : Calls Tryd.prog 15 #[.int .i64 m] w fun e w' => e = .returned (.string ⟨#[63]⟩) ∧ w = w' := by
  have C := Lib.hid (right_f m h w)
  clear h
  go_enter Tryd.func15, Tryd.ntmps15
  go_wp2_with fail
  refine C.out.mono ?_
  rintro e w1 ⟨rfl, rfl⟩
  go_wp2_with fail
  go_ret
  exact ⟨rfl, rfl⟩
theorem decDigits_len (m : Nat) (h : m ≤ 9007199254740992) : (Lib.decDigits m).length ≤ 20 := by
  have hd : ∀ k n, n < 10 ^ (k + 1) → (Lib.decDigits n).length ≤ k + 1 := by
    intro k
    induction k with
    | zero => intro n hn; rw [Lib.decDigits, dif_pos (by omega)]; simp
    | succ k ih =>
      intro n hn
      rw [Lib.decDigits]
      split
      · simp
      · rw [List.length_append]
        have := ih (n / 10) (by rw [Nat.pow_succ] at hn; omega)
        simp
        omega
  exact hd 19 m (by omega)
set_option maxRecDepth 100000 in
theorem qtext_any (m : Nat) (h : m ≤ 9007199254740992) (w : World) (hT : Tab w) : Calls Tryd.prog 15 #[.int .i64 m] w fun e w' => e = .returned (.string ⟨(textL m).toArray⟩) ∧ Below w.heap.size w w' := by
  have C := Lib.hid (right_t m (by omega) (by omega) w)
  have hi : (m : Int) ≤ 9007199254740992 := by omega
  by_cases h0 : m % 1000 = 0
  · have hq : ((m : Int) % 1000 == 0) = true := by simp; omega
    have CF := fmt_nat (m / 1000) (by omega) w hT
    rw [show (((m / 1000 : Nat)) : Int) = (m : Int) / 1000 by omega] at CF
    have ht : textL m = Lib.decDigits (m / 1000) := by unfold textL; rw [if_pos h0]
    rw [ht]
    have CF2 := Lib.hid CF
    have HT := Lib.hid hT
    clear hT CF ht h h0
    go_enter Tryd.func15, Tryd.ntmps15
    go_wp2_with fail
    refine C.out.mono ?_
    rintro e w1 ⟨rfl, rfl⟩
    go_wp2_with fail
    refine CF2.out.mono ?_
    rintro e w2 ⟨rfl, hb⟩
    go_wp2_with fail
    go_ret
    exact ⟨rfl, hb⟩
  · have hq : ((m : Int) % 1000 == 0) = false := by simp; omega
    have CF2 := Lib.hid (fmt_nat m h w hT)
    have ht : textL m = Lib.decDigits m ++ [109] := by unfold textL; rw [if_neg h0]
    rw [ht]
    have hdl := Lib.hid (decDigits_len m h)
    have HT := Lib.hid hT
    clear hT ht h h0
    go_enter Tryd.func15, Tryd.ntmps15
    go_wp2_with fail
    refine C.out.mono ?_
    rintro e w1 ⟨rfl, rfl⟩
    go_wp2_with fail
    refine CF2.out.mono ?_
    rintro e w2 ⟨rfl, hb⟩
    have CJ := Lib.hid (fun (cp : Nat) (W : World) (hk : Bk W w2.heap.size 9 #[.string ⟨(Lib.decDigits m).toArray⟩, .string ⟨#[109]⟩]) => Tryd.strings_Join w2.heap.size 0 2 [⟨(Lib.decDigits m).toArray⟩, ⟨#[109]⟩] ⟨#[]⟩ W (fun j x hx => by
      rw [hk.cell]
      rcases j with _ | _ | j
      · simp at hx ⊢; exact hx
      · simp at hx ⊢; exact hx
      · simp at hx) hk.lt (by simp) (by simp) (by
        have := hdl.out
        simp [Lib.join_cons, Lib.joinTail]
        omega))
    have hk := Bk.new w2 9 #[.string ⟨(Lib.decDigits m).toArray⟩, .string ⟨#[109]⟩]
    have HK := Lib.hid hk
    clear hk
    go_wp2_with fail
    refine (CJ.out 0 _ HK.out).mono ?_
    rintro e w3 ⟨rfl, hb3⟩
    go_wp2_with fail
    go_ret
    refine ⟨?_, below_tr (below_tr hb (below_al w2 (.cells #[.string ⟨(Lib.decDigits m).toArray⟩, .string ⟨#[109]⟩] 9))) hb3⟩
    simp [Lib.join_cons, Lib.joinTail]
theorem dd1500 : textL 1500 = [49, 53, 48, 48, 109] := by decide +kernel
theorem dd2000 : textL 2000 = [50] := by decide +kernel
set_option maxRecDepth 100000 in
theorem lives02_any (w : World) (hT : Tab w) : Calls Tryd.prog 7 #[] w fun e w' => e = .returned (.bool true) ∧ Below w.heap.size w w' := by
  have P1 : parseR [53, 48, 48, 109] = (500, 0) := by decide +kernel
  have P2 : parseR [50, 75, 105] = (2048000, 0) := by decide +kernel
  have C1 := fun w1 => qparse_any ⟨#[53, 48, 48, 109]⟩ (by show 4 ≤ 140737488355328; omega) w1
  have C2 := fun w1 => qparse_any ⟨#[50, 75, 105]⟩ (by show 3 ≤ 140737488355328; omega) w1
  simp only [P1, P2] at C1 C2
  have D1 := Lib.hid C1
  have D2 := Lib.hid C2
  have C3 := fun w1 (hb : Below w.heap.size w w1) => qtext_any 1500 (by omega) w1 (tab_below hT hb)
  have C4 := fun w1 (hb : Below w.heap.size w w1) => qtext_any 2000 (by omega) w1 (tab_below hT hb)
  rw [dd1500] at C3
  rw [dd2000] at C4
  have D3 := Lib.hid C3
  have D4 := Lib.hid C4
  clear C1 C2 C3 C4 P1 P2 hT
  go_enter Tryd.func7, Tryd.ntmps7
  go_wp2_with fail
  refine (D1.out _).mono ?_
  rintro e w1 ⟨rfl, hb1⟩
  go_wp2_with fail
  refine (D2.out _).mono ?_
  rintro e w2 ⟨rfl, hb2⟩
  have hB2 := below_tr hb1 hb2
  go_wp2_with fail
  refine (D3.out _ hB2).mono ?_
  rintro e w3 ⟨rfl, hb3⟩
  have hB3 := below_tr hB2 hb3
  go_wp2_with fail
  refine (D4.out _ hB3).mono ?_
  rintro e w4 ⟨rfl, hb4⟩
  go_wp2_with fail
  go_ret
  exact ⟨rfl, below_tr hB3 hb4⟩
/-- Is it a quantity? -/
def qOk (m : Int) : Prop := 0 ≤ m ∧ m ≤ 9007199254740992
theorem qNot {m : Int} (h : ¬ qOk m) : m < 0 ∨ (0 ≤ m ∧ 9007199254740992 < m) := by unfold qOk at h; omega
/-- What package quant's Add says. -/
def addR (a b : Int) : Int × Int := if a < 0 ∨ 9007199254740992 < a ∨ b < 0 ∨ 9007199254740992 < b then (0, 1) else if 9007199254740992 < a + b then (0, 3) else (a + b, 0)
def subR (a b : Int) : Int × Int := if a < 0 ∨ 9007199254740992 < a ∨ b < 0 ∨ 9007199254740992 < b then (0, 1) else if a < b then (0, 14) else (a - b, 0)
def timesR (a : Int) (n : Int) : Int × Int := if a < 0 ∨ 9007199254740992 < a ∨ n < 0 then (0, 1) else if 9007199254740992 < a * n then (0, 3) else (a * n, 0)
theorem qadd_any (a b : Int) (w : World) : Calls Tryd.prog 19 #[.int .i64 a, .int .i64 b] w fun e w' => e = .returned (.tuple #[.int .i64 (addR a b).1, .int .i64 (addR a b).2]) ∧ w = w' := by
  by_cases ha : qOk a
  · have CA := Lib.hid (fun w1 => right_t a ha.1 ha.2 w1)
    by_cases hb : qOk b
    · have CB := Lib.hid (fun w1 => right_t b hb.1 hb.2 w1)
      obtain ⟨a0, a1⟩ := ha
      obtain ⟨b0, b1⟩ := hb
      by_cases hs : 9007199254740992 < a + b
      · have hr : addR a b = (0, 3) := by unfold addR; rw [if_neg (by omega), if_pos hs]
        have CS := Lib.hid (fun w1 => right_f (a + b) (.inr ⟨by omega, hs⟩) w1)
        rw [hr]
        clear hr hs
        go_enter Tryd.func19, Tryd.ntmps19
        go_wp2_with (first | (go_at_call_of 16 (Value.int .i64 (a + b)); refine (CS.out _).mono ?_; rintro e w1 ⟨rfl, rfl⟩) | (go_at_call_of 16 (Value.int .i64 a); refine (CA.out _).mono ?_; rintro e w1 ⟨rfl, rfl⟩) | (go_at_call_of 16 (Value.int .i64 b); refine (CB.out _).mono ?_; rintro e w1 ⟨rfl, rfl⟩))
        go_ret2
        exact ⟨rfl, rfl⟩
      · have hr : addR a b = (a + b, 0) := by unfold addR; rw [if_neg (by omega), if_neg hs]
        have CS := Lib.hid (fun w1 => right_t (a + b) (by omega) (by omega) w1)
        rw [hr]
        have hs2 : a + b ≤ 9007199254740992 := by omega
        clear hr hs
        go_enter Tryd.func19, Tryd.ntmps19
        go_wp2_with (first | (go_at_call_of 16 (Value.int .i64 (a + b)); refine (CS.out _).mono ?_; rintro e w1 ⟨rfl, rfl⟩) | (go_at_call_of 16 (Value.int .i64 a); refine (CA.out _).mono ?_; rintro e w1 ⟨rfl, rfl⟩) | (go_at_call_of 16 (Value.int .i64 b); refine (CB.out _).mono ?_; rintro e w1 ⟨rfl, rfl⟩))
        go_ret2
        exact ⟨rfl, rfl⟩
    · have CB := Lib.hid (fun w1 => right_f b (qNot hb) w1)
      have hr : addR a b = (0, 1) := by unfold addR; rw [if_pos (by have := qNot hb; omega)]
      rw [hr]
      clear hr ha hb
      go_enter Tryd.func19, Tryd.ntmps19
      go_wp2_with fail
      refine (CA.out _).mono ?_
      rintro e w1 ⟨rfl, rfl⟩
      go_wp2_with fail
      refine (CB.out _).mono ?_
      rintro e w1 ⟨rfl, rfl⟩
      go_wp2_with fail
      go_ret2
      exact ⟨rfl, rfl⟩
  · have CA := Lib.hid (fun w1 => right_f a (qNot ha) w1)
    have hr : addR a b = (0, 1) := by unfold addR; rw [if_pos (by have := qNot ha; omega)]
    rw [hr]
    clear hr ha
    go_enter Tryd.func19, Tryd.ntmps19
    go_wp2_with fail
    refine (CA.out _).mono ?_
    rintro e w1 ⟨rfl, rfl⟩
    go_wp2_with fail
    go_ret2
    exact ⟨rfl, rfl⟩
end Go.Proofs.YtilmmmokobhnfaaDoor
