/-
  The walks of package ratio, of its reference (trimtabref03) and of the small functions below: each returns what exact arithmetic says; nothing that was there turns.
-/
import Derived.Test.YtalmhnimmhgloaaLaws1
namespace Go.Proofs.Ytalmhnimmhgloaa
open Go.RowKit Go.Proofs.Mem Go.Proofs.Bit
set_option linter.unusedVariables false
set_option linter.unusedSimpArgs false

/-! ### The small tests -/
def okM (m : Int) : Bool := decide (0 ≤ m ∧ m ≤ 9007199254740992)
def okR (n : Int) : Bool := decide (0 ≤ n ∧ n ≤ 1000000)
theorem okM_t {m : Int} (h : okM m = true) : 0 ≤ m ∧ m ≤ 9007199254740992 := by simpa [okM] using h
theorem okM_f {m : Int} (h : okM m = false) : m < 0 ∨ 9007199254740992 < m := by unfold okM at h; simp at h; omega
theorem okR_t {m : Int} (h : okR m = true) : 0 ≤ m ∧ m ≤ 1000000 := by simpa [okR] using h
theorem okR_f {m : Int} (h : okR m = false) : m < 0 ∨ 1000000 < m := by unfold okR at h; simp at h; omega
theorem qright_t (m : Int) (w : World) (h : okM m = true) : Calls Try.prog 41 #[.int .i64 m] w fun e w' => e = .returned (.bool true) ∧ w = w' := by
  obtain ⟨h1, h2⟩ := okM_t h
  clear h
  go_enter Try.func41, Try.ntmps41
  go_wp2
  go_ret
  exact ⟨rfl, rfl⟩
theorem qright_f (m : Int) (w : World) (h : okM m = false) : Calls Try.prog 41 #[.int .i64 m] w fun e w' => e = .returned (.bool false) ∧ w = w' := by
  have h1 := okM_f h
  clear h
  by_cases h0 : 0 ≤ m
  · have h2 : ¬ m ≤ 9007199254740992 := by omega
    clear h1
    go_enter Try.func41, Try.ntmps41
    go_wp2
    go_ret
    exact ⟨rfl, rfl⟩
  · clear h1
    go_enter Try.func41, Try.ntmps41
    go_wp2
    go_ret
    exact ⟨rfl, rfl⟩
theorem some_t (m : Int) (w : World) (h : okR m = true) : Calls Try.prog 57 #[.int .i64 m] w fun e w' => e = .returned (.bool true) ∧ w = w' := by
  obtain ⟨h1, h2⟩ := okR_t h
  clear h
  go_enter Try.func57, Try.ntmps57
  go_wp2
  go_ret
  exact ⟨rfl, rfl⟩
theorem some_f (m : Int) (w : World) (h : okR m = false) : Calls Try.prog 57 #[.int .i64 m] w fun e w' => e = .returned (.bool false) ∧ w = w' := by
  have h1 := okR_f h
  clear h
  by_cases h0 : 0 ≤ m
  · have h2 : ¬ m ≤ 1000000 := by omega
    clear h1
    go_enter Try.func57, Try.ntmps57
    go_wp2
    go_ret
    exact ⟨rfl, rfl⟩
  · clear h1
    go_enter Try.func57, Try.ntmps57
    go_wp2
    go_ret
    exact ⟨rfl, rfl⟩
def iv (m : Int) : Value := .int .i64 m
theorem all_step (xs : List Int) (k : Nat) (h : k < xs.length) (ha : (xs.take k).all okM = true) : (okM xs[k] = true → (xs.take (k + 1)).all okM = true) ∧ (okM xs[k] = false → xs.all okM = false) := by
  constructor
  · intro h1
    rw [List.take_succ_eq_append_getElem h, List.all_append, ha]
    simp [h1]
  · intro h1
    rw [List.all_eq_false]
    exact ⟨xs[k], List.getElem_mem h, by simp [h1]⟩
/-! ### capped, Need, Whole, Percent, Share -/
def capN (a b y : Nat) : Nat := min (mulDivN a b y true) 1000000
/-- Need, of numbers that may be: by a target that is 0, or else. -/
def NeedIs (n u t : Nat) (w : World) (e : Ending) (w' : World) : Prop := ((t = 0 ∧ e = .returned (.tuple #[.int .i64 0, .int .i64 5])) ∨ (0 < t ∧ e = .returned (.tuple #[.int .i64 (capN n u t), .int .i64 0]))) ∧ Below w.heap.size w w'
/-- Of parts that may be. -/
theorem muldiv_ok (a b y : Nat) (up : Bool) (w : World) (ha : a ≤ 9007199254740992) (hb : b ≤ 1000000) (hy : y < 18446744073709551616) (h0 : 0 < y) (hs : mulDivN a b y up < 18446744073709551616) :
    Calls Try.prog 38 #[.int .u64 a, .int .u64 b, .int .u64 y, .bool up] w fun e w' => e = .returned (.tuple #[.int .u64 (mulDivN a b y up), .int .i64 0]) ∧ Below w.heap.size w w' := by
  refine (muldiv_some a b y up w (by omega) (by omega) hy h0).mono ?_
  rintro e w' ⟨h1 | h1 | h1, hb⟩
  · obtain ⟨h1, _⟩ := h1; omega
  · obtain ⟨_, h1, _⟩ := h1; omega
  · obtain ⟨_, m, h1, _, rfl⟩ := h1; subst h1; exact ⟨rfl, hb⟩
theorem mulDivN_le (a b y K : Nat) (up : Bool) (h : a * b ≤ y * K) (h0 : 0 < y) : mulDivN a b y up ≤ K := by
  unfold mulDivN
  have e := Nat.div_add_mod (a * b) y
  have hm := Nat.mod_lt (a * b) h0
  by_cases hu : up = true ∧ 0 < a * b % y
  · rw [if_pos hu]
    have : y * (a * b / y) < y * K := by omega
    have := Nat.lt_of_mul_lt_mul_left this
    omega
  · rw [if_neg hu]
    have : y * (a * b / y) ≤ y * K := by omega
    exact Nat.le_of_mul_le_mul_left this h0
theorem percent_bad (n p : Int) (up : Bool) (w : World) (h : okR n = false ∨ okR p = false) :
    Calls Try.prog 32 #[.int .i64 n, .int .i64 p, .bool up] w fun e w' => e = .returned (.tuple #[.int .i64 0, .int .i64 1]) ∧ w = w' := by
  by_cases hn : okR n = true
  · have hp : okR p = false := by rw [hn] at h; simpa using h
    have h1 := okR_f hp
    have C1 := Lib.hid (some_t n w hn)
    clear h hn hp
    by_cases h0 : p < 0
    · clear h1
      go_enter Try.func32, Try.ntmps32
      go_wp2_with (go_at_call 57; (with_reducible refine C1.out.mono ?_); rintro e w' ⟨rfl, rfl⟩)
      go_ret2
      exact ⟨rfl, rfl⟩
    · have h2 : (1000000 : Int) < p := by omega
      clear h1
      go_enter Try.func32, Try.ntmps32
      go_wp2_with (go_at_call 57; (with_reducible refine C1.out.mono ?_); rintro e w' ⟨rfl, rfl⟩)
      go_ret2
      exact ⟨rfl, rfl⟩
  · have C1 := Lib.hid (some_f n w (by simpa using hn))
    clear h hn
    go_enter Try.func32, Try.ntmps32
    go_wp2_with (go_at_call 57; (with_reducible refine C1.out.mono ?_); rintro e w' ⟨rfl, rfl⟩)
    go_ret2
    exact ⟨rfl, rfl⟩
theorem percent_ok (n p : Nat) (up : Bool) (w : World) (h1 : okR n = true) (h2 : okR p = true) :
    Calls Try.prog 32 #[.int .i64 n, .int .i64 p, .bool up] w fun e w' => e = .returned (.tuple #[.int .i64 (mulDivN n p 1000 up), .int .i64 0]) ∧ Below w.heap.size w w' := by
  have b1 := okR_t h1
  have b2 := okR_t h2
  have C1 := Lib.hid (some_t n w h1)
  have hle : mulDivN n p 1000 up ≤ 1000000000 := mulDivN_le _ _ _ _ _ (by have := Nat.mul_le_mul (show n ≤ 1000000 by omega) (show p ≤ 1000000 by omega); omega) (by omega)
  have C2 := Lib.hid (muldiv_ok n p 1000 up w (by omega) (by omega) (by omega) (by omega) (by omega))
  rw [show ((1000 : Nat) : Int) = 1000 from rfl] at C2
  generalize mulDivN n p 1000 up = N at *
  clear h1 h2
  go_enter Try.func32, Try.ntmps32
  go_wp2_with (first | (go_at_call 57; (with_reducible refine C1.out.mono ?_); rintro e w' ⟨rfl, rfl⟩) | (go_at_call 38; refine C2.out.mono ?_; rintro e w' ⟨rfl, hb⟩))
  go_ret2
  exact ⟨rfl, hb⟩
/-- A share: by a whole that is 0, or else. -/
def ShareIs (p t : Nat) (w : World) (e : Ending) (w' : World) : Prop := ((t = 0 ∧ e = .returned (.tuple #[.int .i64 0, .int .i64 5])) ∨ (0 < t ∧ p * 1000 / t ≤ 1000 ∧ e = .returned (.tuple #[.int .i64 (p * 1000 / t : Nat), .int .i64 0]))) ∧ Below w.heap.size w w'
/-! ### Near -/
def okT (n : Int) : Bool := decide (0 ≤ n ∧ n ≤ 1000)
theorem okT_t {m : Int} (h : okT m = true) : 0 ≤ m ∧ m ≤ 1000 := by simpa [okT] using h
theorem okT_f {m : Int} (h : okT m = false) : m < 0 ∨ 1000 < m := by unfold okT at h; simp at h; omega
def offN (u t : Nat) : Nat := max u t - min u t
def nearB (u t n : Nat) : Bool := decide (offN u t * 1000 ≤ n * t)
theorem cmpZ_le {x y : Nat} : cmpZ x y ≤ 0 ↔ x ≤ y := by
  unfold cmpZ
  split
  · constructor <;> intro h <;> omega
  · split <;> constructor <;> intro h <;> omega
/-- Near, of numbers that may be: by a target that is 0, or else. -/
def NearIs (u t n : Nat) (w : World) (e : Ending) (w' : World) : Prop := ((t = 0 ∧ e = .returned (.tuple #[.bool false, .int .i64 5])) ∨ (0 < t ∧ e = .returned (.tuple #[.bool (nearB u t n), .int .i64 0]))) ∧ Below w.heap.size w w'
/-! ### The reference -/
theorem ceil_any (a b y m : Nat) (w : World) (ha : a < 18446744073709551616) (hb : b < 18446744073709551616) (hy : y < 18446744073709551616) (hm : m < 18446744073709551616) (h0 : 0 < y) :
    Calls Try.prog 33 #[.int .u64 a, .int .u64 b, .int .u64 y, .int .u64 m] w fun e w' => e = .returned (.int .u64 (min (mulDivN a b y true) m : Nat)) ∧ Below w.heap.size w w' := by
  go_enter Try.func33, Try.ntmps33
  go_wp2_with fail
  refine (of_any a w ha).mono ?_
  rintro e w4 ⟨x1, rfl, hx1, h4⟩
  go_wp2_with fail
  refine (of_any b w4 hb).mono ?_
  rintro e w5 ⟨x2, rfl, hx2, h5⟩
  go_wp2_with fail
  refine (prod_any a b _ _ w5 ha hb (hx1.below h5) hx2).mono ?_
  rintro e w6 ⟨x3, rfl, hx3, h6⟩
  go_wp2_with fail
  refine (of_any y w6 hy).mono ?_
  rintro e w7 ⟨x4, rfl, hx4, h7⟩
  go_wp2_with fail
  refine (div_any (bitsOf (a * b)) (bitsOf y) _ _ w7 (by have := len_prod ha hb; omega) (by have := len64 hy; omega) (bin_bitsOf _) (bin_bitsOf _) (hx3.below h7) hx4 (by rw [val_bitsOf]; exact h0)).mono ?_
  rintro e w8 ⟨x5, x6, rfl, hx5, hx6, h8⟩
  rw [val_bitsOf, val_bitsOf] at hx5 hx6
  have hb4 : Below w.heap.size w w8 := by
    have s4 := h4.size; have s5 := h5.size; have s6 := h6.size; have s7 := h7.size
    exact (((h4.trans (h5.mono (by omega))).trans (h6.mono (by omega))).trans (h7.mono (by omega))).trans (h8.mono (by omega))
  clear h4 h5 h6 h7 h8 hx1 hx2 hx3 hx4
  have hQ : a * b / y ≤ 340282366920938463426481119284349108225 := quo_small a b y _ ha hb rfl
  have lq : (bitsOf (a * b / y)).length ≤ 128 := length_bitsOf_le (by omega)
  have lr0 : (bitsOf (a * b % y)).length = 0 ↔ a * b % y = 0 := by
    have := length_bitsOf_iff (a * b % y) 0
    constructor
    · intro h; have := this.1 (by omega); simpa using this
    · intro h; have := this.2 (by simpa using h); omega
  have lr : (bitsOf (a * b % y)).length ≤ 64 := len64 (by have := Nat.mod_lt (a * b) h0; omega)
  obtain ⟨A6, c6, rfl, hc6⟩ := hx6.form
  have LQ := Lib.hid lq
  clear hQ lq hx6
  by_cases hr : 0 < a * b % y
  · have E := Lib.hid (mulDivN_up a b y _ rfl hr)
    have hpos : 0 < (bitsOf (a * b % y)).length := by
      rcases Nat.eq_zero_or_pos (bitsOf (a * b % y)).length with h | h
      · have := lr0.1 h; omega
      · exact h
    clear lr0 hr
    generalize (bitsOf (a * b % y)).length = lr' at *
    generalize a * b / y = Q at *
    go_wp2_with fail
    refine (of_any 1 w8 (by omega)).mono ?_
    rintro e w9 ⟨x7, rfl, hx7, h9⟩
    go_wp2_with fail
    refine (add_any (bitsOf Q) (bitsOf 1) _ _ w9 (by have := LQ.out; omega) (by have := len64 (n := 1) (by omega); omega) (bin_bitsOf _) (bin_bitsOf _) (hx5.below h9) hx7).mono ?_
    rintro e w10 ⟨x8, rfl, hx8, h10⟩
    rw [val_bitsOf, val_bitsOf] at hx8
    have hx8 := Bts.of_own hx8
    have LS := Lib.hid (length_add (n := 200) (x := Q) (y := 1) (by have := LQ.out; omega) (by have := len64 (n := 1) (by omega); omega))
    have hb5 : Below w.heap.size w w10 := by
      have s1 := hb4.size; have s4 := h9.size
      exact (hb4.trans (h9.mono s1)).trans (h10.mono (by omega))
    go_wp2_with fail
    refine (of_any m w10 hm).mono ?_
    rintro e w11 ⟨x9, rfl, hx9, h11⟩
    have hb6 := hb5.trans (h11.mono hb5.size)
    have hx8 := hx8.below h11
    go_wp2_with fail
    have CC := cmp_any (bitsOf (Q + 1)) (bitsOf m) _ _ w11 (by have := LS.out; omega) (by have := len64 hm; omega) (bin_bitsOf _) (bin_bitsOf _) hx8 hx9
    rw [val_bitsOf, val_bitsOf] at CC
    refine CC.mono ?_
    rintro e w12 ⟨rfl, rfl⟩
    clear CC
    by_cases hs : m < Q + 1
    · have e1 : cmpN (Q + 1) m = 1 := by unfold cmpN; rw [if_pos hs]
      have HF : Hid (min (mulDivN a b y true) m = m) := by show min _ _ = _; rw [E.out]; omega
      rw [e1]
      clear e1 hs
      go_wp2_with fail
      go_ret
      exact ⟨ret_int (by rw [HF.out]), hb6⟩
    · have e1 : cmpN (Q + 1) m ≤ 0 := by unfold cmpN; rw [if_neg hs]; split <;> omega
      have HF : Hid (min (mulDivN a b y true) m = Q + 1) := by show min _ _ = _; rw [E.out]; omega
      have HQ : Q + 1 < 18446744073709551616 := by omega
      generalize cmpN (Q + 1) m = sg at *
      clear hs
      go_wp2_with fail
      have CN := numb_any (Q + 1) _ w11 (by have := LS.out; omega) hx8
      rw [Nat.mod_eq_of_lt HQ] at CN
      refine CN.mono ?_
      rintro e w13 ⟨rfl, rfl⟩
      clear CN
      rw [← HF.out]
      go_wp2_with fail
      go_ret
      exact ⟨rfl, hb6⟩
  · have hz : a * b % y = 0 := by omega
    have E := Lib.hid (mulDivN_plain a b y true _ rfl (by simp [hz]))
    have hz2 := lr0.2 hz
    clear lr0 hr hz
    rw [hz2] at hc6 ⊢
    clear hz2 lr
    generalize a * b / y = Q at *
    go_wp2_with fail
    refine (of_any m w8 hm).mono ?_
    rintro e w11 ⟨x9, rfl, hx9, h11⟩
    have hb6 := hb4.trans (h11.mono hb4.size)
    have hx8 := hx5.below h11
    go_wp2_with fail
    have CC := cmp_any (bitsOf Q) (bitsOf m) _ _ w11 (by have := LQ.out; omega) (by have := len64 hm; omega) (bin_bitsOf _) (bin_bitsOf _) hx8 hx9
    rw [val_bitsOf, val_bitsOf] at CC
    refine CC.mono ?_
    rintro e w12 ⟨rfl, rfl⟩
    clear CC
    by_cases hs : m < Q
    · have e1 : cmpN Q m = 1 := by unfold cmpN; rw [if_pos hs]
      have HF : Hid (min (mulDivN a b y true) m = m) := by show min _ _ = _; rw [E.out]; omega
      rw [e1]
      clear e1 hs
      go_wp2_with fail
      go_ret
      exact ⟨ret_int (by rw [HF.out]), hb6⟩
    · have e1 : cmpN Q m ≤ 0 := by unfold cmpN; rw [if_neg hs]; split <;> omega
      have HF : Hid (min (mulDivN a b y true) m = Q) := by show min _ _ = _; rw [E.out]; omega
      have HQ : Q < 18446744073709551616 := by omega
      generalize cmpN Q m = sg at *
      clear hs
      go_wp2_with fail
      have CN := numb_any Q _ w11 (by have := LQ.out; omega) hx8
      rw [Nat.mod_eq_of_lt HQ] at CN
      refine CN.mono ?_
      rintro e w13 ⟨rfl, rfl⟩
      clear CN
      rw [← HF.out]
      go_wp2_with fail
      go_ret
      exact ⟨rfl, hb6⟩
theorem floor_any (a b y : Nat) (w : World) (ha : a < 18446744073709551616) (hb : b < 18446744073709551616) (hy : y < 18446744073709551616) (h0 : 0 < y) (hs : a * b / y < 18446744073709551616) :
    Calls Try.prog 34 #[.int .u64 a, .int .u64 b, .int .u64 y] w fun e w' => e = .returned (.int .u64 (a * b / y : Nat)) ∧ Below w.heap.size w w' := by
  go_enter Try.func34, Try.ntmps34
  go_wp2_with fail
  refine (of_any a w ha).mono ?_
  rintro e w4 ⟨x1, rfl, hx1, h4⟩
  go_wp2_with fail
  refine (of_any b w4 hb).mono ?_
  rintro e w5 ⟨x2, rfl, hx2, h5⟩
  go_wp2_with fail
  refine (prod_any a b _ _ w5 ha hb (hx1.below h5) hx2).mono ?_
  rintro e w6 ⟨x3, rfl, hx3, h6⟩
  go_wp2_with fail
  refine (of_any y w6 hy).mono ?_
  rintro e w7 ⟨x4, rfl, hx4, h7⟩
  go_wp2_with fail
  refine (div_any (bitsOf (a * b)) (bitsOf y) _ _ w7 (by have := len_prod ha hb; omega) (by have := len64 hy; omega) (bin_bitsOf _) (bin_bitsOf _) (hx3.below h7) hx4 (by rw [val_bitsOf]; exact h0)).mono ?_
  rintro e w8 ⟨x5, x6, rfl, hx5, hx6, h8⟩
  rw [val_bitsOf, val_bitsOf] at hx5 hx6
  have hb4 : Below w.heap.size w w8 := by
    have s4 := h4.size; have s5 := h5.size; have s6 := h6.size; have s7 := h7.size
    exact (((h4.trans (h5.mono (by omega))).trans (h6.mono (by omega))).trans (h7.mono (by omega))).trans (h8.mono (by omega))
  clear h4 h5 h6 h7 h8 hx1 hx2 hx3 hx4 hx6
  have CN := Lib.hid (numb_small (a * b / y) _ w8 hs hx5)
  have HQ : Hid (∀ Q : Nat, Q = a * b / y → Ending.returned (.int .u64 Q) = Ending.returned (.int .u64 (a * b / y : Nat))) := Lib.hid (fun Q h => by rw [h])
  generalize hQ : a * b / y = Q at CN
  have HQ2 := Lib.hid hQ
  clear hQ hs hx5
  go_wp2_with fail
  refine CN.out.mono ?_
  rintro e w13 ⟨rfl, rfl⟩
  go_wp2_with fail
  go_ret
  exact ⟨HQ.out Q HQ2.out.symm, hb4⟩
end Go.Proofs.Ytalmhnimmhgloaa