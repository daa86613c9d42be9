/-
  The walks of package wide and of the functions of math/bits and cmp below it: each returns what exact arithmetic says, for every number of 64 bits; nothing that was there turns.
-/
import Derived.Test.YtjiliegfcljjhaaGreatDivw
import Derived.Test.YtjiliegfcljjhaaGreatMem
import Derived.RegionTactic
import Derived.Deep.QuietTactic
import Derived.BigQuiet
import Derived.Deep.RegionHeld3
import Derived.Laws.Externs
namespace Go.Proofs.YtjiliegfcljjhaaGreat
open Go.RowKit Go.Proofs.Mem
set_option linter.unusedVariables false
set_option linter.unusedSimpArgs false

/-- A wide number as it is handed on: 128 bits in two words. -/
def WideIs (N : Nat) (w : World) (e : Ending) (w' : World) : Prop := ∃ h l : Nat, e = .returned (.agg #[.int .u64 h, .int .u64 l]) ∧ N = h * 18446744073709551616 + l ∧ h < 18446744073709551616 ∧ l < 18446744073709551616 ∧ Below w.heap.size w w'

theorem wof_any (a b : Nat) (w : World) (ha : a < 18446744073709551616) (hb : b < 18446744073709551616) :
    Calls Tryz.prog 49 #[.int .u64 a, .int .u64 b] w (WideIs (a * b) w) := by
  have hlt : a * b / 18446744073709551616 < 18446744073709551616 := by
    rw [Nat.div_lt_iff_lt_mul (by omega)]
    exact Nat.mul_lt_mul'' ha hb
  have e := Nat.div_add_mod' (a * b) 18446744073709551616
  have hm : a * b % 18446744073709551616 < 18446744073709551616 := Nat.mod_lt _ (by omega)
  have C := Lib.hid (fun w1 => Tryz.bits_Mul64 a b ha hb w1)
  generalize a * b / 18446744073709551616 = h at *
  generalize a * b % 18446744073709551616 = l at *
  have HE := Lib.hid e
  have H1 := Lib.hid hlt
  have H2 := Lib.hid hm
  clear e hlt hm ha hb
  go_enter Tryz.func49, Tryz.ntmps49
  go_wp2_with (go_at_call 77; refine (C.out _).mono ?_; rintro e w' ⟨rfl, rfl⟩)
  exact bodyPost_ret (v := .agg #[.int .u64 h, .int .u64 l]) (by simp [results, Tryz.results49, go_sem]) rfl ⟨h, l, rfl, HE.out.symm, H1.out, H2.out, (Below.refl _ _).alloc (Nat.le_refl _) _⟩

/-- Quotient and rest, the world as it was but for draws. -/
def QuoRemD (N y : Nat) (w : World) (e : Ending) (w' : World) : Prop := ∃ q r : Nat, e = .returned (.tuple #[.int .u64 q, .int .u64 r]) ∧ N = q * y + r ∧ r < y ∧ q < 18446744073709551616 ∧ ∃ n, w' = w.drewN n
theorem quo0_rule (l y : Nat) (hl : l < 18446744073709551616) : (l : Int) / (y : Int) = ((l / y : Nat) : Int) ∧ (l : Int) % (y : Int) = ((l % y : Nat) : Int) := ⟨by push_cast; rfl, by push_cast; rfl⟩
theorem div64_zero (l y : Nat) (w : World) (hl : l < 18446744073709551616) (hy : y < 18446744073709551616) (h0 : 0 < y) :
    Calls Tryz.prog 101 #[.int .u64 0, .int .u64 l, .int .u64 y] w (QuoRemD l y w) := by
  obtain ⟨e1, e2⟩ := quo0_rule l y hl
  have e := Nat.div_add_mod' l y
  have hm := Nat.mod_lt l h0
  have hq := Nat.div_le_self l y
  generalize l / y = q at *
  generalize l % y = r at *
  have HE := Lib.hid e
  have h1 : ((y : Int) == 0) = false := by simp; omega
  have h2 : (1 : Int) ≤ y := by omega
  clear e
  go_enter Tryz.func101, Tryz.ntmps101
  go_wp2_with fail
  go_quiet (fail)
  go_wp2_with fail
  go_ret2
  exact ⟨q, r, ret_two rfl e2, HE.out.symm, hm, by omega, _, rfl⟩
theorem div64_all (h l y : Nat) (w : World) (hl : l < 18446744073709551616) (hy : y < 18446744073709551616) (hlt : h < y) :
    Calls Tryz.prog 101 #[.int .u64 h, .int .u64 l, .int .u64 y] w (QuoRemD (h * 18446744073709551616 + l) y w) := by
  rcases Nat.eq_zero_or_pos h with h0 | h0
  · subst h0
    rw [Nat.zero_mul, Nat.zero_add]
    exact div64_zero l y w hl hy hlt
  · refine (div64_any h l y w hy hl hlt h0).mono ?_
    rintro e w' ⟨q, r, rfl, h1, h2, h3, rfl⟩
    exact ⟨q, r, rfl, h1, h2, h3, 0, rfl⟩
theorem below_drewN {B : Nat} {a w : World} (h : Below B a w) (n : Nat) : Below B a (w.drewN n) := ⟨h.os, h.tape, h.output, h.size, h.block⟩
theorem cell_drewN (w : World) (n : Nat) (a : Addr) : (w.drewN n).cell? a = w.cell? a := rfl
/-- A wide quotient and a rest. -/
def WideDiv (N y : Nat) (w : World) (e : Ending) (w' : World) : Prop := ∃ qh ql r : Nat, e = .returned (.tuple #[.agg #[.int .u64 qh, .int .u64 ql], .int .u64 r, .int .i64 0]) ∧ N = (qh * 18446744073709551616 + ql) * y + r ∧ r < y ∧ qh < 18446744073709551616 ∧ ql < 18446744073709551616 ∧ Below w.heap.size w w'
theorem wdiv_none (h l : Nat) (w : World) :
    Calls Tryz.prog 74 #[.agg #[.int .u64 h, .int .u64 l], .int .u64 0] w fun e w' => e = .returned (.tuple #[.agg #[.int .u64 0, .int .u64 0], .int .u64 0, .int .i64 5]) ∧ Below w.heap.size w w' := by
  go_enter Tryz.func74, Tryz.ntmps74
  go_wp2_with fail
  exact bodyPost_ret (v := .tuple #[.agg #[.int .u64 0, .int .u64 0], .int .u64 0, .int .i64 5]) (by simp [results, Tryz.results74, go_sem]) rfl ⟨rfl, ((Below.refl _ _).alloc (Nat.le_refl _) _).alloc (by simp) _⟩
theorem wdiv_arith' (K h l y qh rh q r : Nat) (e1 : qh * y + rh = h) (e2 : rh * K + l = q * y + r) : h * K + l = (qh * K + q) * y + r := by
  subst e1
  rw [Nat.add_mul, Nat.add_mul, Nat.mul_right_comm, Nat.add_assoc, Nat.add_assoc, e2]
theorem wdiv_arith (h l y qh rh q r : Nat) (e1 : qh * y + rh = h) (e2 : rh * 18446744073709551616 + l = q * y + r) : h * 18446744073709551616 + l = (qh * 18446744073709551616 + q) * y + r := wdiv_arith' _ h l y qh rh q r e1 e2
theorem wdiv_any (h l y : Nat) (w : World) (hh : h < 18446744073709551616) (hl : l < 18446744073709551616) (hy : y < 18446744073709551616) (h0 : 0 < y) :
    Calls Tryz.prog 74 #[.agg #[.int .u64 h, .int .u64 l], .int .u64 y] w (WideDiv (h * 18446744073709551616 + l) y w) := by
  have h1 : ((y : Int) == 0) = false := by simp; omega
  have h2 : (1 : Int) ≤ y := by omega
  obtain ⟨e1, e2⟩ := quo0_rule h y hh
  have e := Nat.div_add_mod' h y
  have hm := Nat.mod_lt h h0
  have hq := Nat.div_le_self h y
  generalize h / y = qh at *
  generalize h % y = rh at *
  have HE := Lib.hid e
  clear e
  go_enter Tryz.func74, Tryz.ntmps74
  go_wp2_with fail
  go_quiet (fail)
  go_wp2_with (go_at_call 101; refine (div64_all rh l y _ hl hy hm).mono ?_; rintro e w1 ⟨q, r, rfl, d1, d2, d3, n1, rfl⟩; have D1 := Lib.hid d1; clear d1)
  refine bodyPost_ret (v := .tuple #[.agg #[.int .u64 qh, .int .u64 q], .int .u64 r, .int .i64 0]) (by simp [results, Tryz.results74, go_sem]) rfl ⟨qh, q, r, rfl, wdiv_arith h l y qh rh q r HE.out D1.out, d2, by omega, d3, ?_⟩
  exact ((below_drewN (((Below.refl _ _).alloc (Nat.le_refl _) _).alloc (by simp) _) _).setCell (by simp) _).setCell (by simp) _

/-! ### Sums and comparisons -/
theorem add64_run (x y c : Nat) (hx : x < 18446744073709551616) (hy : y < 18446744073709551616) (hc : c ≤ 1) (w : World) : (callFunc 102 #[.int .u64 x, .int .u64 y, .int .u64 c]).run Tryz.prog w =
    .ok (.value (.tuple #[.int .u64 (((x + y + c) % 18446744073709551616 : Nat) : Int), .int .u64 (((x + y + c) / 18446744073709551616 : Nat) : Int)])) w := by
  rw [run_callFunc_extern Tryz.func102 (by kernel_rfl) (by kernel_rfl) (by kernel_rfl) (e := add64Entry) (by kernel_rfl), run_add64 x y c (by omega) (by omega) (by omega) (by omega)]
  simp only [Result.andThen]
  congr 5 <;> omega
/-- A sum of two wide numbers, and what goes beyond. -/
def WideSum (N : Nat) (w : World) (e : Ending) (w' : World) : Prop := ∃ h l c : Nat, e = .returned (.tuple #[.agg #[.int .u64 h, .int .u64 l], .bool ((c : Int) == 1)]) ∧ N = c * 340282366920938463463374607431768211456 + h * 18446744073709551616 + l ∧ h < 18446744073709551616 ∧ l < 18446744073709551616 ∧ c ≤ 1 ∧ Below w.heap.size w w'
theorem wadd_any (ah al bh bl : Nat) (w : World) (h1 : ah < 18446744073709551616) (h2 : al < 18446744073709551616) (h3 : bh < 18446744073709551616) (h4 : bl < 18446744073709551616) :
    Calls Tryz.prog 75 #[.agg #[.int .u64 ah, .int .u64 al], .agg #[.int .u64 bh, .int .u64 bl]] w (WideSum (ah * 18446744073709551616 + al + (bh * 18446744073709551616 + bl)) w) := by
  have r1 := fun w1 => add64_run al bl 0 h2 h4 (by omega) w1
  rw [Int.natCast_zero] at r1
  obtain ⟨l, hl⟩ : ∃ l, l = (al + bl + 0) % 18446744073709551616 := ⟨_, rfl⟩
  obtain ⟨c, hc⟩ : ∃ c, c = (al + bl + 0) / 18446744073709551616 := ⟨_, rfl⟩
  rw [← hl, ← hc] at r1
  have r2 := fun w1 => add64_run ah bh c h1 h3 (by omega) w1
  obtain ⟨h, hh⟩ : ∃ h, h = (ah + bh + c) % 18446744073709551616 := ⟨_, rfl⟩
  obtain ⟨d, hd⟩ : ∃ d, d = (ah + bh + c) / 18446744073709551616 := ⟨_, rfl⟩
  rw [← hh, ← hd] at r2
  have F : ah * 18446744073709551616 + al + (bh * 18446744073709551616 + bl) = d * 340282366920938463463374607431768211456 + h * 18446744073709551616 + l ∧ h < 18446744073709551616 ∧ l < 18446744073709551616 ∧ d ≤ 1 := by omega
  have HF := Lib.hid F
  clear F hl hc hh hd h1 h2 h3 h4
  go_enter Tryz.func75, Tryz.ntmps75
  go_wp2_with fail
  refine bodyPost_ret (v := .tuple #[.agg #[.int .u64 h, .int .u64 l], .bool ((d : Int) == 1)]) (by simp [results, Tryz.results75, go_sem]) rfl ⟨h, l, d, rfl, HF.out.1, HF.out.2.1, HF.out.2.2.1, HF.out.2.2.2, ?_⟩
  exact (((Below.refl _ _).alloc (Nat.le_refl _) _).alloc (by simp) _).alloc (by simp; omega) _
def cmpZ (x y : Nat) : Int := if y < x then 1 else if x < y then -1 else 0
def orZ (a b : Int) : Int := if a = 0 then b else a
theorem orZ_0 (b : Int) : orZ 0 b = b := rfl
theorem orZ_1 (a b : Int) (h : ¬ a = 0) : orZ a b = a := by unfold orZ; rw [if_neg h]
theorem cmp_wide (ah al bh bl : Nat) (h2 : al < 18446744073709551616) (h4 : bl < 18446744073709551616) : orZ (cmpZ ah bh) (cmpZ al bl) = cmpZ (ah * 18446744073709551616 + al) (bh * 18446744073709551616 + bl) := by
  unfold orZ cmpZ
  rcases Nat.lt_trichotomy ah bh with h | h | h
  · rw [if_neg (by omega : ¬ bh < ah), if_pos h, if_neg (by omega), if_neg (by omega), if_pos (by omega)]
  · subst h
    simp only [Nat.lt_irrefl, if_false, if_true]
    rcases Nat.lt_trichotomy al bl with k | k | k
    · rw [if_neg (by omega), if_pos k, if_neg (by omega), if_pos (by omega)]
    · subst k; simp
    · rw [if_pos k, if_pos (by omega)]
  · rw [if_pos h, if_neg (by omega), if_pos (by omega)]
/-- A product, divided, down or up; the number of the error: 0, 4 (too much), 5 (by nothing). -/
def mulDivN (a b y : Nat) (up : Bool) : Nat := a * b / y + if up = true ∧ 0 < a * b % y then 1 else 0
def MulDivIs (a b y : Nat) (up : Bool) (w : World) (e : Ending) (w' : World) : Prop :=
  ((y = 0 ∧ e = .returned (.tuple #[.int .u64 0, .int .i64 5])) ∨ (0 < y ∧ 18446744073709551616 ≤ mulDivN a b y up ∧ e = .returned (.tuple #[.int .u64 0, .int .i64 4])) ∨
    (0 < y ∧ ∃ n : Nat, n = mulDivN a b y up ∧ n < 18446744073709551616 ∧ e = .returned (.tuple #[.int .u64 n, .int .i64 0]))) ∧ Below w.heap.size w w'
theorem muldiv_none (a b : Nat) (up : Bool) (w : World) (ha : a < 18446744073709551616) (hb : b < 18446744073709551616) :
    Calls Tryz.prog 43 #[.int .u64 a, .int .u64 b, .int .u64 0, .bool up] w (MulDivIs a b 0 up w) := by
  go_enter Tryz.func43, Tryz.ntmps43
  go_wp2_with fail
  refine (wof_any a b w ha hb).mono ?_
  rintro e w1 ⟨h, l, rfl, e1, k1, k2, hb1⟩
  clear e1
  go_wp2_with fail
  refine (wdiv_none h l w1).mono ?_
  rintro e w2 ⟨rfl, hb2⟩
  go_wp2_with fail
  go_ret2
  refine ⟨.inl ⟨rfl, rfl⟩, ?_⟩
  have hb3 := hb1.trans (hb2.mono hb1.size)
  have := hb3.size
  (repeat (first | exact Below.refl _ _ | assumption | refine Below.drew ?_ | refine below_drewN ?_ _ | refine Below.alloc ?_ (by first | omega | (simp; done) | (simp; omega)) _ | refine Below.setCell ?_ (by first | omega | (simp; done) | (simp; omega)) _))
theorem mulDiv_arith (N y Q r : Nat) (h : N = Q * y + r) (hr : r < y) : N / y = Q ∧ N % y = r := by
  subst h
  have hy : 0 < y := by omega
  rw [Nat.mul_comm, Nat.mul_add_div hy, Nat.div_eq_of_lt hr, Nat.mul_add_mod, Nat.mod_eq_of_lt hr]
  exact ⟨rfl, rfl⟩
theorem quo_small' (a b y Q K : Nat) (ha : a ≤ K) (hb : b ≤ K) (h : a * b / y = Q) : Q ≤ K * K := by
  have h1 : a * b ≤ K * K := Nat.mul_le_mul ha hb
  have h2 := Nat.div_le_self (a * b) y
  omega
theorem quo_small (a b y Q : Nat) (ha : a < 18446744073709551616) (hb : b < 18446744073709551616) (h : a * b / y = Q) : Q ≤ 340282366920938463426481119284349108225 :=
  by
  have e : 18446744073709551615 * 18446744073709551615 = 340282366920938463426481119284349108225 := by rfl
  rw [← e]
  exact quo_small' a b y Q 18446744073709551615 (by clear h e; omega) (by clear h e; omega) h
theorem sum_one' (L M Q c t : Nat) (hM : L + 1 < M) (hQ : Q ≤ L) (h : Q + 1 = c * M + t) : Q + 1 = t := by
  rcases Nat.eq_zero_or_pos c with h0 | h0
  · subst h0; omega
  · have := Nat.le_mul_of_pos_left M h0
    omega
theorem sum_one (qh ql sh sl c : Nat) (hQ : qh * 18446744073709551616 + ql ≤ 340282366920938463426481119284349108225) (h : qh * 18446744073709551616 + ql + 1 = c * 340282366920938463463374607431768211456 + sh * 18446744073709551616 + sl) :
    qh * 18446744073709551616 + ql + 1 = sh * 18446744073709551616 + sl :=
  sum_one' _ _ _ c _ (by decide) hQ (h.trans (Nat.add_assoc _ _ _))
theorem wadd_one (ah al : Nat) (w : World) (h1 : ah < 18446744073709551616) (h2 : al < 18446744073709551616) :
    Calls Tryz.prog 75 #[.agg #[.int .u64 ah, .int .u64 al], .agg #[.int .u64 0, .int .u64 1]] w (WideSum (ah * 18446744073709551616 + al + 1) w) := by
  have := wadd_any ah al 0 1 w h1 h2 (by omega) (by omega)
  simpa using this
theorem mulDivN_plain (a b y : Nat) (up : Bool) (r : Nat) (hr : a * b % y = r) (h : ¬ (up = true ∧ 0 < r)) : mulDivN a b y up = a * b / y := by
  unfold mulDivN
  rw [hr, if_neg h, Nat.add_zero]
theorem mulDivN_up (a b y r : Nat) (hr : a * b % y = r) (h : 0 < r) : mulDivN a b y true = a * b / y + 1 := by
  unfold mulDivN
  rw [hr, if_pos ⟨rfl, h⟩]
theorem muldiv_some (a b y : Nat) (up : Bool) (w : World) (ha : a < 18446744073709551616) (hb : b < 18446744073709551616) (hy : y < 18446744073709551616) (h0 : 0 < y) :
    Calls Tryz.prog 43 #[.int .u64 a, .int .u64 b, .int .u64 y, .bool up] w (MulDivIs a b y up w) := by
  go_enter Tryz.func43, Tryz.ntmps43
  go_wp2_with fail
  refine (wof_any a b w ha hb).mono ?_
  rintro e w1 ⟨h, l, rfl, e1, k1, k2, hb1⟩
  go_wp2_with fail
  refine (wdiv_any h l y w1 k1 k2 hy h0).mono ?_
  rintro e w2 ⟨qh, ql, r, rfl, d1, d2, d3, d4, hb2⟩
  rw [← e1] at d1
  have hb3 := hb1.trans (hb2.mono hb1.size)
  have A := Lib.hid (mulDiv_arith _ _ _ _ d1 d2)
  have B := Lib.hid (quo_small a b y _ ha hb (mulDiv_arith _ _ _ _ d1 d2).1)
  have hsz := hb3.size
  clear e1 d1 hb1 hb2 d2
  by_cases hup : up = true ∧ 0 < r
  · obtain ⟨rfl, hr⟩ := hup
    go_wp2_with fail
    refine (wadd_one qh ql _ d3 d4).mono ?_
    rintro e w4 ⟨sh, sl, c, rfl, s1, s2, s3, s4, hb4⟩
    have hb5 : Below w.heap.size w w4 := Below.trans (b := w2.alloc _) (hb3.alloc hsz _) (hb4.mono (by simp; omega))
    have hcell := hb4.size
    simp only [World.size_alloc] at hcell
    have S := Lib.hid (sum_one qh ql sh sl c B.out s1)
    clear s1
    have c0 := hb4.cell (p := ⟨w2.heap.size, 0, none⟩) (by simp)
    have c1 := hb4.cell (p := ⟨w2.heap.size, 1, none⟩) (by simp)
    have f0 := hb4.frozen (p := ⟨w2.heap.size, 0, none⟩) (by simp)
    have f1 := hb4.frozen (p := ⟨w2.heap.size, 1, none⟩) (by simp)
    rw [World.cell?_alloc_at _ _ _ _ rfl] at c0 c1
    rw [World.frozen?_alloc_at _ _ _ _ rfl] at f0 f1
    rcases Nat.eq_zero_or_pos sh with hq | hq
    · subst hq
      have E : Hid (sl = mulDivN a b y true) := by show sl = _; rw [mulDivN_up a b y r A.out.2 hr, A.out.1, S.out]; omega
      go_wp2_with fail
      go_ret2
      refine ⟨.inr (.inr ⟨h0, sl, E.out, s3, rfl⟩), ?_⟩
      (repeat (first | exact Below.refl _ _ | assumption | refine Below.drew ?_ | refine below_drewN ?_ _ | refine Below.alloc ?_ (by first | omega | (simp; done) | (simp; omega)) _ | refine Below.setCell ?_ (by first | omega | (simp; done) | (simp; omega)) _))
    · have hq1 : (0 : Int) < sh := by omega
      have E : Hid (18446744073709551616 ≤ mulDivN a b y true) := by show _ ≤ mulDivN _ _ _ _; rw [mulDivN_up a b y r A.out.2 hr, A.out.1, S.out]; omega
      go_wp2_with fail
      go_ret2
      refine ⟨.inr (.inl ⟨h0, E.out, rfl⟩), ?_⟩
      (repeat (first | exact Below.refl _ _ | assumption | refine Below.drew ?_ | refine below_drewN ?_ _ | refine Below.alloc ?_ (by first | omega | (simp; done) | (simp; omega)) _ | refine Below.setCell ?_ (by first | omega | (simp; done) | (simp; omega)) _))
  · have hN := Lib.hid (mulDivN_plain a b y up r A.out.2 hup)
    rcases Nat.eq_zero_or_pos qh with hq | hq
    · subst hq
      have E : Hid (ql = mulDivN a b y up) := by show ql = _; rw [hN.out, A.out.1]; omega
      cases up
      · go_wp2_with fail
        go_ret2
        refine ⟨.inr (.inr ⟨h0, ql, E.out, d4, rfl⟩), ?_⟩
        (repeat (first | exact Below.refl _ _ | assumption | refine Below.drew ?_ | refine below_drewN ?_ _ | refine Below.alloc ?_ (by first | omega | (simp; done) | (simp; omega)) _ | refine Below.setCell ?_ (by first | omega | (simp; done) | (simp; omega)) _))
      · obtain rfl : r = 0 := by have : ¬ (0 < r) := fun h => hup ⟨rfl, h⟩; omega
        go_wp2_with fail
        go_ret2
        refine ⟨.inr (.inr ⟨h0, ql, E.out, d4, rfl⟩), ?_⟩
        (repeat (first | exact Below.refl _ _ | assumption | refine Below.drew ?_ | refine below_drewN ?_ _ | refine Below.alloc ?_ (by first | omega | (simp; done) | (simp; omega)) _ | refine Below.setCell ?_ (by first | omega | (simp; done) | (simp; omega)) _))
    · have hq1 : (0 : Int) < qh := by omega
      have E : Hid (18446744073709551616 ≤ mulDivN a b y up) := by show _ ≤ mulDivN _ _ _ _; rw [hN.out, A.out.1]; omega
      cases up
      · go_wp2_with fail
        go_ret2
        refine ⟨.inr (.inl ⟨h0, E.out, rfl⟩), ?_⟩
        (repeat (first | exact Below.refl _ _ | assumption | refine Below.drew ?_ | refine below_drewN ?_ _ | refine Below.alloc ?_ (by first | omega | (simp; done) | (simp; omega)) _ | refine Below.setCell ?_ (by first | omega | (simp; done) | (simp; omega)) _))
      · obtain rfl : r = 0 := by have : ¬ (0 < r) := fun h => hup ⟨rfl, h⟩; omega
        go_wp2_with fail
        go_ret2
        refine ⟨.inr (.inl ⟨h0, E.out, rfl⟩), ?_⟩
        (repeat (first | exact Below.refl _ _ | assumption | refine Below.drew ?_ | refine below_drewN ?_ _ | refine Below.alloc ?_ (by first | omega | (simp; done) | (simp; omega)) _ | refine Below.setCell ?_ (by first | omega | (simp; done) | (simp; omega)) _))
end Go.Proofs.YtjiliegfcljjhaaGreat
