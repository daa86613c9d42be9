/-
  The plain law of trimtablaw42.TrendLines: the samples that the law makes are samples of which a line is made, and the forecast is on their line.
-/
import Derived.Test.YtalmhnimmhgloaaTr2
namespace Go.Proofs.Ytalmhnimmhgloaa
open LineLaw
set_option linter.unusedVariables false
namespace LineLaw
/-- The k-th sample's tick. -/
def atN (a : Int) (gs : List Int) : Nat → Int
  | 0 => a
  | k + 1 => atN a gs k + 1 + gs[k]?.getD 0
def vN (V St a t : Int) : Int := V + St * (t - a)
def lin (V St a : Int) (gs : List Int) (k : Nat) : List Smp := (List.range k).map fun i => ⟨atN a gs i, vN V St a (atN a gs i)⟩
theorem lin_succ (V St a : Int) (gs : List Int) (k : Nat) : lin V St a gs (k + 1) = lin V St a gs k ++ [⟨atN a gs k, vN V St a (atN a gs k)⟩] := by simp [lin, List.range_succ]
theorem lin_length (V St a : Int) (gs : List Int) (k : Nat) : (lin V St a gs k).length = k := by simp [lin]
theorem lin_get (V St a : Int) (gs : List Int) (k i : Nat) (h : i < (lin V St a gs k).length) : (lin V St a gs k)[i] = ⟨atN a gs i, vN V St a (atN a gs i)⟩ := by simp [lin]
/-- Gaps that may be. -/
def Gap (gs : List Int) : Prop := ∀ k : Nat, 0 ≤ gs[k]?.getD 0 ∧ gs[k]?.getD 0 ≤ 255
theorem atN_bd (a : Int) (gs : List Int) (h : Gap gs) : ∀ k : Nat, a + k ≤ atN a gs k ∧ atN a gs k ≤ a + 256 * k
  | 0 => by simp [atN]
  | k + 1 => by have := atN_bd a gs h k; have := h k; simp only [atN]; omega
theorem vN_bd (V St a t : Int) (hV : 0 ≤ V ∧ V < 1000000) (hS : 0 ≤ St ∧ St < 1000) (h0 : a ≤ t) (h1 : t ≤ a + 65535) : 0 ≤ vN V St a t ∧ vN V St a t ≤ 66469465 := by
  unfold vN
  have := prod_bd (A := 999) (B := 65535) hS.1 (by omega) (show 0 ≤ t - a by omega) (by omega)
  omega
theorem first_lin (V St a : Int) (gs : List Int) (k : Nat) (h : 0 < k) : first (lin V St a gs k) = a := by
  rw [first_eq _ (by rw [lin_length]; exact h), lin_get]
  rfl
theorem lin_ok (V St a : Int) (gs : List Int) (k : Nat) (hV : 0 ≤ V ∧ V < 1000000) (hS : 0 ≤ St ∧ St < 1000) (ha : 0 ≤ a ∧ a ≤ 4294967295) (hg : Gap gs) (h2 : 2 ≤ k) (h3 : k ≤ 31) : OkL (lin V St a gs k) := by
  have hm : ∀ s ∈ lin V St a gs k, ∃ i : Nat, i < k ∧ s = ⟨atN a gs i, vN V St a (atN a gs i)⟩ := by
    intro s hs
    unfold lin at hs
    rw [List.mem_map] at hs
    obtain ⟨i, hi, rfl⟩ := hs
    exact ⟨i, List.mem_range.1 hi, rfl⟩
  have hb : ∀ i : Nat, i < k → a ≤ atN a gs i ∧ atN a gs i ≤ a + 7680 := fun i hi => by have := atN_bd a gs hg i; omega
  constructor
  · rw [lin_length]; exact h2
  · rw [lin_length]; omega
  · intro s hs; obtain ⟨i, hi, rfl⟩ := hm s hs; have := hb i hi; show 0 ≤ atN a gs i; omega
  · intro s hs; obtain ⟨i, hi, rfl⟩ := hm s hs; have := hb i hi; show atN a gs i ≤ _; omega
  · intro s hs; obtain ⟨i, hi, rfl⟩ := hm s hs; have := hb i hi; exact (vN_bd V St a _ hV hS (by omega) (by omega)).1
  · intro s hs; obtain ⟨i, hi, rfl⟩ := hm s hs; have := hb i hi; have := (vN_bd V St a (atN a gs i) hV hS (by omega) (by omega)).2; show vN V St a (atN a gs i) ≤ _; omega
  · intro i h
    rw [lin_get, lin_get]
    have := hg i
    show atN a gs i < atN a gs i + 1 + gs[i]?.getD 0
    omega
  · intro s hs; obtain ⟨i, hi, rfl⟩ := hm s hs; have := hb i hi; rw [first_lin _ _ _ _ _ (by omega)]; show atN a gs i - a ≤ _; omega
theorem lin_up (V St a : Int) (gs : List Int) (k : Nat) (hS : 0 ≤ St) (hg : Gap gs) (i : Nat) (h : i + 1 < (lin V St a gs k).length) : ((lin V St a gs k)[i]'(by omega)).v ≤ ((lin V St a gs k)[i + 1]).v := by
  rw [lin_get, lin_get]
  show V + St * (atN a gs i - a) ≤ V + St * (atN a gs i + 1 + gs[i]?.getD 0 - a)
  have := hg i
  have := Int.mul_le_mul_of_nonneg_left (show atN a gs i - a ≤ atN a gs i + 1 + gs[i]?.getD 0 - a by omega) hS
  omega
theorem lin_lo (V St a : Int) (gs : List Int) (k : Nat) (hS : 0 ≤ St) (hg : Gap gs) (i : Nat) (h : i < (lin V St a gs k).length) : V ≤ ((lin V St a gs k)[i]).v := by
  rw [lin_get]
  show V ≤ V + St * (atN a gs i - a)
  have := atN_bd a gs hg i
  have := Int.mul_nonneg hS (show 0 ≤ atN a gs i - a by omega)
  omega
/-- The forecast is on the line. -/
theorem lin_fc (V St a : Int) (gs : List Int) (k : Nat) (hV : 0 ≤ V ∧ V < 1000000) (hS : 0 ≤ St ∧ St < 1000) (ha : 0 ≤ a ∧ a ≤ 4294967295) (hg : Gap gs) (h2 : 2 ≤ k) (h3 : k ≤ 31) (t : Int) (t0 : 0 ≤ t) (t1 : t ≤ 65535) :
    fc (T (lin V St a gs k) (first (lin V St a gs k)) (lin V St a gs k).length) t = V + St * t := by
  have ok := lin_ok V St a gs k hV hS ha hg h2 h3
  have g := ok.good
  have on : On V St (T (lin V St a gs k) (first (lin V St a gs k)) (lin V St a gs k).length) := by
    unfold T
    refine On.sums _ (on0 V St) ?_
    intro p hp
    have hp := List.mem_of_mem_take hp
    unfold pts at hp
    rw [List.mem_map] at hp
    obtain ⟨s, hs, rfl⟩ := hp
    unfold lin at hs
    rw [List.mem_map] at hs
    obtain ⟨i, hi, rfl⟩ := hs
    rw [first_lin _ _ _ _ _ (by omega)]
    rfl
  generalize T (lin V St a gs k) (first (lin V St a gs k)) (lin V St a gs k).length = b at *
  have hp : 0 < b.n * b.under := Int.mul_pos (by have := g.n1; omega) (by have := g.u0; omega)
  have hv := vN_bd V St 0 t hV hS t0 (by omega)
  unfold vN at hv
  rw [Int.sub_zero] at hv
  unfold fc top
  rw [on.part, Int.max_eq_left (Int.mul_nonneg (Int.le_of_lt hp) hv.1), Int.mul_ediv_cancel_left _ (by omega)]
  omega
end LineLaw
end Go.Proofs.Ytalmhnimmhgloaa
