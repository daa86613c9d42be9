/-
  The plain law of trimtablaw39.ChartGrows: buckets' ends ascend; the bucket at which so much is reached is no earlier for more.
-/
import Derived.Lib.Hide
namespace Go.Proofs.YtjiliegfcljjhaaGreat
namespace ChartLaw
set_option linter.unusedVariables false
/-- The next end: rounded up, at most 2^53. -/
def nextE (g e : Nat) : Nat := min ((e * g + 999) / 1000) 9007199254740992
def endAt (g : Nat) : Nat → Nat → Nat
  | 0, e => e
  | i + 1, e => nextE g (endAt g i e)
theorem nextE_le (g e : Nat) : nextE g e ≤ 9007199254740992 := Nat.min_le_right _ _
theorem endAt_le (g e : Nat) (he : e ≤ 9007199254740992) : ∀ i, endAt g i e ≤ 9007199254740992
  | 0 => he
  | i + 1 => nextE_le _ _
theorem nextE_ge (g e : Nat) (hg : 1000 ≤ g) (he : e ≤ 9007199254740992) : e ≤ nextE g e := by
  unfold nextE
  refine Nat.le_min.2 ⟨?_, he⟩
  rw [Nat.le_div_iff_mul_le (by omega)]
  exact Nat.le_trans (Nat.mul_le_mul_left e hg) (by omega)
theorem endAt_mono (g e : Nat) (hg : 1000 ≤ g) (he : e ≤ 9007199254740992) (i : Nat) : ∀ d, endAt g i e ≤ endAt g (i + d) e
  | 0 => Nat.le_refl _
  | d + 1 => Nat.le_trans (endAt_mono g e hg he i d) (nextE_ge g _ hg (endAt_le g e he _))
theorem endAt_mono' (g e : Nat) (hg : 1000 ≤ g) (he : e ≤ 9007199254740992) {i j : Nat} (h : i ≤ j) : endAt g i e ≤ endAt g j e := by
  obtain ⟨d, rfl⟩ := Nat.le.dest h
  exact endAt_mono g e hg he i d
theorem sum_take_mono (ws : List Nat) {i j : Nat} (h : i ≤ j) : (ws.take i).sum ≤ (ws.take j).sum := by
  obtain ⟨d, rfl⟩ := Nat.le.dest h
  rw [List.take_add, List.sum_append]
  exact Nat.le_add_right _ _
theorem sum_take_le (ws : List Nat) (i : Nat) : (ws.take i).sum ≤ ws.sum := by
  have h := sum_take_mono ws (i := i) (j := max i ws.length) (Nat.le_max_left _ _)
  rwa [List.take_of_length_le (Nat.le_max_right _ _)] at h
/-- The bucket in which 'want' is reached. -/
structure Hits (ws : List Nat) (want i : Nat) : Prop where
  lt : i < ws.length
  ge : want ≤ (ws.take (i + 1)).sum
  less : (ws.take i).sum < want
theorem Hits.mono {ws : List Nat} {x y i j : Nat} (h : Hits ws x i) (k : Hits ws y j) (hxy : x ≤ y) : i ≤ j := by
  rcases Nat.lt_or_ge j i with hlt | hge
  · have h1 := sum_take_mono ws (i := j + 1) (j := i) hlt
    have := h.less
    have := k.ge
    omega
  · exact hge
/-- So much is wanted at t thousandths. -/
def want (total t : Nat) : Nat := max ((total * t + 999) / 1000) 1
theorem want_mono (total : Nat) {x y : Nat} (h : x ≤ y) : want total x ≤ want total y := by
  unfold want
  have : (total * x + 999) / 1000 ≤ (total * y + 999) / 1000 := Nat.div_le_div_right (Nat.add_le_add_right (Nat.mul_le_mul_left _ h) _)
  omega
theorem want_le (total t : Nat) (h0 : 0 < total) (h : t ≤ 1000) : want total t ≤ total := by
  unfold want
  have h1 : total * t ≤ total * 1000 := Nat.mul_le_mul_left _ h
  have : (total * t + 999) / 1000 ≤ total := by omega
  omega
theorem want_pos (total t : Nat) : 0 < want total t := by unfold want; omega
/-- Somewhere it is reached. -/
theorem hits_all (ws : List Nat) (w : Nat) (h0 : 0 < w) (h : w ≤ ws.sum) : ∃ i, Hits ws w i := by
  have key : ∀ n, n ≤ ws.length → w ≤ (ws.take n).sum → ∃ i, Hits ws w i := by
    intro n
    induction n with
    | zero => intro _ h; simp at h; omega
    | succ n ih =>
      intro hn hw
      rcases Nat.lt_or_ge (ws.take n).sum w with hlt | hge
      · exact ⟨n, hn, hw, hlt⟩
      · exact ih (by omega) hge
  exact key ws.length (Nat.le_refl _) (by rw [List.take_length]; exact h)
/-- The law: more thousandths tell no less. -/
theorem grows {ws : List Nat} {g e x y i j : Nat} (hg : 1000 ≤ g) (he : e ≤ 9007199254740992) (hxy : x ≤ y) (h : Hits ws (want ws.sum x) i) (k : Hits ws (want ws.sum y) j) : endAt g i e ≤ endAt g j e :=
  endAt_mono' g e hg he (h.mono k (want_mono _ hxy))
end ChartLaw
end Go.Proofs.YtjiliegfcljjhaaGreat
