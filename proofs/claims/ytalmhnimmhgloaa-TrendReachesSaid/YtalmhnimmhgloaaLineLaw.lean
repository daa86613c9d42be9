/-
  The plain law of trimtablaw42.TrendLines: the least squares of points on a line are that line.
-/
import Derived.Lib.Hide
namespace Go.Proofs.Ytalmhnimmhgloaa
namespace LineLaw
set_option linter.unusedVariables false
/-- Count, sum of x, of y, of x*x, of x*y. -/
structure S where
  n : Int
  x : Int
  y : Int
  xx : Int
  xy : Int
def S0 : S := ⟨0, 0, 0, 0, 0⟩
def S.add (a : S) (x y : Int) : S := ⟨a.n + 1, a.x + x, a.y + y, a.xx + x * x, a.xy + x * y⟩
def sums : S → List (Int × Int) → S
  | a, [] => a
  | a, p :: l => sums (a.add p.1 p.2) l
def S.over (a : S) : Int := a.n * a.xy - a.x * a.y
def S.under (a : S) : Int := a.n * a.xx - a.x * a.x
/-- The sums of points on the line v + s * x. -/
structure On (v s : Int) (a : S) : Prop where
  y : a.y = a.n * v + s * a.x
  xy : a.xy = v * a.x + s * a.xx
theorem on0 (v s : Int) : On v s S0 := ⟨by simp [S0], by simp [S0]⟩
theorem On.add {v s : Int} {a : S} (h : On v s a) (x : Int) : On v s (a.add x (v + s * x)) := by
  obtain ⟨h1, h2⟩ := h
  constructor
  · simp only [S.add]; grind
  · simp only [S.add]; grind
theorem On.sums {v s : Int} : ∀ (l : List (Int × Int)) {a : S}, On v s a → (∀ p ∈ l, p.2 = v + s * p.1) → On v s (sums a l)
  | [], _, h, _ => h
  | p :: l, a, h, k => by
    refine On.sums l (a := a.add p.1 p.2) ?_ fun q hq => k q (List.mem_cons_of_mem _ hq)
    rw [k p List.mem_cons_self]
    exact h.add p.1
theorem On.over {v s : Int} {a : S} (h : On v s a) : a.over = s * a.under := by
  obtain ⟨h1, h2⟩ := h
  unfold S.over S.under
  rw [h1, h2]
  grind
/-- What is divided by n * under. -/
theorem On.part {v s : Int} {a : S} (h : On v s a) (t : Int) : a.y * a.under + a.over * (a.n * t - a.x) = (a.n * a.under) * (v + s * t) := by
  rw [h.over, h.y]
  grind
/-- Sum of (t - x)^2. -/
def S.far (a : S) (t : Int) : Int := a.n * (t * t) - 2 * t * a.x + a.xx
theorem under_add (a : S) (x y : Int) : (a.add x y).under = a.under + a.far x := by
  simp only [S.under, S.add, S.far]
  grind
theorem far_add (a : S) (x y t : Int) : (a.add x y).far t = a.far t + (t - x) * (t - x) := by
  simp only [S.add, S.far]
  grind
theorem sq_nonneg (x : Int) : 0 ≤ x * x := by
  rcases Int.le_total 0 x with h | h
  · exact Int.mul_nonneg h h
  · exact Int.mul_nonneg_of_nonpos_of_nonpos h h
/-- All squares together are never below none. -/
structure Pos (a : S) : Prop where
  far : ∀ t, 0 ≤ a.far t
  under : 0 ≤ a.under
theorem pos0 : Pos S0 := ⟨fun t => by simp [S0, S.far], by simp [S0, S.under]⟩
theorem Pos.add {a : S} (h : Pos a) (x y : Int) : Pos (a.add x y) := ⟨fun t => by rw [far_add]; have := h.far t; have := sq_nonneg (t - x); omega, by rw [under_add]; have := h.far x; have := h.under; omega⟩
theorem Pos.sums : ∀ (l : List (Int × Int)) {a : S}, Pos a → Pos (sums a l)
  | [], _, h => h
  | p :: l, a, h => Pos.sums l (h.add p.1 p.2)
theorem under_grows : ∀ (l : List (Int × Int)) {a : S}, Pos a → a.under ≤ (sums a l).under
  | [], _, _ => Int.le_refl _
  | p :: l, a, h => by
    refine Int.le_trans ?_ (under_grows l (h.add p.1 p.2))
    rw [under_add]
    have := h.far p.1
    omega
theorem under_two (p q : Int × Int) (l : List (Int × Int)) (h : p.1 < q.1) : 0 < (sums S0 (p :: q :: l)).under := by
  refine Int.lt_of_lt_of_le ?_ (under_grows l ((pos0.add p.1 p.2).add q.1 q.2))
  have hd : 0 < q.1 - p.1 := by omega
  have := Int.mul_pos hd hd
  simp only [S.under, S.add, S0]
  grind
end LineLaw
end Go.Proofs.Ytalmhnimmhgloaa
