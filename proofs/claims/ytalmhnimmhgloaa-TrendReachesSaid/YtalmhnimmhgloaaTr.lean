/-
  Plain words on package trend's samples, their sums with their bounds, and the forecast. Nothing of the program's own.
-/
import Derived.Test.YtalmhnimmhgloaaLineLaw
namespace Go.Proofs.Ytalmhnimmhgloaa
namespace LineLaw
set_option linter.unusedVariables false
/-- A sample. -/
structure Smp where
  at' : Int
  v : Int
def pts (l : List Smp) (f : Int) : List (Int × Int) := l.map fun s => (s.at' - f, s.v)
theorem sums_snoc : ∀ (l : List (Int × Int)) (a : S) (p : Int × Int), sums a (l ++ [p]) = (sums a l).add p.1 p.2
  | [], _, _ => rfl
  | q :: l, a, p => sums_snoc l (a.add q.1 q.2) p
/-- Points that are small. -/
def Few (l : List (Int × Int)) : Prop := ∀ p ∈ l, 0 ≤ p.1 ∧ p.1 ≤ 65536 ∧ 0 ≤ p.2 ∧ p.2 ≤ 4294967296
structure Bd (k : Int) (a : S) : Prop where
  n : a.n = k
  x0 : 0 ≤ a.x
  x1 : a.x ≤ k * 65536
  y0 : 0 ≤ a.y
  y1 : a.y ≤ k * 4294967296
  xx0 : 0 ≤ a.xx
  xx1 : a.xx ≤ k * 4294967296
  xy0 : 0 ≤ a.xy
  xy1 : a.xy ≤ k * 281474976710656
theorem prod_bd {a b A B : Int} (a0 : 0 ≤ a) (a1 : a ≤ A) (b0 : 0 ≤ b) (b1 : b ≤ B) : 0 ≤ a * b ∧ a * b ≤ A * B :=
  ⟨Int.mul_nonneg a0 b0, Int.mul_le_mul a1 b1 b0 (Int.le_trans a0 a1)⟩
theorem Bd.add {k : Int} {a : S} (h : Bd k a) {x y : Int} (x0 : 0 ≤ x) (x1 : x ≤ 65536) (y0 : 0 ≤ y) (y1 : y ≤ 4294967296) : Bd (k + 1) (a.add x y) := by
  obtain ⟨h1, h2, h3, h4, h5, h6, h7, h8, h9⟩ := h
  have p1 := prod_bd x0 x1 x0 x1
  have p2 := prod_bd x0 x1 y0 y1
  constructor <;> simp only [S.add] <;> omega
theorem bd0 : Bd 0 S0 := by constructor <;> simp [S0]
theorem bd_sums : ∀ (l : List (Int × Int)) {k : Int} {a : S}, Bd k a → Few l → Bd (k + l.length) (sums a l)
  | [], k, a, h, _ => by simpa [sums] using h
  | p :: l, k, a, h, hf => by
    obtain ⟨p0, p1, p2, p3⟩ := hf p List.mem_cons_self
    have := bd_sums l (h.add p0 p1 p2 p3) fun q hq => hf q (List.mem_cons_of_mem _ hq)
    rw [List.length_cons]
    have e : k + ((l.length + 1 : Nat) : Int) = k + 1 + (l.length : Int) := by omega
    rw [e]
    exact this
theorem bd_of (l : List (Int × Int)) (hf : Few l) : Bd l.length (sums S0 l) := by
  have := bd_sums l bd0 hf
  rwa [Int.zero_add] at this
def T (l : List Smp) (f : Int) (k : Nat) : S := sums S0 ((pts l f).take k)
theorem T_succ (l : List Smp) (f : Int) (k : Nat) (h : k < l.length) : T l f (k + 1) = (T l f k).add (l[k].at' - f) l[k].v := by
  unfold T
  rw [List.take_succ_eq_append_getElem (by simpa [pts] using h), sums_snoc]
  simp [pts]
theorem few_take {l : List (Int × Int)} (h : Few l) (k : Nat) : Few (l.take k) := fun p hp => h p (List.mem_of_mem_take hp)
theorem T_bd {l : List Smp} {f : Int} (h : Few (pts l f)) {k : Nat} (hk : k ≤ l.length) : Bd k (T l f k) := by
  have := bd_of _ (few_take h k)
  rwa [List.length_take, show (pts l f).length = l.length by simp [pts], Nat.min_eq_left hk] at this
theorem T_pos (l : List Smp) (f : Int) (k : Nat) : Pos (T l f k) := Pos.sums _ pos0
/-- What a forecast is reckoned from. -/
def top (a : S) (t : Int) : Int := a.y * a.under + a.over * (a.n * t - a.x)
/-- The forecast. -/
def fc (a : S) (t : Int) : Int := min (max (top a t) 0 / (a.n * a.under)) 9007199254740992
/-- Sums that an answer of Fit holds. -/
structure Good (a : S) : Prop where
  n1 : 2 ≤ a.n
  n2 : a.n ≤ 32
  x0 : 0 ≤ a.x
  x1 : a.x ≤ 2097152
  y0 : 0 ≤ a.y
  y1 : a.y ≤ 137438953472
  u0 : 1 ≤ a.under
  u1 : a.under ≤ 4398046511104
  o0 : -288230376151711744 ≤ a.over
  o1 : a.over ≤ 288230376151711744
theorem good_of {l : List Smp} {f : Int} (h : Few (pts l f)) (h2 : 2 ≤ l.length) (h3 : l.length ≤ 32) (hu : 1 ≤ (T l f l.length).under) : Good (T l f l.length) := by
  have b := T_bd h (Nat.le_refl _)
  obtain ⟨b1, b2, b3, b4, b5, b6, b7, b8, b9⟩ := b
  generalize T l f l.length = a at *
  have p1 := prod_bd (A := 32) (B := 9007199254740992) (show 0 ≤ a.n by omega) (by omega) b8 (by omega)
  have p2 := prod_bd (A := 2097152) (B := 137438953472) b2 (by omega) b4 (by omega)
  have p3 := prod_bd (A := 32) (B := 137438953472) (show 0 ≤ a.n by omega) (by omega) b6 (by omega)
  have p4 := prod_bd (A := 2097152) (B := 2097152) b2 (by omega) b2 (by omega)
  unfold S.under at hu
  constructor <;> (try unfold S.under) <;> (try unfold S.over) <;> omega
/-- More ticks, no more where it doesn't go up. -/
theorem fc_down {a : S} (g : Good a) (h : a.over ≤ 0) {s t : Int} (hst : s ≤ t) : fc a t ≤ fc a s := by
  unfold fc
  have hd : 0 ≤ a.n * a.under := Int.mul_nonneg (by have := g.n1; omega) (by have := g.u0; omega)
  have h1 : a.n * s - a.x ≤ a.n * t - a.x := by have := Int.mul_le_mul_of_nonneg_left hst (show 0 ≤ a.n by have := g.n1; omega); omega
  have h2 : a.over * (a.n * t - a.x) ≤ a.over * (a.n * s - a.x) := Int.mul_le_mul_of_nonpos_left h h1
  have h3 : max (top a t) 0 ≤ max (top a s) 0 := by unfold top; omega
  have h4 : max (top a t) 0 / (a.n * a.under) ≤ max (top a s) 0 / (a.n * a.under) := Int.ediv_le_ediv (by have := g.n1; have := g.u0; have : 0 < a.n * a.under := Int.mul_pos (by omega) (by omega); omega) h3
  omega
end LineLaw
end Go.Proofs.Ytalmhnimmhgloaa
