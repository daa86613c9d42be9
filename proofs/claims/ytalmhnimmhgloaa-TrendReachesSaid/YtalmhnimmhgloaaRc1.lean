/-
  TrendReaches: the law's own slope, as the sums of Fit. Conditions: those named in each.
-/
import Derived.Test.YtalmhnimmhgloaaTr8
import Derived.Deep.QuietTactic
import Derived.BigQuiet
import Derived.Outline
namespace Go.Proofs.Ytalmhnimmhgloaa
open Go.RowKit Go.Proofs.Mem LineLaw
set_option linter.unusedVariables false
set_option linter.unusedSimpArgs false
namespace LineLaw
/-- Sum of (x - x')*(y - y') over the points. -/
def S.cross (a : S) (x y : Int) : Int := a.n * (x * y) - x * a.y - y * a.x + a.xy
theorem cross_add (a : S) (x' y' x y : Int) : (a.add x' y').cross x y = a.cross x y + (x - x') * (y - y') := by
  simp only [S.cross, S.add]
  grind
theorem over_add (a : S) (x y : Int) : (a.add x y).over = a.over + a.cross x y := by
  simp only [S.over, S.add, S.cross]
  grind
theorem T_zero (l : List Smp) (f : Int) : T l f 0 = S0 := rfl
theorem cross_T (l : List Smp) (f : Int) (k : Nat) (h : k < l.length) (x y : Int) : (T l f (k + 1)).cross (x - f) y = (T l f k).cross (x - f) y + (x - l[k].at') * (y - l[k].v) := by
  rw [T_succ l f k h, cross_add]
  have : x - f - (l[k].at' - f) = x - l[k].at' := by omega
  rw [this]
theorem far_T (l : List Smp) (f : Int) (k : Nat) (h : k < l.length) (x : Int) : (T l f (k + 1)).far (x - f) = (T l f k).far (x - f) + (x - l[k].at') * (x - l[k].at') := by
  rw [T_succ l f k h, far_add]
  have : x - f - (l[k].at' - f) = x - l[k].at' := by omega
  rw [this]
theorem over_T (l : List Smp) (f : Int) (k : Nat) (h : k < l.length) : (T l f (k + 1)).over = (T l f k).over + (T l f k).cross (l[k].at' - f) l[k].v := by
  rw [T_succ l f k h, over_add]
theorem under_T (l : List Smp) (f : Int) (k : Nat) (h : k < l.length) : (T l f (k + 1)).under = (T l f k).under + (T l f k).far (l[k].at' - f) := by
  rw [T_succ l f k h, under_add]
theorem cross0 (x y : Int) : S0.cross x y = 0 := by simp [S.cross, S0]
theorem far0 (x : Int) : S0.far x = 0 := by simp [S.far, S0]
theorem asc_lt {l : List Smp} (h : ∀ (i : Nat) (h : i + 1 < l.length), (l[i]'(by omega)).at' < l[i + 1].at') : ∀ (i k : Nat) (hi : i < l.length) (hk : k < i), (l[k]'(by omega)).at' < l[i].at'
  | 0, k, hi, hk => by omega
  | i + 1, k, hi, hk => by
    have h1 := h i hi
    rcases Nat.lt_or_ge k i with h2 | h2
    · have := asc_lt h i k (by omega) h2; omega
    · obtain rfl : k = i := by omega
      exact h1
theorem prod_sbd {a b : Int} (a0 : 0 ≤ a) (a1 : a ≤ 65536) (b0 : -4294967296 ≤ b) (b1 : b ≤ 4294967296) : -281474976710656 ≤ a * b ∧ a * b ≤ 281474976710656 := by
  rcases Int.le_total 0 b with h | h
  · have := prod_bd a0 a1 h b1; omega
  · have := prod_bd (B := 4294967296) a0 a1 (show 0 ≤ -b by omega) (by omega)
    rw [Int.mul_neg] at this
    omega
end LineLaw
set_option maxHeartbeats 2000000 in
set_option maxRecDepth 100000 in
theorem slope_any (l : List Smp) (v : Value) (w : World) (h : OkL l) (hv : Sl w 2 v l.length (l.flatMap Smp.cells)) :
    Calls Try.prog 50 #[v] w fun e w' => e = .returned (.tuple #[.int .i64 (T l (first l) l.length).over, .int .i64 (T l (first l) l.length).under]) ∧ Below w.heap.size w w' := by
  obtain ⟨A, cp, rfl, hcp, _⟩ := id hv
  have hm := h.most
  have H := Lib.hid h
  clear h
  go_enter Try.func50, Try.ntmps50
  go_wp2_with fail
  go_loopw [4, 5, 12] (fun ov un i wr => ∃ (k : Nat) (o u : Int), k ≤ l.length ∧ i = .int .i64 k ∧ ov = .int .i64 o ∧ un = .int .i64 u ∧ o = (T l (first l) k).over ∧ u = (T l (first l) k).under ∧ (-(k * 9007199254740992) ≤ o ∧ o ≤ k * 9007199254740992) ∧ (0 ≤ u ∧ u ≤ k * 137438953472) ∧ Below w.heap.size w wr) (fun _ _ i wr => l.length - (intOf i).toNat)
  case atStart => exact ⟨0, 0, 0, Nat.zero_le _, rfl, rfl, rfl, rfl, rfl, by omega, by omega, Below.refl _ _⟩
  case round =>
    obtain ⟨i, o, u, hk, rfl, rfl, rfl, ho, hu, hob, hub, hB⟩ := hrel
    by_cases hlt : i < l.length
    · go_wp2_with fail
      go_loopw [4, 5, 16] (fun ov un j wr2 => ∃ (k : Nat) (o2 u2 : Int), k ≤ i ∧ j = .int .i64 k ∧ ov = .int .i64 o2 ∧ un = .int .i64 u2 ∧ o2 = (T l (first l) i).over + (T l (first l) k).cross (l[i].at' - first l) l[i].v ∧ u2 = (T l (first l) i).under + (T l (first l) k).far (l[i].at' - first l) ∧ (-(i * 9007199254740992 + k * 281474976710656) ≤ o2 ∧ o2 ≤ i * 9007199254740992 + k * 281474976710656) ∧ (0 ≤ u2 ∧ u2 ≤ i * 137438953472 + k * 4294967296) ∧ Below w.heap.size w wr2) (fun _ _ j wr2 => i - (intOf j).toNat)
      case atStart => exact ⟨0, o, u, Nat.zero_le _, rfl, rfl, rfl, by rw [T_zero, cross0, ho]; omega, by rw [T_zero, far0, hu]; omega, by omega, by omega, hB⟩
      case round =>
        obtain ⟨k, o2, u2, hk2, rfl, rfl, rfl, ho2, hu2, hob2, hub2, hB2⟩ := hrel
        by_cases hlt2 : k < i
        · obtain ⟨b, q, rfl, _, _, hci⟩ := Sl.row' (f := Smp.cells) (fun _ => rfl) (by omega) (hv.below hB2) i hlt
          obtain ⟨b2, q2, eA, _, _, hck⟩ := Sl.row' (f := Smp.cells) (fun _ => rfl) (by omega) (hv.below hB2) k (by omega)
          injection eA with eA
          injection eA with e1 e2 e3
          subst e1; subst e2
          have c0 : wr.cell? ⟨b, q + i * 2, none⟩ = _ := hci 0 _ rfl
          have c1 := hci 1 _ rfl
          have d0 : wr.cell? ⟨b, q + k * 2, none⟩ = _ := hck 0 _ rfl
          have d1 := hck 1 _ rfl
          have hx := asc_lt H.out.asc i k hlt hlt2
          have hmi := List.getElem_mem hlt
          have hmk := List.getElem_mem (show k < l.length by omega)
          have y1 := H.out.v0 _ hmi
          have y2 := H.out.v1 _ hmi
          have y3 := H.out.v0 _ hmk
          have y4 := H.out.v1 _ hmk
          have x1 := H.out.near _ hmi
          have x2 := H.out.ge k (by omega)
          have x3 := H.out.first0
          have hno := cross_T l (first l) k (by omega) l[i].at' l[i].v
          have hnu := far_T l (first l) k (by omega) l[i].at'
          rw [← Int.add_right_inj (T l (first l) i).over, ← Int.add_assoc, ← ho2] at hno
          rw [← Int.add_right_inj (T l (first l) i).under, ← Int.add_assoc, ← hu2] at hnu
          clear hci hck hmi hmk ho hu hob hub ho2 hu2
          obtain ⟨NO, hNO⟩ : ∃ NO, NO = (T l (first l) i).over + (T l (first l) (k + 1)).cross (l[i].at' - first l) l[i].v := ⟨_, rfl⟩
          obtain ⟨NU, hNU⟩ : ∃ NU, NU = (T l (first l) i).under + (T l (first l) (k + 1)).far (l[i].at' - first l) := ⟨_, rfl⟩
          rw [← hNO] at hno
          rw [← hNU] at hnu
          have HNO := Lib.hid hNO
          have HNU := Lib.hid hNU
          clear hNO hNU
          have kk : (k : Int) < i := by omega
          have ki : (i : Int) < l.length := by omega
          generalize l[i] = s at *
          generalize l[k] = r at *
          generalize first l = f at *
          have z1 : 0 ≤ s.at' - r.at' := by omega
          have z2 : s.at' - r.at' ≤ 65536 := by omega
          have z3 : -4294967296 ≤ s.v - r.v := by omega
          have z4 : s.v - r.v ≤ 4294967296 := by omega
          have p1 := prod_sbd z1 z2 z3 z4
          have p2 := prod_bd z1 z2 z1 z2
          obtain ⟨D, hD⟩ : ∃ D, s.at' - r.at' = D := ⟨_, rfl⟩
          obtain ⟨E, hE⟩ : ∃ E, s.v - r.v = E := ⟨_, rfl⟩
          rw [hD, hE] at hno p1
          rw [hD] at hnu p2
          obtain ⟨P, hP⟩ : ∃ P, D * E = P := ⟨_, rfl⟩
          obtain ⟨Q, hQ⟩ : ∃ Q, D * D = Q := ⟨_, rfl⟩
          rw [hP] at hno p1
          rw [hQ] at hnu p2
          have hno' : o2 + P = NO := hno.symm
          have hnu' : u2 + Q = NU := hnu.symm
          have b1 : -(i * 9007199254740992 + ((k + 1 : Nat) : Int) * 281474976710656) ≤ NO ∧ NO ≤ i * 9007199254740992 + ((k + 1 : Nat) : Int) * 281474976710656 := by omega
          have b2 : 0 ≤ NU ∧ NU ≤ i * 137438953472 + ((k + 1 : Nat) : Int) * 4294967296 := by omega
          have b3 : -9223372036854775808 ≤ NO ∧ NO ≤ 9223372036854775807 := by omega
          have b4 : 0 ≤ NU ∧ NU ≤ 9223372036854775807 := by omega
          have HB1 := Lib.hid b1
          have HB2 := Lib.hid b2
          clear hno hnu hob2 hub2 b1 b2
          go_wp2_with fail
          go_quiet (fail)
          go_wp2_with fail
          exact ⟨⟨k + 1, NO, NU, hlt2, by go_num, rfl, rfl, HNO.out, HNU.out, HB1.out, HB2.out, below_drewN hB2 _⟩, by simp [intOf]; omega⟩
        · obtain rfl : k = i := by omega
          go_wp2_with fail
          exact ⟨⟨k + 1, _, _, hlt, by go_num, rfl, rfl, by rw [over_T l _ k hlt, ho2], by rw [under_T l _ k hlt, hu2], by omega, by omega, hB2⟩, by simp [intOf]; omega⟩
    · obtain rfl : i = l.length := by omega
      go_wp2_with fail
      go_ret2
      rw [← ho, ← hu]
      exact ⟨rfl, hB⟩
end Go.Proofs.Ytalmhnimmhgloaa
