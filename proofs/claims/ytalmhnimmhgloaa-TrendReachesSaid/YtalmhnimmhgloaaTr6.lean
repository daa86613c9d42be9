/-
  Contracts of package trend's at and At. Conditions: those named in each.
-/
import Derived.Test.YtalmhnimmhgloaaTr5
namespace Go.Proofs.Ytalmhnimmhgloaa
open Go.RowKit Go.Proofs.Mem LineLaw
set_option linter.unusedVariables false
set_option linter.unusedSimpArgs false
/-- The forecast's sum, either way. -/
theorem top_same (y u ov off : Int) (hy : 0 ≤ y) (hu : 0 ≤ u) (h : (ov < 0 ↔ off < 0)) : (max (y * u + ov * off) 0).toNat = y.toNat * u.toNat + ov.natAbs * off.natAbs := by
  have e : ov * off = ((ov.natAbs * off.natAbs : Nat) : Int) := by
    rw [← Int.natAbs_mul]
    have : 0 ≤ ov * off := by
      rcases Int.lt_or_le ov 0 with h1 | h1
      · exact Int.mul_nonneg_of_nonpos_of_nonpos (by omega) (by have := h.1 h1; omega)
      · exact Int.mul_nonneg h1 (by
          rcases Int.lt_or_le off 0 with h2 | h2
          · have := h.2 h2; omega
          · exact h2)
    omega
  have e2 : y * u = ((y.toNat * u.toNat : Nat) : Int) := by rw [Int.natCast_mul, Int.toNat_of_nonneg hy, Int.toNat_of_nonneg hu]
  rw [e, e2]
  omega
theorem top_other (y u ov off : Int) (hy : 0 ≤ y) (hu : 0 ≤ u) (h : ¬ (ov < 0 ↔ off < 0)) : (max (y * u + ov * off) 0).toNat = y.toNat * u.toNat - ov.natAbs * off.natAbs := by
  have e : ov * off = -((ov.natAbs * off.natAbs : Nat) : Int) := by
    rw [← Int.natAbs_mul]
    have : ov * off ≤ 0 := by
      rcases Int.lt_or_le ov 0 with h1 | h1
      · exact Int.mul_nonpos_of_nonpos_of_nonneg (by omega) (by
          rcases Int.lt_or_le off 0 with h2 | h2
          · exact absurd ⟨fun _ => h2, fun _ => h1⟩ h
          · exact h2)
      · exact Int.mul_nonpos_of_nonneg_of_nonpos h1 (by
          rcases Int.lt_or_le off 0 with h2 | h2
          · omega
          · exact absurd ⟨fun _ => by omega, fun _ => by omega⟩ h)
    omega
  have e2 : y * u = ((y.toNat * u.toNat : Nat) : Int) := by rw [Int.natCast_mul, Int.toNat_of_nonneg hy, Int.toNat_of_nonneg hu]
  rw [e, e2]
  omega
theorem min_word (K D qh ql r : Nat) (h : K = (qh * 18446744073709551616 + ql) * D + r) (hr : r < D) : K / D = qh * 18446744073709551616 + ql := (mulDiv_arith K D _ r h hr).1
theorem res_big (q : Nat) (M : Nat) (I : Int) (hI : I = (M : Int)) (h : M ≤ q) : I = ((min q M : Nat) : Int) := by rw [Nat.min_eq_right h, hI]
theorem res_small (q M : Nat) (l : Nat) (hl : q = l) (h : l ≤ M) : (l : Int) = ((min q M : Nat) : Int) := by subst hl; rw [Nat.min_eq_left h]
/-- A forecast in words. -/
def lineOf (a : S) (f z : Int) : Value := lineV a.n f z a.x a.y a.over a.under
set_option maxHeartbeats 2000000 in
set_option maxRecDepth 100000 in
theorem fat_any (a : S) (f z t : Int) (w : World) (g : LineLaw.Good a) (t0 : 0 ≤ t) (t1 : t ≤ 131072) :
    Calls Try.prog 47 #[lineOf a f z, .int .i64 t] w fun e w' => e = .returned (.int .i64 (fc a t)) ∧ Below w.heap.size w w' := by
  obtain ⟨n1, n2, x0, x1, y0, y1, u0, u1, o0, o1⟩ := g
  have hQ := prod_bd (A := 32) (B := 131072) (show 0 ≤ a.n by omega) n2 t0 t1
  have hD := prod_bd (A := 32) (B := 4398046511104) (show 0 ≤ a.n by omega) n2 (show 0 ≤ a.under by omega) u1
  have hD1 : 1 ≤ a.n * a.under := by have := Int.mul_pos (show 0 < a.n by omega) (show 0 < a.under by omega); omega
  unfold lineOf lineV fc top
  obtain ⟨Q, hQe⟩ : ∃ Q, Q = a.n * t := ⟨_, rfl⟩
  obtain ⟨D, hDe⟩ : ∃ D : Nat, (D : Int) = a.n * a.under := ⟨(a.n * a.under).toNat, by omega⟩
  rw [← hQe] at hQ ⊢
  rw [← hDe] at hD hD1 ⊢
  generalize a.over = ov at *
  generalize a.under = u at *
  generalize a.n = n at *
  generalize a.x = x at *
  generalize a.y = y at *
  obtain ⟨off, hoff⟩ : ∃ off, off = Q - x := ⟨_, rfl⟩
  rw [← hoff]
  have of0 : -4611686018427387904 ≤ off := by omega
  have of1 : off ≤ 4611686018427387904 := by omega
  have eQ := hQe.symm
  have eD := hDe.symm
  have eoff : Q - x = off := hoff.symm
  obtain ⟨Y, rfl⟩ := Int.eq_ofNat_of_zero_le y0
  obtain ⟨U, rfl⟩ := Int.eq_ofNat_of_zero_le (show 0 ≤ u by omega)
  obtain ⟨Q0, Q1⟩ := hQ
  obtain ⟨D0, D1⟩ := hD
  obtain ⟨P, hP⟩ : ∃ P, P = ov.natAbs * off.natAbs := ⟨_, rfl⟩
  have hPb : P ≤ 288230376151711744 * 6291456 := by
    rw [hP]
    exact Nat.mul_le_mul (by omega) (by omega)
  have hYU : Y * U ≤ 137438953472 * 4398046511104 := Nat.mul_le_mul (by omega) (by omega)
  obtain ⟨K, hK⟩ : ∃ K, K = (max ((Y : Int) * (U : Int) + ov * off) 0).toNat := ⟨_, rfl⟩
  have hres : min (max ((Y : Int) * (U : Int) + ov * off) 0 / (D : Int)) 9007199254740992 = ((min (K / D) 9007199254740992 : Nat) : Int) := by
    have e : max ((Y : Int) * (U : Int) + ov * off) 0 = (K : Int) := by rw [hK]; omega
    rw [e, ← Int.natCast_ediv]
    omega
  rw [hres]
  obtain ⟨R, hR⟩ : ∃ R : Int, R = ((min (K / D) 9007199254740992 : Nat) : Int) := ⟨_, rfl⟩
  rw [← hR]
  have HR := Lib.hid hR
  clear hR
  have C1 := Lib.hid (fun w1 => wof_any Y U w1 (by omega) (by omega))
  have C2 := Lib.hid (fun w1 => wof_any ov.natAbs off.natAbs w1 (by omega) (by omega))
  rw [← hP] at C2
  have CA1 := Lib.hid (fun w1 => abs_any ov w1 (by omega) (by omega))
  have CA2 := Lib.hid (fun w1 => abs_any off w1 (by omega) (by omega))
  have KS := Lib.hid (fun (h : (ov < 0 ↔ off < 0)) => top_same (Y : Int) (U : Int) ov off y0 (by omega) h)
  have KO := Lib.hid (fun (h : ¬ (ov < 0 ↔ off < 0)) => top_other (Y : Int) (U : Int) ov off y0 (by omega) h)
  rw [← hK, ← hP, Int.toNat_natCast, Int.toNat_natCast] at KS KO
  have HYU := Lib.hid hYU
  have HPb := Lib.hid hPb
  obtain ⟨YU, hYUe⟩ : ∃ YU, YU = Y * U := ⟨_, rfl⟩
  rw [← hYUe] at C1 KS KO HYU
  clear hres hK hP hPb hYU hQe hDe hoff hYUe
  go_enter Try.func47, Try.ntmps47
  go_wp2_with fail
  have kF := Bk.new w 65 #[.int .i64 n, .int .i64 f, .int .i64 z, .int .i64 x, .int .i64 Y, .int .i64 ov, .int .i64 U]
  have hB1 := below_al w (.cells #[.int .i64 n, .int .i64 f, .int .i64 z, .int .i64 x, .int .i64 Y, .int .i64 ov, .int .i64 U] 65)
  generalize w.alloc (.cells #[.int .i64 n, .int .i64 f, .int .i64 z, .int .i64 x, .int .i64 Y, .int .i64 ov, .int .i64 U] 65) = w1 at kF hB1 ⊢
  refine (C1.out w1).mono ?_
  rintro e w2 ⟨ah, al, rfl, hA, ah1, al1, hb2⟩
  have kF2 := kF.below' hb2
  have hB2 := hB1.trans (hb2.mono hB1.size)
  have f0 := kF2.cell 0
  have f3 := kF2.cell 3
  have f5 := kF2.cell 5
  have HA := Lib.hid hA
  have hl2 := kF2.lt
  clear hb2 hB1 kF hA
  go_wp2_with fail
  have kA := Bk.new w2 118 #[.int .u64 ah, .int .u64 al]
  have kF3 := kF2.alloc (.cells #[.int .u64 ah, .int .u64 al] 118)
  have hB3 := hB2.alloc hB2.size (.cells #[.int .u64 ah, .int .u64 al] 118)
  generalize w2.alloc (.cells #[.int .u64 ah, .int .u64 al] 118) = w3 at kA kF3 hB3 ⊢
  generalize w2.heap.size = A at *
  have hla := kA.lt
  clear kF2 hB2 f0 f3 f5
  refine (CA1.out w3).mono ?_
  rintro e w' ⟨rfl, rfl⟩
  go_wp2_with fail
  refine (CA2.out w3).mono ?_
  rintro e w' ⟨rfl, rfl⟩
  go_wp2_with fail
  refine (C2.out w3).mono ?_
  rintro e w4 ⟨bh, bl, rfl, hBq, bh1, bl1, hb4⟩
  have HBq := Lib.hid hBq
  have kF4 := kF3.below' hb4
  have kA4 := kA.below' hb4
  have hB4 := hB3.trans (hb4.mono hB3.size)
  have hl4 := kF4.lt
  have hl5 := kA4.lt
  have f5 := kF4.cell 5
  have a0 := kA4.cell 0
  have a1 := kA4.cell 1
  clear hb4 hB3 kF3 kA hBq
  by_cases hs : ov < 0 ↔ off < 0
  · have hK := KS.out hs
    have hsb : (decide (ov < 0) == decide (off < 0)) = true := by
      rcases Int.lt_or_le ov 0 with h1 | h1
      · have := hs.1 h1; simp [h1, this]
      · have h2 : ¬ off < 0 := fun h => by have := hs.2 h; omega
        simp [h2, show ¬ ov < 0 by omega]
    clear hs
    go_wp2_with fail
    have kB5 := Bk.new w4 118 #[.int .u64 bh, .int .u64 bl]
    have kF5 := kF4.alloc (.cells #[.int .u64 bh, .int .u64 bl] 118)
    have kA5 := kA4.alloc (.cells #[.int .u64 bh, .int .u64 bl] 118)
    have hB5 := hB4.alloc hB4.size (.cells #[.int .u64 bh, .int .u64 bl] 118)
    generalize w4.alloc (.cells #[.int .u64 bh, .int .u64 bl] 118) = w5 at kB5 kF5 kA5 hB5 ⊢
    clear kF4 kA4 hB4 f5 a0 a1 kB5
    refine (wadd_any ah al bh bl w5 ah1 al1 bh1 bl1).mono ?_
    rintro e w6 ⟨h', l', c', rfl, hN, h1', l1', hc', hb6⟩
    have HK : Hid (K = h' * 18446744073709551616 + l') := Lib.hid (by
      have := HYU.out
      have := HPb.out
      have := HA.out
      have := HBq.out
      omega)
    have HL := Lib.hid (And.intro h1' l1')
    have kF6 := kF5.below' hb6
    have kA6 := kA5.below' hb6
    have hB6 := hB5.trans (hb6.mono hB5.size)
    clear hN hK kF5 kA5 hB5 hb6 h1' l1'
    have f0 := kF6.cell 0
    have f6 := kF6.cell 6
    have a0 := kA6.cell 0
    have a1 := kA6.cell 1
    have g0 := kA6.frozen 0
    have g1 := kA6.frozen 1
    have hne : ¬ w.heap.size = A := by omega
    have hne2 : ¬ A = w.heap.size := by omega
    go_wp2_with fail
    have hB7 := (hB6.setCell (p := ⟨A, 0, none⟩) (by simp; omega) (.int .u64 h')).setCell (p := ⟨A, 1, none⟩) (by simp; omega) (.int .u64 l')
    generalize (w6.setCell ⟨A, 0, none⟩ (.int .u64 h')).setCell ⟨A, 1, none⟩ (.int .u64 l') = w7 at hB7 ⊢
    clear kF6 kA6 hB6 f0 f6 a0 a1 g0 g1 C1 C2 CA1 CA2 KS KO HYU HPb HA HBq
    refine (wdiv_any h' l' D w7 HL.out.1 HL.out.2 (by omega) (by omega)).mono ?_
    rintro e w8 ⟨qh, ql, r, rfl, hdiv, hr, qh1, ql1, hb8⟩
    have hB8 := hB7.trans (hb8.mono hB7.size)
    have hq := min_word K D qh ql r (by rw [HK.out]; exact hdiv) hr
    have HQ := Lib.hid hq
    clear hdiv hr hb8 hB7 hq
    by_cases hqh : qh = 0
    · subst hqh
      by_cases hql : (ql : Int) ≤ 9007199254740992
      · have e : (ql : Int) = R := by rw [HR.out, HQ.out]; exact res_small _ _ _ (by omega) (by omega)
        have HE := Lib.hid e
        clear e
        go_wp2_with fail
        go_ret
        exact ⟨ret_int HE.out, hB8.alloc hB8.size _⟩
      · have hql' : (9007199254740992 : Int) < ql := by omega
        have e : (9007199254740992 : Int) = R := by rw [HR.out, HQ.out]; exact res_big _ _ _ rfl (by omega)
        have HE := Lib.hid e
        clear e hql
        go_wp2_with fail
        go_ret
        exact ⟨ret_int HE.out, hB8.alloc hB8.size _⟩
    · have hqh' : (0 : Int) < qh := by omega
      have e : (9007199254740992 : Int) = R := by rw [HR.out, HQ.out]; exact res_big _ _ _ rfl (by omega)
      have HE := Lib.hid e
      clear e hqh
      go_wp2_with fail
      go_ret
      exact ⟨ret_int HE.out, hB8.alloc hB8.size _⟩
  · have hK := KO.out hs
    have hsb : (decide (ov < 0) == decide (off < 0)) = false := by
      rcases Int.lt_or_le ov 0 with h1 | h1
      · have h2 : ¬ off < 0 := fun h => hs ⟨fun _ => h, fun _ => h1⟩
        simp [h1, h2]
      · have h2 : off < 0 := by
          rcases Int.lt_or_le off 0 with h | h
          · exact h
          · exact absurd ⟨fun h3 => by omega, fun h3 => by omega⟩ hs
        simp [h2, show ¬ ov < 0 by omega]
    clear hs
    go_wp2_with fail
    have kB5 := Bk.new w4 118 #[.int .u64 bh, .int .u64 bl]
    have kF5 := kF4.alloc (.cells #[.int .u64 bh, .int .u64 bl] 118)
    have kA5 := kA4.alloc (.cells #[.int .u64 bh, .int .u64 bl] 118)
    have hB5 := hB4.alloc hB4.size (.cells #[.int .u64 bh, .int .u64 bl] 118)
    generalize w4.alloc (.cells #[.int .u64 bh, .int .u64 bl] 118) = w5 at kB5 kF5 kA5 hB5 ⊢
    clear kF4 kA4 hB4 f5 a0 a1 kB5
    refine (less_any ah al bh bl w5 ah1 al1 bh1 bl1).mono ?_
    rintro e w6 ⟨h', l', rfl, hN, h1', l1', hb6⟩
    have HK : Hid (K = h' * 18446744073709551616 + l') := Lib.hid (by
      have := HA.out
      have := HBq.out
      omega)
    have HL := Lib.hid (And.intro h1' l1')
    have kF6 := kF5.below' hb6
    have kA6 := kA5.below' hb6
    have hB6 := hB5.trans (hb6.mono hB5.size)
    clear hN hK kF5 kA5 hB5 hb6 h1' l1'
    have f0 := kF6.cell 0
    have f6 := kF6.cell 6
    have a0 := kA6.cell 0
    have a1 := kA6.cell 1
    have g0 := kA6.frozen 0
    have g1 := kA6.frozen 1
    have hne : ¬ w.heap.size = A := by omega
    have hne2 : ¬ A = w.heap.size := by omega
    go_wp2_with fail
    have hB7 := (hB6.setCell (p := ⟨A, 0, none⟩) (by simp; omega) (.int .u64 h')).setCell (p := ⟨A, 1, none⟩) (by simp; omega) (.int .u64 l')
    generalize (w6.setCell ⟨A, 0, none⟩ (.int .u64 h')).setCell ⟨A, 1, none⟩ (.int .u64 l') = w7 at hB7 ⊢
    clear kF6 kA6 hB6 f0 f6 a0 a1 g0 g1 C1 C2 CA1 CA2 KS KO HYU HPb HA HBq
    refine (wdiv_any h' l' D w7 HL.out.1 HL.out.2 (by omega) (by omega)).mono ?_
    rintro e w8 ⟨qh, ql, r, rfl, hdiv, hr, qh1, ql1, hb8⟩
    have hB8 := hB7.trans (hb8.mono hB7.size)
    have hq := min_word K D qh ql r (by rw [HK.out]; exact hdiv) hr
    have HQ := Lib.hid hq
    clear hdiv hr hb8 hB7 hq
    by_cases hqh : qh = 0
    · subst hqh
      by_cases hql : (ql : Int) ≤ 9007199254740992
      · have e : (ql : Int) = R := by rw [HR.out, HQ.out]; exact res_small _ _ _ (by omega) (by omega)
        have HE := Lib.hid e
        clear e
        go_wp2_with fail
        go_ret
        exact ⟨ret_int HE.out, hB8.alloc hB8.size _⟩
      · have hql' : (9007199254740992 : Int) < ql := by omega
        have e : (9007199254740992 : Int) = R := by rw [HR.out, HQ.out]; exact res_big _ _ _ rfl (by omega)
        have HE := Lib.hid e
        clear e hql
        go_wp2_with fail
        go_ret
        exact ⟨ret_int HE.out, hB8.alloc hB8.size _⟩
    · have hqh' : (0 : Int) < qh := by omega
      have e : (9007199254740992 : Int) = R := by rw [HR.out, HQ.out]; exact res_big _ _ _ rfl (by omega)
      have HE := Lib.hid e
      clear e hqh
      go_wp2_with fail
      go_ret
      exact ⟨ret_int HE.out, hB8.alloc hB8.size _⟩
end Go.Proofs.Ytalmhnimmhgloaa
