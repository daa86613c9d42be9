/-
  TrendReaches: the law's own forecast is 'fc'. Conditions: those named in each.
-/
import Derived.Test.YtalmhnimmhgloaaRc1
import Derived.Test.YtalmhnimmhgloaaLaws1
namespace Go.Proofs.Ytalmhnimmhgloaa
open Go.RowKit Go.Proofs.Mem LineLaw Go.Proofs.Bit
set_option linter.unusedVariables false
set_option linter.unusedSimpArgs false
theorem div_sub (a b D : Nat) (hD : 0 < D) (h : b ≤ a) : (b % D ≤ a % D → (a - b) / D = a / D - b / D ∧ b / D ≤ a / D) ∧ (a % D < b % D → (a - b) / D = a / D - 1 - b / D ∧ b / D + 1 ≤ a / D) := by
  have ea := Nat.div_add_mod a D
  have eb := Nat.div_add_mod b D
  have la := Nat.mod_lt a hD
  have lb := Nat.mod_lt b hD
  have hle : b / D ≤ a / D := Nat.div_le_div_right h
  generalize a / D = q at *
  generalize b / D = p at *
  generalize a % D = r at *
  generalize b % D = s at *
  constructor
  · intro hs
    refine ⟨?_, hle⟩
    have e : a - b = (r - s) + D * (q - p) := by
      rw [Nat.mul_sub]
      have := Nat.mul_le_mul_left D hle
      omega
    rw [e, Nat.add_mul_div_left _ _ hD, Nat.div_eq_of_lt (by omega)]
    omega
  · intro hs
    have hlt : p < q := by
      rcases Nat.lt_or_ge p q with h1 | h1
      · exact h1
      · obtain rfl : p = q := by omega
        omega
    refine ⟨?_, hlt⟩
    have e : a - b = (D + r - s) + D * (q - 1 - p) := by
      have h1 : q - 1 - p = q - (p + 1) := by omega
      rw [h1, Nat.mul_sub, Nat.mul_add, Nat.mul_one]
      have := Nat.mul_le_mul_left D hlt
      rw [Nat.mul_succ] at this
      omega
    rw [e, Nat.add_mul_div_left _ _ hD, Nat.div_eq_of_lt (by omega)]
    omega
set_option maxHeartbeats 4000000 in
set_option maxRecDepth 100000 in
theorem forecast_any (l : List Smp) (v : Value) (t : Int) (w : World) (h : OkL l) (hv : Sl w 2 v l.length (l.flatMap Smp.cells)) (t0 : first l ≤ t) (t1 : t - first l ≤ 131072) :
    Calls Try.prog 28 #[v, .int .i64 t] w fun e w' => e = .returned (.int .i64 (fc (T l (first l) l.length) (t - first l))) ∧ Below w.heap.size w w' := by
  obtain ⟨A, cp, rfl, hcp, _⟩ := id hv
  have hm := h.most
  have h2 := h.two
  have g := h.good
  have HT := Lib.hid (fun k (hk : k ≤ l.length) => T_bd h.few hk)
  have hf0 := h.first0
  have hn : (T l (first l) l.length).n = l.length := (T_bd h.few (Nat.le_refl _)).n
  have CS := Lib.hid (slope_any l _ w h hv)
  have H := Lib.hid h
  clear h
  obtain ⟨a, ha⟩ : ∃ a, a = T l (first l) l.length := ⟨_, rfl⟩
  rw [← ha] at g hn CS ⊢
  have HA := Lib.hid ha
  obtain ⟨f, hf⟩ : ∃ f, f = first l := ⟨_, rfl⟩
  rw [← hf] at t0 t1 hf0 ⊢
  have HF := Lib.hid hf
  clear ha hf
  obtain ⟨d, hd⟩ : ∃ d, t - f = d := ⟨_, rfl⟩
  rw [hd] at t1 ⊢
  have d0 : 0 ≤ d := by omega
  have tb : t ≤ 4611686018427518976 := by omega
  obtain ⟨n1, n2, x0, x1, y0, y1, u0, u1, o0, o1⟩ := g
  have hQ := prod_bd (A := 32) (B := 131072) (show 0 ≤ a.n by omega) n2 d0 t1
  have hD := prod_bd (A := 32) (B := 4398046511104) (show 0 ≤ a.n by omega) n2 (show 0 ≤ a.under by omega) u1
  have hD1 : 1 ≤ a.n * a.under := by have := Int.mul_pos (show 0 < a.n by omega) (show 0 < a.under by omega); omega
  unfold fc top
  rw [hn] at hQ hD hD1 n1 n2 ⊢
  obtain ⟨Q, hQe⟩ : ∃ Q, (l.length : Int) * d = Q := ⟨_, rfl⟩
  rw [hQe] at hQ ⊢
  obtain ⟨off, hoff⟩ : ∃ off, Q - a.x = off := ⟨_, rfl⟩
  rw [hoff]
  have of0 : -4611686018427387904 ≤ off := by omega
  have of1 : off ≤ 4611686018427387904 := by omega
  obtain ⟨U, hU⟩ : ∃ U : Nat, a.under = (U : Int) := Int.eq_ofNat_of_zero_le (by omega)
  obtain ⟨Y, hY⟩ : ∃ Y : Nat, a.y = (Y : Int) := Int.eq_ofNat_of_zero_le y0
  have HX := Lib.hid (show a.x = (T l (first l) l.length).x by rw [HA.out])
  have HY := Lib.hid (show (Y : Int) = (T l (first l) l.length).y by rw [← hY, HA.out])
  rw [hU] at hD hD1 u0 u1 CS ⊢
  rw [hY] at y0 y1 ⊢
  clear hU hY hn HA
  generalize a.over = ov at *
  generalize a.x = x at *
  obtain ⟨D, hDe⟩ : ∃ D : Nat, (D : Int) = (l.length : Int) * (U : Int) := ⟨l.length * U, by rw [Int.natCast_mul]⟩
  have hDN : l.length * U = D := by have : ((l.length * U : Nat) : Int) = (D : Int) := by rw [hDe, Int.natCast_mul]
                                    omega
  rw [← hDe] at hD hD1 ⊢
  clear hDe
  obtain ⟨Q0, Q1⟩ := hQ
  obtain ⟨D0, D1⟩ := hD
  have hPb : ov.natAbs * off.natAbs ≤ 288230376151711744 * 6291456 := Nat.mul_le_mul (by omega) (by omega)
  have hYU : Y * U ≤ 137438953472 * 4398046511104 := Nat.mul_le_mul (by omega) (by omega)
  obtain ⟨K, hK⟩ : ∃ K, K = (max ((Y : Int) * (U : Int) + ov * off) 0).toNat := ⟨_, rfl⟩
  have hres : min (max ((Y : Int) * (U : Int) + ov * off) 0 / (D : Int)) 9007199254740992 = ((min (K / D) 9007199254740992 : Nat) : Int) := by
    have e : max ((Y : Int) * (U : Int) + ov * off) 0 = (K : Int) := by rw [hK]; omega
    rw [e, ← Int.natCast_ediv]
    omega
  rw [hres]
  obtain ⟨R, hR⟩ : ∃ R : Int, R = ((min (K / D) 9007199254740992 : Nat) : Int) := ⟨_, rfl⟩
  rw [← hR]
  have HR := Lib.hid hR
  clear hR
  have KS := fun (h : (ov < 0 ↔ off < 0)) => top_same (Y : Int) (U : Int) ov off y0 (by omega) h
  have KO := fun (h : ¬ (ov < 0 ↔ off < 0)) => top_other (Y : Int) (U : Int) ov off y0 (by omega) h
  rw [← hK, Int.toNat_natCast, Int.toNat_natCast] at KS KO
  obtain ⟨ao, hao⟩ : ∃ ao, ov.natAbs = ao := ⟨_, rfl⟩
  obtain ⟨af, haf⟩ : ∃ af, off.natAbs = af := ⟨_, rfl⟩
  rw [hao, haf] at KS KO hPb
  have m1 : max ov (-ov) = (ao : Int) := by omega
  have m2 : max off (-off) = (af : Int) := by omega
  have ao1 : (ao : Int) ≤ 288230376151711744 := by omega
  have af1 : (af : Int) ≤ 4611686018427387904 := by omega
  have KS := Lib.hid KS
  have KO := Lib.hid KO
  have HYU := Lib.hid hYU
  have HPb := Lib.hid hPb
  have HDN := Lib.hid hDN
  have i1 : (0 : Int) < l.length := by omega
  clear hres hK hPb hYU hao haf hDN
  go_enter Try.func28, Try.ntmps28
  go_wp2_with fail
  refine CS.out.mono ?_
  rintro e w1 ⟨rfl, hb1⟩
  go_wp2_with fail
  go_loopw [7, 8, 35] (fun xv yv i wr => ∃ (k : Nat), k ≤ l.length ∧ i = .int .i64 k ∧ xv = .int .i64 (T l (first l) k).x ∧ yv = .int .u64 (T l (first l) k).y ∧ Below w.heap.size w wr) (fun _ _ i wr => l.length - (intOf i).toNat)
  case atStart => exact ⟨0, Nat.zero_le _, rfl, rfl, rfl, hb1⟩
  case round =>
    obtain ⟨k, hk, rfl, rfl, rfl, hB⟩ := hrel
    by_cases hlt : k < l.length
    · obtain ⟨b, q, rfl, _, _, hck⟩ := Sl.row' (f := Smp.cells) (fun _ => rfl) (by omega) (hv.below hB) k hlt
      obtain ⟨b2, q2, eA, _, _, hc0⟩ := Sl.row' (f := Smp.cells) (fun _ => rfl) (by omega) (hv.below hB) 0 (by omega)
      injection eA with eA
      injection eA with e1 e2 e3
      subst e1; subst e2
      have c0 : wr.cell? ⟨b, q + k * 2, none⟩ = _ := hck 0 _ rfl
      have c1 := hck 1 _ rfl
      have d0' : wr.cell? ⟨b, q + 0 * 2, none⟩ = _ := hc0 0 _ rfl
      rw [Nat.zero_mul, Nat.add_zero, ← first_eq l (by omega), ← HF.out] at d0'
      have hs := T_succ l (first l) k hlt
      have bk := HT.out k (by omega)
      have bk1 := HT.out (k + 1) hlt
      have v0 := H.out.v0 _ (List.getElem_mem hlt)
      have v1 := H.out.v1 _ (List.getElem_mem hlt)
      have p0 := H.out.ge k hlt
      have p1 := H.out.near _ (List.getElem_mem hlt)
      have ex : (T l (first l) (k + 1)).x = (T l (first l) k).x + (l[k].at' - first l) := by rw [hs]; rfl
      have ey : (T l (first l) (k + 1)).y = (T l (first l) k).y + l[k].v := by rw [hs]; rfl
      obtain ⟨_, bx0, bx1, by0, by1, _⟩ := bk
      obtain ⟨_, bx2, bx3, by2, by3, _⟩ := bk1
      rw [← HF.out] at ex ey p0 p1 bx0 bx1 by0 by1 bx2 bx3 by2 by3 ⊢
      obtain ⟨X, hX⟩ : ∃ X, (T l f k).x = X := ⟨_, rfl⟩
      obtain ⟨Y1, hY1⟩ : ∃ Y1, (T l f k).y = Y1 := ⟨_, rfl⟩
      obtain ⟨X2, hX2⟩ : ∃ X2, X2 = (T l f (k + 1)).x := ⟨_, rfl⟩
      obtain ⟨Y2, hY2⟩ : ∃ Y2, Y2 = (T l f (k + 1)).y := ⟨_, rfl⟩
      rw [hX] at ex bx0 bx1
      rw [hY1] at ey by0 by1
      rw [← hX2] at ex bx2 bx3
      rw [← hY2] at ey by2 by3
      have HX2 := Lib.hid hX2
      have HY2 := Lib.hid hY2
      have kk : (k : Int) < l.length := by omega
      have hB2 := hB.alloc hB.size (.cells #[.int .i64 l[k].at', .int .i64 l[k].v] 71)
      clear hs hck hc0 hX2 hY2
      rw [hX, hY1]
      clear hX hY1
      generalize l[k] = s at *
      obtain ⟨dd, hdd⟩ : ∃ dd, s.at' - f = dd := ⟨_, rfl⟩
      rw [hdd] at ex p1
      have e1 : X + dd = X2 := ex.symm
      have e2 : Y1 + s.v = Y2 := ey.symm
      have z1 : 0 ≤ dd := by omega
      have z2 : s.at' ≤ 4611686018427453440 := by omega
      clear ex ey
      go_wp2_with fail
      go_quiet (fail)
      go_wp2_with fail
      exact ⟨⟨k + 1, hlt, by go_num, by rw [HX2.out], by rw [HY2.out], below_drewN hB2 _⟩, by simp [intOf]; omega⟩
    · obtain rfl : k = l.length := by omega
      rw [← HX.out, ← HY.out]
      obtain ⟨b, q, rfl, _, _, hc⟩ := Sl.row' (f := Smp.cells) (fun _ => rfl) (by omega) (hv.below hB) 0 (by omega)
      have c0 : wr.cell? ⟨b, q + 0 * 2, none⟩ = _ := hc 0 _ rfl
      rw [Nat.zero_mul, Nat.add_zero, ← first_eq l (by omega), ← HF.out] at c0
      clear hc
      go_wp2_with fail
      refine (of_any Y wr (by omega)).mono ?_
      rintro e w2 ⟨x1, rfl, hx1, hb2⟩
      go_wp2_with fail
      refine (of_any U w2 (by omega)).mono ?_
      rintro e w3 ⟨x2, rfl, hx2, hb3⟩
      go_wp2_with fail
      refine (prod_any Y U _ _ w3 (by omega) (by omega) (hx1.below hb3) hx2).mono ?_
      rintro e w4 ⟨x3, rfl, hx3, hb4⟩
      have hB4 : Below w.heap.size w w4 := by
        have s0 := hB.size; have s2 := hb2.size; have s3 := hb3.size
        exact ((hB.trans (hb2.mono s0)).trans (hb3.mono (by omega))).trans (hb4.mono (by omega))
      have hL4 : wr.heap.size ≤ w4.heap.size := by have s2 := hb2.size; have s3 := hb3.size; have s4 := hb4.size; omega
      clear hx1 hx2 hb2 hb3 hb4 hB
      go_wp2_with fail
      refine (of_any ao w4 (by omega)).mono ?_
      rintro e w5 ⟨x4, rfl, hx4, hb5⟩
      go_wp2_with fail
      refine (of_any af w5 (by omega)).mono ?_
      rintro e w6 ⟨x5, rfl, hx5, hb6⟩
      go_wp2_with fail
      refine (prod_any ao af _ _ w6 (by omega) (by omega) (hx4.below hb6) hx5).mono ?_
      rintro e w7 ⟨x6, rfl, hx6, hb7⟩
      have hB7 : Below w.heap.size w w7 := by
        have s0 := hB4.size; have s2 := hb5.size; have s3 := hb6.size
        exact ((hB4.trans (hb5.mono s0)).trans (hb6.mono (by omega))).trans (hb7.mono (by omega))
      have hx3 := hx3.below (hb5.trans (hb6.mono hb5.size) |>.trans (hb7.mono (by have := hb5.size; have := hb6.size; omega)))
      clear hx4 hx5 hb5 hb6 hb7 hB4 hL4
      go_wp2_with fail
      refine (of_any l.length w7 (by omega)).mono ?_
      rintro e w8 ⟨x7, rfl, hx7, hb8⟩
      go_wp2_with fail
      refine (of_any U w8 (by omega)).mono ?_
      rintro e w9 ⟨x8, rfl, hx8, hb9⟩
      go_wp2_with fail
      refine (prod_any l.length U _ _ w9 (by omega) (by omega) (hx7.below hb9) hx8).mono ?_
      rintro e w10 ⟨x9, rfl, hx9, hb10⟩
      have hB10 : Below w.heap.size w w10 := by
        have s0 := hB7.size; have s2 := hb8.size; have s3 := hb9.size
        exact ((hB7.trans (hb8.mono s0)).trans (hb9.mono (by omega))).trans (hb10.mono (by omega))
      have hb710 := hb8.trans (hb9.mono hb8.size) |>.trans (hb10.mono (by have := hb8.size; have := hb9.size; omega))
      have hx3 := hx3.below hb710
      have hx6 := hx6.below hb710
      rw [HDN.out] at hx9
      clear hx7 hx8 hb8 hb9 hb10 hB7 hb710
      have ya := HYU.out
      have pb := HPb.out
      have hl1 : (bitsOf (Y * U)).length ≤ 100 := length_bitsOf_le (by omega)
      have hl2 : (bitsOf (ao * af)).length ≤ 100 := length_bitsOf_le (by omega)
      have hl3 : (bitsOf D).length ≤ 64 := len64 (by omega)
      obtain ⟨M, hM⟩ : ∃ M, M = Y * U := ⟨_, rfl⟩
      obtain ⟨N, hN⟩ : ∃ N, N = ao * af := ⟨_, rfl⟩
      have hs := KS.out
      have ho := KO.out
      have hMD : Y * U / D ≤ Y := by
        refine Nat.div_le_of_le_mul ?_
        rw [← HDN.out, Nat.mul_comm Y U, Nat.mul_assoc]
        exact Nat.le_mul_of_pos_left _ (by omega)
      rw [← hM] at hx3 hl1 ya hs ho hMD
      rw [← hN] at hx6 hl2 pb hs ho
      clear hM hN HYU HPb HDN KS KO HX HY HT H CS
      by_cases hsg : (ov < 0 ↔ off < 0)
      · have hK := hs hsg
        have sb : (!(decide (ov < 0) == decide (off < 0))) = false := by simp [hsg]
        clear hs ho hsg
        go_wp2_with fail
        refine (add_any (bitsOf M) (bitsOf N) _ _ w10 (by omega) (by omega) (bin_bitsOf _) (bin_bitsOf _) hx3 hx6).mono ?_
        rintro e w11 ⟨x10, rfl, hown, hb11⟩
        have hx10 := Bts.of_own hown
        rw [val_bitsOf, val_bitsOf, ← hK] at hx10
        have hx9 := hx9.below hb11
        have hB11 := hB10.trans (hb11.mono hB10.size)
        have hl4 : (bitsOf K).length ≤ 100 := length_bitsOf_le (by omega)
        clear hown hb11 hB10
        go_wp2_with fail
        refine (div_any (bitsOf K) (bitsOf D) _ _ w11 (by omega) (by omega) (bin_bitsOf _) (bin_bitsOf _) hx10 hx9 (by rw [val_bitsOf]; omega)).mono ?_
        rintro e w12 ⟨x11, x12, rfl, hx11, _, hb12⟩
        rw [val_bitsOf, val_bitsOf] at hx11
        have hB12 := hB11.trans (hb12.mono hB11.size)
        have hiff := length_bitsOf_iff (K / D) 60
        clear hx10 hx9 hb12 hB11 hx3 hx6 hl1 hl2 hl3 hl4
        generalize K / D = G at *
        obtain ⟨A11, c11, rfl, hc11⟩ := hx11.form
        by_cases hlen : (bitsOf G).length ≤ 60
        · have hG := hiff.1 hlen
          have hlI : ((bitsOf G).length : Int) ≤ 60 := by omega
          have C := Lib.hid (numb_small G _ w12 (by omega) hx11)
          clear hiff hx11 hc11 hlen
          generalize (bitsOf G).length = gl at *
          go_wp2_with fail
          refine C.out.mono ?_
          rintro e w13 ⟨rfl, rfl⟩
          rcases Nat.lt_or_ge 9007199254740992 G with hg | hg
          · have mn : min (G : Int) 9007199254740992 = 9007199254740992 := by omega
            have HE := Lib.hid (show (9007199254740992 : Int) = R by rw [HR.out]; exact res_big _ _ _ rfl (by omega))
            clear hg hG
            go_wp2_with fail
            go_ret
            exact ⟨ret_int HE.out, hB12⟩
          · have mn : min (G : Int) 9007199254740992 = G := by omega
            have HE := Lib.hid (show (G : Int) = R by rw [HR.out]; exact res_small _ _ _ rfl (by omega))
            have hgI : (G : Int) ≤ 9007199254740992 := by omega
            clear hg hG
            go_wp2_with fail
            go_ret
            exact ⟨ret_int HE.out, hB12⟩
        · have hG : 2 ^ 60 ≤ G := by
            rcases Nat.lt_or_ge G (2 ^ 60) with h1 | h1
            · exact absurd (hiff.2 h1) hlen
            · exact h1
          have HE := Lib.hid (show (9007199254740992 : Int) = R by rw [HR.out]; exact res_big _ _ _ rfl (Nat.le_trans (by decide) hG))
          have hlI : (60 : Int) < ((bitsOf G).length : Int) := by omega
          clear hiff hx11 hc11 hlen hG
          generalize (bitsOf G).length = gl at *
          go_wp2_with fail
          go_ret
          exact ⟨ret_int HE.out, hB12⟩
      · have hK := ho hsg
        have sb : (!(decide (ov < 0) == decide (off < 0))) = true := by
          by_cases h1 : ov < 0 <;> by_cases h2 : off < 0 <;> simp [h1, h2] at hsg ⊢
        clear hs ho hsg
        go_wp2_with fail
        refine (cmp_prod M N _ _ w10 (by omega) (by omega) hx3 hx6).mono ?_
        rintro e w11 ⟨rfl, rfl⟩
        rcases Nat.lt_or_ge N M with hNM | hMN
        · have hc : cmpZ M N = 1 := by unfold cmpZ; rw [if_pos hNM]
          rw [hc]
          clear hc
          go_wp2_with fail
          refine (div_any (bitsOf M) (bitsOf D) _ _ w10 (by omega) (by omega) (bin_bitsOf _) (bin_bitsOf _) hx3 hx9 (by rw [val_bitsOf]; omega)).mono ?_
          rintro e w12 ⟨x11, x12, rfl, hx11, hx12, hb12⟩
          rw [val_bitsOf, val_bitsOf] at hx11 hx12
          have hB12 := hB10.trans (hb12.mono hB10.size)
          have hx6 := hx6.below hb12
          have hx9 := hx9.below hb12
          clear hb12 hB10 hx3
          go_wp2_with fail
          refine (div_any (bitsOf N) (bitsOf D) _ _ w12 (by omega) (by omega) (bin_bitsOf _) (bin_bitsOf _) hx6 hx9 (by rw [val_bitsOf]; omega)).mono ?_
          rintro e w13 ⟨x13, x14, rfl, hx13, hx14, hb13⟩
          rw [val_bitsOf, val_bitsOf] at hx13 hx14
          have hB13 := hB12.trans (hb13.mono hB12.size)
          have hx11 := hx11.below hb13
          have hx12 := hx12.below hb13
          have hds := div_sub M N D (by omega) (by omega)
          have hND : N / D ≤ M / D := Nat.div_le_div_right (by omega)
          have lm := Nat.mod_lt M (show 0 < D by omega)
          have ln := Nat.mod_lt N (show 0 < D by omega)
          rw [← hK] at hds
          clear hb13 hB12 hx6 hx9 hl1 hl2 hl3 pb ya hK hNM
          generalize M / D = G at *
          generalize N / D = F at *
          generalize M % D = r at *
          generalize N % D = s at *
          have hl5 : (bitsOf r).length ≤ 64 := len64 (by omega)
          have hl6 : (bitsOf s).length ≤ 64 := len64 (by omega)
          go_wp2_with fail
          refine (numb_small G _ w13 (by omega) hx11).mono ?_
          rintro e w14 ⟨rfl, rfl⟩
          go_wp2_with fail
          refine (numb_small F _ w13 (by omega) hx13).mono ?_
          rintro e w14 ⟨rfl, rfl⟩
          go_wp2_with fail
          refine (cmp_prod r s _ _ w13 (by omega) (by omega) hx12 hx14).mono ?_
          rintro e w14 ⟨rfl, rfl⟩
          rcases Nat.lt_or_ge r s with hrs | hrs
          · have hc : cmpZ r s = -1 := by unfold cmpZ; rw [if_neg (by omega), if_pos hrs]
            rw [hc]
            obtain ⟨hq, hp⟩ := hds.2 hrs
            obtain ⟨V, hV⟩ : ∃ V, V = G - 1 - F := ⟨_, rfl⟩
            rw [← hV] at hq
            have e1 : (G : Int) - 1 - F = V := by omega
            have e0 : (1 : Int) ≤ G := by omega
            have e2 : (G : Int) < 18446744073709551616 := by omega
            have e3 : (F : Int) + 1 ≤ G := by omega
            rcases Nat.lt_or_ge 9007199254740992 V with hg | hg
            · have mn : min (V : Int) 9007199254740992 = 9007199254740992 := by omega
              have HE := Lib.hid (show (9007199254740992 : Int) = R by rw [HR.out, hq]; exact res_big _ _ _ rfl (by omega))
              clear hg hc hds hp hq hrs hx11 hx12 hx13 hx14 HR hV hND lm ln hl5 hl6
              go_wp2_with fail
              go_ret
              exact ⟨ret_int HE.out, hB13⟩
            · have mn : min (V : Int) 9007199254740992 = V := by omega
              have HE := Lib.hid (show (V : Int) = R by rw [HR.out, hq]; exact res_small _ _ _ rfl (by omega))
              have hgI : (V : Int) ≤ 9007199254740992 := by omega
              clear hg hc hds hp hq hrs hx11 hx12 hx13 hx14 HR hV hND lm ln hl5 hl6
              go_wp2_with fail
              go_ret
              exact ⟨ret_int HE.out, hB13⟩
          · have hc0 : 0 ≤ cmpZ r s := by unfold cmpZ; split; omega; rw [if_neg (by omega)]; omega
            generalize cmpZ r s = cz at *
            have cb : decide (cz < 0) = false := decide_eq_false (by omega)
            have cb2 : ¬ cz < 0 := by omega
            clear hc0
            obtain ⟨hq, hp⟩ := hds.1 hrs
            obtain ⟨V, hV⟩ : ∃ V, V = G - F := ⟨_, rfl⟩
            rw [← hV] at hq
            have e1 : (G : Int) - F = V := by omega
            have e2 : (G : Int) < 18446744073709551616 := by omega
            have e3 : (F : Int) ≤ G := by omega
            rcases Nat.lt_or_ge 9007199254740992 V with hg | hg
            · have mn : min (V : Int) 9007199254740992 = 9007199254740992 := by omega
              have HE := Lib.hid (show (9007199254740992 : Int) = R by rw [HR.out, hq]; exact res_big _ _ _ rfl (by omega))
              clear hg hds hp hq hrs hx11 hx12 hx13 hx14 HR hV hND lm ln hl5 hl6
              go_wp2_with fail
              go_ret
              exact ⟨ret_int HE.out, hB13⟩
            · have mn : min (V : Int) 9007199254740992 = V := by omega
              have HE := Lib.hid (show (V : Int) = R by rw [HR.out, hq]; exact res_small _ _ _ rfl (by omega))
              have hgI : (V : Int) ≤ 9007199254740992 := by omega
              clear hg hds hp hq hrs hx11 hx12 hx13 hx14 HR hV hND lm ln hl5 hl6
              go_wp2_with fail
              go_ret
              exact ⟨ret_int HE.out, hB13⟩
        · have hc : cmpZ M N ≤ 0 := by unfold cmpZ; rw [if_neg (by omega)]; split <;> omega
          have hK0 : K = 0 := by omega
          have HE := Lib.hid (show (0 : Int) = R by rw [HR.out, hK0, Nat.zero_div]; rfl)
          clear hK hK0
          generalize cmpZ M N = cz at *
          go_wp2_with fail
          go_ret
          exact ⟨ret_int HE.out, hB10⟩
end Go.Proofs.Ytalmhnimmhgloaa
