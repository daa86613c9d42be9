/-
  trimtablaw10.RingPlays: the walk of the loop over the acts.
-/
import Derived.Test.YtilmmmokobhnfaaRing11
namespace Go.Proofs.Ytilmmmokobhnfaa
open Go.RowKit Go.Proofs.Mem
set_option linter.unusedVariables false
set_option linter.unusedSimpArgs false
def acells (x : Int × Int × Int) : List Value := [.int .i64 x.1, .int .i64 x.2.1, .int .i64 x.2.2]
set_option maxHeartbeats 1000000 in
set_option maxRecDepth 100000 in
theorem ringPlays_ok (m : Nat) (h1 : 1 ≤ m) (h2 : m ≤ 32) (t : Int) (A : Option Addr) (c : Nat) (acts : List (Int × Int × Int)) (hl : acts.length ≤ 100) (w : World) (hA : Sl w 3 (.slice A acts.length c) acts.length (acts.flatMap acells)) :
    Calls Try.prog 6 #[.int .i64 m, .slice A acts.length c, .int .i64 t] w fun e w' => e = .returned (.bool true) ∧ Below w.heap.size w w' := by
  have CN := Lib.hid (fun w1 => newp (m := m) h1 h2 w1)
  have b1 : (1 : Int) ≤ m := by omega
  have b2 : (m : Int) ≤ 32 := by omega
  have hl1 : (acts.length : Int) ≤ 100 := by omega
  obtain ⟨n, hn⟩ : ∃ n, n = acts.length := ⟨_, rfl⟩
  rw [← hn] at hl1 hl
  have HA := Lib.hid hA
  have HN := Lib.hid hn
  rw [← hn]
  clear hn hA
  go_enter Try.func6, Try.ntmps6
  go_wp2_with fail
  refine (lives10_any _).mono ?_
  rintro e w1 ⟨rfl, hb1⟩
  go_wp2_with fail
  refine (CN.out _).mono ?_
  rintro e w2 ⟨p, q, rfl, hI, hp, hq, hp2, hq2, hb2⟩
  have hpw : w.heap.size ≤ p := Nat.le_trans hb1.size hp
  have hqw : w.heap.size ≤ q := Nat.le_trans hb1.size hq
  have hB2 := below_tr hb1 hb2
  clear hb1 hb2 hp hq
  go_wp2_with fail
  go_loopw [9, 42] (fun mv iv wr => ∃ (i : Nat) (M : List (Int × Int)), i ≤ n ∧ iv = .int .i64 i ∧ IsI m p q wr M ∧ MvI w2.heap.size wr mv M ∧ Hid (M.Pairwise fun a b => a.1 < b.1) ∧ Below w.heap.size w wr ∧ w2.heap.size ≤ wr.heap.size) (fun mv iv wr => n - (intOf iv).toNat)
  case atStart => exact ⟨0, [], Nat.zero_le _, rfl, hI, MidOwn.nil _ _ _ _, Lib.hid List.Pairwise.nil, hB2, Nat.le_refl _⟩
  case round =>
    obtain ⟨i, M, hi, rfl, hJ, hMv, hs, hB, hbs⟩ := hrel
    obtain ⟨A', c', l, rfl, hMl, hc'⟩ := mv_form hMv
    obtain ⟨hM1, hm32, hm0⟩ := hJ.len
    have hl32 : l ≤ 32 := by omega
    have hlm : l ≤ m := by omega
    by_cases hlt : i < n
    · have hiA : i < acts.length := by rw [← HN.out]; exact hlt
      have hAr := HA.out.below hB
      rw [← HN.out] at hAr
      obtain ⟨gA, oA, hAe, hgA, hadd, hcell⟩ := Sl.row' (s := 3) (f := acells) (fun _ => rfl) (by omega) (by rw [HN.out] at hAr; exact hAr) i hiA
      subst hAe
      have c0 : wr.cell? ⟨gA, oA + i * 3, none⟩ = _ := hcell 0 _ rfl
      have c1 : wr.cell? ⟨gA, oA + i * 3 + 1, none⟩ = _ := hcell 1 _ rfl
      have c2 : wr.cell? ⟨gA, oA + i * 3 + 2, none⟩ = _ := hcell 2 _ rfl
      generalize acts[i] = y at c0 c1 c2
      obtain ⟨k, at', x⟩ := y
      simp only at c0 c1 c2
      clear hcell hAr hgA
      have hi1 : i + 1 ≤ n := hlt
      have hblk := Bk.new wr 89 #[.int .i64 k, .int .i64 at', .int .i64 x]
      have hBal := below_al wr (.cells #[.int .i64 k, .int .i64 at', .int .i64 x] 89)
      have hJ1 := hJ.below hBal
      have hM1' : MvI w2.heap.size _ _ M := hMv.below hBal
      have hB1 := below_tr hB hBal
      have hbs1 := Nat.le_trans hbs hBal.size
      have HML := Lib.hid hMl
      clear hMl hM1
      by_cases hk01 : k = 0 ∨ k = 1
      · by_cases hat : at' < 0
        · rcases hk01 with rfl | rfl
          all_goals
            go_wp2_with fail
            refine (putI_below at' hat x _).mono ?_
            rintro e w3 ⟨rfl, rfl⟩
            go_wp2_with fail
            refine (isp hJ1 t hM1' hs.out).mono ?_
            rintro e w8 ⟨rfl, hb8⟩
            go_wp2_with fail
            refine (isp (hJ1.below hb8) 0 (hM1'.below hb8) hs.out).mono ?_
            rintro e w9 ⟨rfl, hb9⟩
            have hFB := below_tr (below_tr hB1 hb8) hb9
            have hFS := Nat.le_trans (Nat.le_trans hbs1 hb8.size) hb9.size
            have hFJ := (hJ1.below hb8).below hb9
            have hFM := MidOwn.below (MidOwn.below hM1' hb8) hb9
            go_wp2_with fail
            exact ⟨⟨i + 1, _, hi1, by go_num, hFJ, hFM, hs, hFB, hFS⟩, by simp [intOf]; omega⟩
        · have hat0 : 0 ≤ at' := by omega
          rcases Nat.eq_zero_or_pos l with hl0 | hl0
          · subst hl0
            rcases hk01 with rfl | rfl
            all_goals
              have z1 := fun a b => cell_regrown (hblk.cell 1) a b
              go_wp2_with fail
              refine wp_region_quiet_below (by kernel_rfl) (by kernel_rfl) ?_
              repeat (go_big_quiet_step (fail))
              refine q_done fun W3 hBz => ?_
              have hyy : ∀ y, M.getLast? = some y → y.1 < at' := fun y hy => by
                rw [List.length_eq_zero_iff.1 HML.out] at hy
                cases hy
              have HYY := Lib.hid hyy
              have hs5 := Lib.hid (asc_push (x := x) hs.out hyy)
              clear hyy z1
              have hJ3 := hJ1.below hBz
              have hM3 : MvI w2.heap.size _ _ _ := MidOwn.below hM1' hBz
              have hB3 := below_tr hB1 hBz
              have hbs3 := Nat.le_trans hbs1 hBz.size
              have hk3 := hblk.below' hBz
              have e1 := hk3.cell 1
              have e2 := hk3.cell 2
              go_wp2_with fail
              refine (putp_ok at' hat0 x hJ3 HYY.out).mono ?_
              rintro e w4 ⟨rfl, hJ4, hT4⟩
              have hM4 := mv_touch hM3 hT4 hp2 hq2
              have hB4 := hT4.below _ _ hB3 hpw hqw hB3.size
              have hbs4 := Nat.le_trans hbs3 hT4.size
              have hk4 := hT4.bk hk3 (by omega) (by omega)
              have f1 := hk4.cell 1
              have f2 := hk4.cell 2
              clear hM3 hJ3 hB3 hbs3 hk3 hT4 HYY e1 e2
              have hJ4' : IsI m p q w4 (M ++ [(at', x)]) := by
                rw [if_neg (by rw [HML.out]; omega)] at hJ4
                exact hJ4
              have hgm : decide ((m : Int) < (((0 : Nat) + 1 : Nat) : Int)) = false := by simp; omega
              clear hJ4
              go_wp2_with (at_builtin; refine wpl_push rfl _ _ rfl rfl hM4 HML.out hl32 at' x rfl hbs4 ?_; intro A5 c5 w5 hM5 hBb hc5)
              have hJ5 := hJ4'.base hBb hp2 hq2
              have hB5 := hB4.trans (hBb.mono hB2.size)
              have hbs5 := Nat.le_trans hbs4 hBb.size
              clear hJ4' hB4 hbs4 hBb hM4 hk4 f1 f2
              go_wp2_with fail
              refine (isp hJ5 t hM5 hs5.out).mono ?_
              rintro e w8 ⟨rfl, hb8⟩
              go_wp2_with fail
              refine (isp (hJ5.below hb8) 0 (hM5.below hb8) hs5.out).mono ?_
              rintro e w9 ⟨rfl, hb9⟩
              have hFB := below_tr (below_tr hB5 hb8) hb9
              have hFS := Nat.le_trans (Nat.le_trans hbs5 hb8.size) hb9.size
              have hFJ := (hJ5.below hb8).below hb9
              have hFM := MidOwn.below (MidOwn.below hM5 hb8) hb9
              go_wp2_with fail
              exact ⟨⟨i + 1, _, hi1, by go_num, hFJ, hFM, hs5, hFB, hFS⟩, by simp [intOf]; omega⟩
          · obtain ⟨d, rfl⟩ : ∃ d, l = d + 1 := ⟨l - 1, by omega⟩
            have hdM : d < M.length := by rw [HML.out]; omega
            obtain ⟨g, off, hAe', hg, hadd2, hcell2⟩ := Sl.row' (s := 2) (f := rcells (Value.int .i64)) (fun _ => rfl) (by omega) (by have := hM1'.sl; rw [HML.out]  at this ⊢; exact this) d hdM
            subst hAe'
            have y0 : (wr.alloc (.cells #[.int .i64 k, .int .i64 at', .int .i64 x] 89)).cell? ⟨g, off + d * 2, none⟩ = _ := hcell2 0 _ rfl
            have hlast := getLast_at HML.out
            generalize M[d] = y at y0 hlast
            obtain ⟨ya, yv⟩ := y
            simp only at y0
            have HLA := Lib.hid hlast
            clear hcell2 hlast
            have zy := fun a b => cell_regrown y0 a b
            have z1 := fun a b => cell_regrown (hblk.cell 1) a b
            have hd0 : decide ((0 : Int) < ((d + 1 : Nat) : Int)) = true := by simp
            have hwr : IntKind.i64.wrap (((d + 1 : Nat) : Int) - 1) = (d : Int) := by simp [IntKind.wrap, IntKind.signed, IntKind.bits]; omega
            by_cases hty : at' ≤ ya
            · have hle : decide (at' ≤ ya) = true := by simpa using hty
              rcases hk01 with rfl | rfl
              all_goals
                go_wp2_with fail
                refine wp_region_quiet_below (by kernel_rfl) (by kernel_rfl) ?_
                repeat (go_big_quiet_step (fail))
                refine q_done fun W3 hBz => ?_
                clear z1 zy hd0 hwr hle y0
                have hJ3 := hJ1.below hBz
                have hM3 : MvI w2.heap.size _ _ M := MidOwn.below hM1' hBz
                have hB3 := below_tr hB1 hBz
                have hbs3 := Nat.le_trans hbs1 hBz.size
                have hk3 := hblk.below' hBz
                have e1 := hk3.cell 1
                have e2 := hk3.cell 2
                go_wp2_with fail
                refine (putp_stale at' hat0 x hJ3 _ HLA.out hty).mono ?_
                rintro e w4 ⟨rfl, hb4⟩
                have hJ4 := hJ3.below hb4
                have hM4 : MvI w2.heap.size _ _ M := MidOwn.below hM3 hb4
                have hB4 := below_tr hB3 hb4
                have hbs4 := Nat.le_trans hbs3 hb4.size
                go_wp2_with fail
                refine (isp hJ4 t hM4 hs.out).mono ?_
                rintro e w8 ⟨rfl, hb8⟩
                go_wp2_with fail
                refine (isp (hJ4.below hb8) 0 (hM4.below hb8) hs.out).mono ?_
                rintro e w9 ⟨rfl, hb9⟩
                have hFB := below_tr (below_tr hB4 hb8) hb9
                have hFS := Nat.le_trans (Nat.le_trans hbs4 hb8.size) hb9.size
                have hFJ := (hJ4.below hb8).below hb9
                have hFM := MidOwn.below (MidOwn.below hM4 hb8) hb9
                go_wp2_with fail
                exact ⟨⟨i + 1, _, hi1, by go_num, hFJ, hFM, hs, hFB, hFS⟩, by simp [intOf]; omega⟩
            · have hle : decide (at' ≤ ya) = false := by simpa using hty
              have hyy : ∀ y, M.getLast? = some y → y.1 < at' := fun y hy => by
                rw [HLA.out] at hy
                injection hy with hy
                subst hy
                show ya < at'
                omega
              have HYY := Lib.hid hyy
              have hasc := asc_push (x := x) hs.out hyy
              clear hyy
              by_cases hfull : d + 1 = m
              · obtain ⟨y1, M1, rfl⟩ : ∃ y1 M1, M = y1 :: M1 := by
                  rcases M with _ | ⟨y1, M1⟩
                  · have := HML.out; simp at this
                  · exact ⟨_, _, rfl⟩
                have hs5 := Lib.hid (List.Pairwise.of_cons hasc : (M1 ++ [(at', x)]).Pairwise fun a b => a.1 < b.1)
                have HFU := Lib.hid hfull
                clear hasc hfull
                rcases hk01 with rfl | rfl
                all_goals
                  go_wp2_with fail
                  refine wp_region_quiet_below (by kernel_rfl) (by kernel_rfl) ?_
                  repeat (go_big_quiet_step (fail))
                  refine q_done fun W3 hBz => ?_
                  clear z1 zy hd0 hwr hle y0
                  have hJ3 := hJ1.below hBz
                  have hM3 : MvI w2.heap.size _ _ _ := MidOwn.below hM1' hBz
                  have hB3 := below_tr hB1 hBz
                  have hbs3 := Nat.le_trans hbs1 hBz.size
                  have hk3 := hblk.below' hBz
                  have e1 := hk3.cell 1
                  have e2 := hk3.cell 2
                  go_wp2_with fail
                  refine (putp_ok at' hat0 x hJ3 HYY.out).mono ?_
                  rintro e w4 ⟨rfl, hJ4, hT4⟩
                  have hM4 := mv_touch hM3 hT4 hp2 hq2
                  have hB4 := hT4.below _ _ hB3 hpw hqw hB3.size
                  have hbs4 := Nat.le_trans hbs3 hT4.size
                  have hk4 := hT4.bk hk3 (by omega) (by omega)
                  have f1 := hk4.cell 1
                  have f2 := hk4.cell 2
                  clear hM3 hJ3 hB3 hbs3 hk3 hT4 HYY e1 e2
                  have hJ4' : IsI m p q w4 (M1 ++ [(at', x)]) := by
                    rw [if_pos (by rw [HML.out, HFU.out])] at hJ4
                    exact hJ4
                  have hgm : decide ((m : Int) < (d : Int) + 1 + 1) = true := by have := HFU.out; simp; omega
                  clear hJ4
                  go_wp2_with (at_builtin; refine wpl_push rfl _ _ rfl rfl hM4 HML.out hl32 at' x rfl hbs4 ?_; intro A5 c5 w5 hM5 hBb hc5)
                  have hJ5 := hJ4'.base hBb hp2 hq2
                  have hB5 := hB4.trans (hBb.mono hB2.size)
                  have hbs5 := Nat.le_trans hbs4 hBb.size
                  clear hJ4' hB4 hbs4 hBb hM4 hk4 f1 f2
                  obtain ⟨g5, off5, rfl⟩ := mv_some hM5 (by omega)
                  have hl6 : (M1 ++ [(at', x)]).length = d + 1 := by
                    rw [List.length_append]
                    have := HML.out
                    simp at this ⊢
                    omega
                  have hM6 := mv_tail hM5 hl6
                  clear hl6
                  clear hM5
                  have hc6 : ¬ c5 = 1 := by omega
                  go_wp2_with fail
                  refine (isp hJ5 t hM6 hs5.out).mono ?_
                  rintro e w8 ⟨rfl, hb8⟩
                  go_wp2_with fail
                  refine (isp (hJ5.below hb8) 0 (hM6.below hb8) hs5.out).mono ?_
                  rintro e w9 ⟨rfl, hb9⟩
                  have hFB := below_tr (below_tr hB5 hb8) hb9
                  have hFS := Nat.le_trans (Nat.le_trans hbs5 hb8.size) hb9.size
                  have hFJ := (hJ5.below hb8).below hb9
                  have hFM := MidOwn.below (MidOwn.below hM6 hb8) hb9
                  go_wp2_with fail
                  exact ⟨⟨i + 1, _, hi1, by go_num, hFJ, hFM, hs5, hFB, hFS⟩, by simp [intOf]; omega⟩
              · have hs5 := Lib.hid hasc
                have hlt' : d + 1 < m := by omega
                clear hasc hfull
                rcases hk01 with rfl | rfl
                all_goals
                  go_wp2_with fail
                  refine wp_region_quiet_below (by kernel_rfl) (by kernel_rfl) ?_
                  repeat (go_big_quiet_step (fail))
                  refine q_done fun W3 hBz => ?_
                  clear z1 zy hd0 hwr hle y0
                  have hJ3 := hJ1.below hBz
                  have hM3 : MvI w2.heap.size _ _ _ := MidOwn.below hM1' hBz
                  have hB3 := below_tr hB1 hBz
                  have hbs3 := Nat.le_trans hbs1 hBz.size
                  have hk3 := hblk.below' hBz
                  have e1 := hk3.cell 1
                  have e2 := hk3.cell 2
                  go_wp2_with fail
                  refine (putp_ok at' hat0 x hJ3 HYY.out).mono ?_
                  rintro e w4 ⟨rfl, hJ4, hT4⟩
                  have hM4 := mv_touch hM3 hT4 hp2 hq2
                  have hB4 := hT4.below _ _ hB3 hpw hqw hB3.size
                  have hbs4 := Nat.le_trans hbs3 hT4.size
                  have hk4 := hT4.bk hk3 (by omega) (by omega)
                  have f1 := hk4.cell 1
                  have f2 := hk4.cell 2
                  clear hM3 hJ3 hB3 hbs3 hk3 hT4 HYY e1 e2
                  have hJ4' : IsI m p q w4 (M ++ [(at', x)]) := by
                    rw [if_neg (by rw [HML.out]; omega)] at hJ4
                    exact hJ4
                  have hgm : decide ((m : Int) < (((d + 1) + 1 : Nat) : Int)) = false := by simp; omega
                  clear hJ4
                  go_wp2_with (at_builtin; refine wpl_push rfl _ _ rfl rfl hM4 HML.out hl32 at' x rfl hbs4 ?_; intro A5 c5 w5 hM5 hBb hc5)
                  have hJ5 := hJ4'.base hBb hp2 hq2
                  have hB5 := hB4.trans (hBb.mono hB2.size)
                  have hbs5 := Nat.le_trans hbs4 hBb.size
                  clear hJ4' hB4 hbs4 hBb hM4 hk4 f1 f2
                  go_wp2_with fail
                  refine (isp hJ5 t hM5 hs5.out).mono ?_
                  rintro e w8 ⟨rfl, hb8⟩
                  go_wp2_with fail
                  refine (isp (hJ5.below hb8) 0 (hM5.below hb8) hs5.out).mono ?_
                  rintro e w9 ⟨rfl, hb9⟩
                  have hFB := below_tr (below_tr hB5 hb8) hb9
                  have hFS := Nat.le_trans (Nat.le_trans hbs5 hb8.size) hb9.size
                  have hFJ := (hJ5.below hb8).below hb9
                  have hFM := MidOwn.below (MidOwn.below hM5 hb8) hb9
                  go_wp2_with fail
                  exact ⟨⟨i + 1, _, hi1, by go_num, hFJ, hFM, hs5, hFB, hFS⟩, by simp [intOf]; omega⟩
      · have hkn : ¬ k = 0 ∧ ¬ k = 1 := ⟨fun e => hk01 (.inl e), fun e => hk01 (.inr e)⟩
        by_cases hk2 : k = 2
        · subst hk2
          have hat1 := hblk.cell 1
          have HS2 := Lib.hid (List.takeWhile_append_dropWhile (p := fun y : Int × Int => decide (y.1 < at')) (l := M))
          have hM32 : M.length ≤ 32 := by rw [HML.out]; exact hl32
          obtain ⟨W1, hW1⟩ : ∃ W1, W1 = wr.alloc (.cells #[.int .i64 2, .int .i64 at', .int .i64 x] 89) := ⟨_, rfl⟩
          rw [← hW1] at hblk hBal hJ1 hM1' hB1 hbs1 hat1
          have HW := Lib.hid hW1
          have gne : wr.heap.size < W1.heap.size := hblk.lt
          clear hW1
          go_wp2_with fail
          rw [← HW.out]
          go_loopw [9, 13] (fun mv nv w' => ∃ (j : Nat), j ≤ M.length ∧ nv = .int .i64 j ∧ MvI w2.heap.size w' mv (M.drop j) ∧ Hid (∀ y ∈ M.take j, decide (y.1 < at') = true) ∧ Below W1.heap.size W1 w') (fun mv nv w' => M.length - (intOf nv).toNat)
          case atStart => exact ⟨0, Nat.zero_le _, rfl, hM1', Lib.hid (by simp), Below.refl _ _⟩
          case round =>
            obtain ⟨j, hj, rfl, hMj, hall, hBj⟩ := hrel
            obtain ⟨A2, c2', l2, rfl, hl2, hc2'⟩ := mv_form hMj
            have hwr : IntKind.i64.wrap ((j : Int) + 1) = (j : Int) + 1 := by simp [IntKind.wrap, IntKind.signed, IntKind.bits]; omega
            have hj32 : (j : Int) ≤ 32 := by omega
            have ea := fun a b => cell_regrown (keep_cell hBj hat1) a b
            have hJj := hJ1.below hBj
            have hBjw := below_tr hB1 hBj
            have hbsj := Nat.le_trans hbs1 hBj.size
            have hkj := hblk.below' hBj
            have HLL := Lib.hid hl2
            clear hl2
            rcases Nat.eq_zero_or_pos l2 with hz | hz
            · subst hz
              have hfin := dw_eq (fun y : Int × Int => decide (y.1 < at')) M j hj hall.out (fun y hy => by
                have := HLL.out
                rw [List.length_drop] at this
                rw [List.getElem?_eq_none (by omega)] at hy
                cases hy)
              have HFI := Lib.hid hfin
              clear hfin hall
              go_wp2_with fail
              refine wp_region_quiet_below (by kernel_rfl) (by kernel_rfl) ?_
              repeat (go_big_quiet_step (fail))
              refine q_done fun W3 hBz => ?_
              clear ea
              have hk3 := hkj.below' hBz
              have e1 := hk3.cell 1
              have hJ3 := hJj.below hBz
              have hM3 := MidOwn.below hMj hBz
              have hB3 := below_tr hBjw hBz
              have hbs3 := Nat.le_trans hbsj hBz.size
              clear hMj hJj hBjw hbsj hwr
              have CU := cutp at' hJ3
              rw [HFI.out.1, HFI.out.2] at CU
              have HCU := Lib.hid CU
              clear CU
              go_wp2_with fail
              refine HCU.out.mono ?_
              rintro e w4 ⟨rfl, hJ4, hT4⟩
              have hM4 := mv_touch hM3 hT4 hp2 hq2
              have hB4 := hT4.below _ _ hB3 hpw hqw hB3.size
              have hbs4 := Nat.le_trans hbs3 hT4.size
              have hs4 := Lib.hid (hs.out.sublist (List.drop_sublist j M))
              clear hM3 hT4 hB3 hbs3
              go_wp2_with fail
              refine (isp hJ4 t hM4 hs4.out).mono ?_
              rintro e w8 ⟨rfl, hb8⟩
              go_wp2_with fail
              refine (isp (hJ4.below hb8) 0 (hM4.below hb8) hs4.out).mono ?_
              rintro e w9 ⟨rfl, hb9⟩
              have hFB := below_tr (below_tr hB4 hb8) hb9
              have hFS := Nat.le_trans (Nat.le_trans hbs4 hb8.size) hb9.size
              have hFJ := (hJ4.below hb8).below hb9
              have hFM := MidOwn.below (MidOwn.below hM4 hb8) hb9
              go_wp2_with fail
              exact ⟨⟨i + 1, _, hi1, by go_num, hFJ, hFM, hs4, hFB, hFS⟩, by simp [intOf]; omega⟩
            · obtain ⟨d, rfl⟩ : ∃ d, l2 = d + 1 := ⟨l2 - 1, by omega⟩
              obtain ⟨g2, o2, rfl⟩ := mv_some hMj (by omega)
              have hjM : j < M.length := by
                have := HLL.out
                rw [List.length_drop] at this
                omega
              obtain ⟨y, M2, hdr⟩ : ∃ y M2, M.drop j = y :: M2 := ⟨_, _, List.drop_eq_getElem_cons hjM⟩
              have hMy : M[j]? = some y := by
                have := congrArg (·[0]?) hdr
                simpa using this
              have hM2 : M.drop (j + 1) = M2 := by
                rw [← List.drop_drop, hdr]
                rfl
              have hlM2 : M2.length = d := by
                have := HLL.out
                rw [hdr] at this
                simpa using this
              have hMj2 := hMj
              rw [hdr] at hMj2
              obtain ⟨g3, o3, hAe3, hg3, _, hcell3⟩ := Sl.row' (s := 2) (f := rcells (Value.int .i64)) (fun _ => rfl) (by omega) (by have := hMj2.sl; rw [List.length_cons, hlM2] at this; rw [List.length_cons, hlM2]; exact this) 0 (by simp)
              obtain ⟨ya, yv⟩ := y
              injection hAe3 with hAe3
              injection hAe3 with e1 e2
              subst e1
              subst e2
              have y0 : wr.cell? ⟨g2, o2, none⟩ = _ := hcell3 0 _ rfl
              simp only [List.getElem_cons_zero] at y0
              have zy := fun a b => cell_regrown y0 a b
              have hd0 : decide ((0 : Int) < ((d + 1 : Nat) : Int)) = true := by simp
              have HM2 := Lib.hid hM2
              have HLM := Lib.hid hlM2
              have HMY := Lib.hid hMy
              have HDR := Lib.hid hdr
              clear hcell3 hM2 hlM2 hMy hdr y0
              by_cases hty : ya < at'
              · have hle : decide (ya < at') = true := by simpa using hty
                have hall2 : Hid (∀ y ∈ M.take (j + 1), decide (y.1 < at') = true) := Lib.hid (by
                  intro y hy
                  rw [List.take_add_one, HMY.out] at hy
                  rcases List.mem_append.1 hy with hy | hy
                  · exact hall.out y hy
                  · simp at hy; subst hy; exact hle)
                clear hall
                by_cases hcap : c2' = 1
                · subst hcap
                  obtain rfl : d = 0 := by omega
                  have hM3 := mv_tail0 hMj2 (List.length_eq_zero_iff.1 HLM.out)
                  have HM3 := Lib.hid hM3
                  clear hMj hMj2 hM3
                  go_wp2_with fail
                  refine wp_region_quiet_below (by kernel_rfl) (by kernel_rfl) ?_
                  repeat (go_big_quiet_step (fail))
                  refine q_done fun W3 hBz => ?_
                  clear ea zy hd0 hle
                  go_wp2_with fail
                  exact ⟨⟨j + 1, hjM, by go_num, by rw [HM2.out]; exact MidOwn.below HM3.out hBz, hall2, below_tr hBj hBz⟩, by simp [intOf]; omega⟩
                · have hM3 := mv_tail hMj2 HLM.out
                  have HM3 := Lib.hid hM3
                  clear hMj hMj2 hM3
                  go_wp2_with fail
                  refine wp_region_quiet_below (by kernel_rfl) (by kernel_rfl) ?_
                  repeat (go_big_quiet_step (fail))
                  refine q_done fun W3 hBz => ?_
                  clear ea zy hd0 hle
                  go_wp2_with fail
                  exact ⟨⟨j + 1, hjM, by go_num, by rw [HM2.out]; exact MidOwn.below HM3.out hBz, hall2, below_tr hBj hBz⟩, by simp [intOf]; omega⟩
              · have hle : decide (ya < at') = false := by simpa using hty
                have hfin := dw_eq (fun y : Int × Int => decide (y.1 < at')) M j hj hall.out (fun y hy => by
                  rw [HMY.out] at hy
                  injection hy with hy
                  subst hy
                  exact hle)
                have HFI := Lib.hid hfin
                clear hfin hall hMj2
                go_wp2_with fail
                refine wp_region_quiet_below (by kernel_rfl) (by kernel_rfl) ?_
                repeat (go_big_quiet_step (fail))
                refine q_done fun W3 hBz => ?_
                clear ea zy hd0 hle
                have hk3 := hkj.below' hBz
                have e1 := hk3.cell 1
                have hJ3 := hJj.below hBz
                have hM3 := MidOwn.below hMj hBz
                have hB3 := below_tr hBjw hBz
                have hbs3 := Nat.le_trans hbsj hBz.size
                clear hMj hJj hBjw hbsj hwr
                have CU := cutp at' hJ3
                rw [HFI.out.1, HFI.out.2] at CU
                have HCU := Lib.hid CU
                clear CU
                go_wp2_with fail
                refine HCU.out.mono ?_
                rintro e w4 ⟨rfl, hJ4, hT4⟩
                have hM4 := mv_touch hM3 hT4 hp2 hq2
                have hB4 := hT4.below _ _ hB3 hpw hqw hB3.size
                have hbs4 := Nat.le_trans hbs3 hT4.size
                have hs4 := Lib.hid (hs.out.sublist (List.drop_sublist j M))
                clear hM3 hT4 hB3 hbs3
                go_wp2_with fail
                refine (isp hJ4 t hM4 hs4.out).mono ?_
                rintro e w8 ⟨rfl, hb8⟩
                go_wp2_with fail
                refine (isp (hJ4.below hb8) 0 (hM4.below hb8) hs4.out).mono ?_
                rintro e w9 ⟨rfl, hb9⟩
                have hFB := below_tr (below_tr hB4 hb8) hb9
                have hFS := Nat.le_trans (Nat.le_trans hbs4 hb8.size) hb9.size
                have hFJ := (hJ4.below hb8).below hb9
                have hFM := MidOwn.below (MidOwn.below hM4 hb8) hb9
                go_wp2_with fail
                exact ⟨⟨i + 1, _, hi1, by go_num, hFJ, hFM, hs4, hFB, hFS⟩, by simp [intOf]; omega⟩
        · have ek0 : (k == 0) = false := by simpa using hkn.1
          have ek1 : (k == 1) = false := by simpa using hkn.2
          have ek2 : (k == 2) = false := by simpa using hk2
          have CC := Lib.hid (copyp hJ1)
          obtain ⟨T62, hT62⟩ : ∃ T62 : Int, T62 = 4611686018427387904 := ⟨_, rfl⟩
          clear hkn hk2
          go_wp2_with fail
          refine CC.out.mono ?_
          rintro e w3 ⟨p', q', rfl, hJc, hp', hq', hb3⟩
          go_wp2_with fail
          refine (putp_any _ (by decide) 1 hJc).mono ?_
          rintro e w4 ⟨kk, M', rfl, hJc4, hT4⟩
          have hb4 := hT4.below _ _ hb3 hp' hq' hb3.size
          clear hJc
          go_wp2_with fail
          refine (cutp _ hJc4).mono ?_
          rintro e w5 ⟨rfl, hJc5, hT5⟩
          have hb5 := hT5.below _ _ hb4 hp' hq' hb4.size
          have hJ5 := hJ1.below hb5
          have hM5 : MvI w2.heap.size _ _ _ := MidOwn.below hM1' hb5
          have hB5 := below_tr hB1 hb5
          have hbs5 := Nat.le_trans hbs1 hb5.size
          clear hJc4 hJc5 hT4 hT5
          go_wp2_with fail
          refine (isp hJ5 t hM5 hs.out).mono ?_
          rintro e w8 ⟨rfl, hb8⟩
          go_wp2_with fail
          refine (isp (hJ5.below hb8) 0 (hM5.below hb8) hs.out).mono ?_
          rintro e w9 ⟨rfl, hb9⟩
          have hFB := below_tr (below_tr hB5 hb8) hb9
          have hFS := Nat.le_trans (Nat.le_trans hbs5 hb8.size) hb9.size
          have hFJ := (hJ5.below hb8).below hb9
          have hFM := MidOwn.below (MidOwn.below hM5 hb8) hb9
          go_wp2_with fail
          exact ⟨⟨i + 1, _, hi1, by go_num, hFJ, hFM, hs, hFB, hFS⟩, by simp [intOf]; omega⟩
    · go_wp2_with fail
      go_ret
      exact ⟨rfl, hB⟩
end Go.Proofs.Ytilmmmokobhnfaa
