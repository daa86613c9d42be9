/-
  PodsPass: the law's walk (under way: its beginning).; The walk of the statement PodsPass, at its arguments as they are read.
-/
import Derived.Test.YtoobjfpkdlffpaaCPPss9
import Derived.Test.YtoobjfpkdlffpaaCPPss1
section
namespace Go.Proofs.Ytoobjfpkdlffpaa
open Go.RowKit Go.Proofs.Mem
set_option linter.unusedVariables false
set_option linter.unusedSimpArgs false
attribute [local go_sem] Oper.semAt_some
set_option maxHeartbeats 8000000 in
set_option maxRecDepth 100000 in
theorem podsPass_any (w : World) (A : Option Addr) (c : Nat) (l : List Ob) (hA : Sl w 47 (.slice A l.length c) l.length (l.flatMap Ob.cells)) (hok : ∀ x ∈ l, x.Ok w) (hlen : l.length ≤ maxLen) (now : Int) :
    Calls Try.prog 3 #[.slice A l.length c, .int .i64 now] w fun e w' => e = .returned (.bool true) ∧ Below w.heap.size w w' := by
  have HL := Lib.hid (And.intro hA (And.intro hok hlen))
  clear hA hok hlen
  refine (callsIn_wide (n := 7)).1 ?_
  refine callsIn_of_wp_marks Try.func3 rfl trivial ?_ rfl
  simp only [Try.ntmps3, List.size_toArray, List.length_cons, List.length_nil, Nat.reduceAdd, Nat.reduceSub, Array.replicate_succ, Array.replicate_zero, List.push_toArray, List.append_toArray, List.nil_append, List.cons_append]
  refine wpIn_seq ?_
  refine wpIn_wide.2 ?_
  refine wp_hide fun QA HQA => ?_
  go_wp2_with fail
  rw [HQA.out]
  simp only [Exit.then]
  clear HQA
  obtain ⟨W0, hW0⟩ : ∃ W0, W0 = (w.alloc (.cells #[.int .i64 now] 2)).alloc (.cells #[.bool false] 4) := ⟨_, rfl⟩
  have g1 := (Bk.new w 2 #[.int .i64 now]).alloc (.cells #[.bool false] 4)
  have g2 := Bk.new (w.alloc (.cells #[.int .i64 now] 2)) 4 #[.bool false]
  rw [World.size_alloc] at g2
  have gB : Below w.heap.size w W0 := by
    rw [hW0]
    exact below_tr (below_al _ _) (below_al _ _)
  have gz : W0.heap.size = w.heap.size + 2 := by rw [hW0]; simp
  rw [← hW0] at g1 g2 ⊢
  clear hW0
  have HG := Lib.hid (And.intro g1 (And.intro g2 (And.intro gB gz)))
  clear g1 g2 gB gz
  refine wpIn_seq ?_
  refine wpIn_wide.2 ?_
  refine wp_hide fun QB HQB => ?_
  go_wp2_with fail
  refine (stocked_any W0 A c l (HL.out.1.below HG.out.2.2.1) (fun x hx => (HL.out.2.1 x hx).below HG.out.2.2.1) HL.out.2.2).mono ?_
  rintro e W1 ⟨hS, b1⟩
  have HS := Lib.hid b1
  clear b1
  rcases hS with rfl | ⟨p, b, evs, cl, rfl, hM, hev⟩
  · go_wp2_with fail
    rw [HQB.out]
    simp only [Exit.then]
    clear HQB
    have k5 := Bk.new W1 23 #[.pointer none]
    have b2 := below_al W1 (.cells #[.pointer none] 23)
    obtain ⟨W2, hW2⟩ : ∃ W2, W2 = W1.alloc (.cells #[.pointer none] 23) := ⟨_, rfl⟩
    obtain ⟨r5, hr5⟩ : ∃ r, r = W1.heap.size := ⟨_, rfl⟩
    rw [← hW2, ← hr5] at k5 ⊢
    rw [← hW2] at b2
    have H2 := Lib.hid (And.intro k5 (And.intro (HG.out.2.1.below' (below_tr HS.out b2)) (below_tr HG.out.2.2.1 (below_tr HS.out b2))))
    clear k5 b2 hW2 hr5
    refine wpIn_seq ?_
    refine wpIn_wide.2 ?_
    refine wp_hide fun QC HQC => ?_
    go_wp2_with fail
    refine (lives14_any W2).mono ?_
    rintro e W3 ⟨rfl, b3⟩
    have e5 := (H2.out.1.below' b3).cell 0
    have H3 := Lib.hid b3
    clear b3
    go_wp2_with fail
    refine (lives14_any W3).mono ?_
    rintro e W4 ⟨rfl, b4⟩
    have k4 := H2.out.2.1.below' (below_tr H3.out b4)
    have e4 := k4.cell 0
    have f4 := k4.frozen 0
    have H4 := Lib.hid (And.intro k4 (below_tr H2.out.2.2 (below_tr H3.out b4)))
    clear b4 k4 e5
    go_wp2_with fail
    rw [HQC.out]
    simp only [Exit.then]
    obtain ⟨W5, hW5⟩ : ∃ W5, W5 = W4.setCell ⟨w.heap.size + 1, 0, none⟩ (.bool true) := ⟨_, rfl⟩
    have k6 : Bk W5 (w.heap.size + 1) 4 #[.bool true] := by
      rw [hW5]
      exact H4.out.1.set 0 (.bool true)
    have B6 : Below w.heap.size w W5 := by
      rw [hW5]
      exact H4.out.2.setCell (p := ⟨w.heap.size + 1, 0, none⟩) (by show w.heap.size ≤ w.heap.size + 1; omega) _
    rw [← hW5]
    clear hW5 e4 f4
    refine marks_leave [] _ List.nodup_nil (fun D h => by cases h) fun w' a1 a2 a3 a4 a5 => ?_
    have k9 : Bk w' (w.heap.size + 1) 4 #[.bool true] := (a5 _ (by simp)).trans k6
    have hc5 := k9.cell 0
    refine ⟨.bool true, ?_, rfl, ⟨a1.trans B6.os, a2.trans B6.tape, a3.trans B6.output, by rw [a4]; exact B6.size, fun i hi => (a5 i (by simp)).trans (B6.block i hi)⟩⟩
    simp [results, Try.results3, go_sem, hc5]
  · have HM := Lib.hid (And.intro hM hev)
    clear hM hev
    go_wp2_with fail
    rw [HQB.out]
    simp only [Exit.then]
    clear HQB
    have k5 := Bk.new W1 23 #[.pointer (some ⟨p, 0, none⟩)]
    have b2 := below_al W1 (.cells #[.pointer (some ⟨p, 0, none⟩)] 23)
    obtain ⟨W2, hW2⟩ : ∃ W2, W2 = W1.alloc (.cells #[.pointer (some ⟨p, 0, none⟩)] 23) := ⟨_, rfl⟩
    obtain ⟨r5, hr5⟩ : ∃ r, r = W1.heap.size := ⟨_, rfl⟩
    rw [← hW2, ← hr5] at k5 ⊢
    rw [← hW2] at b2
    have H2 := Lib.hid (And.intro k5 (And.intro (below_tr HG.out.2.2.1 (below_tr HS.out b2)) (And.intro (HM.out.1.below b2) hr5)))
    have H2b := Lib.hid b2
    clear k5 b2 hW2 hr5
    refine wpIn_seq ?_
    refine wpIn_wide.2 ?_
    refine wp_hide fun QC HQC => ?_
    go_wp2_with fail
    refine (lives14_any W2).mono ?_
    rintro e W3 ⟨rfl, b3⟩
    have e5 := (H2.out.1.below' b3).cell 0
    have H3 := Lib.hid (And.intro (H2.out.1.below' b3) (And.intro (below_tr H2.out.2.1 b3) (And.intro (H2.out.2.2.1.below b3) b3)))
    clear b3
    go_wp2_with fail
    rw [HQC.out]
    simp only [Exit.then]
    clear HQC
    refine wpIn_seq ?_
    refine wpIn_wide.2 ?_
    refine wp_hide fun QD HQD => ?_
    go_wp2_with fail
    refine (s8_copy2 H3.out.2.2.1 (by have := HM.out.2; omega)).mono ?_
    rintro e W4 ⟨⟨p2, b2, rfl, hM2, hK2⟩, b4⟩
    have H4 := Lib.hid (And.intro hM2 (And.intro hK2 b4))
    clear hM2 hK2 b4 e5
    go_wp2_with fail
    rw [HQD.out]
    simp only [Exit.then]
    clear HQD
    have k6 := Bk.new W4 23 #[.pointer (some ⟨p2, 0, none⟩)]
    have b5 := below_al W4 (.cells #[.pointer (some ⟨p2, 0, none⟩)] 23)
    obtain ⟨W5, hW5⟩ : ∃ W5, W5 = W4.alloc (.cells #[.pointer (some ⟨p2, 0, none⟩)] 23) := ⟨_, rfl⟩
    obtain ⟨r6, hr6⟩ : ∃ r, r = W4.heap.size := ⟨_, rfl⟩
    rw [← hW5, ← hr6] at k6 ⊢
    rw [← hW5] at b5
    have b35 := below_tr H4.out.2.2 b5
    have b05 := below_tr H3.out.2.1 b35
    have hr6' : r6 + 1 = W5.heap.size := by rw [hW5, hr6]; simp
    have H5 := Lib.hid (And.intro (H3.out.1.below' b35) (And.intro k6 (And.intro (H3.out.2.2.1.below b35) (And.intro b5 (And.intro b05 (And.intro (HG.out.1.below' (below_tr HS.out (below_tr H2b.out (below_tr H3.out.2.2.2 b35)))) (And.intro (HG.out.2.1.below' (below_tr HS.out (below_tr H2b.out (below_tr H3.out.2.2.2 b35)))) (And.intro hr6 hr6'))))))))
    clear k6 b5 b35 b05 hW5 hr6 hr6'
    have e5 := H5.out.1.cell 0
    refine wpIn_seq ?_
    refine wpIn_wide.2 ?_
    refine wp_hide fun QE HQE => ?_
    go_wp2_with fail
    refine (s8_now H5.out.2.2.1).mono ?_
    rintro e W6 ⟨rfl, rfl⟩
    go_wp2_with fail
    rw [HQE.out]
    simp only [Exit.then]
    clear HQE
    have e3 := H5.out.2.2.2.2.2.1.cell 0
    refine wpIn_seq ?_
    refine wpIn_wide.2 ?_
    refine wp_hide fun QF HQF => ?_
    go_wp2_with fail
    by_cases hbad : now < 0 ∨ 4611686018427387904 < now
    · refine (pass_bad W6 p now hbad).mono ?_
      rintro e W7 ⟨rfl, b7⟩
      have H7 := Lib.hid (And.intro (H5.out.1.below' b7) (And.intro (H5.out.2.2.1.below b7) (And.intro (below_tr H5.out.2.2.2.2.1 b7) (And.intro (H5.out.2.2.2.2.2.1.below' b7) (H5.out.2.2.2.2.2.2.1.below' b7)))))
      clear b7 e3 e5
      have e3 := H7.out.2.2.2.1.cell 0
      have e5 := H7.out.1.cell 0
      have e4 := H7.out.2.2.2.2.cell 0
      have f4 := H7.out.2.2.2.2.frozen 0
      go_wp2_with fail
      rw [HQF.out]
      simp only [Exit.then]
      clear HQF
      refine wpIn_seq ?_
      refine wpIn_wide.2 ?_
      refine wp_hide fun QG HQG => ?_
      have fin : ∀ (T : Array Value) (Z : World), T.getD 4 undef = .pointer (some ⟨w.heap.size + 1, 0, none⟩) → Bk Z (w.heap.size + 1) 4 #[.bool true] → Below w.heap.size w Z → LeavesInM Fence.wide 7 Try.prog Try.f3 T (fun e w' => e = .returned (.bool true) ∧ Below w.heap.size w w') (([] : List Nat).map fun D => ({ target := .collected D, args := #[] } : Deferred)) .returning Z := by
        intro T Z hT k6 B6
        refine marks_leave [] _ List.nodup_nil (fun D h => by cases h) fun w' a1 a2 a3 a4 a5 => ?_
        have k9 : Bk w' (w.heap.size + 1) 4 #[.bool true] := (a5 _ (by simp)).trans k6
        have hc5 := k9.cell 0
        refine ⟨.bool true, ?_, rfl, ⟨a1.trans B6.os, a2.trans B6.tape, a3.trans B6.output, by rw [a4]; exact B6.size, fun i hi => (a5 i (by simp)).trans (B6.block i hi)⟩⟩
        have hT' : T[4]?.getD undef = .pointer (some ⟨w.heap.size + 1, 0, none⟩) := by rw [← hT, Array.getD_eq_getD_getElem?]
        simp [results, Try.results3, go_sem, hc5, hT']
      have FIN := Lib.hid fin
      clear fin
      rcases hbad with hb | hb
      · go_wp2_with fail
        refine (s8_now H7.out.2.1).mono ?_
        rintro e W8 ⟨rfl, rfl⟩
        go_wp2_with fail
        rw [HQG.out]
        simp only [Exit.then]
        exact FIN.out _ _ rfl (H7.out.2.2.2.2.set 0 (.bool true)) (H7.out.2.2.1.setCell (p := ⟨w.heap.size + 1, 0, none⟩) (by show w.heap.size ≤ w.heap.size + 1; omega) _)
      · have hb1 : ¬ now < 0 := by omega
        go_wp2_with fail
        refine (s8_now H7.out.2.1).mono ?_
        rintro e W8 ⟨rfl, rfl⟩
        go_wp2_with fail
        rw [HQG.out]
        simp only [Exit.then]
        exact FIN.out _ _ rfl (H7.out.2.2.2.2.set 0 (.bool true)) (H7.out.2.2.1.setCell (p := ⟨w.heap.size + 1, 0, none⟩) (by show w.heap.size ≤ w.heap.size + 1; omega) _)
    · have hgd : 0 ≤ now ∧ now ≤ 4611686018427387904 := by omega
      have hcl60 : evs.length + cl.length ≤ 400 := by
        obtain ⟨_, _, _, _, _, _, _, hcl, _⟩ := H5.out.2.2.1
        have := HM.out.2
        omega
      have hB6 : W0.heap.size ≤ W6.heap.size := by
        have h1 := HS.out.size
        have h2 := H2b.out.size
        have h3 := H3.out.2.2.2.size
        have h4 := H4.out.2.2.size
        have h5 := H5.out.2.2.2.1.size
        omega
      have HGD := Lib.hid (And.intro hgd (And.intro hcl60 hB6))
      have hn1 : ¬ now < 0 := fun h => hbad (.inl h)
      have hn2 : ¬ 4611686018427387904 < now := fun h => hbad (.inr h)
      clear hbad hgd hcl60 hB6
      refine (pass_any H5.out.2.2.1 HGD.out.2.1 HGD.out.2.2 now HGD.out.1).mono ?_
      rintro e W7 ⟨Av, cv, evs7, rfl, hS7, he7, hK7⟩
      have H7 := Lib.hid (And.intro hS7 (And.intro he7 (And.intro hK7 (H4.out.2.1 W6 W7 H5.out.2.2.2.1 hK7))))
      clear hS7 he7 hK7 e3 e5
      obtain ⟨n1, D1, ev1, st1, R1, hlow1, _⟩ := id HM.out.1
      have hps1 : ∀ j, PS p b ev1 j → W0.heap.size ≤ j ∧ j < W1.heap.size := fun j hj => ⟨ps_low st1 hlow1 hj, ps_lt st1 hj⟩
      have b16 : Below W1.heap.size W1 W6 := below_tr H2b.out (below_tr H3.out.2.2.2 (below_tr H4.out.2.2 H5.out.2.2.2.1))
      have hT7 := H7.out.2.2.1.tch (Nat.le_refl _) (keep_cell b16 st1.cells.2.2.2)
      have hgz := HG.out.2.2.2
      have hr5 := H2.out.2.2.2
      have hr6 := H5.out.2.2.2.2.2.2.2.1
      have h14 : W1.heap.size ≤ W4.heap.size := by
        have h2 := H2b.out.size
        have h3 := H3.out.2.2.2.size
        have h4 := H4.out.2.2.size
        omega
      have q3 := hT7.bk H5.out.2.2.2.2.2.1 (fun h => by have := hps1 _ h; omega)
      have q4 := hT7.bk H5.out.2.2.2.2.2.2.1 (fun h => by have := hps1 _ h; omega)
      have q5 := hT7.bk H5.out.1 (fun h => by have := hps1 _ h; omega)
      have q6 := hT7.bk H5.out.2.1 (fun h => by have := hps1 _ h; omega)
      have bW7 : Below w.heap.size w W7 := by
        have h1 := H5.out.2.2.2.2.1
        exact h1.trans (hT7.low h1.size fun j hj => by have := (hps1 j hj).1; omega)
      have H8 := Lib.hid (And.intro q3 (And.intro q4 (And.intro q5 (And.intro q6 bW7))))
      have e3 := q3.cell 0
      clear st1 R1 hps1 b16 hT7 hgz hr5 hr6 h14 q3 q4 q5 q6 bW7 hlow1
      go_wp2_with fail
      rw [HQF.out]
      simp only [Exit.then]
      clear HQF
      refine wpIn_seq ?_
      refine wpIn_wide.2 ?_
      refine wp_hide fun QG HQG => ?_
      go_wp2_with fail
      rw [HQG.out]
      simp only [Exit.then]
      clear HQG
      refine wpIn_seq ?_
      refine wpIn_wide.2 ?_
      refine wp_hide fun QH HQH => ?_
      go_wp2_with fail
      rw [HQH.out]
      simp only [Exit.then]
      clear HQH
      have k10 := Bk.new W7 3 #[.int .i64 0]
      have b9 := below_al W7 (.cells #[.int .i64 0] 3)
      obtain ⟨W9, hW9⟩ : ∃ W9, W9 = W7.alloc (.cells #[.int .i64 0] 3) := ⟨_, rfl⟩
      rw [← hW9] at k10 b9 ⊢
      clear hW9
      obtain ⟨cnt, hcnt⟩ : ∃ cnt, cnt = cntT cl now (nms cl 1).length := ⟨_, rfl⟩
      rw [← hcnt]
      have H9 := Lib.hid (And.intro k10 (And.intro b9 hcnt))
      clear k10 b9 hcnt e3
      refine wpIn_seq ?_
      refine wpIn_hide fun QL HQL => ?_
      refine wpIn_seq ?_
      refine wpIn_wide.2 ?_
      refine wp_hide fun QI HQI => ?_
      go_wp2_with fail
      rw [HQI.out]
      simp only [Exit.then]
      clear HQI
      refine wpIn_block ?_
      refine wpIn_loop (IsPI W7 w.heap.size r5 r6 Av cnt cv cl now) (fun a _ => ppK a) (isPI_intro (ms := []) _ 0 (by kernel_rfl) (by omega) ⟨List.nodup_nil, fun D h => (by cases h), H9.out.1, H9.out.2.1⟩) ?_
      rintro a W ⟨k, f, ms, hk, rfl, hI⟩
      have HI := Lib.hid hI
      clear hI
      unfold ppF
      by_cases hlt : k < 5
      · have hlt2 : (k : Int) < 5 := by omega
        refine wpIn_seq ?_
        refine wpIn_wide.2 ?_
        refine wp_hide fun QM HQM => ?_
        go_wp2_with fail
        rw [HQM.out]
        simp only [Exit.then]
        clear HQM
        refine wpIn_seq ?_
        refine wpIn_wide.2 ?_
        refine wp_hide fun QN HQN => ?_
        go_wp2_with fail
        rw [HQN.out]
        simp only [Exit.then]
        clear HQN
        refine wpIn_seq ?_
        refine wpIn_hide fun QF HQF => ?_
        refine wpIn_block ?_
        refine wpIn_seq ?_
        refine wpIn_wide.2 ?_
        refine wp_hide fun QO HQO => ?_
        go_wp2_with fail
        rw [HQO.out]
        simp only [Exit.then]
        clear HQO
        obtain ⟨V1, hV1⟩ : ∃ V1, V1 = W.alloc (.cells #[.int .i64 k] 3) := ⟨_, rfl⟩
        have m1 := Bk.new W 3 #[.int .i64 k]
        have mB := below_al W (.cells #[.int .i64 k] 3)
        have mz : V1.heap.size = W.heap.size + 1 := by rw [hV1]; simp
        rw [← hV1] at m1 mB ⊢
        clear hV1
        obtain ⟨q, hq⟩ : ∃ q, q = W.heap.size := ⟨_, rfl⟩
        rw [← hq] at m1 mz ⊢
        have hr6w := H8.out.2.2.2.1.below' (below_tr HI.out.low mB)
        have e6 := hr6w.cell 0
        have e11 := m1.cell 0
        have HM1 := Lib.hid (And.intro m1 (And.intro mB (And.intro mz hq)))
        clear m1 mB mz hq hr6w
        refine wpIn_seq ?_
        refine wpIn_wide.2 ?_
        refine wp_hide fun QJ HQJ => ?_
        go_wp2_with fail
        refine (list_any p2 k V1).mono ?_
        rintro e V2 ⟨rfl, rfl⟩
        go_wp2_with fail
        rw [HQJ.out]
        simp only [Exit.then]
        clear HQJ
        refine wpIn_block ?_
        obtain ⟨WL, hWL⟩ : ∃ WL, WL = (V1.alloc (.cells #[.pointer (some ⟨p2, 0, none⟩)] 23)).alloc (.cells #[.int .i64 k] 3) := ⟨_, rfl⟩
        have l1 := (Bk.new V1 23 #[.pointer (some ⟨p2, 0, none⟩)]).alloc (.cells #[.int .i64 k] 3)
        have l2 := Bk.new (V1.alloc (.cells #[.pointer (some ⟨p2, 0, none⟩)] 23)) 3 #[.int .i64 k]
        rw [World.size_alloc] at l2
        have lB : Below V1.heap.size V1 WL := by
          rw [hWL]
          exact below_tr (below_al _ _) (below_al _ _)
        have lz : WL.heap.size = V1.heap.size + 2 := by rw [hWL]; simp
        rw [← hWL] at l1 l2 ⊢
        clear hWL e6 e11
        have HL1 := Lib.hid (And.intro l1 (And.intro l2 (And.intro lB lz)))
        clear l1 l2 lB lz
        have HBW : Below W.heap.size W WL := below_tr HM1.out.2.1 HL1.out.2.2.1
        have HB7 : Below W7.heap.size W7 WL := below_tr HI.out.low HBW
        obtain ⟨n2, D2, ev2, st2, R2, hlow2, _, hcl2, hgood2⟩ := id H7.out.2.2.2
        have stL := st2.below HB7
        have hmz := HM1.out.2.2.1
        have hq := HM1.out.2.2.2
        have hlz := HL1.out.2.2.2
        have hbn := HI.out.bn.lt
        have hp2 := st2.2.1.lt
        have hb2 := st2.2.2.1.lt
        have hev := HM.out.2
        refine wpIn_rangeFunc_know (n := 7) rfl (by omega) (gf := 30) (lb := #[.pointer (some ⟨V1.heap.size, 0, none⟩), .pointer (some ⟨V1.heap.size + 1, 0, none⟩)]) rfl trivial (enters_of Try.func30 rfl rfl)
          (list_knows (p := p2) (b := b2) (n := n2) (D := D2) (F := fun j => j = W7.heap.size) (cl := cl) 6 (by omega) (k : Int) ?hcl WL ?hp ?hmp ?hR ?hbs ?hbk ?hF) KeepL.trans ?hKb (Below.refl _ _) (fun _ => rfl)
          (IsPR W7 q ms cl now k) (fun _ _ _ => False) ?hI (fun _ _ _ _ _ hs _ _ => hs) ?h0 (IsPpAx cl w.heap.size r5 r6 W7.heap.size Av cnt cv k q) ?hAx ?assign ?body ?done ?stop
        case hcl => omega
        case hp => exact stL.cells.2.1
        case hmp => exact stL.2.2.1
        case hR => exact {
          size := R2.size
          at1 := fun x hx => by
            obtain ⟨h1, y, h2, h3, h4⟩ := R2.at1 x hx
            exact ⟨h1, y, h2, safe_less (safe_old h3.ok HB7) (fun j hj => Nat.le_of_eq hj.symm), h4⟩
          at0 := R2.at0
          ok := R2.ok
          uniq := R2.uniq }
        case hbs => exact HL1.out.1.cell 0
        case hbk => exact HL1.out.2.1.cell 0
        case hF => exact ⟨by omega, by omega, by omega, by omega⟩
        case hKb => exact fun W l o o' hl ho hc hw => KeepL.put W l o o' hl ho hc hw
        case hI => exact IsPR.own (by omega) (by omega)
        case h0 =>
          exact {
            mark := fun D hD => by
              obtain ⟨d1, d2⟩ := HI.out.mark D hD
              have d3 := (Array.getElem?_eq_some_iff.1 d1).1
              exact ⟨(HBW.block D d3).trans d1, d2, by omega⟩
            bn := by
              have := HI.out.bn.below' HBW
              rw [← cntJ_start] at this
              exact this
            bk := HM1.out.1.below' HL1.out.2.2.1
            low := HB7
            zs := by omega }
        case hAx =>
          rintro pre x a' s A A' row ⟨q', f', e, hq', hb', z, hz, k1, k2, k3, ho⟩ hg hr
          have hr2 : ∀ r, row = some r → ∃ o : Obj, A.heap[r]? = some o ∧ o.isCells = false := fun r e => (hr r e).2
          exact ⟨q', f', e, hq', bk_kept hb' hg hr2, z, hz, k1, k2, k3, ok_kept ho hg hr2⟩
        case assign =>
          intro l pre x A K hA hKn hK
          have h47 : Is47 x.cells.toArray := cells_is x (by obtain ⟨z, hz, h1, h2, h3, h4⟩ := hKn; exact h4)
          have kz := Bk.new A 57 Z47
          refine wpIn_region_lit ?_
          refine wplI_run (fun _ => trivial) (fun ev => Oper.semAt_some _ _ _ (by intro c h; cases h)) rfl (run_alloc47 rfl _) ?_
          refine wplI_storeg (cs := x.cells.toArray) (fun _ => trivial) (fun ev => Oper.semAt_some _ _ _ (by intro c h; cases h)) kz (by rw [h47.1]; rfl) rfl rfl 57 (.tmp 12) (.tmp 67) rfl (by kernel_rfl) (by kernel_rfl) (info47 h47) h47.2 ?_
          have k2 := setCells_whole kz (show Z47.size = x.cells.toArray.size by rw [h47.1]; rfl)
          have b2 : Below A.heap.size A ((A.alloc (.cells Z47 57)).setCells A.heap.size 0 x.cells.toArray.toList) := below_setCells (g := A.heap.size) x.cells.toArray.toList 0 (below_al A _) (Nat.le_refl _)
          have hzs := hA.zs
          exact hK _ _ ⟨b2.size, fun j o _ hj _ => (b2.block j (Array.getElem?_eq_some_iff.1 hj).1).trans hj⟩ (KeepL.of_below b2 (by omega)) (hA.below b2) (isPpAx_intro _ A.heap.size (by kernel_rfl) hzs k2 (hKn.below b2))
        case body =>
          rintro l pre x _ A hl hlo hA ⟨q2, f', rfl, hq2, hbq, hKn⟩
          unfold ppG
          obtain ⟨z, hz, hzk, hzn, hnf, hok⟩ := id hKn
          obtain ⟨i, hi, rfl⟩ := List.getElem_of_mem hz
          have hu := R2.uniq
          obtain ⟨ex1, ex2⟩ := nf_key hnf
          have hgood := hgood2 _ (List.getElem_mem hi)
          have MA := H7.out.1.below hA.low
          have MC := H7.out.2.2.2.below hA.low
          have hiP : i < (passC cl now evs.length (nms cl 1).length).length := by rw [passC_len]; exact hi
          have hkeyP : (passC cl now evs.length (nms cl 1).length)[i].kind = cl[i].kind ∧ (passC cl now evs.length (nms cl 1).length)[i].name = cl[i].name := by
            rw [passC_get hi]
            split <;> exact ⟨rfl, rfl⟩
          have hfi : findN (k : Int) x.name (passC cl now evs.length (nms cl 1).length) = some i := by
            have := findN_of (l := passC cl now evs.length (nms cl 1).length) (by rw [passC_keys]; exact hu) hiP
            rw [hkeyP.1, hkeyP.2, hzk] at this
            rw [ex2]
            exact this
          have hkx : KeyOk ((k : Int), x.name) := by
            have := Ob.Ok.keyOk hok
            rw [ex1, hzk] at this
            exact this
          have CG := Lib.hid (CallsIn.inRound l ((callsIn_wide (n := 4)).2 (s8_get MA (k : Int) x.name hkx)))
          have e5 := (H8.out.2.2.1.below' hA.low).cell 0
          have e11 := hA.bk.cell 0
          have e12 : A.cell? ⟨q2, 1, none⟩ = some (.string x.name) := hbq.cell 1
          have HX := Lib.hid (And.intro hA (And.intro hbq (And.intro hl (And.intro hlo (And.intro hq2 (And.intro MC hok))))))
          have HY := Lib.hid (And.intro hzk (And.intro hzn (And.intro hnf (And.intro ex1 (And.intro ex2 (And.intro hgood (And.intro hfi (And.intro hu hkx))))))))
          have HZ := Lib.hid (And.intro st2 (And.intro R2 (And.intro hgood2 (And.intro stL (And.intro hmz (And.intro hq (And.intro hlz (And.intro hbn hev))))))))
          clear hz hzk hzn hnf hok hu ex1 ex2 hgood MA MC hiP hkeyP hfi hkx hA hbq hl hlo hq2 hKn st2 R2 hgood2 stL hmz hq hlz hbn hp2 hb2 hev hlow2 hcl2
          refine wpIn_block ?_
          refine wpIn_seq ?_
          refine wpIn_hide fun QP HQP => ?_
          gi_wp2_with fail
          refine ⟨trivial, ?_⟩
          refine CG.out.mono ?_
          rintro e A1 ⟨y, rfl, hys, b1, _, hyn⟩
          obtain ⟨_, hyn⟩ := hyn i HY.out.2.2.2.2.2.2.1
          rw [HY.out.2.2.2.2.2.2.1]
          simp only [Option.isSome_some]
          have h47 := cells_is y hys.1
          have hzz : Z47.size = y.cells.toArray.size := by rw [h47.1]; rfl
          have kz := Bk.new A1 57 Z47
          gi_wp2_with (first | (refine wplI_run (fun _ => trivial) (fun ev => Oper.semAt_some _ _ _ (by intro c h; cases h)) rfl (run_alloc47 rfl _) ?_) | (refine wplI_storeg (cs := y.cells.toArray) (fun _ => trivial) (fun ev => Oper.semAt_some _ _ _ (by intro c h; cases h)) kz hzz rfl rfl 57 (.tmp 13) (.tmp 74) rfl rfl rfl (info47 h47) h47.2 ?_))
          rw [HQP.out]
          simp only [Exit.then]
          clear HQP
          obtain ⟨A2, hA2⟩ : ∃ A2, A2 = (A1.alloc (.cells Z47 57)).setCells A1.heap.size 0 y.cells := ⟨_, rfl⟩
          have b2 : Below A1.heap.size A1 A2 := by
            rw [hA2]
            exact below_setCells (g := A1.heap.size) y.cells.toArray.toList 0 (below_al A1 _) (Nat.le_refl _)
          have k13 : Bk A2 A1.heap.size 57 y.cells.toArray := by rw [hA2]; exact setCells_whole kz hzz
          obtain ⟨r13, hr13⟩ : ∃ r, r = A1.heap.size := ⟨_, rfl⟩
          rw [← hA2, ← hr13]
          rw [← hr13] at k13
          have bA := below_tr b1 b2
          have HAA1 := Lib.hid b1.size
          have HYO := Lib.hid hys.1
          have HB2 := Lib.hid b2
          have H2 := Lib.hid (And.intro (HX.out.1.below bA) (And.intro (HX.out.2.1.below' bA) (And.intro k13 (And.intro bA (And.intro (hys.1.below b2) (And.intro hyn (And.intro hr13 (HX.out.2.2.2.2.2.2.below bA))))))))
          clear hA2 kz hzz h47 hys b1 b2 k13 bA hyn hr13 CG e5 e12
          have e11' := H2.out.1.bk.cell 0
          clear e11
          refine wpIn_seq ?_
          refine wpIn_hide fun QR HQR => ?_
          gi_wp2_with fail
          rw [HQR.out]
          simp only [Exit.then]
          clear HQR
          refine wpIn_seq ?_
          refine wpIn_seq ?_
          refine wpIn_hide fun QS HQS => ?_
          gi_wp2_with fail
          rw [HQS.out]
          simp only [Exit.then]
          clear HQS
          by_cases hk1 : k = 1
          · have hk1' : ((k : Int) == 1) = true := by rw [hk1]; rfl
            have hb2 := H2.out.2.1
            have e6 := (H8.out.2.2.2.1.below' H2.out.1.low).cell 0
            have e12 : A2.cell? ⟨q2, 11, none⟩ = some (.string x.p.node) := hb2.cell 11
            have okx := H2.out.2.2.2.2.2.2.2
            have hkn : KeyOk (2, x.p.node) := ⟨rfl, Nat.le_trans okx.p.node reach_max⟩
            have CG := Lib.hid (CallsIn.inRound l ((callsIn_wide (n := 4)).2 (s8_get (HX.out.2.2.2.2.2.1.below H2.out.2.2.2.1) 2 x.p.node hkn)))
            clear hb2 okx hkn
            refine wpIn_hide fun QT HQT => ?_
            refine wpIn_cond_true (by simp [Act.eval, hk1']) ?_
            refine wpIn_seq ?_
            refine wpIn_hide fun QP HQP => ?_
            gi_wp2_with fail
            refine ⟨trivial, ?_⟩
            refine CG.out.mono ?_
            rintro e A3 ⟨y2, rfl, hys2, b3, _, _⟩
            obtain ⟨th, hth⟩ : ∃ th, th = thereB cl x.p.node := ⟨_, rfl⟩
            rw [show (findN 2 x.p.node cl).isSome = th from hth.symm]
            have HTH := Lib.hid hth
            have h47 := cells_is y2 hys2.1
            have hzz : Z47.size = y2.cells.toArray.size := by rw [h47.1]; rfl
            have kz := Bk.new A3 57 Z47
            clear hth CG e6 e12 hk1'
            gi_wp2_with (first | (refine wplI_run (fun _ => trivial) (fun ev => Oper.semAt_some _ _ _ (by intro c h; cases h)) rfl (run_alloc47 rfl _) ?_) | (refine wplI_storeg (cs := y2.cells.toArray) (fun _ => trivial) (fun ev => Oper.semAt_some _ _ _ (by intro c h; cases h)) kz hzz rfl rfl 57 (.tmp 15) (.tmp 86) rfl rfl rfl (info47 h47) h47.2 ?_))
            rw [HQP.out]
            simp only [Exit.then]
            clear HQP
            obtain ⟨A4, hA4⟩ : ∃ A4, A4 = (A3.alloc (.cells Z47 57)).setCells A3.heap.size 0 y2.cells := ⟨_, rfl⟩
            have b4 : Below A3.heap.size A3 A4 := by
              rw [hA4]
              exact below_setCells (g := A3.heap.size) y2.cells.toArray.toList 0 (below_al A3 _) (Nat.le_refl _)
            rw [← hA4]
            clear hA4 kz hzz h47 hys2
            have b24 := below_tr b3 b4
            have b34 := below_tr H2.out.2.2.2.1 b24
            clear b3 b4
            obtain ⟨r15, hr15⟩ : ∃ r, r = A3.heap.size := ⟨_, rfl⟩
            rw [← hr15]
            clear hr15
            have hk2 := H2.out.2.1.below' b24
            have ok4 := H2.out.2.2.2.2.2.2.2.below b24
            have rp : A4.rangeAt q2 10 x.p.cells := range_sub hk2.range 10 10
            have hpm := pod_may (o := cl[i]) (HY.out.1.trans (by omega)) HY.out.2.2.2.2.2.1
            have hpw := pod_warm hpm.2
            have hnp : (nf x).p = (nf cl[i]).p := by rw [HY.out.2.2.1]
            have ep1 : x.p.node = cl[i].p.node := (congrArg Pd.node hnp : (nf x).p.node = (nf cl[i]).p.node)
            have ep2 : x.p.since = cl[i].p.since := (congrArg Pd.since hnp : (nf x).p.since = (nf cl[i]).p.since)
            have ep3 : x.p.warm = cl[i].p.warm := (congrArg Pd.warm hnp : (nf x).p.warm = (nf cl[i]).p.warm)
            have ep4 : x.p.phase = cl[i].p.phase := (congrArg Pd.phase hnp : (nf x).p.phase = (nf cl[i]).p.phase)
            have CN := Lib.hid (CallsIn.inRound l ((callsIn_wide (n := 4)).2 (next14_any x.p now th A4 (by have := HGD.out.1; unfold tickR; omega) (by have := hpw; unfold tickR; omega) (by omega))))
            have e3 := (H8.out.1.below' (below_tr H2.out.1.low b24)).cell 0
            have H4 := Lib.hid (And.intro hk2 (And.intro ok4 (And.intro rp (And.intro b24 (And.intro b34 (And.intro ep1 (And.intro ep2 (And.intro ep3 ep4))))))))
            clear hk2 ok4 rp b24 b34 hpm hpw hnp ep1 ep2 ep3 ep4
            refine wpIn_seq ?_
            refine wpIn_hide fun QN HQN => ?_
            gi_wp2_with (refine wplI_run (fun _ => trivial) (fun ev => Oper.semAt_some _ _ _ (by intro c h; cases h)) rfl (run_load_at H4.out.2.2.1 44 (.tmp 89) rfl rfl _ Try.underlying44 rfl (by kernel_rfl)) ?_)
            refine ⟨trivial, ?_⟩
            refine CN.out.mono ?_
            rintro e A5 ⟨rfl, b5⟩
            clear CN e3
            obtain ⟨nx, hnx⟩ : ∃ nx, nx = nextPd x.p now th := ⟨_, rfl⟩
            rw [← hnx]
            have HNX := Lib.hid hnx
            clear hnx
            gi_wp2_with fail
            rw [HQN.out]
            simp only [Exit.then]
            clear HQN
            have hpb := pod_behind (th := th) (y := y) (x := x) hi (HY.out.1.trans (by omega)) HY.out.2.2.1 H2.out.2.2.2.2.2.1 HTH.out
            rw [← HNX.out] at hpb
            obtain ⟨hp1, hp2, hp3, hp4⟩ := hpb
            rw [hp1, hp2]
            have HPB := Lib.hid (And.intro hp3 hp4)
            have hk13 := H2.out.2.2.1.below' (below_tr H4.out.2.2.2.1 b5)
            have hk12 := H4.out.1.below' b5
            have e13p : A5.cell? ⟨r13, 12, none⟩ = some (.int .i64 y.p.phase) := hk13.cell 12
            have e13s : A5.cell? ⟨r13, 13, none⟩ = some (.int .i64 y.p.since) := hk13.cell 13
            have e13v : A5.cell? ⟨r13, 2, none⟩ = some (.int .u64 y.version) := hk13.cell 2
            have e12p : A5.cell? ⟨q2, 12, none⟩ = some (.int .i64 x.p.phase) := hk12.cell 12
            have e12s : A5.cell? ⟨q2, 13, none⟩ = some (.int .i64 x.p.since) := hk12.cell 13
            have e12v : A5.cell? ⟨q2, 2, none⟩ = some (.int .u64 x.version) := hk12.cell 2
            have H5 := Lib.hid (And.intro hk13 (And.intro hk12 b5))
            clear hp1 hp2 hp3 hp4 hk13 hk12 b5
            refine wpIn_seq ?_
            refine wpIn_hide fun QX HQX => ?_
            gi_wp2_with fail
            rw [HQX.out]
            simp only [Exit.then]
            clear HQX
            have b15 := below_tr H4.out.2.2.2.2.1 H5.out.2.2
            have hbn5 := (H2.out.1.below (below_tr H4.out.2.2.2.1 H5.out.2.2)).bn
            have ok5x : x.Safe (fun j => j = r13) A5 := safe_less (safe_old HX.out.2.2.2.2.2.2 (below_tr H4.out.2.2.2.2.1 H5.out.2.2)) (fun j hj => by have h1 : j = r13 := hj; have h2 := H2.out.2.2.2.2.2.2.1; have h3 : A.heap.size ≤ A1.heap.size := HAA1.out; omega)
            have ok5y : y.Safe (fun j => j = r13) A5 := safe_less (safe_old HYO.out (below_tr HB2.out (below_tr H4.out.2.2.2.1 H5.out.2.2))) (fun j hj => by have h1 : j = r13 := hj; have h2 := H2.out.2.2.2.2.2.2.1; omega)
            have HR5 := Lib.hid (And.intro b15 (And.intro hbn5 (And.intro ok5x ok5y)))
            clear b15 hbn5 ok5x ok5y
            refine wpIn_seq ?_
            refine wpIn_mono (Q := fun e a Z => e = .normal ∧ (∃ f, a = ⟨ppT q2 r13 f, []⟩) ∧ Rnd W7.heap.size A Z ∧ Bk Z W7.heap.size 3 #[.int .i64 (cntJ cl now k (pre ++ [x]).length)] ∧ Bk Z q2 57 x.cells.toArray ∧ Bk Z r13 57 y.cells.toArray ∧ x.Safe (fun j => j = r13) Z ∧ y.Safe (fun j => j = r13) Z) ?_ ?_
            · have hCN : cntJ cl now k (pre ++ [x]).length = cntJ cl now k pre.length + (if turnsB cl now cl[i] then 1 else 0) := by
                unfold cntJ
                rw [if_pos hk1, if_pos hk1, List.length_append]
                have hn1 := HY.out.2.1
                rw [hk1] at hn1
                exact cntT_next HY.out.2.2.2.2.2.2.2.1 (List.getElem_mem hi) (HY.out.1.trans (by omega)) hn1
              have hC9 : cntJ cl now k pre.length < 1000 := by
                unfold cntJ
                rw [if_pos hk1]
                have := cntT_le (cl := cl) (now := now) (k := pre.length)
                have := HGD.out.2.1
                omega
              obtain ⟨C, hC⟩ : ∃ C, C = cntJ cl now k pre.length := ⟨_, rfl⟩
              have hz5 : Bk A5 W7.heap.size 3 #[.int .i64 C] := by
                rw [hC]
                exact HR5.out.2.1
              have e10 := hz5.cell 0
              have f10 := hz5.frozen 0
              rw [← hC] at hCN hC9
              have HZ5 := Lib.hid (And.intro hz5 (And.intro hCN hC9))
              clear hz5 hCN hC9 hC
              obtain ⟨ph, hph0⟩ : ∃ ph, ph = y.p.phase := ⟨_, rfl⟩
              obtain ⟨si, hsi0⟩ : ∃ si, si = y.p.since := ⟨_, rfl⟩
              obtain ⟨vr, hvr0⟩ : ∃ vr, vr = y.version := ⟨_, rfl⟩
              rw [← hph0] at e13p ⊢
              rw [← hsi0] at e13s ⊢
              rw [← hvr0] at e13v
              have hpb := HPB.out.1
              have hpv := HPB.out.2
              rw [← hph0, ← hsi0] at hpb
              rw [← hvr0] at hpv
              have HP9 := Lib.hid (And.intro hpb hpv)
              clear hpb hpv hph0 hsi0 hvr0 HPB
              refine wpIn_hide fun QY HQY => ?_
              cases hph : ph == x.p.phase with
              | false =>
                have ht : turnsB cl now cl[i] = true := by
                  have h1 := HP9.out.1
                  rw [hph] at h1
                  simpa using h1.symm
                have HPH := Lib.hid hph
                gi_wp2_with fail
                rw [HQY.out]
                exact ⟨rfl, ppT_of _ (by kernel_rfl), count_put HR5.out.1 HZ5.out.1 HZ5.out.2.2 H5.out.2.1 H5.out.1 HR5.out.2.2.1 HR5.out.2.2.2 _ (by rw [HZ5.out.2.1, ht]; rfl)⟩
              | true =>
                cases hsi : si == x.p.since with
                | false =>
                  have ht : turnsB cl now cl[i] = true := by
                    have h1 := HP9.out.1
                    rw [hph, hsi] at h1
                    simpa using h1.symm
                  gi_wp2_with fail
                  rw [HQY.out]
                  exact ⟨rfl, ppT_of _ (by kernel_rfl), count_put HR5.out.1 HZ5.out.1 HZ5.out.2.2 H5.out.2.1 H5.out.1 HR5.out.2.2.1 HR5.out.2.2.2 _ (by rw [HZ5.out.2.1, ht]; rfl)⟩
                | true =>
                  have ht : turnsB cl now cl[i] = false := by
                    have h1 := HP9.out.1
                    rw [hph, hsi] at h1
                    simpa using h1.symm
                  have hver := HP9.out.2 ht
                  rw [hver] at e13v
                  clear hver
                  gi_wp2_with fail
                  rw [HQY.out]
                  exact ⟨rfl, ppT_of _ (by kernel_rfl), Rnd.of HR5.out.1, by rw [HZ5.out.2.1, ht]; exact HZ5.out.1, H5.out.2.1, H5.out.1, HR5.out.2.2.1, HR5.out.2.2.2⟩
            · rintro e a Z ⟨rfl, ⟨f9, rfl⟩, hR, hc, hkq, hkr, okx, oky⟩
              simp only [Exit.then]
              unfold ppT
              have hne : q2 ≠ r13 := by
                have h1 := HX.out.2.1.lt
                have h2 := H2.out.2.2.2.2.2.2.1
                have h3 := H2.out.2.2.2.1.size
                have h4 := hkq
                intro e
                have hA1 : A.heap.size ≤ A1.heap.size := HAA1.out
                omega
              have HT9 := Lib.hid (And.intro hR (And.intro hc (And.intro hkq (And.intro hkr (And.intro okx (And.intro oky hne))))))
              have hb9 : Below Z.heap.size Z Z.drew := (Below.refl _ _).drew
              have hkq0 := hkq.below' hb9
              clear hR hc hkq hkr okx oky hne
              refine wpIn_region_sched (plain_some (fun _ => trivial) rfl (by rfl)) [0, 1, 2, 3, 4, 5, 6, 7] [8, 9, 10, 11, 12, 13, 14, 15] [] (fun i => !(i == 2 || i == 5 || i == 7)) (fun w' => Bk w' q2 57 x.cells.toArray) (by kernel_rfl) (by kernel_rfl) (fun c a d v w h => by rw [HQT.out] at h ⊢; cases d <;> exact h) hkq0 fun u0 Hu => ?_
              refine readsI_free (v := ?_) (by rfl) (by rfl) (fun w' => ?_) ?_
              rotate_left
              · go_simp
                with_reducible rfl
              simp only [Act.put, List.setIfInBounds_toArray, List.set_cons_zero, List.set_cons_succ, List.getElem_toArray, List.getElem_cons_succ, List.getElem_cons_zero]
              refine readsI_free (v := ?_) (by rfl) (by rfl) (fun w' => ?_) ?_
              rotate_left
              · go_simp
                with_reducible rfl
              simp only [Act.put, List.setIfInBounds_toArray, List.set_cons_zero, List.set_cons_succ, List.getElem_toArray, List.getElem_cons_succ, List.getElem_cons_zero]
              refine readsI_step (v := ?_) (by rfl) (by rfl) (by rfl) (fun w' hS => ?_) ?_
              rotate_left
              · have u1 : w'.cell? ⟨q2, 12, none⟩ = some (.int .i64 x.p.phase) := hS.cell 12
                clear hS
                go_simp
                with_reducible rfl
              simp only [Act.put, List.setIfInBounds_toArray, List.set_cons_zero, List.set_cons_succ, List.getElem_toArray, List.getElem_cons_succ, List.getElem_cons_zero]
              refine readsI_free (v := ?_) (by rfl) (by rfl) (fun w' => ?_) ?_
              rotate_left
              · go_simp
                with_reducible rfl
              simp only [Act.put, List.setIfInBounds_toArray, List.set_cons_zero, List.set_cons_succ, List.getElem_toArray, List.getElem_cons_succ, List.getElem_cons_zero]
              refine readsI_free (v := ?_) (by rfl) (by rfl) (fun w' => ?_) ?_
              rotate_left
              · go_simp
                with_reducible rfl
              simp only [Act.put, List.setIfInBounds_toArray, List.set_cons_zero, List.set_cons_succ, List.getElem_toArray, List.getElem_cons_succ, List.getElem_cons_zero]
              refine readsI_step (v := ?_) (by rfl) (by rfl) (by rfl) (fun w' hS => ?_) ?_
              rotate_left
              · have u1 : w'.cell? ⟨q2, 13, none⟩ = some (.int .i64 x.p.since) := hS.cell 13
                clear hS
                go_simp
                with_reducible rfl
              simp only [Act.put, List.setIfInBounds_toArray, List.set_cons_zero, List.set_cons_succ, List.getElem_toArray, List.getElem_cons_succ, List.getElem_cons_zero]
              refine readsI_free (v := ?_) (by rfl) (by rfl) (fun w' => ?_) ?_
              rotate_left
              · go_simp
                with_reducible rfl
              simp only [Act.put, List.setIfInBounds_toArray, List.set_cons_zero, List.set_cons_succ, List.getElem_toArray, List.getElem_cons_succ, List.getElem_cons_zero]
              refine readsI_step (v := ?_) (by rfl) (by rfl) (by rfl) (fun w' hS => ?_) ?_
              rotate_left
              · have u1 : w'.cell? ⟨q2, 2, none⟩ = some (.int .u64 x.version) := hS.cell 2
                clear hS
                go_simp
                with_reducible rfl
              simp only [Act.put, List.setIfInBounds_toArray, List.set_cons_zero, List.set_cons_succ, List.getElem_toArray, List.getElem_cons_succ, List.getElem_cons_zero]
              refine readsI_nil ?_
              rw [← Hu.out] at hb9
              have q0 := HT9.out.2.2.1.below' hb9
              have k0 := HT9.out.2.2.2.1.below' hb9
              have c0 : u0.cell? ⟨r13, 12, none⟩ = some (.int .i64 y.p.phase) := k0.cell 12
              have f0 := k0.frozen 12
              have q1 : Bk (u0.setCell ⟨r13, 12, none⟩ (.int .i64 x.p.phase)) q2 57 x.cells.toArray := q0.far HT9.out.2.2.2.2.2.2 _
              have k1 := k0.set 12 (.int .i64 x.p.phase)
              obtain ⟨u1, hu1⟩ : ∃ u1, u1 = u0.setCell ⟨r13, 12, none⟩ (.int .i64 x.p.phase) := ⟨_, rfl⟩
              rw [← hu1] at k1 q1
              have c1 : u1.cell? ⟨r13, 13, none⟩ = some (.int .i64 y.p.since) := (k1.cell 13).trans (by kernel_rfl)
              have f1 := k1.frozen 13
              have q2' : Bk (u1.setCell ⟨r13, 13, none⟩ (.int .i64 x.p.since)) q2 57 x.cells.toArray := q1.far HT9.out.2.2.2.2.2.2 _
              have k2 := k1.set 13 (.int .i64 x.p.since)
              obtain ⟨u2, hu2⟩ : ∃ u2, u2 = u1.setCell ⟨r13, 13, none⟩ (.int .i64 x.p.since) := ⟨_, rfl⟩
              rw [← hu2] at k2 q2'
              have c2 : u2.cell? ⟨r13, 2, none⟩ = some (.int .u64 y.version) := (k2.cell 2).trans (by kernel_rfl)
              have f2 := k2.frozen 2
              have q3 : Bk (u2.setCell ⟨r13, 2, none⟩ (.int .u64 x.version)) q2 57 x.cells.toArray := q2'.far HT9.out.2.2.2.2.2.2 _
              have k3 := k2.set 2 (.int .u64 x.version)
              obtain ⟨u3, hu3⟩ : ∃ u3, u3 = u2.setCell ⟨r13, 2, none⟩ (.int .u64 x.version) := ⟨_, rfl⟩
              rw [← hu3] at k3 q3
              have HU := Lib.hid (And.intro q0 (And.intro q1 (And.intro q2' (And.intro q3 (And.intro k3 hb9)))))
              have HU1 := Lib.hid hu1
              have HU2 := Lib.hid hu2
              have HU3 := Lib.hid hu3
              clear q0 q1 q2' q3 k0 k1 k2 k3 hb9 hu1 hu2 hu3 hkq0
              refine earlyI_run (v := ?_) (plain_some (fun _ => trivial) rfl (by rfl)) (w1 := u0) (by rfl) (by rfl) ?_ HU.out.1 ?_
              rotate_left
              · go_simp
                with_reducible rfl
              simp only [Act.put, List.setIfInBounds_toArray, List.set_cons_zero, List.set_cons_succ, List.getElem_toArray, List.getElem_cons_succ, List.getElem_cons_zero]
              refine earlyI_run (v := ?_) (plain_some (fun _ => trivial) rfl (by rfl)) (w1 := u0) (by rfl) (by rfl) ?_ HU.out.1 ?_
              rotate_left
              · go_simp
                with_reducible rfl
              simp only [Act.put, List.setIfInBounds_toArray, List.set_cons_zero, List.set_cons_succ, List.getElem_toArray, List.getElem_cons_succ, List.getElem_cons_zero]
              refine earlyI_skip (plain_some (fun _ => trivial) rfl (by rfl)) (w1 := u1) (by rfl) (by rfl) ?_ HU.out.2.1 ?_
              · rw [HU1.out]
                go_simp
              simp only [Act.put, List.setIfInBounds_toArray, List.set_cons_zero, List.set_cons_succ, List.getElem_toArray, List.getElem_cons_succ, List.getElem_cons_zero]
              refine earlyI_run (v := ?_) (plain_some (fun _ => trivial) rfl (by rfl)) (w1 := u1) (by rfl) (by rfl) ?_ HU.out.2.1 ?_
              rotate_left
              · go_simp
                with_reducible rfl
              simp only [Act.put, List.setIfInBounds_toArray, List.set_cons_zero, List.set_cons_succ, List.getElem_toArray, List.getElem_cons_succ, List.getElem_cons_zero]
              refine earlyI_run (v := ?_) (plain_some (fun _ => trivial) rfl (by rfl)) (w1 := u1) (by rfl) (by rfl) ?_ HU.out.2.1 ?_
              rotate_left
              · go_simp
                with_reducible rfl
              simp only [Act.put, List.setIfInBounds_toArray, List.set_cons_zero, List.set_cons_succ, List.getElem_toArray, List.getElem_cons_succ, List.getElem_cons_zero]
              refine earlyI_skip (plain_some (fun _ => trivial) rfl (by rfl)) (w1 := u2) (by rfl) (by rfl) ?_ HU.out.2.2.1 ?_
              · rw [HU2.out]
                go_simp
              simp only [Act.put, List.setIfInBounds_toArray, List.set_cons_zero, List.set_cons_succ, List.getElem_toArray, List.getElem_cons_succ, List.getElem_cons_zero]
              refine earlyI_run (v := ?_) (plain_some (fun _ => trivial) rfl (by rfl)) (w1 := u2) (by rfl) (by rfl) ?_ HU.out.2.2.1 ?_
              rotate_left
              · go_simp
                with_reducible rfl
              simp only [Act.put, List.setIfInBounds_toArray, List.set_cons_zero, List.set_cons_succ, List.getElem_toArray, List.getElem_cons_succ, List.getElem_cons_zero]
              refine earlyI_skip (plain_some (fun _ => trivial) rfl (by rfl)) (w1 := u3) (by rfl) (by rfl) ?_ HU.out.2.2.2.1 ?_
              · rw [HU3.out]
                go_simp
              simp only [Act.put, List.setIfInBounds_toArray, List.set_cons_zero, List.set_cons_succ, List.getElem_toArray, List.getElem_cons_succ, List.getElem_cons_zero]
              refine earlyI_nil ?_
              simp only [List.filterMap_nil]
              show QT .normal _ u3
              rw [HQT.out]
              simp only [Exit.then]
              clear HQT
              obtain ⟨y9, hy9⟩ : ∃ y9 : Ob, y9 = ⟨y.kind, y.name, x.version, y.w, { y.p with phase := x.p.phase, since := x.p.since }, y.n, y.g, y.h⟩ := ⟨_, rfl⟩
              have k9 : Bk u3 r13 57 y9.cells.toArray := by
                have h1 := HU.out.2.2.2.2.1
                rw [hy9]
                exact h1
              have hT3 : Tch (fun j => j = r13) Z u3 := by
                have h0 := HU.out.2.2.2.2.2
                have s1 : ∀ (u : World) (o : Nat) (v : Value), Tch (fun j => j = r13) u (u.setCell ⟨r13, o, none⟩ v) := fun u o v => ⟨rfl, rfl, rfl, by simp [World.setCell], fun j _ hj => Below.heap_setCell u ⟨r13, o, none⟩ v j hj⟩
                rw [HU3.out, HU2.out, HU1.out]
                exact ((((Tch.of_below h0).trans (s1 _ _ _) fun _ _ h => h).trans (s1 _ _ _) fun _ _ h => h).trans (s1 _ _ _) fun _ _ h => h)
              have okx3 : x.Ok u3 := (Ob.Safe.tch (F' := fun _ => False) HT9.out.2.2.2.2.1 hT3 fun _ _ h => h.elim).ok
              have oky3 : y.Ok u3 := (Ob.Safe.tch (F' := fun _ => False) HT9.out.2.2.2.2.2.1 hT3 fun _ _ h => h.elim).ok
              have ok9 : y9.Ok u3 := by
                rw [hy9]
                exact ⟨oky3.kind, oky3.name, okx3.version, oky3.w, ⟨oky3.p.owner, oky3.p.node, okx3.p.phase, okx3.p.since, oky3.p.cpu, oky3.p.mem, oky3.p.labels, oky3.p.select, oky3.p.tolerate, oky3.p.warm⟩, oky3.n, oky3.g, oky3.h⟩
              have hyx : nf y9 = nf x := by
                rw [hy9]
                exact pod_back hi (HY.out.1.trans (by omega)) HY.out.2.2.1 H2.out.2.2.2.2.2.1
              have erx : errO x = 0 := (errO_nf HY.out.2.2.1).trans HY.out.2.2.2.2.2.1
              have ery : errO y9 = 0 := (errO_nf hyx).trans erx
              have hkx : x.kind = (k : Int) := HY.out.2.2.2.1.trans HY.out.1
              have CS := Lib.hid (CallsIn.inRound l ((callsIn_wide (n := 4)).2 (same_eq y9 x u3 k (by omega) ((nf_key hyx).1.trans hkx) hkx ok9 okx3 (obs_of_err ery).2 (obs_of_err erx).2 (objB_nf hyx))))
              have h13 : A.heap.size ≤ r13 := by
                have h2 := H2.out.2.2.2.2.2.2.1
                have h3 : A.heap.size ≤ A1.heap.size := HAA1.out
                omega
              have hBZ : Below A.heap.size Z u3 := ⟨hT3.1, hT3.2.1, hT3.2.2.1, hT3.size, fun j hj => hT3.2.2.2.2 j (by have := HT9.out.1.size; omega) (by show j ≠ r13; omega)⟩
              have HN := Lib.hid (And.intro k9.range (And.intro HU.out.2.2.2.1.range hBZ))
              clear hy9 k9 hT3 okx3 oky3 ok9 hyx erx ery hkx h13 hBZ c0 f0 c1 f1 c2 f2
              gi_wp2_with (first | (refine wplI_run (fun _ => trivial) (fun ev => Oper.semAt_some _ _ _ (by intro c h; cases h)) rfl (run_load_at HN.out.1 57 (.tmp 13) rfl rfl _ Try.underlying57 rfl (by kernel_rfl)) ?_) | (refine wplI_run (fun _ => trivial) (fun ev => Oper.semAt_some _ _ _ (by intro c h; cases h)) rfl (run_load_at HN.out.2.1 57 (.tmp 12) rfl rfl _ Try.underlying57 rfl (by kernel_rfl)) ?_))
              refine ⟨trivial, ?_⟩
              refine CS.out.mono ?_
              rintro e A3' ⟨rfl, b3'⟩
              have HB3 := Lib.hid b3'
              clear b3' CS
              gi_wp2_with fail
              have hsz : A.heap.size ≤ u3.heap.size := Nat.le_trans HT9.out.1.size HN.out.2.2.size
              have hR9 := HT9.out.1.step (HN.out.2.2.trans (HB3.out.mono hsz))
              have hzs := HX.out.1.zs
              have hlz := HZ.out.2.2.2.2.2.2.1
              have hmz := HZ.out.2.2.2.2.1
              have hq := HZ.out.2.2.2.2.2.1
              have hbn9 := HZ.out.2.2.2.2.2.2.2.1
              have hcz := HT9.out.2.1
              have hzA : W7.heap.size < A.heap.size := by
                have := HX.out.1.bn.lt
                exact this
              have hc9 : Bk A3' W7.heap.size 3 #[.int .i64 (cntJ cl now k (pre ++ [x]).length)] := ((HN.out.2.2.trans (HB3.out.mono hsz)).block _ hzA).trans hcz
              exact ⟨hR9.keeps (by omega), hR9.keepL (by omega) (by omega), hR9.pr HX.out.1 (by omega) hc9⟩
          · have hk1' : ((k : Int) == 1) = false := by
              have : ¬ (k : Int) = 1 := by omega
              simpa using this
            refine wpIn_hide fun QT HQT => ?_
            gi_wp2_with fail
            rw [HQT.out]
            simp only [Exit.then]
            clear HQT
            have hyx : nf y = nf x := by
              rw [H2.out.2.2.2.2.2.1, (passC_all hi).1 (by rw [HY.out.1]; omega)]
              exact HY.out.2.2.1.symm
            have erx : errO x = 0 := (errO_nf HY.out.2.2.1).trans HY.out.2.2.2.2.2.1
            have ery : errO y = 0 := (errO_nf hyx).trans erx
            have hkx : x.kind = (k : Int) := HY.out.2.2.2.1.trans HY.out.1
            have CS := Lib.hid (CallsIn.inRound l ((callsIn_wide (n := 4)).2 (same_eq y x A2 k (by omega) ((nf_key hyx).1.trans hkx) hkx H2.out.2.2.2.2.1 H2.out.2.2.2.2.2.2.2 (obs_of_err ery).2 (obs_of_err erx).2 (objB_nf hyx))))
            gi_wp2_with (first | (refine wplI_run (fun _ => trivial) (fun ev => Oper.semAt_some _ _ _ (by intro c h; cases h)) rfl (run_load_at H2.out.2.2.1.range 57 (.tmp 13) rfl rfl _ Try.underlying57 rfl (by kernel_rfl)) ?_) | (refine wplI_run (fun _ => trivial) (fun ev => Oper.semAt_some _ _ _ (by intro c h; cases h)) rfl (run_load_at H2.out.2.1.range 57 (.tmp 12) rfl rfl _ Try.underlying57 rfl (by kernel_rfl)) ?_))
            refine ⟨trivial, ?_⟩
            refine CS.out.mono ?_
            rintro e A3 ⟨rfl, b3⟩
            have HB3 := Lib.hid b3
            clear b3 CS hyx erx ery hkx
            gi_wp2_with fail
            have bA3 := below_tr H2.out.2.2.2.1 HB3.out
            have hA3 := HX.out.1.below bA3
            have hzs := HX.out.1.zs
            have hlz := HZ.out.2.2.2.2.2.2.1
            have hmz := HZ.out.2.2.2.2.1
            have hq := HZ.out.2.2.2.2.2.1
            refine ⟨⟨bA3.size, fun j o _ hj _ => (bA3.block j (Array.getElem?_eq_some_iff.1 hj).1).trans hj⟩, KeepL.of_below bA3 (by omega), ⟨hA3.mark, ?_, hA3.bk, hA3.low, hA3.zs⟩⟩
            have hb := hA3.bn
            have e : cntJ cl now k (pre ++ [x]).length = cntJ cl now k pre.length := by
              unfold cntJ
              rw [if_neg hk1, if_neg hk1]
            rw [e]
            exact hb
        case done =>
          intro D xs A hD hxs hA hmD
          show QF .normal _ A
          rw [HQF.out]
          simp only [Exit.then]
          refine wpIn_wide.2 ?_
          refine wp_hide fun QK HQK => ?_
          go_wp2_with fail
          rw [HQK.out]
          simp only [Exit.then]
          refine ⟨isPI_intro (ms := D :: ms) _ (k + 1) (by kernel_rfl) (by omega) {
            nd := List.nodup_cons.2 ⟨fun h => by
              have := (hA.mark D h).2.2
              omega, HI.out.nd⟩
            mark := fun E hE => by
              rcases List.mem_cons.1 hE with rfl | hE
              · exact ⟨hmD, by omega⟩
              · exact ⟨(hA.mark E hE).1, (hA.mark E hE).2.1⟩
            bn := by
              have h := hA.bn
              rw [show xs.length = (nms cl (k : Int)).length from hxs, cntJ_end] at h
              exact h
            low := hA.low }, ?_⟩
          show 5 - ((k : Int) + 1).toNat < 5 - (k : Int).toNat
          omega
        case stop =>
          rintro D c pre A _ h _
          exact h.elim
      · have hk5 : k = 5 := by omega
        subst hk5
        have hlt2 : ¬ ((5 : Nat) : Int) < 5 := by omega
        refine wpIn_seq ?_
        refine wpIn_wide.2 ?_
        refine wp_hide fun QM HQM => ?_
        go_wp2_with fail
        rw [HQM.out]
        simp only [Exit.then]
        refine wpIn_seq ?_
        refine wpIn_wide.2 ?_
        refine wp_hide fun QN HQN => ?_
        go_wp2_with fail
        rw [HQN.out]
        show QL .normal _ W
        rw [HQL.out]
        simp only [Exit.then]
        clear HQM HQN HQL
        have MW := H7.out.1.below HI.out.low
        have hr5w := H8.out.2.2.1.below' HI.out.low
        have hs0w := H8.out.1.below' HI.out.low
        have e5 := hr5w.cell 0
        have e3 := hs0w.cell 0
        obtain ⟨_, _, _, stM, _, hlowM, _, hclM, _⟩ := id HM.out.1
        obtain ⟨n2, D2, ev2, st2, R2, hlow2, _, hcl2, _⟩ := id H7.out.2.2.2
        have hcle := cntT_le (cl := cl) (now := now) (k := (nms cl 1).length)
        have hlenW : evs7.length + (passC cl now evs.length (nms cl 1).length).length ≤ 400 := by
          rw [passC_len]
          have h1 := H7.out.2.1
          have h2 := HM.out.2
          omega
        have hBW : W0.heap.size ≤ W.heap.size := Nat.le_trans (Nat.le_trans HGD.out.2.2 H7.out.2.2.1.2.2.2.1) HI.out.low.size
        have hpn : W0.heap.size ≤ b ∧ b < p ∧ p < W1.heap.size := ⟨hlowM, stM.1.1, stM.2.1.lt⟩
        have hp3 : W1.heap.size ≤ b2 ∧ b2 < p2 ∧ p2 < W7.heap.size := ⟨Nat.le_trans (below_tr H2b.out H3.out.2.2.2).size hlow2, st2.1.1, st2.2.1.lt⟩
        have hgz := HG.out.2.2.2
        have hr5n := H2.out.2.2.2
        have hr6n := H5.out.2.2.2.2.2.2.2.1
        have h14 : W1.heap.size ≤ W4.heap.size := (below_tr H2b.out (below_tr H3.out.2.2.2 H4.out.2.2)).size
        have hz7 : p < W7.heap.size := by have := hp3.2.2; omega
        have HNN := Lib.hid (And.intro hpn (And.intro hp3 (And.intro hgz (And.intro hr5n (And.intro hr6n (And.intro h14 hz7))))))
        have HMW := Lib.hid (And.intro MW (And.intro hr5w (And.intro hs0w (And.intro hlenW (And.intro hBW (And.intro st2 R2))))))
        clear MW hr5w hs0w hlenW hBW hpn hp3 hgz hr5n hr6n h14 hz7 stM hlowM hclM st2 R2 hlow2 hcl2 hcle
        refine wpIn_seq ?_
        refine wpIn_wide.2 ?_
        refine wp_hide fun QO HQO => ?_
        go_wp2_with fail
        refine (pass_any HMW.out.1 HMW.out.2.2.2.1 HMW.out.2.2.2.2.1 now HGD.out.1).mono ?_
        rintro e V1 ⟨Av2, cv2, evs8, rfl, hS8, he8, hK8⟩
        rw [cntT_again]
        obtain ⟨hpn, hp3, hgz, hr5n, hr6n, h14, hz7⟩ := HNN.out
        have kk : ∀ {g : Nat} {t : TypeId} {cs : Array Value}, Bk W g t cs → g ≠ p → g ≠ b → t ≠ 91 → Bk V1 g t cs := fun hk h1 h2 h3 => keep_bk HMW.out.1 hK8 (Nat.le_refl _) hk h1 h2 h3
        have v3 := kk HMW.out.2.2.1 (by omega) (by omega) (by decide)
        have v4 := kk (H8.out.2.1.below' HI.out.low) (by omega) (by omega) (by decide)
        have v5 := kk HMW.out.2.1 (by omega) (by omega) (by decide)
        have v6 := kk (H8.out.2.2.2.1.below' HI.out.low) (by omega) (by omega) (by decide)
        have v10 := kk HI.out.bn (by omega) (by omega) (by decide)
        have st2W := HMW.out.2.2.2.2.2.1.below HI.out.low
        have v7 := kk st2W.2.1 (by omega) (by omega) (by decide)
        have v8 : Mp Try.prog V1 88 b2 n2 D2 := by
          obtain ⟨es, clock, hb, hrest⟩ := id st2W.2.2.1
          exact st2W.2.2.1.of_block ((keep_ps HMW.out.1 hK8 (Nat.le_refl _) hb (by omega) (by omega) (fun cur e => by cases e)).trans hb.symm)
        have vm : ∀ D ∈ ms, V1.heap[D]? = some (.deferred (some [])) := fun D hD => keep_ps HMW.out.1 hK8 (Nat.le_refl _) (HI.out.mark D hD).1 (by have := (HI.out.mark D hD).2; omega) (by have := (HI.out.mark D hD).2; omega) (fun cur e => by cases e)
        have bV : Below w.heap.size w V1 := by
          have h1 := H8.out.2.2.2.2.trans (HI.out.low.mono H8.out.2.2.2.2.size)
          obtain ⟨_, _, ev9, st9, _⟩ := id HMW.out.1
          have hT := hK8.tch (Nat.le_refl _) st9.cells.2.2.2
          exact h1.trans (hT.low h1.size fun j hj => by
            rcases hj with hj | hj | hj
            · omega
            · omega
            · have := (st9.evGe hj).1.1
              omega)
        have HV := Lib.hid (And.intro v3 (And.intro v4 (And.intro v5 (And.intro v6 (And.intro v10 (And.intro v7 (And.intro v8 (And.intro vm (And.intro bV hS8)))))))))
        clear hpn hp3 hgz hr5n hr6n h14 hz7 kk v3 v4 v5 v6 v10 st2W v7 v8 vm bV hS8 he8 hK8 e5 e3
        have e3 := HV.out.1.cell 0
        go_wp2_with fail
        rw [HQO.out]
        simp only [Exit.then]
        clear HQO
        refine wpIn_seq ?_
        refine wpIn_wide.2 ?_
        refine wp_hide fun QP HQP => ?_
        go_wp2_with fail
        refine (pass_nil V1 now).mono ?_
        rintro e V2 ⟨rfl, bV2⟩
        have HV2 := Lib.hid bV2
        clear bV2 e3
        go_wp2_with fail
        rw [HQP.out]
        simp only [Exit.then]
        clear HQP
        have hcK : cntK cl now 5 = cnt := by
          rw [H9.out.2.2]
          unfold cntK
          rw [if_neg (by omega)]
        have v10 := HV.out.2.2.2.2.1.below' HV2.out
        rw [hcK] at v10
        have v4 := HV.out.2.1.below' HV2.out
        have c5 := cell_regrown ((HV.out.2.2.1.below' HV2.out).cell 0)
        have c6 := cell_regrown ((HV.out.2.2.2.1.below' HV2.out).cell 0)
        have c10 := cell_regrown (v10.cell 0)
        have CL := Lib.hid (fun (w1 : World) (hb1 : Below V2.heap.size V2 w1) => (s8_len ((HV.out.2.2.2.2.2.2.2.2.2.below HV2.out).below hb1)).mono (R' := fun e w' => e = .returned (.int .i64 (cl.length : Nat)) ∧ Below w1.heap.size w1 w') (fun e w' ⟨h1, h2⟩ => ⟨by rw [h1, passC_len, passC_len], by subst h2; exact Below.refl _ _⟩))
        have CL2 := Lib.hid (fun (w1 : World) (hb1 : Below V2.heap.size V2 w1) => (slen_m w1 p2 b2 n2 D2 (((HV.out.2.2.2.2.2.1.below' HV2.out).below' hb1).cell 1) ((HV.out.2.2.2.2.2.2.1.below HV2.out).below hb1)).mono (R' := fun e w' => e = .returned (.int .i64 (cl.length : Nat)) ∧ Below w1.heap.size w1 w') (fun e w' ⟨h1, h2⟩ => ⟨by rw [h1, HMW.out.2.2.2.2.2.2.size], by subst h2; exact Below.refl _ _⟩))
        have H4V := Lib.hid (And.intro v4 (And.intro (below_tr HV.out.2.2.2.2.2.2.2.2.1 HV2.out) (fun D hD => (HV2.out.block D (Array.getElem?_eq_some_iff.1 (HV.out.2.2.2.2.2.2.2.1 D hD)).1).trans (HV.out.2.2.2.2.2.2.2.1 D hD))))
        clear v4 v10 hcK
        refine wpIn_seq ?_
        refine wpIn_wide.2 ?_
        refine wp_hide fun QE HQE => ?_
        refine wp_region_quiet_last (List.dropLast_concat_getLast (by simp)).symm (by kernel_rfl) (by kernel_rfl) (by rfl) ?_
        simp only [stillLast, still, List.getLast_cons_cons, List.getLast_singleton]
        repeat (go_big_quiet_step (first
          | (go_at_call 14; (with_reducible exact Calls.regrown_of (CL.out _ (below_regrown _ _ _))))
          | (go_at_call 14; (with_reducible exact Calls.regrown_of (CL2.out _ (below_regrown _ _ _))))))
        refine wpQuiet_nil ?_
        rintro _ ⟨rp, rfl⟩
        have hBz := below_regrown V2 rp.d rp.os
        generalize «Sort».grow (redrawn V2 rp.d) rp.os = V7 at hBz ⊢
        clear c5 c6 c10 CL CL2
        have l6 := H4V.out.1.below' hBz
        have p6 := l6.cell 0
        have f6 := l6.frozen 0
        go_simp
        rw [HQE.out]
        simp only [Exit.then]
        obtain ⟨V8, hV8⟩ : ∃ V8, V8 = V7.setCell ⟨w.heap.size + 1, 0, none⟩ (.bool true) := ⟨_, rfl⟩
        have k8 : Bk V8 (w.heap.size + 1) 4 #[.bool true] := by
          rw [hV8]
          exact l6.set 0 (.bool true)
        have B8 : Below w.heap.size w V8 := by
          rw [hV8]
          exact (below_tr H4V.out.2.1 hBz).setCell (p := ⟨w.heap.size + 1, 0, none⟩) (by show w.heap.size ≤ w.heap.size + 1; omega) _
        have hwz : w.heap.size + 1 < W7.heap.size := by
          have := HNN.out
          omega
        have m8 : ∀ D ∈ ms, V8.heap[D]? = some (.deferred (some [])) := fun D hD => by
          have d1 := H4V.out.2.2 D hD
          have d2 := (HI.out.mark D hD).2
          rw [hV8]
          exact (Below.heap_setCell V7 ⟨w.heap.size + 1, 0, none⟩ _ D (by show D ≠ w.heap.size + 1; omega)).trans ((hBz.block D (Array.getElem?_eq_some_iff.1 d1).1).trans d1)
        rw [← hV8]
        have hnd := HI.out.nd
        have hlow := fun D hD => (HI.out.mark D hD).2
        clear hV8 l6 p6 f6 hBz
        gi_wp2_with fail
        refine marks_leave ms V8 hnd m8 fun w' a1 a2 a3 a4 a5 => ?_
        have k9 : Bk w' (w.heap.size + 1) 4 #[.bool true] := (a5 _ (fun h => by have := hlow _ h; omega)).trans k8
        have hc5 := k9.cell 0
        refine ⟨.bool true, ?_, rfl, ⟨a1.trans B8.os, a2.trans B8.tape, a3.trans B8.output, by rw [a4]; exact B8.size, fun i hi => (a5 i (fun h => by have := hlow i h; omega)).trans (B8.block i hi)⟩⟩
        simp [results, Try.results3, go_sem, hc5]
end Go.Proofs.Ytoobjfpkdlffpaa
end
section
namespace Go.Proofs.Ytoobjfpkdlffpaa
open Go.RowKit Go.Proofs.Mem
set_option linter.unusedVariables false
theorem obs_of {w : World} {A : Option Addr} {n c m : Nat} (h : Mem.Ok Try.prog w (m + 7) 22 (Value.slice A n c).cells.toList) :
    ∃ xs : List Ob, xs.length = n ∧ n ≤ maxLen ∧ Sl w 47 (.slice A n c) n (xs.flatMap Ob.cells) ∧ ∀ x ∈ xs, x.Ok w := by
  have hco : Try.prog.cellsOf 57 = 47 := by kernel_rfl
  obtain ⟨v, m', xs, e1, hS, hm, hel⟩ := ok_slice Try.underlying22 h (by omega)
  rw [hco] at hS hel
  have e2 : v = .slice A n c := by simp [Value.cells] at e1; exact e1.symm
  subst e2
  obtain ⟨rfl, _, _, hl, _⟩ := hS.parts
  obtain ⟨l, h1, h2, h3⟩ := rows_of (s := 47) Ob.cells (fun x => x.Ok w) _ xs hl (fun i hi => by
    obtain ⟨o, e1, ho⟩ := obj_of (hel i hi)
    exact ⟨o, e1, ho⟩)
  exact ⟨l, h1, hm, by rw [← h2]; exact hS, h3⟩
theorem podsPass_walk (A : Option Addr) (n c : Nat) (now : Int) (w : World) (h : Mem.Ok Try.prog w 9 22 (Value.slice A n c).cells.toList) (hw : Lit.wf (.int .i64 now) = true) :
    Calls Try.prog 3 #[.slice A n c, .int .i64 now] w fun e w' => e = .returned (.bool true) ∧ Below w.heap.size w w' := by
  obtain ⟨l, e1, m1, s1, o1⟩ := obs_of (m := 2) h
  subst e1
  exact podsPass_any w A c l s1 o1 m1 now
end Go.Proofs.Ytoobjfpkdlffpaa
end
