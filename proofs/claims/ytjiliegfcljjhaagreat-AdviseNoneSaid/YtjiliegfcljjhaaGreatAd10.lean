/-
  The walk of trimtablaw40.lives.
-/
import Derived.Test.YtjiliegfcljjhaaGreatAd9
namespace Go.Proofs.YtjiliegfcljjhaaGreat
open Go.RowKit Go.Proofs.Mem
set_option linter.unusedVariables false
set_option linter.unusedSimpArgs false
theorem wpl_run {P : Program} {ops : Array Oper} {rest : List Oper} {o : Oper} {a : Act} {w w' : World} {Q : Exit → Act → World → Prop} {v : Value} (hw : Region.wanted o (yielded ops a.tmps) = true) (hr : (execOp a.eval o).run P w = .ok (.value v) w')
    (h : wpList P ops Q rest (a.put o.dst v) w') : wpList P ops Q (o :: rest) a w := by
  refine wpList_step fun K hK => ?_
  rw [if_pos hw]
  unfold Oper.wp
  rw [hr]
  exact hK _ _ h
def PodL : Array Value := #[.string ⟨#[119]⟩, .string ⟨#[]⟩, .int .i64 2, .int .i64 0, .int .i64 0, .int .i64 0, .slice none 0 0, .slice none 0 0, .slice none 0 0, .int .i64 0]
theorem run_buildpd {ev : Operand → Value} {o : Oper} (ho : o.op = .build 57 #[(0, .const (.int .i64 1)), (1, .const (.string ⟨#[112]⟩)), (4, .tmp 26)]) (h26 : ev (.tmp 26) = .agg PodL) (hc : ∀ v, ev (.const v) = v) (w : World) : (execOp ev o).run Tryz.prog w = .ok (.value (.agg PdL)) w := by
  unfold execOp
  simp only [ho]
  unfold PodL at h26
  unfold PdL sP sW
  go_simp
theorem run_slicepd {ev : Operand → Value} {o : Oper} (ho : o.op = .buildSlice 78 1 #[(0, .tmp 27)]) (h27 : ev (.tmp 27) = .agg PdL) (w : World) : (execOp ev o).run Tryz.prog w = .ok (.value (.slice (some ⟨w.heap.size, 0, none⟩) 1 1)) (w.alloc (.cells PdL 57)) := by
  unfold execOp
  simp only [ho]
  have := run_buildSlice (P := Tryz.prog) w 78 57 1 #[(0, .agg PdL)] PdL ((Tryz.prog.info? 57).getD default) (.agg Z47) Tryz.underlying78 (by kernel_rfl) (by kernel_rfl) (by decide +kernel) (by decide +kernel) (by kernel_rfl)
  simp [h27, this]
set_option maxHeartbeats 4000000 in
set_option maxRecDepth 100000 in
theorem lives40_any (w : World) : Calls Tryz.prog 4 #[] w fun e w' => e = .returned (.bool true) ∧ Below w.heap.size w w' := by
  go_enter Tryz.func4, Tryz.ntmps4
  go_wp2_with fail
  refine (advise_new 1000 2000 9 9 150 1 1099511627776 w (by decide) (by omega) (by omega) (by omega) (by omega)).mono ?_
  rintro e w1 ⟨a, b, rfl, hb, hA, B1⟩
  have HA := Lib.hid hA
  clear hA
  go_wp2_with fail
  refine (scrape_new w1).mono ?_
  rintro e w2 ⟨s, bb, rfl, hbb, hB, b2⟩
  have HA2 := Lib.hid (HA.out.below b2)
  have B2 := below_tr B1 b2
  have HB := Lib.hid hB
  have hal := HA.out.2.1.lt
  have hbl := HA.out.2.2.lt
  have hsb := HB.out.1
  clear hB b2 B1
  go_wp2_with fail
  refine (scrape_first w2 s bb HB.out sP sCpu sP_nm sCpu_nm (by decide) (by decide)).mono ?_
  rintro e w3 ⟨rfl, p, q, zs, f, n, hB3, hR3, hl3, hp3, hq3, hh3, hBel3⟩
  have hbb2 := HB.out.2.2.lt
  have hs2 := HB.out.2.1.lt
  have ha2 := HA2.out.2.1.lt
  have hb2 := HA2.out.2.2.lt
  have hA3 : AdIs w3 a b 0 (.map []) 1000 2000 9 9 150 1 1099511627776 := ⟨HA2.out.1, (hh3 a ha2 (by omega)).trans HA2.out.2.1, HA2.out.2.2.of_block (hh3 b hb2 (by omega))⟩
  have B3 := hBel3 _ _ B2 (by have := B2.size; have := HA.out.2.2.lt; omega) B2.size
  have HS3 := Lib.hid (And.intro hA3 (And.intro hB3 (And.intro hR3 hl3)))
  clear hA3 hB3 hR3 hl3 hh3 hBel3 B2 HA2 HB
  go_wp2_with (first | (refine wpl_run rfl (run_buildpd rfl rfl (fun _ => rfl) _) ?_) | (refine wpl_run rfl (run_slicepd rfl rfl _) ?_))
  have kp := Bk.new w3 57 PdL
  have B4 := below_tr B3 (below_al w3 (.cells PdL 57))
  have hx := below_al w3 (.cells PdL 57)
  have hA4 := HS3.out.1.below hx
  have hB4 := HS3.out.2.1.below hx
  have hR4 := HS3.out.2.2.1.below hx
  have hb3 := HS3.out.1.2.2.lt
  refine (look_one (w3.alloc (.cells PdL 57)) a b s bb p q f n w3.heap.size zs hA4 hB4 hR4 HS3.out.2.2.2 kp (by omega) (by omega) (by omega) (by omega) (by omega)).mono ?_
  rintro e w5 ⟨rfl, c1, c2, qq, hA5, hC1, hC2, hg5⟩
  have B5 : Below w.heap.size w w5 := below_map B4 hg5 B4.size hb
  have HP := Lib.hid (And.intro hA5 (And.intro hC1 hC2))
  clear hx hA4 hB4 hR4 kp hA5 hC1 hC2 hg5 B4 HS3
  go_wp2_with fail
  refine (cpu_any w5 a b 1 _ 1000 2000 9 9 150 1 1099511627776 HP.out.1 sW (by decide) _ _ (dad_val c1 c2 _) 1150 1150 1150 true (fun wa hw => advice_one wa a b 1 _ 1000 2000 9 9 (HP.out.1.below hw) c1 qq (HP.out.2.1.below hw))).mono ?_
  rintro e w6 ⟨rfl, b6⟩
  have B6 := below_tr B5 b6
  have HA6 := Lib.hid (HP.out.1.below b6)
  have HC6 := Lib.hid (HP.out.2.2.below b6)
  have k7 := Bk.new w6 31 #[.int .i64 1150, .int .i64 1150, .int .i64 1150]
  have b7 := below_al w6 (.cells #[.int .i64 1150, .int .i64 1150, .int .i64 1150] 31)
  have B7 := below_tr B6 b7
  have HA7 := Lib.hid (HA6.out.below b7)
  have HC7 := Lib.hid (HC6.out.below b7)
  clear b6 b7 B6 HA6 HC6 HP B5
  go_wp2_with fail
  generalize hg : w6.heap.size = g at k7 ⊢
  clear hg
  generalize w6.alloc (.cells #[.int .i64 1150, .int .i64 1150, .int .i64 1150] 31) = w7 at k7 B7 HA7 HC7 ⊢
  refine (mem_any w7 a b 1 _ 1000 2000 9 9 150 1 1099511627776 HA7.out sW (by decide) _ _ (dad_val c1 c2 _) 0 0 0 false (fun wa hw => advice_none wa _ c2 1000 2000 9 9 0 false (HC7.out.below hw) (by omega))).mono ?_
  rintro e w8 ⟨rfl, b8⟩
  have B8 := below_tr B7 b8
  have k8 := k7.below' b8
  have k9 := (k7.below' b8).alloc (.cells #[.int .i64 0, .int .i64 0, .int .i64 0] 31)
  have B9 := below_tr B8 (below_al w8 (.cells #[.int .i64 0, .int .i64 0, .int .i64 0] 31))
  have y1 := k9.cell 1
  clear k7 b8 B7 HA7 HC7
  go_wp2_with fail
  go_ret
  exact ⟨rfl, B9⟩
end Go.Proofs.YtjiliegfcljjhaaGreat
