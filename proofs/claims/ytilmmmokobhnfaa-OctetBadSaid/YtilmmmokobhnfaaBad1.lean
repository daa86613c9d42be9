/-
  A reader that isn't there reads no object: the walk of package octet's Reader.Object at nil.
-/
import Derived.Test.YtilmmmokobhnfaaOct6
import Derived.Test.YtilmmmokobhnfaaVars
import Derived.Test.YtilmmmokobhnfaaQuiet
import Derived.Deep.DeepCutAuto
namespace Go.Proofs.Ytilmmmokobhnfaa
open Go.RowKit Go.Proofs.Mem
set_option linter.unusedVariables false
set_option linter.unusedSimpArgs false
def Ob0 : Array Value := #[.int .i64 0, .string ⟨#[]⟩, .int .u64 0, .int .i64 0, .int .i64 0, .int .i64 0, .slice none 0 0, .slice none 0 0, .slice none 0 0, .int .i64 0, .string ⟨#[]⟩, .string ⟨#[]⟩, .int .i64 0, .int .i64 0, .int .i64 0, .int .i64 0, .slice none 0 0, .slice none 0 0, .slice none 0 0, .int .i64 0, .string ⟨#[]⟩, .int .i64 0, .int .i64 0, .slice none 0 0, .slice none 0 0, .int .i64 0, .bool false, .int .i64 0, .int .i64 0, .int .i64 0, .int .i64 0, .int .i64 0, .slice none 0 0, .slice none 0 0, .int .i64 0, .string ⟨#[]⟩, .int .i64 0, .int .i64 0, .slice none 0 0, .int .i64 0, .int .i64 0, .int .i64 0, .slice none 0 0, .int .i64 0, .int .i64 0, .slice none 0 0, .slice none 0 0]
theorem run_allocOb {ev : Operand → Value} {o : Oper} (ho : o.op = .alloc 46) (w : World) : (execOp ev o).run Try.prog w = .ok (.value (.pointer (some ⟨w.heap.size, 0, none⟩))) (w.alloc (.cells Ob0 46)) := by
  unfold execOp
  simp only [ho]
  unfold Ob0
  go_simp
theorem wpl_allocob {P : Program} {ops : Array Oper} {rest : List Oper} {o : Oper} {a : Act} {w : World} {Q : Exit → Act → World → Prop} {t : TypeId} {zs : Array Value} (hw : Region.wanted o (yielded ops a.tmps) = true)
    (hr : (execOp a.eval o).run P w = .ok (.value (.pointer (some ⟨w.heap.size, 0, none⟩))) (w.alloc (.cells zs t)))
    (h : wpList P ops Q rest (a.put o.dst (.pointer (some ⟨w.heap.size, 0, none⟩))) (w.alloc (.cells zs t))) : wpList P ops Q (o :: rest) a w := by
  refine wpList_step fun K hK => ?_
  rw [if_pos hw]
  unfold Oper.wp
  rw [hr]
  exact hK _ _ h
theorem wpl_storeob {P : Program} {ops : Array Oper} {rest : List Oper} {o : Oper} {a : Act} {w : World} {Q : Exit → Act → World → Prop} {g : Nat} {t : TypeId} {zs cs : Array Value} (hk : Bk w g t zs) (hl : zs.size = cs.size) (hw : Region.wanted o (yielded ops a.tmps) = true) (hd : o.dst = none) (ty : TypeId) (x y : Operand) (ho : o.op = .store ty x y)
    (hx : a.eval x = .pointer (some ⟨g, 0, none⟩)) (hy : a.eval y = .agg cs) (hi : (P.info? ty).map (·.size) = some cs.size) (h1 : cs.toList.all (·.oneCell') = true)
    (h : wpList P ops Q rest a (w.setCells g 0 cs.toList)) : wpList P ops Q (o :: rest) a w := by
  refine wpList_step fun K hK => ?_
  rw [if_pos hw]
  unfold Oper.wp
  rw [run_store_op hk hl ty x y ho hx hy hi h1]
  simp only [Oper.upon, hd]
  exact hK _ _ h
theorem results_cell {fn : Func} {t : Nat} {ty : TypeId} {tmps : Array Value} {w : World} {ad : Addr} {v : Value} (hf : fn.results = #[.cell t ty]) (hp : tmps.getD t undef = .pointer (some ad)) (hr : (loadVar ty ad).run Try.prog w = .ok v w) : (results fn tmps).run Try.prog w = .ok v w := by
  have hp' : tmps[t]?.getD undef = .pointer (some ad) := by rw [← hp, Array.getD_eq_getD_getElem?]
  simp only [results, hf]
  simp [hp', asAddr, hr]
set_option maxHeartbeats 2000000 in
set_option maxRecDepth 100000 in
theorem robj_nil (w : World) :
    Calls Try.prog 45 #[.pointer none] w fun e w' => e = .returned (.agg Ob0) ∧ Below w.heap.size w w' := by
  have CG1 := Lib.hid (fun w1 => get_nil 1 w1)
  have CG8 := Lib.hid (fun w1 => get_nil 8 w1)
  have CT := Lib.hid (fun w1 => rtext_nil w1)
  have CB := Lib.hid (fun w1 => bad_nil w1)
  have h1L : Ob0.toList.all (·.oneCell') = true := by rfl
  have HI : Hid ((Try.prog.info? 46).map (·.size) = some Ob0.size) := Lib.hid (by kernel_rfl)
  have hk0 := Bk.new w 46 Ob0
  have hb0 := below_al w (.cells Ob0 46)
  go_enter Try.func45, Try.ntmps45
  go_upto_region 1 with (refine wpl_allocob rfl (run_allocOb rfl _) ?_)
  generalize w.alloc (.cells Ob0 46) = Wa at hk0 hb0 ⊢
  go_wp2_with fail
  refine (CG1.out _).mono ?_
  rintro e w1 ⟨rfl, hb1⟩
  have hk1 := hk0.below' hb1
  have hB1 := below_tr hb0 hb1
  have hkn := Bk.new w1 46 Ob0
  have hBn := below_tr hB1 (below_al w1 (.cells Ob0 46))
  obtain ⟨Wb, hWb⟩ : ∃ Wb, Wb = (w1.alloc (.cells Ob0 46)).setCells w1.heap.size 0 Ob0.toList := ⟨_, rfl⟩
  have hBb : Below w.heap.size w Wb := by rw [hWb]; exact below_setCells _ _ hBn hB1.size
  have hkb : Bk Wb w1.heap.size 46 Ob0 := by rw [hWb]; exact setCells_whole hkn rfl
  have hkb0 : Bk Wb w.heap.size 46 Ob0 := by rw [hWb]; exact setCells_far (Nat.ne_of_lt hk1.lt) _ _ (hk1.alloc _)
  have HW := Lib.hid hWb
  have hne : w1.heap.size ≠ w.heap.size := Nat.ne_of_gt hk1.lt
  have hle : w.heap.size ≤ w1.heap.size := hB1.size
  clear hWb hb0 hb1 hk0 hBn
  go_upto_region 2 with (first | (refine wpl_allocob rfl (run_allocOb rfl _) ?_) | (refine wpl_storeob hkn rfl rfl rfl 46 (.tmp 3) (.tmp 8) rfl rfl (by rfl) HI.out h1L ?_))
  rw [← HW.out]
  clear hkn hk1 hB1
  generalize w1.heap.size = g at hkb hne hle ⊢
  go_wp2_with fail
  refine (CT.out _).mono ?_
  rintro e w2 ⟨rfl, hb2⟩
  have hk2 := hkb.below' hb2
  have hz2 := hkb0.below' hb2
  have hB2 := below_tr hBb hb2
  clear hkb hkb0 hBb hb2
  go_wp2_with fail
  refine (CG8.out _).mono ?_
  rintro e w3 ⟨rfl, hb3⟩
  have hk3 := hk2.below' hb3
  have hz3 := hz2.below' hb3
  have hB3 := below_tr hB2 hb3
  have c1 := hk3.cell 1
  have c2 := hk3.cell 2
  have f1 := hk3.frozen 1
  have f2 := hk3.frozen 2
  have hB4 := (hB3.setCell (p := ⟨g, 1, none⟩) hle (.string ⟨#[]⟩)).setCell (p := ⟨g, 2, none⟩) hle (.int .u64 0)
  have hz4 := (hz3.far (p := ⟨g, 1, none⟩) (fun e => hne e.symm) (.string ⟨#[]⟩)).far (p := ⟨g, 2, none⟩) (fun e => hne e.symm) (.int .u64 0)
  simp only [Ob0, List.getElem?_toArray, List.getElem?_cons_succ, List.getElem?_cons_zero] at c1 c2
  clear hk2 hz2 hB2 hb3
  go_wp2_with fail
  refine (CB.out _).mono ?_
  rintro e w5 ⟨rfl, rfl⟩
  obtain ⟨W4, hW4⟩ : ∃ W4, W4 = (w3.setCell ⟨g, 1, none⟩ (.string ⟨#[]⟩)).setCell ⟨g, 2, none⟩ (.int .u64 0) := ⟨_, rfl⟩
  rw [← hW4] at hB4 hz4 ⊢
  have hfin := below_setCells (g := w.heap.size) Ob0.toList 0 hB4 (Nat.le_refl _)
  have hkf : Bk (W4.setCells w.heap.size 0 Ob0.toList) w.heap.size 46 Ob0 := setCells_whole hz4 rfl
  have HF := Lib.hid (And.intro hfin hkf)
  clear hfin hkf c1 c2 f1 f2 hW4 hk3 hz3 hB3
  go_wp2_with (refine wpl_storeob hz4 rfl rfl rfl 46 (.tmp 2) (.tmp 17) rfl rfl (by rfl) HI.out h1L ?_)
  obtain ⟨hfin, hkf⟩ := HF.out
  generalize W4.setCells w.heap.size 0 Ob0.toList = W5 at hfin hkf ⊢
  refine bodyPost_ret (v := .agg Ob0) ?_ rfl ⟨rfl, hfin⟩
  have hr := run_loadVar_mid (P := Try.prog) W5 w.heap.size 0 46 Ob0.toList _ hkf.range Try.underlying46 rfl (by simpa using HI.out)
  exact results_cell rfl (by rfl) hr
end Go.Proofs.Ytilmmmokobhnfaa
