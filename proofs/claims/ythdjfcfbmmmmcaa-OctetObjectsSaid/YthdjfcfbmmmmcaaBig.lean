/-
  Whole objects (47 cells) in memory, their cells a row without a form: alloc, load, store at the operation.
-/
import Derived.Test.YthdjfcfbmmmmcaaQuiet
import Derived.Test.YthdjfcfbmmmmcaaVars
import Derived.Test.YthdjfcfbmmmmcaaTail
import Derived.Test.YthdjfcfbmmmmcaaProg
namespace Go.Proofs.Ythdjfcfbmmmmcaa
open Go.RowKit Go.Proofs.Mem
set_option linter.unusedVariables false
set_option linter.unusedSimpArgs false
def Z47 : Array Value := #[.int .i64 0, .string ⟨#[]⟩, .int .u64 0, .int .i64 0, .int .i64 0, .int .i64 0, .slice none 0 0, .slice none 0 0, .slice none 0 0, .int .i64 0, .string ⟨#[]⟩, .string ⟨#[]⟩, .int .i64 0, .int .i64 0, .int .i64 0, .int .i64 0, .slice none 0 0, .slice none 0 0, .slice none 0 0, .int .i64 0, .string ⟨#[]⟩, .int .i64 0, .int .i64 0, .slice none 0 0, .slice none 0 0, .int .i64 0, .bool false, .int .i64 0, .int .i64 0, .int .i64 0, .int .i64 0, .int .i64 0, .slice none 0 0, .slice none 0 0, .int .i64 0, .string ⟨#[]⟩, .int .i64 0, .int .i64 0, .slice none 0 0, .int .i64 0, .int .i64 0, .int .i64 0, .slice none 0 0, .int .i64 0, .int .i64 0, .slice none 0 0, .slice none 0 0]
/-- 47 cells, each a cell. -/
def Is47 (L : Array Value) : Prop := L.size = 47 ∧ L.toList.all (·.oneCell') = true
theorem z47_is : Is47 Z47 := ⟨rfl, rfl⟩
theorem zero47 (w : World) : (zeroValue 48).run Try.prog w = .ok (.agg Z47) w := by kernel_rfl
theorem info47 {L : Array Value} (h : Is47 L) : (Try.prog.info? 48).map (·.size) = some L.size := by rw [h.1]; kernel_rfl
theorem run_alloc47 {ev : Operand → Value} {o : Oper} (ho : o.op = .alloc 48) (w : World) : (execOp ev o).run Try.prog w = .ok (.value (.pointer (some ⟨w.heap.size, 0, none⟩))) (w.alloc (.cells Z47 48)) := by
  unfold execOp
  simp only [ho]
  unfold Z47
  go_simp
theorem run_box47 {ev : Operand → Value} {o : Oper} {L : Array Value} {x : Operand} (hL : Is47 L) (ho : o.op = .box 48 x) (hx : ev x = .agg L) (w : World) : (execOp ev o).run Try.prog w = .ok (.value (.pointer (some ⟨w.heap.size, 0, none⟩))) (w.alloc (.cells L 48)) := by
  unfold execOp
  simp only [ho, hx]
  go_simp
section
variable {P : Program} {ops : Array Oper} {rest : List Oper} {o : Oper} {a : Act} {w : World} {Q : Exit → Act → World → Prop} {t : TypeId} {zs cs : Array Value} {g : Nat}
theorem wpl_allocg (hw : Region.wanted o (yielded ops a.tmps) = true) (hr : (execOp a.eval o).run P w = .ok (.value (.pointer (some ⟨w.heap.size, 0, none⟩))) (w.alloc (.cells zs t)))
    (h : wpList P ops Q rest (a.put o.dst (.pointer (some ⟨w.heap.size, 0, none⟩))) (w.alloc (.cells zs t))) : wpList P ops Q (o :: rest) a w := by
  refine wpList_step fun K hK => ?_
  rw [if_pos hw]
  unfold Oper.wp
  rw [hr]
  exact hK _ _ h
theorem wpl_storeg (hk : Bk w g t zs) (hl : zs.size = cs.size) (hw : Region.wanted o (yielded ops a.tmps) = true) (hd : o.dst = none) (ty : TypeId) (x y : Operand) (ho : o.op = .store ty x y)
    (hx : a.eval x = .pointer (some ⟨g, 0, none⟩)) (hy : a.eval y = .agg cs) (hi : (P.info? ty).map (·.size) = some cs.size) (h1 : cs.toList.all (·.oneCell') = true)
    (h : wpList P ops Q rest a (w.setCells g 0 cs.toList)) : wpList P ops Q (o :: rest) a w := by
  refine wpList_step fun K hK => ?_
  rw [if_pos hw]
  unfold Oper.wp
  rw [run_store_op hk hl ty x y ho hx hy hi h1]
  simp only [Oper.upon, hd]
  exact hK _ _ h
theorem early_allocg {S : World → Prop} {tail : Act → World → Prop} {k i : Nat} (d : Option Nat) (hi : ops[i]? = some o) (hd : o.dst = d) (hw : Region.wanted o (yielded ops a.tmps) = true)
    (hr : (execOp a.eval o).run P w = .ok (.value (.pointer (some ⟨w.heap.size, 0, none⟩))) (w.alloc (.cells zs t))) (hS : S (w.alloc (.cells zs t)))
    (h : wpEarly P ops Q S tail k (i + 1) (a.put d (.pointer (some ⟨w.heap.size, 0, none⟩))) (w.alloc (.cells zs t))) : wpEarly P ops Q S tail (k + 1) i a w := by
  subst hd
  refine early_step hi hw ?_
  unfold Oper.wp
  rw [hr]
  exact ⟨hS, h⟩
theorem reads_loadg {S : World → Prop} {Lq : Act → Prop} (hk : ∀ w, S w → Bk w g t cs) (hw : Region.wanted o (yielded ops a.tmps) = true) (ty : TypeId) (x : Operand) (ho : o.op = .load ty x)
    (hx : a.eval x = .pointer (some ⟨g, 0, none⟩)) (d : TypeDesc) (hu : P.underlying ty = some d) (hd : d.isRow = true) (hi : (P.info? ty).map (·.size) = some cs.size)
    (h : wpReads P ops S Lq rest (a.put o.dst (.agg cs))) : wpReads P ops S Lq (o :: rest) a := by
  refine reads_step (v := .agg cs) hw (fun w hS => ?_) h
  have hr := run_loadAt_mid (P := P) w g 0 ty cs.toList d (hk w hS).range hu hd (by simpa using hi)
  unfold execOp
  simp only [ho, hx, Sem.run_bind, hr, Result.andThen_ok, Sem.run_pure]
end
theorem results_cell {fn : Func} {t : Nat} {ty : TypeId} {tmps : Array Value} {w : World} {ad : Addr} {v : Value} (hf : fn.results = #[.cell t ty]) (hp : tmps.getD t undef = .pointer (some ad)) (hr : (loadVar ty ad).run Try.prog w = .ok v w) : (results fn tmps).run Try.prog w = .ok v w := by
  have hp' : tmps[t]?.getD undef = .pointer (some ad) := by rw [← hp, Array.getD_eq_getD_getElem?]
  simp only [results, hf]
  simp [hp', asAddr, hr]
/-- A whole object, returned out of its variable. -/
theorem results_obj {fn : Func} {t : Nat} {tmps : Array Value} {w : World} {g : Nat} {ty : TypeId} {L : Array Value} (hk : Bk w g ty L) (hL : Is47 L) (hf : fn.results = #[.cell t 48]) (hp : tmps.getD t undef = .pointer (some ⟨g, 0, none⟩)) : (results fn tmps).run Try.prog w = .ok (.agg L) w := by
  have hr := run_loadVar_mid (P := Try.prog) w g 0 48 L.toList _ hk.range Try.underlying48 rfl (by simpa using info47 hL)
  exact results_cell hf hp (by simpa using hr)
end Go.Proofs.Ythdjfcfbmmmmcaa
