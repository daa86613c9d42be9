/-
  A whole struct loaded in a region that draws its order, and in a plain one: from the block that is known whole. Nothing of the program's own.
-/
import Derived.Test.YthdjfcfbmmmmcaaRow
import Derived.Lib.QuietBelow
import Derived.Deep.MidRow
namespace Go.Proofs.Mem
open Go.RowKit Go.Sort
set_option linter.unusedVariables false
theorem Bk.range {w : World} {g : Nat} {t : TypeId} {cs : Array Value} (h : Bk w g t cs) : w.rangeAt g 0 cs.toList := by
  intro j v hj
  rw [Nat.zero_add, h.cell, ← Array.getElem?_toList]
  exact hj
theorem Bk.regrown {w : World} {g : Nat} {t : TypeId} {cs : Array Value} (h : Bk w g t cs) (d : Nat) (os : Array Obj) : Bk (grow (redrawn w d) os) g t cs := h.below' (below_regrown w d os)
/-- The load of a whole struct out of a block that is known. -/
theorem q_load {P : Program} {ops : Array Oper} {w0 : World} {Q : Act → Prop} {a : Act} {o : Oper} {rest : List Oper} {g : Nat} {t : TypeId} {cs : Array Value} (hk : Bk w0 g t cs) (hgd : o.guard = none) (ty : TypeId) (x : Operand) (ho : o.op = .load ty x)
    (hx : a.eval x = .pointer (some ⟨g, 0, none⟩)) (d : TypeDesc) (hu : P.underlying ty = some d) (hd : d.isRow = true) (hi : (P.info? ty).map (·.size) = some cs.size)
    (h : wpQuiet P ops (fun w' => ∃ p : Regrown, w' = grow (redrawn w0 p.d) p.os) Q rest (a.put o.dst (.agg cs))) : wpQuiet P ops (fun w' => ∃ p : Regrown, w' = grow (redrawn w0 p.d) p.os) Q (o :: rest) a := by
  refine wpQuiet_step fun K hK => ?_
  have hw : Region.wanted o (yielded ops a.tmps) = true := by simp [Region.wanted, hgd]
  rw [if_pos hw]
  refine ⟨.agg cs, fun w' hC => ?_, hK _ h⟩
  obtain ⟨p, rfl⟩ := hC
  have hr := run_loadAt_mid (P := P) (grow (redrawn w0 p.d) p.os) g 0 ty cs.toList d (hk.regrown p.d p.os).range hu hd (by simpa using hi)
  unfold Oper.quietAt execOp
  simp only [ho, hx, Sem.run_bind, hr, Result.andThen_ok, Sem.run_pure]
  exact ⟨rfl, by simp⟩
theorem q_done {P : Program} {ops : Array Oper} {w0 : World} {Q : Exit → Act → World → Prop} {a : Act} (h : ∀ w', Below w0.heap.size w0 w' → Q .normal a w') :
    wpQuiet P ops (fun w' => ∃ p : Regrown, w' = grow (redrawn w0 p.d) p.os) (fun a' => ∀ w', (∃ p : Regrown, w' = grow (redrawn w0 p.d) p.os) → Q .normal a' w') [] a := by
  refine wpQuiet_nil fun w' hw => ?_
  obtain ⟨p, rfl⟩ := hw
  exact h _ (below_regrown w0 p.d p.os)
theorem tmp_of {a : Act} {k : Nat} {v : Value} (h : a.tmps[k]? = some v) : a.eval (.tmp k) = v := by
  simp [Act.eval, Array.getD_eq_getD_getElem?, h]
/-- The load of a whole struct in a plain region, guarded or not. -/
theorem wpl_loadg {P : Program} {ops : Array Oper} {rest : List Oper} {o : Oper} {a : Act} {w : World} {Q : Exit → Act → World → Prop} {g : Nat} {t : TypeId} {cs : Array Value} (hk : Bk w g t cs) (hw : Region.wanted o (yielded ops a.tmps) = true) (ty : TypeId) (x : Operand) (ho : o.op = .load ty x)
    (hx : a.eval x = .pointer (some ⟨g, 0, none⟩)) (d : TypeDesc) (hu : P.underlying ty = some d) (hd : d.isRow = true) (hi : (P.info? ty).map (·.size) = some cs.size)
    (h : wpList P ops Q rest (a.put o.dst (.agg cs)) w) : wpList P ops Q (o :: rest) a w := by
  refine wpList_step fun K hK => ?_
  rw [if_pos hw]
  have hr := run_loadAt_mid (P := P) w g 0 ty cs.toList d hk.range hu hd (by simpa using hi)
  unfold Oper.wp execOp
  simp only [ho, hx, Sem.run_bind, hr, Result.andThen_ok, Sem.run_pure]
  exact hK _ _ (by simpa using h)
theorem Bk.there {w : World} {g : Nat} {t : TypeId} {cs : Array Value} (h : Bk w g t cs) (n : Nat) (hn : cs.size = n) : w.there g 0 n := by
  intro j hj
  rw [Nat.zero_add, h.cell, h.frozen, Array.getElem?_eq_getElem (by omega)]
  exact ⟨rfl, rfl⟩
theorem run_store_op {P : Program} {w : World} {a : Act} {o : Oper} {g : Nat} {t : TypeId} {zs cs : Array Value} (hk : Bk w g t zs) (hl : zs.size = cs.size) (ty : TypeId) (x y : Operand) (ho : o.op = .store ty x y) (hx : a.eval x = .pointer (some ⟨g, 0, none⟩)) (hy : a.eval y = .agg cs)
    (hi : (P.info? ty).map (·.size) = some cs.size) (h1 : cs.toList.all (·.oneCell') = true) : (execOp a.eval o).run P w = .ok .skip (w.setCells g 0 cs.toList) := by
  have hr := run_storeAt_mid (P := P) w g 0 ty cs (hk.there _ hl) hi (by rw [← Array.all_toList]; exact h1)
  unfold execOp
  simp only [ho, hx, hy, Sem.run_bind, hr, Result.andThen_ok, Sem.run_pure]
end Go.Proofs.Mem
