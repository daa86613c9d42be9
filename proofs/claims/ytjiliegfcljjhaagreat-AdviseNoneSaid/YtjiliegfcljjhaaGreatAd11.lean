/-
  An adviser that isn't there: the walk of trimtablaw40.AdviseNone.
-/
import Derived.Test.YtjiliegfcljjhaaGreatAd10
namespace Go.Proofs.YtjiliegfcljjhaaGreat
open Go.RowKit Go.Proofs.Mem
set_option linter.unusedVariables false
set_option linter.unusedSimpArgs false
theorem run_build0A {ev : Operand → Value} {o : Oper} (ho : o.op = .build 57 #[]) (w : World) : (execOp ev o).run Tryz.prog w = .ok (.value (.agg Z47)) w := by
  unfold execOp
  simp only [ho]
  unfold Z47
  go_simp
theorem forget_nil (s : ByteArray) (w : World) : Calls Tryz.prog 5 #[.pointer none, .string s] w fun e w' => e = .returned (.tuple #[]) ∧ w' = w := by
  go_enter Tryz.func5, Tryz.ntmps5
  go_wp2_with fail
  exact bodyPost_end (results_none rfl _ _ _) rfl ⟨rfl, rfl⟩
set_option maxRecDepth 100000 in
theorem snew_nine (w : World) : Calls Tryz.prog 6 #[.int .i64 9] w fun e w' => (∃ p, e = .returned (.tuple #[.pointer p, .int .i64 0])) ∧ Below w.heap.size w w' := by
  have hmm := @run_makeMap Tryz.prog
  go_enter Tryz.func6, Tryz.ntmps6
  go_wp2_with fail
  go_ret2
  exact ⟨⟨_, rfl⟩, below_tr (below_al _ _) (below_al _ _)⟩
theorem load_res {w : World} {g : Nat} {x y : Int} (h : Bk w g 35 #[.int .i64 x, .int .i64 y]) : (loadVar 35 ⟨g, 0, none⟩).run Tryz.prog w = .ok (.agg #[.int .i64 x, .int .i64 y]) w := by
  have z0 := h.cell 0
  have z1 := h.cell 1
  go_simp
set_option maxRecDepth 100000 in
theorem should_nil (L : Array Value) (hL : Is47 L) (w : World) : Calls Tryz.prog 9 #[.pointer none, .agg L] w fun e w' => e = .returned (.tuple #[.agg #[.int .i64 0, .int .i64 0], .bool false]) ∧ Below w.heap.size w w' := by
  have B0 := below_tr (below_al w (.cells L 57)) (below_al _ (.cells #[.int .i64 0, .int .i64 0] 35))
  have k4 := Bk.new (w.alloc (.cells L 57)) 35 #[.int .i64 0, .int .i64 0]
  rw [World.size_alloc] at k4
  go_enter Tryz.func9, Tryz.ntmps9
  go_wp2_with (first | (refine wpl_allocg rfl (run_box47 hL rfl rfl _) ?_))
  exact bodyPost_ret (v := .tuple #[.agg #[.int .i64 0, .int .i64 0], .bool false]) (results_cell_two (t := 4) (s := 5) rfl rfl (load_res k4)) rfl ⟨rfl, B0⟩
set_option maxRecDepth 100000 in
theorem pass_nil (p : Option Addr) (w : World) : Calls Tryz.prog 10 #[.pointer none, .pointer p] w fun e w' => e = .returned (.tuple #[.slice none 0 0, .int .i64 1]) ∧ Below w.heap.size w w' := by
  go_enter Tryz.func10, Tryz.ntmps10
  go_wp2_with fail
  go_ret2
  exact ⟨rfl, below_tr (below_al _ _) (below_al _ _)⟩
theorem look_nil (b : Value) (t : Int) (l : Value) (w : World) : Calls Tryz.prog 11 #[.pointer none, b, .int .i64 t, l] w fun e w' => e = .returned (.int .i64 0) ∧ w' = w := by
  go_enter Tryz.func11, Tryz.ntmps11
  go_wp2_with fail
  go_ret
  exact ⟨rfl, rfl⟩
set_option maxHeartbeats 4000000 in
set_option maxRecDepth 100000 in
theorem adviseNone_any (owner : ByteArray) (now : Int) (w : World) : Calls Tryz.prog 3 #[.string owner, .int .i64 now] w fun e w' => e = .returned (.bool true) ∧ Below w.heap.size w w' := by
  have hq : ∀ w, (binOp .eql 35 (.agg #[.int .i64 0, .int .i64 0]) (.agg #[.int .i64 0, .int .i64 0])).run Tryz.prog w = .ok (.bool true) w := fun w => by kernel_rfl
  by_cases hl : 100 < owner.size
  · have hl' : (100 : Int) < owner.size := by omega
    go_enter Tryz.func3, Tryz.ntmps3
    go_wp2_with fail
    refine (lives40_any w).mono ?_
    rintro e w1 ⟨rfl, b1⟩
    go_wp2_with fail
    refine (lives40_any w1).mono ?_
    rintro e w2 ⟨rfl, b2⟩
    go_wp2_with fail
    go_ret
    exact ⟨rfl, below_tr b1 b2⟩
  · have hl' : (owner.size : Int) ≤ 100 := by omega
    go_enter Tryz.func3, Tryz.ntmps3
    go_wp2_with fail
    refine (lives40_any w).mono ?_
    rintro e w1 ⟨rfl, B1⟩
    go_wp2_with fail
    refine (forget_nil owner w1).mono ?_
    rintro e wz ⟨rfl, rfl⟩
    go_wp2_with fail
    refine (snew_nine _).mono ?_
    rintro e w2 ⟨⟨p, rfl⟩, b2⟩
    have B2 := below_tr B1 b2
    clear b2 B1
    go_wp2_with fail
    refine (cpu_nil owner _).mono ?_
    rintro e w3 ⟨rfl, b3⟩
    have B3 := below_tr (below_tr B2 b3) (below_al w3 (.cells #[.int .i64 0, .int .i64 0, .int .i64 0] 31))
    clear b3 B2
    go_wp2_with fail
    refine (mem_nil owner _).mono ?_
    rintro e w4 ⟨rfl, b4⟩
    have B4 := below_tr (below_tr B3 b4) (below_al w4 (.cells #[.int .i64 0, .int .i64 0, .int .i64 0] 31))
    clear b4 B3
    go_wp2_with (first | (refine wpl_run rfl (run_build0A rfl _) ?_))
    refine (should_nil Z47 z47_is _).mono ?_
    rintro e w5 ⟨rfl, b5⟩
    have B5 := below_tr (below_tr B4 b5) (below_al w5 (.cells #[.int .i64 0, .int .i64 0] 35))
    have k12 := Bk.new w5 35 #[.int .i64 0, .int .i64 0]
    clear b5 B4
    go_wp2_with fail
    refine (pass_nil p _).mono ?_
    rintro e w6 ⟨rfl, b6⟩
    have B6 := below_tr B5 b6
    have k126 := k12.below' b6
    have y0 := k126.cell 0
    have y1 := k126.cell 1
    clear b6 B5 k12
    go_wp2_with fail
    refine (look_nil _ now _ _).mono ?_
    rintro e wz ⟨rfl, rfl⟩
    go_wp2_with fail
    go_ret
    exact ⟨rfl, B6⟩
theorem adviseNone_walk (owner : ByteArray) (now : Int) (_ : owner.size ≤ maxLen) (_ : (Lit.int .i64 now).wf = true) (w : World) : Calls Tryz.prog 3 #[.string owner, .int .i64 now] w fun e w' => e = .returned (.bool true) ∧ Below w.heap.size w w' := adviseNone_any owner now w
end Go.Proofs.YtjiliegfcljjhaaGreat
