/-
  The walk of trimtablaw08.node: the law's small node; its cells as a row.
-/
import Derived.Test.YtibekpfffimojaaSt5
import Derived.Test.YtibekpfffimojaaVk
import Derived.Test.YtibekpfffimojaaSn
namespace Go.Proofs.Ytibekpfffimojaa
open Go.RowKit Go.Proofs.Mem
set_option linter.unusedVariables false
set_option linter.unusedSimpArgs false
def NdL (name : ByteArray) (v : Int) : Array Value := #[.int .i64 2, .string name, .int .u64 v, .int .i64 0, .int .i64 0, .int .i64 0, .slice none 0 0, .slice none 0 0, .slice none 0 0, .int .i64 0, .string ⟨#[]⟩, .string ⟨#[]⟩, .int .i64 0, .int .i64 0, .int .i64 0, .int .i64 0, .slice none 0 0, .slice none 0 0, .slice none 0 0, .int .i64 0, .string ⟨#[]⟩, .int .i64 1, .int .i64 0, .slice none 0 0, .slice none 0 0, .int .i64 0, .bool false, .int .i64 0, .int .i64 0, .int .i64 0, .int .i64 0, .int .i64 0, .slice none 0 0, .slice none 0 0, .int .i64 0, .string ⟨#[]⟩, .int .i64 0, .int .i64 0, .slice none 0 0, .int .i64 0, .int .i64 0, .int .i64 0, .slice none 0 0, .int .i64 0, .int .i64 0, .slice none 0 0, .slice none 0 0]
theorem NdL.obL (name : ByteArray) (v : Nat) : ObL (NdL name v) 2 name v := ⟨⟨rfl, rfl⟩, rfl, rfl, rfl⟩
theorem NdL.nil (name : ByteArray) (v : Int) : AllNil (NdL name v) := by
  refine ⟨⟨rfl, rfl⟩, fun i hi => ?_⟩
  simp only [sAt, List.mem_cons, List.not_mem_nil, or_false] at hi
  rcases hi with rfl | rfl | rfl | rfl | rfl | rfl | rfl | rfl | rfl | rfl | rfl | rfl | rfl | rfl <;> rfl
theorem NdL.node (name : ByteArray) (v : Int) (j : Nat) (hj : j < 7) : (NdL name v)[20 + j]? = Nd0[j]? := by
  rcases j with _ | _ | _ | _ | _ | _ | _ | j
  all_goals first | rfl | omega
theorem NdL.put (name : ByteArray) (v : Int) (u : Nat) : putL (NdL name v) u = NdL name u := rfl
theorem run_buildnd {ev : Operand → Value} {o : Oper} {s : ByteArray} (ho : o.op = .build 44 #[(0, .const (.int .i64 2)), (1, .tmp 3), (5, .tmp 5)]) (h3 : ev (.tmp 3) = .string s) (h5 : ev (.tmp 5) = .agg Nd0) (hc : ∀ v, ev (.const v) = v) (w : World) : (execOp ev o).run Try.prog w = .ok (.value (.agg (NdL s 0))) w := by
  unfold execOp
  simp only [ho]
  unfold Nd0 at h5
  unfold NdL
  go_simp
theorem wpl_val {P : Program} {ops : Array Oper} {rest : List Oper} {o : Oper} {a : Act} {w : World} {Q : Exit → Act → World → Prop} {v : Value} (hw : Region.wanted o (yielded ops a.tmps) = true) (hr : (execOp a.eval o).run P w = .ok (.value v) w)
    (h : wpList P ops Q rest (a.put o.dst v) w) : wpList P ops Q (o :: rest) a w := by
  refine wpList_step fun K hK => ?_
  rw [if_pos hw]
  unfold Oper.wp
  rw [hr]
  exact hK _ _ h
set_option maxHeartbeats 2000000 in
set_option maxRecDepth 100000 in
theorem node8_any (name : ByteArray) (w : World) : Calls Try.prog 17 #[.string name] w fun e w' => e = .returned (.agg (NdL name 0)) ∧ Below w.heap.size w w' := by
  have kz := Bk.new w 44 Z47
  have B0 := below_al w (.cells Z47 44)
  have hL := (NdL.nil name 0).1
  have hzz : Z47.size = (NdL name 0).size := rfl
  have HL := Lib.hid hL
  clear hL
  obtain ⟨L, hLe⟩ : ∃ L, L = NdL name 0 := ⟨_, rfl⟩
  rw [← hLe] at HL hzz ⊢
  have HE := Lib.hid hLe
  clear hLe
  go_enter Try.func17, Try.ntmps17
  go_wp2_with (first | (refine wpl_allocg rfl (run_alloc47 rfl _) ?_) | (refine wpl_val rfl (run_buildnd (s := name) rfl rfl rfl (fun _ => rfl) _) ?_; rw [← HE.out]) | (refine wpl_storeg kz hzz rfl rfl 44 (.tmp 2) (.tmp 6) rfl rfl rfl (info47 HL.out) HL.out.2 ?_))
  refine bodyPost_ret (v := .agg L) ?_ rfl ⟨rfl, below_setCells (g := w.heap.size) L.toList 0 B0 (Nat.le_refl _)⟩
  exact results_obj (setCells_whole kz hzz) HL.out rfl rfl
theorem run_build0 {ev : Operand → Value} {o : Oper} (ho : o.op = .build 44 #[]) (w : World) : (execOp ev o).run Try.prog w = .ok (.value (.agg Z47)) w := by
  unfold execOp
  simp only [ho]
  unfold Z47
  go_simp
theorem results_obj_two {fn : Func} {t s : Nat} {tmps : Array Value} {w : World} {g : Nat} {ty : TypeId} {L : Array Value} (hk : Bk w g ty L) (hL : Is47 L) (hf : fn.results = #[.cell t 44, .tmp s]) (hp : tmps.getD t undef = .pointer (some ⟨g, 0, none⟩)) : (results fn tmps).run Try.prog w = .ok (.tuple #[.agg L, tmps.getD s undef]) w := by
  have hr := run_loadVar_mid (P := Try.prog) w g 0 44 L.toList _ hk.range Try.underlying44 rfl (by simpa using info47 hL)
  have hp' : tmps[t]?.getD undef = .pointer (some ⟨g, 0, none⟩) := by rw [← hp, Array.getD_eq_getD_getElem?]
  simp only [results, hf]
  simp [hp', asAddr, hr]
set_option maxHeartbeats 2000000 in
set_option maxRecDepth 100000 in
theorem get_nil (kind : Int) (name : ByteArray) (w : World) : Calls Try.prog 11 #[.pointer none, .int .i64 kind, .string name] w fun e w' => e = .returned (.tuple #[.agg Z47, .bool false]) ∧ Below w.heap.size w w' := by
  have kz := Bk.new w 44 Z47
  have B0 := below_al w (.cells Z47 44)
  have hz := z47_is
  go_enter Try.func11, Try.ntmps11
  go_wp2_with (first | (refine wpl_allocg rfl (run_alloc47 rfl _) ?_) | (refine wpl_val rfl (run_build0 rfl _) ?_) | (refine wpl_storeg kz rfl rfl rfl 44 (.tmp 6) (.tmp 12) rfl rfl rfl (info47 hz) hz.2 ?_))
  refine bodyPost_ret (v := .tuple #[.agg Z47, .bool false]) ?_ rfl ⟨rfl, below_setCells (g := w.heap.size) Z47.toList 0 B0 (Nat.le_refl _)⟩
  exact results_obj_two (t := 6) (s := 7) (setCells_whole kz rfl) hz rfl (by rfl)
end Go.Proofs.Ytibekpfffimojaa
