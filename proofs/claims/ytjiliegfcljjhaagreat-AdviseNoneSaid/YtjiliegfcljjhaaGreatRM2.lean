/-
  The walks of package ring, at ints: New, and a law's own example. (printed by wip/gen_ring.py)
-/
import Derived.Test.YtjiliegfcljjhaaGreatRMi
namespace Go.Proofs.YtjiliegfcljjhaaGreat
open Go.RowKit Go.Proofs.Mem
set_option linter.unusedVariables false
set_option linter.unusedSimpArgs false
set_option maxHeartbeats 400000 in
set_option maxRecDepth 100000 in
theorem newI_ok (m : Nat) (h1 : 1 ≤ m) (h2 : m ≤ 32) (w : World) : Calls Tryz.prog 27 #[.int .i64 m] w fun e w' => ∃ p q, e = .returned (.tuple #[.pointer (some ⟨p, 0, none⟩), .int .i64 0]) ∧ RingI w' p q (List.replicate m (0, 0)) 0 0 ∧ w.heap.size ≤ p ∧ w.heap.size ≤ q ∧ Below w.heap.size w w' := by
  have b1 : (1 : Int) ≤ m := by omega
  have b2 : (m : Int) ≤ 32 := by omega
  obtain ⟨i, hi, hz, hs, hby⟩ := info_parts (P := Tryz.prog) (e := 131) (z := .agg #[.int .i64 0, .int .i64 0]) (size := 2) (bytes := 16) (by kernel_rfl)
  have hmk : ∀ w : World, (Instr.makeSlice 157 (.int .i64 m) (.int .i64 m)).run Tryz.prog w = .ok (.slice (some ⟨w.heap.size, 0, none⟩) m m) (w.alloc (.cells (madeCells #[.int .i64 0, .int .i64 0] (m * 2)) 131)) := fun w => by
    have := run_makeSlice (P := Tryz.prog) w 157 131 i (.agg #[.int .i64 0, .int .i64 0]) Tryz.underlying157 hi hz .i64 .i64 m m (by omega) (by omega) (by rw [hs]; omega) (by rw [hby]; omega) (by omega)
    rw [hs] at this
    simpa [Value.cells] using this
  clear hi hz hs hby
  have hq := Bk.new w 131 (madeCells #[.int .i64 0, .int .i64 0] (m * 2))
  have hqR : Rw (w.alloc (.cells (madeCells #[.int .i64 0, .int .i64 0] (m * 2)) 131)) w.heap.size 131 (rcells (Value.int .i64)) (List.replicate m (0, 0)) [] := by
    unfold Rw
    have e : ((List.replicate m ((0 : Int), (0 : Int))).flatMap (rcells (Value.int .i64)) ++ []).toArray = madeCells #[.int .i64 0, .int .i64 0] (m * 2) := by
      apply Array.toList_inj.1
      rw [made_two, List.flatMap, List.map_replicate]
      simp [rcells]
    rw [e]
    exact hq
  generalize madeCells #[.int .i64 0, .int .i64 0] (m * 2) = C at hmk hq hqR
  have HQ := Lib.hid hqR
  clear hq hqR
  go_enter Tryz.func27, Tryz.ntmps27
  go_wp2_with fail
  go_ret2
  refine ⟨w.heap.size + 1, w.heap.size, rfl, ⟨?_, ?_, by omega, by rw [List.length_replicate]; omega, Nat.zero_le _, by rw [List.length_replicate]; omega⟩, by omega, Nat.le_refl _, (below_al _ _).alloc (by simp) _⟩
  · have := Bk.new (w.alloc (.cells C 131)) 159 #[.slice (some ⟨w.heap.size, 0, none⟩) m m, .int .i64 0, .int .i64 0]
    rw [List.length_replicate]
    exact ⟨m, Nat.le_refl _, by simpa using this⟩
  · exact ⟨[], HQ.out.alloc _⟩
set_option maxHeartbeats 400000 in
set_option maxRecDepth 100000 in
theorem newI_bad (m : Int) (h : m < 1 ∨ (1 ≤ m ∧ 32 < m)) (w : World) : Calls Tryz.prog 27 #[.int .i64 m] w fun e w' => e = .returned (.tuple #[.pointer none, .int .i64 1]) ∧ w = w' := by
  rcases h with h | ⟨h1, h2⟩
  all_goals
    go_enter Tryz.func27, Tryz.ntmps27
    go_wp2_with fail
    go_ret2
    exact ⟨rfl, rfl⟩
end Go.Proofs.YtjiliegfcljjhaaGreat
