/-
  The walk of valid.Default of an object (of no group, no hpa) all of whose slices are nil; label.Right of none; quant.Right; size; node.
-/
import Derived.Test.YtibekpfffimojaaVc
import Derived.Test.YtibekpfffimojaaLName
import Derived.Lib.QuietBelow
import Derived.BigQuiet
namespace Go.Proofs.Ytibekpfffimojaa
open Go.RowKit Go.Proofs.Mem
set_option linter.unusedVariables false
set_option linter.unusedSimpArgs false
set_option maxHeartbeats 2000000 in
set_option maxRecDepth 100000 in
theorem vdefault_nil (w : World) (L : Array Value) (hL : AllNil L) (kind : Int) (hk : L[0]? = some (.int .i64 kind)) (h3 : kind ≠ 3) (h4 : kind ≠ 4) : Calls Try.prog 18 #[.agg L] w fun e w' => e = .returned (.agg L) ∧ Below w.heap.size w w' := by
  have HL := Lib.hid hL
  have HK := Lib.hid hk
  have HU := Lib.hid (Try.underlying44)
  clear hL hk
  have k0 := (Bk.new w 44 L).alloc (.cells Z47 44)
  have z0 := Bk.new (w.alloc (.cells L 44)) 44 Z47
  rw [World.size_alloc] at z0
  have B0 : Below w.heap.size w ((w.alloc (.cells L 44)).alloc (.cells Z47 44)) := ((Below.refl _ _).alloc (Nat.le_refl _) _).alloc (by simp) _
  go_enter Try.func18, Try.ntmps18
  go_wp2_with (first | (refine wpl_allocg rfl (run_alloc47 rfl _) ?_) | (refine wpl_loadg k0 rfl 44 (.tmp 1) rfl rfl _ HU.out rfl (info47 HL.out.1) ?_))
  generalize (w.alloc (.cells L 44)).alloc (.cells Z47 44) = w1 at k0 z0 B0 ⊢
  refine (vclone_nil w1 L HL.out).mono ?_
  rintro e w2 ⟨rfl, b2⟩
  have k2 := k0.below' b2
  have z2 := z0.below' b2
  have B2 := below_tr B0 b2
  clear k0 z0 B0 b2
  have kS := setCells_whole k2 rfl
  have zS := setCells_far (h := w.heap.size) (show w.heap.size + 1 ≠ w.heap.size by omega) L.toList 0 z2
  have BS := below_setCells (g := w.heap.size) L.toList 0 B2 (Nat.le_refl _)
  obtain ⟨W3, hW3⟩ : ∃ W3, W3 = w2.setCells w.heap.size 0 L.toList := ⟨_, rfl⟩
  rw [← hW3] at kS zS BS
  have c0 := kS.cell 0
  rw [HK.out] at c0
  have hzz : Z47.size = L.size := HL.out.1.1.symm
  have HW := Lib.hid hW3
  clear hW3
  go_wp2_with (first | (refine wpl_storeg k2 rfl rfl rfl 44 (.tmp 1) (.tmp 4) rfl rfl rfl (info47 HL.out.1) HL.out.1.2 ?_; rw [← HW.out]) | (refine wpl_loadg kS rfl 44 (.tmp 1) rfl rfl _ HU.out rfl (info47 HL.out.1) ?_) | (refine wpl_storeg zS hzz rfl rfl 44 (.tmp 2) (.tmp 28) rfl rfl rfl (info47 HL.out.1) HL.out.1.2 ?_))
  refine bodyPost_ret (v := .agg L) ?_ rfl ⟨rfl, below_setCells (g := w.heap.size + 1) L.toList 0 BS (by omega)⟩
  exact results_obj (setCells_whole zS hzz) HL.out.1 rfl rfl
set_option maxHeartbeats 2000000 in
set_option maxRecDepth 100000 in
theorem lright_nil (w : World) : Calls Try.prog 49 #[.slice none 0 0] w fun e w' => e = .returned (.bool true) ∧ w' = w := by
  go_enter Try.func49, Try.ntmps49
  go_wp2_with fail
  go_loopw [7] (fun iv wr => iv = .int .i64 0 ∧ wr = w) (fun iv wr => 0)
  case atStart => exact ⟨rfl, rfl⟩
  case round =>
    obtain ⟨rfl, rfl⟩ := hrel
    go_wp2_with fail
    go_ret
    exact ⟨rfl, rfl⟩
theorem qright (x : Int) (w : World) (h0 : 0 ≤ x) (h1 : x ≤ 9007199254740992) : Calls Try.prog 68 #[.int .i64 x] w fun e w' => e = .returned (.bool true) ∧ w' = w := by
  go_enter Try.func68, Try.ntmps68
  go_wp2_with fail
  go_ret
  exact ⟨rfl, rfl⟩
end Go.Proofs.Ytibekpfffimojaa
