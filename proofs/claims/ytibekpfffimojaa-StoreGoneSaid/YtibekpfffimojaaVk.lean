/-
  The walk of valid.Check of an object of kind 2 whose node is the law's small one.
-/
import Derived.Test.YtibekpfffimojaaVn
namespace Go.Proofs.Ytibekpfffimojaa
open Go.RowKit Go.Proofs.Mem
set_option linter.unusedVariables false
set_option linter.unusedSimpArgs false
set_option maxHeartbeats 2000000 in
set_option maxRecDepth 100000 in
theorem check_one (w : World) (L : Array Value) (hL : Is47 L) (name : ByteArray) (hnm : nmB name = true) (h0 : L[0]? = some (.int .i64 2)) (h1 : L[1]? = some (.string name)) (hn : ∀ j, j < 7 → L[20 + j]? = Nd0[j]?)
    (hemp : ∀ w, Calls Try.prog 34 #[.agg L] w fun e w' => e = .returned (.bool true) ∧ Below w.heap.size w w') :
    Calls Try.prog 19 #[.agg L] w fun e w' => e = .returned (.int .i64 0) ∧ Below w.heap.size w w' := by
  have hsl : name.size ≤ maxLen := by
    unfold nmB at hnm
    simp only [Bool.and_eq_true, decide_eq_true_eq] at hnm
    unfold maxLen; omega
  have CN := Lib.hid (fun w1 => lname_any name w1 hsl)
  rw [hnm] at CN
  have CE := Lib.hid hemp
  have HL := Lib.hid hL
  have HU := Lib.hid (Try.underlying44)
  have k0 := Bk.new w 44 L
  have B0 := (Below.refl w.heap.size w).alloc (Nat.le_refl _) (.cells L 44)
  have q0 := k0.cell 0
  rw [h0] at q0
  have n0 := k0.cell 20
  rw [hn 0 (by omega)] at n0
  have n1 := k0.cell 21
  rw [hn 1 (by omega)] at n1
  have n2 := k0.cell 22
  rw [hn 2 (by omega)] at n2
  have n3 := k0.cell 23
  rw [hn 3 (by omega)] at n3
  have n4 := k0.cell 24
  rw [hn 4 (by omega)] at n4
  have n5 := k0.cell 25
  rw [hn 5 (by omega)] at n5
  have n6 := k0.cell 26
  rw [hn 6 (by omega)] at n6
  unfold Nd0 at n0 n1 n2 n3 n4 n5 n6
  simp only [List.getElem?_toArray, List.getElem?_cons_zero, List.getElem?_cons_succ] at n0 n1 n2 n3 n4 n5 n6
  have H1 := Lib.hid h1
  clear hL hnm hsl hemp h0 h1 hn
  go_enter Try.func19, Try.ntmps19
  go_upto_region 9 with fail
  generalize w.alloc (.cells L 44) = w1 at k0 B0 q0 n0 n1 n2 n3 n4 n5 n6 ⊢
  go_wp2_with fail
  refine (node_one w1).mono ?_
  rintro e w2 ⟨rfl, b2⟩
  have k2 := k0.below' b2
  have B2 := below_tr B0 b2
  clear b2 k0 B0 q0 n0 n1 n2 n3 n4 n5 n6
  have q1 := k2.cell 1
  rw [H1.out] at q1
  go_wp2_with fail
  refine (CN.out w2).mono ?_
  rintro e w3 ⟨rfl, rfl⟩
  go_wp2_with (refine wpl_loadg k2 rfl 44 (.tmp 1) rfl rfl _ HU.out rfl (info47 HL.out) ?_)
  refine (CE.out _).mono ?_
  rintro e w4 ⟨rfl, b4⟩
  have B4 := below_tr B2 b4
  clear b4 B2 k2 q1
  go_wp2_with fail
  go_ret
  exact ⟨rfl, B4⟩
end Go.Proofs.Ytibekpfffimojaa
