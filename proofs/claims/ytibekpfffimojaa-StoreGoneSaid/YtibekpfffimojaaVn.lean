/-
  The walks of valid.size, named, between, node at the law's small node.
-/
import Derived.Test.YtibekpfffimojaaVd
namespace Go.Proofs.Ytibekpfffimojaa
open Go.RowKit Go.Proofs.Mem
set_option linter.unusedVariables false
set_option linter.unusedSimpArgs false
theorem between_since (w : World) : Calls Try.prog 47 #[.int .i64 0, .int .i64 0, .int .i64 4611686018427387904] w fun e w' => e = .returned (.bool true) ∧ w' = w := by
  go_enter Try.func47, Try.ntmps47
  go_wp2_with fail
  go_ret
  exact ⟨rfl, rfl⟩
theorem named_none (w : World) : Calls Try.prog 46 #[.string ⟨#[]⟩] w fun e w' => e = .returned (.bool true) ∧ w' = w := by
  go_enter Try.func46, Try.ntmps46
  go_wp2_with fail
  go_ret
  exact ⟨rfl, rfl⟩
set_option maxHeartbeats 2000000 in
set_option maxRecDepth 100000 in
theorem size_one (w : World) : Calls Try.prog 48 #[.agg #[.int .i64 1, .int .i64 0]] w fun e w' => e = .returned (.bool true) ∧ Below w.heap.size w w' := by
  go_enter Try.func48, Try.ntmps48
  go_wp2_with fail
  refine (qright 1 _ (by omega) (by omega)).mono ?_
  rintro e w' ⟨rfl, rfl⟩
  go_wp2_with fail
  refine (qright 0 _ (by omega) (by omega)).mono ?_
  rintro e w' ⟨rfl, rfl⟩
  go_wp2_with fail
  go_ret
  exact ⟨rfl, (Below.refl _ _).alloc (Nat.le_refl _) _⟩
def Nd0 : Array Value := #[.string ⟨#[]⟩, .int .i64 1, .int .i64 0, .slice none 0 0, .slice none 0 0, .int .i64 0, .bool false]
set_option maxHeartbeats 2000000 in
set_option maxRecDepth 100000 in
theorem node_one (w : World) : Calls Try.prog 30 #[.agg Nd0] w fun e w' => e = .returned (.bool true) ∧ Below w.heap.size w w' := by
  unfold Nd0
  go_enter Try.func30, Try.ntmps30
  go_wp2_with fail
  refine (named_none _).mono ?_
  rintro e w' ⟨rfl, rfl⟩
  have k0 := Bk.new w 33 #[.string ⟨#[]⟩, .int .i64 1, .int .i64 0, .slice none 0 0, .slice none 0 0, .int .i64 0, .bool false]
  have B0 := (Below.refl w.heap.size w).alloc (Nat.le_refl _) (.cells #[.string ⟨#[]⟩, .int .i64 1, .int .i64 0, .slice none 0 0, .slice none 0 0, .int .i64 0, .bool false] 33)
  generalize w.alloc (.cells #[.string ⟨#[]⟩, .int .i64 1, .int .i64 0, .slice none 0 0, .slice none 0 0, .int .i64 0, .bool false] 33) = w1 at k0 B0 ⊢
  have c1 := k0.cell 1
  have c2 := k0.cell 2
  go_wp2_with fail
  refine (size_one w1).mono ?_
  rintro e w2 ⟨rfl, b2⟩
  have k2 := k0.below' b2
  have B2 := below_tr B0 b2
  clear k0 B0 b2 c1 c2
  have c3 := k2.cell 3
  have c4 := k2.cell 4
  have c5 := k2.cell 5
  go_wp2_with fail
  refine (lright_nil w2).mono ?_
  rintro e w' ⟨rfl, rfl⟩
  go_wp2_with fail
  refine (lright_nil _).mono ?_
  rintro e w' ⟨rfl, rfl⟩
  go_wp2_with fail
  refine (between_since _).mono ?_
  rintro e w' ⟨rfl, rfl⟩
  go_wp2_with fail
  go_ret
  exact ⟨rfl, B2⟩
end Go.Proofs.Ytibekpfffimojaa
