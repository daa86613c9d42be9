/-
  The walk of store.New: a store of no objects, or none.
-/
import Derived.Test.YtepihnpagpajeaaMaps
import Derived.Test.YtepihnpagpajeaaProg
namespace Go.Proofs.Ytepihnpagpajeaa
open Go.RowKit Go.Proofs.Mem
set_option linter.unusedVariables false
set_option linter.unusedSimpArgs false
/-- A store at block p: how many it takes, its map's block, what the map holds, the version, the events. -/
def StIs (w : World) (p b n : Nat) (D : DataW Value) (most : Int) (now : Nat) (ev : Value) : Prop :=
  b < p ∧ Bk w p 128 #[.int .i64 most, .map (some b), .int .u64 now, ev] ∧ Mp Try.prog w 169 b n D
def NewSt (most : Int) (w : World) (e : Ending) (w' : World) : Prop :=
  ∃ p b : Nat, e = .returned (.tuple #[.pointer (some ⟨p, 0, none⟩), .int .i64 0]) ∧ w.heap.size ≤ b ∧ StIs w' p b 0 (.map []) most 0 (.slice none 0 0) ∧ Below w.heap.size w w'
theorem snew_any (most : Int) (w : World) (h1 : 1 ≤ most) (h2 : most ≤ 512) : Calls Try.prog 12 #[.int .i64 most] w (NewSt most w) := by
  have hmm := @run_makeMap Try.prog
  go_enter Try.func12, Try.ntmps12
  go_wp2_with fail
  go_ret2
  have h1 := Mp.made w Try.prog 169
  have h2 := Bk.new (w.alloc (.map #[] 0)) 128 #[.int .i64 most, .map (some w.heap.size), .int .u64 0, .slice none 0 0]
  rw [World.size_alloc] at h2
  exact ⟨_, w.heap.size, rfl, Nat.le_refl _, ⟨by omega, h2, h1.alloc _⟩, ((Below.refl _ _).alloc (Nat.le_refl _) _).alloc (by simp) _⟩
theorem snew_bad (most : Int) (w : World) (h : most < 1 ∨ 512 < most) : Calls Try.prog 12 #[.int .i64 most] w fun e w' => e = .returned (.tuple #[.pointer none, .int .i64 1]) ∧ w = w' := by
  rcases h with h | h
  · go_enter Try.func12, Try.ntmps12
    go_wp2_with fail
    go_ret2
    exact ⟨rfl, rfl⟩
  · have h' : ¬ most < 1 := by omega
    go_enter Try.func12, Try.ntmps12
    go_wp2_with fail
    go_ret2
    exact ⟨rfl, rfl⟩
end Go.Proofs.Ytepihnpagpajeaa
