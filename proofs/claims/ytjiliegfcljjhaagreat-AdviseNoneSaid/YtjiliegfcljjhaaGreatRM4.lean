/-
  Since of a ring that isn't there (samples of quantities).
-/
import Derived.RangeFuncNested
import Derived.RangeFuncBound
import Derived.RangeFuncCalls
import Derived.RangeFuncLeaves
import Derived.RangeFuncFrom
import Derived.Shelf.Abstract
import Derived.Shelf.RegionOpen
import Derived.WalkKit
import Derived.OwnWalkIn
import Derived.TacticsInMore
import Derived.LoopNIn
import Derived.LoopIn
import Derived.Test.YtjiliegfcljjhaaGreatRM2
namespace Go.Proofs.YtjiliegfcljjhaaGreat
open Go.RowKit Go.Proofs.Mem Go.Shelf
set_option linter.unusedVariables false
set_option linter.unusedSimpArgs false
attribute [local go_sem] Oper.semAt_some
set_option maxRecDepth 100000 in
theorem sinceI_run_nil (l b1 b2 : Nat) (W : World) (h : W.cell? ⟨b1, 0, none⟩ = some (.pointer none)) :
    Calls Tryz.prog 70 #[.func (.yield l) #[] #[], .pointer (some ⟨b1, 0, none⟩), .pointer (some ⟨b2, 0, none⟩)] W fun e W' => e = .returned (.tuple #[]) ∧ W = W' := by
  go_enter Tryz.func70, Tryz.ntmps70
  go_wp2_with fail
  refine (lenI_nil _).mono ?_
  rintro e w1 ⟨rfl, rfl⟩
  go_wp2_with fail
  go_loopw [8, 4] (fun i r wr => i = .int .i64 0 ∧ wr = W) (fun i r wr => 0)
  case atStart => exact ⟨rfl, rfl⟩
  case round =>
    obtain ⟨rfl, rfl⟩ := hrel
    go_wp2_with fail
    go_end0
    exact ⟨rfl, rfl⟩
theorem sinceI_stops_nil (n b1 b2 n0 : Nat) (w : World) (hb : b1 < w.heap.size) (h : w.cell? ⟨b1, 0, none⟩ = some (.pointer none)) :
    SeqStopsK Fence.wide n Tryz.prog 70 #[.pointer (some ⟨b1, 0, none⟩), .pointer (some ⟨b2, 0, none⟩)] (fun x : Int × Int => #[Value.agg #[.int .i64 x.1, .int .i64 x.2]]) (Below n0) (fun ys => ys = []) (fun _ => False) 0 w := by
  intro l J Jx W hW hJ hJx hY h0
  refine callsIn_wide.2 ?_
  refine (sinceI_run_nil l b1 b2 W ((hW.cell (p := ⟨b1, 0, none⟩) hb).trans h)).mono ?_
  rintro e W' ⟨rfl, rfl⟩
  exact ⟨⟨_, rfl⟩, .inl ⟨[], rfl, h0⟩⟩
set_option maxRecDepth 100000 in
theorem sinceI_any (r : Value) (t : Int) (w : World) (hr : ∃ p, r = .pointer p) : Calls Tryz.prog 38 #[r, .int .i64 t] w fun e w' => e = .returned (.func (.func 70) #[] #[.pointer (some ⟨w.heap.size, 0, none⟩), .pointer (some ⟨w.heap.size + 1, 0, none⟩)]) ∧ w' = (w.alloc (.cells #[r] 109)).alloc (.cells #[.int .i64 t] 2) := by
  obtain ⟨p, rfl⟩ := hr
  go_enter Tryz.func38, Tryz.ntmps38
  go_wp2_with fail
  go_ret
  exact ⟨rfl, rfl⟩
end Go.Proofs.YtjiliegfcljjhaaGreat
