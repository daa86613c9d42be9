/-
  A ring that isn't there: the walk of trimtablaw10.RingNone.
-/
import Derived.RangeFuncNested
import Derived.RangeFuncBound
import Derived.RangeFuncCalls
import Derived.RangeFuncLeaves
import Derived.RangeFuncFrom
import Derived.Shelf.Abstract
import Derived.Shelf.RegionOpen
import Derived.WalkKit
import Derived.OwnWalkIn
import Derived.TacticsInMore
import Derived.LoopNIn
import Derived.LoopIn
import Derived.Test.YtilmmmokobhnfaaRing3
namespace Go.Proofs.Ytilmmmokobhnfaa
open Go.RowKit Go.Proofs.Mem Go.Shelf
set_option linter.unusedVariables false
set_option linter.unusedSimpArgs false
attribute [local go_sem] Oper.semAt_some
set_option maxRecDepth 100000 in
theorem sinceI_run_nil (l b1 b2 : Nat) (W : World) (h : W.cell? ⟨b1, 0, none⟩ = some (.pointer none)) :
    Calls Try.prog 75 #[.func (.yield l) #[] #[], .pointer (some ⟨b1, 0, none⟩), .pointer (some ⟨b2, 0, none⟩)] W fun e W' => e = .returned (.tuple #[]) ∧ W = W' := by
  go_enter Try.func75, Try.ntmps75
  go_wp2_with fail
  refine (lenI_nil _).mono ?_
  rintro e w1 ⟨rfl, rfl⟩
  go_wp2_with fail
  go_loopw [8, 4] (fun i r wr => i = .int .i64 0 ∧ wr = W) (fun i r wr => 0)
  case atStart => exact ⟨rfl, rfl⟩
  case round =>
    obtain ⟨rfl, rfl⟩ := hrel
    go_wp2_with fail
    go_end0
    exact ⟨rfl, rfl⟩
theorem sinceI_stops_nil (n b1 b2 n0 : Nat) (w : World) (hb : b1 < w.heap.size) (h : w.cell? ⟨b1, 0, none⟩ = some (.pointer none)) :
    SeqStopsK Fence.wide n Try.prog 75 #[.pointer (some ⟨b1, 0, none⟩), .pointer (some ⟨b2, 0, none⟩)] (fun x : Int × Int => #[Value.agg #[.int .i64 x.1, .int .i64 x.2]]) (Below n0) (fun ys => ys = []) (fun _ => False) 0 w := by
  intro l J Jx W hW hJ hJx hY h0
  refine callsIn_wide.2 ?_
  refine (sinceI_run_nil l b1 b2 W ((hW.cell (p := ⟨b1, 0, none⟩) hb).trans h)).mono ?_
  rintro e W' ⟨rfl, rfl⟩
  exact ⟨⟨_, rfl⟩, .inl ⟨[], rfl, h0⟩⟩
set_option maxRecDepth 100000 in
theorem sinceI_any (r : Value) (t : Int) (w : World) (hr : ∃ p, r = .pointer p) : Calls Try.prog 43 #[r, .int .i64 t] w fun e w' => e = .returned (.func (.func 75) #[] #[.pointer (some ⟨w.heap.size, 0, none⟩), .pointer (some ⟨w.heap.size + 1, 0, none⟩)]) ∧ w' = (w.alloc (.cells #[r] 84)).alloc (.cells #[.int .i64 t] 2) := by
  obtain ⟨p, rfl⟩ := hr
  go_enter Try.func43, Try.ntmps43
  go_wp2_with fail
  go_ret
  exact ⟨rfl, rfl⟩
set_option maxHeartbeats 500000 in
set_option maxRecDepth 100000 in
theorem cutI_nil (t : Int) (w : World) : Calls Try.prog 39 #[.pointer none, .int .i64 t] w fun e w' => e = .returned (.int .i64 0) ∧ Below w.heap.size w w' := by
  go_enter Try.func39, Try.ntmps39
  go_wp2_with fail
  go_loopw [5] (fun i wr => i = .int .i64 0 ∧ Below w.heap.size w wr) (fun i wr => 0)
  case atStart => exact ⟨rfl, Below.refl _ _⟩
  case round =>
    obtain ⟨rfl, hB⟩ := hrel
    have CN : ∀ w1, Calls Try.prog 44 #[.pointer none] w1 fun e w' => e = .returned (.int .i64 0) ∧ Below w1.heap.size w1 w' := fun w1 => (lenI_nil w1).mono (fun e w' ⟨h1, h2⟩ => ⟨h1, by subst h2; exact Below.refl _ _⟩)
    have CH := Lib.hid CN
    clear CN
    go_wp2_with fail
    refine wp_region_quiet_below (by kernel_rfl) (by kernel_rfl) ?_
    quiet_step (fail)
    quiet_step ((go_at_call 44; (with_reducible exact Calls.regrown_of (CH.out _))))
    repeat (go_big_quiet_step (fail))
    refine q_done fun W1 hBz => ?_
    go_wp2_with fail
    go_ret
    exact ⟨rfl, hB.trans (hBz.mono hB.size)⟩
set_option maxRecDepth 100000 in
theorem copyI_nil (w : World) : Calls Try.prog 40 #[.pointer none] w fun e w' => e = .returned (.pointer none) ∧ w = w' := by
  go_enter Try.func40, Try.ntmps40
  go_wp2_with fail
  go_ret
  exact ⟨rfl, rfl⟩
set_option maxRecDepth 100000 in
set_option maxHeartbeats 1000000 in
theorem ringNone_any (t x : Int) (w : World) : Calls Try.prog 7 #[.int .i64 t, .int .i64 x] w fun e w' => e = .returned (.bool true) ∧ Below w.heap.size w w' := by
  refine (callsIn_wide (n := 8)).1 ?_
  refine callsIn_of_wp_marks Try.func7 rfl trivial ?_ rfl
  simp only [Try.ntmps7, List.size_toArray, List.length_cons, List.length_nil, Nat.reduceAdd, Nat.reduceSub, Array.replicate_succ, Array.replicate_zero, List.push_toArray, List.append_toArray, List.nil_append, List.cons_append]
  gi_wp2_with (first
    | (refine ⟨trivial, ?_⟩; gi_at_call 36; refine (callsIn_wide.2 (lives10_any _)).mono ?_; rintro e w1 ⟨rfl, hb1⟩)
    | (refine ⟨trivial, ?_⟩; gi_at_call 42; refine (callsIn_wide.2 (lastI_nil _)).mono ?_; rintro e w2 ⟨rfl, hb2⟩)
    | (refine ⟨trivial, ?_⟩; gi_at_call 43; refine (callsIn_wide.2 (sinceI_any _ _ _ ⟨_, rfl⟩)).mono ?_; rintro e w3 ⟨rfl, rfl⟩))
  have hBn : Below w.heap.size w w2 := below_tr hb1 hb2
  have k8 := ((Bk.new (w2.alloc (.cells #[.int .i64 0, .int .i64 0] 91)) 3 #[.int .i64 0]).alloc (.cells #[.pointer none] 84)).alloc (.cells #[.int .i64 t] 2)
  have kb := (Bk.new ((w2.alloc (.cells #[.int .i64 0, .int .i64 0] 91)).alloc (.cells #[.int .i64 0] 3)) 84 #[.pointer none]).alloc (.cells #[.int .i64 t] 2)
  simp only [World.size_alloc] at k8 kb
  have hB0 : Below w.heap.size w ((((w2.alloc (.cells #[.int .i64 0, .int .i64 0] 91)).alloc (.cells #[.int .i64 0] 3)).alloc (.cells #[.pointer none] 84)).alloc (.cells #[.int .i64 t] 2)) := below_tr (below_tr (below_tr (below_tr hBn (below_al _ _)) (below_al _ _)) (below_al _ _)) (below_al _ _)
  generalize (((w2.alloc (.cells #[.int .i64 0, .int .i64 0] 91)).alloc (.cells #[.int .i64 0] 3)).alloc (.cells #[.pointer none] 84)).alloc (.cells #[.int .i64 t] 2) = W0 at k8 kb hB0 ⊢
  generalize hA : Act.mk _ [] = a0
  refine wpIn_rangeFunc_ownF rfl (by omega) (gf := 75) (lb := #[.pointer (some ⟨w2.heap.size + 1 + 1, 0, none⟩), .pointer (some ⟨w2.heap.size + 1 + 1 + 1, 0, none⟩)]) (by rw [← hA]; rfl) trivial (enters_of Try.func75 (by kernel_rfl) rfl)
    (sinceI_stops_nil _ _ _ w.heap.size W0 kb.lt (kb.cell 0)) belowK_t (belowK_b hB0.size) (Below.refl _ _) (fun _ => rfl)
    (fun pre W => W.cell? ⟨w2.heap.size + 1, 0, none⟩ = some (.int .i64 0) ∧ Below w.heap.size w W)
    (fun _ _ _ => False)
    (OwnFrom.and (Own.from (fun s A B row hs hg hr => cell_kept hs hg hr) _) (ownFrom_below (Nat.le_refl _) hB0.size))
    (fun _ _ _ _ _ hs _ _ => hs)
    ⟨k8.cell 0, hB0⟩
    (fun x => ⟨a0.tmps.setIfInBounds 19 (.agg #[.int .i64 x.1, .int .i64 x.2]), []⟩) ?assign ?body ?done ?stop
  case assign =>
    intro l x W K hK
    gi_wp2
    simpa using hK
  case body =>
    rintro l pre x W _ h
    exact absurd h (by omega)
  case done =>
    rintro D ys W hD rfl ⟨hc, hB⟩ hK
    subst hA
    gi_wp2
    refine wpIn_wide.2 ?_
    have hBW : Below w.heap.size w W := hB
    have CP := Lib.hid (fun w1 (_ : Below w.heap.size w w1) => (putI_nil t x w1).mono (R' := fun e w' => e = .returned (.int .i64 1) ∧ Below w1.heap.size w1 w') (fun e w' ⟨h1, h2⟩ => ⟨h1, by subst h2; exact Below.refl _ _⟩))
    have CL := Lib.hid (fun w1 => (lenI_nil w1).mono (R' := fun e w' => e = .returned (.int .i64 0) ∧ Below w1.heap.size w1 w') (fun e w' ⟨h1, h2⟩ => ⟨h1, by subst h2; exact Below.refl _ _⟩))
    have CC := Lib.hid (fun w1 => cutI_nil t w1)
    have CY := Lib.hid (fun w1 => (copyI_nil w1).mono (R' := fun e w' => e = .returned (.pointer none) ∧ Below w1.heap.size w1 w') (fun e w' ⟨h1, h2⟩ => ⟨h1, by subst h2; exact Below.refl _ _⟩))
    have hcr := fun d os => cell_regrown (w := W) (d := d) (os := os) hc
    refine wp_region_quiet_below (by kernel_rfl) (by kernel_rfl) ?_
    repeat (go_big_quiet_step (first
      | (go_at_call 38; (with_reducible exact Calls.regrown_of (CP.out _ (below_tr hBW (below_regrown _ _ _)))))
      | (go_at_call 44; (with_reducible exact Calls.regrown_of (CL.out _)))
      | (go_at_call 39; (with_reducible exact Calls.regrown_of (CC.out _)))
      | (go_at_call 40; (with_reducible exact Calls.regrown_of (CY.out _)))))
    refine q_done fun W1 hBz => ?_
    have hlt : D < W.heap.size := (Array.getElem?_eq_some_iff.1 hK).1
    have hK' : W1.heap[D]? = some (.deferred (some [])) := (hBz.block D hlt).trans hK
    gi_wp2
    refine ⟨by simp, .inl ⟨_, _, rfl, run_takeDeferred hK', ?_⟩⟩
    exact ⟨_, results_tmp rfl _ _ _, rfl, (below_tr hBW hBz).trans (belowK_b (w := w) (Nat.le_refl _) W1 D _ _ (Nat.le_trans hB0.size hD) hK' rfl rfl)⟩
  case stop =>
    rintro D c pre W _ h _ _
    exact h.elim
theorem ringNone_walk (t x : Int) (_ : (Lit.int .i64 t).wf = true) (_ : (Lit.int .i64 x).wf = true) (w : World) : Calls Try.prog 7 #[.int .i64 t, .int .i64 x] w fun e w' => e = .returned (.bool true) ∧ Below w.heap.size w w' := ringNone_any t x w
end Go.Proofs.Ytilmmmokobhnfaa
