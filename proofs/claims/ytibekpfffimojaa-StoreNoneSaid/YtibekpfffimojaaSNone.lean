/-
  The walk of trimtablaw08.StoreNone.
-/
import Derived.RangeFuncNested
import Derived.RangeFuncBound
import Derived.RangeFuncCalls
import Derived.RangeFuncLeaves
import Derived.RangeFuncFrom
import Derived.Shelf.Abstract
import Derived.Shelf.RegionOpen
import Derived.WalkKit
import Derived.OwnWalkIn
import Derived.TacticsInMore
import Derived.LoopNIn
import Derived.LoopIn
import Derived.Test.YtibekpfffimojaaLv8
import Derived.Test.YtibekpfffimojaaVe
import Derived.Test.YtibekpfffimojaaSl
import Derived.Test.YtibekpfffimojaaFewG
namespace Go.Proofs.Ytibekpfffimojaa
open Go.RowKit Go.Proofs.Mem Go.Shelf
set_option linter.unusedVariables false
set_option linter.unusedSimpArgs false
attribute [local go_sem] Oper.semAt_some
theorem emp_one : EmpOne := fun name v w => empties_one name v w
theorem list_stops_nil (n b1 b2 n0 : Nat) (w : World) (hb : b1 < w.heap.size) (h : w.cell? ⟨b1, 0, none⟩ = some (.pointer none)) :
    SeqStopsK Fence.wide n Try.prog 24 #[.pointer (some ⟨b1, 0, none⟩), .pointer (some ⟨b2, 0, none⟩)] (fun x : Array Value => #[Value.agg x]) (Below n0) (fun ys => ys = []) (fun _ => False) 0 w := by
  intro l J Jx W hW hJ hJx hY h0
  refine callsIn_wide.2 ?_
  refine (list_run_nil l b1 b2 W ((hW.cell (p := ⟨b1, 0, none⟩) hb).trans h)).mono ?_
  rintro e W' ⟨rfl, rfl⟩
  exact ⟨⟨_, rfl⟩, .inl ⟨[], rfl, h0⟩⟩
theorem sl_one {w : World} {s : Nat} {v : Value} {n : Nat} {xs : List Value} (h : Sl w s v n xs) : v.oneCell' = true := by
  obtain ⟨A, c, rfl, _⟩ := h
  rfl
theorem ob_is47 {o : Ob} {w : World} (h : o.Ok w) : Is47 o.cells.toArray := by
  refine ⟨rfl, ?_⟩
  have a1 := sl_one h.w.labels.1
  have a2 := sl_one h.w.select.1
  have a3 := sl_one h.w.tolerate.1
  have b1 := sl_one h.p.labels.1
  have b2 := sl_one h.p.select.1
  have b3 := sl_one h.p.tolerate.1
  have c1 := sl_one h.n.labels.1
  have c2 := sl_one h.n.taints.1
  have d1 := sl_one h.g.labels.1
  have d2 := sl_one h.g.taints.1
  have e1 := sl_one h.h.metrics.1
  have e2 := sl_one h.h.up.policies.1
  have e3 := sl_one h.h.down.policies.1
  have e4 := sl_one h.h.past.1
  simp only [Ob.cells, Wl.cells, Pd.cells, Nd.cells, Gr.cells, Hp.cells, List.cons_append, List.nil_append, List.append_assoc, List.all_cons, List.all_nil, a1, a2, a3, b1, b2, b3, c1, c2, d1, d2, e1, e2, e3, e4, Bool.true_and, Bool.and_true]
  rfl
set_option maxRecDepth 100000 in
set_option maxHeartbeats 4000000 in
theorem storeNone_any (o : Ob) (kind ver : Int) (w : World) (ho : o.Ok w) : Calls Try.prog 3 #[.agg o.cells.toArray, .int .i64 kind, .int .u64 ver] w fun e w' => e = .returned (.bool true) ∧ Below w.heap.size w w' := by
  obtain ⟨L, hLe⟩ : ∃ L, L = o.cells.toArray := ⟨_, rfl⟩
  have hL : Is47 L := by
    rw [hLe]
    exact ob_is47 ho
  have CF := Lib.hid (fun w1 (hb : Below w.heap.size w w1) => by
    have h := few_any o w1 (ho.below hb)
    rw [← hLe] at h
    exact h)
  rw [← hLe]
  clear hLe ho
  have HL := Lib.hid hL
  clear hL
  have HU := Lib.hid (Try.underlying44)
  have CL := Lib.hid (fun w1 => lives8_any emp_one w1)
  refine (callsIn_wide (n := 8)).1 ?_
  refine callsIn_of_wp_marks Try.func3 rfl trivial ?_ rfl
  refine wpIn_wide.2 ?_
  simp only [Try.ntmps3, List.size_toArray, List.length_cons, List.length_nil, Nat.reduceAdd, Nat.reduceSub, Array.replicate_succ, Array.replicate_zero, List.push_toArray, List.append_toArray, List.nil_append, List.cons_append]
  have kb := Bk.new w 44 L
  have B0 := below_al w (.cells L 44)
  go_wp2_with (first | (refine wpl_allocg rfl (run_box47 HL.out rfl rfl _) ?_))
  obtain ⟨q, hq⟩ : ∃ q, q = w.heap.size := ⟨_, rfl⟩
  have HQ := Lib.hid hq
  rw [← hq] at kb ⊢
  clear hq
  generalize w.alloc (.cells L 44) = w1 at kb B0 ⊢
  refine (CL.out w1).mono ?_
  rintro e w2 ⟨rfl, b2⟩
  have B2 := below_tr B0 b2
  have kb2 := kb.below' b2
  clear b2 kb B0 w1
  go_wp2_with (first | (refine wpl_loadg kb2 rfl 44 (.tmp 3) rfl rfl _ HU.out rfl (info47 HL.out) ?_))
  refine (CF.out w2 B2).mono ?_
  rintro e w3 ⟨⟨few, rfl⟩, b3⟩
  have B3 := below_tr B2 b3
  have kb3 := kb2.below' b3
  clear b3 kb2 B2 w2
  rcases few with _ | _
  · go_wp2_with fail
    refine (CL.out w3).mono ?_
    rintro e w4 ⟨rfl, b4⟩
    go_wp2_with fail
    exact ⟨_, results_tmp rfl _ _ _, rfl, below_tr B3 b4⟩
  go_wp2_with (first | (refine wpl_loadg kb3 rfl 44 (.tmp 3) rfl rfl _ HU.out rfl (info47 HL.out) ?_))
  refine (create_nil L w3).mono ?_
  rintro e w4 ⟨rfl, b4⟩
  have B4 := below_tr B3 b4
  have kb4 := kb3.below' b4
  clear b4 kb3 B3 w3
  go_wp2_with (first | (refine wpl_loadg kb4 rfl 44 (.tmp 3) rfl rfl _ HU.out rfl (info47 HL.out) ?_))
  refine (update_nil L w4).mono ?_
  rintro e w5 ⟨rfl, b5⟩
  have B5 := below_tr B4 b5
  clear b5 kb4 B4 w4
  go_wp2_with fail
  refine (delete_nil kind _ ver w5).mono ?_
  rintro e w6 ⟨rfl, rfl⟩
  go_wp2_with fail
  refine (since_nil ver _).mono ?_
  rintro e w6 ⟨rfl, rfl⟩
  go_wp2_with fail
  refine (get_nil kind _ _).mono ?_
  rintro e w6 ⟨rfl, b6⟩
  have B6 := below_tr B5 b6
  clear b6 B5
  obtain ⟨Z, hZ⟩ : ∃ Z, Z = Z47 := ⟨_, rfl⟩
  have hz : Is47 Z := by rw [hZ]; exact z47_is
  have hzz : Z47.size = Z.size := by rw [hZ]
  rw [← hZ]
  clear hZ
  have HZ := Lib.hid hz
  clear hz
  have kz := Bk.new w6 44 Z47
  have B7 := below_setCells (g := w6.heap.size) Z.toList 0 (B6.alloc B6.size (.cells Z47 44)) B6.size
  go_wp2_with (first | (refine wpl_allocg rfl (run_alloc47 rfl _) ?_) | (refine wpl_storeg kz hzz rfl rfl 44 (.tmp 16) (.tmp 56) rfl rfl rfl (info47 HZ.out) HZ.out.2 ?_))
  generalize (w6.alloc (.cells Z47 44)).setCells w6.heap.size 0 Z.toList = w7 at B7 ⊢
  clear kz hzz HZ B6
  refine (list_nil kind _).mono ?_
  rintro e w8 ⟨rfl, rfl⟩
  have k8 := ((Bk.new w7 3 #[.int .i64 0]).alloc (.cells #[.pointer none] 47)).alloc (.cells #[.int .i64 kind] 3)
  have kb := (Bk.new (w7.alloc (.cells #[.int .i64 0] 3)) 47 #[.pointer none]).alloc (.cells #[.int .i64 kind] 3)
  have hB0 : Below w.heap.size w (((w7.alloc (.cells #[.int .i64 0] 3)).alloc (.cells #[.pointer none] 47)).alloc (.cells #[.int .i64 kind] 3)) := below_tr (below_tr (below_tr B7 (below_al _ _)) (below_al _ _)) (below_al _ _)
  simp only [World.size_alloc] at k8 kb
  go_wp2_with fail
  generalize ((w7.alloc (.cells #[.int .i64 0] 3)).alloc (.cells #[.pointer none] 47)).alloc (.cells #[.int .i64 kind] 3) = W0 at k8 kb hB0 ⊢
  refine (wpIn_wide (n := 8)).1 ?_
  generalize hA : Act.mk _ [] = a0
  refine wpIn_rangeFunc_ownF rfl (by omega) (gf := 24) (lb := #[.pointer (some ⟨w7.heap.size + 1, 0, none⟩), .pointer (some ⟨w7.heap.size + 1 + 1, 0, none⟩)]) (by rw [← hA]; rfl) trivial (enters_of Try.func24 (by kernel_rfl) rfl)
    (list_stops_nil _ _ _ w.heap.size W0 kb.lt (kb.cell 0)) belowK_t (belowK_b hB0.size) (Below.refl _ _) (fun _ => rfl)
    (fun pre W => W.cell? ⟨w7.heap.size, 0, none⟩ = some (.int .i64 0) ∧ Below w.heap.size w W)
    (fun _ _ _ => False)
    (OwnFrom.and (Own.from (fun s A B row hs hg hr => cell_kept hs hg hr) _) (ownFrom_below (Nat.le_refl _) hB0.size))
    (fun _ _ _ _ _ hs _ _ => hs)
    ⟨k8.cell 0, hB0⟩
    (fun x => ⟨a0.tmps.setIfInBounds 61 (.agg x), []⟩) ?assign ?body ?done ?stop
  case assign =>
    intro l x W K hK
    gi_wp2
    simpa using hK
  case body =>
    rintro l pre x W _ h
    exact absurd h (by omega)
  case done =>
    rintro D ys W hD rfl ⟨hc, hB⟩ hK
    subst hA
    go_wp2_with fail
    have hBW : Below w.heap.size w W := hB
    have CN := Lib.hid (fun w1 => (now_nil w1).mono (R' := fun e w' => e = .returned (.int .u64 0) ∧ Below w1.heap.size w1 w') (fun e w' ⟨h1, h2⟩ => ⟨h1, by subst h2; exact Below.refl _ _⟩))
    have CE := Lib.hid (fun w1 => (len_nil w1).mono (R' := fun e w' => e = .returned (.int .i64 0) ∧ Below w1.heap.size w1 w') (fun e w' ⟨h1, h2⟩ => ⟨h1, by subst h2; exact Below.refl _ _⟩))
    have CY := Lib.hid (fun w1 => (copy_nil w1).mono (R' := fun e w' => e = .returned (.pointer none) ∧ Below w1.heap.size w1 w') (fun e w' ⟨h1, h2⟩ => ⟨h1, by subst h2; exact Below.refl _ _⟩))
    have hcr := fun d os => cell_regrown (w := W) (d := d) (os := os) hc
    refine wp_region_quiet_below (by kernel_rfl) (by kernel_rfl) ?_
    repeat (go_big_quiet_step (first
      | (go_at_call 13; (with_reducible exact Calls.regrown_of (CE.out _)))
      | (go_at_call 14; (with_reducible exact Calls.regrown_of (CN.out _)))
      | (go_at_call 15; (with_reducible exact Calls.regrown_of (CY.out _)))))
    refine q_done fun W1 hBz => ?_
    have hlt : D < W.heap.size := (Array.getElem?_eq_some_iff.1 hK).1
    have hK' : W1.heap[D]? = some (.deferred (some [])) := (hBz.block D hlt).trans hK
    go_wp2_with fail
    refine ⟨by simp, .inl ⟨_, _, rfl, run_takeDeferred hK', ?_⟩⟩
    exact ⟨_, results_tmp rfl _ _ _, rfl, (below_tr hBW hBz).trans (belowK_b (w := w) (Nat.le_refl _) W1 D _ _ (Nat.le_trans hB0.size hD) hK' rfl rfl)⟩
  case stop =>
    rintro D c pre W _ h _ _
    exact h.elim
theorem storeNone_walk (a : Array Value) (kind ver : Int) (w : World) (h : Mem.Ok Try.prog w 9 44 (Value.agg a).cells.toList) (_ : (Lit.int .i64 kind).wf = true) (_ : (Lit.int .u64 ver).wf = true) :
    Calls Try.prog 3 #[.agg a, .int .i64 kind, .int .u64 ver] w fun e w' => e = .returned (.bool true) ∧ Below w.heap.size w w' := by
  obtain ⟨o, hp, ho⟩ := obj_of (n := 3) h
  have ha : a = o.cells.toArray := arr_of hp
  subst ha
  exact storeNone_any o kind ver w ho
end Go.Proofs.Ytibekpfffimojaa
