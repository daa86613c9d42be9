/-
  The walk of the book's Fresh at a series that isn't there.
-/
import Derived.Test.YtjiliegfcljjhaaGreatAd4
import Derived.RangeFuncNested
import Derived.RangeFuncWrites
namespace Go.Proofs.YtjiliegfcljjhaaGreat
open Go.RowKit Go.Proofs.Mem Go.Shelf
set_option linter.unusedVariables false
set_option linter.unusedSimpArgs false
attribute [local go_sem] Oper.semAt_some noPanic_normal
set_option maxHeartbeats 2000000 in
set_option maxRecDepth 100000 in
theorem fresh_none (w : World) (s b n : Nat) (D : DataW Value) (most age : Int) (h : BkIs w s b n D most age) (now : Int) (n0 : 0 ≤ now) (n1 : now ≤ 4611686018427387904) (a0 : 1 ≤ age) (a1 : age ≤ 1800) (sub met : ByteArray) (h3 : sub.size ≤ maxLen) (h4 : met.size ≤ maxLen)
    (hv : valAt D (kSr sub met) (.pointer none) = .pointer none) :
    Calls Tryz.prog 21 #[.pointer (some ⟨s, 0, none⟩), .int .i64 now, .agg #[.string sub, .string met]] w (FreshSt (0, 7) w) := by
  have hkey := keyOf_sr sub met h3 h4
  have HV := Lib.hid hv
  have k4 := (((Bk.new w 2 #[.int .i64 now]).alloc (.cells #[.string sub, .string met] 77)).alloc (.cells #[.int .i64 0, .int .i64 0] 131)).alloc (.cells #[.bool false] 4)
  have k5 := ((Bk.new (w.alloc (.cells #[.int .i64 now] 2)) 77 #[.string sub, .string met]).alloc (.cells #[.int .i64 0, .int .i64 0] 131)).alloc (.cells #[.bool false] 4)
  have k8 := (Bk.new ((w.alloc (.cells #[.int .i64 now] 2)).alloc (.cells #[.string sub, .string met] 77)) 131 #[.int .i64 0, .int .i64 0]).alloc (.cells #[.bool false] 4)
  have k9 := Bk.new (((w.alloc (.cells #[.int .i64 now] 2)).alloc (.cells #[.string sub, .string met] 77)).alloc (.cells #[.int .i64 0, .int .i64 0] 131)) 4 #[.bool false]
  have hB0 := below_tr (below_tr (below_tr (below_al w (.cells #[.int .i64 now] 2)) (below_al _ (.cells #[.string sub, .string met] 77))) (below_al _ (.cells #[.int .i64 0, .int .i64 0] 131))) (below_al _ (.cells #[.bool false] 4))
  have HS0 := Lib.hid h
  have HS := Lib.hid (h.below hB0)
  simp only [World.size_alloc] at k4 k5 k8 k9
  clear h h3 h4 hv
  refine (callsIn_wide (n := 8)).1 ?_
  refine callsIn_of_wp_marks Tryz.func21 rfl trivial ?_ rfl
  refine wpIn_wide.2 ?_
  simp only [Tryz.ntmps21, List.size_toArray, List.length_cons, List.length_nil, Nat.reduceAdd, Nat.reduceSub, Array.replicate_succ, Array.replicate_zero, List.push_toArray, List.append_toArray, List.nil_append, List.cons_append]
  go_wp2_with fail
  generalize (((w.alloc (.cells #[.int .i64 now] 2)).alloc (.cells #[.string sub, .string met] 77)).alloc (.cells #[.int .i64 0, .int .i64 0] 131)).alloc (.cells #[.bool false] 4) = w1 at k4 k5 k8 k9 hB0 HS ⊢
  have d2 := HS.out.2.1.cell 2
  have m2 := HS.out.2.2
  have x0 := k5.cell 0
  have x1 := k5.cell 1
  refine wp_mono (Q := noPanic _) ?_ noPanic_le
  refine wp_region_reads 6 1 (fun w' => w'.cell? ⟨s, 2, none⟩ = some (.map (some b)) ∧ w'.cell? ⟨w.heap.size + 1, 0, none⟩ = some (.string sub) ∧ w'.cell? ⟨w.heap.size + 1, 1, none⟩ = some (.string met) ∧ Mp Tryz.prog w' 77 b n D) (by kernel_rfl) (by kernel_rfl) (fun c a d v w h => h.elim) ⟨d2, x0, x1, m2⟩ ?_
  simp only [List.take_succ_cons, List.take_zero, List.drop_succ_cons, List.drop_zero]
  iterate 6
    refine reads_step (v := ?_) (by rfl) (fun w' hS => ?_) ?_
    rotate_left
    · have u2 := hS.1
      have v0 := hS.2.1
      have v1 := hS.2.2.1
      have hl := hS.2.2.2.run_look srK underSr (zeroSr w') hkey
      rw [HV.out] at hl
      clear hS
      go_simp
      with_reducible rfl
    simp only [Act.put, List.setIfInBounds_toArray, List.set_cons_zero, List.set_cons_succ]
  refine reads_nil ?_
  have hsz : w1.drew.heap.size = w1.heap.size := rfl
  refine early_callT (R := fun w' => w' = (w1.drew.alloc (.cells #[.pointer none] 109)).alloc (.cells #[.int .i64 0] 2)) (.func (.func 70) #[] #[.pointer (some ⟨w1.heap.size, 0, none⟩), .pointer (some ⟨w1.heap.size + 1, 0, none⟩)]) 19 _ #[.pointer none, .int .i64 0] rfl rfl (by rfl) (by go_simp) (sinceI_any _ 0 w1.drew ⟨_, rfl⟩) ?_
  rintro w2 rfl
  have KB1 := (Bk.new w1.drew 109 #[.pointer none]).alloc (.cells #[.int .i64 0] 2)
  have KB2 := Bk.new (w1.drew.alloc (.cells #[.pointer none] 109)) 2 #[.int .i64 0]
  rw [World.size_alloc] at KB2
  rw [hsz] at KB1 KB2
  have hB12 : Below w1.heap.size w1 ((w1.drew.alloc (.cells #[.pointer none] 109)).alloc (.cells #[.int .i64 0] 2)) := ((Below.refl _ _).drew.alloc (Nat.le_refl _) _).alloc (by rw [World.size_alloc]; exact Nat.le_succ _) _
  have K4 := k4.below' hB12
  have K5 := k5.below' hB12
  have K8 := k8.below' hB12
  have K9 := k9.below' hB12
  have HS1 := Lib.hid (HS.out.below hB12)
  have HB1 := below_tr hB0 hB12
  have hg1 : w.heap.size + 1 + 1 + 1 < w1.heap.size := k9.lt
  have d2' := HS1.out.2.1.cell 2
  refine ⟨⟨d2', K5.cell 0, K5.cell 1, HS1.out.2.2⟩, ?_⟩
  simp only [wpEarly]
  simp only [Act.put, List.setIfInBounds_toArray, List.set_cons_zero, List.set_cons_succ]
  generalize (w1.drew.alloc (.cells #[.pointer none] 109)).alloc (.cells #[.int .i64 0] 2) = W1 at KB1 KB2 K4 K5 K8 K9 HS1 HB1 ⊢
  clear hB12 hB0 HS k4 k5 k8 k9 d2 m2 x0 x1 d2' hsz
  generalize w1.heap.size = g1 at KB1 KB2 hg1 ⊢
  clear w1
  go_wp2_with fail
  rw [noPanic_normal]
  go_wp2_with fail
  refine (wpIn_wide (n := 8)).1 ?_
  generalize hA : Act.mk _ [] = a0
  refine wpIn_rangeFunc_ownH rfl (by omega) (gf := 70) (lb := #[.pointer (some ⟨g1, 0, none⟩), .pointer (some ⟨g1 + 1, 0, none⟩)]) (by rw [← hA]; rfl) trivial (enters_of Tryz.func70 (by kernel_rfl) rfl)
    (sinceI_stops_nil _ _ _ w.heap.size W1 KB1.lt (KB1.cell 0)) belowK_t (belowK_b HB1.size) (Below.refl _ _) (fun _ => rfl)
    (fun pre W => Bk W (w.heap.size + 1 + 1 + 1) 4 #[.bool false] ∧ Below w.heap.size w W)
    (fun _ _ _ => False)
    (fun s A B row h hg hr => ⟨bk_own h.1 hg (fun r e => (hr r e).2), (ownFrom_below (β := Unit) (Nat.le_refl _) HB1.size) () A B row h.2 hg hr⟩)
    (fun c s A B row h hg hr => h)
    ⟨K9, HB1⟩
    (fun x a' W => True)
    (fun x a' s A B row h hg hr => h) ?assign ?body ?done ?stop
  case assign =>
    rintro l pre ⟨xa', xv'⟩ W K ⟨j9, hBW⟩ hK
    have HK := Lib.hid (hK ⟨(a0.tmps.setIfInBounds 20 (.agg #[.int .i64 xa', .int .i64 xv'])).setIfInBounds 10 (.pointer (some ⟨W.heap.size, 0, none⟩)), []⟩ (W.alloc (.cells #[.int .i64 xa', .int .i64 xv'] 131)) ((KeepsOthers.alloc _ _).from _)
      ((Below.refl _ _).alloc hBW.size _)
      ⟨j9.alloc _, hBW.alloc hBW.size _⟩ trivial)
    clear hK
    subst hA
    have kw := Bk.new W 131 #[.int .i64 0, .int .i64 0]
    gi_wp2
    exact HK.out
  case body =>
    rintro l pre x a' W _ _ _ _ h
    exact absurd h (by omega)
  case done =>
    rintro D ys W hD rfl ⟨j9, hB⟩ hK
    have c9 := j9.cell 0
    subst hA
    have hKB : Below w.heap.size w (W.putObj D (.deferred none)) := hB.trans (belowK_b (w := w) (Nat.le_refl _) W D _ _ (Nat.le_trans HB1.size hD) hK rfl rfl)
    go_wp2_with fail
    refine ⟨by simp, .inl ⟨_, _, rfl, run_takeDeferred hK, ?_⟩⟩
    exact ⟨_, results_tmp2 rfl _ _ _, rfl, hKB⟩
  case stop =>
    rintro D c pre W _ h _ _
    exact h.elim
end Go.Proofs.YtjiliegfcljjhaaGreat
