/-
  The walk of the book's Fresh.
-/
import Derived.Test.YtjiliegfcljjhaaGreatAd3
import Derived.Test.YtjiliegfcljjhaaGreatRM7
import Derived.RangeFuncNested
import Derived.RangeFuncWrites
namespace Go.Proofs.YtjiliegfcljjhaaGreat
open Go.RowKit Go.Proofs.Mem Go.Shelf
set_option linter.unusedVariables false
set_option linter.unusedSimpArgs false
attribute [local go_sem] Oper.semAt_some noPanic_normal
theorem bk_own {g : Nat} {t : TypeId} {cs : Array Value} {W W' : World} {row : Option Nat} (h : Bk W g t cs) (hg : W.grownBy W' row) (hr : ∀ r, row = some r → ∃ o : Obj, W.heap[r]? = some o ∧ o.isCells = false) : Bk W' g t cs := by
  refine h.grown hg fun e => ?_
  obtain ⟨o, ho, hc⟩ := hr g e.symm
  have h' : W.heap[g]? = some (.cells cs t) := h
  rw [h'] at ho
  injection ho with ho
  subst ho
  cases hc
theorem keepR_b {p q b1 b2 : Nat} {w : World} (hp : p < w.heap.size) (hq : q < w.heap.size) (h1 : b1 < w.heap.size) (h2 : b2 < w.heap.size) (W : World) (l : Nat) (o o' : Obj) (hl : w.heap.size ≤ l) (h : W.heap[l]? = some o) (_ : o.isCells = false) (_ : o.isWalk = false) : KeepR p q b1 b2 W (W.putObj l o') := by
  have hg := grownBy_putObj' W l o'
  have hlW : l < W.heap.size := (Array.getElem?_eq_some_iff.1 h).1
  have e : ∀ b, b < w.heap.size → (W.putObj l o').heap[b]? = W.heap[b]? := fun b hb => hg.block b (by omega) (fun e => by injection e with e; omega)
  exact ⟨hg.size, e p hp, e q hq, e b1 h1, e b2 h2⟩
/-- The last sample up to a tick. -/
def lastS (now : Int) (pre : List (Int × Int)) : (Int × Int) × Bool := pre.foldl (fun s x => if x.1 ≤ now then (x, true) else s) ((0, 0), false)
theorem lastS_snoc (now : Int) (pre : List (Int × Int)) (x : Int × Int) : lastS now (pre ++ [x]) = if x.1 ≤ now then (x, true) else lastS now pre := by
  unfold lastS
  rw [List.foldl_append]
  rfl
def freshF (now age : Int) (L : List (Int × Int)) : Int × Int :=
  if (lastS now (L.filter fun y => decide (0 ≤ y.1))).2 = false then (0, 7) else if (lastS now (L.filter fun y => decide (0 ≤ y.1))).1.1 < now - age then (0, 13) else ((lastS now (L.filter fun y => decide (0 ≤ y.1))).1.2, 0)
def FreshSt (r : Int × Int) (w : World) (e : Ending) (w' : World) : Prop := e = .returned (.tuple #[.int .i64 r.1, .int .i64 r.2]) ∧ Below w.heap.size w w'
set_option maxHeartbeats 2000000 in
set_option maxRecDepth 100000 in
theorem fresh_any (w : World) (s b n : Nat) (D : DataW Value) (most age : Int) (h : BkIs w s b n D most age) (now : Int) (n0 : 0 ≤ now) (n1 : now ≤ 4611686018427387904) (a0 : 1 ≤ age) (a1 : age ≤ 1800) (sub met : ByteArray) (h3 : sub.size ≤ maxLen) (h4 : met.size ≤ maxLen)
    (p q f nn : Nat) (zs : List (Int × Int)) (hv : valAt D (kSr sub met) (.pointer none) = .pointer (some ⟨p, 0, none⟩)) (hR : RingI w p q zs f nn) :
    Calls Tryz.prog 21 #[.pointer (some ⟨s, 0, none⟩), .int .i64 now, .agg #[.string sub, .string met]] w (FreshSt (freshF now age (lst zs f nn)) w) := by
  have hkey := keyOf_sr sub met h3 h4
  have HV := Lib.hid hv
  have k4 := (((Bk.new w 2 #[.int .i64 now]).alloc (.cells #[.string sub, .string met] 77)).alloc (.cells #[.int .i64 0, .int .i64 0] 131)).alloc (.cells #[.bool false] 4)
  have k5 := ((Bk.new (w.alloc (.cells #[.int .i64 now] 2)) 77 #[.string sub, .string met]).alloc (.cells #[.int .i64 0, .int .i64 0] 131)).alloc (.cells #[.bool false] 4)
  have k8 := (Bk.new ((w.alloc (.cells #[.int .i64 now] 2)).alloc (.cells #[.string sub, .string met] 77)) 131 #[.int .i64 0, .int .i64 0]).alloc (.cells #[.bool false] 4)
  have k9 := Bk.new (((w.alloc (.cells #[.int .i64 now] 2)).alloc (.cells #[.string sub, .string met] 77)).alloc (.cells #[.int .i64 0, .int .i64 0] 131)) 4 #[.bool false]
  have hB0 := below_tr (below_tr (below_tr (below_al w (.cells #[.int .i64 now] 2)) (below_al _ (.cells #[.string sub, .string met] 77))) (below_al _ (.cells #[.int .i64 0, .int .i64 0] 131))) (below_al _ (.cells #[.bool false] 4))
  have HS0 := Lib.hid h
  have HP0 := Lib.hid (And.intro hR.plt hR.qlt)
  have HP0 := Lib.hid (And.intro hR.plt hR.qlt)
  have HP0 := Lib.hid (And.intro hR.plt hR.qlt)
  have HP0 := Lib.hid (And.intro hR.plt hR.qlt)
  have HS := Lib.hid (h.below hB0)
  have HR := Lib.hid (hR.below hB0)
  simp only [World.size_alloc] at k4 k5 k8 k9
  clear h h3 h4 hv hR
  refine (callsIn_wide (n := 8)).1 ?_
  refine callsIn_of_wp_marks Tryz.func21 rfl trivial ?_ rfl
  refine wpIn_wide.2 ?_
  simp only [Tryz.ntmps21, List.size_toArray, List.length_cons, List.length_nil, Nat.reduceAdd, Nat.reduceSub, Array.replicate_succ, Array.replicate_zero, List.push_toArray, List.append_toArray, List.nil_append, List.cons_append]
  go_wp2_with fail
  generalize (((w.alloc (.cells #[.int .i64 now] 2)).alloc (.cells #[.string sub, .string met] 77)).alloc (.cells #[.int .i64 0, .int .i64 0] 131)).alloc (.cells #[.bool false] 4) = w1 at k4 k5 k8 k9 hB0 HS HR ⊢
  have d2 := HS.out.2.1.cell 2
  have m2 := HS.out.2.2
  have x0 := k5.cell 0
  have x1 := k5.cell 1
  refine wp_mono (Q := noPanic _) ?_ noPanic_le
  refine wp_region_reads 6 1 (fun w' => w'.cell? ⟨s, 2, none⟩ = some (.map (some b)) ∧ w'.cell? ⟨w.heap.size + 1, 0, none⟩ = some (.string sub) ∧ w'.cell? ⟨w.heap.size + 1, 1, none⟩ = some (.string met) ∧ Mp Tryz.prog w' 77 b n D) (by kernel_rfl) (by kernel_rfl) (fun c a d v w h => h.elim) ⟨d2, x0, x1, m2⟩ ?_
  simp only [List.take_succ_cons, List.take_zero, List.drop_succ_cons, List.drop_zero]
  iterate 6
    refine reads_step (v := ?_) (by rfl) (fun w' hS => ?_) ?_
    rotate_left
    · have u2 := hS.1
      have v0 := hS.2.1
      have v1 := hS.2.2.1
      have hl := hS.2.2.2.run_look srK underSr (zeroSr w') hkey
      rw [HV.out] at hl
      clear hS
      go_simp
      with_reducible rfl
    simp only [Act.put, List.setIfInBounds_toArray, List.set_cons_zero, List.set_cons_succ]
  refine reads_nil ?_
  have hsz : w1.drew.heap.size = w1.heap.size := rfl
  refine early_callT (R := fun w' => w' = (w1.drew.alloc (.cells #[.pointer (some ⟨p, 0, none⟩)] 109)).alloc (.cells #[.int .i64 0] 2)) (.func (.func 70) #[] #[.pointer (some ⟨w1.heap.size, 0, none⟩), .pointer (some ⟨w1.heap.size + 1, 0, none⟩)]) 19 _ #[.pointer (some ⟨p, 0, none⟩), .int .i64 0] rfl rfl (by rfl) (by go_simp) (sinceI_any _ 0 w1.drew ⟨_, rfl⟩) ?_
  rintro w2 rfl
  have KB1 := (Bk.new w1.drew 109 #[.pointer (some ⟨p, 0, none⟩)]).alloc (.cells #[.int .i64 0] 2)
  have KB2 := Bk.new (w1.drew.alloc (.cells #[.pointer (some ⟨p, 0, none⟩)] 109)) 2 #[.int .i64 0]
  rw [World.size_alloc] at KB2
  rw [hsz] at KB1 KB2
  have hB12 : Below w1.heap.size w1 ((w1.drew.alloc (.cells #[.pointer (some ⟨p, 0, none⟩)] 109)).alloc (.cells #[.int .i64 0] 2)) := ((Below.refl _ _).drew.alloc (Nat.le_refl _) _).alloc (by rw [World.size_alloc]; exact Nat.le_succ _) _
  have K4 := k4.below' hB12
  have K5 := k5.below' hB12
  have K8 := k8.below' hB12
  have K9 := k9.below' hB12
  have HS1 := Lib.hid (HS.out.below hB12)
  have R1 := HR.out.below hB12
  have HB1 := below_tr hB0 hB12
  have hg1 : w.heap.size + 1 + 1 + 1 < w1.heap.size := k9.lt
  have d2' := HS1.out.2.1.cell 2
  refine ⟨⟨d2', K5.cell 0, K5.cell 1, HS1.out.2.2⟩, ?_⟩
  simp only [wpEarly]
  simp only [Act.put, List.setIfInBounds_toArray, List.set_cons_zero, List.set_cons_succ]
  have hpg : p < w1.heap.size := HR.out.plt
  have hqg : q < w1.heap.size := HR.out.qlt
  generalize (w1.drew.alloc (.cells #[.pointer (some ⟨p, 0, none⟩)] 109)).alloc (.cells #[.int .i64 0] 2) = W1 at KB1 KB2 K4 K5 K8 K9 HS1 R1 HB1 ⊢
  clear hB12 hB0 HS HR k4 k5 k8 k9 d2 m2 x0 x1 d2' hsz
  generalize w1.heap.size = g1 at KB1 KB2 hg1 hpg hqg ⊢
  clear w1
  go_wp2_with fail
  rw [noPanic_normal]
  go_wp2_with fail
  refine (wpIn_wide (n := 8)).1 ?_
  have hseq := sinceI_stops (8 - 1) (by omega) 0 W1 R1 (KB1.cell 0) (KB2.cell 0)
  obtain ⟨L, hL⟩ : ∃ L, L = (lst zs f nn).filter fun y => decide (0 ≤ y.1) := ⟨_, rfl⟩
  rw [← hL] at hseq
  have HL := Lib.hid hL
  clear hL
  generalize hA : Act.mk _ [] = a0
  refine wpIn_rangeFunc_ownH rfl (by omega) (gf := 70) (lb := #[.pointer (some ⟨g1, 0, none⟩), .pointer (some ⟨g1 + 1, 0, none⟩)]) (by rw [← hA]; rfl) trivial (enters_of Tryz.func70 (by kernel_rfl) rfl)
    hseq (fun h k => h.trans k) (keepR_b R1.plt R1.qlt KB1.lt KB2.lt) (Below.refl _ _) (fun _ => rfl)
    (fun pre W => Bk W w.heap.size 2 #[.int .i64 now] ∧ Bk W (w.heap.size + 1 + 1) 131 #[.int .i64 (lastS now pre).1.1, .int .i64 (lastS now pre).1.2] ∧ Bk W (w.heap.size + 1 + 1 + 1) 4 #[.bool (lastS now pre).2] ∧ Below w.heap.size w W ∧ W1.heap.size ≤ W.heap.size)
    (fun _ _ _ => False)
    (fun s A B row h hg hr => ⟨bk_own h.1 hg (fun r e => (hr r e).2), bk_own h.2.1 hg (fun r e => (hr r e).2), bk_own h.2.2.1 hg (fun r e => (hr r e).2), (ownFrom_below (β := Unit) (Nat.le_refl _) HB1.size) () A B row h.2.2.2.1 hg hr, Nat.le_trans h.2.2.2.2 hg.size⟩)
    (fun c s A B row h hg hr => h)
    ⟨K4, K8, K9, HB1, Nat.le_refl _⟩
    (fun x a' W => ∃ Bx, w.heap.size + 1 + 1 + 1 < Bx ∧ Bk W Bx 131 #[.int .i64 x.1, .int .i64 x.2] ∧ a' = ⟨(a0.tmps.setIfInBounds 20 (.agg #[.int .i64 x.1, .int .i64 x.2])).setIfInBounds 10 (.pointer (some ⟨Bx, 0, none⟩)), []⟩)
    (fun x a' s A B row h hg hr => by
      obtain ⟨Bx, h1, h2, h3⟩ := h
      exact ⟨Bx, h1, bk_own h2 hg (fun r e => (hr r e).2), h3⟩) ?assign ?body ?done ?stop
  case assign =>
    rintro l pre ⟨xa', xv'⟩ W K ⟨j4, j8, j9, hBW, hsW⟩ hK
    have hlt9 := j9.lt
    have HK := Lib.hid (hK ⟨(a0.tmps.setIfInBounds 20 (.agg #[.int .i64 xa', .int .i64 xv'])).setIfInBounds 10 (.pointer (some ⟨W.heap.size, 0, none⟩)), []⟩ (W.alloc (.cells #[.int .i64 xa', .int .i64 xv'] 131)) ((KeepsOthers.alloc _ _).from _)
      (KeepR.of_below (below_al _ _) (Nat.lt_of_lt_of_le R1.plt hsW) (Nat.lt_of_lt_of_le R1.qlt hsW) (Nat.lt_of_lt_of_le KB1.lt hsW) (Nat.lt_of_lt_of_le KB2.lt hsW))
      ⟨j4.alloc _, j8.alloc _, j9.alloc _, hBW.alloc hBW.size _, Nat.le_trans hsW (below_al _ _).size⟩ ⟨W.heap.size, hlt9, Bk.new _ _ _, rfl⟩)
    clear hK
    subst hA
    have kw := Bk.new W 131 #[.int .i64 0, .int .i64 0]
    gi_wp2
    exact HK.out
  case stop =>
    rintro D c pre W _ _ h _
    exact h.elim
  case body =>
    rintro l pre ⟨xa', xv'⟩ a' W hl ⟨r, hr⟩ ⟨j4, j8, j9, hBW, hsW⟩ ⟨Bx, hBx, jx, rfl⟩ hlen
    subst hA
    simp only [List.setIfInBounds_toArray, List.set_cons_zero, List.set_cons_succ]
    have c4 := j4.cell 0
    have cx0 := jx.cell 0
    have cx1 := jx.cell 1
    have c8 := j8.cell 0
    have c81 := j8.cell 1
    have f80 := j8.frozen 0
    have f81 := j8.frozen 1
    have c9 := j9.cell 0
    have f9 := j9.frozen 0
    have hsn := lastS_snoc now pre (xa', xv')
    by_cases hle : xa' ≤ now
    · rw [if_pos hle] at hsn
      have hKR : ∀ (i : Addr) (v : Value) (A : World), w.heap.size + 1 ≤ i.block → i.block ≤ w.heap.size + 1 + 1 + 1 → KeepR p q g1 (g1 + 1) A (A.setCell i v) := fun i v A h1 h2 =>
        ⟨by simp [World.setCell], Below.heap_setCell _ _ _ _ (by have := HP0.out.1; omega), Below.heap_setCell _ _ _ _ (by have := HP0.out.2; omega), Below.heap_setCell _ _ _ _ (by omega), Below.heap_setCell _ _ _ _ (by omega)⟩
      have m8 : Bk (((W.setCell ⟨w.heap.size + 1 + 1, 0, none⟩ (.int .i64 xa')).setCell ⟨w.heap.size + 1 + 1, 1, none⟩ (.int .i64 xv')).setCell ⟨w.heap.size + 1 + 1 + 1, 0, none⟩ (.bool true)) (w.heap.size + 1 + 1) 131 #[.int .i64 xa', .int .i64 xv'] :=
        ((j8.set 0 (.int .i64 xa')).set 1 (.int .i64 xv')).far (p := ⟨w.heap.size + 1 + 1 + 1, 0, none⟩) (by show w.heap.size + 1 + 1 ≠ w.heap.size + 1 + 1 + 1; omega) _
      have m9 : Bk (((W.setCell ⟨w.heap.size + 1 + 1, 0, none⟩ (.int .i64 xa')).setCell ⟨w.heap.size + 1 + 1, 1, none⟩ (.int .i64 xv')).setCell ⟨w.heap.size + 1 + 1 + 1, 0, none⟩ (.bool true)) (w.heap.size + 1 + 1 + 1) 4 #[.bool true] :=
        ((j9.far (p := ⟨w.heap.size + 1 + 1, 0, none⟩) (by show w.heap.size + 1 + 1 + 1 ≠ w.heap.size + 1 + 1; omega) (.int .i64 xa')).far (p := ⟨w.heap.size + 1 + 1, 1, none⟩) (by show w.heap.size + 1 + 1 + 1 ≠ w.heap.size + 1 + 1; omega) (.int .i64 xv')).set 0 (.bool true)
      have m4 : Bk (((W.setCell ⟨w.heap.size + 1 + 1, 0, none⟩ (.int .i64 xa')).setCell ⟨w.heap.size + 1 + 1, 1, none⟩ (.int .i64 xv')).setCell ⟨w.heap.size + 1 + 1 + 1, 0, none⟩ (.bool true)) w.heap.size 2 #[.int .i64 now] :=
        ((j4.far (p := ⟨w.heap.size + 1 + 1, 0, none⟩) (by show w.heap.size ≠ w.heap.size + 1 + 1; omega) (.int .i64 xa')).far (p := ⟨w.heap.size + 1 + 1, 1, none⟩) (by show w.heap.size ≠ w.heap.size + 1 + 1; omega) (.int .i64 xv')).far (p := ⟨w.heap.size + 1 + 1 + 1, 0, none⟩) (by show w.heap.size ≠ w.heap.size + 1 + 1 + 1; omega) (.bool true)
      have hBB := ((hBW.setCell (p := ⟨w.heap.size + 1 + 1, 0, none⟩) (by show w.heap.size ≤ w.heap.size + 1 + 1; omega) (.int .i64 xa')).setCell (p := ⟨w.heap.size + 1 + 1, 1, none⟩) (by show w.heap.size ≤ w.heap.size + 1 + 1; omega) (.int .i64 xv')).setCell (p := ⟨w.heap.size + 1 + 1 + 1, 0, none⟩) (by show w.heap.size ≤ w.heap.size + 1 + 1 + 1; omega) (.bool true)
      have HF := Lib.hid (And.intro ((((KeepsOthers.setCell W ⟨w.heap.size + 1 + 1, 0, none⟩ (.int .i64 xa')).trans (KeepsOthers.setCell _ ⟨w.heap.size + 1 + 1, 1, none⟩ (.int .i64 xv'))).trans (KeepsOthers.setCell _ ⟨w.heap.size + 1 + 1 + 1, 0, none⟩ (.bool true))).from W1.heap.size)
        (And.intro (((hKR ⟨w.heap.size + 1 + 1, 0, none⟩ (.int .i64 xa') W (by show w.heap.size + 1 ≤ w.heap.size + 1 + 1; omega) (by show w.heap.size + 1 + 1 ≤ _; omega)).trans (hKR ⟨w.heap.size + 1 + 1, 1, none⟩ (.int .i64 xv') _ (by show w.heap.size + 1 ≤ w.heap.size + 1 + 1; omega) (by show w.heap.size + 1 + 1 ≤ _; omega))).trans (hKR ⟨w.heap.size + 1 + 1 + 1, 0, none⟩ (.bool true) _ (by show w.heap.size + 1 ≤ w.heap.size + 1 + 1 + 1; omega) (Nat.le_refl _)))
          (And.intro m4 (And.intro m8 (And.intro m9 (And.intro hBB (show W1.heap.size ≤ _ by simpa [World.setCell] using hsW)))))))
      clear hKR m8 m9 m4 hBB
      gi_wp2
      refine ⟨HF.out.1, HF.out.2.1, HF.out.2.2.1, ?_, ?_, HF.out.2.2.2.2.2.1, by simpa [World.setCell] using hsW⟩
      · show Bk _ _ _ #[.int .i64 (lastS now (pre ++ [(xa', xv')])).1.1, .int .i64 (lastS now (pre ++ [(xa', xv')])).1.2]
        rw [hsn]
        exact HF.out.2.2.2.1
      · show Bk _ _ _ #[.bool (lastS now (pre ++ [(xa', xv')])).2]
        rw [hsn]
        exact HF.out.2.2.2.2.1
    · rw [if_neg hle] at hsn
      have HF := Lib.hid (And.intro ((KeepsOthers.refl W).from W1.heap.size) (And.intro (KeepR.of_below (Below.refl W.heap.size W) (Nat.lt_of_lt_of_le R1.plt hsW) (Nat.lt_of_lt_of_le R1.qlt hsW) (Nat.lt_of_lt_of_le KB1.lt hsW) (Nat.lt_of_lt_of_le KB2.lt hsW)) (And.intro j4 (And.intro j8 (And.intro j9 (And.intro hBW hsW))))))
      gi_wp2
      refine ⟨HF.out.1, HF.out.2.1, HF.out.2.2.1, ?_, ?_, HF.out.2.2.2.2.2⟩
      · show Bk _ _ _ #[.int .i64 (lastS now (pre ++ [(xa', xv')])).1.1, .int .i64 (lastS now (pre ++ [(xa', xv')])).1.2]
        rw [hsn]
        exact HF.out.2.2.2.1
      · show Bk _ _ _ #[.bool (lastS now (pre ++ [(xa', xv')])).2]
        rw [hsn]
        exact HF.out.2.2.2.2.1
  case done =>
    rintro DD ys W hDD rfl ⟨j4, j8, j9, hBW, hsW⟩ hK
    subst hA
    have c9 := j9.cell 0
    have c4 := j4.cell 0
    have c80 := j8.cell 0
    have c81 := j8.cell 1
    have HSW := Lib.hid (HS0.out.below hBW)
    have s1 := HSW.out.2.1.cell 1
    have hlt : DD < W.heap.size := (Array.getElem?_eq_some_iff.1 hK).1
    have hF : FreshSt (freshF now age (lst zs f nn)) w = FreshSt (if (lastS now ys).2 = false then (0, 7) else if (lastS now ys).1.1 < now - age then (0, 13) else ((lastS now ys).1.2, 0)) w := by
      unfold freshF
      rw [← HL.out]
    have HFE := Lib.hid hF
    clear hF
    have hKB : Below w.heap.size w (W.putObj DD (.deferred none)) := hBW.trans (belowK_b (w := w) (Nat.le_refl _) W DD _ _ (Nat.le_trans HB1.size hDD) hK rfl rfl)
    obtain ⟨R, hR⟩ : ∃ R, R = lastS now ys := ⟨_, rfl⟩
    rw [← hR] at c9 c80 c81 HFE
    clear hR HL hseq
    obtain ⟨⟨ra, rv⟩, rt⟩ := R
    dsimp only at c9 c80 c81 HFE
    cases rt
    · go_wp2_with fail
      refine ⟨by simp, .inl ⟨_, _, rfl, run_takeDeferred hK, ?_⟩⟩
      refine ⟨_, results_tmp2 rfl _ _ _, ?_⟩
      rw [HFE.out, if_pos trivial]
      exact ⟨rfl, hKB⟩
    · go_wp2_with fail
      have z4 := fun a b => cell_regrown c4 a b
      have z80 := fun a b => cell_regrown c80 a b
      have z81 := fun a b => cell_regrown c81 a b
      have zs1 := fun a b => cell_regrown s1 a b
      have a2 : -1800 ≤ now - age := by omega
      have a3 : now - age ≤ 4611686018427387904 := by omega
      refine wp_region_quiet_below (by kernel_rfl) (by kernel_rfl) ?_
      repeat (go_big_quiet_step (fail))
      refine q_done fun W2 hBz => ?_
      have hK' : W2.heap[DD]? = some (.deferred (some [])) := (hBz.block DD hlt).trans hK
      have hKB2 : Below w.heap.size w (W2.putObj DD (.deferred none)) := (below_tr hBW hBz).trans (belowK_b (w := w) (Nat.le_refl _) W2 DD _ _ (Nat.le_trans HB1.size hDD) hK' rfl rfl)
      have y81 := keep_cell hBz c81
      clear z4 z80 z81 zs1
      by_cases hst : ra < now - age
      · go_wp2_with fail
        refine ⟨by simp, .inl ⟨_, _, rfl, run_takeDeferred hK', ?_⟩⟩
        refine ⟨_, results_tmp2 rfl _ _ _, ?_⟩
        rw [HFE.out, if_neg (by simp), if_pos hst]
        exact ⟨rfl, hKB2⟩
      · go_wp2_with fail
        refine ⟨by simp, .inl ⟨_, _, rfl, run_takeDeferred hK', ?_⟩⟩
        refine ⟨_, results_tmp2 rfl _ _ _, ?_⟩
        rw [HFE.out, if_neg (by simp), if_neg (by omega)]
        exact ⟨rfl, hKB2⟩
end Go.Proofs.YtjiliegfcljjhaaGreat
