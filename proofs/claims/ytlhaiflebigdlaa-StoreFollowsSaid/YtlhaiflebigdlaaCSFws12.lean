/-
  The law's act: Update, refused.; The law's act: Update, taken.; A store and the law's model beside it hold the same: what each act keeps of that; The law's act in all its ways: store and model hold the same behind it; The law's act, of any act whose rows lie below store and model: it returns true, and both hold the same behind it.; The law's act, whole: of any act whose object's rows lie below store and model it returns true, and both hold the same behind it.; The law's few: some bool comes back; true only where there are at most 60 acts.; StoreFollows: plain words: names, kept up by the events; how many are still to come
-/
import Derived.Test.YtlhaiflebigdlaaCSFws11
import Derived.Test.YtlhaiflebigdlaaCSFws8
import Derived.Maps.RangeWalk
section
namespace Go.Proofs.Ytlhaiflebigdlaa
open Go.RowKit Go.Proofs.Mem
set_option linter.unusedVariables false
set_option linter.unusedSimpArgs false
set_option maxHeartbeats 8000000 in
set_option maxRecDepth 100000 in
theorem do8_up_bad (c : Code) (hc : IsRest c) (f : Nat → Value) (w : World) (p b n : Nat) (D : DataW Value) (most : Int) (now : Nat) (ev : Value) (evs : List Ev) (h : StIs w p b n D most now ev evs) (hN : n < maxLen) (hnow : now < 1000000) (hevs : evs.length ≤ 1024) (mb q : Nat) (ak : Int) (o : Ob) (right : Bool) (fi : Int) (hak : ak = 1) (ho : o.Ok w)
    (hq : Bk w q 58 (actA ak o right)) (Lw : Array Value) (hLw : Is47 Lw) (vw : Nat) (hvw : Lw[2]? = some (.int .u64 vw)) (hval : valAt D (kOf o.kind o.name) (.agg Z47) = .agg Lw) (hbad : errO o.dflt ≠ 0) :
    c.wp Try.prog (bodyPost Try.prog Try.f7 fun e w' => e = .returned (.bool true) ∧ Below w.heap.size w w') ⟨doF p mb most q fi f, []⟩ w := by
  obtain ⟨a0, a1, a2, a3, a4, a5⟩ := actA_is ak o right
  have c0 : w.cell? ⟨q, 0, none⟩ = some (.int .i64 ak) := by rw [hq.cell]; exact a1
  have HQ := Lib.hid hq
  have HS := Lib.hid (And.intro h (And.intro ho (And.intro hLw (And.intro hval hbad))))
  have HN := Lib.hid (And.intro hN (And.intro hnow hevs))
  have hr : w.rangeAt q 1 o.cells := by
    have := range_sub hq.range 1 47
    rwa [actA_ob] at this
  have HR := Lib.hid hr
  have HVW := Lib.hid hvw
  clear hvw
  have HU := Lib.hid (Try.underlying56)
  clear h hval hLw ho hq a0 a1 a2 a3 a4 a5 hbad hN hnow hevs hr
  subst hak
  obtain ⟨x, y, z, hlit⟩ := hc
  cases hlit
  unfold doF
  go_wp2_with (refine wpl_loadat HR.out rfl 56 (.tmp 148) rfl rfl _ HU.out rfl (by kernel_rfl) ?_)
  refine (vdefault_any o w HS.out.2.1).mono ?_
  rintro e w1 ⟨V, rfl, hn, b1⟩
  obtain ⟨L, hL⟩ : ∃ L : Array Value, L = (o.dflt.reval V).cells.toArray := ⟨_, rfl⟩
  have hok := HS.out.2.1.fit.dflt.ok hn
  have hi := cells_is _ hok
  rw [← hL] at hi ⊢
  have kz := Bk.new w1 56 Z47
  have hzz : Z47.size = L.size := hi.1.symm
  have k2 := setCells_whole kz hzz
  have B2 := below_setCells (g := w1.heap.size) L.toList 0 (b1.alloc b1.size (.cells Z47 56)) b1.size
  have n2 := hn.alloc (.cells Z47 56)
  obtain ⟨W2, r, hW2, hr0⟩ : ∃ W2 r, W2 = (w1.alloc (.cells Z47 56)).setCells r 0 L.toList ∧ r = w1.heap.size := ⟨_, _, rfl, rfl⟩
  have b12 : Below w1.heap.size w1 W2 := by
    rw [hW2, hr0]
    exact below_setCells (g := w1.heap.size) L.toList 0 (below_al w1 _) (Nat.le_refl _)
  rw [← hr0] at kz k2 B2
  rw [← hW2] at k2 B2
  have HL := Lib.hid (And.intro hL (And.intro hi (And.intro hzz (And.intro kz (And.intro hW2.symm (And.intro k2 (And.intro B2 (hok.below b12))))))))
  have HR0 := Lib.hid hr0.symm
  clear hL hi hzz kz k2 B2 n2 hok hn b1 b12 hW2 hr0
  go_wp2_with (first | (refine wpl_allocg rfl (run_alloc47 rfl _) ?_; rw [HR0.out]) | (refine wpl_storeg HL.out.2.2.2.1 HL.out.2.2.1 rfl rfl 56 (.tmp 12) (.tmp 150) rfl rfl rfl (info47 HL.out.2.1) HL.out.2.1.2 ?_; rw [HL.out.2.2.2.2.1]) | (refine wpl_loadg HL.out.2.2.2.2.2.1 rfl 56 (.tmp 12) rfl rfl _ HU.out rfl (info47 HL.out.2.1) ?_))
  rw [HL.out.1]
  refine (lawright_any (o.dflt.reval V) W2 HL.out.2.2.2.2.2.2.2).mono ?_
  rintro e w3 ⟨rfl, b3⟩
  rw [errO_reval, ← HL.out.1]
  have B3 := below_tr HL.out.2.2.2.2.2.2.1 b3
  have k3 := HL.out.2.2.2.2.2.1.below' b3
  have hq3 := HQ.out.below' B3
  have d0 : w3.cell? ⟨q, 0, none⟩ = some (.int .i64 1) := by rw [hq3.cell]; exact (actA_is 1 o right).2.1
  have hr3 : w3.rangeAt q 1 o.cells := by
    have := range_sub hq3.range 1 47
    rwa [actA_ob] at this
  have H3 := Lib.hid (And.intro B3 (And.intro k3 (And.intro hq3 hr3)))
  obtain ⟨er, her⟩ : ∃ er, er = errO o.dflt := ⟨_, rfl⟩
  rw [← her]
  have HER := Lib.hid her
  clear B3 k3 hq3 hr3 b3 her c0
  go_wp2_with (first | (refine wpl_loadat H3.out.2.2.2 rfl 56 (.tmp 219) rfl rfl _ HU.out rfl (by kernel_rfl) ?_))
  refine (supdate_any (HS.out.1.below H3.out.1) HN.out.1 (by have := HN.out.2.1; omega) HN.out.2.2 o (HS.out.2.1.below H3.out.1) Lw HS.out.2.2.1 vw HVW.out HS.out.2.2.2.1).mono ?_
  rintro e w4 hst
  rw [if_neg HS.out.2.2.2.2, ← HER.out] at hst
  obtain ⟨rfl, b4⟩ := hst
  have hne : er ≠ 0 := by rw [HER.out]; exact HS.out.2.2.2.2
  have hne2 : (er == 0) = false := by simpa using hne
  have hne3 : (er != 0) = true := by simpa using hne
  have H4 := Lib.hid (below_tr H3.out.1 b4)
  clear b4 d0 hne
  go_wp2_with fail
  refine wp_region_sched [0, 1, 2, 3, 4, 5, 6, 7, 8, 9, 10, 11, 12, 13, 14, 15] [] [] (fun i => !(i == 5 || i == 9 || i == 13)) (fun _ => True) (by kernel_rfl) (by kernel_rfl) (fun c a d v w h => by cases d <;> exact h) trivial fun u0 Hu => ?_
  refine readsL_free (v := ?_) (by rfl) (by rfl) (fun w' => ?_) ?_
  rotate_left
  · go_simp
    with_reducible rfl
  simp only [Act.put, List.setIfInBounds_toArray, List.set_cons_zero, List.set_cons_succ, List.getElem_toArray, List.getElem_cons_succ, List.getElem_cons_zero]
  refine readsL_free (v := ?_) (by rfl) (by rfl) (fun w' => ?_) ?_
  rotate_left
  · go_simp
    with_reducible rfl
  simp only [Act.put, List.setIfInBounds_toArray, List.set_cons_zero, List.set_cons_succ, List.getElem_toArray, List.getElem_cons_succ, List.getElem_cons_zero]
  refine readsL_free (v := ?_) (by rfl) (by rfl) (fun w' => ?_) ?_
  rotate_left
  · go_simp
    with_reducible rfl
  simp only [Act.put, List.setIfInBounds_toArray, List.set_cons_zero, List.set_cons_succ, List.getElem_toArray, List.getElem_cons_succ, List.getElem_cons_zero]
  refine readsL_pass (by rfl) (by rfl) ?_
  simp only [Act.put, List.setIfInBounds_toArray, List.set_cons_zero, List.set_cons_succ, List.getElem_toArray, List.getElem_cons_succ, List.getElem_cons_zero]
  refine readsL_pass (by rfl) (by rfl) ?_
  simp only [Act.put, List.setIfInBounds_toArray, List.set_cons_zero, List.set_cons_succ, List.getElem_toArray, List.getElem_cons_succ, List.getElem_cons_zero]
  refine readsL_pass (by rfl) (by rfl) ?_
  simp only [Act.put, List.setIfInBounds_toArray, List.set_cons_zero, List.set_cons_succ, List.getElem_toArray, List.getElem_cons_succ, List.getElem_cons_zero]
  refine readsL_pass (by rfl) (by rfl) ?_
  simp only [Act.put, List.setIfInBounds_toArray, List.set_cons_zero, List.set_cons_succ, List.getElem_toArray, List.getElem_cons_succ, List.getElem_cons_zero]
  refine readsL_pass (by rfl) (by rfl) ?_
  simp only [Act.put, List.setIfInBounds_toArray, List.set_cons_zero, List.set_cons_succ, List.getElem_toArray, List.getElem_cons_succ, List.getElem_cons_zero]
  refine readsL_pass (by rfl) (by rfl) ?_
  simp only [Act.put, List.setIfInBounds_toArray, List.set_cons_zero, List.set_cons_succ, List.getElem_toArray, List.getElem_cons_succ, List.getElem_cons_zero]
  refine readsL_pass (by rfl) (by rfl) ?_
  simp only [Act.put, List.setIfInBounds_toArray, List.set_cons_zero, List.set_cons_succ, List.getElem_toArray, List.getElem_cons_succ, List.getElem_cons_zero]
  refine readsL_pass (by rfl) (by rfl) ?_
  simp only [Act.put, List.setIfInBounds_toArray, List.set_cons_zero, List.set_cons_succ, List.getElem_toArray, List.getElem_cons_succ, List.getElem_cons_zero]
  refine readsL_pass (by rfl) (by rfl) ?_
  simp only [Act.put, List.setIfInBounds_toArray, List.set_cons_zero, List.set_cons_succ, List.getElem_toArray, List.getElem_cons_succ, List.getElem_cons_zero]
  refine readsL_pass (by rfl) (by rfl) ?_
  simp only [Act.put, List.setIfInBounds_toArray, List.set_cons_zero, List.set_cons_succ, List.getElem_toArray, List.getElem_cons_succ, List.getElem_cons_zero]
  refine readsL_pass (by rfl) (by rfl) ?_
  simp only [Act.put, List.setIfInBounds_toArray, List.set_cons_zero, List.set_cons_succ, List.getElem_toArray, List.getElem_cons_succ, List.getElem_cons_zero]
  refine readsL_pass (by rfl) (by rfl) ?_
  simp only [Act.put, List.setIfInBounds_toArray, List.set_cons_zero, List.set_cons_succ, List.getElem_toArray, List.getElem_cons_succ, List.getElem_cons_zero]
  refine readsL_free (v := ?_) (by rfl) (by rfl) (fun w' => ?_) ?_
  rotate_left
  · go_simp
    with_reducible rfl
  simp only [Act.put, List.setIfInBounds_toArray, List.set_cons_zero, List.set_cons_succ, List.getElem_toArray, List.getElem_cons_succ, List.getElem_cons_zero]
  refine readsL_nil ?_
  refine earlyL_nil ?_
  simp only [List.filterMap_nil]
  have HU0 : RowKit.Hid (Below w.heap.size w u0) := by
    have := H4.out.drew
    rw [← Hu.out] at this
    exact this
  clear Hu
  go_wp2_with fail
  go_ret
  exact ⟨rfl, HU0.out⟩
set_option maxHeartbeats 8000000 in
set_option maxRecDepth 100000 in
theorem do8_up_none (c : Code) (hc : IsRest c) (f : Nat → Value) (w : World) (p b n : Nat) (D : DataW Value) (most : Int) (now : Nat) (ev : Value) (evs : List Ev) (h : StIs w p b n D most now ev evs) (hN : n < maxLen) (hnow : now < 1000000) (hevs : evs.length ≤ 1024) (mb q : Nat) (ak : Int) (o : Ob) (right : Bool) (fi : Int) (hak : ak = 1) (ho : o.Ok w)
    (hq : Bk w q 58 (actA ak o right)) (Lw : Array Value) (hLw : Is47 Lw) (vw : Nat) (hvw : Lw[2]? = some (.int .u64 vw)) (hval : valAt D (kOf o.kind o.name) (.agg Z47) = .agg Lw) (hbad : errO o.dflt = 0) (hhas : Maps.has D (kOf o.kind o.name) = false) (hfi : fi < 0) :
    c.wp Try.prog (bodyPost Try.prog Try.f7 fun e w' => e = .returned (.bool true) ∧ Below w.heap.size w w') ⟨doF p mb most q fi f, []⟩ w := by
  obtain ⟨a0, a1, a2, a3, a4, a5⟩ := actA_is ak o right
  have c0 : w.cell? ⟨q, 0, none⟩ = some (.int .i64 ak) := by rw [hq.cell]; exact a1
  have HQ := Lib.hid hq
  have HS := Lib.hid (And.intro h (And.intro ho (And.intro hLw (And.intro hval hbad))))
  have HN := Lib.hid (And.intro hN (And.intro hnow hevs))
  have hr : w.rangeAt q 1 o.cells := by
    have := range_sub hq.range 1 47
    rwa [actA_ob] at this
  have HR := Lib.hid hr
  have HVW := Lib.hid hvw
  clear hvw
  have HU := Lib.hid (Try.underlying56)
  clear h hval hLw ho hq a0 a1 a2 a3 a4 a5 hbad hN hnow hevs hr
  subst hak
  obtain ⟨x, y, z, hlit⟩ := hc
  cases hlit
  unfold doF
  go_wp2_with (refine wpl_loadat HR.out rfl 56 (.tmp 148) rfl rfl _ HU.out rfl (by kernel_rfl) ?_)
  refine (vdefault_any o w HS.out.2.1).mono ?_
  rintro e w1 ⟨V, rfl, hn, b1⟩
  obtain ⟨L, hL⟩ : ∃ L : Array Value, L = (o.dflt.reval V).cells.toArray := ⟨_, rfl⟩
  have hok := HS.out.2.1.fit.dflt.ok hn
  have hi := cells_is _ hok
  rw [← hL] at hi ⊢
  have kz := Bk.new w1 56 Z47
  have hzz : Z47.size = L.size := hi.1.symm
  have k2 := setCells_whole kz hzz
  have B2 := below_setCells (g := w1.heap.size) L.toList 0 (b1.alloc b1.size (.cells Z47 56)) b1.size
  have n2 := hn.alloc (.cells Z47 56)
  obtain ⟨W2, r, hW2, hr0⟩ : ∃ W2 r, W2 = (w1.alloc (.cells Z47 56)).setCells r 0 L.toList ∧ r = w1.heap.size := ⟨_, _, rfl, rfl⟩
  have b12 : Below w1.heap.size w1 W2 := by
    rw [hW2, hr0]
    exact below_setCells (g := w1.heap.size) L.toList 0 (below_al w1 _) (Nat.le_refl _)
  rw [← hr0] at kz k2 B2
  rw [← hW2] at k2 B2
  have HL := Lib.hid (And.intro hL (And.intro hi (And.intro hzz (And.intro kz (And.intro hW2.symm (And.intro k2 (And.intro B2 (hok.below b12))))))))
  have HR0 := Lib.hid hr0.symm
  clear hL hi hzz kz k2 B2 n2 hok hn b1 b12 hW2 hr0
  go_wp2_with (first | (refine wpl_allocg rfl (run_alloc47 rfl _) ?_; rw [HR0.out]) | (refine wpl_storeg HL.out.2.2.2.1 HL.out.2.2.1 rfl rfl 56 (.tmp 12) (.tmp 150) rfl rfl rfl (info47 HL.out.2.1) HL.out.2.1.2 ?_; rw [HL.out.2.2.2.2.1]) | (refine wpl_loadg HL.out.2.2.2.2.2.1 rfl 56 (.tmp 12) rfl rfl _ HU.out rfl (info47 HL.out.2.1) ?_))
  rw [HL.out.1]
  refine (lawright_any (o.dflt.reval V) W2 HL.out.2.2.2.2.2.2.2).mono ?_
  rintro e w3 ⟨rfl, b3⟩
  rw [errO_reval, ← HL.out.1]
  have B3 := below_tr HL.out.2.2.2.2.2.2.1 b3
  have k3 := HL.out.2.2.2.2.2.1.below' b3
  have hq3 := HQ.out.below' B3
  have d0 : w3.cell? ⟨q, 0, none⟩ = some (.int .i64 1) := by rw [hq3.cell]; exact (actA_is 1 o right).2.1
  have hr3 : w3.rangeAt q 1 o.cells := by
    have := range_sub hq3.range 1 47
    rwa [actA_ob] at this
  have H3 := Lib.hid (And.intro B3 (And.intro k3 (And.intro hq3 hr3)))
  obtain ⟨er, her⟩ : ∃ er, er = errO o.dflt := ⟨_, rfl⟩
  rw [← her]
  have HER := Lib.hid her
  clear B3 k3 hq3 hr3 b3 her c0
  go_wp2_with (first | (refine wpl_loadat H3.out.2.2.2 rfl 56 (.tmp 219) rfl rfl _ HU.out rfl (by kernel_rfl) ?_))
  refine (supdate_any (HS.out.1.below H3.out.1) HN.out.1 (by have := HN.out.2.1; omega) HN.out.2.2 o (HS.out.2.1.below H3.out.1) Lw HS.out.2.2.1 vw HVW.out HS.out.2.2.2.1).mono ?_
  rintro e w4 hst
  rw [if_pos HS.out.2.2.2.2] at hst
  obtain ⟨L', wm, _, bm, hst⟩ := hst
  unfold UpdateSt at hst
  rw [if_pos hhas] at hst
  obtain ⟨rfl, b40⟩ := hst
  have b4 := below_tr bm b40
  clear b40 bm
  have hne : er = 0 := by rw [HER.out]; exact HS.out.2.2.2.2
  have H4 := Lib.hid (below_tr H3.out.1 b4)
  clear b4 d0 hhas
  subst hne
  go_wp2_with fail
  refine wp_region_sched [0, 1, 2, 3, 4, 5, 6, 7, 8, 9, 10, 11, 12, 13, 14, 15] [] [] (fun i => !(i == 5 || i == 9 || i == 13)) (fun _ => True) (by kernel_rfl) (by kernel_rfl) (fun c a d v w h => by cases d <;> exact h) trivial fun u0 Hu => ?_
  refine readsL_free (v := ?_) (by rfl) (by rfl) (fun w' => ?_) ?_
  rotate_left
  · go_simp
    with_reducible rfl
  simp only [Act.put, List.setIfInBounds_toArray, List.set_cons_zero, List.set_cons_succ, List.getElem_toArray, List.getElem_cons_succ, List.getElem_cons_zero]
  refine readsL_free (v := ?_) (by rfl) (by rfl) (fun w' => ?_) ?_
  rotate_left
  · go_simp
    with_reducible rfl
  simp only [Act.put, List.setIfInBounds_toArray, List.set_cons_zero, List.set_cons_succ, List.getElem_toArray, List.getElem_cons_succ, List.getElem_cons_zero]
  refine readsL_free (v := ?_) (by rfl) (by rfl) (fun w' => ?_) ?_
  rotate_left
  · go_simp
    with_reducible rfl
  simp only [Act.put, List.setIfInBounds_toArray, List.set_cons_zero, List.set_cons_succ, List.getElem_toArray, List.getElem_cons_succ, List.getElem_cons_zero]
  refine readsL_pass (by rfl) (by rfl) ?_
  simp only [Act.put, List.setIfInBounds_toArray, List.set_cons_zero, List.set_cons_succ, List.getElem_toArray, List.getElem_cons_succ, List.getElem_cons_zero]
  refine readsL_pass (by rfl) (by rfl) ?_
  simp only [Act.put, List.setIfInBounds_toArray, List.set_cons_zero, List.set_cons_succ, List.getElem_toArray, List.getElem_cons_succ, List.getElem_cons_zero]
  refine readsL_pass (by rfl) (by rfl) ?_
  simp only [Act.put, List.setIfInBounds_toArray, List.set_cons_zero, List.set_cons_succ, List.getElem_toArray, List.getElem_cons_succ, List.getElem_cons_zero]
  refine readsL_pass (by rfl) (by rfl) ?_
  simp only [Act.put, List.setIfInBounds_toArray, List.set_cons_zero, List.set_cons_succ, List.getElem_toArray, List.getElem_cons_succ, List.getElem_cons_zero]
  refine readsL_pass (by rfl) (by rfl) ?_
  simp only [Act.put, List.setIfInBounds_toArray, List.set_cons_zero, List.set_cons_succ, List.getElem_toArray, List.getElem_cons_succ, List.getElem_cons_zero]
  refine readsL_pass (by rfl) (by rfl) ?_
  simp only [Act.put, List.setIfInBounds_toArray, List.set_cons_zero, List.set_cons_succ, List.getElem_toArray, List.getElem_cons_succ, List.getElem_cons_zero]
  refine readsL_pass (by rfl) (by rfl) ?_
  simp only [Act.put, List.setIfInBounds_toArray, List.set_cons_zero, List.set_cons_succ, List.getElem_toArray, List.getElem_cons_succ, List.getElem_cons_zero]
  refine readsL_pass (by rfl) (by rfl) ?_
  simp only [Act.put, List.setIfInBounds_toArray, List.set_cons_zero, List.set_cons_succ, List.getElem_toArray, List.getElem_cons_succ, List.getElem_cons_zero]
  refine readsL_pass (by rfl) (by rfl) ?_
  simp only [Act.put, List.setIfInBounds_toArray, List.set_cons_zero, List.set_cons_succ, List.getElem_toArray, List.getElem_cons_succ, List.getElem_cons_zero]
  refine readsL_pass (by rfl) (by rfl) ?_
  simp only [Act.put, List.setIfInBounds_toArray, List.set_cons_zero, List.set_cons_succ, List.getElem_toArray, List.getElem_cons_succ, List.getElem_cons_zero]
  refine readsL_pass (by rfl) (by rfl) ?_
  simp only [Act.put, List.setIfInBounds_toArray, List.set_cons_zero, List.set_cons_succ, List.getElem_toArray, List.getElem_cons_succ, List.getElem_cons_zero]
  refine readsL_pass (by rfl) (by rfl) ?_
  simp only [Act.put, List.setIfInBounds_toArray, List.set_cons_zero, List.set_cons_succ, List.getElem_toArray, List.getElem_cons_succ, List.getElem_cons_zero]
  refine readsL_free (v := ?_) (by rfl) (by rfl) (fun w' => ?_) ?_
  rotate_left
  · go_simp
    with_reducible rfl
  simp only [Act.put, List.setIfInBounds_toArray, List.set_cons_zero, List.set_cons_succ, List.getElem_toArray, List.getElem_cons_succ, List.getElem_cons_zero]
  refine readsL_nil ?_
  refine earlyL_nil ?_
  simp only [List.filterMap_nil]
  have HU0 : RowKit.Hid (Below w.heap.size w u0) := by
    have := H4.out.drew
    rw [← Hu.out] at this
    exact this
  clear Hu
  go_wp2_with fail
  go_ret
  exact ⟨rfl, HU0.out⟩
set_option maxHeartbeats 8000000 in
set_option maxRecDepth 100000 in
theorem do8_up_mism (c : Code) (hc : IsRest c) (f : Nat → Value) (w : World) (p b n : Nat) (D : DataW Value) (most : Int) (now : Nat) (ev : Value) (evs : List Ev) (h : StIs w p b n D most now ev evs) (hN : n < maxLen) (hnow : now < 1000000) (hevs : evs.length ≤ 1024) (mb q : Nat) (ak : Int) (o : Ob) (right : Bool) (fi : Int) (hak : ak = 1) (ho : o.Ok w)
    (hq : Bk w q 58 (actA ak o right)) (Lw : Array Value) (hLw : Is47 Lw) (vw : Nat) (hvw : Lw[2]? = some (.int .u64 vw)) (hval : valAt D (kOf o.kind o.name) (.agg Z47) = .agg Lw) (hbad : errO o.dflt = 0) (hhas : Maps.has D (kOf o.kind o.name) = true) (i : Nat) (hfi : fi = (i : Int)) (lv : Value) (ml : List Ob) (hmb : w.cell? ⟨mb, 0, none⟩ = some lv) (hrow : Sl w 47 lv ml.length (ml.flatMap Ob.cells)) (hi : i < ml.length) (hvi : (ml[i]).version = (vw : Int)) (hvne : o.version ≠ (vw : Int)) :
    c.wp Try.prog (bodyPost Try.prog Try.f7 fun e w' => e = .returned (.bool true) ∧ Below w.heap.size w w') ⟨doF p mb most q fi f, []⟩ w := by
  obtain ⟨a0, a1, a2, a3, a4, a5⟩ := actA_is ak o right
  have c0 : w.cell? ⟨q, 0, none⟩ = some (.int .i64 ak) := by rw [hq.cell]; exact a1
  have HQ := Lib.hid hq
  have HS := Lib.hid (And.intro h (And.intro ho (And.intro hLw (And.intro hval hbad))))
  have HN := Lib.hid (And.intro hN (And.intro hnow hevs))
  have hr : w.rangeAt q 1 o.cells := by
    have := range_sub hq.range 1 47
    rwa [actA_ob] at this
  have HR := Lib.hid hr
  have HVW := Lib.hid hvw
  clear hvw
  have HU := Lib.hid (Try.underlying56)
  clear h hval hLw ho hq a0 a1 a2 a3 a4 a5 hbad hN hnow hevs hr
  have HF := Lib.hid (And.intro hhas (And.intro hmb (And.intro hrow (And.intro hi (And.intro (show ∀ h : i < ml.length, (ml[i]'h).version = (vw : Int) from fun _ => hvi) hvne)))))
  clear hhas hmb hrow hi hvi hvne
  subst hfi
  subst hak
  obtain ⟨x, y, z, hlit⟩ := hc
  cases hlit
  unfold doF
  go_wp2_with (refine wpl_loadat HR.out rfl 56 (.tmp 148) rfl rfl _ HU.out rfl (by kernel_rfl) ?_)
  refine (vdefault_any o w HS.out.2.1).mono ?_
  rintro e w1 ⟨V, rfl, hn, b1⟩
  obtain ⟨L, hL⟩ : ∃ L : Array Value, L = (o.dflt.reval V).cells.toArray := ⟨_, rfl⟩
  have hok := HS.out.2.1.fit.dflt.ok hn
  have hi := cells_is _ hok
  rw [← hL] at hi ⊢
  have kz := Bk.new w1 56 Z47
  have hzz : Z47.size = L.size := hi.1.symm
  have k2 := setCells_whole kz hzz
  have B2 := below_setCells (g := w1.heap.size) L.toList 0 (b1.alloc b1.size (.cells Z47 56)) b1.size
  have n2 := hn.alloc (.cells Z47 56)
  obtain ⟨W2, r, hW2, hr0⟩ : ∃ W2 r, W2 = (w1.alloc (.cells Z47 56)).setCells r 0 L.toList ∧ r = w1.heap.size := ⟨_, _, rfl, rfl⟩
  have b12 : Below w1.heap.size w1 W2 := by
    rw [hW2, hr0]
    exact below_setCells (g := w1.heap.size) L.toList 0 (below_al w1 _) (Nat.le_refl _)
  rw [← hr0] at kz k2 B2
  rw [← hW2] at k2 B2
  have HL := Lib.hid (And.intro hL (And.intro hi (And.intro hzz (And.intro kz (And.intro hW2.symm (And.intro k2 (And.intro B2 (hok.below b12))))))))
  have HR0 := Lib.hid hr0.symm
  clear hL hi hzz kz k2 B2 n2 hok hn b1 b12 hW2 hr0
  go_wp2_with (first | (refine wpl_allocg rfl (run_alloc47 rfl _) ?_; rw [HR0.out]) | (refine wpl_storeg HL.out.2.2.2.1 HL.out.2.2.1 rfl rfl 56 (.tmp 12) (.tmp 150) rfl rfl rfl (info47 HL.out.2.1) HL.out.2.1.2 ?_; rw [HL.out.2.2.2.2.1]) | (refine wpl_loadg HL.out.2.2.2.2.2.1 rfl 56 (.tmp 12) rfl rfl _ HU.out rfl (info47 HL.out.2.1) ?_))
  rw [HL.out.1]
  refine (lawright_any (o.dflt.reval V) W2 HL.out.2.2.2.2.2.2.2).mono ?_
  rintro e w3 ⟨rfl, b3⟩
  rw [errO_reval, ← HL.out.1]
  have B3 := below_tr HL.out.2.2.2.2.2.2.1 b3
  have k3 := HL.out.2.2.2.2.2.1.below' b3
  have hq3 := HQ.out.below' B3
  have d0 : w3.cell? ⟨q, 0, none⟩ = some (.int .i64 1) := by rw [hq3.cell]; exact (actA_is 1 o right).2.1
  have hr3 : w3.rangeAt q 1 o.cells := by
    have := range_sub hq3.range 1 47
    rwa [actA_ob] at this
  have H3 := Lib.hid (And.intro B3 (And.intro k3 (And.intro hq3 hr3)))
  obtain ⟨er, her⟩ : ∃ er, er = errO o.dflt := ⟨_, rfl⟩
  rw [← her]
  have HER := Lib.hid her
  clear B3 k3 hq3 hr3 b3 her c0
  go_wp2_with (first | (refine wpl_loadat H3.out.2.2.2 rfl 56 (.tmp 219) rfl rfl _ HU.out rfl (by kernel_rfl) ?_))
  refine (supdate_any (HS.out.1.below H3.out.1) HN.out.1 (by have := HN.out.2.1; omega) HN.out.2.2 o (HS.out.2.1.below H3.out.1) Lw HS.out.2.2.1 vw HVW.out HS.out.2.2.2.1).mono ?_
  rintro e w4 hst
  rw [if_pos HS.out.2.2.2.2] at hst
  obtain ⟨L', wm, _, bm, hst⟩ := hst
  obtain ⟨vn, hvn⟩ : ∃ vn : Nat, vn = o.version.toNat := ⟨_, rfl⟩
  have hvo := version_nat HS.out.2.1.fit
  rw [← hvn] at hvo
  have hnv : vn ≠ vw := by have := HF.out.2.2.2.2.2; omega
  unfold UpdateSt at hst
  rw [if_neg (by rw [HF.out.1]; simp), ← hvn, if_neg (fun e => hnv e.symm)] at hst
  obtain ⟨rfl, b40⟩ := hst
  have b4 := below_tr bm b40
  clear b40 bm
  have hne : er = 0 := by rw [HER.out]; exact HS.out.2.2.2.2
  have B4 := below_tr H3.out.1 b4
  have d3 : w4.cell? ⟨q, 3, none⟩ = some (.int .u64 (vn : Int)) := by rw [(HQ.out.below' B4).cell, ← hvo]; exact (actA_is 1 o right).2.2.2.2.1
  have dm : w4.cell? ⟨mb, 0, none⟩ = some lv := keep_cell B4 HF.out.2.1
  have R1 := HF.out.2.2.1.below B4
  have hil := HF.out.2.2.2.1
  have hvi := HF.out.2.2.2.2.1 hil
  obtain ⟨Al, cl, e1, hcl, _⟩ := id R1
  have hlv := e1
  subst hlv
  obtain ⟨b2, o2, rfl, hb2, hadd2, hcell⟩ := Sl.row' (s := 47) (f := Ob.cells) ob_len (by omega) R1 i hil
  have dv := hcell 2 (.int .u64 (vw : Int)) (by rw [← hvi]; rfl)
  have hge : (0 : Int) ≤ (i : Int) := by omega
  have hge2 : ¬ (i : Int) < 0 := by omega
  have hgel : (i : Int) < (ml.length : Int) := by omega
  have hx1 : ((vn : Int) != (vw : Int)) = true := by
    have : ¬ (vn : Int) = (vw : Int) := by omega
    simpa using this
  have H4 := Lib.hid B4
  clear b4 d0 B4 R1 e1 hcell hvi hvn hvo hnv
  subst hne
  go_wp2_with fail
  refine wp_region_sched [0, 1, 2, 3, 4, 5, 6, 7, 8, 9, 10, 11, 12, 13, 14, 15] [] [] (fun i => !(i == 5 || i == 9 || i == 13)) (fun w' => w'.cell? ⟨q, 3, none⟩ = some (.int .u64 (vn : Int)) ∧ w'.cell? ⟨mb, 0, none⟩ = some (.slice (some ⟨b2, o2, none⟩) ml.length cl) ∧ w'.cell? ⟨b2, o2 + i * 47 + 2, none⟩ = some (.int .u64 (vw : Int))) (by kernel_rfl) (by kernel_rfl) (fun c a d v w h => by cases d <;> exact h) ⟨d3, dm, dv⟩ fun u0 Hu => ?_
  refine readsL_free (v := ?_) (by rfl) (by rfl) (fun w' => ?_) ?_
  rotate_left
  · go_simp
    with_reducible rfl
  simp only [Act.put, List.setIfInBounds_toArray, List.set_cons_zero, List.set_cons_succ, List.getElem_toArray, List.getElem_cons_succ, List.getElem_cons_zero]
  refine readsL_free (v := ?_) (by rfl) (by rfl) (fun w' => ?_) ?_
  rotate_left
  · go_simp
    with_reducible rfl
  simp only [Act.put, List.setIfInBounds_toArray, List.set_cons_zero, List.set_cons_succ, List.getElem_toArray, List.getElem_cons_succ, List.getElem_cons_zero]
  refine readsL_free (v := ?_) (by rfl) (by rfl) (fun w' => ?_) ?_
  rotate_left
  · go_simp
    with_reducible rfl
  simp only [Act.put, List.setIfInBounds_toArray, List.set_cons_zero, List.set_cons_succ, List.getElem_toArray, List.getElem_cons_succ, List.getElem_cons_zero]
  refine readsL_free (v := ?_) (by rfl) (by rfl) (fun w' => ?_) ?_
  rotate_left
  · go_simp
    with_reducible rfl
  simp only [Act.put, List.setIfInBounds_toArray, List.set_cons_zero, List.set_cons_succ, List.getElem_toArray, List.getElem_cons_succ, List.getElem_cons_zero]
  refine readsL_free (v := ?_) (by rfl) (by rfl) (fun w' => ?_) ?_
  rotate_left
  · go_simp
    with_reducible rfl
  simp only [Act.put, List.setIfInBounds_toArray, List.set_cons_zero, List.set_cons_succ, List.getElem_toArray, List.getElem_cons_succ, List.getElem_cons_zero]
  refine readsL_step (v := ?_) (by rfl) (by rfl) (by rfl) (fun w' hS => ?_) ?_
  rotate_left
  · have u1 := hS.1
    have u2 := hS.2.1
    have u3 := hS.2.2
    clear hS
    go_simp
    with_reducible rfl
  simp only [Act.put, List.setIfInBounds_toArray, List.set_cons_zero, List.set_cons_succ, List.getElem_toArray, List.getElem_cons_succ, List.getElem_cons_zero]
  refine readsL_free (v := ?_) (by rfl) (by rfl) (fun w' => ?_) ?_
  rotate_left
  · go_simp
    with_reducible rfl
  simp only [Act.put, List.setIfInBounds_toArray, List.set_cons_zero, List.set_cons_succ, List.getElem_toArray, List.getElem_cons_succ, List.getElem_cons_zero]
  refine readsL_free (v := ?_) (by rfl) (by rfl) (fun w' => ?_) ?_
  rotate_left
  · go_simp
    with_reducible rfl
  simp only [Act.put, List.setIfInBounds_toArray, List.set_cons_zero, List.set_cons_succ, List.getElem_toArray, List.getElem_cons_succ, List.getElem_cons_zero]
  refine readsL_free (v := ?_) (by rfl) (by rfl) (fun w' => ?_) ?_
  rotate_left
  · go_simp
    with_reducible rfl
  simp only [Act.put, List.setIfInBounds_toArray, List.set_cons_zero, List.set_cons_succ, List.getElem_toArray, List.getElem_cons_succ, List.getElem_cons_zero]
  refine readsL_step (v := ?_) (by rfl) (by rfl) (by rfl) (fun w' hS => ?_) ?_
  rotate_left
  · have u1 := hS.1
    have u2 := hS.2.1
    have u3 := hS.2.2
    clear hS
    go_simp
    with_reducible rfl
  simp only [Act.put, List.setIfInBounds_toArray, List.set_cons_zero, List.set_cons_succ, List.getElem_toArray, List.getElem_cons_succ, List.getElem_cons_zero]
  refine readsL_free (v := ?_) (by rfl) (by rfl) (fun w' => ?_) ?_
  rotate_left
  · go_simp
    with_reducible rfl
  simp only [Act.put, List.setIfInBounds_toArray, List.set_cons_zero, List.set_cons_succ, List.getElem_toArray, List.getElem_cons_succ, List.getElem_cons_zero]
  refine readsL_free (v := ?_) (by rfl) (by rfl) (fun w' => ?_) ?_
  rotate_left
  · go_simp
    with_reducible rfl
  simp only [Act.put, List.setIfInBounds_toArray, List.set_cons_zero, List.set_cons_succ, List.getElem_toArray, List.getElem_cons_succ, List.getElem_cons_zero]
  refine readsL_free (v := ?_) (by rfl) (by rfl) (fun w' => ?_) ?_
  rotate_left
  · go_simp
    with_reducible rfl
  simp only [Act.put, List.setIfInBounds_toArray, List.set_cons_zero, List.set_cons_succ, List.getElem_toArray, List.getElem_cons_succ, List.getElem_cons_zero]
  refine readsL_step (v := ?_) (by rfl) (by rfl) (by rfl) (fun w' hS => ?_) ?_
  rotate_left
  · have u1 := hS.1
    have u2 := hS.2.1
    have u3 := hS.2.2
    clear hS
    go_simp
    with_reducible rfl
  simp only [Act.put, List.setIfInBounds_toArray, List.set_cons_zero, List.set_cons_succ, List.getElem_toArray, List.getElem_cons_succ, List.getElem_cons_zero]
  refine readsL_free (v := ?_) (by rfl) (by rfl) (fun w' => ?_) ?_
  rotate_left
  · go_simp
    with_reducible rfl
  simp only [Act.put, List.setIfInBounds_toArray, List.set_cons_zero, List.set_cons_succ, List.getElem_toArray, List.getElem_cons_succ, List.getElem_cons_zero]
  refine readsL_free (v := ?_) (by rfl) (by rfl) (fun w' => ?_) ?_
  rotate_left
  · go_simp
    with_reducible rfl
  simp only [Act.put, List.setIfInBounds_toArray, List.set_cons_zero, List.set_cons_succ, List.getElem_toArray, List.getElem_cons_succ, List.getElem_cons_zero]
  refine readsL_nil ?_
  refine earlyL_nil ?_
  simp only [List.filterMap_nil]
  have HU0 : RowKit.Hid (Below w.heap.size w u0) := by
    have := H4.out.drew
    rw [← Hu.out] at this
    exact this
  clear Hu d3 dm dv
  go_wp2_with fail
  go_ret
  exact ⟨rfl, HU0.out⟩
end Go.Proofs.Ytlhaiflebigdlaa
end
section
namespace Go.Proofs.Ytlhaiflebigdlaa
open Go.RowKit Go.Proofs.Mem
set_option linter.unusedVariables false
set_option linter.unusedSimpArgs false
theorem own_parts {w : World} {base s n : Nat} {e : TypeId} {v : Value} {xs : List Value} (h : w.ownsRow base e s v n xs) (h0 : 0 < n) : ∃ g cap cur, v = .slice (some ⟨g, 0, none⟩) n cap ∧ base ≤ g ∧ Bk w g e cur ∧ n ≤ cap ∧ cap ≤ maxLen ∧ cur.size = cap * s ∧ cur.toList.take (n * s) = xs := by
  obtain ⟨_, h⟩ := h
  rcases h with ⟨_, h⟩ | ⟨g, cap, cur, hv, hb, hg, h1, h2, h3, h4⟩
  · omega
  · exact ⟨g, cap, cur, hv, hb, hg, h1, h2, h3, h4⟩
/-- A piece of a row of the call's own is set. -/
theorem own_put {α : Type} {w : World} {base s cap g : Nat} {e : TypeId} {f : α → List Value} (hf : ∀ x, (f x).length = s) (ml : List α) (h : w.ownsRow base e s (.slice (some ⟨g, 0, none⟩) ml.length cap) ml.length (ml.flatMap f)) (i : Nat) (hi : i < ml.length) (x : α) :
    (w.setCells g (i * s) (f x)).ownsRow base e s (.slice (some ⟨g, 0, none⟩) ml.length cap) ml.length ((ml.set i x).flatMap f) ∧ w.there g (i * s) s := by
  obtain ⟨g', cap', cur, hv, hb, hk, h1, h2, h3, h4⟩ := own_parts h (by omega)
  injection hv with e1 e2 e3
  injection e1 with e1
  injection e1 with e1
  subst e1
  subst e3
  have hcur : cur = (ml.flatMap f ++ cur.toList.drop (ml.length * s)).toArray := by
    apply Array.toList_inj.1
    rw [List.toList_toArray, ← h4, List.take_append_drop]
  have hle : (i + 1) * s ≤ ml.length * s := Nat.mul_le_mul_right _ hi
  rw [Nat.succ_mul] at hle
  have hle2 : ml.length * s ≤ cap * s := Nat.mul_le_mul_right _ h1
  have hr : Rw w g e f ml (cur.toList.drop (ml.length * s)) := by
    unfold Rw
    rw [← hcur]
    exact hk
  refine ⟨?_, ?_⟩
  · have h5 := (hr.put hf x i hi).bk
    have h6 := h5.own (base := base) (size := s) (n := ml.length) (c := cap) hb h1 h2 (by simp only [List.size_toArray, List.length_append, flat_len' f hf, List.length_drop, Array.length_toList, h3, List.length_set]; omega)
    have e6 : (((ml.set i x).flatMap f ++ cur.toList.drop (ml.length * s)).toArray.toList).take (ml.length * s) = (ml.set i x).flatMap f := by
      rw [List.toList_toArray, List.take_left']
      rw [flat_len' f hf, List.length_set]
    rw [e6] at h6
    exact h6
  · exact fun j hj => ⟨hr.some hf _ (by have : i * s + s ≤ ml.length * s := hle; omega), hr.frozen _⟩
/-- Cells that are set in the block of a row. -/
theorem T3.setsP {p b : Nat} {ev : Value} {w : World} : ∀ (vs : List Value) (o : Nat) {w1 : World}, T3 p b ev w w1 → T3 p b ev w (w1.setCells p o vs)
  | [], _, _, h => h
  | v :: r, o, _, h => T3.setsP r (o + 1) (h.setP o v)
/-- What Update leaves, where it is taken. -/
def UpOut (w : World) (p b n : Nat) (D : DataW Value) (most : Int) (now : Nat) (ev : Value) (evs : List Ev) (mb : Nat) (lv mev : Value) (mevs : List Ev) (ml : List Ob) (i : Nat) (o : Ob) (e : Ending) (w' : World) : Prop :=
  ∃ L' V, ActOut w p b (n + 1) (D.put (kOf o.kind o.name) (.held (.agg (putL L' (now + 1))))) most now ev evs mb lv mev mevs (ml.set i ⟨o.kind, o.name, ((now + 1 : Nat) : Int), (o.dflt.reval V).w, (o.dflt.reval V).p, (o.dflt.reval V).n, (o.dflt.reval V).g, (o.dflt.reval V).h⟩) ⟨1, o.kind, o.name, now + 1⟩ (Taken p b mb o L' V) e w'
set_option maxHeartbeats 8000000 in
set_option maxRecDepth 100000 in
theorem do8_up_ok (c : Code) (hc : IsRest c) (f : Nat → Value) (w : World) (p b n : Nat) (D : DataW Value) (most : Int) (now : Nat) (ev : Value) (evs : List Ev) (h : StIs w p b n D most now ev evs) (hN : n < maxLen) (hnow : now < 1000000) (hevs : evs.length ≤ 1024) (mb q : Nat) (ak : Int) (o : Ob) (right : Bool) (fi : Int) (hak : ak = 1) (ho : o.Ok w)
    (hq : Bk w q 58 (actA ak o right)) (hqp : q ≠ p) (hqb : q ≠ b) (hqe : ev.ownBlock ≠ some q) (Lw : Array Value) (hLw : Is47 Lw) (vw : Nat) (hvw : Lw[2]? = some (.int .u64 vw)) (hval : valAt D (kOf o.kind o.name) (.agg Z47) = .agg Lw) (hgood : errO o.dflt = 0) (hhas : Maps.has D (kOf o.kind o.name) = true) (i : Nat) (hfi : fi = (i : Int)) (lv mev : Value) (mevs : List Ev) (ml : List Ob) (hml : ml.length < 1000) (hm : MdIs w mb lv now mev mevs) (hmevs : mevs.length < 100000) (hrow : w.ownsRow (mb + 1) 56 47 lv ml.length (ml.flatMap Ob.cells)) (hap : Apart p b mb ev mev lv) (hi : i < ml.length) (hvi : (ml[i]).version = (vw : Int)) (hveq : o.version = (vw : Int)) :
    c.wp Try.prog (bodyPost Try.prog Try.f7 (UpOut w p b n D most now ev evs mb lv mev mevs ml i o)) ⟨doF p mb most q fi f, []⟩ w := by
  obtain ⟨a0, a1, a2, a3, a4, a5⟩ := actA_is ak o right
  have c0 : w.cell? ⟨q, 0, none⟩ = some (.int .i64 ak) := by rw [hq.cell]; exact a1
  have HQ := Lib.hid hq
  have HS := Lib.hid (And.intro h (And.intro ho (And.intro hLw (And.intro hval hgood))))
  have HN := Lib.hid (And.intro hN (And.intro hnow hevs))
  have hr : w.rangeAt q 1 o.cells := by
    have := range_sub hq.range 1 47
    rwa [actA_ob] at this
  have HR := Lib.hid hr
  have HU := Lib.hid (Try.underlying56)
  clear h hval hLw ho hq a0 a1 a2 a3 a4 a5 hgood hN hnow hevs hr
  have hlen : (ml.length : Int) < 1000 := by omega
  have HF := Lib.hid (And.intro hhas (And.intro hm (And.intro hrow (And.intro (And.intro hqp (And.intro hqb hqe)) (And.intro hi (And.intro hap (And.intro hmevs hml)))))))
  have HVW := Lib.hid (And.intro hvw (And.intro (show ∀ h : i < ml.length, (ml[i]'h).version = (vw : Int) from fun _ => hvi) hveq))
  clear hhas hm hrow hi hap hmevs hml hvw hvi hveq hqp hqb hqe
  subst hfi
  subst hak
  obtain ⟨x, y, z, hlit⟩ := hc
  cases hlit
  unfold doF
  go_wp2_with (refine wpl_loadat HR.out rfl 56 (.tmp 148) rfl rfl _ HU.out rfl (by kernel_rfl) ?_)
  refine (vdefault_any o w HS.out.2.1).mono ?_
  rintro e w1 ⟨V, rfl, hn, b1⟩
  obtain ⟨L, hL⟩ : ∃ L : Array Value, L = (o.dflt.reval V).cells.toArray := ⟨_, rfl⟩
  have hok := HS.out.2.1.fit.dflt.ok hn
  have hi := cells_is _ hok
  rw [← hL] at hi ⊢
  have kz := Bk.new w1 56 Z47
  have hzz : Z47.size = L.size := hi.1.symm
  have k2 := setCells_whole kz hzz
  have B2 := below_setCells (g := w1.heap.size) L.toList 0 (b1.alloc b1.size (.cells Z47 56)) b1.size
  have n2 := hn.alloc (.cells Z47 56)
  obtain ⟨W2, r, hW2, hr0⟩ : ∃ W2 r, W2 = (w1.alloc (.cells Z47 56)).setCells r 0 L.toList ∧ r = w1.heap.size := ⟨_, _, rfl, rfl⟩
  have b12 : Below w1.heap.size w1 W2 := by
    rw [hW2, hr0]
    exact below_setCells (g := w1.heap.size) L.toList 0 (below_al w1 _) (Nat.le_refl _)
  rw [← hr0] at kz k2 B2
  rw [← hW2] at k2 B2
  have HL := Lib.hid (And.intro hL (And.intro hi (And.intro hzz (And.intro kz (And.intro hW2.symm (And.intro k2 (And.intro B2 (And.intro (hok.below b12) (And.intro b12 (hn.below b12))))))))))
  have HR0 := Lib.hid hr0.symm
  have HN1 := Lib.hid hn
  have hwr : w.heap.size ≤ r := by rw [hr0]; exact b1.size
  clear hL hi hzz kz k2 B2 n2 hok hn b1 b12 hW2 hr0
  go_wp2_with (first | (refine wpl_allocg rfl (run_alloc47 rfl _) ?_; rw [HR0.out]) | (refine wpl_storeg HL.out.2.2.2.1 HL.out.2.2.1 rfl rfl 56 (.tmp 12) (.tmp 150) rfl rfl rfl (info47 HL.out.2.1) HL.out.2.1.2 ?_; rw [HL.out.2.2.2.2.1]) | (refine wpl_loadg HL.out.2.2.2.2.2.1 rfl 56 (.tmp 12) rfl rfl _ HU.out rfl (info47 HL.out.2.1) ?_))
  rw [HL.out.1]
  refine (lawright_any (o.dflt.reval V) W2 HL.out.2.2.2.2.2.2.2.1).mono ?_
  rintro e w3 ⟨rfl, b3⟩
  rw [errO_reval, ← HL.out.1]
  have B3 := below_tr HL.out.2.2.2.2.2.2.1 b3
  have HN3 := Lib.hid (HL.out.2.2.2.2.2.2.2.2.2.below b3)
  have HB13 := Lib.hid (below_tr HL.out.2.2.2.2.2.2.2.2.1 b3)
  have k3 := HL.out.2.2.2.2.2.1.below' b3
  have hq3 := HQ.out.below' B3
  have d0 : w3.cell? ⟨q, 0, none⟩ = some (.int .i64 1) := by rw [hq3.cell]; exact (actA_is 1 o right).2.1
  have hr3 : w3.rangeAt q 1 o.cells := by
    have := range_sub hq3.range 1 47
    rwa [actA_ob] at this
  have H3 := Lib.hid (And.intro B3 (And.intro k3 (And.intro hq3 hr3)))
  obtain ⟨er, her⟩ : ∃ er, er = errO o.dflt := ⟨_, rfl⟩
  rw [← her]
  have HER := Lib.hid her
  clear B3 k3 hq3 hr3 b3 her c0
  go_wp2_with (first | (refine wpl_loadat H3.out.2.2.2 rfl 56 (.tmp 219) rfl rfl _ HU.out rfl (by kernel_rfl) ?_))
  refine (supdate_any (HS.out.1.below H3.out.1) HN.out.1 (by have := HN.out.2.1; omega) HN.out.2.2 o (HS.out.2.1.below H3.out.1) Lw HS.out.2.2.1 vw HVW.out.1 HS.out.2.2.2.1).mono ?_
  rintro e w4 hst
  rw [if_pos HS.out.2.2.2.2] at hst
  obtain ⟨L', wm, ⟨V', hL', hnm⟩, bm, hst⟩ := hst
  obtain ⟨vn, hvn⟩ : ∃ vn : Nat, vn = o.version.toNat := ⟨_, rfl⟩
  have hvo := version_nat HS.out.2.1.fit
  rw [← hvn] at hvo
  have hnv : vw = vn := by have := HVW.out.2.2; omega
  unfold UpdateSt PutSt2 at hst
  rw [if_neg (by rw [HF.out.1]; simp), ← hvn, if_pos hnv] at hst
  obtain ⟨ev1, rfl, S4, T4m, E4m⟩ := hst
  have T4 : T3 p b ev w3 w4 := (T3.of_below bm).trans (EvTo.refl _ _) T4m
  have E4 : EvTo w3 ev ev1 := EvTo.trans bm.size (EvTo.refl _ _) E4m
  have hne : er = 0 := by rw [HER.out]; exact HS.out.2.2.2.2
  obtain ⟨hap, hmevs, hml⟩ := HF.out.2.2.2.2.2
  obtain ⟨hqp, hqb, hqe⟩ := HF.out.2.2.2.1
  have hil := HF.out.2.2.2.2.1
  have hpw : p < w.heap.size := HS.out.1.2.1.lt
  have hbw : b < w.heap.size := by have := HS.out.1.1; omega
  have hmw : mb < w.heap.size := HF.out.2.1.1.lt
  have hevw : ∀ g, ev.ownBlock = some g → g < w.heap.size := fun g hg => (HS.out.1.evGe hg).2
  have hmevw : ∀ g, mev.ownBlock = some g → g < w.heap.size := fun g hg => (HF.out.2.1.evGe hg).2
  have hw3 : w.heap.size ≤ w3.heap.size := H3.out.1.size
  have k4 := T4.bk H3.out.2.1 (by omega) (by omega) (fun e => by have := hevw _ e.symm; omega)
  have m4 := (HF.out.2.1.below H3.out.1).t3 T4 hap
  have r4 := own_t3 (own_below HF.out.2.2.1 H3.out.1) T4 hap.lp hap.lb hap.le
  have n4 := News.t3 HN3.out hpw hbw hevw T4
  have D4 : o.dflt.News w4 (w3.heap.size + 1) V' := News.t3 hnm (by omega) (by omega) (fun g hg => by have := hevw g hg; omega) T4m
  have HMM := Lib.hid (And.intro hL' (And.intro hnm (And.intro E4m (And.intro T4m.size bm.size))))
  have em1 : ev1.ownBlock ≠ some mb := fun e => by
    rcases E4 with h | ⟨g, hg, h⟩
    · exact hap.em (h ▸ e)
    · rw [h] at e; injection e with e; omega
  have ee1 : ∀ g, ev1.ownBlock = some g → mev.ownBlock ≠ some g := fun g hg e => by
    rcases E4 with h | ⟨g', hg', h⟩
    · exact hap.me g e (h ▸ hg)
    · rw [h] at hg; injection hg with hg; have := hmevw g e; omega
  obtain ⟨g2, cl, cur, hlv, hg2, hkg, hcl, _⟩ := own_parts r4 (by omega)
  subst hlv
  obtain ⟨b2, o2, hb2e, hb2, hadd2, hcell⟩ := Sl.row' (s := 47) (f := Ob.cells) ob_len (by omega) (Sl.of_own r4) i hil
  injection hb2e with hb2e
  injection hb2e with hb2e ho2e
  subst hb2e
  subst ho2e
  rw [Nat.zero_add] at hadd2
  have dv := hcell 2 (.int .u64 (vw : Int)) (by rw [← HVW.out.2.1 hil]; rfl)
  rw [Nat.zero_add] at dv
  have hq4 := T4.bk H3.out.2.2.1 hqp hqb (fun e => hqe e.symm)
  have d3 : w4.cell? ⟨q, 3, none⟩ = some (.int .u64 (vn : Int)) := by rw [hq4.cell, ← hvo]; exact (actA_is 1 o right).2.2.2.2.1
  have dm4 := m4.1.cell 0
  have hge : (0 : Int) ≤ (i : Int) := by omega
  have hge2 : ¬ (i : Int) < 0 := by omega
  have hgel : (i : Int) < (ml.length : Int) := by omega
  have hx1 : ((vn : Int) != (vw : Int)) = false := by
    have : (vn : Int) = (vw : Int) := by omega
    simpa using this
  have hLo : ObL L o.kind o.name o.version.toNat := DfO.obL HS.out.2.1.fit ⟨V, HL.out.1, n4⟩
  have H4 := Lib.hid (And.intro S4 (And.intro T4 (And.intro E4 (And.intro k4 (And.intro m4 (And.intro r4 (And.intro n4 (And.intro D4 (And.intro em1 ee1)))))))))
  have HLO := Lib.hid hLo
  have HAP := Lib.hid hap
  have HBD := Lib.hid (And.intro hpw (And.intro hbw (And.intro hmw (And.intro hevw (And.intro hmevw (And.intro hw3 hmevs))))))
  clear S4 T4 E4 k4 m4 r4 n4 D4 em1 ee1 hLo hL' hnm E4m T4m bm d0 hap hpw hbw hmw hevw hmevw hw3 hmevs hkg hcell hvn hvo hq4 hqp hqb hqe
  subst hne
  go_wp2_with fail
  refine wp_region_sched [0, 1, 2, 3, 4, 5, 6, 7, 8, 9, 10, 11, 12, 13, 14, 15] [] [] (fun i => !(i == 5 || i == 9 || i == 13)) (fun w' => w'.cell? ⟨q, 3, none⟩ = some (.int .u64 (vn : Int)) ∧ w'.cell? ⟨mb, 0, none⟩ = some (.slice (some ⟨g2, 0, none⟩) ml.length cl) ∧ w'.cell? ⟨g2, i * 47 + 2, none⟩ = some (.int .u64 (vw : Int))) (by kernel_rfl) (by kernel_rfl) (fun c a d v w h => by cases d <;> exact h) ⟨d3, dm4, dv⟩ fun u0 Hu => ?_
  refine readsL_free (v := ?_) (by rfl) (by rfl) (fun w' => ?_) ?_
  rotate_left
  · go_simp
    with_reducible rfl
  simp only [Act.put, List.setIfInBounds_toArray, List.set_cons_zero, List.set_cons_succ, List.getElem_toArray, List.getElem_cons_succ, List.getElem_cons_zero]
  refine readsL_free (v := ?_) (by rfl) (by rfl) (fun w' => ?_) ?_
  rotate_left
  · go_simp
    with_reducible rfl
  simp only [Act.put, List.setIfInBounds_toArray, List.set_cons_zero, List.set_cons_succ, List.getElem_toArray, List.getElem_cons_succ, List.getElem_cons_zero]
  refine readsL_free (v := ?_) (by rfl) (by rfl) (fun w' => ?_) ?_
  rotate_left
  · go_simp
    with_reducible rfl
  simp only [Act.put, List.setIfInBounds_toArray, List.set_cons_zero, List.set_cons_succ, List.getElem_toArray, List.getElem_cons_succ, List.getElem_cons_zero]
  refine readsL_free (v := ?_) (by rfl) (by rfl) (fun w' => ?_) ?_
  rotate_left
  · go_simp
    with_reducible rfl
  simp only [Act.put, List.setIfInBounds_toArray, List.set_cons_zero, List.set_cons_succ, List.getElem_toArray, List.getElem_cons_succ, List.getElem_cons_zero]
  refine readsL_free (v := ?_) (by rfl) (by rfl) (fun w' => ?_) ?_
  rotate_left
  · go_simp
    with_reducible rfl
  simp only [Act.put, List.setIfInBounds_toArray, List.set_cons_zero, List.set_cons_succ, List.getElem_toArray, List.getElem_cons_succ, List.getElem_cons_zero]
  refine readsL_step (v := ?_) (by rfl) (by rfl) (by rfl) (fun w' hS => ?_) ?_
  rotate_left
  · have u0 := hS.1
    have u1 := hS.2.1
    have u2 := hS.2.2
    clear hS
    go_simp
    with_reducible rfl
  simp only [Act.put, List.setIfInBounds_toArray, List.set_cons_zero, List.set_cons_succ, List.getElem_toArray, List.getElem_cons_succ, List.getElem_cons_zero]
  refine readsL_free (v := ?_) (by rfl) (by rfl) (fun w' => ?_) ?_
  rotate_left
  · go_simp
    with_reducible rfl
  simp only [Act.put, List.setIfInBounds_toArray, List.set_cons_zero, List.set_cons_succ, List.getElem_toArray, List.getElem_cons_succ, List.getElem_cons_zero]
  refine readsL_free (v := ?_) (by rfl) (by rfl) (fun w' => ?_) ?_
  rotate_left
  · go_simp
    with_reducible rfl
  simp only [Act.put, List.setIfInBounds_toArray, List.set_cons_zero, List.set_cons_succ, List.getElem_toArray, List.getElem_cons_succ, List.getElem_cons_zero]
  refine readsL_free (v := ?_) (by rfl) (by rfl) (fun w' => ?_) ?_
  rotate_left
  · go_simp
    with_reducible rfl
  simp only [Act.put, List.setIfInBounds_toArray, List.set_cons_zero, List.set_cons_succ, List.getElem_toArray, List.getElem_cons_succ, List.getElem_cons_zero]
  refine readsL_step (v := ?_) (by rfl) (by rfl) (by rfl) (fun w' hS => ?_) ?_
  rotate_left
  · have u0 := hS.1
    have u1 := hS.2.1
    have u2 := hS.2.2
    clear hS
    go_simp
    with_reducible rfl
  simp only [Act.put, List.setIfInBounds_toArray, List.set_cons_zero, List.set_cons_succ, List.getElem_toArray, List.getElem_cons_succ, List.getElem_cons_zero]
  refine readsL_free (v := ?_) (by rfl) (by rfl) (fun w' => ?_) ?_
  rotate_left
  · go_simp
    with_reducible rfl
  simp only [Act.put, List.setIfInBounds_toArray, List.set_cons_zero, List.set_cons_succ, List.getElem_toArray, List.getElem_cons_succ, List.getElem_cons_zero]
  refine readsL_free (v := ?_) (by rfl) (by rfl) (fun w' => ?_) ?_
  rotate_left
  · go_simp
    with_reducible rfl
  simp only [Act.put, List.setIfInBounds_toArray, List.set_cons_zero, List.set_cons_succ, List.getElem_toArray, List.getElem_cons_succ, List.getElem_cons_zero]
  refine readsL_free (v := ?_) (by rfl) (by rfl) (fun w' => ?_) ?_
  rotate_left
  · go_simp
    with_reducible rfl
  simp only [Act.put, List.setIfInBounds_toArray, List.set_cons_zero, List.set_cons_succ, List.getElem_toArray, List.getElem_cons_succ, List.getElem_cons_zero]
  refine readsL_step (v := ?_) (by rfl) (by rfl) (by rfl) (fun w' hS => ?_) ?_
  rotate_left
  · have u0 := hS.1
    have u1 := hS.2.1
    have u2 := hS.2.2
    clear hS
    go_simp
    with_reducible rfl
  simp only [Act.put, List.setIfInBounds_toArray, List.set_cons_zero, List.set_cons_succ, List.getElem_toArray, List.getElem_cons_succ, List.getElem_cons_zero]
  refine readsL_free (v := ?_) (by rfl) (by rfl) (fun w' => ?_) ?_
  rotate_left
  · go_simp
    with_reducible rfl
  simp only [Act.put, List.setIfInBounds_toArray, List.set_cons_zero, List.set_cons_succ, List.getElem_toArray, List.getElem_cons_succ, List.getElem_cons_zero]
  refine readsL_free (v := ?_) (by rfl) (by rfl) (fun w' => ?_) ?_
  rotate_left
  · go_simp
    with_reducible rfl
  simp only [Act.put, List.setIfInBounds_toArray, List.set_cons_zero, List.set_cons_succ, List.getElem_toArray, List.getElem_cons_succ, List.getElem_cons_zero]
  refine readsL_nil ?_
  refine earlyL_nil ?_
  simp only [List.filterMap_nil]
  have bu0 : Below w4.heap.size w4 u0 := by
    rw [Hu.out]
    exact (Below.refl _ _).drew
  have H5 := Lib.hid (And.intro (H4.out.1.below bu0) (And.intro (H4.out.2.1.trans H4.out.2.2.1 (T3.of_below bu0)) (And.intro H4.out.2.2.1 (And.intro (H4.out.2.2.2.1.below' bu0) (And.intro (H4.out.2.2.2.2.1.below bu0) (And.intro (own_below H4.out.2.2.2.2.2.1 bu0) (And.intro (H4.out.2.2.2.2.2.2.1.below bu0) (And.intro (H4.out.2.2.2.2.2.2.2.1.below bu0) (And.intro H4.out.2.2.2.2.2.2.2.2.1 H4.out.2.2.2.2.2.2.2.2.2)))))))))
  have HBU := Lib.hid bu0.size
  clear Hu d3 dm4 dv bu0 H4
  go_wp2_with (refine wpl_loadg H5.out.2.2.2.1 rfl 56 (.tmp 12) rfl rfl _ HU.out rfl (info47 HL.out.2.1) ?_)
  refine (note8_any u0 mb _ now mev mevs H5.out.2.2.2.2.1 (by have := HN.out.2.1; omega) HBD.out.2.2.2.2.2.2 1 o.kind o.name o.version.toNat L HLO.out).mono ?_
  rintro e w5 ⟨mev', rfl, M5, TM5, EM5⟩
  obtain ⟨S4, T4, E4, k4, m4, r4, n4, D4, em1, ee1⟩ := H5.out
  obtain ⟨hpw, hbw, hmw, hevw, hmevw, hw3, hmevs⟩ := HBD.out
  have hap := HAP.out
  have k5 := TM5.bk k4 (by omega) (by omega) (fun e => by have := hmevw _ e.symm; omega)
  have S5 := S4.t3m TM5 hap.pm hap.bm hap.mp hap.mbb em1 ee1
  have r5 := own_t3 r4 TM5 hap.lm hap.lm hap.lme
  have n5 := News.t3 n4 hmw hmw hmevw TM5
  have D5 : o.dflt.News w5 (w3.heap.size + 1) V' := News.t3 D4 (by omega) (by omega) (fun g hg => by have := hmevw g hg; omega) TM5
  have c12 : w5.cell? ⟨mb, 1, none⟩ = some (.int .u64 ((now : Int) + 1)) := by
    rw [M5.1.cell]
    simp
  have c22 : w5.cell? ⟨r, 2, none⟩ = some (.int .u64 (o.version.toNat : Int)) := by rw [k5.cell]; exact HLO.out.ver
  have f22 := k5.frozen 2
  have v := Value.int .u64 ((now : Int) + 1)
  have hrm : r ≠ mb := by omega
  -- behind the store of the version
  have k6 := k5.set 2 (.int .u64 ((now : Int) + 1))
  have M6 : MdIs (w5.setCell ⟨r, 2, none⟩ (.int .u64 ((now : Int) + 1))) mb (.slice (some ⟨g2, 0, none⟩) ml.length cl) (now + 1) mev' (mevs ++ [⟨1, o.kind, o.name, now + 1⟩]) := ⟨M5.1.far (p := ⟨r, 2, none⟩) (by simp; omega) _, own_block M5.2 fun g hg => Below.heap_setCell _ _ _ _ (by
    have h1 := (M5.evGe hg).1
    rcases EM5 with h | ⟨g', hg', h⟩
    · have h2 := hmevw g (h ▸ hg)
      simp; omega
    · rw [h] at hg; injection hg with hg
      have h3 := k4.lt
      simp; omega)⟩
  have T6 : T3 r r (.slice none 0 0) w5 (w5.setCell ⟨r, 2, none⟩ (.int .u64 ((now : Int) + 1))) := (T3.of_below (Below.refl _ _)).setP 2 _
  have hr3 : r < w3.heap.size := H3.out.2.1.lt
  have er : ev1.ownBlock ≠ some r := fun e => by
    rcases E4 with h | ⟨g, hg, h⟩
    · have := hevw r (h ▸ e); omega
    · rw [h] at e; injection e with e; omega
  have hlvw : ∀ g, (Value.slice (some ⟨g2, 0, none⟩) ml.length cl).ownBlock = some g → g < w.heap.size := fun g hg => (HF.out.2.2.1.lt g hg).2
  have S6 := S5.t3m (mev := .slice none 0 0) T6 (by omega) (by omega) (fun e => by cases e) (fun e => by cases e) er (fun _ _ e => by cases e)
  have r6 := own_t3 r5 T6 (fun e => by have := hlvw _ e; omega) (fun e => by have := hlvw _ e; omega) (fun _ _ e => by cases e)
  have D6 : o.dflt.News (w5.setCell ⟨r, 2, none⟩ (.int .u64 ((now : Int) + 1))) (w3.heap.size + 1) V' := D5.set (by simp; omega) rfl _
  have hi2 : Is47 (L.setIfInBounds 2 (.int .u64 ((now : Int) + 1))) := HL.out.2.1.set 2 rfl
  have F2 : Tch (PF p b mb ev mev (.slice (some ⟨g2, 0, none⟩) ml.length cl)) w3 u0 := tch_t3 T4 fun j hj => ⟨fun e => hj (.inl e), fun e => hj (.inr (.inl e)), fun e => hj (.inr (.inr (.inr (.inl e.symm))))⟩
  have F3 : Tch (PF p b mb ev mev (.slice (some ⟨g2, 0, none⟩) ml.length cl)) u0 w5 := tch_t3 TM5 fun j hj => ⟨fun e => hj (.inr (.inr (.inl e))), fun e => hj (.inr (.inr (.inl e))), fun e => hj (.inr (.inr (.inr (.inr (.inl e.symm)))))⟩
  have F4 : Tch (fun j => j = r) w5 (w5.setCell ⟨r, 2, none⟩ (.int .u64 ((now : Int) + 1))) := tch_t3 T6 fun j hj => ⟨fun e => hj e, fun e => hj e, fun e => by cases e⟩
  have Fw := (((Tch.of_below (F := (PF p b mb ev mev (.slice (some ⟨g2, 0, none⟩) ml.length cl))) H3.out.1).trans F2 (fun _ _ h => h)).trans F3 (fun _ _ h => h)).trans F4 (fun i hi e => absurd e (by omega))
  have Fn : Tch (fun j => (PF p b mb ev mev (.slice (some ⟨g2, 0, none⟩) ml.length cl)) j ∨ j = r) w1 (w5.setCell ⟨r, 2, none⟩ (.int .u64 ((now : Int) + 1))) := (((Tch.of_below (F := fun j => (PF p b mb ev mev (.slice (some ⟨g2, 0, none⟩) ml.length cl)) j ∨ j = r) HB13.out).trans (F2.mono (fun _ _ h => .inl h)) (fun _ _ h => h)).trans (F3.mono (fun _ _ h => .inl h)) (fun _ _ h => h)).trans (F4.mono (fun _ _ h => .inr h)) (fun _ _ h => h)
  have N6 := News.tch HN1.out Fn (fun j hj => by
    rcases hj with (h | h | h | h | h | h) | h
    · left; omega
    · left; omega
    · left; omega
    · exact .inl (hevw j h)
    · exact .inl (hmevw j h)
    · exact .inl (hlvw j h)
    · right; rw [h]; exact Nat.le_of_eq HR0.out)
  have H6 : RowKit.Hid (∃ W6, W6 = (w5.setCell ⟨r, 2, none⟩ (.int .u64 ((now : Int) + 1))) ∧ Bk W6 r 56 (L.setIfInBounds 2 (.int .u64 ((now : Int) + 1))) ∧ MdIs W6 mb (.slice (some ⟨g2, 0, none⟩) ml.length cl) (now + 1) mev' (mevs ++ [⟨1, o.kind, o.name, now + 1⟩]) ∧ StIs W6 p b (n + 1) (D.put (kOf o.kind o.name) (.held (.agg (putL L' (now + 1))))) most (now + 1) ev1 (nextEvs evs ⟨1, o.kind, o.name, now + 1⟩) ∧ W6.ownsRow (mb + 1) 56 47 (.slice (some ⟨g2, 0, none⟩) ml.length cl) ml.length (ml.flatMap Ob.cells) ∧ o.dflt.News W6 (w3.heap.size + 1) V' ∧ o.dflt.News W6 w.heap.size V ∧ Tch (PF p b mb ev mev (.slice (some ⟨g2, 0, none⟩) ml.length cl)) w W6) :=
    ⟨_, rfl, k6, M6, S6, r6, D6, N6, Fw⟩
  have HML := Lib.hid (show ∀ g, mev'.ownBlock = some g → g < w5.heap.size from fun g hg => (M5.evGe hg).2)
  have HE := Lib.hid (And.intro E4 (And.intro EM5 (And.intro T4.size (And.intro TM5.size (And.intro hwr (And.intro hr3 (And.intro er em1)))))))
  clear S4 T4 E4 k4 m4 r4 n4 D4 em1 ee1 k5 S5 r5 n5 D5 k6 M6 T6 S6 r6 D6 F2 F3 F4 Fw Fn N6 M5 TM5 EM5 v hpw hbw hmw hevw hmevw hw3 hmevs hap hlvw
  go_wp2_with fail
  obtain ⟨W6, hW6, k6, M6, S6, r6, D6, N6, Fw⟩ := H6
  have HWS := Lib.hid (show w5.heap.size ≤ W6.heap.size by rw [hW6]; simp [World.setCell])
  rw [← hW6]
  clear hW6 c12 c22 f22
  refine wp_region_sched [0, 1, 2, 3, 4, 5, 6] [] [7] (fun i => !(i == 3 || i == 5)) (fun w' => w'.cell? ⟨mb, 0, none⟩ = some (.slice (some ⟨g2, 0, none⟩) ml.length cl) ∧ Bk w' r 56 (L.setIfInBounds 2 (.int .u64 ((now : Int) + 1)))) (by kernel_rfl) (by kernel_rfl) (fun c a d v w h => by cases d <;> exact h) ⟨M6.1.cell 0, k6⟩ fun u1 Hu => ?_
  refine readsL_free (v := ?_) (by rfl) (by rfl) (fun w' => ?_) ?_
  rotate_left
  · go_simp
    with_reducible rfl
  simp only [Act.put, List.setIfInBounds_toArray, List.set_cons_zero, List.set_cons_succ, List.getElem_toArray, List.getElem_cons_succ, List.getElem_cons_zero]
  refine readsL_free (v := ?_) (by rfl) (by rfl) (fun w' => ?_) ?_
  rotate_left
  · go_simp
    with_reducible rfl
  simp only [Act.put, List.setIfInBounds_toArray, List.set_cons_zero, List.set_cons_succ, List.getElem_toArray, List.getElem_cons_succ, List.getElem_cons_zero]
  refine readsL_free (v := ?_) (by rfl) (by rfl) (fun w' => ?_) ?_
  rotate_left
  · go_simp
    with_reducible rfl
  simp only [Act.put, List.setIfInBounds_toArray, List.set_cons_zero, List.set_cons_succ, List.getElem_toArray, List.getElem_cons_succ, List.getElem_cons_zero]
  refine readsL_step (v := ?_) (by rfl) (by rfl) (by rfl) (fun w' hS => ?_) ?_
  rotate_left
  · have u0 := hS.1
    clear hS
    go_simp
    with_reducible rfl
  simp only [Act.put, List.setIfInBounds_toArray, List.set_cons_zero, List.set_cons_succ, List.getElem_toArray, List.getElem_cons_succ, List.getElem_cons_zero]
  refine readsL_free (v := ?_) (by rfl) (by rfl) (fun w' => ?_) ?_
  rotate_left
  · go_simp
    with_reducible rfl
  simp only [Act.put, List.setIfInBounds_toArray, List.set_cons_zero, List.set_cons_succ, List.getElem_toArray, List.getElem_cons_succ, List.getElem_cons_zero]
  refine readsL_loadg (fun w' hS => hS.2) (by rfl) (by rfl) (by rfl) 56 (.tmp 12) rfl rfl _ HU.out rfl (info47 hi2) ?_
  simp only [Act.put, List.setIfInBounds_toArray, List.set_cons_zero, List.set_cons_succ, List.getElem_toArray, List.getElem_cons_succ, List.getElem_cons_zero]
  refine readsL_free (v := ?_) (by rfl) (by rfl) (fun w' => ?_) ?_
  rotate_left
  · go_simp
    with_reducible rfl
  simp only [Act.put, List.setIfInBounds_toArray, List.set_cons_zero, List.set_cons_succ, List.getElem_toArray, List.getElem_cons_succ, List.getElem_cons_zero]
  refine readsL_nil ?_
  refine earlyL_nil ?_
  simp only [List.filterMap_cons, List.filterMap_nil, List.getElem?_toArray, List.getElem?_cons_succ, List.getElem?_cons_zero]
  have bu : Below W6.heap.size W6 u1 := by
    rw [Hu.out]
    exact (Below.refl _ _).drew
  clear Hu
  have r7 := own_below r6 bu
  obtain ⟨o7, t7⟩ := own_put ob_len ml r7 i hil (Ob.mk o.kind o.name ((now + 1 : Nat) : Int) (o.dflt.reval V).w (o.dflt.reval V).p (o.dflt.reval V).n (o.dflt.reval V).g (o.dflt.reval V).h)
  have e1 : (o.dflt.reval V).kind = o.kind := dflt_kind o
  have e2 : (o.dflt.reval V).name = o.name := dflt_name o
  have hcv : (L.setIfInBounds 2 (.int .u64 ((now : Int) + 1))).toList = (Ob.mk o.kind o.name ((now + 1 : Nat) : Int) (o.dflt.reval V).w (o.dflt.reval V).p (o.dflt.reval V).n (o.dflt.reval V).g (o.dflt.reval V).h).cells := by
    rw [HL.out.1, cells_ver, e1, e2]
    rfl
  rw [← hcv] at o7
  have hg2w : g2 < w.heap.size ∧ mb + 1 ≤ g2 := by
    have := HF.out.2.2.1.lt g2 rfl
    omega
  obtain ⟨hpw, hbw, hmw, hevw, hmevw, hw3, hmevs⟩ := HBD.out
  obtain ⟨E4, EM5, s34, s45, hwr, hr3, er, em1⟩ := HE.out
  have hap := HAP.out
  have T8 : T3 g2 g2 (.slice none 0 0) u1 (u1.setCells g2 (i * 47) (L.setIfInBounds 2 (.int .u64 ((now : Int) + 1))).toList) := T3.setsP _ _ (T3.of_below (Below.refl _ _))
  have hpg : p ≠ g2 := fun e => hap.lp (by rw [e]; rfl)
  have hbg : b ≠ g2 := fun e => hap.lb (by rw [e]; rfl)
  have heg : ev1.ownBlock ≠ some g2 := fun e => by
    rcases E4 with h | ⟨g', hg', h⟩
    · exact hap.le g2 rfl (h ▸ e)
    · rw [h] at e; injection e with e; omega
  have hmg : mev'.ownBlock ≠ some g2 := fun e => by
    rcases EM5 with h | ⟨g', hg', h⟩
    · exact hap.lme g2 rfl (h ▸ e)
    · rw [h] at e; injection e with e; omega
  have S8 := (S6.below bu).t3m T8 hpg hbg (fun e => by cases e) (fun e => by cases e) heg (fun _ _ e => by cases e)
  have M8 : MdIs (u1.setCells g2 (i * 47) (L.setIfInBounds 2 (.int .u64 ((now : Int) + 1))).toList) mb (.slice (some ⟨g2, 0, none⟩) ml.length cl) (now + 1) mev' (mevs ++ [⟨1, o.kind, o.name, now + 1⟩]) := ⟨T8.bk (M6.below bu).1 (by omega) (by omega) (fun e => by cases e), own_t3 (M6.below bu).2 T8 hmg hmg (fun _ _ e => by cases e)⟩
  have D8 := News.t3 (D6.below bu) (by omega) (by omega) (fun g hg => by cases hg) T8
  have N8 := News.t3 (N6.below bu) hg2w.1 hg2w.1 (fun g hg => by cases hg) T8
  have F8 : Tch (PF p b mb ev mev (.slice (some ⟨g2, 0, none⟩) ml.length cl)) w (u1.setCells g2 (i * 47) (L.setIfInBounds 2 (.int .u64 ((now : Int) + 1))).toList) := (Fw.trans (Tch.of_below (F := (PF p b mb ev mev (.slice (some ⟨g2, 0, none⟩) ml.length cl))) bu) (fun _ _ h => h)).trans (tch_t3 (F := (PF p b mb ev mev (.slice (some ⟨g2, 0, none⟩) ml.length cl))) T8 fun j hj => ⟨fun e => hj (.inr (.inr (.inr (.inr (.inr (by rw [e]; rfl)))))), fun e => hj (.inr (.inr (.inr (.inr (.inr (by rw [e]; rfl)))))), fun e => by cases e⟩) (fun _ _ h => h)
  obtain ⟨W8, hW8⟩ : ∃ W8, W8 = u1.setCells g2 (i * 47) (L.setIfInBounds 2 (.int .u64 ((now : Int) + 1))).toList := ⟨_, rfl⟩
  rw [← hW8] at o7 S8 M8 D8 N8 F8
  have HW8 := Lib.hid hW8.symm
  have d1 : W8.cell? ⟨mb, 1, none⟩ = some (.int .u64 ((now : Int) + 1)) := by
    rw [M8.1.cell]
    simp
  have HT := Lib.hid (And.intro (show u1.there g2 (i * 47) (L.setIfInBounds 2 (.int .u64 ((now : Int) + 1))).size by rw [hi2.1]; exact t7) hi2)
  have H8 := Lib.hid (And.intro M8 (And.intro S8 (And.intro D8 (And.intro N8 (And.intro F8 o7)))))
  clear hW8 T8 hpg hbg heg hmg S8 M8 D8 N8 F8 o7 t7 r7 hcv e1 e2 k6 M6 S6 r6 D6 N6 Fw bu hpw hbw hmw hevw hmevw hw3 hmevs E4 EM5 s34 s45 hwr hr3 er em1 hap hi2 hg2w
  refine wpList_store_mid rfl 56 (.tmp 269) (.tmp 268) rfl g2 (i * 47) (L.setIfInBounds 2 (.int .u64 ((now : Int) + 1))) rfl rfl HT.out.1 (info47 HT.out.2) (by rw [← Array.all_toList]; exact HT.out.2.2) ?_
  rw [HW8.out]
  go_wp2_with fail
  all_goals
    go_ret
    obtain ⟨M8, S8, D8, N8, F8, o7⟩ := H8.out
    obtain ⟨E4, EM5, s34, s45, hwr, hr3, er, em1⟩ := HE.out
    obtain ⟨hpw, hbw, hmw, hevw, hmevw, hw3, hmevs⟩ := HBD.out
    obtain ⟨hL', hnm, E4m, sm4, s3m⟩ := HMM.out
    have hbu0 := HBU.out
    have hFm : ∀ j, PF p b mb ev1 mev' (.slice (some ⟨g2, 0, none⟩) ml.length cl) j → j < w.heap.size ∨ wm.heap.size ≤ j := fun j hj => by
      rcases hj with rfl | rfl | rfl | h | h | h
      · exact .inl hpw
      · exact .inl hbw
      · exact .inl hmw
      · rcases E4m with e | ⟨g, hg, e⟩
        · exact .inl (hevw j (e ▸ h))
        · rw [e] at h; injection h with h; exact .inr (h ▸ hg)
      · rcases EM5 with e | ⟨g, hg, e⟩
        · exact .inl (hmevw j (e ▸ h))
        · rw [e] at h; injection h with h; right; omega
      · exact .inl ((HF.out.2.2.1.lt j h).2)
    have TK : Taken p b mb o L' V ev1 mev' (.slice (some ⟨g2, 0, none⟩) ml.length cl) W8 := ⟨V', hL', Ob.News.safe2 HS.out.2.1.fit.dflt hnm D8 (fun j hj => by have := hFm j hj; omega), Ob.News.safe2 HS.out.2.1.fit.dflt HN1.out N8 (fun j hj => by have := hFm j hj; have := HB13.out.size; omega)⟩
    refine ⟨L', V, rfl, ev1, mev', (.slice (some ⟨g2, 0, none⟩) ml.length cl), TK, S8, M8, ?_, F8, EvTo.trans hw3 (EvTo.refl _ _) E4, EvTo.trans (Nat.le_trans hw3 s34) (EvTo.refl _ _) EM5, fun g hg => .inr hg, Apart.next HAP.out s34 s45 (Nat.lt_of_lt_of_le hpw hw3) (Nat.lt_of_lt_of_le hbw hw3) (Nat.lt_of_lt_of_le hmw hw3) (fun g hg => Nat.lt_of_lt_of_le (hevw g hg) hw3) (fun g hg => Nat.lt_of_lt_of_le (hmevw g hg) hw3) (fun g hg => Nat.lt_of_lt_of_le (HF.out.2.2.1.lt g hg).2 hw3) (E4.alt fun g hg => (H5.out.1.evGe hg).2) (EM5.alt HML.out) (fun g hg => .inl hg)⟩
    rw [List.length_set]
    exact o7
end Go.Proofs.Ytlhaiflebigdlaa
end
section
namespace Go.Proofs.Mem
open Go.RowKit
set_option linter.unusedVariables false
/-- What an object holds, its rows' values apart. -/
def nf (o : Ob) : Ob := o.reval fun _ => .slice none 0 0
theorem nf_reval (o : Ob) (V : Nat → Value) : nf (o.reval V) = nf o := rfl
theorem nf_ver {o o' : Ob} (h : nf o = nf o') : o.version = o'.version := (congrArg Ob.version h : (nf o).version = (nf o').version)
def keys (ml : List Ob) : List (Int × ByteArray) := ml.map fun x => (x.kind, x.name)
theorem isOb_iff {kind : Int} {name : ByteArray} {x : Ob} : isOb kind name x = true ↔ (x.kind, x.name) = (kind, name) := by
  unfold isOb
  simp [Bool.and_eq_true]
theorem findN_none {kind : Int} {name : ByteArray} {ml : List Ob} (h : findN kind name ml = none) : (kind, name) ∉ keys ml := by
  unfold findN at h
  rw [List.findIdx?_eq_none_iff] at h
  intro hm
  obtain ⟨x, hx, e⟩ := List.mem_map.1 hm
  have := h x hx
  rw [isOb_iff.2 e] at this
  cases this
theorem findN_some {kind : Int} {name : ByteArray} {ml : List Ob} {i : Nat} (h : findN kind name ml = some i) : ∃ hi : i < ml.length, ml[i].kind = kind ∧ ml[i].name = name := by
  unfold findN at h
  rw [List.findIdx?_eq_some_iff_getElem] at h
  obtain ⟨hi, h1, _⟩ := h
  have := isOb_iff.1 h1
  injection this with h2 h3
  exact ⟨hi, h2, h3⟩
theorem findI_neg {kind : Int} {name : ByteArray} {ml : List Ob} (h : findN kind name ml = none) : findI kind name ml = -1 := by
  unfold findI
  rw [h]
theorem findI_pos {kind : Int} {name : ByteArray} {ml : List Ob} {i : Nat} (h : findN kind name ml = some i) : findI kind name ml = (i : Int) := by
  unfold findI
  rw [h]
end Go.Proofs.Mem
namespace Go.Proofs.Ytlhaiflebigdlaa
open Go.RowKit Go.Proofs.Mem
set_option linter.unusedVariables false
set_option linter.unusedSimpArgs false
theorem bodyPost_mono {P : Program} {fn : Func} {R R' : Ending → World → Prop} (h : ∀ e w, R e w → R' e w) : ∀ e a w, bodyPost P fn R e a w → bodyPost P fn R' e a w := by
  intro e a w he
  cases e with
  | normal => exact ⟨he.1, he.2.choose, he.2.choose_spec.1, h _ _ he.2.choose_spec.2⟩
  | ret => exact ⟨he.1, he.2.choose, he.2.choose_spec.1, h _ _ he.2.choose_spec.2⟩
  | panic c => exact ⟨he.1, h _ _ he.2⟩
  | outgrown => exact h _ _ he
  | _ => exact he
theorem ver0 : Z47[2]? = some (.int .u64 (0 : Nat)) := rfl
/-- A key that may be: its kind and its name. -/
def KeyOk (k : Int × ByteArray) : Prop := (Lit.int .i64 k.1).wf = true ∧ k.2.size ≤ maxLen
theorem kOf_ne {k k' : Int × ByteArray} (h : KeyOk k) (h' : KeyOk k') (hne : k ≠ k') : kOf k.1 k.2 ≠ kOf k'.1 k'.2 := fun e => hne (Prod.ext (kOf_inj h.1 h'.1 h.2 h'.2 e).1 (kOf_inj h.1 h'.1 h.2 h'.2 e).2)
theorem Ob.Ok.keyOk {x : Ob} {w : World} (h : x.Ok w) : KeyOk (x.kind, x.name) := ⟨h.kind, Nat.le_trans h.name reach_max⟩
/-- At a key of the map stands what an object says. -/
def StandsO (D : DataW Value) (F : Nat → Prop) (w : World) (x : Ob) : Prop := Maps.has D (kOf x.kind x.name) = true ∧ ∃ y, valAt D (kOf x.kind x.name) (.agg Z47) = .agg y.cells.toArray ∧ y.Safe F w ∧ nf y = nf x
structure Rel8 (B : Nat) (w : World) (p b n : Nat) (D : DataW Value) (most : Int) (now : Nat) (ev : Value) (evs : List Ev) (mb : Nat) (lv mev : Value) (mevs : List Ev) (ml : List Ob) : Prop where
  st : StIs w p b n D most now ev evs
  md : MdIs w mb lv now mev mevs
  row : w.ownsRow (mb + 1) 56 47 lv ml.length (ml.flatMap Ob.cells)
  ap : Apart p b mb ev mev lv
  low : B ≤ b ∧ B ≤ p ∧ B ≤ mb
  safe : ∀ x ∈ ml, x.Safe (PF p b mb ev mev lv) w
  size : Maps.size D = ml.length
  at1 : ∀ x ∈ ml, StandsO D (PF p b mb ev mev lv) w x
  at0 : ∀ k, KeyOk k → k ∉ keys ml → Maps.has D (kOf k.1 k.2) = false
  uniq : (keys ml).Nodup
section
variable {B : Nat} {w w' : World} {p b n : Nat} {D : DataW Value} {most : Int} {now : Nat} {ev : Value} {evs : List Ev} {mb : Nat} {lv mev : Value} {mevs : List Ev} {ml : List Ob}
theorem pf_low (R : Rel8 B w p b n D most now ev evs mb lv mev mevs ml) {j : Nat} (h : PF p b mb ev mev lv j) : B ≤ j := by
  obtain ⟨h1, h2, h3⟩ := R.low
  rcases h with rfl | rfl | rfl | h | h | h
  · exact h2
  · exact h1
  · exact h3
  · have := (R.st.evGe h).1; omega
  · have := (R.md.evGe h).1; omega
  · have := (R.row.lt j h).1; omega
theorem pf_lt (R : Rel8 B w p b n D most now ev evs mb lv mev mevs ml) {j : Nat} (h : PF p b mb ev mev lv j) : j < w.heap.size := by
  rcases h with rfl | rfl | rfl | h | h | h
  · exact R.st.2.1.lt
  · have := R.st.1; have := R.st.2.1.lt; omega
  · exact R.md.1.lt
  · exact (R.st.evGe h).2
  · exact (R.md.evGe h).2
  · exact (R.row.lt j h).2
theorem Rel8.below (R : Rel8 B w p b n D most now ev evs mb lv mev mevs ml) (hb : Below w.heap.size w w') : Rel8 B w' p b n D most now ev evs mb lv mev mevs ml where
  st := R.st.below hb
  md := R.md.below hb
  row := own_below R.row hb
  ap := R.ap
  low := R.low
  safe := fun x hx => (R.safe x hx).tch (Tch.of_below (F := PF p b mb ev mev lv) hb) fun _ _ h => h
  size := R.size
  at1 := fun x hx => by
    obtain ⟨h1, y, h2, h3, h4⟩ := R.at1 x hx
    exact ⟨h1, y, h2, h3.tch (Tch.of_below (F := PF p b mb ev mev lv) hb) fun _ _ h => h, h4⟩
  at0 := R.at0
  uniq := R.uniq
theorem pf_to {w : World} {ev ev' mev mev' lv lv' : Value} (he : EvTo w ev ev') (hm : EvTo w mev mev') (hl : ∀ g, lv'.ownBlock = some g → w.heap.size ≤ g ∨ lv.ownBlock = some g) : ∀ i, i < w.heap.size → PF p b mb ev' mev' lv' i → PF p b mb ev mev lv i := by
  intro i hi h
  rcases h with h | h | h | h | h | h
  · exact .inl h
  · exact .inr (.inl h)
  · exact .inr (.inr (.inl h))
  · rcases he with e | ⟨g, hg, e⟩
    · exact .inr (.inr (.inr (.inl (e ▸ h))))
    · rw [e] at h; injection h with h; omega
  · rcases hm with e | ⟨g, hg, e⟩
    · exact .inr (.inr (.inr (.inr (.inl (e ▸ h)))))
    · rw [e] at h; injection h with h; omega
  · rcases hl i h with e | e
    · omega
    · exact .inr (.inr (.inr (.inr (.inr e))))
/-- What stands at a key: the array that the map's look-up gives. -/
theorem Rel8.look (R : Rel8 B w p b n D most now ev evs mb lv mev mevs ml) (k : Int × ByteArray) (hk : KeyOk k) :
    ∃ (Lw : Array Value) (vw : Nat), Is47 Lw ∧ Lw[2]? = some (.int .u64 vw) ∧ valAt D (kOf k.1 k.2) (.agg Z47) = .agg Lw ∧ (findN k.1 k.2 ml = none → Maps.has D (kOf k.1 k.2) = false) ∧
      (∀ i, findN k.1 k.2 ml = some i → Maps.has D (kOf k.1 k.2) = true ∧ ∃ hi : i < ml.length, (ml[i]).version = (vw : Int)) := by
  cases hf : findN k.1 k.2 ml with
  | none =>
    have h0 := R.at0 k hk (findN_none hf)
    exact ⟨Z47, 0, z47_is, ver0, valAt_not h0 _, fun _ => h0, fun i e => (by cases e)⟩
  | some i =>
    obtain ⟨hi, e1, e2⟩ := findN_some hf
    obtain ⟨h1, y, h2, h3, h4⟩ := R.at1 _ (List.getElem_mem hi)
    rw [e1, e2] at h1 h2
    have hv := version_nat h3.ok.fit
    refine ⟨y.cells.toArray, y.version.toNat, cells_is y h3.ok, ?_, h2, fun e => (by cases e), fun j e => ?_⟩
    · rw [← hv]; rfl
    · injection e with e
      subst e
      exact ⟨h1, hi, by rw [← nf_ver h4, ← hv]⟩
end
end Go.Proofs.Ytlhaiflebigdlaa
end
section
namespace Go.Proofs.Ytlhaiflebigdlaa
open Go.RowKit Go.Proofs.Mem
set_option linter.unusedVariables false
set_option linter.unusedSimpArgs false
/-- What an act does to the names that are there, and the event that tells it. -/
def KStep (ml : List Ob) (mevs : List Ev) (ml' : List Ob) (mevs' : List Ev) : Prop :=
  (ml' = ml ∧ mevs' = mevs) ∨ ∃ x : Ev, mevs' = mevs ++ [x] ∧ KeyOk (x.kind, x.name) ∧
    ((x.ty = 0 ∧ (x.kind, x.name) ∉ keys ml ∧ ∀ k, k ∈ keys ml' ↔ k ∈ keys ml ∨ k = (x.kind, x.name)) ∨
     (x.ty = 1 ∧ (x.kind, x.name) ∈ keys ml ∧ ∀ k, k ∈ keys ml' ↔ k ∈ keys ml) ∨
     (x.ty = 2 ∧ (x.kind, x.name) ∈ keys ml ∧ ∀ k, k ∈ keys ml' ↔ k ∈ keys ml ∧ k ≠ (x.kind, x.name)))
/-- A store at p and a model at mb, in blocks from B on and none of G's, that hold the objects ml and have had the events mevs. -/
def M8 (B : Nat) (G : Nat → Prop) (w : World) (p b mb : Nat) (most : Int) (ml : List Ob) (mevs : List Ev) : Prop :=
  ∃ n D now ev lv mev, Rel8 B w p b n D most now ev mevs mb lv mev mevs ml ∧ now = mevs.length ∧ n ≤ mevs.length ∧ ml.length ≤ mevs.length ∧ ∀ j, PF p b mb ev mev lv j → ¬ G j
def DoOut (B : Nat) (G : Nat → Prop) (w : World) (p b mb : Nat) (most : Int) (ml : List Ob) (mevs : List Ev) (e : Ending) (w' : World) : Prop :=
  e = .returned (.bool true) ∧ ∃ ml' mevs', KStep ml mevs ml' mevs' ∧ M8 B G w' p b mb most ml' mevs' ∧ mevs'.length ≤ mevs.length + 1 ∧ Below B w w' ∧ ∀ j, G j → w'.heap[j]? = w.heap[j]?
theorem M8.below {B : Nat} {G : Nat → Prop} {w w' : World} {p b mb : Nat} {most : Int} {ml : List Ob} {mevs : List Ev} (M : M8 B G w p b mb most ml mevs) (hb : Below w.heap.size w w') : M8 B G w' p b mb most ml mevs := by
  obtain ⟨n, D, now, ev, lv, mev, R, h⟩ := M
  exact ⟨n, D, now, ev, lv, mev, R.below hb, h⟩
theorem next_lt {evs : List Ev} (x : Ev) (h : evs.length ≤ 500) : nextEvs evs x = evs ++ [x] := by
  unfold nextEvs
  rw [if_pos (by omega)]
section
variable {B : Nat} {w w' : World} {p b n n' : Nat} {D D' : DataW Value} {most : Int} {now : Nat} {ev : Value} {mb : Nat} {lv mev : Value} {mevs : List Ev} {ml ml' : List Ob} {x : Ev} {Pq : Value → Value → Value → World → Prop} {e : Ending}
/-- What an act that is taken leaves, as a relation. -/
theorem act_rel (R : Rel8 B w p b n D most now ev mevs mb lv mev mevs ml) (hlen : mevs.length ≤ 500) (hA : ActOut w p b n' D' most now ev mevs mb lv mev mevs ml' x Pq e w') (hB : B ≤ w.heap.size)
    (hsize : Maps.size D' = ml'.length) (huniq : (keys ml').Nodup) (h0 : ∀ k, KeyOk k → k ∉ keys ml' → Maps.has D' (kOf k.1 k.2) = false)
    (h1 : ∀ ev' mev' lv', Pq ev' mev' lv' w' → ∀ z ∈ ml', (z ∈ ml ∧ Maps.has D' (kOf z.kind z.name) = Maps.has D (kOf z.kind z.name) ∧ valAt D' (kOf z.kind z.name) (.agg Z47) = valAt D (kOf z.kind z.name) (.agg Z47)) ∨ (z.Safe (PF p b mb ev' mev' lv') w' ∧ StandsO D' (PF p b mb ev' mev' lv') w' z)) :
    e = .returned (.bool true) ∧ Below B w w' ∧ (∀ j, j < w.heap.size → ¬ PF p b mb ev mev lv j → w'.heap[j]? = w.heap[j]?) ∧ ∃ ev' lv' mev', Rel8 B w' p b n' D' most (now + 1) ev' (mevs ++ [x]) mb lv' mev' (mevs ++ [x]) ml' ∧ ∀ i, i < w.heap.size → PF p b mb ev' mev' lv' i → PF p b mb ev mev lv i := by
  obtain ⟨he, ev', mev', lv', hP, S, M, row, T, E, EM, EL, A⟩ := hA
  rw [next_lt x hlen] at S
  have hto := pf_to (p := p) (b := b) (mb := mb) E EM EL
  refine ⟨he, T.low hB fun i hi => pf_low R hi, T.2.2.2.2, ev', lv', mev', ⟨S, M, row, A, R.low, fun z hz => ?_, hsize, fun z hz => ?_, h0, huniq⟩, hto⟩
  · rcases h1 ev' mev' lv' hP z hz with ⟨hm, _, _⟩ | ⟨hs, _⟩
    · exact (R.safe z hm).tch T hto
    · exact hs
  · rcases h1 ev' mev' lv' hP z hz with ⟨hm, e1, e2⟩ | ⟨_, hs⟩
    · obtain ⟨g1, y, g2, g3, g4⟩ := R.at1 z hm
      exact ⟨e1.trans g1, y, e2.trans g2, g3.tch T hto, g4⟩
    · exact hs
end
theorem dflt_ver (o : Ob) (V V' : Nat → Value) (v : Int) : nf ⟨o.kind, o.name, v, (o.dflt.reval V').w, (o.dflt.reval V').p, (o.dflt.reval V').n, (o.dflt.reval V').g, (o.dflt.reval V').h⟩ = nf ⟨o.kind, o.name, v, (o.dflt.reval V).w, (o.dflt.reval V).p, (o.dflt.reval V).n, (o.dflt.reval V).g, (o.dflt.reval V).h⟩ := rfl
/-- Another version, and (as they are) kind and name. -/
theorem safe_ver {o d : Ob} {F : Nat → Prop} {w : World} (h : d.Safe F w) (v : Int) (hv : wfi .u64 v) (ek : d.kind = o.kind) (en : d.name = o.name) : (Ob.mk o.kind o.name v d.w d.p d.n d.g d.h).Safe F w := by
  obtain ⟨ho, ha⟩ := h
  refine ⟨⟨ek ▸ ho.kind, en ▸ ho.name, hv, ho.w, ho.p, ho.n, ho.g, ho.h⟩, fun k hk u e => ha k hk u ?_⟩
  simp only [rowsAt, List.mem_cons, List.not_mem_nil, or_false] at hk
  rcases hk with rfl | rfl | rfl | rfl | rfl | rfl | rfl | rfl | rfl | rfl | rfl | rfl | rfl | rfl <;> exact e
theorem keys_append (l l' : List Ob) : keys (l ++ l') = keys l ++ keys l' := List.map_append
theorem putL_dflt (o : Ob) (V : Nat → Value) (v : Nat) : putL (o.dflt.reval V).cells.toArray v = (Ob.mk o.kind o.name (v : Int) (o.dflt.reval V).w (o.dflt.reval V).p (o.dflt.reval V).n (o.dflt.reval V).g (o.dflt.reval V).h).cells.toArray := by
  unfold putL
  have e1 : (o.dflt.reval V).kind = o.kind := dflt_kind o
  have e2 : (o.dflt.reval V).name = o.name := dflt_name o
  apply Array.toList_inj.1
  rw [cells_ver, e1, e2]
theorem wf_now {v : Nat} (h : v ≤ 1000000) : wfi .u64 ((v : Nat) : Int) := by
  have h1 : IntKind.u64.min = 0 := rfl
  have h2 : IntKind.u64.max = 18446744073709551615 := rfl
  unfold wfi Lit.wf
  rw [Bool.and_eq_true, decide_eq_true_eq, decide_eq_true_eq]
  omega
end Go.Proofs.Ytlhaiflebigdlaa
end
section
namespace Go.Proofs.Ytlhaiflebigdlaa
open Go.RowKit Go.Proofs.Mem
set_option linter.unusedVariables false
set_option linter.unusedSimpArgs false
theorem key_inj {ml : List Ob} (h : (keys ml).Nodup) {i j : Nat} (hi : i < ml.length) (hj : j < ml.length) (e : (ml[i].kind, ml[i].name) = (ml[j].kind, ml[j].name)) : i = j := by
  have h1 : (keys ml)[i]'(by simpa [keys] using hi) = (keys ml)[j]'(by simpa [keys] using hj) := by simpa [keys] using e
  have h2 := List.pairwise_iff_getElem.1 h
  rcases Nat.lt_trichotomy i j with hij | hij | hij
  · exact absurd h1 (h2 i j (by simpa [keys] using hi) (by simpa [keys] using hj) hij)
  · exact hij
  · exact absurd h1.symm (h2 j i (by simpa [keys] using hj) (by simpa [keys] using hi) hij)
theorem mem_keys {ml : List Ob} {x : Ob} (h : x ∈ ml) : (x.kind, x.name) ∈ keys ml := List.mem_map.2 ⟨x, h, rfl⟩
section
variable {B : Nat} {w w' : World} {p b n : Nat} {D : DataW Value} {most : Int} {now : Nat} {ev : Value} {mb : Nat} {lv mev : Value} {mevs : List Ev} {ml : List Ob} {e : Ending} {o : Ob} {G : Nat → Prop}
theorem rel_create (R : Rel8 B w p b n D most now ev mevs mb lv mev mevs ml) (hnow : now = mevs.length) (hn : n ≤ mevs.length) (hml : ml.length ≤ mevs.length) (hlen : mevs.length ≤ 500) (hB : B ≤ w.heap.size) (hG : ∀ j, G j → j < w.heap.size) (hGP : ∀ j, PF p b mb ev mev lv j → ¬ G j) (hk : KeyOk (o.kind, o.name)) (hno : (o.kind, o.name) ∉ keys ml)
    (h : CrOut w p b n D most now ev mevs mb lv mev mevs ml o e w') : DoOut B G w p b mb most ml mevs e w' := by
  obtain ⟨L', V, hA⟩ := h
  have hD := R.st.2.2.1
  have hv : wfi .u64 ((now + 1 : Nat) : Int) := wf_now (by omega)
  have hh := R.at0 _ hk hno
  obtain ⟨he, hb, hfr, ev', lv', mev', R', hto⟩ := act_rel R hlen hA hB
    (by rw [Maps.size_put (hD.tidy stK), hh, List.length_append, R.size]; simp)
    (by
      rw [keys_append]
      refine List.nodup_append.2 ⟨R.uniq, by simp [keys], fun a ha c hc e => hno ?_⟩
      simp only [keys, List.map_cons, List.map_nil, List.mem_cons, List.not_mem_nil, or_false] at hc
      rw [← hc, ← e]
      exact ha)
    (fun k hk' h0 => by
      rw [keys_append, List.mem_append, not_or] at h0
      have hne : k ≠ (o.kind, o.name) := fun e => h0.2 (by rw [e]; simp [keys])
      rw [Maps.has_put_other (kOf_ne hk' hk hne)]
      exact R.at0 k hk' h0.1)
    (fun ev' mev' lv' hP z hz => by
      obtain ⟨V', hL', hs', hs⟩ := hP
      rcases List.mem_append.1 hz with hz | hz
      · have hne : (z.kind, z.name) ≠ (o.kind, o.name) := fun e => hno (e ▸ mem_keys hz)
        have hk2 := kOf_ne (Ob.Ok.keyOk (R.safe z hz).ok) hk hne
        exact .inl ⟨hz, Maps.has_put_other hk2 _, valAt_put_other hk2 _ _⟩
      · rw [List.mem_singleton] at hz
        subst hz
        refine .inr ⟨safe_ver hs _ hv (dflt_kind o) (dflt_name o), Maps.has_put_same hD.isMap (keyLit_kOf _ _) _, _, ?_, safe_ver (o := o) hs' ((now + 1 : Nat) : Int) hv (dflt_kind o) (dflt_name o), dflt_ver o V V' _⟩
        rw [valAt_put_same hD.isMap (keyLit_kOf _ _), hL', putL_dflt])
  refine ⟨he, _, _, .inr ⟨_, rfl, hk, .inl ⟨rfl, hno, fun k => ?_⟩⟩, ⟨_, _, _, _, _, _, R', by simp [hnow], by simp; omega, by simp; omega, fun j hj hg => hGP j (hto j (hG j hg) hj) hg⟩, by simp, hb, fun j hj => hfr j (hG j hj) fun hp => hGP j hp hj⟩
  rw [keys_append, List.mem_append]
  simp [keys]
theorem rel_update (R : Rel8 B w p b n D most now ev mevs mb lv mev mevs ml) (hnow : now = mevs.length) (hn : n ≤ mevs.length) (hml : ml.length ≤ mevs.length) (hlen : mevs.length ≤ 500) (hB : B ≤ w.heap.size) (hG : ∀ j, G j → j < w.heap.size) (hGP : ∀ j, PF p b mb ev mev lv j → ¬ G j) (hk : KeyOk (o.kind, o.name)) (i : Nat) (hi : i < ml.length) (hki : ml[i].kind = o.kind) (hni : ml[i].name = o.name)
    (h : UpOut w p b n D most now ev mevs mb lv mev mevs ml i o e w') : DoOut B G w p b mb most ml mevs e w' := by
  obtain ⟨L', V, hA⟩ := h
  have hD := R.st.2.2.1
  have hv : wfi .u64 ((now + 1 : Nat) : Int) := wf_now (by omega)
  have hin : (o.kind, o.name) ∈ keys ml := by
    have := mem_keys (List.getElem_mem hi)
    rwa [hki, hni] at this
  have hh : Maps.has D (kOf o.kind o.name) = true := by
    have := (R.at1 _ (List.getElem_mem hi)).1
    rwa [hki, hni] at this
  have hks : ∀ x : Ob, x.kind = o.kind → x.name = o.name → keys (ml.set i x) = keys ml := by
    intro x h1 h2
    unfold keys
    rw [List.map_set, h1, h2, ← hki, ← hni]
    have : ((fun x : Ob => (x.kind, x.name)) ml[i]) = (ml.map fun x => (x.kind, x.name))[i]'(by simpa using hi) := by simp
    exact (congrArg _ this).trans (List.set_getElem_self (by simpa using hi))
  obtain ⟨he, hb, hfr, ev', lv', mev', R', hto⟩ := act_rel R hlen hA hB
    (by rw [Maps.size_put (hD.tidy stK), hh, List.length_set, R.size]; simp)
    (by
      rw [hks]
      · exact R.uniq
      · rfl
      · rfl)
    (fun k hk' h0 => by
      rw [hks (Ob.mk o.kind o.name ((now + 1 : Nat) : Int) (o.dflt.reval V).w (o.dflt.reval V).p (o.dflt.reval V).n (o.dflt.reval V).g (o.dflt.reval V).h) rfl rfl] at h0
      have hne : k ≠ (o.kind, o.name) := fun e => h0 (e ▸ hin)
      rw [Maps.has_put_other (kOf_ne hk' hk hne)]
      exact R.at0 k hk' h0)
    (fun ev' mev' lv' hP z hz => by
      obtain ⟨V', hL', hs', hs⟩ := hP
      obtain ⟨j, hj, ej⟩ := List.mem_iff_getElem.1 hz
      rw [List.getElem_set] at ej
      by_cases hij : i = j
      · rw [if_pos hij] at ej
        subst ej
        refine .inr ⟨safe_ver hs _ hv (dflt_kind o) (dflt_name o), Maps.has_put_same hD.isMap (keyLit_kOf _ _) _, _, ?_, safe_ver (o := o) hs' ((now + 1 : Nat) : Int) hv (dflt_kind o) (dflt_name o), dflt_ver o V V' _⟩
        rw [valAt_put_same hD.isMap (keyLit_kOf _ _), hL', putL_dflt]
      · rw [if_neg hij] at ej
        have hj' : j < ml.length := by simpa using hj
        have hzm : z ∈ ml := ej ▸ List.getElem_mem hj'
        have hne : (z.kind, z.name) ≠ (o.kind, o.name) := fun e => hij (key_inj R.uniq hi hj' (by rw [hki, hni, ej]; exact e.symm))
        have hk2 := kOf_ne (Ob.Ok.keyOk (R.safe z hzm).ok) hk hne
        exact .inl ⟨hzm, Maps.has_put_other hk2 _, valAt_put_other hk2 _ _⟩)
  refine ⟨he, _, _, .inr ⟨_, rfl, hk, .inr (.inl ⟨rfl, hin, fun k => ?_⟩)⟩, ⟨_, _, _, _, _, _, R', by simp [hnow], by simp; omega, by simp; omega, fun j hj hg => hGP j (hto j (hG j hg) hj) hg⟩, by simp, hb, fun j hj => hfr j (hG j hj) fun hp => hGP j hp hj⟩
  rw [hks (Ob.mk o.kind o.name ((now + 1 : Nat) : Int) (o.dflt.reval V).w (o.dflt.reval V).p (o.dflt.reval V).n (o.dflt.reval V).g (o.dflt.reval V).h) rfl rfl]
theorem rel_delete (R : Rel8 B w p b n D most now ev mevs mb lv mev mevs ml) (hnow : now = mevs.length) (hn : n ≤ mevs.length) (hml : ml.length ≤ mevs.length) (hlen : mevs.length ≤ 500) (hB : B ≤ w.heap.size) (hG : ∀ j, G j → j < w.heap.size) (hGP : ∀ j, PF p b mb ev mev lv j → ¬ G j) (hk : KeyOk (o.kind, o.name)) (i : Nat) (hi : i < ml.length) (hki : ml[i].kind = o.kind) (hni : ml[i].name = o.name)
    (hA : ActOut w p b n (D.del (kOf o.kind o.name)) most now ev mevs mb lv mev mevs (ml.eraseIdx i) ⟨2, o.kind, o.name, now + 1⟩ (fun _ _ _ _ => True) e w') : DoOut B G w p b mb most ml mevs e w' := by
  have hD := R.st.2.2.1
  have hin : (o.kind, o.name) ∈ keys ml := by
    have := mem_keys (List.getElem_mem hi)
    rwa [hki, hni] at this
  have hh : Maps.has D (kOf o.kind o.name) = true := by
    have := (R.at1 _ (List.getElem_mem hi)).1
    rwa [hki, hni] at this
  have hmem : ∀ k, k ∈ keys (ml.eraseIdx i) ↔ k ∈ keys ml ∧ k ≠ (o.kind, o.name) := by
    intro k
    constructor
    · intro hm
      obtain ⟨z, hz, rfl⟩ := List.mem_map.1 hm
      obtain ⟨j, hj, hji, ej⟩ := List.mem_eraseIdx_iff_getElem.1 hz
      subst ej
      exact ⟨mem_keys (List.getElem_mem hj), fun e => hji (key_inj R.uniq hj hi (by rw [hki, hni]; exact e))⟩
    · rintro ⟨hm, hne⟩
      obtain ⟨z, hz, rfl⟩ := List.mem_map.1 hm
      obtain ⟨j, hj, ej⟩ := List.mem_iff_getElem.1 hz
      refine mem_keys (List.mem_eraseIdx_iff_getElem.2 ⟨j, hj, fun e => hne ?_, ej⟩)
      subst e
      rw [← ej, hki, hni]
  obtain ⟨he, hb, hfr, ev', lv', mev', R', hto⟩ := act_rel R hlen hA hB
    (by
      have := Maps.size_del (k := kOf o.kind o.name) (hD.tidy stK)
      rw [hh, R.size] at this
      rw [List.length_eraseIdx, if_pos hi]
      simp at this
      omega)
    (R.uniq.sublist ((List.eraseIdx_sublist ml i).map _))
    (fun k hk' h0 => by
      by_cases hne : k = (o.kind, o.name)
      · subst hne
        exact Maps.has_del_same
      · rw [Maps.has_del_other (kOf_ne hk' hk hne)]
        exact R.at0 k hk' fun hm => h0 ((hmem k).2 ⟨hm, hne⟩))
    (fun ev' mev' lv' hP z hz => by
      have hk3 := ((hmem _).1 (mem_keys hz)).2
      have hzm := List.mem_of_mem_eraseIdx hz
      have hk2 := kOf_ne (Ob.Ok.keyOk (R.safe z hzm).ok) hk hk3
      exact .inl ⟨hzm, Maps.has_del_other hk2, valAt_del_other hk2 _⟩)
  exact ⟨he, _, _, .inr ⟨_, rfl, hk, .inr (.inr ⟨rfl, hin, hmem⟩)⟩, ⟨_, _, _, _, _, _, R', by simp [hnow], by simp; omega, by have := List.length_eraseIdx_le ml i; simp; omega, fun j hj hg => hGP j (hto j (hG j hg) hj) hg⟩, by simp, hb, fun j hj => hfr j (hG j hj) fun hp => hGP j hp hj⟩
end
end Go.Proofs.Ytlhaiflebigdlaa
end
section
namespace Go.Proofs.Ytlhaiflebigdlaa
open Go.RowKit Go.Proofs.Mem
set_option linter.unusedVariables false
set_option linter.unusedSimpArgs false
set_option maxRecDepth 10000
set_option maxHeartbeats 1000000 in
theorem do8_any {B : Nat} {G : Nat → Prop} {w : World} {p b mb : Nat} {most : Int} {ml : List Ob} {mevs : List Ev} (M : M8 B G w p b mb most ml mevs) (hlen : mevs.length ≤ 500) (hB : B ≤ w.heap.size) (hG : ∀ j, G j → j < w.heap.size) (ak : Int) (o : Ob) (right : Bool) (ho : o.Safe (fun j => B ≤ j) w) :
    Calls Try.prog 7 #[.pointer (some ⟨p, 0, none⟩), .pointer (some ⟨mb, 0, none⟩), .int .i64 most, .agg (actA ak o right)] w (DoOut B G w p b mb most ml mevs) := by
  obtain ⟨n, D, now, ev, lv, mev, R, hnow, hn, hml, hGP⟩ := M
  have hG3 : ∀ w3 : World, Below w.heap.size w w3 → ∀ j, G j → j < w3.heap.size := fun w3 hb j hj => Nat.lt_of_lt_of_le (hG j hj) hb.size
  refine do8_pre w p b n D most now ev mevs R.st mb lv mev mevs R.md ml R.row (fun x hx => (R.safe x hx).ok) (by omega) ak o right ho.ok _ ?_
  intro c f w3 v hc S3 M3 B3 K3 hv
  have R3 := R.below B3
  have hB3 : B ≤ w3.heap.size := Nat.le_trans hB B3.size
  have hk : KeyOk (o.kind, o.name) := Ob.Ok.keyOk ho.ok
  have hvw : wfi .u64 v := by
    rw [hv]
    unfold verOf
    cases right with
    | false => exact ho.ok.version
    | true =>
      simp only
      cases hf : findN o.kind o.name ml with
      | none => exact ho.ok.version
      | some i =>
        obtain ⟨hi, _⟩ := findN_some hf
        simp only [List.getElem?_eq_getElem hi]
        exact (R.safe _ (List.getElem_mem hi)).ok.version
  have ho3 : (Ob.mk o.kind o.name v o.w o.p o.n o.g o.h).Ok w3 := by
    have h := ho.ok.below B3
    exact ⟨h.kind, h.name, hvw, h.w, h.p, h.n, h.g, h.h⟩
  have hvo := version_nat ho3.fit
  obtain ⟨Lw, vw, hLw, hvw2, hval, hnone, hsome⟩ := R.look (o.kind, o.name) hk
  have hpl : p < w.heap.size := R.st.2.1.lt
  have hbl : b < w.heap.size := by have := R.st.1; omega
  have hml' : mb < w.heap.size := R.md.1.lt
  have hle : ∀ g, ev.ownBlock = some g → g < w.heap.size := fun g hg => (R.st.evGe hg).2
  have hlm : ∀ g, mev.ownBlock = some g → g < w.heap.size := fun g hg => (R.md.evGe hg).2
  have hqe : ev.ownBlock ≠ some w.heap.size := fun e => by have := hle _ e; omega
  have hqme : mev.ownBlock ≠ some w.heap.size := fun e => by have := hlm _ e; omega
  have same : ∀ e w', (e = .returned (.bool true) ∧ Below w3.heap.size w3 w') → DoOut B G w p b mb most ml mevs e w' := fun e w' h =>
    ⟨h.1, ml, mevs, .inl ⟨rfl, rfl⟩, ⟨n, D, now, ev, lv, mev, R3.below h.2, hnow, hn, hml, hGP⟩, by omega, (below_tr B3 h.2).mono hB, fun j hj => (below_tr B3 h.2).block j (hG j hj)⟩
  have from3 : ∀ e w', DoOut B G w3 p b mb most ml mevs e w' → DoOut B G w p b mb most ml mevs e w' := fun e w' ⟨h1, ml', mevs', h2, h3, h4, h5, h6⟩ =>
    ⟨h1, ml', mevs', h2, h3, h4, (B3.mono hB).trans h5, fun j hj => (h6 j hj).trans (B3.block j (hG j hj))⟩
  by_cases h0 : ak = 0
  · by_cases hg : errO (Ob.mk o.kind o.name v o.w o.p o.n o.g o.h).dflt = 0
    · cases hf : findN o.kind o.name ml with
      | none =>
        have hfi : findI o.kind o.name ml < 0 := by rw [findI_neg hf]; omega
        by_cases hfull : most ≤ Maps.size D
        · exact wp_mono (do8_cr_full c hc f w3 p b n D most now ev mevs S3 (by unfold maxLen; omega) (by omega) (by omega) mb _ ak _ right _ h0 ho3 K3 Lw hLw hval hg (hnone hf) hfi lv ml.length _ (M3.1.cell 0) (Sl.of_own R3.row) hfull R.size) (bodyPost_mono same)
        · refine wp_mono (do8_cr_ok c hc f w3 p b n D most now ev mevs S3 (by unfold maxLen; omega) (by omega) (by omega) mb _ ak _ right _ h0 ho3 K3 Lw hLw hval hg (hnone hf) hfi lv mev mevs ml (by omega) M3 (by omega) R3.row R.ap hfull R.size) (bodyPost_mono fun e w' h => from3 e w' ?_)
          exact rel_create (o := Ob.mk o.kind o.name v o.w o.p o.n o.g o.h) R3 hnow hn hml hlen hB3 (hG3 w3 B3) hGP hk (findN_none hf) h
      | some i =>
        have hfi : 0 ≤ findI o.kind o.name ml := by rw [findI_pos hf]; omega
        exact wp_mono (do8_cr_same c hc f w3 p b n D most now ev mevs S3 (by unfold maxLen; omega) (by omega) (by omega) mb _ ak _ right _ h0 ho3 K3 Lw hLw hval hg (hsome i hf).1 hfi) (bodyPost_mono same)
    · exact wp_mono (do8_cr_bad c hc f w3 p b n D most now ev mevs S3 (by unfold maxLen; omega) (by omega) (by omega) mb _ ak _ right _ h0 ho3 K3 Lw hLw hval hg) (bodyPost_mono same)
  · by_cases h1 : ak = 1
    · by_cases hg : errO (Ob.mk o.kind o.name v o.w o.p o.n o.g o.h).dflt = 0
      · cases hf : findN o.kind o.name ml with
        | none =>
          have hfi : findI o.kind o.name ml < 0 := by rw [findI_neg hf]; omega
          exact wp_mono (do8_up_none c hc f w3 p b n D most now ev mevs S3 (by unfold maxLen; omega) (by omega) (by omega) mb _ ak _ right _ h1 ho3 K3 Lw hLw vw hvw2 hval hg (hnone hf) hfi) (bodyPost_mono same)
        | some i =>
          obtain ⟨hh, hi, hvi⟩ := hsome i hf
          obtain ⟨_, hki, hni⟩ := findN_some hf
          by_cases hve : v = (vw : Int)
          · refine wp_mono (do8_up_ok c hc f w3 p b n D most now ev mevs S3 (by unfold maxLen; omega) (by omega) (by omega) mb _ ak _ right _ h1 ho3 K3 (by omega) (by omega) hqe Lw hLw vw hvw2 hval hg hh i (findI_pos hf) lv mev mevs ml (by omega) M3 (by omega) R3.row R.ap hi hvi hve) (bodyPost_mono fun e w' h => from3 e w' ?_)
            exact rel_update (o := Ob.mk o.kind o.name v o.w o.p o.n o.g o.h) R3 hnow hn hml hlen hB3 (hG3 w3 B3) hGP hk i hi hki hni h
          · exact wp_mono (do8_up_mism c hc f w3 p b n D most now ev mevs S3 (by unfold maxLen; omega) (by omega) (by omega) mb _ ak _ right _ h1 ho3 K3 Lw hLw vw hvw2 hval hg hh i (findI_pos hf) lv ml (M3.1.cell 0) (Sl.of_own R3.row) hi hvi hve) (bodyPost_mono same)
      · exact wp_mono (do8_up_bad c hc f w3 p b n D most now ev mevs S3 (by unfold maxLen; omega) (by omega) (by omega) mb _ ak _ right _ h1 ho3 K3 Lw hLw vw hvw2 hval hg) (bodyPost_mono same)
    · by_cases hkr : 0 ≤ o.kind ∧ o.kind < 5
      · cases hf : findN o.kind o.name ml with
        | none =>
          exact wp_mono (do8_del_none c hc f w3 p b n D most now ev mevs S3 (by omega) (by omega) mb _ ak _ right _ h0 h1 ho3 K3 (by omega) (by omega) (fun e => hqe e.symm) Lw hLw vw hvw2 hval (fun _ => ⟨hnone hf, by rw [findI_neg hf]; omega⟩)) (bodyPost_mono same)
        | some i =>
          obtain ⟨hh, hi, hvi⟩ := hsome i hf
          obtain ⟨_, hki, hni⟩ := findN_some hf
          rw [findI_pos hf]
          by_cases hve : v = 0 ∨ v = (vw : Int)
          · refine wp_mono (do8_del_ok c hc f w3 p b n D most now ev mevs S3 (by omega) (by omega) mb _ lv mev mevs M3 (by omega) ml (by omega) R3.row (fun x hx => cells_is x (R3.safe x hx).ok) R.ap ak _ right i h0 h1 ho3 K3 (by omega) (by omega) (by omega) hqe hqme hi Lw hLw vw hvw2 hval hvi hkr hh hve) (bodyPost_mono fun e w' h => from3 e w' ?_)
            exact rel_delete (o := Ob.mk o.kind o.name v o.w o.p o.n o.g o.h) R3 hnow hn hml hlen hB3 (hG3 w3 B3) hGP hk i hi hki hni h
          · exact wp_mono (do8_del_mism c hc f w3 p b n D most now ev mevs S3 (by omega) (by omega) mb _ ak _ right i h0 h1 ho3 K3 lv ml (M3.1.cell 0) (by have := B3.size; omega) (Sl.of_own R3.row) hi Lw hLw vw hvw2 hval hvi hkr hh (fun e => hve (.inl e)) (fun e => hve (.inr e))) (bodyPost_mono same)
      · exact wp_mono (do8_del_none c hc f w3 p b n D most now ev mevs S3 (by omega) (by omega) mb _ ak _ right _ h0 h1 ho3 K3 (by omega) (by omega) (fun e => hqe e.symm) Lw hLw vw hvw2 hval (fun hc => absurd hc hkr)) (bodyPost_mono same)
end Go.Proofs.Ytlhaiflebigdlaa
end
section
namespace Go.Proofs.Ytlhaiflebigdlaa
open Go.RowKit Go.Proofs.Mem
set_option linter.unusedVariables false
set_option linter.unusedSimpArgs false
structure A8 where
  k : Int
  o : Ob
  r : Bool
def A8.cells (x : A8) : List Value := [Value.int .i64 x.k] ++ x.o.cells ++ [Value.bool x.r]
theorem a8_len (x : A8) : x.cells.length = 49 := rfl
theorem a8_act (x : A8) : x.cells = (actA x.k x.o x.r).toList := rfl
def Z49 : Array Value := ([Value.int .i64 0] ++ Z47.toList ++ [Value.bool false]).toArray
theorem run_alloc49 {ev : Operand → Value} {o : Oper} (ho : o.op = .alloc 58) (w : World) : (execOp ev o).run Try.prog w = .ok (.value (.pointer (some ⟨w.heap.size, 0, none⟩))) (w.alloc (.cells Z49 58)) := by
  unfold execOp
  simp only [ho]
  unfold Z49 Z47
  go_simp
def Is49 (L : Array Value) : Prop := L.size = 49 ∧ L.toList.all (·.oneCell') = true
theorem info49 {L : Array Value} (h : L.size = 49) : (Try.prog.info? 58).map (·.size) = some L.size := by rw [h]; kernel_rfl
theorem act_is49 (ak : Int) (o : Ob) (right : Bool) (w : World) (ho : o.Ok w) : Is49 (actA ak o right) := by
  have h := (cells_is o ho).2
  refine ⟨rfl, ?_⟩
  unfold actA
  simp only [List.toList_toArray, List.all_append] at h ⊢
  rw [h]
  rfl
set_option maxHeartbeats 4000000 in
set_option maxRecDepth 100000 in
theorem few8 (w : World) (A : Option Addr) (c : Nat) (l : List A8) (hA : Sl w 49 (.slice A l.length c) l.length (l.flatMap A8.cells)) (hok : ∀ x ∈ l, x.o.Ok w) (hlen : l.length ≤ maxLen) :
    Calls Try.prog 5 #[.slice A l.length c] w fun e w' => (∃ b, e = .returned (.bool b) ∧ (b = true → l.length ≤ 60)) ∧ Below w.heap.size w w' := by
  have HU := Lib.hid (Try.underlying56)
  have HV := Lib.hid (Try.underlying58)
  have HOK := Lib.hid hok
  have hT : Try.prog.underlying 22 = some (.slice 58) := Try.underlying22
  have hml : maxLen = 9223372036854775807 := rfl
  rw [hml] at hlen
  clear hok hml
  go_enter Try.func5, Try.ntmps5
  go_wp2_with fail
  go_loopw [7] (fun iv wr => ∃ k : Nat, k ≤ l.length ∧ iv = .int .i64 k ∧ Below w.heap.size w wr) (fun iv wr => l.length - (intOf iv).toNat)
  case atStart => exact ⟨0, Nat.zero_le _, rfl, Below.refl _ _⟩
  case round =>
    obtain ⟨k, hk, rfl, hB⟩ := hrel
    by_cases hlt : k < l.length
    · obtain ⟨b1, o1, rfl, hb1, hadd1, hcell⟩ := Sl.row' (s := 49) (f := A8.cells) a8_len (by omega) (hA.below hB) k hlt
      have hr : wr.rangeAt b1 (o1 + k * 49) (l[k]).cells := fun j u hj => hcell j u hj
      have hox := (HOK.out _ (List.getElem_mem hlt)).below hB
      obtain ⟨x, hx⟩ : ∃ x : A8, x = l[k] := ⟨_, rfl⟩
      rw [← hx] at hr hox
      have hL49 := act_is49 x.k x.o x.r wr hox
      obtain ⟨L, hL⟩ : ∃ L : Array Value, L = actA x.k x.o x.r := ⟨_, rfl⟩
      rw [← hL] at hL49
      rw [a8_act, ← hL] at hr
      have hzz : Z49.size = L.size := hL49.1.symm
      have kz := Bk.new wr 58 Z49
      have kS := setCells_whole kz hzz
      have BS := below_setCells (g := wr.heap.size) L.toList 0 (hB.alloc hB.size (.cells Z49 58)) hB.size
      have bS := below_setCells (g := wr.heap.size) L.toList 0 (below_al wr (.cells Z49 58)) (Nat.le_refl _)
      obtain ⟨W2, hW2⟩ : ∃ W2, W2 = (wr.alloc (.cells Z49 58)).setCells wr.heap.size 0 L.toList := ⟨_, rfl⟩
      rw [← hW2] at kS BS bS
      have hr2 : W2.rangeAt wr.heap.size 1 x.o.cells := by
        have := range_sub kS.range 1 47
        rw [hL, actA_ob] at this
        exact this
      have d0 : W2.cell? ⟨wr.heap.size, 2, none⟩ = some (.string x.o.name) := by rw [kS.cell, hL]; rfl
      have hlen' : (L.toList.toArray) = L := by simp
      have HR := Lib.hid (And.intro hr (And.intro kz (And.intro hW2.symm (And.intro hL49 (And.intro hzz (And.intro BS (And.intro hr2 (And.intro (hox.below bS) (And.intro hlen' kS)))))))))
      have HXL := Lib.hid hL
      clear hr hox hL hL49 hzz kz kS BS bS hW2 hr2 hcell hx hlen'
      go_wp2_with (first | (refine wpl_loadat HR.out.2.2.2.2.2.2.1 rfl 56 (.tmp 11) rfl rfl _ HU.out rfl (by kernel_rfl) ?_) | (refine wpl_loadat HR.out.1 rfl 58 (.tmp 9) rfl rfl _ HV.out rfl (by simpa using info49 HR.out.2.2.2.1.1) ?_; rw [HR.out.2.2.2.2.2.2.2.2.1]) | (refine wpl_allocg rfl (run_alloc49 rfl _) ?_) | (refine wpl_storeg HR.out.2.1 HR.out.2.2.2.2.1 rfl rfl 58 (.tmp 4) (.tmp 10) rfl rfl rfl (info49 HR.out.2.2.2.1.1) HR.out.2.2.2.1.2 ?_; rw [HR.out.2.2.1]))
      refine (few_any x.o W2 HR.out.2.2.2.2.2.2.2.1).mono ?_
      rintro e w3 ⟨⟨bb, rfl⟩, b3⟩
      have B3 := below_tr HR.out.2.2.2.2.2.1 b3
      have d0' := (HR.out.2.2.2.2.2.2.2.2.2.below' b3).cell 2
      rw [HXL.out, show (actA x.k x.o x.r)[2]? = some (.string x.o.name) from rfl] at d0'
      clear d0 b3
      cases bb with
      | false =>
        go_wp2_with fail
        go_ret
        exact ⟨⟨false, rfl, fun e => by cases e⟩, B3⟩
      | true =>
        by_cases hn : x.o.name.size ≤ 100
        · have hn2 : ¬ (100 : Int) < (x.o.name.size : Int) := by omega
          have hn3 : decide ((100 : Int) < (x.o.name.size : Int)) = false := decide_eq_false hn2
          go_wp2_with fail
          exact ⟨⟨k + 1, by omega, by go_num, B3⟩, by simp [intOf]; omega⟩
        · have hn2 : (100 : Int) < (x.o.name.size : Int) := by omega
          have hn3 : decide ((100 : Int) < (x.o.name.size : Int)) = true := decide_eq_true hn2
          go_wp2_with fail
          go_ret
          exact ⟨⟨false, rfl, fun e => by cases e⟩, B3⟩
    · have hke : k = l.length := by omega
      subst hke
      go_wp2_with fail
      go_ret
      exact ⟨⟨_, rfl, fun e => by have h := of_decide_eq_true e; omega⟩, hB⟩
end Go.Proofs.Ytlhaiflebigdlaa
end
section
namespace Go.Proofs.Ytlhaiflebigdlaa
open Go.RowKit Go.Proofs.Mem
open Go.Maps (Keyed)
set_option linter.unusedVariables false
set_option linter.unusedSimpArgs false
abbrev Key := Int × ByteArray
def NamesAre (D : DataW Value) (S : Key → Prop) : Prop :=
  (∀ k : Key, KeyOk k → ∃ b : Bool, valAt D (kOf k.1 k.2) (.bool false) = .bool b ∧ (b = true ↔ S k)) ∧ ∀ kl, Maps.has D kl = true → ∃ k : Key, KeyOk k ∧ kl = kOf k.1 k.2
theorem NamesAre.congr {D : DataW Value} {S S' : Key → Prop} (h : NamesAre D S) (hs : ∀ k, S' k ↔ S k) : NamesAre D S' :=
  ⟨fun k hk => by
    obtain ⟨b, h1, h2⟩ := h.1 k hk
    exact ⟨b, h1, h2.trans (hs k).symm⟩, h.2⟩
theorem NamesAre.empty : NamesAre (.map []) fun _ => False := ⟨fun k _ => ⟨false, rfl, by simp⟩, fun kl h => by cases h⟩
theorem NamesAre.put {D : DataW Value} {S : Key → Prop} (h : NamesAre D S) (hD : Maps.IsMap D) {x : Key} (hx : KeyOk x) (b : Bool) {S' : Key → Prop} (hin : S' x ↔ b = true) (hout : ∀ k, k ≠ x → (S' k ↔ S k)) : NamesAre (D.put (kOf x.1 x.2) (.held (.bool b))) S' := by
  refine ⟨fun k hk => ?_, fun kl hkl => ?_⟩
  · by_cases e : k = x
    · subst e
      exact ⟨b, valAt_put_same hD (keyLit_kOf _ _) _ _, hin.symm⟩
    · obtain ⟨b', h1, h2⟩ := h.1 k hk
      exact ⟨b', by rw [valAt_put_other (kOf_ne hk hx e)]; exact h1, h2.trans (hout k e).symm⟩
  · by_cases e : kl = kOf x.1 x.2
    · exact ⟨x, hx, e⟩
    · rw [Maps.has_put_other e] at hkl
      exact h.2 kl hkl
def EvStep (S : Key → Prop) (x : Ev) (S' : Key → Prop) : Prop := KeyOk (x.kind, x.name) ∧
  ((x.ty = 0 ∧ ¬ S (x.kind, x.name) ∧ ∀ k, S' k ↔ S k ∨ k = (x.kind, x.name)) ∨ (x.ty = 1 ∧ S (x.kind, x.name) ∧ ∀ k, S' k ↔ S k) ∨ (x.ty = 2 ∧ S (x.kind, x.name) ∧ ∀ k, S' k ↔ S k ∧ k ≠ (x.kind, x.name)))
def Replay : (Key → Prop) → List Ev → (Key → Prop) → Prop
  | S, [], S' => ∀ k, S' k ↔ S k
  | S, x :: r, S' => ∃ S1, EvStep S x S1 ∧ Replay S1 r S'
theorem EvStep.congr {S S0 S' : Key → Prop} {x : Ev} (h : EvStep S x S') (hs : ∀ k, S k ↔ S0 k) : EvStep S0 x S' := by
  refine ⟨h.1, ?_⟩
  rcases h.2 with ⟨h1, h2, h3⟩ | ⟨h1, h2, h3⟩ | ⟨h1, h2, h3⟩
  · exact .inl ⟨h1, fun e => h2 ((hs _).2 e), fun k => (h3 k).trans (or_congr (hs k) Iff.rfl)⟩
  · exact .inr (.inl ⟨h1, (hs _).1 h2, fun k => (h3 k).trans (hs k)⟩)
  · exact .inr (.inr ⟨h1, (hs _).1 h2, fun k => (h3 k).trans (and_congr (hs k) Iff.rfl)⟩)
theorem Replay.snoc {x : Ev} {S2 : Key → Prop} : ∀ {l : List Ev} {S S1 : Key → Prop}, Replay S l S1 → EvStep S1 x S2 → Replay S (l ++ [x]) S2
  | [], S, S1, h, hx => ⟨S2, hx.congr h, fun _ => Iff.rfl⟩
  | y :: r, S, S1, ⟨S0, h0, h⟩, hx => ⟨S0, h0, Replay.snoc h hx⟩
theorem Replay.congr {S' S'' : Key → Prop} (hs : ∀ k, S'' k ↔ S' k) : ∀ {l : List Ev} {S : Key → Prop}, Replay S l S' → Replay S l S''
  | [], _, h => fun k => (hs k).trans (h k)
  | _ :: _, _, ⟨S0, h0, h⟩ => ⟨S0, h0, Replay.congr hs h⟩
/-- What an act does, said of the names: no event, or one. -/
theorem KStep.names {ml ml' : List Ob} {mevs mevs' : List Ev} (h : KStep ml mevs ml' mevs') : (ml' = ml ∧ mevs' = mevs) ∨ ∃ x : Ev, mevs' = mevs ++ [x] ∧ EvStep (· ∈ keys ml) x (· ∈ keys ml') := by
  rcases h with h | ⟨x, h1, h2, h3⟩
  · exact .inl h
  · exact .inr ⟨x, h1, h2, h3⟩
/-- One event met: what the map says of it, and the map behind it. -/
theorem NamesAre.event {D : DataW Value} {S S' : Key → Prop} {x : Ev} (h : NamesAre D S) (hD : Maps.IsMap D) (hx : EvStep S x S') :
    (∃ b : Bool, valAt D (kOf x.kind x.name) (.bool false) = .bool b ∧ (b == (x.ty == 0)) = false) ∧ NamesAre (D.put (kOf x.kind x.name) (.held (.bool (x.ty != 2)))) S' := by
  obtain ⟨hk, hx⟩ := hx
  obtain ⟨b, h1, h2⟩ := h.1 _ hk
  refine ⟨⟨b, h1, ?_⟩, ?_⟩
  · rcases hx with ⟨e, hn, _⟩ | ⟨e, hn, _⟩ | ⟨e, hn, _⟩
    · have : b = false := by
        cases b with
        | false => rfl
        | true => exact absurd (h2.1 rfl) hn
      rw [this, e]; rfl
    · rw [h2.2 hn, e]; rfl
    · rw [h2.2 hn, e]; rfl
  · rcases hx with ⟨e, hn, hs⟩ | ⟨e, hn, hs⟩ | ⟨e, hn, hs⟩
    · rw [e]
      exact h.put hD hk _ (by rw [hs]; simp) fun k hne => by rw [hs]; simp [hne]
    · rw [e]
      exact h.put hD hk _ (by rw [hs]; simp [hn]) fun k hne => by rw [hs]
    · rw [e]
      exact h.put hD hk _ (by rw [hs]; simp) fun k hne => by rw [hs]; simp [hne]
/-- How many of these are still to come. -/
def cnt (left : Lit → Bool) (ks : List Key) : Nat := (ks.filter fun k => left (kOf k.1 k.2)).length
theorem cnt_out {left : Lit → Bool} {x : Key} (hx : KeyOk x) : ∀ ks : List Key, (∀ k ∈ ks, KeyOk k) → x ∉ ks → cnt (fun z => left z && !z.sameKey (kOf x.1 x.2)) ks = cnt left ks
  | [], _, _ => rfl
  | k :: r, h, hn => by
    have ih := cnt_out (left := left) hx r (fun k hk => h k (List.mem_cons_of_mem _ hk)) fun e => hn (List.mem_cons_of_mem _ e)
    have hne : k ≠ x := fun e => hn (by rw [e]; exact List.mem_cons_self ..)
    have hs : (kOf k.1 k.2).sameKey (kOf x.1 x.2) = false := Maps.sameKey_ne (kOf_ne (h k (List.mem_cons_self ..)) hx hne)
    unfold cnt at ih ⊢
    simp only [List.filter_cons, hs, Bool.not_false, Bool.and_true]
    split
    · rw [List.length_cons, List.length_cons, ih]
    · exact ih
theorem cnt_in {left : Lit → Bool} {x : Key} (hx : KeyOk x) (hl : left (kOf x.1 x.2) = true) : ∀ ks : List Key, (∀ k ∈ ks, KeyOk k) → ks.Nodup → x ∈ ks → cnt (fun z => left z && !z.sameKey (kOf x.1 x.2)) ks + 1 = cnt left ks
  | [], _, _, h => by cases h
  | k :: r, h, hnd, hm => by
    obtain ⟨h1, h2⟩ := List.nodup_cons.1 hnd
    by_cases e : k = x
    · subst e
      have := cnt_out (left := left) hx r (fun k hk => h k (List.mem_cons_of_mem _ hk)) h1
      unfold cnt at this ⊢
      simp only [] at this
      simp only [List.filter_cons, hl, WideAt.sameKey_self (keyLit_kOf k.1 k.2), Bool.not_true, Bool.and_false, Bool.false_eq_true, if_false, if_true, List.length_cons]
      omega
    · have hm' : x ∈ r := by
        rcases List.mem_cons.1 hm with e' | e'
        · exact absurd e'.symm e
        · exact e'
      have ih := cnt_in hx hl r (fun k hk => h k (List.mem_cons_of_mem _ hk)) h2 hm'
      have hs : (kOf k.1 k.2).sameKey (kOf x.1 x.2) = false := Maps.sameKey_ne (kOf_ne (h k (List.mem_cons_self ..)) hx e)
      unfold cnt at ih ⊢
      simp only [] at ih
      simp only [List.filter_cons, hs, Bool.not_false, Bool.and_true]
      split
      · rw [List.length_cons, List.length_cons]; omega
      · exact ih
theorem cnt_all {left : Lit → Bool} : ∀ ks : List Key, (∀ k ∈ ks, left (kOf k.1 k.2) = true) → cnt left ks = ks.length
  | [], _ => rfl
  | k :: r, h => by
    have ih := cnt_all (left := left) r fun k hk => h k (List.mem_cons_of_mem _ hk)
    unfold cnt at ih ⊢
    rw [List.filter_cons, if_pos (h k (List.mem_cons_self ..)), List.length_cons, ih, List.length_cons]
theorem cnt_none {left : Lit → Bool} (h : ∀ kl, left kl = false) : ∀ ks : List Key, cnt left ks = 0
  | [] => rfl
  | k :: r => by
    have ih := cnt_none h r
    unfold cnt at ih ⊢
    rw [List.filter_cons, if_neg (by rw [h]; simp), ih]
theorem nmK : Keyed Try.prog 62 := Keyed.of_law (deep_law_laid laidOutS (m := 100) (by omega) (of_decide_eq_true (by kernel_rfl)) (by kernel_rfl) (by kernel_rfl))
set_option maxRecDepth 100000 in
theorem keyOf_nm (k : Key) (h : KeyOk k) : keyOf Try.prog 62 (.agg #[.int .i64 k.1, .string k.2]) = some (kOf k.1 k.2) := by
  obtain ⟨kind, name⟩ := k
  obtain ⟨hk, hn⟩ := h
  simp only at hk hn
  have e2 : Try.prog.keyType 62 = true := by kernel_rfl
  have e4 : Try.prog.cellsOf 62 = 2 := by kernel_rfl
  have e5 : Try.prog.cellsOf 3 = 1 := by kernel_rfl
  have e6 : Try.prog.cellsOf 9 = 1 := by kernel_rfl
  have e7 : ∃ m, Try.prog.types.size = m + 1 := ⟨Try.prog.types.size - 1, by kernel_rfl⟩
  obtain ⟨m, hm⟩ := e7
  have h1 : ∀ m, Try.prog.keyLits (m + 2) 62 [.int .i64 kind, .string name] = some [.int .i64 kind, .string name.data.toList] := by
    intro m
    simp only [Program.keyLits, Try.underlying62]
    simp [Program.keyLits, e4, e5, e6, Try.underlying3, Try.underlying9, hk, hn]
  unfold keyOf
  rw [Try.underlying62]
  have h2 : (Value.agg #[.int .i64 kind, .string name]).formed Try.prog 62 = true := by
    simp [Value.formed, Try.underlying62, e4]
  simp only [e2, h2, Bool.and_self, if_true]
  rw [hm, show (Value.agg #[.int .i64 kind, .string name]).cells.toList = [.int .i64 kind, .string name] from rfl, show m + 1 + 1 = m + 2 from rfl, h1 m]
  rfl
/-- A key that comes out of the map is of that form. -/
theorem key_out {key : Value} {k : Key} (hk : KeyOk k) (h : keyOf Try.prog 62 key = some (kOf k.1 k.2)) : key = .agg #[.int .i64 k.1, .string k.2] := nmK.inj h (keyOf_nm k hk)
theorem slen (w : World) (p b n : Nat) (D : DataW Value) (most : Int) (now : Nat) (ev : Value) (evs : List Ev) (h : StIs w p b n D most now ev evs) : Calls Try.prog 11 #[.pointer (some ⟨p, 0, none⟩)] w fun e w' => e = .returned (.int .i64 (Maps.size D)) ∧ w' = w := by
  obtain ⟨d0, d1, d2, d3⟩ := h.cells
  go_enter Try.func11, Try.ntmps11
  go_wp2_with (refine wpl_len_map rfl _ 76 rfl 86 56 underSt b n D rfl h.2.2.1 ?_)
  go_ret
  exact ⟨rfl, rfl⟩
theorem snow (w : World) (p b n : Nat) (D : DataW Value) (most : Int) (now : Nat) (ev : Value) (evs : List Ev) (h : StIs w p b n D most now ev evs) : Calls Try.prog 8 #[.pointer (some ⟨p, 0, none⟩)] w fun e w' => e = .returned (.int .u64 now) ∧ w' = w := by
  obtain ⟨d0, d1, d2, d3⟩ := h.cells
  go_enter Try.func8, Try.ntmps8
  go_wp2_with fail
  go_ret
  exact ⟨rfl, rfl⟩
end Go.Proofs.Ytlhaiflebigdlaa
end
