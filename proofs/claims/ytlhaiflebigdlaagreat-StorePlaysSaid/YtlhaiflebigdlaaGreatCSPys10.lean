/-
  The law's act: Update, refused.; The law's act: Update, taken.; A store and the law's model beside it hold the same: what each act keeps of that; The law's act in all its ways: store and model hold the same behind it; The law's act, of any act whose rows lie below store and model: it returns true, and both hold the same behind it.; The law's act, whole: of any act whose object's rows lie below store and model it returns true, and both hold the same behind it.; The law's few: some bool comes back; true only where there are at most 60 acts.; The store's List: plain words (a store's contents, its names of a kind in order), the closure that comes back, and a key of the store's map, opened.; The kit's contract on slices.Sort at []string, laid at this dump, in plain words; The store's List: each object of a kind comes, a copy of it, in the order of names.; Whatever object may be is short: no text and no row of it is long; The law's is: what it leans on; StoreFollows: plain words: names, kept up by the events; how many are still to come
-/
import Derived.Test.YtlhaiflebigdlaaGreatCSPys9
import Derived.Test.YtlhaiflebigdlaaGreatCSPys6
import Derived.Maps.RangeWalk
import Derived.Sort.OwnSorted
import Derived.Shelf.SortM.Plain
import Derived.Shelf.SortM.SortNone
import Derived.Ground.SlgmProg
import Derived.Test.YtlhaiflebigdlaaGreatProg
import Derived.RangeFuncIn
import Derived.OwnWalkIn
import Derived.TacticsInMore
import Derived.LoopIn
import Derived.Test.YtlhaiflebigdlaaGreatCSPys7
import Derived.RangeFuncWrites
import Derived.Sort.Walk0
section
namespace Go.Proofs.YtlhaiflebigdlaaGreat
open Go.RowKit Go.Proofs.Mem
set_option linter.unusedVariables false
set_option linter.unusedSimpArgs false
set_option maxHeartbeats 8000000 in
set_option maxRecDepth 100000 in
theorem do8_up_bad (c : Code) (hc : IsRest c) (f : Nat → Value) (w : World) (p b n : Nat) (D : DataW Value) (most : Int) (now : Nat) (ev : Value) (evs : List Ev) (h : StIs w p b n D most now ev evs) (hN : n < maxLen) (hnow : now < 1000000) (hevs : evs.length ≤ 1024) (mb q : Nat) (ak : Int) (o : Ob) (right : Bool) (fi : Int) (hak : ak = 1) (ho : o.Ok w)
    (hq : Bk w q 58 (actA ak o right)) (Lw : Array Value) (hLw : Is47 Lw) (vw : Nat) (hvw : Lw[2]? = some (.int .u64 vw)) (hval : valAt D (kOf o.kind o.name) (.agg Z47) = .agg Lw) (hbad : errO o.dflt ≠ 0) :
    c.wp Tryz.prog (bodyPost Tryz.prog Tryz.f7 fun e w' => e = .returned (.bool true) ∧ Below w.heap.size w w') ⟨doF p mb most q fi f, []⟩ w := by
  obtain ⟨a0, a1, a2, a3, a4, a5⟩ := actA_is ak o right
  have c0 : w.cell? ⟨q, 0, none⟩ = some (.int .i64 ak) := by rw [hq.cell]; exact a1
  have HQ := Lib.hid hq
  have HS := Lib.hid (And.intro h (And.intro ho (And.intro hLw (And.intro hval hbad))))
  have HN := Lib.hid (And.intro hN (And.intro hnow hevs))
  have hr : w.rangeAt q 1 o.cells := by
    have := range_sub hq.range 1 47
    rwa [actA_ob] at this
  have HR := Lib.hid hr
  have HVW := Lib.hid hvw
  clear hvw
  have HU := Lib.hid (Tryz.underlying56)
  clear h hval hLw ho hq a0 a1 a2 a3 a4 a5 hbad hN hnow hevs hr
  subst hak
  obtain ⟨x, y, z, hlit⟩ := hc
  cases hlit
  unfold doF
  go_wp2_with (refine wpl_loadat HR.out rfl 56 (.tmp 148) rfl rfl _ HU.out rfl (by kernel_rfl) ?_)
  refine (vdefault_any o w HS.out.2.1).mono ?_
  rintro e w1 ⟨V, rfl, hn, b1⟩
  obtain ⟨L, hL⟩ : ∃ L : Array Value, L = (o.dflt.reval V).cells.toArray := ⟨_, rfl⟩
  have hok := HS.out.2.1.fit.dflt.ok hn
  have hi := cells_is _ hok
  rw [← hL] at hi ⊢
  have kz := Bk.new w1 56 Z47
  have hzz : Z47.size = L.size := hi.1.symm
  have k2 := setCells_whole kz hzz
  have B2 := below_setCells (g := w1.heap.size) L.toList 0 (b1.alloc b1.size (.cells Z47 56)) b1.size
  have n2 := hn.alloc (.cells Z47 56)
  obtain ⟨W2, r, hW2, hr0⟩ : ∃ W2 r, W2 = (w1.alloc (.cells Z47 56)).setCells r 0 L.toList ∧ r = w1.heap.size := ⟨_, _, rfl, rfl⟩
  have b12 : Below w1.heap.size w1 W2 := by
    rw [hW2, hr0]
    exact below_setCells (g := w1.heap.size) L.toList 0 (below_al w1 _) (Nat.le_refl _)
  rw [← hr0] at kz k2 B2
  rw [← hW2] at k2 B2
  have HL := Lib.hid (And.intro hL (And.intro hi (And.intro hzz (And.intro kz (And.intro hW2.symm (And.intro k2 (And.intro B2 (hok.below b12))))))))
  have HR0 := Lib.hid hr0.symm
  clear hL hi hzz kz k2 B2 n2 hok hn b1 b12 hW2 hr0
  go_wp2_with (first | (refine wpl_allocg rfl (run_alloc47 rfl _) ?_; rw [HR0.out]) | (refine wpl_storeg HL.out.2.2.2.1 HL.out.2.2.1 rfl rfl 56 (.tmp 12) (.tmp 150) rfl rfl rfl (info47 HL.out.2.1) HL.out.2.1.2 ?_; rw [HL.out.2.2.2.2.1]) | (refine wpl_loadg HL.out.2.2.2.2.2.1 rfl 56 (.tmp 12) rfl rfl _ HU.out rfl (info47 HL.out.2.1) ?_))
  rw [HL.out.1]
  refine (lawright_any (o.dflt.reval V) W2 HL.out.2.2.2.2.2.2.2).mono ?_
  rintro e w3 ⟨rfl, b3⟩
  rw [errO_reval, ← HL.out.1]
  have B3 := below_tr HL.out.2.2.2.2.2.2.1 b3
  have k3 := HL.out.2.2.2.2.2.1.below' b3
  have hq3 := HQ.out.below' B3
  have d0 : w3.cell? ⟨q, 0, none⟩ = some (.int .i64 1) := by rw [hq3.cell]; exact (actA_is 1 o right).2.1
  have hr3 : w3.rangeAt q 1 o.cells := by
    have := range_sub hq3.range 1 47
    rwa [actA_ob] at this
  have H3 := Lib.hid (And.intro B3 (And.intro k3 (And.intro hq3 hr3)))
  obtain ⟨er, her⟩ : ∃ er, er = errO o.dflt := ⟨_, rfl⟩
  rw [← her]
  have HER := Lib.hid her
  clear B3 k3 hq3 hr3 b3 her c0
  go_wp2_with (first | (refine wpl_loadat H3.out.2.2.2 rfl 56 (.tmp 219) rfl rfl _ HU.out rfl (by kernel_rfl) ?_))
  refine (supdate_any (HS.out.1.below H3.out.1) HN.out.1 (by have := HN.out.2.1; omega) HN.out.2.2 o (HS.out.2.1.below H3.out.1) Lw HS.out.2.2.1 vw HVW.out HS.out.2.2.2.1).mono ?_
  rintro e w4 hst
  rw [if_neg HS.out.2.2.2.2, ← HER.out] at hst
  obtain ⟨rfl, b4⟩ := hst
  have hne : er ≠ 0 := by rw [HER.out]; exact HS.out.2.2.2.2
  have hne2 : (er == 0) = false := by simpa using hne
  have hne3 : (er != 0) = true := by simpa using hne
  have H4 := Lib.hid (below_tr H3.out.1 b4)
  clear b4 d0 hne
  go_wp2_with fail
  refine wp_region_sched [0, 1, 2, 3, 4, 5, 6, 7, 8, 9, 10, 11, 12, 13, 14, 15] [] [] (fun i => !(i == 5 || i == 9 || i == 13)) (fun _ => True) (by kernel_rfl) (by kernel_rfl) (fun c a d v w h => by cases d <;> exact h) trivial fun u0 Hu => ?_
  iterate 3
    refine readsL_free (v := ?_) (by rfl) (by rfl) (fun w' => ?_) ?_
    rotate_left
    · go_simp
      with_reducible rfl
    simp only [Act.put, List.setIfInBounds_toArray, List.set_cons_zero, List.set_cons_succ, List.getElem_toArray, List.getElem_cons_succ, List.getElem_cons_zero]
  iterate 12
    refine readsL_pass (by rfl) (by rfl) ?_
    simp only [Act.put, List.setIfInBounds_toArray, List.set_cons_zero, List.set_cons_succ, List.getElem_toArray, List.getElem_cons_succ, List.getElem_cons_zero]
  refine readsL_free (v := ?_) (by rfl) (by rfl) (fun w' => ?_) ?_
  rotate_left
  · go_simp
    with_reducible rfl
  simp only [Act.put, List.setIfInBounds_toArray, List.set_cons_zero, List.set_cons_succ, List.getElem_toArray, List.getElem_cons_succ, List.getElem_cons_zero]
  refine readsL_nil ?_
  refine earlyL_nil ?_
  simp only [List.filterMap_nil]
  have HU0 : RowKit.Hid (Below w.heap.size w u0) := by
    have := H4.out.drew
    rw [← Hu.out] at this
    exact this
  clear Hu
  go_wp2_with fail
  go_ret
  exact ⟨rfl, HU0.out⟩
set_option maxHeartbeats 8000000 in
set_option maxRecDepth 100000 in
theorem do8_up_none (c : Code) (hc : IsRest c) (f : Nat → Value) (w : World) (p b n : Nat) (D : DataW Value) (most : Int) (now : Nat) (ev : Value) (evs : List Ev) (h : StIs w p b n D most now ev evs) (hN : n < maxLen) (hnow : now < 1000000) (hevs : evs.length ≤ 1024) (mb q : Nat) (ak : Int) (o : Ob) (right : Bool) (fi : Int) (hak : ak = 1) (ho : o.Ok w)
    (hq : Bk w q 58 (actA ak o right)) (Lw : Array Value) (hLw : Is47 Lw) (vw : Nat) (hvw : Lw[2]? = some (.int .u64 vw)) (hval : valAt D (kOf o.kind o.name) (.agg Z47) = .agg Lw) (hbad : errO o.dflt = 0) (hhas : Maps.has D (kOf o.kind o.name) = false) (hfi : fi < 0) :
    c.wp Tryz.prog (bodyPost Tryz.prog Tryz.f7 fun e w' => e = .returned (.bool true) ∧ Below w.heap.size w w') ⟨doF p mb most q fi f, []⟩ w := by
  obtain ⟨a0, a1, a2, a3, a4, a5⟩ := actA_is ak o right
  have c0 : w.cell? ⟨q, 0, none⟩ = some (.int .i64 ak) := by rw [hq.cell]; exact a1
  have HQ := Lib.hid hq
  have HS := Lib.hid (And.intro h (And.intro ho (And.intro hLw (And.intro hval hbad))))
  have HN := Lib.hid (And.intro hN (And.intro hnow hevs))
  have hr : w.rangeAt q 1 o.cells := by
    have := range_sub hq.range 1 47
    rwa [actA_ob] at this
  have HR := Lib.hid hr
  have HVW := Lib.hid hvw
  clear hvw
  have HU := Lib.hid (Tryz.underlying56)
  clear h hval hLw ho hq a0 a1 a2 a3 a4 a5 hbad hN hnow hevs hr
  subst hak
  obtain ⟨x, y, z, hlit⟩ := hc
  cases hlit
  unfold doF
  go_wp2_with (refine wpl_loadat HR.out rfl 56 (.tmp 148) rfl rfl _ HU.out rfl (by kernel_rfl) ?_)
  refine (vdefault_any o w HS.out.2.1).mono ?_
  rintro e w1 ⟨V, rfl, hn, b1⟩
  obtain ⟨L, hL⟩ : ∃ L : Array Value, L = (o.dflt.reval V).cells.toArray := ⟨_, rfl⟩
  have hok := HS.out.2.1.fit.dflt.ok hn
  have hi := cells_is _ hok
  rw [← hL] at hi ⊢
  have kz := Bk.new w1 56 Z47
  have hzz : Z47.size = L.size := hi.1.symm
  have k2 := setCells_whole kz hzz
  have B2 := below_setCells (g := w1.heap.size) L.toList 0 (b1.alloc b1.size (.cells Z47 56)) b1.size
  have n2 := hn.alloc (.cells Z47 56)
  obtain ⟨W2, r, hW2, hr0⟩ : ∃ W2 r, W2 = (w1.alloc (.cells Z47 56)).setCells r 0 L.toList ∧ r = w1.heap.size := ⟨_, _, rfl, rfl⟩
  have b12 : Below w1.heap.size w1 W2 := by
    rw [hW2, hr0]
    exact below_setCells (g := w1.heap.size) L.toList 0 (below_al w1 _) (Nat.le_refl _)
  rw [← hr0] at kz k2 B2
  rw [← hW2] at k2 B2
  have HL := Lib.hid (And.intro hL (And.intro hi (And.intro hzz (And.intro kz (And.intro hW2.symm (And.intro k2 (And.intro B2 (hok.below b12))))))))
  have HR0 := Lib.hid hr0.symm
  clear hL hi hzz kz k2 B2 n2 hok hn b1 b12 hW2 hr0
  go_wp2_with (first | (refine wpl_allocg rfl (run_alloc47 rfl _) ?_; rw [HR0.out]) | (refine wpl_storeg HL.out.2.2.2.1 HL.out.2.2.1 rfl rfl 56 (.tmp 12) (.tmp 150) rfl rfl rfl (info47 HL.out.2.1) HL.out.2.1.2 ?_; rw [HL.out.2.2.2.2.1]) | (refine wpl_loadg HL.out.2.2.2.2.2.1 rfl 56 (.tmp 12) rfl rfl _ HU.out rfl (info47 HL.out.2.1) ?_))
  rw [HL.out.1]
  refine (lawright_any (o.dflt.reval V) W2 HL.out.2.2.2.2.2.2.2).mono ?_
  rintro e w3 ⟨rfl, b3⟩
  rw [errO_reval, ← HL.out.1]
  have B3 := below_tr HL.out.2.2.2.2.2.2.1 b3
  have k3 := HL.out.2.2.2.2.2.1.below' b3
  have hq3 := HQ.out.below' B3
  have d0 : w3.cell? ⟨q, 0, none⟩ = some (.int .i64 1) := by rw [hq3.cell]; exact (actA_is 1 o right).2.1
  have hr3 : w3.rangeAt q 1 o.cells := by
    have := range_sub hq3.range 1 47
    rwa [actA_ob] at this
  have H3 := Lib.hid (And.intro B3 (And.intro k3 (And.intro hq3 hr3)))
  obtain ⟨er, her⟩ : ∃ er, er = errO o.dflt := ⟨_, rfl⟩
  rw [← her]
  have HER := Lib.hid her
  clear B3 k3 hq3 hr3 b3 her c0
  go_wp2_with (first | (refine wpl_loadat H3.out.2.2.2 rfl 56 (.tmp 219) rfl rfl _ HU.out rfl (by kernel_rfl) ?_))
  refine (supdate_any (HS.out.1.below H3.out.1) HN.out.1 (by have := HN.out.2.1; omega) HN.out.2.2 o (HS.out.2.1.below H3.out.1) Lw HS.out.2.2.1 vw HVW.out HS.out.2.2.2.1).mono ?_
  rintro e w4 hst
  rw [if_pos HS.out.2.2.2.2] at hst
  obtain ⟨L', wm, _, bm, hst⟩ := hst
  unfold UpdateSt at hst
  rw [if_pos hhas] at hst
  obtain ⟨rfl, b40⟩ := hst
  have b4 := below_tr bm b40
  clear b40 bm
  have hne : er = 0 := by rw [HER.out]; exact HS.out.2.2.2.2
  have H4 := Lib.hid (below_tr H3.out.1 b4)
  clear b4 d0 hhas
  subst hne
  go_wp2_with fail
  refine wp_region_sched [0, 1, 2, 3, 4, 5, 6, 7, 8, 9, 10, 11, 12, 13, 14, 15] [] [] (fun i => !(i == 5 || i == 9 || i == 13)) (fun _ => True) (by kernel_rfl) (by kernel_rfl) (fun c a d v w h => by cases d <;> exact h) trivial fun u0 Hu => ?_
  iterate 3
    refine readsL_free (v := ?_) (by rfl) (by rfl) (fun w' => ?_) ?_
    rotate_left
    · go_simp
      with_reducible rfl
    simp only [Act.put, List.setIfInBounds_toArray, List.set_cons_zero, List.set_cons_succ, List.getElem_toArray, List.getElem_cons_succ, List.getElem_cons_zero]
  iterate 12
    refine readsL_pass (by rfl) (by rfl) ?_
    simp only [Act.put, List.setIfInBounds_toArray, List.set_cons_zero, List.set_cons_succ, List.getElem_toArray, List.getElem_cons_succ, List.getElem_cons_zero]
  refine readsL_free (v := ?_) (by rfl) (by rfl) (fun w' => ?_) ?_
  rotate_left
  · go_simp
    with_reducible rfl
  simp only [Act.put, List.setIfInBounds_toArray, List.set_cons_zero, List.set_cons_succ, List.getElem_toArray, List.getElem_cons_succ, List.getElem_cons_zero]
  refine readsL_nil ?_
  refine earlyL_nil ?_
  simp only [List.filterMap_nil]
  have HU0 : RowKit.Hid (Below w.heap.size w u0) := by
    have := H4.out.drew
    rw [← Hu.out] at this
    exact this
  clear Hu
  go_wp2_with fail
  go_ret
  exact ⟨rfl, HU0.out⟩
set_option maxHeartbeats 8000000 in
set_option maxRecDepth 100000 in
theorem do8_up_mism (c : Code) (hc : IsRest c) (f : Nat → Value) (w : World) (p b n : Nat) (D : DataW Value) (most : Int) (now : Nat) (ev : Value) (evs : List Ev) (h : StIs w p b n D most now ev evs) (hN : n < maxLen) (hnow : now < 1000000) (hevs : evs.length ≤ 1024) (mb q : Nat) (ak : Int) (o : Ob) (right : Bool) (fi : Int) (hak : ak = 1) (ho : o.Ok w)
    (hq : Bk w q 58 (actA ak o right)) (Lw : Array Value) (hLw : Is47 Lw) (vw : Nat) (hvw : Lw[2]? = some (.int .u64 vw)) (hval : valAt D (kOf o.kind o.name) (.agg Z47) = .agg Lw) (hbad : errO o.dflt = 0) (hhas : Maps.has D (kOf o.kind o.name) = true) (i : Nat) (hfi : fi = (i : Int)) (lv : Value) (ml : List Ob) (hmb : w.cell? ⟨mb, 0, none⟩ = some lv) (hrow : Sl w 47 lv ml.length (ml.flatMap Ob.cells)) (hi : i < ml.length) (hvi : (ml[i]).version = (vw : Int)) (hvne : o.version ≠ (vw : Int)) :
    c.wp Tryz.prog (bodyPost Tryz.prog Tryz.f7 fun e w' => e = .returned (.bool true) ∧ Below w.heap.size w w') ⟨doF p mb most q fi f, []⟩ w := by
  obtain ⟨a0, a1, a2, a3, a4, a5⟩ := actA_is ak o right
  have c0 : w.cell? ⟨q, 0, none⟩ = some (.int .i64 ak) := by rw [hq.cell]; exact a1
  have HQ := Lib.hid hq
  have HS := Lib.hid (And.intro h (And.intro ho (And.intro hLw (And.intro hval hbad))))
  have HN := Lib.hid (And.intro hN (And.intro hnow hevs))
  have hr : w.rangeAt q 1 o.cells := by
    have := range_sub hq.range 1 47
    rwa [actA_ob] at this
  have HR := Lib.hid hr
  have HVW := Lib.hid hvw
  clear hvw
  have HU := Lib.hid (Tryz.underlying56)
  clear h hval hLw ho hq a0 a1 a2 a3 a4 a5 hbad hN hnow hevs hr
  have HF := Lib.hid (And.intro hhas (And.intro hmb (And.intro hrow (And.intro hi (And.intro (show ∀ h : i < ml.length, (ml[i]'h).version = (vw : Int) from fun _ => hvi) hvne)))))
  clear hhas hmb hrow hi hvi hvne
  subst hfi
  subst hak
  obtain ⟨x, y, z, hlit⟩ := hc
  cases hlit
  unfold doF
  go_wp2_with (refine wpl_loadat HR.out rfl 56 (.tmp 148) rfl rfl _ HU.out rfl (by kernel_rfl) ?_)
  refine (vdefault_any o w HS.out.2.1).mono ?_
  rintro e w1 ⟨V, rfl, hn, b1⟩
  obtain ⟨L, hL⟩ : ∃ L : Array Value, L = (o.dflt.reval V).cells.toArray := ⟨_, rfl⟩
  have hok := HS.out.2.1.fit.dflt.ok hn
  have hi := cells_is _ hok
  rw [← hL] at hi ⊢
  have kz := Bk.new w1 56 Z47
  have hzz : Z47.size = L.size := hi.1.symm
  have k2 := setCells_whole kz hzz
  have B2 := below_setCells (g := w1.heap.size) L.toList 0 (b1.alloc b1.size (.cells Z47 56)) b1.size
  have n2 := hn.alloc (.cells Z47 56)
  obtain ⟨W2, r, hW2, hr0⟩ : ∃ W2 r, W2 = (w1.alloc (.cells Z47 56)).setCells r 0 L.toList ∧ r = w1.heap.size := ⟨_, _, rfl, rfl⟩
  have b12 : Below w1.heap.size w1 W2 := by
    rw [hW2, hr0]
    exact below_setCells (g := w1.heap.size) L.toList 0 (below_al w1 _) (Nat.le_refl _)
  rw [← hr0] at kz k2 B2
  rw [← hW2] at k2 B2
  have HL := Lib.hid (And.intro hL (And.intro hi (And.intro hzz (And.intro kz (And.intro hW2.symm (And.intro k2 (And.intro B2 (hok.below b12))))))))
  have HR0 := Lib.hid hr0.symm
  clear hL hi hzz kz k2 B2 n2 hok hn b1 b12 hW2 hr0
  go_wp2_with (first | (refine wpl_allocg rfl (run_alloc47 rfl _) ?_; rw [HR0.out]) | (refine wpl_storeg HL.out.2.2.2.1 HL.out.2.2.1 rfl rfl 56 (.tmp 12) (.tmp 150) rfl rfl rfl (info47 HL.out.2.1) HL.out.2.1.2 ?_; rw [HL.out.2.2.2.2.1]) | (refine wpl_loadg HL.out.2.2.2.2.2.1 rfl 56 (.tmp 12) rfl rfl _ HU.out rfl (info47 HL.out.2.1) ?_))
  rw [HL.out.1]
  refine (lawright_any (o.dflt.reval V) W2 HL.out.2.2.2.2.2.2.2).mono ?_
  rintro e w3 ⟨rfl, b3⟩
  rw [errO_reval, ← HL.out.1]
  have B3 := below_tr HL.out.2.2.2.2.2.2.1 b3
  have k3 := HL.out.2.2.2.2.2.1.below' b3
  have hq3 := HQ.out.below' B3
  have d0 : w3.cell? ⟨q, 0, none⟩ = some (.int .i64 1) := by rw [hq3.cell]; exact (actA_is 1 o right).2.1
  have hr3 : w3.rangeAt q 1 o.cells := by
    have := range_sub hq3.range 1 47
    rwa [actA_ob] at this
  have H3 := Lib.hid (And.intro B3 (And.intro k3 (And.intro hq3 hr3)))
  obtain ⟨er, her⟩ : ∃ er, er = errO o.dflt := ⟨_, rfl⟩
  rw [← her]
  have HER := Lib.hid her
  clear B3 k3 hq3 hr3 b3 her c0
  go_wp2_with (first | (refine wpl_loadat H3.out.2.2.2 rfl 56 (.tmp 219) rfl rfl _ HU.out rfl (by kernel_rfl) ?_))
  refine (supdate_any (HS.out.1.below H3.out.1) HN.out.1 (by have := HN.out.2.1; omega) HN.out.2.2 o (HS.out.2.1.below H3.out.1) Lw HS.out.2.2.1 vw HVW.out HS.out.2.2.2.1).mono ?_
  rintro e w4 hst
  rw [if_pos HS.out.2.2.2.2] at hst
  obtain ⟨L', wm, _, bm, hst⟩ := hst
  obtain ⟨vn, hvn⟩ : ∃ vn : Nat, vn = o.version.toNat := ⟨_, rfl⟩
  have hvo := version_nat HS.out.2.1.fit
  rw [← hvn] at hvo
  have hnv : vn ≠ vw := by have := HF.out.2.2.2.2.2; omega
  unfold UpdateSt at hst
  rw [if_neg (by rw [HF.out.1]; simp), ← hvn, if_neg (fun e => hnv e.symm)] at hst
  obtain ⟨rfl, b40⟩ := hst
  have b4 := below_tr bm b40
  clear b40 bm
  have hne : er = 0 := by rw [HER.out]; exact HS.out.2.2.2.2
  have B4 := below_tr H3.out.1 b4
  have d3 : w4.cell? ⟨q, 3, none⟩ = some (.int .u64 (vn : Int)) := by rw [(HQ.out.below' B4).cell, ← hvo]; exact (actA_is 1 o right).2.2.2.2.1
  have dm : w4.cell? ⟨mb, 0, none⟩ = some lv := keep_cell B4 HF.out.2.1
  have R1 := HF.out.2.2.1.below B4
  have hil := HF.out.2.2.2.1
  have hvi := HF.out.2.2.2.2.1 hil
  obtain ⟨Al, cl, e1, hcl, _⟩ := id R1
  have hlv := e1
  subst hlv
  obtain ⟨b2, o2, rfl, hb2, hadd2, hcell⟩ := Sl.row' (s := 47) (f := Ob.cells) ob_len (by omega) R1 i hil
  have dv := hcell 2 (.int .u64 (vw : Int)) (by rw [← hvi]; rfl)
  have hge : (0 : Int) ≤ (i : Int) := by omega
  have hge2 : ¬ (i : Int) < 0 := by omega
  have hgel : (i : Int) < (ml.length : Int) := by omega
  have hx1 : ((vn : Int) != (vw : Int)) = true := by
    have : ¬ (vn : Int) = (vw : Int) := by omega
    simpa using this
  have H4 := Lib.hid B4
  clear b4 d0 B4 R1 e1 hcell hvi hvn hvo hnv
  subst hne
  go_wp2_with fail
  refine wp_region_sched [0, 1, 2, 3, 4, 5, 6, 7, 8, 9, 10, 11, 12, 13, 14, 15] [] [] (fun i => !(i == 5 || i == 9 || i == 13)) (fun w' => w'.cell? ⟨q, 3, none⟩ = some (.int .u64 (vn : Int)) ∧ w'.cell? ⟨mb, 0, none⟩ = some (.slice (some ⟨b2, o2, none⟩) ml.length cl) ∧ w'.cell? ⟨b2, o2 + i * 47 + 2, none⟩ = some (.int .u64 (vw : Int))) (by kernel_rfl) (by kernel_rfl) (fun c a d v w h => by cases d <;> exact h) ⟨d3, dm, dv⟩ fun u0 Hu => ?_
  iterate 16
    first
      | refine readsL_free (v := ?_) (by rfl) (by rfl) (fun w' => ?_) ?_
        rotate_left
        · go_simp
          with_reducible rfl
      | refine readsL_step (v := ?_) (by rfl) (by rfl) (by rfl) (fun w' hS => ?_) ?_
        rotate_left
        · have u1 := hS.1
          have u2 := hS.2.1
          have u3 := hS.2.2
          clear hS
          go_simp
          with_reducible rfl
    simp only [Act.put, List.setIfInBounds_toArray, List.set_cons_zero, List.set_cons_succ, List.getElem_toArray, List.getElem_cons_succ, List.getElem_cons_zero]
  refine readsL_nil ?_
  refine earlyL_nil ?_
  simp only [List.filterMap_nil]
  have HU0 : RowKit.Hid (Below w.heap.size w u0) := by
    have := H4.out.drew
    rw [← Hu.out] at this
    exact this
  clear Hu d3 dm dv
  go_wp2_with fail
  go_ret
  exact ⟨rfl, HU0.out⟩
end Go.Proofs.YtlhaiflebigdlaaGreat
end
section
namespace Go.Proofs.YtlhaiflebigdlaaGreat
open Go.RowKit Go.Proofs.Mem
set_option linter.unusedVariables false
set_option linter.unusedSimpArgs false
theorem own_parts {w : World} {base s n : Nat} {e : TypeId} {v : Value} {xs : List Value} (h : w.ownsRow base e s v n xs) (h0 : 0 < n) : ∃ g cap cur, v = .slice (some ⟨g, 0, none⟩) n cap ∧ base ≤ g ∧ Bk w g e cur ∧ n ≤ cap ∧ cap ≤ maxLen ∧ cur.size = cap * s ∧ cur.toList.take (n * s) = xs := by
  obtain ⟨_, h⟩ := h
  rcases h with ⟨_, h⟩ | ⟨g, cap, cur, hv, hb, hg, h1, h2, h3, h4⟩
  · omega
  · exact ⟨g, cap, cur, hv, hb, hg, h1, h2, h3, h4⟩
theorem own_put {α : Type} {w : World} {base s cap g : Nat} {e : TypeId} {f : α → List Value} (hf : ∀ x, (f x).length = s) (ml : List α) (h : w.ownsRow base e s (.slice (some ⟨g, 0, none⟩) ml.length cap) ml.length (ml.flatMap f)) (i : Nat) (hi : i < ml.length) (x : α) :
    (w.setCells g (i * s) (f x)).ownsRow base e s (.slice (some ⟨g, 0, none⟩) ml.length cap) ml.length ((ml.set i x).flatMap f) ∧ w.there g (i * s) s := by
  obtain ⟨g', cap', cur, hv, hb, hk, h1, h2, h3, h4⟩ := own_parts h (by omega)
  injection hv with e1 e2 e3
  injection e1 with e1
  injection e1 with e1
  subst e1
  subst e3
  have hcur : cur = (ml.flatMap f ++ cur.toList.drop (ml.length * s)).toArray := by
    apply Array.toList_inj.1
    rw [List.toList_toArray, ← h4, List.take_append_drop]
  have hle : (i + 1) * s ≤ ml.length * s := Nat.mul_le_mul_right _ hi
  rw [Nat.succ_mul] at hle
  have hle2 : ml.length * s ≤ cap * s := Nat.mul_le_mul_right _ h1
  have hr : Rw w g e f ml (cur.toList.drop (ml.length * s)) := by
    unfold Rw
    rw [← hcur]
    exact hk
  refine ⟨?_, ?_⟩
  · have h5 := (hr.put hf x i hi).bk
    have h6 := h5.own (base := base) (size := s) (n := ml.length) (c := cap) hb h1 h2 (by simp only [List.size_toArray, List.length_append, flat_len' f hf, List.length_drop, Array.length_toList, h3, List.length_set]; omega)
    have e6 : (((ml.set i x).flatMap f ++ cur.toList.drop (ml.length * s)).toArray.toList).take (ml.length * s) = (ml.set i x).flatMap f := by
      rw [List.toList_toArray, List.take_left']
      rw [flat_len' f hf, List.length_set]
    rw [e6] at h6
    exact h6
  · exact fun j hj => ⟨hr.some hf _ (by have : i * s + s ≤ ml.length * s := hle; omega), hr.frozen _⟩
theorem T3.setsP {p b : Nat} {ev : Value} {w : World} : ∀ (vs : List Value) (o : Nat) {w1 : World}, T3 p b ev w w1 → T3 p b ev w (w1.setCells p o vs)
  | [], _, _, h => h
  | v :: r, o, _, h => T3.setsP r (o + 1) (h.setP o v)
def UpOut (w : World) (p b n : Nat) (D : DataW Value) (most : Int) (now : Nat) (ev : Value) (evs : List Ev) (mb : Nat) (lv mev : Value) (mevs : List Ev) (ml : List Ob) (i : Nat) (o : Ob) (e : Ending) (w' : World) : Prop :=
  ∃ L' V, ActOut w p b (n + 1) (D.put (kOf o.kind o.name) (.held (.agg (putL L' (now + 1))))) most now ev evs mb lv mev mevs (ml.set i ⟨o.kind, o.name, ((now + 1 : Nat) : Int), (o.dflt.reval V).w, (o.dflt.reval V).p, (o.dflt.reval V).n, (o.dflt.reval V).g, (o.dflt.reval V).h⟩) ⟨1, o.kind, o.name, now + 1⟩ (Taken p b mb o L' V) e w'
set_option maxHeartbeats 8000000 in
set_option maxRecDepth 100000 in
theorem do8_up_ok (c : Code) (hc : IsRest c) (f : Nat → Value) (w : World) (p b n : Nat) (D : DataW Value) (most : Int) (now : Nat) (ev : Value) (evs : List Ev) (h : StIs w p b n D most now ev evs) (hN : n < maxLen) (hnow : now < 1000000) (hevs : evs.length ≤ 1024) (mb q : Nat) (ak : Int) (o : Ob) (right : Bool) (fi : Int) (hak : ak = 1) (ho : o.Ok w)
    (hq : Bk w q 58 (actA ak o right)) (hqp : q ≠ p) (hqb : q ≠ b) (hqe : ev.ownBlock ≠ some q) (Lw : Array Value) (hLw : Is47 Lw) (vw : Nat) (hvw : Lw[2]? = some (.int .u64 vw)) (hval : valAt D (kOf o.kind o.name) (.agg Z47) = .agg Lw) (hgood : errO o.dflt = 0) (hhas : Maps.has D (kOf o.kind o.name) = true) (i : Nat) (hfi : fi = (i : Int)) (lv mev : Value) (mevs : List Ev) (ml : List Ob) (hml : ml.length < 1000) (hm : MdIs w mb lv now mev mevs) (hmevs : mevs.length < 100000) (hrow : w.ownsRow 0 56 47 lv ml.length (ml.flatMap Ob.cells)) (hap : Apart p b mb ev mev lv) (hi : i < ml.length) (hvi : (ml[i]).version = (vw : Int)) (hveq : o.version = (vw : Int)) :
    c.wp Tryz.prog (bodyPost Tryz.prog Tryz.f7 (UpOut w p b n D most now ev evs mb lv mev mevs ml i o)) ⟨doF p mb most q fi f, []⟩ w := by
  obtain ⟨a0, a1, a2, a3, a4, a5⟩ := actA_is ak o right
  have c0 : w.cell? ⟨q, 0, none⟩ = some (.int .i64 ak) := by rw [hq.cell]; exact a1
  have HQ := Lib.hid hq
  have HS := Lib.hid (And.intro h (And.intro ho (And.intro hLw (And.intro hval hgood))))
  have HN := Lib.hid (And.intro hN (And.intro hnow hevs))
  have hr : w.rangeAt q 1 o.cells := by
    have := range_sub hq.range 1 47
    rwa [actA_ob] at this
  have HR := Lib.hid hr
  have HU := Lib.hid (Tryz.underlying56)
  clear h hval hLw ho hq a0 a1 a2 a3 a4 a5 hgood hN hnow hevs hr
  have hlen : (ml.length : Int) < 1000 := by omega
  have HF := Lib.hid (And.intro hhas (And.intro hm (And.intro hrow (And.intro (And.intro hqp (And.intro hqb hqe)) (And.intro hi (And.intro hap (And.intro hmevs hml)))))))
  have HVW := Lib.hid (And.intro hvw (And.intro (show ∀ h : i < ml.length, (ml[i]'h).version = (vw : Int) from fun _ => hvi) hveq))
  clear hhas hm hrow hi hap hmevs hml hvw hvi hveq hqp hqb hqe
  subst hfi
  subst hak
  obtain ⟨x, y, z, hlit⟩ := hc
  cases hlit
  unfold doF
  go_wp2_with (refine wpl_loadat HR.out rfl 56 (.tmp 148) rfl rfl _ HU.out rfl (by kernel_rfl) ?_)
  refine (vdefault_any o w HS.out.2.1).mono ?_
  rintro e w1 ⟨V, rfl, hn, b1⟩
  obtain ⟨L, hL⟩ : ∃ L : Array Value, L = (o.dflt.reval V).cells.toArray := ⟨_, rfl⟩
  have hok := HS.out.2.1.fit.dflt.ok hn
  have hi := cells_is _ hok
  rw [← hL] at hi ⊢
  have kz := Bk.new w1 56 Z47
  have hzz : Z47.size = L.size := hi.1.symm
  have k2 := setCells_whole kz hzz
  have B2 := below_setCells (g := w1.heap.size) L.toList 0 (b1.alloc b1.size (.cells Z47 56)) b1.size
  have n2 := hn.alloc (.cells Z47 56)
  obtain ⟨W2, r, hW2, hr0⟩ : ∃ W2 r, W2 = (w1.alloc (.cells Z47 56)).setCells r 0 L.toList ∧ r = w1.heap.size := ⟨_, _, rfl, rfl⟩
  have b12 : Below w1.heap.size w1 W2 := by
    rw [hW2, hr0]
    exact below_setCells (g := w1.heap.size) L.toList 0 (below_al w1 _) (Nat.le_refl _)
  rw [← hr0] at kz k2 B2
  rw [← hW2] at k2 B2
  have HL := Lib.hid (And.intro hL (And.intro hi (And.intro hzz (And.intro kz (And.intro hW2.symm (And.intro k2 (And.intro B2 (And.intro (hok.below b12) (And.intro b12 (hn.below b12))))))))))
  have HR0 := Lib.hid hr0.symm
  have HN1 := Lib.hid hn
  have hwr : w.heap.size ≤ r := by rw [hr0]; exact b1.size
  clear hL hi hzz kz k2 B2 n2 hok hn b1 b12 hW2 hr0
  go_wp2_with (first | (refine wpl_allocg rfl (run_alloc47 rfl _) ?_; rw [HR0.out]) | (refine wpl_storeg HL.out.2.2.2.1 HL.out.2.2.1 rfl rfl 56 (.tmp 12) (.tmp 150) rfl rfl rfl (info47 HL.out.2.1) HL.out.2.1.2 ?_; rw [HL.out.2.2.2.2.1]) | (refine wpl_loadg HL.out.2.2.2.2.2.1 rfl 56 (.tmp 12) rfl rfl _ HU.out rfl (info47 HL.out.2.1) ?_))
  rw [HL.out.1]
  refine (lawright_any (o.dflt.reval V) W2 HL.out.2.2.2.2.2.2.2.1).mono ?_
  rintro e w3 ⟨rfl, b3⟩
  rw [errO_reval, ← HL.out.1]
  have B3 := below_tr HL.out.2.2.2.2.2.2.1 b3
  have HN3 := Lib.hid (HL.out.2.2.2.2.2.2.2.2.2.below b3)
  have HB13 := Lib.hid (below_tr HL.out.2.2.2.2.2.2.2.2.1 b3)
  have k3 := HL.out.2.2.2.2.2.1.below' b3
  have hq3 := HQ.out.below' B3
  have d0 : w3.cell? ⟨q, 0, none⟩ = some (.int .i64 1) := by rw [hq3.cell]; exact (actA_is 1 o right).2.1
  have hr3 : w3.rangeAt q 1 o.cells := by
    have := range_sub hq3.range 1 47
    rwa [actA_ob] at this
  have H3 := Lib.hid (And.intro B3 (And.intro k3 (And.intro hq3 hr3)))
  obtain ⟨er, her⟩ : ∃ er, er = errO o.dflt := ⟨_, rfl⟩
  rw [← her]
  have HER := Lib.hid her
  clear B3 k3 hq3 hr3 b3 her c0
  go_wp2_with (first | (refine wpl_loadat H3.out.2.2.2 rfl 56 (.tmp 219) rfl rfl _ HU.out rfl (by kernel_rfl) ?_))
  refine (supdate_any (HS.out.1.below H3.out.1) HN.out.1 (by have := HN.out.2.1; omega) HN.out.2.2 o (HS.out.2.1.below H3.out.1) Lw HS.out.2.2.1 vw HVW.out.1 HS.out.2.2.2.1).mono ?_
  rintro e w4 hst
  rw [if_pos HS.out.2.2.2.2] at hst
  obtain ⟨L', wm, ⟨V', hL', hnm⟩, bm, hst⟩ := hst
  obtain ⟨vn, hvn⟩ : ∃ vn : Nat, vn = o.version.toNat := ⟨_, rfl⟩
  have hvo := version_nat HS.out.2.1.fit
  rw [← hvn] at hvo
  have hnv : vw = vn := by have := HVW.out.2.2; omega
  unfold UpdateSt PutSt2 at hst
  rw [if_neg (by rw [HF.out.1]; simp), ← hvn, if_pos hnv] at hst
  obtain ⟨ev1, rfl, S4, T4m, E4m⟩ := hst
  have T4 : T3 p b ev w3 w4 := (T3.of_below bm).trans (EvTo.refl _ _) T4m
  have E4 : EvTo w3 ev ev1 := EvTo.trans bm.size (EvTo.refl _ _) E4m
  have hne : er = 0 := by rw [HER.out]; exact HS.out.2.2.2.2
  obtain ⟨hap, hmevs, hml⟩ := HF.out.2.2.2.2.2
  obtain ⟨hqp, hqb, hqe⟩ := HF.out.2.2.2.1
  have hil := HF.out.2.2.2.2.1
  have hpw : p < w.heap.size := HS.out.1.2.1.lt
  have hbw : b < w.heap.size := by have := HS.out.1.1; omega
  have hmw : mb < w.heap.size := HF.out.2.1.1.lt
  have hevw : ∀ g, ev.ownBlock = some g → g < w.heap.size := fun g hg => (HS.out.1.evGe hg).2
  have hmevw : ∀ g, mev.ownBlock = some g → g < w.heap.size := fun g hg => (HF.out.2.1.evGe hg)
  have hw3 : w.heap.size ≤ w3.heap.size := H3.out.1.size
  have k4 := T4.bk H3.out.2.1 (by omega) (by omega) (fun e => by have := hevw _ e.symm; omega)
  have m4 := (HF.out.2.1.below H3.out.1).t3 T4 hap
  have r4 := own_t3 (own_below HF.out.2.2.1 H3.out.1) T4 hap.lp hap.lb hap.le
  have n4 := News.t3 HN3.out hpw hbw hevw T4
  have D4 : o.dflt.News w4 (w3.heap.size + 1) V' := News.t3 hnm (by omega) (by omega) (fun g hg => by have := hevw g hg; omega) T4m
  have HMM := Lib.hid (And.intro hL' (And.intro hnm (And.intro E4m (And.intro T4m.size bm.size))))
  have em1 : ev1.ownBlock ≠ some mb := fun e => by
    rcases E4 with h | ⟨g, hg, h⟩
    · exact hap.em (h ▸ e)
    · rw [h] at e; injection e with e; omega
  have ee1 : ∀ g, ev1.ownBlock = some g → mev.ownBlock ≠ some g := fun g hg e => by
    rcases E4 with h | ⟨g', hg', h⟩
    · exact hap.me g e (h ▸ hg)
    · rw [h] at hg; injection hg with hg; have := hmevw g e; omega
  obtain ⟨g2, cl, cur, hlv, hg2, hkg, hcl, _⟩ := own_parts r4 (by omega)
  subst hlv
  obtain ⟨b2, o2, hb2e, hb2, hadd2, hcell⟩ := Sl.row' (s := 47) (f := Ob.cells) ob_len (by omega) (Sl.of_own r4) i hil
  injection hb2e with hb2e
  injection hb2e with hb2e ho2e
  subst hb2e
  subst ho2e
  rw [Nat.zero_add] at hadd2
  have dv := hcell 2 (.int .u64 (vw : Int)) (by rw [← HVW.out.2.1 hil]; rfl)
  rw [Nat.zero_add] at dv
  have hq4 := T4.bk H3.out.2.2.1 hqp hqb (fun e => hqe e.symm)
  have d3 : w4.cell? ⟨q, 3, none⟩ = some (.int .u64 (vn : Int)) := by rw [hq4.cell, ← hvo]; exact (actA_is 1 o right).2.2.2.2.1
  have dm4 := m4.1.cell 0
  have hge : (0 : Int) ≤ (i : Int) := by omega
  have hge2 : ¬ (i : Int) < 0 := by omega
  have hgel : (i : Int) < (ml.length : Int) := by omega
  have hx1 : ((vn : Int) != (vw : Int)) = false := by
    have : (vn : Int) = (vw : Int) := by omega
    simpa using this
  have hLo : ObL L o.kind o.name o.version.toNat := DfO.obL HS.out.2.1.fit ⟨V, HL.out.1, n4⟩
  have H4 := Lib.hid (And.intro S4 (And.intro T4 (And.intro E4 (And.intro k4 (And.intro m4 (And.intro r4 (And.intro n4 (And.intro D4 (And.intro em1 ee1)))))))))
  have HLO := Lib.hid hLo
  have HAP := Lib.hid hap
  have HBD := Lib.hid (And.intro hpw (And.intro hbw (And.intro hmw (And.intro hevw (And.intro hmevw (And.intro hw3 hmevs))))))
  clear S4 T4 E4 k4 m4 r4 n4 D4 em1 ee1 hLo hL' hnm E4m T4m bm d0 hap hpw hbw hmw hevw hmevw hw3 hmevs hkg hcell hvn hvo hq4 hqp hqb hqe
  subst hne
  go_wp2_with fail
  refine wp_region_sched [0, 1, 2, 3, 4, 5, 6, 7, 8, 9, 10, 11, 12, 13, 14, 15] [] [] (fun i => !(i == 5 || i == 9 || i == 13)) (fun w' => w'.cell? ⟨q, 3, none⟩ = some (.int .u64 (vn : Int)) ∧ w'.cell? ⟨mb, 0, none⟩ = some (.slice (some ⟨g2, 0, none⟩) ml.length cl) ∧ w'.cell? ⟨g2, i * 47 + 2, none⟩ = some (.int .u64 (vw : Int))) (by kernel_rfl) (by kernel_rfl) (fun c a d v w h => by cases d <;> exact h) ⟨d3, dm4, dv⟩ fun u0 Hu => ?_
  iterate 16
    first
      | refine readsL_free (v := ?_) (by rfl) (by rfl) (fun w' => ?_) ?_
        rotate_left
        · go_simp
          with_reducible rfl
      | refine readsL_step (v := ?_) (by rfl) (by rfl) (by rfl) (fun w' hS => ?_) ?_
        rotate_left
        · have u0 := hS.1
          have u1 := hS.2.1
          have u2 := hS.2.2
          clear hS
          go_simp
          with_reducible rfl
    simp only [Act.put, List.setIfInBounds_toArray, List.set_cons_zero, List.set_cons_succ, List.getElem_toArray, List.getElem_cons_succ, List.getElem_cons_zero]
  refine readsL_nil ?_
  refine earlyL_nil ?_
  simp only [List.filterMap_nil]
  have bu0 : Below w4.heap.size w4 u0 := by
    rw [Hu.out]
    exact (Below.refl _ _).drew
  have H5 := Lib.hid (And.intro (H4.out.1.below bu0) (And.intro (H4.out.2.1.trans H4.out.2.2.1 (T3.of_below bu0)) (And.intro H4.out.2.2.1 (And.intro (H4.out.2.2.2.1.below' bu0) (And.intro (H4.out.2.2.2.2.1.below bu0) (And.intro (own_below H4.out.2.2.2.2.2.1 bu0) (And.intro (H4.out.2.2.2.2.2.2.1.below bu0) (And.intro (H4.out.2.2.2.2.2.2.2.1.below bu0) (And.intro H4.out.2.2.2.2.2.2.2.2.1 H4.out.2.2.2.2.2.2.2.2.2)))))))))
  have HBU := Lib.hid bu0.size
  clear Hu d3 dm4 dv bu0 H4
  go_wp2_with (refine wpl_loadg H5.out.2.2.2.1 rfl 56 (.tmp 12) rfl rfl _ HU.out rfl (info47 HL.out.2.1) ?_)
  refine (note8_any u0 mb _ now mev mevs H5.out.2.2.2.2.1 HAP.out.mm (by have := HN.out.2.1; omega) HBD.out.2.2.2.2.2.2 1 o.kind o.name o.version.toNat L HLO.out).mono ?_
  rintro e w5 ⟨mev', rfl, M5, TM5, EM5⟩
  obtain ⟨S4, T4, E4, k4, m4, r4, n4, D4, em1, ee1⟩ := H5.out
  obtain ⟨hpw, hbw, hmw, hevw, hmevw, hw3, hmevs⟩ := HBD.out
  have hap := HAP.out
  have k5 := TM5.bk k4 (by omega) (by omega) (fun e => by have := hmevw _ e.symm; omega)
  have S5 := S4.t3m TM5 hap.pm hap.bm hap.mp hap.mbb em1 ee1
  have r5 := own_t3 r4 TM5 hap.lm hap.lm hap.lme
  have n5 := News.t3 n4 hmw hmw hmevw TM5
  have D5 : o.dflt.News w5 (w3.heap.size + 1) V' := News.t3 D4 (by omega) (by omega) (fun g hg => by have := hmevw g hg; omega) TM5
  have c12 : w5.cell? ⟨mb, 1, none⟩ = some (.int .u64 ((now : Int) + 1)) := by
    rw [M5.1.cell]
    simp
  have c22 : w5.cell? ⟨r, 2, none⟩ = some (.int .u64 (o.version.toNat : Int)) := by rw [k5.cell]; exact HLO.out.ver
  have f22 := k5.frozen 2
  have v := Value.int .u64 ((now : Int) + 1)
  have hrm : r ≠ mb := by omega
  -- behind the store of the version
  have k6 := k5.set 2 (.int .u64 ((now : Int) + 1))
  have M6 : MdIs (w5.setCell ⟨r, 2, none⟩ (.int .u64 ((now : Int) + 1))) mb (.slice (some ⟨g2, 0, none⟩) ml.length cl) (now + 1) mev' (mevs ++ [⟨1, o.kind, o.name, now + 1⟩]) := ⟨M5.1.far (p := ⟨r, 2, none⟩) (by simp; omega) _, own_block M5.2 fun g hg => Below.heap_setCell _ _ _ _ (by
    skip
    rcases EM5 with h | ⟨g', hg', h⟩
    · have h2 := hmevw g (h ▸ hg)
      simp; omega
    · rw [h] at hg; injection hg with hg
      have h3 := k4.lt
      simp; omega)⟩
  have T6 : T3 r r (.slice none 0 0) w5 (w5.setCell ⟨r, 2, none⟩ (.int .u64 ((now : Int) + 1))) := (T3.of_below (Below.refl _ _)).setP 2 _
  have hr3 : r < w3.heap.size := H3.out.2.1.lt
  have er : ev1.ownBlock ≠ some r := fun e => by
    rcases E4 with h | ⟨g, hg, h⟩
    · have := hevw r (h ▸ e); omega
    · rw [h] at e; injection e with e; omega
  have hlvw : ∀ g, (Value.slice (some ⟨g2, 0, none⟩) ml.length cl).ownBlock = some g → g < w.heap.size := fun g hg => (HF.out.2.2.1.lt g hg).2
  have S6 := S5.t3m (mev := .slice none 0 0) T6 (by omega) (by omega) (fun e => by cases e) (fun e => by cases e) er (fun _ _ e => by cases e)
  have r6 := own_t3 r5 T6 (fun e => by have := hlvw _ e; omega) (fun e => by have := hlvw _ e; omega) (fun _ _ e => by cases e)
  have D6 : o.dflt.News (w5.setCell ⟨r, 2, none⟩ (.int .u64 ((now : Int) + 1))) (w3.heap.size + 1) V' := D5.set (by simp; omega) rfl _
  have hi2 : Is47 (L.setIfInBounds 2 (.int .u64 ((now : Int) + 1))) := HL.out.2.1.set 2 rfl
  have F2 : Tch (PF p b mb ev mev (.slice (some ⟨g2, 0, none⟩) ml.length cl)) w3 u0 := tch_t3 T4 fun j hj => ⟨fun e => hj (.inl e), fun e => hj (.inr (.inl e)), fun e => hj (.inr (.inr (.inr (.inl e.symm))))⟩
  have F3 : Tch (PF p b mb ev mev (.slice (some ⟨g2, 0, none⟩) ml.length cl)) u0 w5 := tch_t3 TM5 fun j hj => ⟨fun e => hj (.inr (.inr (.inl e))), fun e => hj (.inr (.inr (.inl e))), fun e => hj (.inr (.inr (.inr (.inr (.inl e.symm)))))⟩
  have F4 : Tch (fun j => j = r) w5 (w5.setCell ⟨r, 2, none⟩ (.int .u64 ((now : Int) + 1))) := tch_t3 T6 fun j hj => ⟨fun e => hj e, fun e => hj e, fun e => by cases e⟩
  have Fw := (((Tch.of_below (F := (PF p b mb ev mev (.slice (some ⟨g2, 0, none⟩) ml.length cl))) H3.out.1).trans F2 (fun _ _ h => h)).trans F3 (fun _ _ h => h)).trans F4 (fun i hi e => absurd e (by omega))
  have Fn : Tch (fun j => (PF p b mb ev mev (.slice (some ⟨g2, 0, none⟩) ml.length cl)) j ∨ j = r) w1 (w5.setCell ⟨r, 2, none⟩ (.int .u64 ((now : Int) + 1))) := (((Tch.of_below (F := fun j => (PF p b mb ev mev (.slice (some ⟨g2, 0, none⟩) ml.length cl)) j ∨ j = r) HB13.out).trans (F2.mono (fun _ _ h => .inl h)) (fun _ _ h => h)).trans (F3.mono (fun _ _ h => .inl h)) (fun _ _ h => h)).trans (F4.mono (fun _ _ h => .inr h)) (fun _ _ h => h)
  have N6 := News.tch HN1.out Fn (fun j hj => by
    rcases hj with (h | h | h | h | h | h) | h
    · left; omega
    · left; omega
    · left; omega
    · exact .inl (hevw j h)
    · exact .inl (hmevw j h)
    · exact .inl (hlvw j h)
    · right; rw [h]; exact Nat.le_of_eq HR0.out)
  have H6 : RowKit.Hid (∃ W6, W6 = (w5.setCell ⟨r, 2, none⟩ (.int .u64 ((now : Int) + 1))) ∧ Bk W6 r 56 (L.setIfInBounds 2 (.int .u64 ((now : Int) + 1))) ∧ MdIs W6 mb (.slice (some ⟨g2, 0, none⟩) ml.length cl) (now + 1) mev' (mevs ++ [⟨1, o.kind, o.name, now + 1⟩]) ∧ StIs W6 p b (n + 1) (D.put (kOf o.kind o.name) (.held (.agg (putL L' (now + 1))))) most (now + 1) ev1 (nextEvs evs ⟨1, o.kind, o.name, now + 1⟩) ∧ W6.ownsRow 0 56 47 (.slice (some ⟨g2, 0, none⟩) ml.length cl) ml.length (ml.flatMap Ob.cells) ∧ o.dflt.News W6 (w3.heap.size + 1) V' ∧ o.dflt.News W6 w.heap.size V ∧ Tch (PF p b mb ev mev (.slice (some ⟨g2, 0, none⟩) ml.length cl)) w W6) :=
    ⟨_, rfl, k6, M6, S6, r6, D6, N6, Fw⟩
  have HML := Lib.hid (show ∀ g, mev'.ownBlock = some g → g < w5.heap.size from fun g hg => (M5.evGe hg))
  have HE := Lib.hid (And.intro E4 (And.intro EM5 (And.intro T4.size (And.intro TM5.size (And.intro hwr (And.intro hr3 (And.intro er em1)))))))
  clear S4 T4 E4 k4 m4 r4 n4 D4 em1 ee1 k5 S5 r5 n5 D5 k6 M6 T6 S6 r6 D6 F2 F3 F4 Fw Fn N6 M5 TM5 EM5 v hpw hbw hmw hevw hmevw hw3 hmevs hap hlvw
  go_wp2_with fail
  obtain ⟨W6, hW6, k6, M6, S6, r6, D6, N6, Fw⟩ := H6
  have HWS := Lib.hid (show w5.heap.size ≤ W6.heap.size by rw [hW6]; simp [World.setCell])
  rw [← hW6]
  clear hW6 c12 c22 f22
  refine wp_region_sched [0, 1, 2, 3, 4, 5, 6] [] [7] (fun i => !(i == 3 || i == 5)) (fun w' => w'.cell? ⟨mb, 0, none⟩ = some (.slice (some ⟨g2, 0, none⟩) ml.length cl) ∧ Bk w' r 56 (L.setIfInBounds 2 (.int .u64 ((now : Int) + 1)))) (by kernel_rfl) (by kernel_rfl) (fun c a d v w h => by cases d <;> exact h) ⟨M6.1.cell 0, k6⟩ fun u1 Hu => ?_
  iterate 5
    first
      | refine readsL_free (v := ?_) (by rfl) (by rfl) (fun w' => ?_) ?_
        rotate_left
        · go_simp
          with_reducible rfl
      | refine readsL_step (v := ?_) (by rfl) (by rfl) (by rfl) (fun w' hS => ?_) ?_
        rotate_left
        · have u0 := hS.1
          clear hS
          go_simp
          with_reducible rfl
    simp only [Act.put, List.setIfInBounds_toArray, List.set_cons_zero, List.set_cons_succ, List.getElem_toArray, List.getElem_cons_succ, List.getElem_cons_zero]
  refine readsL_loadg (fun w' hS => hS.2) (by rfl) (by rfl) (by rfl) 56 (.tmp 12) rfl rfl _ HU.out rfl (info47 hi2) ?_
  simp only [Act.put, List.setIfInBounds_toArray, List.set_cons_zero, List.set_cons_succ, List.getElem_toArray, List.getElem_cons_succ, List.getElem_cons_zero]
  refine readsL_free (v := ?_) (by rfl) (by rfl) (fun w' => ?_) ?_
  rotate_left
  · go_simp
    with_reducible rfl
  simp only [Act.put, List.setIfInBounds_toArray, List.set_cons_zero, List.set_cons_succ, List.getElem_toArray, List.getElem_cons_succ, List.getElem_cons_zero]
  refine readsL_nil ?_
  refine earlyL_nil ?_
  simp only [List.filterMap_cons, List.filterMap_nil, List.getElem?_toArray, List.getElem?_cons_succ, List.getElem?_cons_zero]
  have bu : Below W6.heap.size W6 u1 := by
    rw [Hu.out]
    exact (Below.refl _ _).drew
  clear Hu
  have r7 := own_below r6 bu
  obtain ⟨o7, t7⟩ := own_put ob_len ml r7 i hil (Ob.mk o.kind o.name ((now + 1 : Nat) : Int) (o.dflt.reval V).w (o.dflt.reval V).p (o.dflt.reval V).n (o.dflt.reval V).g (o.dflt.reval V).h)
  have e1 : (o.dflt.reval V).kind = o.kind := dflt_kind o
  have e2 : (o.dflt.reval V).name = o.name := dflt_name o
  have hcv : (L.setIfInBounds 2 (.int .u64 ((now : Int) + 1))).toList = (Ob.mk o.kind o.name ((now + 1 : Nat) : Int) (o.dflt.reval V).w (o.dflt.reval V).p (o.dflt.reval V).n (o.dflt.reval V).g (o.dflt.reval V).h).cells := by
    rw [HL.out.1, cells_ver, e1, e2]
    rfl
  rw [← hcv] at o7
  have hg2w : g2 < w.heap.size ∧ g2 ≠ mb := ⟨(HF.out.2.2.1.lt g2 rfl).2, fun e => HAP.out.lm (by rw [← e]; rfl)⟩
  obtain ⟨hpw, hbw, hmw, hevw, hmevw, hw3, hmevs⟩ := HBD.out
  obtain ⟨E4, EM5, s34, s45, hwr, hr3, er, em1⟩ := HE.out
  have hap := HAP.out
  have T8 : T3 g2 g2 (.slice none 0 0) u1 (u1.setCells g2 (i * 47) (L.setIfInBounds 2 (.int .u64 ((now : Int) + 1))).toList) := T3.setsP _ _ (T3.of_below (Below.refl _ _))
  have hpg : p ≠ g2 := fun e => hap.lp (by rw [e]; rfl)
  have hbg : b ≠ g2 := fun e => hap.lb (by rw [e]; rfl)
  have heg : ev1.ownBlock ≠ some g2 := fun e => by
    rcases E4 with h | ⟨g', hg', h⟩
    · exact hap.le g2 rfl (h ▸ e)
    · rw [h] at e; injection e with e; omega
  have hmg : mev'.ownBlock ≠ some g2 := fun e => by
    rcases EM5 with h | ⟨g', hg', h⟩
    · exact hap.lme g2 rfl (h ▸ e)
    · rw [h] at e; injection e with e; omega
  have S8 := (S6.below bu).t3m T8 hpg hbg (fun e => by cases e) (fun e => by cases e) heg (fun _ _ e => by cases e)
  have M8 : MdIs (u1.setCells g2 (i * 47) (L.setIfInBounds 2 (.int .u64 ((now : Int) + 1))).toList) mb (.slice (some ⟨g2, 0, none⟩) ml.length cl) (now + 1) mev' (mevs ++ [⟨1, o.kind, o.name, now + 1⟩]) := ⟨T8.bk (M6.below bu).1 (by omega) (by omega) (fun e => by cases e), own_t3 (M6.below bu).2 T8 hmg hmg (fun _ _ e => by cases e)⟩
  have D8 := News.t3 (D6.below bu) (by omega) (by omega) (fun g hg => by cases hg) T8
  have N8 := News.t3 (N6.below bu) hg2w.1 hg2w.1 (fun g hg => by cases hg) T8
  have F8 : Tch (PF p b mb ev mev (.slice (some ⟨g2, 0, none⟩) ml.length cl)) w (u1.setCells g2 (i * 47) (L.setIfInBounds 2 (.int .u64 ((now : Int) + 1))).toList) := (Fw.trans (Tch.of_below (F := (PF p b mb ev mev (.slice (some ⟨g2, 0, none⟩) ml.length cl))) bu) (fun _ _ h => h)).trans (tch_t3 (F := (PF p b mb ev mev (.slice (some ⟨g2, 0, none⟩) ml.length cl))) T8 fun j hj => ⟨fun e => hj (.inr (.inr (.inr (.inr (.inr (by rw [e]; rfl)))))), fun e => hj (.inr (.inr (.inr (.inr (.inr (by rw [e]; rfl)))))), fun e => by cases e⟩) (fun _ _ h => h)
  obtain ⟨W8, hW8⟩ : ∃ W8, W8 = u1.setCells g2 (i * 47) (L.setIfInBounds 2 (.int .u64 ((now : Int) + 1))).toList := ⟨_, rfl⟩
  rw [← hW8] at o7 S8 M8 D8 N8 F8
  have HW8 := Lib.hid hW8.symm
  have d1 : W8.cell? ⟨mb, 1, none⟩ = some (.int .u64 ((now : Int) + 1)) := by
    rw [M8.1.cell]
    simp
  have HT := Lib.hid (And.intro (show u1.there g2 (i * 47) (L.setIfInBounds 2 (.int .u64 ((now : Int) + 1))).size by rw [hi2.1]; exact t7) hi2)
  have H8 := Lib.hid (And.intro M8 (And.intro S8 (And.intro D8 (And.intro N8 (And.intro F8 o7)))))
  clear hW8 T8 hpg hbg heg hmg S8 M8 D8 N8 F8 o7 t7 r7 hcv e1 e2 k6 M6 S6 r6 D6 N6 Fw bu hpw hbw hmw hevw hmevw hw3 hmevs E4 EM5 s34 s45 hwr hr3 er em1 hap hi2 hg2w
  refine wpList_store_mid rfl 56 (.tmp 269) (.tmp 268) rfl g2 (i * 47) (L.setIfInBounds 2 (.int .u64 ((now : Int) + 1))) rfl rfl HT.out.1 (info47 HT.out.2) (by rw [← Array.all_toList]; exact HT.out.2.2) ?_
  rw [HW8.out]
  go_wp2_with fail
  all_goals
    go_ret
    obtain ⟨M8, S8, D8, N8, F8, o7⟩ := H8.out
    obtain ⟨E4, EM5, s34, s45, hwr, hr3, er, em1⟩ := HE.out
    obtain ⟨hpw, hbw, hmw, hevw, hmevw, hw3, hmevs⟩ := HBD.out
    obtain ⟨hL', hnm, E4m, sm4, s3m⟩ := HMM.out
    have hbu0 := HBU.out
    have hFm : ∀ j, PF p b mb ev1 mev' (.slice (some ⟨g2, 0, none⟩) ml.length cl) j → j < w.heap.size ∨ wm.heap.size ≤ j := fun j hj => by
      rcases hj with rfl | rfl | rfl | h | h | h
      · exact .inl hpw
      · exact .inl hbw
      · exact .inl hmw
      · rcases E4m with e | ⟨g, hg, e⟩
        · exact .inl (hevw j (e ▸ h))
        · rw [e] at h; injection h with h; exact .inr (h ▸ hg)
      · rcases EM5 with e | ⟨g, hg, e⟩
        · exact .inl (hmevw j (e ▸ h))
        · rw [e] at h; injection h with h; right; omega
      · exact .inl ((HF.out.2.2.1.lt j h).2)
    have TK : Taken p b mb o L' V ev1 mev' (.slice (some ⟨g2, 0, none⟩) ml.length cl) W8 := ⟨V', hL', Ob.News.safe2 HS.out.2.1.fit.dflt hnm D8 (fun j hj => by have := hFm j hj; omega), Ob.News.safe2 HS.out.2.1.fit.dflt HN1.out N8 (fun j hj => by have := hFm j hj; have := HB13.out.size; omega)⟩
    refine ⟨L', V, rfl, ev1, mev', (.slice (some ⟨g2, 0, none⟩) ml.length cl), TK, S8, M8, ?_, F8, EvTo.trans hw3 (EvTo.refl _ _) E4, EvTo.trans (Nat.le_trans hw3 s34) (EvTo.refl _ _) EM5, fun g hg => .inr hg, Apart.next HAP.out s34 s45 (Nat.lt_of_lt_of_le hpw hw3) (Nat.lt_of_lt_of_le hbw hw3) (Nat.lt_of_lt_of_le hmw hw3) (fun g hg => Nat.lt_of_lt_of_le (hevw g hg) hw3) (fun g hg => Nat.lt_of_lt_of_le (hmevw g hg) hw3) (fun g hg => Nat.lt_of_lt_of_le (HF.out.2.2.1.lt g hg).2 hw3) (E4.alt fun g hg => (H5.out.1.evGe hg).2) (EM5.alt HML.out) (fun g hg => .inl hg)⟩
    rw [List.length_set]
    exact o7
end Go.Proofs.YtlhaiflebigdlaaGreat
end
section
namespace Go.Proofs.Mem
open Go.RowKit
set_option linter.unusedVariables false
def nf (o : Ob) : Ob := o.reval fun _ => .slice none 0 0
theorem nf_reval (o : Ob) (V : Nat → Value) : nf (o.reval V) = nf o := rfl
theorem nf_ver {o o' : Ob} (h : nf o = nf o') : o.version = o'.version := (congrArg Ob.version h : (nf o).version = (nf o').version)
def keys (ml : List Ob) : List (Int × ByteArray) := ml.map fun x => (x.kind, x.name)
theorem isOb_iff {kind : Int} {name : ByteArray} {x : Ob} : isOb kind name x = true ↔ (x.kind, x.name) = (kind, name) := by
  unfold isOb
  simp [Bool.and_eq_true]
theorem findN_none {kind : Int} {name : ByteArray} {ml : List Ob} (h : findN kind name ml = none) : (kind, name) ∉ keys ml := by
  unfold findN at h
  rw [List.findIdx?_eq_none_iff] at h
  intro hm
  obtain ⟨x, hx, e⟩ := List.mem_map.1 hm
  have := h x hx
  rw [isOb_iff.2 e] at this
  cases this
theorem findN_some {kind : Int} {name : ByteArray} {ml : List Ob} {i : Nat} (h : findN kind name ml = some i) : ∃ hi : i < ml.length, ml[i].kind = kind ∧ ml[i].name = name := by
  unfold findN at h
  rw [List.findIdx?_eq_some_iff_getElem] at h
  obtain ⟨hi, h1, _⟩ := h
  have := isOb_iff.1 h1
  injection this with h2 h3
  exact ⟨hi, h2, h3⟩
theorem findI_neg {kind : Int} {name : ByteArray} {ml : List Ob} (h : findN kind name ml = none) : findI kind name ml = -1 := by
  unfold findI
  rw [h]
theorem findI_pos {kind : Int} {name : ByteArray} {ml : List Ob} {i : Nat} (h : findN kind name ml = some i) : findI kind name ml = (i : Int) := by
  unfold findI
  rw [h]
end Go.Proofs.Mem
namespace Go.Proofs.YtlhaiflebigdlaaGreat
open Go.RowKit Go.Proofs.Mem
set_option linter.unusedVariables false
set_option linter.unusedSimpArgs false
theorem bodyPost_mono {P : Program} {fn : Func} {R R' : Ending → World → Prop} (h : ∀ e w, R e w → R' e w) : ∀ e a w, bodyPost P fn R e a w → bodyPost P fn R' e a w := by
  intro e a w he
  cases e with
  | normal => exact ⟨he.1, he.2.choose, he.2.choose_spec.1, h _ _ he.2.choose_spec.2⟩
  | ret => exact ⟨he.1, he.2.choose, he.2.choose_spec.1, h _ _ he.2.choose_spec.2⟩
  | panic c => exact ⟨he.1, h _ _ he.2⟩
  | outgrown => exact h _ _ he
  | _ => exact he
theorem ver0 : Z47[2]? = some (.int .u64 (0 : Nat)) := rfl
def KeyOk (k : Int × ByteArray) : Prop := (Lit.int .i64 k.1).wf = true ∧ k.2.size ≤ maxLen
theorem kOf_ne {k k' : Int × ByteArray} (h : KeyOk k) (h' : KeyOk k') (hne : k ≠ k') : kOf k.1 k.2 ≠ kOf k'.1 k'.2 := fun e => hne (Prod.ext (kOf_inj h.1 h'.1 h.2 h'.2 e).1 (kOf_inj h.1 h'.1 h.2 h'.2 e).2)
theorem Ob.Ok.keyOk {x : Ob} {w : World} (h : x.Ok w) : KeyOk (x.kind, x.name) := ⟨h.kind, Nat.le_trans h.name reach_max⟩
def StandsO (D : DataW Value) (F : Nat → Prop) (w : World) (x : Ob) : Prop := Maps.has D (kOf x.kind x.name) = true ∧ ∃ y, valAt D (kOf x.kind x.name) (.agg Z47) = .agg y.cells.toArray ∧ y.Safe F w ∧ nf y = nf x
structure Rel8 (B : Nat) (w : World) (p b n : Nat) (D : DataW Value) (most : Int) (now : Nat) (ev : Value) (evs : List Ev) (mb : Nat) (lv mev : Value) (mevs : List Ev) (ml : List Ob) : Prop where
  st : StIs w p b n D most now ev evs
  md : MdIs w mb lv now mev mevs
  row : w.ownsRow 0 56 47 lv ml.length (ml.flatMap Ob.cells)
  ap : Apart p b mb ev mev lv
  low : (B ≤ b ∧ B ≤ p ∧ B ≤ mb) ∧ (∀ g, mev.ownBlock = some g → B ≤ g) ∧ ∀ g, lv.ownBlock = some g → B ≤ g
  safe : ∀ x ∈ ml, x.Safe (PF p b mb ev mev lv) w
  size : Maps.size D = ml.length
  at1 : ∀ x ∈ ml, StandsO D (PF p b mb ev mev lv) w x
  at0 : ∀ k, KeyOk k → k ∉ keys ml → Maps.has D (kOf k.1 k.2) = false
  uniq : (keys ml).Nodup
section
variable {B : Nat} {w w' : World} {p b n : Nat} {D : DataW Value} {most : Int} {now : Nat} {ev : Value} {evs : List Ev} {mb : Nat} {lv mev : Value} {mevs : List Ev} {ml : List Ob}
theorem pf_low (R : Rel8 B w p b n D most now ev evs mb lv mev mevs ml) {j : Nat} (h : PF p b mb ev mev lv j) : B ≤ j := by
  obtain ⟨⟨h1, h2, h3⟩, h4, h5⟩ := R.low
  rcases h with rfl | rfl | rfl | h | h | h
  · exact h2
  · exact h1
  · exact h3
  · have := (R.st.evGe h).1; omega
  · exact h4 _ h
  · exact h5 _ h
theorem Rel8.below (R : Rel8 B w p b n D most now ev evs mb lv mev mevs ml) (hb : Below w.heap.size w w') : Rel8 B w' p b n D most now ev evs mb lv mev mevs ml where
  st := R.st.below hb
  md := R.md.below hb
  row := own_below R.row hb
  ap := R.ap
  low := R.low
  safe := fun x hx => (R.safe x hx).tch (Tch.of_below (F := PF p b mb ev mev lv) hb) fun _ _ h => h
  size := R.size
  at1 := fun x hx => by
    obtain ⟨h1, y, h2, h3, h4⟩ := R.at1 x hx
    exact ⟨h1, y, h2, h3.tch (Tch.of_below (F := PF p b mb ev mev lv) hb) fun _ _ h => h, h4⟩
  at0 := R.at0
  uniq := R.uniq
theorem pf_to {w : World} {ev ev' mev mev' lv lv' : Value} (he : EvTo w ev ev') (hm : EvTo w mev mev') (hl : ∀ g, lv'.ownBlock = some g → w.heap.size ≤ g ∨ lv.ownBlock = some g) : ∀ i, i < w.heap.size → PF p b mb ev' mev' lv' i → PF p b mb ev mev lv i := by
  intro i hi h
  rcases h with h | h | h | h | h | h
  · exact .inl h
  · exact .inr (.inl h)
  · exact .inr (.inr (.inl h))
  · rcases he with e | ⟨g, hg, e⟩
    · exact .inr (.inr (.inr (.inl (e ▸ h))))
    · rw [e] at h; injection h with h; omega
  · rcases hm with e | ⟨g, hg, e⟩
    · exact .inr (.inr (.inr (.inr (.inl (e ▸ h)))))
    · rw [e] at h; injection h with h; omega
  · rcases hl i h with e | e
    · omega
    · exact .inr (.inr (.inr (.inr (.inr e))))
theorem Rel8.look (R : Rel8 B w p b n D most now ev evs mb lv mev mevs ml) (k : Int × ByteArray) (hk : KeyOk k) :
    ∃ (Lw : Array Value) (vw : Nat), Is47 Lw ∧ Lw[2]? = some (.int .u64 vw) ∧ valAt D (kOf k.1 k.2) (.agg Z47) = .agg Lw ∧ (findN k.1 k.2 ml = none → Maps.has D (kOf k.1 k.2) = false) ∧
      (∀ i, findN k.1 k.2 ml = some i → Maps.has D (kOf k.1 k.2) = true ∧ ∃ hi : i < ml.length, (ml[i]).version = (vw : Int)) := by
  cases hf : findN k.1 k.2 ml with
  | none =>
    have h0 := R.at0 k hk (findN_none hf)
    exact ⟨Z47, 0, z47_is, ver0, valAt_not h0 _, fun _ => h0, fun i e => (by cases e)⟩
  | some i =>
    obtain ⟨hi, e1, e2⟩ := findN_some hf
    obtain ⟨h1, y, h2, h3, h4⟩ := R.at1 _ (List.getElem_mem hi)
    rw [e1, e2] at h1 h2
    have hv := version_nat h3.ok.fit
    refine ⟨y.cells.toArray, y.version.toNat, cells_is y h3.ok, ?_, h2, fun e => (by cases e), fun j e => ?_⟩
    · rw [← hv]; rfl
    · injection e with e
      subst e
      exact ⟨h1, hi, by rw [← nf_ver h4, ← hv]⟩
end
end Go.Proofs.YtlhaiflebigdlaaGreat
end
section
namespace Go.Proofs.YtlhaiflebigdlaaGreat
open Go.RowKit Go.Proofs.Mem
set_option linter.unusedVariables false
set_option linter.unusedSimpArgs false
def KStep (ml : List Ob) (mevs : List Ev) (ml' : List Ob) (mevs' : List Ev) : Prop :=
  (ml' = ml ∧ mevs' = mevs) ∨ ∃ x : Ev, mevs' = mevs ++ [x] ∧ KeyOk (x.kind, x.name) ∧
    ((x.ty = 0 ∧ (x.kind, x.name) ∉ keys ml ∧ ∀ k, k ∈ keys ml' ↔ k ∈ keys ml ∨ k = (x.kind, x.name)) ∨
     (x.ty = 1 ∧ (x.kind, x.name) ∈ keys ml ∧ ∀ k, k ∈ keys ml' ↔ k ∈ keys ml) ∨
     (x.ty = 2 ∧ (x.kind, x.name) ∈ keys ml ∧ ∀ k, k ∈ keys ml' ↔ k ∈ keys ml ∧ k ≠ (x.kind, x.name)))
def M8 (B : Nat) (G : Nat → Prop) (w : World) (p b mb : Nat) (most : Int) (ml : List Ob) (mevs : List Ev) : Prop :=
  ∃ n D now ev lv mev, Rel8 B w p b n D most now ev mevs mb lv mev mevs ml ∧ now = mevs.length ∧ n ≤ mevs.length ∧ ml.length ≤ mevs.length ∧ (∀ j, PF p b mb ev mev lv j → ¬ G j) ∧ ∀ x ∈ ml, errO x = 0
def DoOut (B : Nat) (G : Nat → Prop) (w : World) (p b mb : Nat) (most : Int) (ml : List Ob) (mevs : List Ev) (e : Ending) (w' : World) : Prop :=
  e = .returned (.bool true) ∧ ∃ ml' mevs', KStep ml mevs ml' mevs' ∧ M8 B G w' p b mb most ml' mevs' ∧ mevs'.length ≤ mevs.length + 1 ∧ Below B w w' ∧ ∀ j, G j → w'.heap[j]? = w.heap[j]?
theorem M8.below {B : Nat} {G : Nat → Prop} {w w' : World} {p b mb : Nat} {most : Int} {ml : List Ob} {mevs : List Ev} (M : M8 B G w p b mb most ml mevs) (hb : Below w.heap.size w w') : M8 B G w' p b mb most ml mevs := by
  obtain ⟨n, D, now, ev, lv, mev, R, h⟩ := M
  exact ⟨n, D, now, ev, lv, mev, R.below hb, h⟩
theorem next_lt {evs : List Ev} (x : Ev) (h : evs.length ≤ 500) : nextEvs evs x = evs ++ [x] := by
  unfold nextEvs
  rw [if_pos (by omega)]
section
variable {B : Nat} {w w' : World} {p b n n' : Nat} {D D' : DataW Value} {most : Int} {now : Nat} {ev : Value} {mb : Nat} {lv mev : Value} {mevs : List Ev} {ml ml' : List Ob} {x : Ev} {Pq : Value → Value → Value → World → Prop} {e : Ending}
theorem act_rel (R : Rel8 B w p b n D most now ev mevs mb lv mev mevs ml) (hlen : mevs.length ≤ 500) (hA : ActOut w p b n' D' most now ev mevs mb lv mev mevs ml' x Pq e w') (hB : B ≤ w.heap.size)
    (hsize : Maps.size D' = ml'.length) (huniq : (keys ml').Nodup) (h0 : ∀ k, KeyOk k → k ∉ keys ml' → Maps.has D' (kOf k.1 k.2) = false)
    (h1 : ∀ ev' mev' lv', Pq ev' mev' lv' w' → ∀ z ∈ ml', (z ∈ ml ∧ Maps.has D' (kOf z.kind z.name) = Maps.has D (kOf z.kind z.name) ∧ valAt D' (kOf z.kind z.name) (.agg Z47) = valAt D (kOf z.kind z.name) (.agg Z47)) ∨ (z.Safe (PF p b mb ev' mev' lv') w' ∧ StandsO D' (PF p b mb ev' mev' lv') w' z)) :
    e = .returned (.bool true) ∧ Below B w w' ∧ (∀ j, j < w.heap.size → ¬ PF p b mb ev mev lv j → w'.heap[j]? = w.heap[j]?) ∧ ∃ ev' lv' mev', Rel8 B w' p b n' D' most (now + 1) ev' (mevs ++ [x]) mb lv' mev' (mevs ++ [x]) ml' ∧ ∀ i, i < w.heap.size → PF p b mb ev' mev' lv' i → PF p b mb ev mev lv i := by
  obtain ⟨he, ev', mev', lv', hP, S, M, row, T, E, EM, EL, A⟩ := hA
  rw [next_lt x hlen] at S
  have hto := pf_to (p := p) (b := b) (mb := mb) E EM EL
  have hlow : ∀ j, PF p b mb ev' mev' lv' j → B ≤ j := fun j hj => if hlt : j < w.heap.size then pf_low R (hto j hlt hj) else by omega
  refine ⟨he, T.low hB fun i hi => pf_low R hi, T.2.2.2.2, ev', lv', mev', ⟨S, M, row, A, ⟨R.low.1, fun g hg => hlow g (.inr (.inr (.inr (.inr (.inl hg))))), fun g hg => hlow g (.inr (.inr (.inr (.inr (.inr hg)))))⟩, fun z hz => ?_, hsize, fun z hz => ?_, h0, huniq⟩, hto⟩
  · rcases h1 ev' mev' lv' hP z hz with ⟨hm, _, _⟩ | ⟨hs, _⟩
    · exact (R.safe z hm).tch T hto
    · exact hs
  · rcases h1 ev' mev' lv' hP z hz with ⟨hm, e1, e2⟩ | ⟨_, hs⟩
    · obtain ⟨g1, y, g2, g3, g4⟩ := R.at1 z hm
      exact ⟨e1.trans g1, y, e2.trans g2, g3.tch T hto, g4⟩
    · exact hs
end
theorem dflt_ver (o : Ob) (V V' : Nat → Value) (v : Int) : nf ⟨o.kind, o.name, v, (o.dflt.reval V').w, (o.dflt.reval V').p, (o.dflt.reval V').n, (o.dflt.reval V').g, (o.dflt.reval V').h⟩ = nf ⟨o.kind, o.name, v, (o.dflt.reval V).w, (o.dflt.reval V).p, (o.dflt.reval V).n, (o.dflt.reval V).g, (o.dflt.reval V).h⟩ := rfl
theorem safe_ver {o d : Ob} {F : Nat → Prop} {w : World} (h : d.Safe F w) (v : Int) (hv : wfi .u64 v) (ek : d.kind = o.kind) (en : d.name = o.name) : (Ob.mk o.kind o.name v d.w d.p d.n d.g d.h).Safe F w := by
  obtain ⟨ho, ha⟩ := h
  refine ⟨⟨ek ▸ ho.kind, en ▸ ho.name, hv, ho.w, ho.p, ho.n, ho.g, ho.h⟩, fun k hk u e => ha k hk u ?_⟩
  simp only [rowsAt, List.mem_cons, List.not_mem_nil, or_false] at hk
  rcases hk with rfl | rfl | rfl | rfl | rfl | rfl | rfl | rfl | rfl | rfl | rfl | rfl | rfl | rfl <;> exact e
theorem keys_append (l l' : List Ob) : keys (l ++ l') = keys l ++ keys l' := List.map_append
theorem putL_dflt (o : Ob) (V : Nat → Value) (v : Nat) : putL (o.dflt.reval V).cells.toArray v = (Ob.mk o.kind o.name (v : Int) (o.dflt.reval V).w (o.dflt.reval V).p (o.dflt.reval V).n (o.dflt.reval V).g (o.dflt.reval V).h).cells.toArray := by
  unfold putL
  have e1 : (o.dflt.reval V).kind = o.kind := dflt_kind o
  have e2 : (o.dflt.reval V).name = o.name := dflt_name o
  apply Array.toList_inj.1
  rw [cells_ver, e1, e2]
theorem wf_now {v : Nat} (h : v ≤ 1000000) : wfi .u64 ((v : Nat) : Int) := by
  have h1 : IntKind.u64.min = 0 := rfl
  have h2 : IntKind.u64.max = 18446744073709551615 := rfl
  unfold wfi Lit.wf
  rw [Bool.and_eq_true, decide_eq_true_eq, decide_eq_true_eq]
  omega
end Go.Proofs.YtlhaiflebigdlaaGreat
end
section
namespace Go.Proofs.YtlhaiflebigdlaaGreat
open Go.RowKit Go.Proofs.Mem
set_option linter.unusedVariables false
set_option linter.unusedSimpArgs false
theorem key_inj {ml : List Ob} (h : (keys ml).Nodup) {i j : Nat} (hi : i < ml.length) (hj : j < ml.length) (e : (ml[i].kind, ml[i].name) = (ml[j].kind, ml[j].name)) : i = j := by
  have h1 : (keys ml)[i]'(by simpa [keys] using hi) = (keys ml)[j]'(by simpa [keys] using hj) := by simpa [keys] using e
  have h2 := List.pairwise_iff_getElem.1 h
  rcases Nat.lt_trichotomy i j with hij | hij | hij
  · exact absurd h1 (h2 i j (by simpa [keys] using hi) (by simpa [keys] using hj) hij)
  · exact hij
  · exact absurd h1.symm (h2 j i (by simpa [keys] using hj) (by simpa [keys] using hi) hij)
theorem err_dflt {o : Ob} (V : Nat → Value) (v : Int) (h : errO o.dflt = 0) : errO (Ob.mk o.kind o.name v (o.dflt.reval V).w (o.dflt.reval V).p (o.dflt.reval V).n (o.dflt.reval V).g (o.dflt.reval V).h) = 0 := by
  have e : errO (Ob.mk o.dflt.kind o.dflt.name v (o.dflt.reval V).w (o.dflt.reval V).p (o.dflt.reval V).n (o.dflt.reval V).g (o.dflt.reval V).h) = errO o.dflt := rfl
  rw [dflt_kind, dflt_name] at e
  exact e.trans h
theorem mem_keys {ml : List Ob} {x : Ob} (h : x ∈ ml) : (x.kind, x.name) ∈ keys ml := List.mem_map.2 ⟨x, h, rfl⟩
section
variable {B : Nat} {w w' : World} {p b n : Nat} {D : DataW Value} {most : Int} {now : Nat} {ev : Value} {mb : Nat} {lv mev : Value} {mevs : List Ev} {ml : List Ob} {e : Ending} {o : Ob} {G : Nat → Prop}
theorem rel_create (R : Rel8 B w p b n D most now ev mevs mb lv mev mevs ml) (hnow : now = mevs.length) (hn : n ≤ mevs.length) (hml : ml.length ≤ mevs.length) (hlen : mevs.length ≤ 500) (hB : B ≤ w.heap.size) (hG : ∀ j, G j → j < w.heap.size) (hGP : ∀ j, PF p b mb ev mev lv j → ¬ G j) (hval : ∀ x ∈ ml, errO x = 0) (hgood : errO o.dflt = 0) (hk : KeyOk (o.kind, o.name)) (hno : (o.kind, o.name) ∉ keys ml)
    (h : CrOut w p b n D most now ev mevs mb lv mev mevs ml o e w') : DoOut B G w p b mb most ml mevs e w' := by
  obtain ⟨L', V, hA⟩ := h
  have hD := R.st.2.2.1
  have hv : wfi .u64 ((now + 1 : Nat) : Int) := wf_now (by omega)
  have hh := R.at0 _ hk hno
  obtain ⟨he, hb, hfr, ev', lv', mev', R', hto⟩ := act_rel R hlen hA hB
    (by rw [Maps.size_put (hD.tidy stK), hh, List.length_append, R.size]; simp)
    (by
      rw [keys_append]
      refine List.nodup_append.2 ⟨R.uniq, by simp [keys], fun a ha c hc e => hno ?_⟩
      simp only [keys, List.map_cons, List.map_nil, List.mem_cons, List.not_mem_nil, or_false] at hc
      rw [← hc, ← e]
      exact ha)
    (fun k hk' h0 => by
      rw [keys_append, List.mem_append, not_or] at h0
      have hne : k ≠ (o.kind, o.name) := fun e => h0.2 (by rw [e]; simp [keys])
      rw [Maps.has_put_other (kOf_ne hk' hk hne)]
      exact R.at0 k hk' h0.1)
    (fun ev' mev' lv' hP z hz => by
      obtain ⟨V', hL', hs', hs⟩ := hP
      rcases List.mem_append.1 hz with hz | hz
      · have hne : (z.kind, z.name) ≠ (o.kind, o.name) := fun e => hno (e ▸ mem_keys hz)
        have hk2 := kOf_ne (Ob.Ok.keyOk (R.safe z hz).ok) hk hne
        exact .inl ⟨hz, Maps.has_put_other hk2 _, valAt_put_other hk2 _ _⟩
      · rw [List.mem_singleton] at hz
        subst hz
        refine .inr ⟨safe_ver hs _ hv (dflt_kind o) (dflt_name o), Maps.has_put_same hD.isMap (keyLit_kOf _ _) _, _, ?_, safe_ver (o := o) hs' ((now + 1 : Nat) : Int) hv (dflt_kind o) (dflt_name o), dflt_ver o V V' _⟩
        rw [valAt_put_same hD.isMap (keyLit_kOf _ _), hL', putL_dflt])
  refine ⟨he, _, _, .inr ⟨_, rfl, hk, .inl ⟨rfl, hno, fun k => ?_⟩⟩, ⟨_, _, _, _, _, _, R', by simp [hnow], by simp; omega, by simp; omega, (fun j hj hg => hGP j (hto j (hG j hg) hj) hg), fun x hx => (List.mem_append.1 hx).elim (hval x) fun h => by rw [List.mem_singleton.1 h]; exact err_dflt _ _ hgood⟩, by simp, hb, fun j hj => hfr j (hG j hj) fun hp => hGP j hp hj⟩
  rw [keys_append, List.mem_append]
  simp [keys]
theorem rel_update (R : Rel8 B w p b n D most now ev mevs mb lv mev mevs ml) (hnow : now = mevs.length) (hn : n ≤ mevs.length) (hml : ml.length ≤ mevs.length) (hlen : mevs.length ≤ 500) (hB : B ≤ w.heap.size) (hG : ∀ j, G j → j < w.heap.size) (hGP : ∀ j, PF p b mb ev mev lv j → ¬ G j) (hval : ∀ x ∈ ml, errO x = 0) (hgood : errO o.dflt = 0) (hk : KeyOk (o.kind, o.name)) (i : Nat) (hi : i < ml.length) (hki : ml[i].kind = o.kind) (hni : ml[i].name = o.name)
    (h : UpOut w p b n D most now ev mevs mb lv mev mevs ml i o e w') : DoOut B G w p b mb most ml mevs e w' := by
  obtain ⟨L', V, hA⟩ := h
  have hD := R.st.2.2.1
  have hv : wfi .u64 ((now + 1 : Nat) : Int) := wf_now (by omega)
  have hin : (o.kind, o.name) ∈ keys ml := by
    have := mem_keys (List.getElem_mem hi)
    rwa [hki, hni] at this
  have hh : Maps.has D (kOf o.kind o.name) = true := by
    have := (R.at1 _ (List.getElem_mem hi)).1
    rwa [hki, hni] at this
  have hks : ∀ x : Ob, x.kind = o.kind → x.name = o.name → keys (ml.set i x) = keys ml := by
    intro x h1 h2
    unfold keys
    rw [List.map_set, h1, h2, ← hki, ← hni]
    have : ((fun x : Ob => (x.kind, x.name)) ml[i]) = (ml.map fun x => (x.kind, x.name))[i]'(by simpa using hi) := by simp
    exact (congrArg _ this).trans (List.set_getElem_self (by simpa using hi))
  obtain ⟨he, hb, hfr, ev', lv', mev', R', hto⟩ := act_rel R hlen hA hB
    (by rw [Maps.size_put (hD.tidy stK), hh, List.length_set, R.size]; simp)
    (by
      rw [hks]
      · exact R.uniq
      · rfl
      · rfl)
    (fun k hk' h0 => by
      rw [hks (Ob.mk o.kind o.name ((now + 1 : Nat) : Int) (o.dflt.reval V).w (o.dflt.reval V).p (o.dflt.reval V).n (o.dflt.reval V).g (o.dflt.reval V).h) rfl rfl] at h0
      have hne : k ≠ (o.kind, o.name) := fun e => h0 (e ▸ hin)
      rw [Maps.has_put_other (kOf_ne hk' hk hne)]
      exact R.at0 k hk' h0)
    (fun ev' mev' lv' hP z hz => by
      obtain ⟨V', hL', hs', hs⟩ := hP
      obtain ⟨j, hj, ej⟩ := List.mem_iff_getElem.1 hz
      rw [List.getElem_set] at ej
      by_cases hij : i = j
      · rw [if_pos hij] at ej
        subst ej
        refine .inr ⟨safe_ver hs _ hv (dflt_kind o) (dflt_name o), Maps.has_put_same hD.isMap (keyLit_kOf _ _) _, _, ?_, safe_ver (o := o) hs' ((now + 1 : Nat) : Int) hv (dflt_kind o) (dflt_name o), dflt_ver o V V' _⟩
        rw [valAt_put_same hD.isMap (keyLit_kOf _ _), hL', putL_dflt]
      · rw [if_neg hij] at ej
        have hj' : j < ml.length := by simpa using hj
        have hzm : z ∈ ml := ej ▸ List.getElem_mem hj'
        have hne : (z.kind, z.name) ≠ (o.kind, o.name) := fun e => hij (key_inj R.uniq hi hj' (by rw [hki, hni, ej]; exact e.symm))
        have hk2 := kOf_ne (Ob.Ok.keyOk (R.safe z hzm).ok) hk hne
        exact .inl ⟨hzm, Maps.has_put_other hk2 _, valAt_put_other hk2 _ _⟩)
  refine ⟨he, _, _, .inr ⟨_, rfl, hk, .inr (.inl ⟨rfl, hin, fun k => ?_⟩)⟩, ⟨_, _, _, _, _, _, R', by simp [hnow], by simp; omega, by simp; omega, (fun j hj hg => hGP j (hto j (hG j hg) hj) hg), fun x hx => (List.mem_or_eq_of_mem_set hx).elim (hval x) fun h => by rw [h]; exact err_dflt _ _ hgood⟩, by simp, hb, fun j hj => hfr j (hG j hj) fun hp => hGP j hp hj⟩
  rw [hks (Ob.mk o.kind o.name ((now + 1 : Nat) : Int) (o.dflt.reval V).w (o.dflt.reval V).p (o.dflt.reval V).n (o.dflt.reval V).g (o.dflt.reval V).h) rfl rfl]
theorem rel_delete (R : Rel8 B w p b n D most now ev mevs mb lv mev mevs ml) (hnow : now = mevs.length) (hn : n ≤ mevs.length) (hml : ml.length ≤ mevs.length) (hlen : mevs.length ≤ 500) (hB : B ≤ w.heap.size) (hG : ∀ j, G j → j < w.heap.size) (hGP : ∀ j, PF p b mb ev mev lv j → ¬ G j) (hval : ∀ x ∈ ml, errO x = 0) (hk : KeyOk (o.kind, o.name)) (i : Nat) (hi : i < ml.length) (hki : ml[i].kind = o.kind) (hni : ml[i].name = o.name)
    (hA : ActOut w p b n (D.del (kOf o.kind o.name)) most now ev mevs mb lv mev mevs (ml.eraseIdx i) ⟨2, o.kind, o.name, now + 1⟩ (fun _ _ _ _ => True) e w') : DoOut B G w p b mb most ml mevs e w' := by
  have hD := R.st.2.2.1
  have hin : (o.kind, o.name) ∈ keys ml := by
    have := mem_keys (List.getElem_mem hi)
    rwa [hki, hni] at this
  have hh : Maps.has D (kOf o.kind o.name) = true := by
    have := (R.at1 _ (List.getElem_mem hi)).1
    rwa [hki, hni] at this
  have hmem : ∀ k, k ∈ keys (ml.eraseIdx i) ↔ k ∈ keys ml ∧ k ≠ (o.kind, o.name) := by
    intro k
    constructor
    · intro hm
      obtain ⟨z, hz, rfl⟩ := List.mem_map.1 hm
      obtain ⟨j, hj, hji, ej⟩ := List.mem_eraseIdx_iff_getElem.1 hz
      subst ej
      exact ⟨mem_keys (List.getElem_mem hj), fun e => hji (key_inj R.uniq hj hi (by rw [hki, hni]; exact e))⟩
    · rintro ⟨hm, hne⟩
      obtain ⟨z, hz, rfl⟩ := List.mem_map.1 hm
      obtain ⟨j, hj, ej⟩ := List.mem_iff_getElem.1 hz
      refine mem_keys (List.mem_eraseIdx_iff_getElem.2 ⟨j, hj, fun e => hne ?_, ej⟩)
      subst e
      rw [← ej, hki, hni]
  obtain ⟨he, hb, hfr, ev', lv', mev', R', hto⟩ := act_rel R hlen hA hB
    (by
      have := Maps.size_del (k := kOf o.kind o.name) (hD.tidy stK)
      rw [hh, R.size] at this
      rw [List.length_eraseIdx, if_pos hi]
      simp at this
      omega)
    (R.uniq.sublist ((List.eraseIdx_sublist ml i).map _))
    (fun k hk' h0 => by
      by_cases hne : k = (o.kind, o.name)
      · subst hne
        exact Maps.has_del_same
      · rw [Maps.has_del_other (kOf_ne hk' hk hne)]
        exact R.at0 k hk' fun hm => h0 ((hmem k).2 ⟨hm, hne⟩))
    (fun ev' mev' lv' hP z hz => by
      have hk3 := ((hmem _).1 (mem_keys hz)).2
      have hzm := List.mem_of_mem_eraseIdx hz
      have hk2 := kOf_ne (Ob.Ok.keyOk (R.safe z hzm).ok) hk hk3
      exact .inl ⟨hzm, Maps.has_del_other hk2, valAt_del_other hk2 _⟩)
  exact ⟨he, _, _, .inr ⟨_, rfl, hk, .inr (.inr ⟨rfl, hin, hmem⟩)⟩, ⟨_, _, _, _, _, _, R', by simp [hnow], by simp; omega, by have := List.length_eraseIdx_le ml i; simp; omega, (fun j hj hg => hGP j (hto j (hG j hg) hj) hg), fun x hx => hval x (List.mem_of_mem_eraseIdx hx)⟩, by simp, hb, fun j hj => hfr j (hG j hj) fun hp => hGP j hp hj⟩
end
end Go.Proofs.YtlhaiflebigdlaaGreat
end
section
namespace Go.Proofs.YtlhaiflebigdlaaGreat
open Go.RowKit Go.Proofs.Mem
set_option linter.unusedVariables false
set_option linter.unusedSimpArgs false
set_option maxRecDepth 10000
set_option maxHeartbeats 1000000 in
theorem do8_any {B : Nat} {G : Nat → Prop} {w : World} {p b mb : Nat} {most : Int} {ml : List Ob} {mevs : List Ev} (M : M8 B G w p b mb most ml mevs) (hlen : mevs.length ≤ 500) (hB : B ≤ w.heap.size) (hG : ∀ j, G j → j < w.heap.size) (ak : Int) (o : Ob) (right : Bool) (ho : o.Safe (fun j => B ≤ j) w) :
    Calls Tryz.prog 7 #[.pointer (some ⟨p, 0, none⟩), .pointer (some ⟨mb, 0, none⟩), .int .i64 most, .agg (actA ak o right)] w (DoOut B G w p b mb most ml mevs) := by
  obtain ⟨n, D, now, ev, lv, mev, R, hnow, hn, hml, hGP, hval8⟩ := M
  have hG3 : ∀ w3 : World, Below w.heap.size w w3 → ∀ j, G j → j < w3.heap.size := fun w3 hb j hj => Nat.lt_of_lt_of_le (hG j hj) hb.size
  refine do8_pre w p b n D most now ev mevs R.st mb lv mev mevs R.md ml R.row (fun x hx => (R.safe x hx).ok) (by omega) ak o right ho.ok _ ?_
  intro c f w3 v hc S3 M3 B3 K3 hv
  have R3 := R.below B3
  have hB3 : B ≤ w3.heap.size := Nat.le_trans hB B3.size
  have hk : KeyOk (o.kind, o.name) := Ob.Ok.keyOk ho.ok
  have hvw : wfi .u64 v := by
    rw [hv]
    unfold verOf
    cases right with
    | false => exact ho.ok.version
    | true =>
      simp only
      cases hf : findN o.kind o.name ml with
      | none => exact ho.ok.version
      | some i =>
        obtain ⟨hi, _⟩ := findN_some hf
        simp only [List.getElem?_eq_getElem hi]
        exact (R.safe _ (List.getElem_mem hi)).ok.version
  have ho3 : (Ob.mk o.kind o.name v o.w o.p o.n o.g o.h).Ok w3 := by
    have h := ho.ok.below B3
    exact ⟨h.kind, h.name, hvw, h.w, h.p, h.n, h.g, h.h⟩
  have hvo := version_nat ho3.fit
  obtain ⟨Lw, vw, hLw, hvw2, hval, hnone, hsome⟩ := R.look (o.kind, o.name) hk
  have hpl : p < w.heap.size := R.st.2.1.lt
  have hbl : b < w.heap.size := by have := R.st.1; omega
  have hml' : mb < w.heap.size := R.md.1.lt
  have hle : ∀ g, ev.ownBlock = some g → g < w.heap.size := fun g hg => (R.st.evGe hg).2
  have hlm : ∀ g, mev.ownBlock = some g → g < w.heap.size := fun g hg => (R.md.evGe hg)
  have hqe : ev.ownBlock ≠ some w.heap.size := fun e => by have := hle _ e; omega
  have hqme : mev.ownBlock ≠ some w.heap.size := fun e => by have := hlm _ e; omega
  have same : ∀ e w', (e = .returned (.bool true) ∧ Below w3.heap.size w3 w') → DoOut B G w p b mb most ml mevs e w' := fun e w' h =>
    ⟨h.1, ml, mevs, .inl ⟨rfl, rfl⟩, ⟨n, D, now, ev, lv, mev, R3.below h.2, hnow, hn, hml, hGP, hval8⟩, by omega, (below_tr B3 h.2).mono hB, fun j hj => (below_tr B3 h.2).block j (hG j hj)⟩
  have from3 : ∀ e w', DoOut B G w3 p b mb most ml mevs e w' → DoOut B G w p b mb most ml mevs e w' := fun e w' ⟨h1, ml', mevs', h2, h3, h4, h5, h6⟩ =>
    ⟨h1, ml', mevs', h2, h3, h4, (B3.mono hB).trans h5, fun j hj => (h6 j hj).trans (B3.block j (hG j hj))⟩
  by_cases h0 : ak = 0
  · by_cases hg : errO (Ob.mk o.kind o.name v o.w o.p o.n o.g o.h).dflt = 0
    · cases hf : findN o.kind o.name ml with
      | none =>
        have hfi : findI o.kind o.name ml < 0 := by rw [findI_neg hf]; omega
        by_cases hfull : most ≤ Maps.size D
        · exact wp_mono (do8_cr_full c hc f w3 p b n D most now ev mevs S3 (by unfold maxLen; omega) (by omega) (by omega) mb _ ak _ right _ h0 ho3 K3 Lw hLw hval hg (hnone hf) hfi lv ml.length _ (M3.1.cell 0) (Sl.of_own R3.row) hfull R.size) (bodyPost_mono same)
        · refine wp_mono (do8_cr_ok c hc f w3 p b n D most now ev mevs S3 (by unfold maxLen; omega) (by omega) (by omega) mb _ ak _ right _ h0 ho3 K3 Lw hLw hval hg (hnone hf) hfi lv mev mevs ml (by omega) M3 (by omega) R3.row R.ap hfull R.size) (bodyPost_mono fun e w' h => from3 e w' ?_)
          exact rel_create (o := Ob.mk o.kind o.name v o.w o.p o.n o.g o.h) R3 hnow hn hml hlen hB3 (hG3 w3 B3) hGP hval8 hg hk (findN_none hf) h
      | some i =>
        have hfi : 0 ≤ findI o.kind o.name ml := by rw [findI_pos hf]; omega
        exact wp_mono (do8_cr_same c hc f w3 p b n D most now ev mevs S3 (by unfold maxLen; omega) (by omega) (by omega) mb _ ak _ right _ h0 ho3 K3 Lw hLw hval hg (hsome i hf).1 hfi) (bodyPost_mono same)
    · exact wp_mono (do8_cr_bad c hc f w3 p b n D most now ev mevs S3 (by unfold maxLen; omega) (by omega) (by omega) mb _ ak _ right _ h0 ho3 K3 Lw hLw hval hg) (bodyPost_mono same)
  · by_cases h1 : ak = 1
    · by_cases hg : errO (Ob.mk o.kind o.name v o.w o.p o.n o.g o.h).dflt = 0
      · cases hf : findN o.kind o.name ml with
        | none =>
          have hfi : findI o.kind o.name ml < 0 := by rw [findI_neg hf]; omega
          exact wp_mono (do8_up_none c hc f w3 p b n D most now ev mevs S3 (by unfold maxLen; omega) (by omega) (by omega) mb _ ak _ right _ h1 ho3 K3 Lw hLw vw hvw2 hval hg (hnone hf) hfi) (bodyPost_mono same)
        | some i =>
          obtain ⟨hh, hi, hvi⟩ := hsome i hf
          obtain ⟨_, hki, hni⟩ := findN_some hf
          by_cases hve : v = (vw : Int)
          · refine wp_mono (do8_up_ok c hc f w3 p b n D most now ev mevs S3 (by unfold maxLen; omega) (by omega) (by omega) mb _ ak _ right _ h1 ho3 K3 (by omega) (by omega) hqe Lw hLw vw hvw2 hval hg hh i (findI_pos hf) lv mev mevs ml (by omega) M3 (by omega) R3.row R.ap hi hvi hve) (bodyPost_mono fun e w' h => from3 e w' ?_)
            exact rel_update (o := Ob.mk o.kind o.name v o.w o.p o.n o.g o.h) R3 hnow hn hml hlen hB3 (hG3 w3 B3) hGP hval8 hg hk i hi hki hni h
          · exact wp_mono (do8_up_mism c hc f w3 p b n D most now ev mevs S3 (by unfold maxLen; omega) (by omega) (by omega) mb _ ak _ right _ h1 ho3 K3 Lw hLw vw hvw2 hval hg hh i (findI_pos hf) lv ml (M3.1.cell 0) (Sl.of_own R3.row) hi hvi hve) (bodyPost_mono same)
      · exact wp_mono (do8_up_bad c hc f w3 p b n D most now ev mevs S3 (by unfold maxLen; omega) (by omega) (by omega) mb _ ak _ right _ h1 ho3 K3 Lw hLw vw hvw2 hval hg) (bodyPost_mono same)
    · by_cases hkr : 0 ≤ o.kind ∧ o.kind < 5
      · cases hf : findN o.kind o.name ml with
        | none =>
          exact wp_mono (do8_del_none c hc f w3 p b n D most now ev mevs S3 (by omega) (by omega) mb _ ak _ right _ h0 h1 ho3 K3 (by omega) (by omega) (fun e => hqe e.symm) Lw hLw vw hvw2 hval (fun _ => ⟨hnone hf, by rw [findI_neg hf]; omega⟩)) (bodyPost_mono same)
        | some i =>
          obtain ⟨hh, hi, hvi⟩ := hsome i hf
          obtain ⟨_, hki, hni⟩ := findN_some hf
          rw [findI_pos hf]
          by_cases hve : v = 0 ∨ v = (vw : Int)
          · refine wp_mono (do8_del_ok c hc f w3 p b n D most now ev mevs S3 (by omega) (by omega) mb _ lv mev mevs M3 (by omega) ml (by omega) R3.row (fun x hx => cells_is x (R3.safe x hx).ok) R.ap ak _ right i h0 h1 ho3 K3 (by omega) (by omega) (by omega) hqe hqme hi Lw hLw vw hvw2 hval hvi hkr hh hve) (bodyPost_mono fun e w' h => from3 e w' ?_)
            exact rel_delete (o := Ob.mk o.kind o.name v o.w o.p o.n o.g o.h) R3 hnow hn hml hlen hB3 (hG3 w3 B3) hGP hval8 hk i hi hki hni h
          · exact wp_mono (do8_del_mism c hc f w3 p b n D most now ev mevs S3 (by omega) (by omega) mb _ ak _ right i h0 h1 ho3 K3 lv ml (M3.1.cell 0) (by have := B3.size; omega) (Sl.of_own R3.row) hi Lw hLw vw hvw2 hval hvi hkr hh (fun e => hve (.inl e)) (fun e => hve (.inr e))) (bodyPost_mono same)
      · exact wp_mono (do8_del_none c hc f w3 p b n D most now ev mevs S3 (by omega) (by omega) mb _ ak _ right _ h0 h1 ho3 K3 (by omega) (by omega) (fun e => hqe e.symm) Lw hLw vw hvw2 hval (fun hc => absurd hc hkr)) (bodyPost_mono same)
end Go.Proofs.YtlhaiflebigdlaaGreat
end
section
namespace Go.Proofs.YtlhaiflebigdlaaGreat
open Go.RowKit Go.Proofs.Mem
set_option linter.unusedVariables false
set_option linter.unusedSimpArgs false
structure A8 where
  k : Int
  o : Ob
  r : Bool
def A8.cells (x : A8) : List Value := [Value.int .i64 x.k] ++ x.o.cells ++ [Value.bool x.r]
theorem a8_len (x : A8) : x.cells.length = 49 := rfl
theorem a8_act (x : A8) : x.cells = (actA x.k x.o x.r).toList := rfl
def Z49 : Array Value := ([Value.int .i64 0] ++ Z47.toList ++ [Value.bool false]).toArray
theorem run_alloc49 {ev : Operand → Value} {o : Oper} (ho : o.op = .alloc 58) (w : World) : (execOp ev o).run Tryz.prog w = .ok (.value (.pointer (some ⟨w.heap.size, 0, none⟩))) (w.alloc (.cells Z49 58)) := by
  unfold execOp
  simp only [ho]
  unfold Z49 Z47
  go_simp
def Is49 (L : Array Value) : Prop := L.size = 49 ∧ L.toList.all (·.oneCell') = true
theorem info49 {L : Array Value} (h : L.size = 49) : (Tryz.prog.info? 58).map (·.size) = some L.size := by rw [h]; kernel_rfl
theorem act_is49 (ak : Int) (o : Ob) (right : Bool) (w : World) (ho : o.Ok w) : Is49 (actA ak o right) := by
  have h := (cells_is o ho).2
  refine ⟨rfl, ?_⟩
  unfold actA
  simp only [List.toList_toArray, List.all_append] at h ⊢
  rw [h]
  rfl
set_option maxHeartbeats 4000000 in
set_option maxRecDepth 100000 in
theorem few8 (w : World) (A : Option Addr) (c : Nat) (l : List A8) (hA : Sl w 49 (.slice A l.length c) l.length (l.flatMap A8.cells)) (hok : ∀ x ∈ l, x.o.Ok w) (hlen : l.length ≤ maxLen) :
    Calls Tryz.prog 5 #[.slice A l.length c] w fun e w' => (∃ b, e = .returned (.bool b) ∧ (b = true → l.length ≤ 60)) ∧ Below w.heap.size w w' := by
  have HU := Lib.hid (Tryz.underlying56)
  have HV := Lib.hid (Tryz.underlying58)
  have HOK := Lib.hid hok
  have hT : Tryz.prog.underlying 22 = some (.slice 58) := Tryz.underlying22
  have hml : maxLen = 9223372036854775807 := rfl
  rw [hml] at hlen
  clear hok hml
  go_enter Tryz.func5, Tryz.ntmps5
  go_wp2_with fail
  go_loopw [7] (fun iv wr => ∃ k : Nat, k ≤ l.length ∧ iv = .int .i64 k ∧ Below w.heap.size w wr) (fun iv wr => l.length - (intOf iv).toNat)
  case atStart => exact ⟨0, Nat.zero_le _, rfl, Below.refl _ _⟩
  case round =>
    obtain ⟨k, hk, rfl, hB⟩ := hrel
    by_cases hlt : k < l.length
    · obtain ⟨b1, o1, rfl, hb1, hadd1, hcell⟩ := Sl.row' (s := 49) (f := A8.cells) a8_len (by omega) (hA.below hB) k hlt
      have hr : wr.rangeAt b1 (o1 + k * 49) (l[k]).cells := fun j u hj => hcell j u hj
      have hox := (HOK.out _ (List.getElem_mem hlt)).below hB
      obtain ⟨x, hx⟩ : ∃ x : A8, x = l[k] := ⟨_, rfl⟩
      rw [← hx] at hr hox
      have hL49 := act_is49 x.k x.o x.r wr hox
      obtain ⟨L, hL⟩ : ∃ L : Array Value, L = actA x.k x.o x.r := ⟨_, rfl⟩
      rw [← hL] at hL49
      rw [a8_act, ← hL] at hr
      have hzz : Z49.size = L.size := hL49.1.symm
      have kz := Bk.new wr 58 Z49
      have kS := setCells_whole kz hzz
      have BS := below_setCells (g := wr.heap.size) L.toList 0 (hB.alloc hB.size (.cells Z49 58)) hB.size
      have bS := below_setCells (g := wr.heap.size) L.toList 0 (below_al wr (.cells Z49 58)) (Nat.le_refl _)
      obtain ⟨W2, hW2⟩ : ∃ W2, W2 = (wr.alloc (.cells Z49 58)).setCells wr.heap.size 0 L.toList := ⟨_, rfl⟩
      rw [← hW2] at kS BS bS
      have hr2 : W2.rangeAt wr.heap.size 1 x.o.cells := by
        have := range_sub kS.range 1 47
        rw [hL, actA_ob] at this
        exact this
      have d0 : W2.cell? ⟨wr.heap.size, 2, none⟩ = some (.string x.o.name) := by rw [kS.cell, hL]; rfl
      have hlen' : (L.toList.toArray) = L := by simp
      have HR := Lib.hid (And.intro hr (And.intro kz (And.intro hW2.symm (And.intro hL49 (And.intro hzz (And.intro BS (And.intro hr2 (And.intro (hox.below bS) (And.intro hlen' kS)))))))))
      have HXL := Lib.hid hL
      clear hr hox hL hL49 hzz kz kS BS bS hW2 hr2 hcell hx hlen'
      go_wp2_with (first | (refine wpl_loadat HR.out.2.2.2.2.2.2.1 rfl 56 (.tmp 11) rfl rfl _ HU.out rfl (by kernel_rfl) ?_) | (refine wpl_loadat HR.out.1 rfl 58 (.tmp 9) rfl rfl _ HV.out rfl (by simpa using info49 HR.out.2.2.2.1.1) ?_; rw [HR.out.2.2.2.2.2.2.2.2.1]) | (refine wpl_allocg rfl (run_alloc49 rfl _) ?_) | (refine wpl_storeg HR.out.2.1 HR.out.2.2.2.2.1 rfl rfl 58 (.tmp 4) (.tmp 10) rfl rfl rfl (info49 HR.out.2.2.2.1.1) HR.out.2.2.2.1.2 ?_; rw [HR.out.2.2.1]))
      refine (few_any x.o W2 HR.out.2.2.2.2.2.2.2.1).mono ?_
      rintro e w3 ⟨⟨bb, rfl⟩, b3⟩
      have B3 := below_tr HR.out.2.2.2.2.2.1 b3
      have d0' := (HR.out.2.2.2.2.2.2.2.2.2.below' b3).cell 2
      rw [HXL.out, show (actA x.k x.o x.r)[2]? = some (.string x.o.name) from rfl] at d0'
      clear d0 b3
      cases bb with
      | false =>
        go_wp2_with fail
        go_ret
        exact ⟨⟨false, rfl, fun e => by cases e⟩, B3⟩
      | true =>
        by_cases hn : x.o.name.size ≤ 100
        · have hn2 : ¬ (100 : Int) < (x.o.name.size : Int) := by omega
          have hn3 : decide ((100 : Int) < (x.o.name.size : Int)) = false := decide_eq_false hn2
          go_wp2_with fail
          exact ⟨⟨k + 1, by omega, by go_num, B3⟩, by simp [intOf]; omega⟩
        · have hn2 : (100 : Int) < (x.o.name.size : Int) := by omega
          have hn3 : decide ((100 : Int) < (x.o.name.size : Int)) = true := decide_eq_true hn2
          go_wp2_with fail
          go_ret
          exact ⟨⟨false, rfl, fun e => by cases e⟩, B3⟩
    · have hke : k = l.length := by omega
      subst hke
      go_wp2_with fail
      go_ret
      exact ⟨⟨_, rfl, fun e => by have h := of_decide_eq_true e; omega⟩, hB⟩
end Go.Proofs.YtlhaiflebigdlaaGreat
end
section
namespace Go.Proofs.YtlhaiflebigdlaaGreat
open Go.RowKit Go.Proofs.Mem
open Go.Sort
set_option linter.unusedVariables false
set_option linter.unusedSimpArgs false
structure SRel (D : DataW Value) (F : Nat → Prop) (w : World) (cl : List Ob) : Prop where
  size : Maps.size D = cl.length
  at1 : ∀ x ∈ cl, StandsO D F w x
  at0 : ∀ k, KeyOk k → k ∉ keys cl → Maps.has D (kOf k.1 k.2) = false
  ok : ∀ k ∈ keys cl, KeyOk k
  uniq : (keys cl).Nodup
theorem Rel8.srel {B : Nat} {w : World} {p b n : Nat} {D : DataW Value} {most : Int} {now : Nat} {ev : Value} {evs : List Ev} {mb : Nat} {lv mev : Value} {mevs : List Ev} {ml : List Ob} (R : Rel8 B w p b n D most now ev evs mb lv mev mevs ml) : SRel D (PF p b mb ev mev lv) w ml where
  size := R.size
  at1 := R.at1
  at0 := R.at0
  ok := fun k hk => by
    obtain ⟨x, hx, rfl⟩ := List.mem_map.1 hk
    exact Ob.Ok.keyOk (R.safe x hx).ok
  uniq := R.uniq
set_option maxRecDepth 100000 in
theorem key_inv {key : Value} {kl : Lit} (h : keyOf Tryz.prog 81 key = some kl) : ∃ k : Int × ByteArray, KeyOk k ∧ key = .agg #[.int .i64 k.1, .string k.2] ∧ kl = kOf k.1 k.2 := by
  have e4 : Tryz.prog.cellsOf 81 = 2 := by kernel_rfl
  have e5 : Tryz.prog.cellsOf 3 = 1 := by kernel_rfl
  have e6 : Tryz.prog.cellsOf 9 = 1 := by kernel_rfl
  have h0 := h
  unfold keyOf at h
  rw [Tryz.underlying81] at h
  simp only at h
  split at h
  · rename_i hf
    rw [Bool.and_eq_true] at hf
    obtain ⟨_, hf⟩ := hf
    cases key with
    | agg cs =>
      simp [Value.formed, Tryz.underlying81, e4] at hf
      obtain ⟨c0, c1, rfl⟩ : ∃ c0 c1, cs = #[c0, c1] := by
        obtain ⟨l⟩ := cs
        match l, hf with
        | [a, b], _ => exact ⟨a, b, rfl⟩
      have e7 : ∃ m, Tryz.prog.types.size = m + 1 := ⟨Tryz.prog.types.size - 1, by kernel_rfl⟩
      obtain ⟨m, hm⟩ := e7
      rw [hm, show (Value.agg #[c0, c1]).cells.toList = [c0, c1] from rfl] at h
      simp only [Program.keyLits, Tryz.underlying81] at h
      have hc0 : ∃ z, c0 = .int .i64 z ∧ (Lit.int .i64 z).wf = true := by
        cases c0 with
        | int q z =>
          by_cases hw : q = .i64 ∧ (Lit.int .i64 z).wf = true
          · obtain ⟨rfl, hw⟩ := hw
            exact ⟨z, rfl, hw⟩
          · simp [Program.keyLits, e4, e5, e6, Tryz.underlying3, Tryz.underlying9, hw] at h
        | _ => simp [Program.keyLits, e4, e5, e6, Tryz.underlying3, Tryz.underlying9] at h
      obtain ⟨z, rfl, hz⟩ := hc0
      have hc1 : ∃ s, c1 = .string s ∧ s.size ≤ maxLen := by
        cases c1 with
        | string s =>
          by_cases hw : s.size ≤ maxLen
          · exact ⟨s, rfl, hw⟩
          · simp [Program.keyLits, e4, e5, e6, Tryz.underlying3, Tryz.underlying9, hw, hz] at h
        | _ => simp [Program.keyLits, e4, e5, e6, Tryz.underlying3, Tryz.underlying9, hz] at h
      obtain ⟨s, rfl, hs⟩ := hc1
      have h1 := keyOf_st z s hz hs
      rw [h0] at h1
      injection h1 with h1
      exact ⟨(z, s), ⟨hz, hs⟩, rfl, h1⟩
    | _ => simp [Value.formed, Tryz.underlying81] at hf
  · cases h
abbrev leB (x y : List UInt8) : Bool := decide (x ≤ y)
theorem leB_trans (a b c : List UInt8) (h1 : leB a b = true) (h2 : leB b c = true) : leB a c = true := by
  simp only [leB, decide_eq_true_eq] at *
  exact List.le_trans h1 h2
theorem leB_total (a b : List UInt8) : (leB a b || leB b a) = true := by
  simp only [leB, Bool.or_eq_true, decide_eq_true_eq]
  exact List.le_total a b
def nms (cl : List Ob) (kind : Int) : List (List UInt8) := ((cl.filter fun x => decide (x.kind = kind)).map fun x => x.name.data.toList).mergeSort leB
theorem nms_mem {cl : List Ob} {kind : Int} {s : List UInt8} : s ∈ nms cl kind ↔ ∃ x ∈ cl, x.kind = kind ∧ x.name.data.toList = s := by
  unfold nms
  rw [List.mem_mergeSort, List.mem_map]
  constructor
  · rintro ⟨x, hx, rfl⟩
    obtain ⟨h1, h2⟩ := List.mem_filter.1 hx
    exact ⟨x, h1, by simpa using h2, rfl⟩
  · rintro ⟨x, hx, hk, rfl⟩
    exact ⟨x, List.mem_filter.2 ⟨hx, by simpa using hk⟩, rfl⟩
theorem nms_sorted (cl : List Ob) (kind : Int) : (nms cl kind).Pairwise fun x y => leB x y = true := List.pairwise_mergeSort leB_trans leB_total _
theorem bytes_inj {s t : ByteArray} (h : s.data.toList = t.data.toList) : s = t := ByteArray.ext (Array.toList_inj.1 h)
theorem nms_raw_nodup {cl : List Ob} (h : (keys cl).Nodup) (kind : Int) : ((cl.filter fun x => decide (x.kind = kind)).map fun x => x.name.data.toList).Nodup := by
  have h1 : ((cl.filter fun x => decide (x.kind = kind)).map fun x => (x.kind, x.name)).Nodup := List.Nodup.sublist (List.filter_sublist.map _) h
  refine List.pairwise_map.2 ((List.pairwise_map.1 h1).imp_of_mem fun {a b} ha hb hne e => hne ?_)
  have ka := (List.mem_filter.1 ha).2
  have kb := (List.mem_filter.1 hb).2
  simp at ka kb
  rw [ka, kb, bytes_inj e]
theorem nms_nodup {cl : List Ob} (h : (keys cl).Nodup) (kind : Int) : (nms cl kind).Nodup := (List.mergeSort_perm _ _).symm.nodup (nms_raw_nodup h kind)
theorem nms_of {cl : List Ob} (h : (keys cl).Nodup) {kind : Int} {ss : List (List UInt8)} (hn : ss.Nodup) (hm : ∀ s, s ∈ ss ↔ ∃ x ∈ cl, x.kind = kind ∧ x.name.data.toList = s) : ss.mergeSort leB = nms cl kind := by
  have hp : (ss.mergeSort leB).Perm (nms cl kind) := by
    refine (List.mergeSort_perm _ _).trans ?_
    refine (List.perm_ext_iff_of_nodup hn (nms_nodup h kind)).2 fun a => ?_
    rw [hm, nms_mem]
  exact hp.eq_of_pairwise (le := fun x y => leB x y = true) (fun a b _ _ h1 h2 => by
    simp only [leB, decide_eq_true_eq] at h1 h2
    exact List.le_antisymm h1 h2) (List.pairwise_mergeSort leB_trans leB_total _) (nms_sorted cl kind)
theorem nms_lt {cl : List Ob} (h : (keys cl).Nodup) {kind : Int} {i j : Nat} (hij : i < j) (hj : j < (nms cl kind).length) : (nms cl kind)[i]'(by omega) < (nms cl kind)[j] := by
  have h1 := List.pairwise_iff_getElem.1 (nms_sorted cl kind) i j (by omega) hj hij
  have h2 := List.pairwise_iff_getElem.1 (nms_nodup h kind) i j (by omega) hj hij
  simp only [leB, decide_eq_true_eq] at h1
  rcases List.le_iff_lt_or_eq.1 h1 with h3 | h3
  · exact h3
  · exact absurd h3 h2
theorem ranges_below {w w' : World} {k : TypeId} {b r n : Nat} {D : DataW Value} {left : Lit → Bool} {c : Nat} (h : w.ranges Tryz.prog k asIs b r n D left c) (hb : Below w.heap.size w w') : w'.ranges Tryz.prog k asIs b r n D left c :=
  h.kept (row := none) ⟨hb.os, hb.tape, hb.output, hb.size, fun i hi _ => hb.block i hi⟩ (by simp) (by simp)
end Go.Proofs.YtlhaiflebigdlaaGreat
end
section
namespace Go.Proofs
open Go.RowKit Go.Sort Go.Shelf
def Tryz.sorts_ren : Go.Shelf.Ren := ⟨fun | 6 => 41 | 8 => 58 | 9 => 57 | 19 => 88 | 20 => 89 | 21 => 79 | 22 => 80 | 23 => 81 | 24 => 82 | 25 => 83 | 26 => 84 | 27 => 85 | 28 => 86 | 29 => 87 | 36 => 97 | 31 => 98 | 32 => 99 | 37 => 100 | 38 => 101 | 39 => 102 | 41 => 108 | n => n, fun | 27 => 106 | 29 => 9 | 3 => 3 | 32 => 136 | 26 => 106 | 0 => 0 | 44 => 162 | 46 => 23 | 4 => 4 | 36 => 154 | 35 => 153 | 41 => 159 | 5 => 5 | 9 => 9 | 53 => 167 | 57 => 170 | 63 => 175 | 64 => 176 | n => n, fun | n => n⟩
theorem Tryz.sorts : Go.Proofs.SlLaysM.n6 Tryz.prog Tryz.sorts_ren := {
  mixed := by kernel_rfl
  f6 := ⟨Tryz.f41.name, by decide, Tryz.func41.trans (congrArg some (by kernel_rfl))⟩
  f8 := Tryz.func58.trans (congrArg some (by kernel_rfl))
  f9 := ⟨Tryz.f57.name, by decide, Tryz.func57.trans (congrArg some (by kernel_rfl))⟩
  f19 := Tryz.func88.trans (congrArg some (by kernel_rfl))
  f20 := Tryz.func89.trans (congrArg some (by kernel_rfl))
  f21 := ⟨Tryz.f79.name, by decide, Tryz.func79.trans (congrArg some (by kernel_rfl))⟩
  f22 := ⟨Tryz.f80.name, by decide, Tryz.func80.trans (congrArg some (by kernel_rfl))⟩
  f23 := ⟨Tryz.f81.name, by decide, Tryz.func81.trans (congrArg some (by kernel_rfl))⟩
  f24 := ⟨Tryz.f82.name, by decide, Tryz.func82.trans (congrArg some (by kernel_rfl))⟩
  f25 := ⟨Tryz.f83.name, by decide, Tryz.func83.trans (congrArg some (by kernel_rfl))⟩
  f26 := ⟨Tryz.f84.name, by decide, Tryz.func84.trans (congrArg some (by kernel_rfl))⟩
  f27 := ⟨Tryz.f85.name, by decide, Tryz.func85.trans (congrArg some (by kernel_rfl))⟩
  f28 := ⟨Tryz.f86.name, by decide, Tryz.func86.trans (congrArg some (by kernel_rfl))⟩
  f29 := ⟨Tryz.f87.name, by decide, Tryz.func87.trans (congrArg some (by kernel_rfl))⟩
  f31 := Tryz.func98.trans (congrArg some (by kernel_rfl))
  f32 := Tryz.func99.trans (congrArg some (by kernel_rfl))
  f36 := ⟨Tryz.f97.name, by decide, Tryz.func97.trans (congrArg some (by kernel_rfl))⟩
  f37 := ⟨Tryz.f100.name, by decide, Tryz.func100.trans (congrArg some (by kernel_rfl))⟩
  f38 := ⟨Tryz.f101.name, by decide, Tryz.func101.trans (congrArg some (by kernel_rfl))⟩
  f39 := ⟨Tryz.f102.name, by decide, Tryz.func102.trans (congrArg some (by kernel_rfl))⟩
  f41 := ⟨Tryz.f108.name, by decide, Tryz.func108.trans (congrArg some (by kernel_rfl))⟩
  t0 := Tryz.underlying0
  a0 := Tryz.isAgg0
  z0 := Tryz.sizeOf0
  v0 := Tryz.zeroValue0
  t3 := Tryz.underlying3
  a3 := Tryz.isAgg3
  z3 := Tryz.sizeOf3
  v3 := Tryz.zeroValue3
  t4 := Tryz.underlying4
  a4 := Tryz.isAgg4
  z4 := Tryz.sizeOf4
  v4 := Tryz.zeroValue4
  t5 := Tryz.underlying5
  a5 := Tryz.isAgg5
  z5 := Tryz.sizeOf5
  v5 := Tryz.zeroValue5
  t9 := Tryz.underlying9
  a9 := Tryz.isAgg9
  z9 := Tryz.sizeOf9
  v9 := Tryz.zeroValue9
  t26 := Tryz.underlying106
  a26 := Tryz.isAgg106
  z26 := Tryz.sizeOf106
  v26 := Tryz.zeroValue106
  t27 := Tryz.underlying106
  a27 := Tryz.isAgg106
  z27 := Tryz.sizeOf106
  v27 := Tryz.zeroValue106
  t29 := Tryz.underlying9
  a29 := Tryz.isAgg9
  z29 := Tryz.sizeOf9
  v29 := Tryz.zeroValue9
  t32 := Tryz.underlying136
  a32 := Tryz.isAgg136
  z32 := Tryz.sizeOf136
  v32 := Tryz.zeroValue136
  t35 := Tryz.underlying153
  a35 := Tryz.isAgg153
  z35 := Tryz.sizeOf153
  v35 := Tryz.zeroValue153
  t36 := Tryz.underlying154
  a36 := Tryz.isAgg154
  z36 := Tryz.sizeOf154
  v36 := Tryz.zeroValue154
  t41 := Tryz.underlying159
  a41 := Tryz.isAgg159
  z41 := Tryz.sizeOf159
  v41 := Tryz.zeroValue159
  t44 := Tryz.underlying162
  a44 := Tryz.isAgg162
  z44 := Tryz.sizeOf162
  v44 := Tryz.zeroValue162
  t46 := Tryz.underlying23
  a46 := Tryz.isAgg23
  z46 := Tryz.sizeOf23
  v46 := Tryz.zeroValue23
  t53 := Tryz.underlying167
  a53 := Tryz.isAgg167
  z53 := Tryz.sizeOf167
  v53 := Tryz.zeroValue167
  t57 := Tryz.underlying170
  a57 := Tryz.isAgg170
  z57 := Tryz.sizeOf170
  v57 := Tryz.zeroValue170
  t63 := Tryz.underlying175
  a63 := Tryz.isAgg175
  z63 := Tryz.sizeOf175
  v63 := Tryz.zeroValue175
  t64 := Tryz.underlying176
  a64 := Tryz.isAgg176
  z64 := Tryz.sizeOf176
  v64 := Tryz.zeroValue176 }

theorem Tryz.sort_strings (blk off cap : Nat) (ss : List (List UInt8)) (w : World) (hH : Holds encStr w blk off ss.toArray) (hblk : blk < w.heap.size) (hsz : ss.length < 4611686018427387904) :
    Calls Tryz.prog 41 #[.slice (some ⟨blk, off, none⟩) ss.length cap] w fun e w' => e = .returned (.tuple #[]) ∧ ∃ n os, w' = grow (putRow encStr (Sort.ahead w n) blk off (ss.mergeSort fun x y => decide (x ≤ y)).toArray) os :=
  AnyM.slices_Sort_string Tryz.sorts blk off cap ss w hH hblk hsz
theorem Tryz.sort_none (p : Option Addr) (cap : Nat) (w : World) : Calls Tryz.prog 41 #[.slice p 0 cap] w fun e w' => e = .returned (.tuple #[]) ∧ w' = w := AnyM.slices_Sort_string_none Tryz.sorts p cap w
end Go.Proofs
end
section
namespace Go.Proofs.YtlhaiflebigdlaaGreat
open Go.RowKit Go.Proofs.Mem Go.Shelf
open Go.Sort
set_option linter.unusedVariables false
set_option linter.unusedSimpArgs false
attribute [local go_sem] Oper.semAt_some
set_option maxRecDepth 100000 in
theorem list_any (p : Nat) (kind : Int) (w : World) : Calls Tryz.prog 22 #[.pointer (some ⟨p, 0, none⟩), .int .i64 kind] w fun e w' => e = .returned (.func (.func 40) #[] #[.pointer (some ⟨w.heap.size, 0, none⟩), .pointer (some ⟨w.heap.size + 1, 0, none⟩)]) ∧ w' = (w.alloc (.cells #[.pointer (some ⟨p, 0, none⟩)] 26)).alloc (.cells #[.int .i64 kind] 3) := by
  go_enter Tryz.func22, Tryz.ntmps22
  go_wp2_with fail
  go_ret
  exact ⟨rfl, rfl⟩
theorem info_str : (Tryz.prog.info? 9).map (fun i => (i.zero, i.size, i.bytes)) = some (some (.string ⟨#[]⟩), 1, 16) := by kernel_rfl
theorem sort_own (w : World) (base : Nat) (v : Value) (ss : List (List UInt8)) (h : w.ownsRow base 9 1 v ss.length (ss.map encStr)) (hsz : ss.length < 4611686018427387904) :
    Calls Tryz.prog 41 #[v] w fun e w' => e = .returned (.tuple #[]) ∧ w'.ownsRow base 9 1 v ss.length ((ss.mergeSort leB).map encStr) ∧ w.grownBy w' v.ownBlock := by
  rcases Nat.eq_zero_or_pos ss.length with h0 | h0
  · have hss : ss = [] := List.eq_nil_of_length_eq_zero h0
    subst hss
    obtain ⟨A, c, rfl, _⟩ := id (Sl.of_own h)
    refine (Tryz.sort_none A c w).mono ?_
    rintro e w' ⟨rfl, rfl⟩
    refine ⟨rfl, ?_, World.grownBy.refl _ _⟩
    simpa using h
  · obtain ⟨g, cap, cur, rfl, hg, hk, h1, h2, h3, h4⟩ := own_parts h h0
    refine (Tryz.sort_strings g 0 cap ss w (holds_of_block hk (by simpa using h4)) hk.lt hsz).mono ?_
    rintro e w' ⟨rfl, n, os, rfl⟩
    exact ⟨rfl, ownsRow_sorted (by simp) hg hk h1 h2 h3, grownBy_sorted _⟩
def KeepL (n₀ : Nat) (F : Nat → Prop) (W W' : World) : Prop := W'.os = W.os ∧ W'.tape = W.tape ∧ W'.output = W.output ∧ W.heap.size ≤ W'.heap.size ∧ (∀ i, i < n₀ → ¬ F i → W'.heap[i]? = W.heap[i]?) ∧ ∀ i o, n₀ ≤ i → W.heap[i]? = some o → o.isCells = true → W'.heap[i]? = some o
theorem KeepL.trans {n₀ : Nat} {F : Nat → Prop} {A B C : World} (h : KeepL n₀ F A B) (k : KeepL n₀ F B C) : KeepL n₀ F A C :=
  ⟨k.1.trans h.1, k.2.1.trans h.2.1, k.2.2.1.trans h.2.2.1, Nat.le_trans h.2.2.2.1 k.2.2.2.1, fun i hi hn => (k.2.2.2.2.1 i hi hn).trans (h.2.2.2.2.1 i hi hn), fun i o hi ho hc => k.2.2.2.2.2 i o hi (h.2.2.2.2.2 i o hi ho hc) hc⟩
theorem KeepL.of_below {n₀ : Nat} {F : Nat → Prop} {A B : World} (h : Below A.heap.size A B) (hn : n₀ ≤ A.heap.size) : KeepL n₀ F A B :=
  ⟨h.os, h.tape, h.output, h.size, fun i hi _ => h.block i (by omega), fun i o _ ho _ => (h.block i (Array.getElem?_eq_some_iff.1 ho).1).trans ho⟩
theorem KeepL.put {n₀ : Nat} {F : Nat → Prop} (W : World) (l : Nat) (o o' : Obj) (hl : n₀ ≤ l) (ho : W.heap[l]? = some o) (hc : o.isCells = false) (_ : o.isWalk = false) : KeepL n₀ F W (W.putObj l o') :=
  ⟨rfl, rfl, rfl, by simp [World.putObj], fun i hi _ => World.putObj_heap_other (by omega), fun i q hi hq hqc => (World.putObj_heap_other (fun e => by
    subst e
    rw [ho] at hq
    injection hq with hq
    rw [hq] at hc
    rw [hc] at hqc
    cases hqc)).trans hq⟩
theorem KeepL.tch {n₀ : Nat} {F : Nat → Prop} {w A B : World} (hn : n₀ = w.heap.size) (h : Tch F w A) (k : KeepL n₀ F A B) : Tch F w B :=
  ⟨k.1.trans h.1, k.2.1.trans h.2.1, k.2.2.1.trans h.2.2.1, Nat.le_trans h.size k.2.2.2.1, fun i hi hn' => (k.2.2.2.2.1 i (by omega) hn').trans (h.2.2.2.2 i hi hn')⟩
theorem tch_below {w w' W : World} {F : Nat → Prop} (h : Tch F W w) (hb : Below w.heap.size w w') : Tch F W w' := h.trans (Tch.of_below hb) fun _ _ h => h
theorem tch_cell {F : Nat → Prop} {w w' : World} (h : Tch F w w') {g i : Nat} {u : Value} (hc : w.cell? ⟨g, i, none⟩ = some u) (hg : ¬ F g) : w'.cell? ⟨g, i, none⟩ = some u := by
  have h1 := h.2.2.2.2 g (World.block_lt_of_cell? _ _ hc) hg
  unfold World.cell? at hc ⊢
  simp only at hc ⊢
  rw [h1]
  exact hc
def KnL (cl : List Ob) (kind : Int) (pre : List Ob) (x : Ob) (W : World) : Prop := ∃ z ∈ cl, z.kind = kind ∧ (nms cl kind)[pre.length]? = some z.name.data.toList ∧ nf x = nf z ∧ x.Ok W
set_option maxHeartbeats 4000000 in
set_option maxRecDepth 100000 in
theorem list_in (m : Nat) (hm : 1 ≤ m) (l p b n bs bk n₀ : Nat) (D : DataW Value) (F : Nat → Prop) (cl : List Ob) (kind : Int) (hcl : cl.length ≤ 100000) (J Jx : List Ob → World → Prop) (w W : World) (hW : Below w.heap.size w W) (hn₀ : n₀ = w.heap.size)
    (hp : w.cell? ⟨p, 1, none⟩ = some (.map (some b))) (hmp : Mp Tryz.prog w 81 b n D) (R : SRel D F w cl) (hbs : w.cell? ⟨bs, 0, none⟩ = some (.pointer (some ⟨p, 0, none⟩))) (hbk : w.cell? ⟨bk, 0, none⟩ = some (.int .i64 kind))
    (hF : ¬ F p ∧ ¬ F b ∧ ¬ F bs ∧ ¬ F bk) (hJ : AbidesFrom W.heap.size J)
    (hY : ∀ pre x W1, J pre W1 → KnL cl kind pre x W1 → YieldAt Fence.wide (m - 1) Tryz.prog l #[.agg x.cells.toArray] W1 fun e W' => (e = .returned (.bool true) ∧ J (pre ++ [x]) W' ∧ KeepL n₀ F W1 W') ∨ (e = .returned (.bool false) ∧ Jx (pre ++ [x]) W' ∧ KeepL n₀ F W1 W'))
    (h0 : J [] W) :
    CallsIn Fence.wide m Tryz.prog 40 #[.func (.yield l) #[] #[], .pointer (some ⟨bs, 0, none⟩), .pointer (some ⟨bk, 0, none⟩)] W fun e W' => (∃ v, e = .returned v) ∧ ((∃ ys, ys.length = (nms cl kind).length ∧ J ys W') ∨ (∃ pre, Jx pre W')) := by
  have HP := Lib.hid (And.intro hp (And.intro hmp (And.intro R (And.intro hbs (And.intro hbk (And.intro hW hn₀))))))
  have HJ := Lib.hid (And.intro hJ (And.intro hY (And.intro h0 hF)))
  have e0 := keep_cell hW hbs
  have e1 := keep_cell hW hbk
  have e2 := keep_cell hW hp
  have hmW := hmp.below hW
  have HMW := Lib.hid hmW
  clear hp hmp R hbs hbk hW hn₀ hJ hY h0 hF hmW
  refine callsIn_of_wp Tryz.func40 rfl trivial ?_ rfl
  simp only [Tryz.ntmps40, List.size_toArray, List.length_cons, List.length_nil, Nat.reduceAdd, Nat.reduceSub, Array.replicate_succ, Array.replicate_zero, List.push_toArray, List.append_toArray, List.nil_append, List.cons_append]
  refine wpIn_seq ?_
  refine wpIn_wide.2 ?_
  refine wp_hide fun QA HQA => ?_
  go_wp2_with fail
  rw [HQA.out]
  simp only [Exit.then]
  refine wpIn_seq ?_
  refine wpIn_wide.2 ?_
  refine wp_hide fun QB HQB => ?_
  go_wp2_with fail
  rw [HQB.out]
  simp only [Exit.then]
  refine wpIn_seq ?_
  refine wpIn_wide.2 ?_
  refine wp_hide fun QC HQC => ?_
  go_wp2_with (at_range; refine wpList_range_own _ rfl _ 71 rfl 81 56 stK underSt asIs b n D rfl HMW.out ?_; intro w0 hrg0 hg0 hs0)
  have hB0 : Below W.heap.size W w0 := ⟨hg0.os, hg0.tape, hg0.output, hg0.size, fun i hi => hg0.block i hi (by simp)⟩
  have h0s : Hid (w0.ranges Tryz.prog 81 asIs b W.heap.size n D (Maps.has D) (Maps.size D) ∧ w0.ownsRow W.heap.size 9 1 (.slice none 0 0) ([] : List (List UInt8)).length (([] : List (List UInt8)).map encStr) ∧ ([] : List (List UInt8)).Nodup ∧ (∀ s, s ∈ ([] : List (List UInt8)) ↔ ∃ x ∈ cl, x.kind = kind ∧ x.name.data.toList = s ∧ Maps.has D (kOf kind x.name) = false) ∧ (∀ kl, Maps.has D kl = true → Maps.has D kl = true) ∧ Below W.heap.size W w0) := by
    refine ⟨hrg0, World.ownsRow_nil _ _ _ _, List.nodup_nil, fun s => ⟨fun h => (by cases h), ?_⟩, fun _ h => h, hB0⟩
    rintro ⟨x, hx, hk, _, hh⟩
    have := (HP.out.2.2.1.at1 x hx).1
    rw [hk, hh] at this
    cases this
  clear hg0 hs0 hB0 hrg0
  go_frame
  go_loopw [4] (fun nv wr => ∃ (left : Lit → Bool) (cn : Nat) (ss : List (List UInt8)), Hid (wr.ranges Tryz.prog 81 asIs b W.heap.size n D left cn ∧ wr.ownsRow W.heap.size 9 1 nv ss.length (ss.map encStr) ∧ ss.Nodup ∧ (∀ s, s ∈ ss ↔ ∃ x ∈ cl, x.kind = kind ∧ x.name.data.toList = s ∧ left (kOf kind x.name) = false) ∧ (∀ kl, left kl = true → Maps.has D kl = true) ∧ Below W.heap.size W wr)) (fun _ wr => wr.rangeLeft b W.heap.size)
  case atStart => exact ⟨_, _, [], h0s⟩
  case round =>
    clear h0s e0 e1 e2
    obtain ⟨left, cn, ss, hE⟩ := hrel
    obtain ⟨A1, c1, ev1, _⟩ := id (Sl.of_own hE.out.2.1)
    subst ev1
    go_wp2_with (at_next; refine wpList_next_ranges _ rfl _ rfl 81 stK asIs id id (fun key kl _ => ⟨key, rfl⟩) (fun v y _ => ⟨v, rfl⟩) b W.heap.size n D left cn rfl hE.out.1 ?_ ?_)
    · intro hc0 hl0
      have hnm : ss.mergeSort leB = nms cl kind := nms_of HP.out.2.2.1.uniq hE.out.2.2.1 fun s => by
        rw [hE.out.2.2.2.1]
        simp [hl0]
      have hssl : ss.length = (nms cl kind).length := by rw [← hnm]; simp
      have hlen : (nms cl kind).length ≤ 100000 := by
        refine Nat.le_trans ?_ hcl
        have h1 := List.Nodup.length_le_of_subset (l₂ := cl.map fun x : Ob => x.name.data.toList) (nms_nodup HP.out.2.2.1.uniq kind) fun s hs => by
          obtain ⟨x, hx, _, hn⟩ := nms_mem.1 hs
          exact List.mem_map.2 ⟨x, hx, hn⟩
        rwa [List.length_map] at h1
      have hso := sort_own wr W.heap.size _ ss hE.out.2.1 (by omega)
      rw [hnm] at hso
      have HSO := Lib.hid (And.intro hso (And.intro hE.out.2.1 hE.out.2.2.2.2.2))
      have HN := Lib.hid (And.intro hssl hlen)
      clear hso hnm hlen hl0 hc0 hE hssl
      go_wp2_with fail
      rw [HQC.out]
      simp only [Exit.then]
      refine wpIn_seq ?_
      refine wpIn_wide.2 ?_
      refine wp_hide fun QD HQD => ?_
      go_wp2_with fail
      refine HSO.out.1.mono ?_
      rintro e wS ⟨rfl, hown, hgr⟩
      have hBS : Below W.heap.size W wS := below_grown HSO.out.2.2 HSO.out.2.1 hgr HSO.out.2.2.size (Nat.le_refl _)
      rw [HN.out.1] at hown
      have HS := Lib.hid (And.intro hown hBS)
      clear hown hBS hgr
      go_wp2_with fail
      rw [HQD.out]
      simp only [Exit.then]
      obtain ⟨L, hL⟩ : ∃ L, L = nms cl kind := ⟨_, rfl⟩
      obtain ⟨N, hN⟩ : ∃ N, N = ss.length := ⟨_, rfl⟩
      have HLN := Lib.hid (show L = nms cl kind ∧ L.length = N ∧ N ≤ 100000 from ⟨hL, by rw [hL, hN, HN.out.1], by rw [hN, HN.out.1]; exact HN.out.2⟩)
      have hrow : wS.ownsRow W.heap.size 9 1 (.slice A1 N c1) N (L.map encStr) := by
        have := HS.out.1
        rw [← HN.out.1, ← hN, ← hL] at this
        exact this
      rw [← hN]
      have hNle := HLN.out.2.2
      have h0S : Hid (J [] wS ∧ wS.ownsRow W.heap.size 9 1 (.slice A1 N c1) N (L.map encStr) ∧ Tch F w wS ∧ W.heap.size ≤ wS.heap.size) := by
        refine ⟨HJ.out.1 [] W wS none HJ.out.2.2.1 ⟨HS.out.2.os, HS.out.2.tape, HS.out.2.output, HS.out.2.size, fun k hk _ => HS.out.2.block k hk⟩ (fun r e => by cases e), hrow, ?_, HS.out.2.size⟩
        exact (Tch.of_below HP.out.2.2.2.2.2.1).trans (Tch.of_below HS.out.2) fun _ _ h => h
      clear hL hN hrow HS HSO HN
      gi_wp2
      gi_loopw [32] (fun iv wr => ∃ pre : List Ob, pre.length ≤ N ∧ iv = .int .i64 pre.length ∧ Hid (J pre wr ∧ wr.ownsRow W.heap.size 9 1 (.slice A1 N c1) N (L.map encStr) ∧ Tch F w wr ∧ W.heap.size ≤ wr.heap.size)) (fun iv wr => N - (intOf iv).toNat)
      case atStart => exact ⟨[], Nat.zero_le _, rfl, h0S⟩
      case round =>
        clear h0S
        obtain ⟨pre, hk, rfl, hE⟩ := hrel
        by_cases hlt : pre.length < N
        · obtain ⟨g, cap, cur, eA, hg, hkg, h1, h2, h3, h4⟩ := own_parts hE.out.2.1 (by omega)
          injection eA with eA1 eA2 eA3
          subst eA1
          subst eA3
          have hkL : pre.length < L.length := by rw [HLN.out.2.1]; exact hlt
          obtain ⟨z, hz, hzk, hzn⟩ := nms_mem.1 (show L[pre.length] ∈ nms cl kind by rw [← HLN.out.1]; exact List.getElem_mem hkL)
          have c0 : wr.cell? ⟨g, pre.length, none⟩ = some (.string z.name) := by
            rw [hkg.cell, ← Array.getElem?_toList]
            have e : (cur.toList.take (N * 1))[pre.length]? = (L.map encStr)[pre.length]? := by rw [h4]
            rw [List.getElem?_take_of_lt (by omega), List.getElem?_map, List.getElem?_eq_getElem hkL, ← hzn] at e
            rw [e]
            simp [encStr]
          have hge : (0 : Int) ≤ (pre.length : Int) := by omega
          have hlt2 : (pre.length : Int) < (N : Int) := by omega
          obtain ⟨_, y, hval, hys, hynf⟩ := HP.out.2.2.1.at1 z hz
          have hyw := hys.tch hE.out.2.2.1 (F' := F) fun _ _ h => h
          have hT := hE.out.2.2.1
          have k1 := tch_cell hT HP.out.2.2.2.1 HJ.out.2.2.2.2.2.1
          have k2 := tch_cell hT HP.out.1 HJ.out.2.2.2.1
          have k3 := tch_cell hT HP.out.2.2.2.2.1 HJ.out.2.2.2.2.2.2
          have k4 : Mp Tryz.prog wr 81 b n D := HP.out.2.1.of_block (hT.2.2.2.2 b HP.out.2.1.lt HJ.out.2.2.2.2.1)
          have hkey := keyOf_st z.kind z.name (HP.out.2.2.1.ok _ (mem_keys hz)).1 (HP.out.2.2.1.ok _ (mem_keys hz)).2
          have HY := Lib.hid (And.intro hyw (And.intro hynf (And.intro hz (And.intro hzk hzn))))
          have HVAL := Lib.hid hval
          have HK := Lib.hid (And.intro k1 (And.intro k2 (And.intro k3 k4)))
          clear hval hys hynf hyw hT k1 k2 k3 k4 h1 h2 h3 h4 hkg hzn hz
          subst hzk
          gi_wp2
          refine wpIn_region_sched ⟨fun _ => trivial, fun _ _ _ _ => rfl⟩ [0, 1, 2, 3, 4, 5, 6, 7, 8] [9, 10, 11] [] (fun i => !(i == 1 || i == 4 || i == 5 || i == 8)) (fun w' => w'.cell? ⟨bs, 0, none⟩ = some (.pointer (some ⟨p, 0, none⟩)) ∧ w'.cell? ⟨p, 1, none⟩ = some (.map (some b)) ∧ w'.cell? ⟨bk, 0, none⟩ = some (.int .i64 z.kind) ∧ Mp Tryz.prog w' 81 b n D) (by kernel_rfl) (by kernel_rfl) (fun c a d v w h => by cases d <;> exact h) HK.out fun u0 Hu => ?_
          refine readsI_free (v := ?_) (by rfl) (by rfl) (fun w' => ?_) ?_
          rotate_left
          · go_simp
            with_reducible rfl
          simp only [Act.put, List.setIfInBounds_toArray, List.set_cons_zero, List.set_cons_succ, List.getElem_toArray, List.getElem_cons_succ, List.getElem_cons_zero]
          refine readsI_step (v := ?_) (by rfl) (by rfl) (by rfl) (fun w' hS => ?_) ?_
          rotate_left
          · have u1 := hS.1
            have u2 := hS.2.1
            have u3 := hS.2.2.1
            clear hS
            go_simp
            with_reducible rfl
          simp only [Act.put, List.setIfInBounds_toArray, List.set_cons_zero, List.set_cons_succ, List.getElem_toArray, List.getElem_cons_succ, List.getElem_cons_zero]
          refine readsI_free (v := ?_) (by rfl) (by rfl) (fun w' => ?_) ?_
          rotate_left
          · go_simp
            with_reducible rfl
          simp only [Act.put, List.setIfInBounds_toArray, List.set_cons_zero, List.set_cons_succ, List.getElem_toArray, List.getElem_cons_succ, List.getElem_cons_zero]
          refine readsI_free (v := ?_) (by rfl) (by rfl) (fun w' => ?_) ?_
          rotate_left
          · go_simp
            with_reducible rfl
          simp only [Act.put, List.setIfInBounds_toArray, List.set_cons_zero, List.set_cons_succ, List.getElem_toArray, List.getElem_cons_succ, List.getElem_cons_zero]
          refine readsI_step (v := ?_) (by rfl) (by rfl) (by rfl) (fun w' hS => ?_) ?_
          rotate_left
          · have u1 := hS.1
            have u2 := hS.2.1
            have u3 := hS.2.2.1
            clear hS
            go_simp
            with_reducible rfl
          simp only [Act.put, List.setIfInBounds_toArray, List.set_cons_zero, List.set_cons_succ, List.getElem_toArray, List.getElem_cons_succ, List.getElem_cons_zero]
          refine readsI_step (v := ?_) (by rfl) (by rfl) (by rfl) (fun w' hS => ?_) ?_
          rotate_left
          · have u1 := hS.1
            have u2 := hS.2.1
            have u3 := hS.2.2.1
            clear hS
            go_simp
            with_reducible rfl
          simp only [Act.put, List.setIfInBounds_toArray, List.set_cons_zero, List.set_cons_succ, List.getElem_toArray, List.getElem_cons_succ, List.getElem_cons_zero]
          refine readsI_free (v := ?_) (by rfl) (by rfl) (fun w' => ?_) ?_
          rotate_left
          · go_simp
            with_reducible rfl
          simp only [Act.put, List.setIfInBounds_toArray, List.set_cons_zero, List.set_cons_succ, List.getElem_toArray, List.getElem_cons_succ, List.getElem_cons_zero]
          refine readsI_free (v := ?_) (by rfl) (by rfl) (fun w' => ?_) ?_
          rotate_left
          · go_simp
            with_reducible rfl
          simp only [Act.put, List.setIfInBounds_toArray, List.set_cons_zero, List.set_cons_succ, List.getElem_toArray, List.getElem_cons_succ, List.getElem_cons_zero]
          refine readsI_step (v := ?_) (by rfl) (by rfl) (by rfl) (fun w' hS => ?_) ?_
          rotate_left
          · have hl := hS.2.2.2.run_look stK underSt (zero47 w') hkey
            rw [HVAL.out] at hl
            clear hS
            go_simp
            with_reducible rfl
          simp only [Act.put, List.setIfInBounds_toArray, List.set_cons_zero, List.set_cons_succ, List.getElem_toArray, List.getElem_cons_succ, List.getElem_cons_zero]
          refine readsI_nil ?_
          have bu : Below wr.heap.size wr u0 := by
            rw [Hu.out]
            exact (Below.refl _ _).drew
          have hSu : u0.cell? ⟨bs, 0, none⟩ = some (.pointer (some ⟨p, 0, none⟩)) ∧ u0.cell? ⟨p, 1, none⟩ = some (.map (some b)) ∧ u0.cell? ⟨bk, 0, none⟩ = some (.int .i64 z.kind) ∧ Mp Tryz.prog u0 81 b n D := ⟨keep_cell bu HK.out.1, keep_cell bu HK.out.2.1, keep_cell bu HK.out.2.2.1, HK.out.2.2.2.below bu⟩
          have hyu := HY.out.1.ok.below bu
          have HU0 := Lib.hid (And.intro bu hSu)
          clear bu hSu Hu
          refine earlyI_call ⟨fun _ => trivial, fun _ _ _ _ => rfl⟩ (R := fun v w' => ∃ V, v = .agg (y.reval V).cells.toArray ∧ y.News w' (u0.heap.size + 3) V ∧ Below u0.heap.size u0 w') 30 #[.agg y.cells.toArray] (by rfl) (by rfl) (by go_simp) (fun h => by cases h) ((callsIn_wide.2 (vclone_any y u0 hyu)).mono fun e w' ⟨V, he, hn, hb⟩ => ⟨_, he, V, rfl, hn, hb⟩) ?_
          rintro v wC ⟨V, rfl, hnews, bC⟩
          obtain ⟨bu, hSu⟩ := HU0.out
          have hSC : wC.cell? ⟨bs, 0, none⟩ = some (.pointer (some ⟨p, 0, none⟩)) ∧ wC.cell? ⟨p, 1, none⟩ = some (.map (some b)) ∧ wC.cell? ⟨bk, 0, none⟩ = some (.int .i64 z.kind) ∧ Mp Tryz.prog wC 81 b n D := ⟨keep_cell bC hSu.1, keep_cell bC hSu.2.1, keep_cell bC hSu.2.2.1, hSu.2.2.2.below bC⟩
          refine ⟨hSC, ?_⟩
          have bwC := below_tr bu bC
          have hTC : Tch F w wC := tch_below hE.out.2.2.1 bwC
          have hJC := HJ.out.1 pre wr wC none hE.out.1 ⟨bwC.os, bwC.tape, bwC.output, bwC.size, fun k hk _ => bwC.block k hk⟩ (fun r e => by cases e)
          have hxok := hyu.fit.ok hnews
          obtain ⟨x, hx⟩ : ∃ x, x = y.reval V := ⟨_, rfl⟩
          have hnfx : nf x = nf z := by rw [hx, nf_reval]; exact HY.out.2.1
          rw [← hx] at hxok ⊢
          clear hx
          obtain ⟨fn, tmps, assign, body, hy, hR⟩ := HJ.out.2.1 pre x wC hJC ⟨z, HY.out.2.2.1, rfl, by rw [← HLN.out.1, List.getElem?_eq_getElem hkL, HY.out.2.2.2.2], hnfx, hxok⟩
          have hown := own_below hE.out.2.1 bwC
          have HC := Lib.hid (And.intro hTC (And.intro hSC (And.intro hown (And.intro bwC.size hE.out.2.2.2))))
          clear hTC hSC hown bwC hJC hxok hnfx hSu bu bC hnews hyu hE HU0 HY
          simp only [Act.put, List.setIfInBounds_toArray, List.set_cons_zero, List.set_cons_succ, List.getElem_toArray, List.getElem_cons_succ, List.getElem_cons_zero]
          refine earlyI_round ⟨fun _ => trivial, fun _ _ _ _ => rfl⟩ (R := fun v w' => (v = .bool true ∧ J (pre ++ [x]) w' ∧ KeepL n₀ F wC w') ∨ (v = .bool false ∧ Jx (pre ++ [x]) w' ∧ KeepL n₀ F wC w')) (l := l) (fn := fn) (tmps := tmps) (assign := assign) (body := body) (by rfl) (by rfl) (by first | (go_simp; exact hy) | go_simp) (fun h => by cases h) (RoundIn.mono hR fun e w' he => ?_) ?_
          · rcases he with ⟨rfl, h⟩ | ⟨rfl, h⟩
            · exact ⟨_, rfl, .inl ⟨rfl, h⟩⟩
            · exact ⟨_, rfl, .inr ⟨rfl, h⟩⟩
          intro v w9 hv
          have hk9 : KeepL n₀ F wC w9 := by
            rcases hv with ⟨_, _, h⟩ | ⟨_, _, h⟩ <;> exact h
          have hT9 : Tch F w w9 := KeepL.tch HP.out.2.2.2.2.2.2 HC.out.1 hk9
          have hS9 : w9.cell? ⟨bs, 0, none⟩ = some (.pointer (some ⟨p, 0, none⟩)) ∧ w9.cell? ⟨p, 1, none⟩ = some (.map (some b)) ∧ w9.cell? ⟨bk, 0, none⟩ = some (.int .i64 z.kind) ∧ Mp Tryz.prog w9 81 b n D :=
            ⟨tch_cell hT9 HP.out.2.2.2.1 HJ.out.2.2.2.2.2.1, tch_cell hT9 HP.out.1 HJ.out.2.2.2.1, tch_cell hT9 HP.out.2.2.2.2.1 HJ.out.2.2.2.2.2.2, HP.out.2.1.of_block (hT9.2.2.2.2 b HP.out.2.1.lt HJ.out.2.2.2.2.1)⟩
          have hown9 : w9.ownsRow W.heap.size 9 1 (.slice (some ⟨g, 0, none⟩) N c1) N (L.map encStr) := own_block HC.out.2.2.1 fun g' hg' => by
            have h1 := HC.out.2.2.1.lt g' hg'
            injection hg' with hg'
            subst hg'
            obtain ⟨g2, cap2, cur2, e2, _, hk2, _⟩ := own_parts HC.out.2.2.1 (by omega)
            injection e2 with e2
            injection e2 with e2
            injection e2 with e2
            subst e2
            have h2 := hk9.2.2.2.2.2 g _ (by rw [HP.out.2.2.2.2.2.2]; exact Nat.le_trans HP.out.2.2.2.2.2.1.size h1.1) hk2 rfl
            exact h2.trans hk2.symm
          refine ⟨hS9, ?_⟩
          have H9 := Lib.hid (And.intro hT9 (And.intro hown9 (Nat.le_trans HC.out.2.2.2.2 (Nat.le_trans HC.out.2.2.2.1 hk9.2.2.2.1))))
          clear hk9 hT9 hown9 HC hR hy
          simp only [Act.put, List.setIfInBounds_toArray, List.set_cons_zero, List.set_cons_succ, List.getElem_toArray, List.getElem_cons_succ, List.getElem_cons_zero]
          rcases hv with ⟨rfl, hJ9, _⟩ | ⟨rfl, hJ9, _⟩
          · refine earlyI_run ⟨fun _ => trivial, fun _ _ _ _ => rfl⟩ (v := .bool false) (w1 := w9) (by rfl) (by rfl) (by go_simp) hS9 ?_
            simp only [Act.put, List.setIfInBounds_toArray, List.set_cons_zero, List.set_cons_succ, List.getElem_toArray, List.getElem_cons_succ, List.getElem_cons_zero]
            refine earlyI_nil ?_
            simp only [List.filterMap_nil]
            have HJ9 := Lib.hid hJ9
            clear hJ9 hS9
            gi_wp2
            go_roundw
            case rel => exact ⟨pre ++ [x], by simp; omega, by simp, ⟨HJ9.out, H9.out.2.1, H9.out.1, H9.out.2.2⟩⟩
            case measure => simp [intOf]; omega
          · refine earlyI_run ⟨fun _ => trivial, fun _ _ _ _ => rfl⟩ (v := .bool true) (w1 := w9) (by rfl) (by rfl) (by go_simp) hS9 ?_
            simp only [Act.put, List.setIfInBounds_toArray, List.set_cons_zero, List.set_cons_succ, List.getElem_toArray, List.getElem_cons_succ, List.getElem_cons_zero]
            refine earlyI_nil ?_
            simp only [List.filterMap_nil]
            have HJ9 := Lib.hid hJ9
            clear hJ9 hS9
            gi_wp2
            refine bodyPost_ret (results_none rfl _ _ _) rfl ?_
            exact ⟨⟨_, rfl⟩, .inr ⟨_, HJ9.out⟩⟩
        · have hke : pre.length = N := by omega
          have hJe := hE.out.1
          clear hE
          gi_wp2
          go_end0
          exact ⟨⟨_, rfl⟩, .inl ⟨pre, by rw [hke, ← HLN.out.2.1, HLN.out.1], hJe⟩⟩
    · intro x cv kl y1 y2 w1 cn1 hkey hlk hv hat hrg1 hlt hg1 hs1 hen
      try simp only [id] at hkey
      try simp only [id] at hv
      try simp only [id] at hen
      obtain ⟨⟨yk, yn⟩, hyk, rfl, rfl⟩ := key_inv hkey
      simp only at hen hlk hrg1
      have hykc : (yk, yn) ∈ keys cl := by
        refine Classical.byContradiction fun hno => ?_
        have h1 := HP.out.2.2.1.at0 (yk, yn) hyk hno
        rw [hE.out.2.2.2.2.1 _ hlk] at h1
        cases h1
      obtain ⟨z, hz, ez⟩ := List.mem_map.1 hykc
      have hssl : ss.length ≤ cl.length := by
        have h1 := List.Nodup.length_le_of_subset (l₂ := cl.map fun x : Ob => x.name.data.toList) hE.out.2.2.1 fun s hs => by
          obtain ⟨x, hx, _, hn, _⟩ := (hE.out.2.2.2.1 s).1 hs
          exact List.mem_map.2 ⟨x, hx, hn⟩
        rwa [List.length_map] at h1
      have hBw : Below W.heap.size W w1 := ⟨hg1.os.trans hE.out.2.2.2.2.2.os, hg1.tape.trans hE.out.2.2.2.2.2.tape, hg1.output.trans hE.out.2.2.2.2.2.output, Nat.le_trans hE.out.2.2.2.2.2.size hg1.size, fun i hi => (hg1.block i (Nat.lt_of_lt_of_le hi hE.out.2.2.2.2.2.size) (by simp; omega)).trans (hE.out.2.2.2.2.2.block i hi)⟩
      have BA := below_al w1 (.cells #[.int .i64 yk, .string yn] 81)
      have hBA : Below W.heap.size W (w1.alloc (.cells #[.int .i64 yk, .string yn] 81)) := hBw.trans (BA.mono hBw.size)
      have e1 : (w1.alloc (.cells #[.int .i64 yk, .string yn] 81)).cell? ⟨bk, 0, none⟩ = some (.int .i64 kind) := keep_cell hBA (keep_cell HP.out.2.2.2.2.2.1 HP.out.2.2.2.2.1)
      have hrow1 : w1.ownsRow W.heap.size 9 1 (.slice A1 ss.length c1) ss.length (ss.map encStr) := own_block hE.out.2.1 fun g hg => hg1.block g (hE.out.2.1.lt g hg).2 (fun e => by
        injection e with e
        exact Go.row_ne_iter hE.out.2.1 hE.out.1 (by rw [← e]; exact hg.symm))
      have hsame : ∀ x ∈ cl, x.kind = kind → (kOf kind x.name).sameKey (kOf yk yn) = decide ((yk, yn) = (kind, x.name)) := fun x hx hk => by
        by_cases e : (yk, yn) = (kind, x.name)
        · obtain ⟨rfl, rfl⟩ := Prod.mk.inj e
          rw [WideAt.sameKey_self (keyLit_kOf _ _)]
          simp
        · have hkx : KeyOk (kind, x.name) := hk ▸ HP.out.2.2.1.ok _ (mem_keys hx)
          rw [Maps.sameKey_ne (kOf_ne hkx hyk (fun e' => e e'.symm))]
          simp [e]
      have hHE := Lib.hid (And.intro hrg1 (And.intro hrow1 (And.intro hE.out.2.2.1 (And.intro hE.out.2.2.2.1 (And.intro hE.out.2.2.2.2.1 (And.intro hBA (And.intro hE.out.1 hlt)))))))
      have HKK := Lib.hid (And.intro hlk (And.intro hsame (And.intro hz ez)))
      have hssl2 : ss.length ≤ 100000 := Nat.le_trans hssl hcl
      clear hrg1 hrow1 hE hlk hat hv hkey hBw hBA BA hlt hg1 hs1 hykc hz ez hsame hssl
      by_cases hk : yk = kind
      · subst hk
        have hnew : ss.Nodup ∧ yn.data.toList ∉ ss := ⟨hHE.out.2.2.1, fun hs => by
          obtain ⟨x, hx, hxk, hxn, hxl⟩ := (hHE.out.2.2.2.1 _).1 hs
          rw [bytes_inj hxn, HKK.out.1] at hxl
          cases hxl⟩
        have hstr : encStr yn.data.toList = .string yn := by simp [encStr]
        have HN := Lib.hid (And.intro hnew hstr)
        clear hnew hstr
        obtain ⟨WA, hWA⟩ : ∃ WA, WA = (w1.alloc (.cells #[.int .i64 yk, .string yn] 81)).alloc (.cells #[.string yn] 9) := ⟨_, rfl⟩
        have BB : Below w1.heap.size w1 WA := by rw [hWA]; exact below_tr (below_al _ _) (below_al _ _)
        have hsl : Sl WA 1 (.slice (some ⟨w1.heap.size + 1, 0, none⟩) 1 1) 1 [.string yn] := by
          have h := Sl.made (w1.alloc (.cells #[.int .i64 yk, .string yn] 81)) #[.string yn] 9 (size := 1) 1 1 (Nat.le_refl _) rfl
          rw [World.size_alloc, ← hWA] at h
          exact h
        have HAP := Lib.hid (And.intro (own_below hHE.out.2.1 BB) (And.intro hsl (And.intro BB (show W.heap.size ≤ WA.heap.size by have h1 := hHE.out.2.2.2.2.2.1.size; have h2 := BB.size; rw [World.size_alloc] at h1; rw [hWA, World.size_alloc, World.size_alloc]; omega))))
        have HWA := Lib.hid hWA.symm
        clear hsl BB hWA
        go_wp2_with (at_builtin; rw [HWA.out]; refine wpl_append rfl _ _ _ rfl W.heap.size 9 _ 1 16 Tryz.underlying106 info_str rfl (by omega) (by omega) (.slice A1 ss.length c1) ss.length (ss.map encStr) rfl HAP.out.1 _ 1 [.string yn] rfl HAP.out.2.1 (by intro u hu; simp at hu; subst hu; rfl) (by omega) HAP.out.2.2.2 ?_; intro v' w6 hown6 hgrow6 hfrom6)
        have hr6 : w6.ranges Tryz.prog 81 asIs b W.heap.size n D (fun z => left z && !z.sameKey (kOf yk yn)) cn1 :=
          (ranges_below hHE.out.1 HAP.out.2.2.1).kept hgrow6 (Go.row_ne_low HAP.out.1 HMW.out.lt) (Go.row_ne_iter HAP.out.1 (ranges_below hHE.out.1 HAP.out.2.2.1))
        have hB6 : Below W.heap.size W w6 := below_grown (hHE.out.2.2.2.2.2.1.trans ((below_al _ _).mono hHE.out.2.2.2.2.2.1.size) |> fun h => by rw [← HWA.out]; exact h) HAP.out.1 hgrow6 HAP.out.2.2.2 (Nat.le_refl _)
        have hE6 : Hid (w6.ranges Tryz.prog 81 asIs b W.heap.size n D (fun z => left z && !z.sameKey (kOf yk yn)) cn1 ∧ w6.ownsRow W.heap.size 9 1 v' (ss ++ [yn.data.toList]).length ((ss ++ [yn.data.toList]).map encStr) ∧ (ss ++ [yn.data.toList]).Nodup ∧ (∀ s, s ∈ ss ++ [yn.data.toList] ↔ ∃ x ∈ cl, x.kind = yk ∧ x.name.data.toList = s ∧ (fun z => left z && !z.sameKey (kOf yk yn)) (kOf yk x.name) = false) ∧ (∀ kl, (fun z => left z && !z.sameKey (kOf yk yn)) kl = true → Maps.has D kl = true) ∧ Below W.heap.size W w6) := by
          refine ⟨hr6, ?_, ?_, fun s => ?_, fun kl h => hHE.out.2.2.2.2.1 kl (by simp at h; exact h.1), hB6⟩
          · rw [List.length_append, List.map_append, List.map_cons, List.map_nil, HN.out.2]
            exact hown6
          · refine List.nodup_append.2 ⟨HN.out.1.1, by simp, fun a ha c hc e => HN.out.1.2 ?_⟩
            simp only [List.mem_cons, List.not_mem_nil, or_false] at hc
            rw [← hc, ← e]
            exact ha
          · rw [List.mem_append, hHE.out.2.2.2.1]
            constructor
            · rintro (⟨x, hx, hk, hn, hl⟩ | h)
              · exact ⟨x, hx, hk, hn, by simp only [hl, Bool.false_and]⟩
              · simp only [List.mem_cons, List.not_mem_nil, or_false] at h
                obtain ⟨h1, h2⟩ := Prod.mk.inj HKK.out.2.2.2
                refine ⟨z, HKK.out.2.2.1, h1, by rw [h2, h], ?_⟩
                show (left (kOf yk z.name) && !(kOf yk z.name).sameKey (kOf yk yn)) = false
                rw [h2, WideAt.sameKey_self (keyLit_kOf _ _)]
                simp
            · rintro ⟨x, hx, hk, hn, hl⟩
              have hl' : (left (kOf yk x.name) && !(kOf yk x.name).sameKey (kOf yk yn)) = false := hl
              rw [HKK.out.2.1 x hx hk] at hl'
              by_cases e : yn = x.name
              · right
                simp [e, hn]
              · left
                refine ⟨x, hx, hk, hn, ?_⟩
                have : decide ((yk, yn) = (yk, x.name)) = false := by simp [e]
                rw [this] at hl'
                simpa using hl'
        exact ⟨⟨_, cn1, _, hE6⟩, by rw [hr6.left_eq, hHE.out.2.2.2.2.2.2.1.left_eq]; exact hHE.out.2.2.2.2.2.2.2⟩
      · go_wp2_with fail
        have hr6 := ranges_below hHE.out.1 (below_al w1 (.cells #[.int .i64 yk, .string yn] 81))
        have hE6 : Hid ((w1.alloc (.cells #[.int .i64 yk, .string yn] 81)).ranges Tryz.prog 81 asIs b W.heap.size n D (fun z => left z && !z.sameKey (kOf yk yn)) cn1 ∧ (w1.alloc (.cells #[.int .i64 yk, .string yn] 81)).ownsRow W.heap.size 9 1 (.slice A1 ss.length c1) ss.length (ss.map encStr) ∧ ss.Nodup ∧ (∀ s, s ∈ ss ↔ ∃ x ∈ cl, x.kind = kind ∧ x.name.data.toList = s ∧ (fun z => left z && !z.sameKey (kOf yk yn)) (kOf kind x.name) = false) ∧ (∀ kl, (fun z => left z && !z.sameKey (kOf yk yn)) kl = true → Maps.has D kl = true) ∧ Below W.heap.size W (w1.alloc (.cells #[.int .i64 yk, .string yn] 81))) := by
          refine ⟨hr6, own_below hHE.out.2.1 (below_al _ _), hHE.out.2.2.1, fun s => ?_, fun kl h => hHE.out.2.2.2.2.1 kl (by simp at h; exact h.1), hHE.out.2.2.2.2.2.1⟩
          rw [hHE.out.2.2.2.1]
          refine exists_congr fun x => and_congr_right fun hx => and_congr_right fun hkx => and_congr_right fun _ => ?_
          show _ ↔ (left (kOf kind x.name) && !(kOf kind x.name).sameKey (kOf yk yn)) = false
          rw [HKK.out.2.1 x hx hkx]
          have : decide ((yk, yn) = (kind, x.name)) = false := by simp [hk]
          rw [this]
          simp
        exact ⟨⟨_, cn1, _, hE6⟩, by rw [hr6.left_eq, hHE.out.2.2.2.2.2.2.1.left_eq]; exact hHE.out.2.2.2.2.2.2.2⟩
theorem list_knows (m : Nat) (hm : 1 ≤ m) {p b n bs bk : Nat} {D : DataW Value} {F : Nat → Prop} {cl : List Ob} (kind : Int) (hcl : cl.length ≤ 100000) (w : World) (hp : w.cell? ⟨p, 1, none⟩ = some (.map (some b))) (hmp : Mp Tryz.prog w 81 b n D) (R : SRel D F w cl) (hbs : w.cell? ⟨bs, 0, none⟩ = some (.pointer (some ⟨p, 0, none⟩))) (hbk : w.cell? ⟨bk, 0, none⟩ = some (.int .i64 kind)) (hF : ¬ F p ∧ ¬ F b ∧ ¬ F bs ∧ ¬ F bk) :
    SeqKnows Fence.wide m Tryz.prog 40 #[.pointer (some ⟨bs, 0, none⟩), .pointer (some ⟨bk, 0, none⟩)] (fun x : Ob => #[Value.agg x.cells.toArray]) (KeepL w.heap.size F) (KnL cl kind) (fun ys => ys.length = (nms cl kind).length) w := fun l J Jx W hW hJ _ hY h0 =>
  list_in m hm l p b n bs bk w.heap.size D F cl kind hcl J Jx w W hW rfl hp hmp R hbs hbk hF hJ hY h0
end Go.Proofs.YtlhaiflebigdlaaGreat
end
section
namespace Go.Proofs.YtlhaiflebigdlaaGreat
open Go.RowKit Go.Proofs.Mem
set_option linter.unusedVariables false
set_option linter.unusedSimpArgs false
theorem nm_s {s : ByteArray} (h : nmB s = true) : s255 s := by
  unfold nmB at h
  simp only [Bool.and_eq_true, decide_eq_true_eq] at h
  unfold s255
  omega
theorem empty_s {s : ByteArray} (h : s = ByteArray.empty) : s255 s := by
  subst h
  show ByteArray.empty.size ≤ 255
  decide
theorem strE_s {s : ByteArray} (h : strE s = true) : s255 s := by
  unfold strE at h
  rw [beq_iff_eq, ByteArray.toList_eq, ByteArray.toList_eq] at h
  exact empty_s (ByteArray.ext (Array.toList_inj.1 h))
theorem kv_s {k v : ByteArray} (h : kvB k v = true) : s255 k ∧ s255 v := by
  unfold kvB at h
  simp only [Bool.and_eq_true, Bool.or_eq_true, decide_eq_true_eq] at h
  exact ⟨nm_s h.1, h.2.elim empty_s nm_s⟩
theorem rt_s {l : List Lab} (h : rtB l = true) : LabsS l := by
  unfold rtB at h
  simp only [Bool.and_eq_true, decide_eq_true_eq] at h
  refine ⟨by omega, fun x hx => ?_⟩
  obtain ⟨i, hi, rfl⟩ := List.mem_iff_getElem.1 hx
  exact kv_s (h.1 i hi).1
theorem ak_s {l : List Req} (h : aksB l = true) : ReqsS l := by
  unfold aksB at h
  simp only [Bool.and_eq_true, decide_eq_true_eq] at h
  refine ⟨by omega, fun x hx => ?_⟩
  have h1 := List.all_eq_true.1 h.1 x hx
  unfold rqB at h1
  simp only [Bool.and_eq_true] at h1
  exact kv_s h1.1
theorem wants_s {a b : Int} {l : List Lab} {s : List Req} {t : List Lab} {wm : Int} (h : wantsB a b l s t wm = true) : LabsS l ∧ ReqsS s ∧ LabsS t := by
  unfold wantsB at h
  simp only [Bool.and_eq_true] at h
  exact ⟨rt_s h.2.1, ak_s h.2.2.1, rt_s h.2.2.2.1⟩
theorem accM_true {b : Bool} {l : List Mem.Met} : ∀ {k : Nat}, accM b l k = true → b = true ∧ ∀ i (h : i < l.length), i < k → nmB l[i].name = true
  | 0, h => ⟨h, fun i _ hi => absurd hi (Nat.not_lt_zero _)⟩
  | k + 1, h => by
    unfold accM at h
    split at h
    · rename_i hk
      have hm : accM b l k = true := by
        cases hc : accM b l k with
        | true => rfl
        | false => rw [hc] at h; simp [mT] at h
      obtain ⟨h1, h2⟩ := accM_true hm
      refine ⟨h1, fun i hi hik => ?_⟩
      rcases Nat.lt_or_eq_of_le (Nat.le_of_lt_succ hik) with e | e
      · exact h2 i hi e
      · subst e
        rw [hm] at h
        unfold mT at h
        simp only [Bool.and_eq_true] at h
        exact h.1.1.1.2
    · cases h
theorem accP_true {b : Bool} {l : List Done} : ∀ {k : Nat}, accP b l k = true → b = true
  | 0, h => h
  | k + 1, h => by
    unfold accP at h
    split at h
    · rename_i hk
      have hm : accP b l k = true := by
        cases hc : accP b l k with
        | true => rfl
        | false => rw [hc] at h; simp [dT, dS] at h
      exact accP_true hm
    · cases h
theorem obs_of_err {o : Ob} (h : errO o = 0) : (0 ≤ o.kind ∧ o.kind ≤ 4) ∧ ObS o := by
  unfold errO at h
  split at h
  case isFalse => cases h
  rename_i hk
  refine ⟨hk, ?_⟩
  unfold errN at h
  split at h
  case isFalse => cases h
  rename_i hn
  split at h
  case isFalse => cases h
  rename_i hm
  refine ⟨nm_s hn, fun e => ?_, fun e => ?_, fun e => ?_, fun e => ?_, fun e => ?_⟩
  · have h1 : mayW (emptyB o) o.w = true := by
      unfold mayO at hm
      simpa [e] using hm
    unfold mayW at h1
    simp only [Bool.and_eq_true] at h1
    exact wants_s h1.2
  · have h1 : mayP (emptyB o) o.p = true := by
      unfold mayO at hm
      simpa [e] using hm
    unfold mayP mayP1 at h1
    simp only [Bool.and_eq_true, Bool.or_eq_true] at h1
    obtain ⟨⟨⟨⟨⟨⟨⟨⟨h1, h2⟩, h3⟩, _⟩, _⟩, _⟩, _⟩, h4⟩, _⟩ := h1
    exact ⟨nm_s h2, h3.elim strE_s nm_s, wants_s h4⟩
  · have h1 : mayN (emptyB o) o.n = true := by
      unfold mayO at hm
      simpa [e] using hm
    unfold mayN at h1
    simp only [Bool.and_eq_true, Bool.or_eq_true] at h1
    obtain ⟨⟨⟨⟨⟨⟨h1, h2⟩, _⟩, h3⟩, h4⟩, _⟩, _⟩ := h1
    exact ⟨h2.elim strE_s nm_s, rt_s h3, rt_s h4⟩
  · have h1 : mayG (emptyB o) o.g = true := by
      unfold mayO at hm
      simpa [e] using hm
    unfold mayG at h1
    simp only [Bool.and_eq_true] at h1
    obtain ⟨⟨⟨⟨_, h3⟩, h4⟩, _⟩, _⟩ := h1
    exact ⟨rt_s h3, rt_s h4⟩
  · have h1 : mayH (emptyB o) o.h = true := by
      unfold mayO at hm
      simpa [e] using hm
    unfold mayH at h1
    obtain ⟨h2, h3⟩ := accM_true h1
    simp only [Bool.and_eq_true, decide_eq_true_eq] at h2
    obtain ⟨h4, h5⟩ := h2
    have h6 := accP_true h4
    unfold mayH0 at h6
    simp only [Bool.and_eq_true, decide_eq_true_eq] at h6
    obtain ⟨⟨⟨⟨⟨⟨⟨⟨⟨⟨_, t1⟩, _⟩, _⟩, _⟩, _⟩, t2⟩, _⟩, _⟩, t3⟩, t4⟩ := h6
    unfold goesB at t3 t4
    simp only [Bool.and_eq_true, decide_eq_true_eq] at t3 t4
    refine ⟨nm_s t1, by omega, fun m hm => ?_, ?_, ?_, by omega⟩
    · obtain ⟨i, hi, rfl⟩ := List.mem_iff_getElem.1 hm
      exact nm_s (h3 i hi hi)
    · have := t3.2.2
      unfold BhS
      omega
    · have := t4.2.2
      unfold BhS
      omega
theorem err_nf {o o' : Ob} (h : nf o = nf o') : errO o = errO o' := (congrArg errO h : errO (nf o) = errO (nf o'))
theorem objB_nf {o o' : Ob} (h : nf o = nf o') : objB o = objB o' := (congrArg objB h : objB (nf o) = objB (nf o'))
end Go.Proofs.YtlhaiflebigdlaaGreat
end
section
namespace Go.Proofs.YtlhaiflebigdlaaGreat
open Go.RowKit Go.Proofs.Mem Go.Shelf
set_option linter.unusedVariables false
set_option linter.unusedSimpArgs false
theorem Ob.Safe.mono {x : Ob} {F F' : Nat → Prop} {w : World} (h : x.Safe F w) (hF : ∀ j, F' j → F j) : x.Safe F' w := ⟨h.1, fun k hk v e ad m c hv h0 hf => h.2 k hk v e ad m c hv h0 (hF _ hf)⟩
theorem safe_since {x : Ob} {w w' : World} (h : x.Ok w) (hb : Below w.heap.size w w') : x.Safe (fun j => w.heap.size ≤ j) w' :=
  Ob.Safe.tch (F := fun _ => False) ⟨h, fun _ _ _ _ _ _ _ _ _ hf => hf⟩ (Tch.of_below hb) fun i hi h => absurd hi (Nat.not_lt.2 h)
theorem SRel.since {D : DataW Value} {F F' : Nat → Prop} {w w' : World} {cl : List Ob} (h : SRel D F w cl) (hb : Below w.heap.size w w') (hF : ∀ j, F' j → w.heap.size ≤ j) : SRel D F' w' cl where
  size := h.size
  at1 := fun x hx => by
    obtain ⟨h1, y, h2, h3, h4⟩ := h.at1 x hx
    exact ⟨h1, y, h2, Ob.Safe.mono (safe_since h3.ok hb) hF, h4⟩
  at0 := h.at0
  ok := h.ok
  uniq := h.uniq
theorem str_lt {a b : ByteArray} (h : a.data.toList < b.data.toList) : (Op.bytesLess b.toList a.toList || b.toList == a.toList) = false := by
  rw [ByteArray.toList_eq, ByteArray.toList_eq, bytesLess_eq]
  have h1 : ¬ b.data.toList < a.data.toList := fun h2 => List.lt_asymm h h2
  have h2 : ¬ b.data.toList = a.data.toList := fun e => by rw [e] at h; exact List.lt_irrefl _ h
  rw [decide_eq_false h1, Bool.false_or]
  exact beq_eq_false_iff_ne.2 h2
theorem marks_leave {F : Fence} {n : Nat} {P : Program} {fn : Func} {tmps : Array Value} {R : Ending → World → Prop} : ∀ (ms : List Nat) (w : World), ms.Nodup → (∀ D ∈ ms, w.heap[D]? = some (.deferred (some []))) →
    (∀ w' : World, w'.os = w.os → w'.tape = w.tape → w'.output = w.output → w'.heap.size = w.heap.size → (∀ i, i ∉ ms → w'.heap[i]? = w.heap[i]?) → LeavesIn F n P fn tmps R [] .returning w') →
    LeavesInM F n P fn tmps R (ms.map fun D => ({ target := .collected D, args := #[] } : Deferred)) .returning w
  | [], w, _, _, h => h w rfl rfl rfl rfl fun _ _ => rfl
  | D :: r, w, hn, hd, h => by
    obtain ⟨hn1, hn2⟩ := List.nodup_cons.1 hn
    have h0 := hd D (List.mem_cons_self ..)
    refine ⟨by simp, .inl ⟨D, _, rfl, run_takeDeferred h0, ?_⟩⟩
    refine marks_leave r _ hn2 (fun E hE => (World.putObj_heap_other (fun e => hn1 (by rw [← e]; exact hE))).trans (hd E (List.mem_cons_of_mem _ hE))) fun w' a1 a2 a3 a4 a5 => h w' a1 a2 a3 (by rw [a4]; simp [World.putObj]) fun i hi => ?_
    rw [List.mem_cons, not_or] at hi
    exact (a5 i hi.2).trans (World.putObj_heap_other (fun e => hi.1 e))
end Go.Proofs.YtlhaiflebigdlaaGreat
end
section
namespace Go.Proofs.YtlhaiflebigdlaaGreat
open Go.RowKit Go.Proofs.Mem
open Go.Maps (Keyed)
set_option linter.unusedVariables false
set_option linter.unusedSimpArgs false
theorem slen (w : World) (p b n : Nat) (D : DataW Value) (most : Int) (now : Nat) (ev : Value) (evs : List Ev) (h : StIs w p b n D most now ev evs) : Calls Tryz.prog 25 #[.pointer (some ⟨p, 0, none⟩)] w fun e w' => e = .returned (.int .i64 (Maps.size D)) ∧ w' = w := by
  obtain ⟨d0, d1, d2, d3⟩ := h.cells
  go_enter Tryz.func25, Tryz.ntmps25
  go_wp2_with (refine wpl_len_map rfl _ 71 rfl 81 56 underSt b n D rfl h.2.2.1 ?_)
  go_ret
  exact ⟨rfl, rfl⟩
theorem snow (w : World) (p b n : Nat) (D : DataW Value) (most : Int) (now : Nat) (ev : Value) (evs : List Ev) (h : StIs w p b n D most now ev evs) : Calls Tryz.prog 26 #[.pointer (some ⟨p, 0, none⟩)] w fun e w' => e = .returned (.int .u64 now) ∧ w' = w := by
  obtain ⟨d0, d1, d2, d3⟩ := h.cells
  go_enter Tryz.func26, Tryz.ntmps26
  go_wp2_with fail
  go_ret
  exact ⟨rfl, rfl⟩
end Go.Proofs.YtlhaiflebigdlaaGreat
end
