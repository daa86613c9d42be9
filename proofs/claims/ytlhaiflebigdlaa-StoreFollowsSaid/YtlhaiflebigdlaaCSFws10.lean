/-
  The walks of the store's Delete and Get, of any store; an object that is there is some object's cells.; The walk of the store's Delete, of any store.; The law's own model: where an object is (find); The law's own model: an event is noted; A store and the law's own model beside it: what holds of both; The walk of valid.Clone and valid.Default of an object all of whose slices are nil.; The walk of valid.Default of an object (of no group, no hpa) all of whose slices are nil; label.Right of none; quant.Right; size; node.; The walks of valid.size, named, between, node at the law's small node.; The walk of valid.Check of an object of kind 2 whose node is the law's small one.; The walk of trimtablaw08.node: the law's small node; its cells as a row.; The walk of trimtablaw08.lives.; The law's small node: valid.empties of it; the chapter's example of layer 8 is true.; The law's act on a store and on its own model (under way: the beginning).; The law's act: Delete.
-/
import Derived.Test.YtlhaiflebigdlaaCSFws9
import Derived.Test.YtlhaiflebigdlaaCSFws2
import Derived.Test.YtlhaiflebigdlaaCSFws1
import Derived.BigRegion
import Derived.Lib.SliceRun
import Derived.WalkSpells
import Derived.Deep.DeepCutAuto
import Derived.Test.YtlhaiflebigdlaaCSFws4
import Derived.Lib.QuietBelow
import Derived.BigQuiet
import Derived.Test.YtlhaiflebigdlaaCSFws7
import Derived.Test.YtlhaiflebigdlaaCSFws8
section
namespace Go.Proofs.Ytlhaiflebigdlaa
open Go.RowKit Go.Proofs.Mem
set_option linter.unusedVariables false
set_option linter.unusedSimpArgs false
theorem results_cell_two {fn : Func} {t s : Nat} {ty : TypeId} {tmps : Array Value} {w : World} {ad : Addr} {v : Value} (hf : fn.results = #[.cell t ty, .tmp s]) (hp : tmps.getD t undef = .pointer (some ad)) (hr : (loadVar ty ad).run Try.prog w = .ok v w) : (results fn tmps).run Try.prog w = .ok (.tuple #[v, tmps.getD s undef]) w := by
  have hp' : tmps[t]?.getD undef = .pointer (some ad) := by rw [← hp, Array.getD_eq_getD_getElem?]
  simp only [results, hf]
  simp [hp', asAddr, hr]
set_option maxHeartbeats 4000000 in
set_option maxRecDepth 100000 in
/-- Get, of any store; x: what stands at the key (or nothing's object). -/
theorem sget_any (w : World) (p b n : Nat) (D : DataW Value) (most : Int) (now : Nat) (ev : Value) (evs : List Ev) (h : StIs w p b n D most now ev evs) (kind : Int) (name : ByteArray) (hk : (Lit.int .i64 kind).wf = true) (hs : name.size ≤ maxLen)
    (x : Ob) (hx : x.Ok w) (hval : valAt D (kOf kind name) (.agg Z47) = .agg x.cells.toArray) :
    Calls Try.prog 10 #[.pointer (some ⟨p, 0, none⟩), .int .i64 kind, .string name] w fun e w' => ∃ V, e = .returned (.tuple #[.agg (x.reval V).cells.toArray, .bool (Maps.has D (kOf kind name))]) ∧ x.News w' w.heap.size V ∧ Below w.heap.size w w' := by
  have hkey := keyOf_st kind name hk hs
  have HU := Lib.hid (Try.underlying56)
  have B1 : Below w.heap.size w (w.alloc (.cells Z47 56)) := below_al w _
  have HS1 := h.below B1
  have d1 := HS1.cells.2.1
  have hl := HS1.2.2.1.run_look_ok stK underSt (zero47 _) hkey
  rw [hval] at hl
  have hi := cells_is x hx
  obtain ⟨L, hL⟩ : ∃ L : Array Value, L = x.cells.toArray := ⟨_, rfl⟩
  rw [← hL] at hl hi
  have HL := Lib.hid (And.intro hL hi)
  have k0 := Bk.new w 56 Z47
  have HX := Lib.hid (And.intro hx (And.intro B1 k0))
  obtain ⟨bb, hbb⟩ : ∃ bb, bb = Maps.has D (kOf kind name) := ⟨_, rfl⟩
  rw [← hbb] at hl ⊢
  obtain ⟨q, hq⟩ : ∃ q, q = w.heap.size := ⟨_, rfl⟩
  have HQ := Lib.hid hq
  clear hval hL hi hx B1 k0 HS1 h hbb hk hs hkey hq
  have kz : Bk ((w.alloc (.cells Z47 56)).alloc (.cells Z47 56)) (w.heap.size + 1) 56 Z47 := by
    have := Bk.new (w.alloc (.cells Z47 56)) 56 Z47
    rw [World.size_alloc] at this
    exact this
  have kr : Bk ((w.alloc (.cells Z47 56)).alloc (.cells Z47 56)) w.heap.size 56 Z47 := HX.out.2.2.alloc _
  have B2 : Below w.heap.size w ((w.alloc (.cells Z47 56)).alloc (.cells Z47 56)) := HX.out.2.1.alloc (by simp) _
  have hzz : Z47.size = L.size := HL.out.2.1.symm
  have k3 := setCells_whole kz hzz
  have r3 := setCells_far (h := w.heap.size + 1) (show w.heap.size ≠ w.heap.size + 1 by omega) L.toList 0 kr
  have B3 := below_setCells (g := w.heap.size + 1) L.toList 0 B2 (by omega)
  obtain ⟨W3, hW3⟩ : ∃ W3, W3 = ((w.alloc (.cells Z47 56)).alloc (.cells Z47 56)).setCells (w.heap.size + 1) 0 L.toList := ⟨_, rfl⟩
  rw [← hW3] at k3 r3 B3
  have HZ := Lib.hid (And.intro kz hW3.symm)
  have H3 := Lib.hid (And.intro k3 (And.intro r3 B3))
  clear kz kr B2 k3 r3 B3 hW3
  have HPT : RowKit.Hid (Value.pointer (some ⟨(w.alloc (.cells Z47 56)).heap.size, 0, none⟩) = .pointer (some ⟨w.heap.size + 1, 0, none⟩)) := congrArg (fun g => Value.pointer (some ⟨g, 0, none⟩)) (World.size_alloc _ _)
  have HZZ := Lib.hid hzz
  clear hzz
  go_enter Try.func10, Try.ntmps10
  go_wp2_with (first | (refine wpl_allocg rfl (run_alloc47 rfl _) ?_) | (refine wpl_storeg HZ.out.1 HZZ.out rfl rfl 56 (.tmp 8) (.tmp 22) rfl (by first | rfl | exact HPT.out) rfl (info47 HL.out.2) HL.out.2.2 ?_; rw [HZ.out.2]) | (refine wpl_loadg H3.out.1 rfl 56 (.tmp 8) rfl (by first | rfl | exact HPT.out) _ HU.out rfl (info47 HL.out.2) ?_))
  rw [HL.out.1]
  refine (vclone_any x W3 (HX.out.1.below H3.out.2.2)).mono ?_
  rintro e w4 ⟨V, rfl, hn, b4⟩
  obtain ⟨k3, r3, B3⟩ := H3.out
  have r4 := r3.below' b4
  have B4 := below_tr B3 b4
  have hiV := cells_is (x.reval V) (Ob.reval_ok HX.out.1 hn)
  have hz4 : Z47.size = (x.reval V).cells.toArray.size := hiV.1.symm
  have hw3 : w.heap.size + 2 ≤ W3.heap.size := k3.lt
  have n5 := (hn.sets (show w.heap.size < W3.heap.size + 3 by omega) 0 (x.reval V).cells.toArray.toList).mono (show w.heap.size ≤ W3.heap.size + 3 by omega)
  have H4 := Lib.hid (And.intro r4 (And.intro B4 (And.intro hiV (And.intro hz4 n5))))
  clear r4 B4 hiV hz4 n5 k3 r3 B3 hn b4
  obtain ⟨L4, hL4⟩ : ∃ L4 : Array Value, L4 = (x.reval V).cells.toArray := ⟨_, rfl⟩
  rw [← hL4] at H4 ⊢
  have HL4 := Lib.hid hL4
  clear hL4
  go_wp2_with (first | (refine wpl_storeg H4.out.1 H4.out.2.2.2.1 rfl rfl 56 (.tmp 6) (.tmp 25) rfl rfl rfl (info47 H4.out.2.2.1) H4.out.2.2.1.2 ?_))
  obtain ⟨r4, B4, hiV, hz4, n5⟩ := H4.out
  have hr := run_loadVar_mid (P := Try.prog) _ w.heap.size 0 56 L4.toList _ (setCells_whole r4 hz4).range Try.underlying56 rfl (by simpa using info47 hiV)
  refine bodyPost_ret (v := .tuple #[.agg L4, .bool bb]) (results_cell_two (t := 6) (s := 7) rfl rfl (by simpa using hr)) rfl ⟨V, by rw [HL4.out], n5, below_setCells (g := w.heap.size) L4.toList 0 B4 (Nat.le_refl _)⟩
end Go.Proofs.Ytlhaiflebigdlaa
end
section
namespace Go.Proofs.Ytlhaiflebigdlaa
open Go.RowKit Go.Proofs.Mem
set_option linter.unusedVariables false
set_option linter.unusedSimpArgs false
/-- What Delete does; vw: the version that is there. -/
def DeleteSt (p b n : Nat) (D : DataW Value) (most : Int) (now : Nat) (ev : Value) (evs : List Ev) (kind : Int) (name : ByteArray) (ver vw : Nat) (w : World) (e : Ending) (w' : World) : Prop :=
  if ¬ (0 ≤ kind ∧ kind < 5) then e = .returned (.tuple #[.int .u64 0, .int .i64 17]) ∧ Below w.heap.size w w'
  else if Maps.has D (kOf kind name) = false then e = .returned (.tuple #[.int .u64 0, .int .i64 7]) ∧ Below w.heap.size w w'
  else if ver ≠ 0 ∧ ver ≠ vw then e = .returned (.tuple #[.int .u64 0, .int .i64 9]) ∧ Below w.heap.size w w'
  else ∃ ev', e = .returned (.tuple #[.int .u64 ((now + 1 : Nat) : Int), .int .i64 0]) ∧ StIs w' p b n (D.del (kOf kind name)) most (now + 1) ev' (nextEvs evs ⟨2, kind, name, now + 1⟩) ∧ T3 p b ev w w' ∧ EvTo w ev ev'
set_option maxHeartbeats 8000000 in
set_option maxRecDepth 100000 in
theorem sdelete_any (w : World) (p b n : Nat) (D : DataW Value) (most : Int) (now : Nat) (ev : Value) (evs : List Ev) (h : StIs w p b n D most now ev evs) (hnow : now < 1000000000) (hevs : evs.length ≤ 1024) (kind : Int) (name : ByteArray) (hk : (Lit.int .i64 kind).wf = true) (hs : name.size ≤ maxLen) (ver : Nat)
    (Lw : Array Value) (hLw : Is47 Lw) (vw : Nat) (hvw : Lw[2]? = some (.int .u64 vw)) (hval : valAt D (kOf kind name) (.agg Z47) = .agg Lw) :
    Calls Try.prog 17 #[.pointer (some ⟨p, 0, none⟩), .int .i64 kind, .string name, .int .u64 ver] w (DeleteSt p b n D most now ev evs kind name ver vw w) := by
  have hkey := keyOf_st kind name hk hs
  have HN := Lib.hid (fun (w1 : World) (D1 : DataW Value) (h1 : StIs w1 p b n D1 most now ev evs) => note_any w1 p b n D1 most now ev evs h1 hnow hevs 2 kind name)
  have HS := Lib.hid h
  have HLw := Lib.hid hLw
  have HV := Lib.hid hval
  have HK := Lib.hid hkey
  have HVW := Lib.hid hvw
  obtain ⟨q, hq⟩ : ∃ q, q = w.heap.size := ⟨_, rfl⟩
  have B0 : Below w.heap.size w (w.alloc (.cells #[.int .i64 kind, .string name] 86)) := below_al w _
  have k0 := Bk.new w 86 #[.int .i64 kind, .string name]
  rw [← hq] at k0
  have HQ := Lib.hid hq
  have H0 := Lib.hid (And.intro B0 k0)
  clear hq h hk hs hkey hnow hevs hLw hval hvw B0 k0
  go_enter Try.func17, Try.ntmps17
  go_wp2_with fail
  rw [← HQ.out]
  obtain ⟨B0, k0⟩ := H0.out
  have S0 := HS.out.below B0
  refine wp_region_sched [0, 1, 2, 3, 4, 5, 6, 7, 8] [(false, 9)] [10, 11] (fun i => !(i == 3 || i == 4 || i == 5)) (fun w' => w'.cell? ⟨p, 1, none⟩ = some (.map (some b)) ∧ w'.cell? ⟨q, 0, none⟩ = some (.int .i64 kind) ∧ w'.cell? ⟨q, 1, none⟩ = some (.string name) ∧ Mp Try.prog w' 86 b n D) (by kernel_rfl) (by kernel_rfl) (fun c a d v w h => by cases d <;> exact h) ⟨S0.cells.2.1, k0.cell 0, k0.cell 1, S0.2.2.1⟩ fun u0 Hu => ?_
  obtain ⟨k1, B1, S1⟩ : Bk u0 q 86 #[.int .i64 kind, .string name] ∧ Below w.heap.size w u0 ∧ StIs u0 p b n D most now ev evs := by
    rw [Hu.out]
    exact ⟨k0.drew, B0.drew, HS.out.below B0.drew⟩
  clear Hu k0 B0 S0 H0
  refine readsL_free (v := ?_) (by rfl) (by rfl) (fun w' => ?_) ?_
  rotate_left
  · go_simp
    with_reducible rfl
  simp only [Act.put, List.setIfInBounds_toArray, List.set_cons_zero, List.set_cons_succ, List.getElem_toArray, List.getElem_cons_succ, List.getElem_cons_zero]
  refine readsL_free (v := ?_) (by rfl) (by rfl) (fun w' => ?_) ?_
  rotate_left
  · go_simp
    with_reducible rfl
  simp only [Act.put, List.setIfInBounds_toArray, List.set_cons_zero, List.set_cons_succ, List.getElem_toArray, List.getElem_cons_succ, List.getElem_cons_zero]
  refine readsL_free (v := ?_) (by rfl) (by rfl) (fun w' => ?_) ?_
  rotate_left
  · go_simp
    with_reducible rfl
  simp only [Act.put, List.setIfInBounds_toArray, List.set_cons_zero, List.set_cons_succ, List.getElem_toArray, List.getElem_cons_succ, List.getElem_cons_zero]
  refine readsL_step (v := ?_) (by rfl) (by rfl) (by rfl) (fun w' hS => ?_) ?_
  rotate_left
  · have u1 := hS.1
    have v0 := hS.2.1
    have v1 := hS.2.2.1
    have hl := hS.2.2.2.run_look_ok stK underSt (zero47 w') HK.out
    rw [HV.out] at hl
    clear hS
    go_simp
    with_reducible rfl
  simp only [Act.put, List.setIfInBounds_toArray, List.set_cons_zero, List.set_cons_succ, List.getElem_toArray, List.getElem_cons_succ, List.getElem_cons_zero]
  refine readsL_step (v := ?_) (by rfl) (by rfl) (by rfl) (fun w' hS => ?_) ?_
  rotate_left
  · have u1 := hS.1
    have v0 := hS.2.1
    have v1 := hS.2.2.1
    have hl := hS.2.2.2.run_look_ok stK underSt (zero47 w') HK.out
    rw [HV.out] at hl
    clear hS
    go_simp
    with_reducible rfl
  simp only [Act.put, List.setIfInBounds_toArray, List.set_cons_zero, List.set_cons_succ, List.getElem_toArray, List.getElem_cons_succ, List.getElem_cons_zero]
  refine readsL_step (v := ?_) (by rfl) (by rfl) (by rfl) (fun w' hS => ?_) ?_
  rotate_left
  · have u1 := hS.1
    have v0 := hS.2.1
    have v1 := hS.2.2.1
    have hl := hS.2.2.2.run_look_ok stK underSt (zero47 w') HK.out
    rw [HV.out] at hl
    clear hS
    go_simp
    with_reducible rfl
  simp only [Act.put, List.setIfInBounds_toArray, List.set_cons_zero, List.set_cons_succ, List.getElem_toArray, List.getElem_cons_succ, List.getElem_cons_zero]
  refine readsL_free (v := ?_) (by rfl) (by rfl) (fun w' => ?_) ?_
  rotate_left
  · go_simp
    with_reducible rfl
  simp only [Act.put, List.setIfInBounds_toArray, List.set_cons_zero, List.set_cons_succ, List.getElem_toArray, List.getElem_cons_succ, List.getElem_cons_zero]
  refine readsL_free (v := ?_) (by rfl) (by rfl) (fun w' => ?_) ?_
  rotate_left
  · go_simp
    with_reducible rfl
  simp only [Act.put, List.setIfInBounds_toArray, List.set_cons_zero, List.set_cons_succ, List.getElem_toArray, List.getElem_cons_succ, List.getElem_cons_zero]
  refine readsL_free (v := ?_) (by rfl) (by rfl) (fun w' => ?_) ?_
  rotate_left
  · go_simp
    with_reducible rfl
  simp only [Act.put, List.setIfInBounds_toArray, List.set_cons_zero, List.set_cons_succ, List.getElem_toArray, List.getElem_cons_succ, List.getElem_cons_zero]
  refine readsL_nil ?_
  obtain ⟨r, hr⟩ : ∃ r, r = u0.heap.size := ⟨_, rfl⟩
  have hqr : q < r := by rw [hr]; exact k1.lt
  have hwr : w.heap.size ≤ r := by rw [hr]; exact B1.size
  have kz : Bk (u0.alloc (.cells Z47 56)) r 56 Z47 := by rw [hr]; exact Bk.new u0 _ Z47
  have k2 := k1.alloc (.cells Z47 56)
  have B2 := B1.alloc B1.size (.cells Z47 56)
  have S2 := HS.out.below B2
  refine earlyL_run (v := .pointer (some ⟨r, 0, none⟩)) (w1 := u0.alloc (.cells Z47 56)) (by rfl) (by rfl) (by rw [hr]; exact run_alloc47 rfl _) ⟨S2.cells.2.1, k2.cell 0, k2.cell 1, S2.2.2.1⟩ ?_
  clear k1 B1 S1 S2 hr
  refine earlyL_nil ?_
  simp only [Act.put, List.setIfInBounds_toArray, List.set_cons_zero, List.set_cons_succ, List.getElem_toArray, List.getElem_cons_succ, List.getElem_cons_zero]
  simp only [List.filterMap_cons, List.filterMap_nil, List.getElem?_toArray, List.getElem?_cons_succ, List.getElem?_cons_zero]
  have hzl : Z47.size = Lw.size := HLw.out.1.symm
  have B3 := below_setCells (g := r) Lw.toList 0 B2 hwr
  have k3 := setCells_far (h := r) (show q ≠ r by omega) Lw.toList 0 k2
  have kr := setCells_whole kz hzl
  obtain ⟨W3, hW3⟩ : ∃ W3, W3 = (u0.alloc (.cells Z47 56)).setCells r 0 Lw.toList := ⟨_, rfl⟩
  rw [← hW3] at B3 k3 kr
  refine wpl_storeg kz hzl (by rfl) rfl 56 (.tmp 11) (.tmp 25) rfl rfl rfl (info47 HLw.out) HLw.out.2 ?_
  rw [← hW3]
  clear hW3 kz k2 B2 hzl
  have HS3 := Lib.hid (HS.out.below B3)
  have c2 : W3.cell? ⟨r, 2, none⟩ = some (.int .u64 vw) := by rw [kr.cell]; exact HVW.out
  have x0 : W3.cell? ⟨q, 0, none⟩ = some (.int .i64 kind) := k3.cell 0
  have x1 : W3.cell? ⟨q, 1, none⟩ = some (.string name) := k3.cell 1
  have HB3 := Lib.hid (And.intro B3 k3)
  clear B3 k3 kr
  obtain ⟨bb, hbb⟩ : ∃ bb, bb = Maps.has D (kOf kind name) := ⟨_, rfl⟩
  rw [← hbb]
  have HBB := Lib.hid hbb
  clear hbb
  by_cases h1 : kind < 0
  case pos =>
    go_wp2_with fail
    go_ret2
    unfold DeleteSt
    rw [if_pos (by omega)]
    exact ⟨rfl, HB3.out.1⟩
  case neg =>
  by_cases h2 : kind < 5
  case neg =>
    have h2' : 5 ≤ kind := by omega
    go_wp2_with fail
    go_ret2
    unfold DeleteSt
    rw [if_pos (by omega)]
    exact ⟨rfl, HB3.out.1⟩
  case pos =>
  have h2' : ¬ 5 ≤ kind := by omega
  have hk5 : ¬ ¬ (0 ≤ kind ∧ kind < 5) := by omega
  have HK5 := Lib.hid hk5
  clear hk5
  cases bb
  case false =>
    go_wp2_with fail
    go_ret2
    unfold DeleteSt
    rw [if_neg HK5.out, if_pos HBB.out.symm]
    exact ⟨rfl, HB3.out.1⟩
  case true =>
  by_cases h3 : ver ≠ 0 ∧ ver ≠ vw
  case pos =>
    have H3 := Lib.hid h3
    have h3a : ¬ ((ver : Nat) : Int) = 0 := by omega
    have h3b : ¬ ((ver : Nat) : Int) = (vw : Int) := by omega
    have h3d : (((ver : Nat) : Int) != 0) = true := by simpa using h3a
    have h3e : (((ver : Nat) : Int) != (vw : Int)) = true := by simpa using h3b
    clear h3 h3a h3b
    go_wp2_with fail
    go_ret2
    unfold DeleteSt
    rw [if_neg HK5.out, if_neg (by rw [← HBB.out]; simp), if_pos H3.out]
    exact ⟨rfl, HB3.out.1⟩
  case neg =>
  have H3 := Lib.hid h3
  have hcase : (((ver : Nat) : Int) != 0) = false ∨ ((((ver : Nat) : Int) != 0) = true ∧ (((ver : Nat) : Int) != (vw : Int)) = false) := by
    by_cases h0 : ver = 0
    · left; subst h0; rfl
    · right
      have h5 : ver = vw := by omega
      have h6 : ¬ ((ver : Nat) : Int) = 0 := by omega
      exact ⟨by simpa using h6, by rw [h5]; simp⟩
  clear h3
  have hK : ∀ (A : Prop), ((((ver : Nat) : Int) != 0) = false → A) → ((((ver : Nat) : Int) != 0) = true → (((ver : Nat) : Int) != (vw : Int)) = false → A) → A := fun A f g => by
    rcases hcase with h | ⟨h, h'⟩
    · exact f h
    · exact g h h'
  clear hcase
  refine hK _ (fun h5 => ?_) (fun h5 h6 => ?_)
  all_goals
    clear hK
    go_wp2_with fail
    clear c2 x0 x1
    obtain ⟨B3, k3⟩ := HB3.out
    have S3 := HS3.out
    refine wp_region_sched [0, 1, 2, 3, 4] [] [5] (fun i => !(i == 3 || i == 4)) (fun w' => w'.cell? ⟨p, 1, none⟩ = some (.map (some b)) ∧ w'.cell? ⟨q, 0, none⟩ = some (.int .i64 kind) ∧ w'.cell? ⟨q, 1, none⟩ = some (.string name)) (by kernel_rfl) (by kernel_rfl) (fun c a d v w h => by cases d <;> exact h) ⟨S3.cells.2.1, k3.cell 0, k3.cell 1⟩ fun u1 Hu => ?_
    obtain ⟨k4, B4, S4⟩ : Bk u1 q 86 #[.int .i64 kind, .string name] ∧ Below w.heap.size w u1 ∧ StIs u1 p b n D most now ev evs := by
      rw [Hu.out]
      exact ⟨k3.drew, B3.drew, HS.out.below B3.drew⟩
    clear Hu k3 B3 S3
    refine readsL_free (v := ?_) (by rfl) (by rfl) (fun w' => ?_) ?_
    rotate_left
    · go_simp
      with_reducible rfl
    simp only [Act.put, List.setIfInBounds_toArray, List.set_cons_zero, List.set_cons_succ, List.getElem_toArray, List.getElem_cons_succ, List.getElem_cons_zero]
    refine readsL_free (v := ?_) (by rfl) (by rfl) (fun w' => ?_) ?_
    rotate_left
    · go_simp
      with_reducible rfl
    simp only [Act.put, List.setIfInBounds_toArray, List.set_cons_zero, List.set_cons_succ, List.getElem_toArray, List.getElem_cons_succ, List.getElem_cons_zero]
    refine readsL_free (v := ?_) (by rfl) (by rfl) (fun w' => ?_) ?_
    rotate_left
    · go_simp
      with_reducible rfl
    simp only [Act.put, List.setIfInBounds_toArray, List.set_cons_zero, List.set_cons_succ, List.getElem_toArray, List.getElem_cons_succ, List.getElem_cons_zero]
    refine readsL_step (v := ?_) (by rfl) (by rfl) (by rfl) (fun w' hS => ?_) ?_
    rotate_left
    · have u1 := hS.1
      have v0 := hS.2.1
      have v1 := hS.2.2
      clear hS
      go_simp
      with_reducible rfl
    simp only [Act.put, List.setIfInBounds_toArray, List.set_cons_zero, List.set_cons_succ, List.getElem_toArray, List.getElem_cons_succ, List.getElem_cons_zero]
    refine readsL_step (v := ?_) (by rfl) (by rfl) (by rfl) (fun w' hS => ?_) ?_
    rotate_left
    · have u1 := hS.1
      have v0 := hS.2.1
      have v1 := hS.2.2
      clear hS
      go_simp
      with_reducible rfl
    simp only [Act.put, List.setIfInBounds_toArray, List.set_cons_zero, List.set_cons_succ, List.getElem_toArray, List.getElem_cons_succ, List.getElem_cons_zero]
    refine readsL_nil ?_
    refine earlyL_nil ?_
    simp only [List.filterMap_cons, List.filterMap_nil, List.getElem?_toArray, List.getElem?_cons_succ, List.getElem?_cons_zero]
    refine wpl_delete_map rfl (.tmp 49) (.tmp 50) 76 86 rfl 56 stK underSt b n D rfl S4.2.2.1 _ (kOf kind name) rfl HK.out ?_
    intro w5 hm5 hg5 hs5
    have hqb : some q ≠ some b := by
      intro e
      injection e with e
      have := S4.1
      have := HQ.out
      have := HS.out.2.1.lt
      omega
    have S5 : StIs w5 p b n (D.del (kOf kind name)) most now ev evs := by
      obtain ⟨i1, i2, i3, i4⟩ := S4
      have hpb : some p ≠ some b := by
        intro e
        injection e with e
        omega
      exact ⟨i1, i2.grown hg5 hpb, hm5, own_block i4 fun g hg => by
        have hl := i4.lt g hg
        exact hg5.block g hl.2 (by intro e; injection e with e; omega)⟩
    have T5 : T3 p b ev w w5 := (T3.of_below B4).trans (EvTo.refl _ _) (T3.grownB hg5)
    have k5 := k4.grown hg5 hqb
    have x0 : w5.cell? ⟨q, 0, none⟩ = some (.int .i64 kind) := k5.cell 0
    have x1 : w5.cell? ⟨q, 1, none⟩ = some (.string name) := k5.cell 1
    have hle : w.heap.size ≤ w5.heap.size := T5.size
    have H5 := Lib.hid (And.intro S5 (And.intro T5 hle))
    clear k4 B4 S4 hm5 hg5 hs5 hqb S5 T5 k5 hle
    go_wp2_with fail
    refine (HN.out w5 _ H5.out.1).mono ?_
    rintro e w6 ⟨ev', rfl, S6, T6, E6⟩
    obtain ⟨S5, T5, hle⟩ := H5.out
    have H6 := Lib.hid (And.intro S6 (And.intro (T5.trans (EvTo.refl _ _) T6) (EvTo.trans hle (EvTo.refl _ _) E6)))
    clear S6 T6 E6 S5 T5 hle
    go_wp2_with fail
    go_ret2
    unfold DeleteSt
    rw [if_neg HK5.out, if_neg (by rw [← HBB.out]; simp), if_neg H3.out]
    obtain ⟨S6, T6, E6⟩ := H6.out
    exact ⟨ev', rfl, S6, T6, E6⟩
end Go.Proofs.Ytlhaiflebigdlaa
end
section
namespace Go.Proofs.Mem
open Go.RowKit
def isOb (kind : Int) (name : ByteArray) (o : Ob) : Bool := decide (o.kind = kind) && decide (o.name = name)
/-- Where one is; none: it isn't. -/
def findN (kind : Int) (name : ByteArray) (l : List Ob) : Option Nat := l.findIdx? (isOb kind name)
def findI (kind : Int) (name : ByteArray) (l : List Ob) : Int := match findN kind name l with
  | some i => (i : Int)
  | none => -1
theorem findI_at {kind : Int} {name : ByteArray} {l : List Ob} {k : Nat} (hk : k < l.length) (h : isOb kind name l[k] = true) (hno : ∀ j (hj : j < k), isOb kind name (l[j]'(by omega)) = false) : findI kind name l = (k : Int) := by
  have : findN kind name l = some k := by
    unfold findN
    rw [List.findIdx?_eq_some_iff_getElem]
    exact ⟨hk, h, fun j hj => by rw [hno j hj]; simp⟩
  unfold findI
  rw [this]
theorem findI_none {kind : Int} {name : ByteArray} {l : List Ob} (hno : ∀ j (hj : j < l.length), isOb kind name l[j] = false) : findI kind name l = -1 := by
  have : findN kind name l = none := by
    unfold findN
    rw [List.findIdx?_eq_none_iff]
    intro x hx
    obtain ⟨j, hj, rfl⟩ := List.mem_iff_getElem.1 hx
    exact hno j hj
  unfold findI
  rw [this]
theorem ob_len (o : Ob) : o.cells.length = 47 := rfl
end Go.Proofs.Mem
namespace Go.Proofs.Ytlhaiflebigdlaa
open Go.RowKit Go.Proofs.Mem
set_option linter.unusedVariables false
set_option linter.unusedSimpArgs false
set_option maxHeartbeats 4000000 in
set_option maxRecDepth 100000 in
theorem find_any (w : World) (mb : Nat) (lv : Value) (ml : List Ob) (h0 : w.cell? ⟨mb, 0, none⟩ = some lv) (hmb : mb < w.heap.size) (hl : Sl w 47 lv ml.length (ml.flatMap Ob.cells)) (hok : ∀ o ∈ ml, Is47 o.cells.toArray) (hlen : ml.length ≤ 100000) (kind : Int) (name : ByteArray) :
    Calls Try.prog 16 #[.pointer (some ⟨mb, 0, none⟩), .int .i64 kind, .string name] w fun e w' => e = .returned (.int .i64 (findI kind name ml)) ∧ Below w.heap.size w w' := by
  obtain ⟨A, c, rfl, hc, _⟩ := id hl
  have HU := Lib.hid (Try.underlying56)
  have HOK := Lib.hid hok
  have hT : Try.prog.underlying 30 = some (.slice 56) := Try.underlying30
  clear hok
  go_enter Try.func16, Try.ntmps16
  go_wp2_with fail
  go_loopw [14] (fun iv wr => ∃ k : Nat, k ≤ ml.length ∧ iv = .int .i64 k ∧ Below w.heap.size w wr ∧ ∀ j (hj : j < ml.length), j < k → isOb kind name ml[j] = false) (fun iv wr => ml.length - (intOf iv).toNat)
  case atStart => exact ⟨0, Nat.zero_le _, rfl, Below.refl _ _, fun j _ hj => absurd hj (by omega)⟩
  case round =>
    obtain ⟨k, hk, rfl, hB, hno⟩ := hrel
    by_cases hlt : k < ml.length
    · obtain ⟨b1, o1, rfl, hb1, hadd1, hcell⟩ := Sl.row' (s := 47) (f := Ob.cells) ob_len (by omega) (hl.below hB) k hlt
      have hr : wr.rangeAt b1 (o1 + k * 47) (ml[k]).cells := fun j u hj => hcell j u hj
      have hiL := HOK.out _ (List.getElem_mem hlt)
      have hX : isOb kind name ml[k] = (decide ((ml[k]).kind = kind) && decide ((ml[k]).name = name)) := rfl
      have hNext := fun (h : isOb kind name ml[k] = false) => (fun (j : Nat) (hj : j < ml.length) (hjk : j < k + 1) => by
        rcases Nat.lt_or_eq_of_le (Nat.le_of_lt_succ hjk) with h1 | h1
        · exact hno j hj h1
        · subst h1; exact h : ∀ (j : Nat) (hj : j < ml.length), j < k + 1 → isOb kind name ml[j] = false)
      have hDone := fun (h : isOb kind name ml[k] = true) => findI_at hlt h (fun j hj => hno j (by omega) hj)
      obtain ⟨x, hx⟩ : ∃ x : Ob, x = ml[k] := ⟨_, rfl⟩
      rw [← hx] at hr hiL hX hNext hDone
      obtain ⟨L, hL⟩ : ∃ L : Array Value, L = x.cells.toArray := ⟨_, rfl⟩
      have hc0 : L[0]? = some (.int .i64 x.kind) := by rw [hL]; rfl
      have hc1 : L[1]? = some (.string x.name) := by rw [hL]; rfl
      rw [← hL] at hiL
      have hlx : x.cells = L.toList := by rw [hL]
      rw [hlx] at hr
      have hzz : Z47.size = L.size := hiL.1.symm
      have kz := Bk.new wr 56 Z47
      have kS := setCells_whole kz hzz
      have BS := below_setCells (g := wr.heap.size) L.toList 0 (hB.alloc hB.size (.cells Z47 56)) hB.size
      obtain ⟨W2, hW2⟩ : ∃ W2, W2 = (wr.alloc (.cells Z47 56)).setCells wr.heap.size 0 L.toList := ⟨_, rfl⟩
      rw [← hW2] at kS BS
      have d0 : W2.cell? ⟨wr.heap.size, 0, none⟩ = some (.int .i64 x.kind) := by rw [kS.cell]; exact hc0
      have d1 : W2.cell? ⟨wr.heap.size, 1, none⟩ = some (.string x.name) := by rw [kS.cell]; exact hc1
      have hr2 : (wr.rangeAt b1 (o1 + k * 47) L.toList) := hr
      have HR := Lib.hid (And.intro hr2 (And.intro kz (And.intro hW2.symm (And.intro hiL (And.intro hzz BS)))))
      have HN := Lib.hid hNext
      have HD := Lib.hid hDone
      have hlen' : (L.toList.toArray) = L := by simp
      have HT := Lib.hid hlen'
      clear hr hr2 kz hW2 hiL hzz BS kS hNext hDone hX hcell hno hx hL hlx hc0 hc1 hB hlen'
      by_cases hk0 : x.kind = kind
      · by_cases hn0 : x.name = name
        · have hm : isOb kind name x = true := by unfold isOb; simp [hk0, hn0]
          have HM := Lib.hid hm
          clear hm
          go_wp2_with (first | (refine wpl_loadat HR.out.1 rfl 56 (.tmp 17) rfl rfl _ HU.out rfl (by simpa using info47 HR.out.2.2.2.1) ?_; rw [HT.out]) | (refine wpl_allocg rfl (run_alloc47 rfl _) ?_) | (refine wpl_storeg HR.out.2.1 HR.out.2.2.2.2.1 rfl rfl 56 (.tmp 8) (.tmp 18) rfl rfl rfl (info47 HR.out.2.2.2.1) HR.out.2.2.2.1.2 ?_; rw [HR.out.2.2.1]))
          go_ret
          exact ⟨by rw [HD.out HM.out]; rfl, HR.out.2.2.2.2.2⟩
        · have hm : isOb kind name x = false := by unfold isOb; simp [hn0]
          have hn1 : (x.name.toList == name.toList) = false := beq_eq_false_iff_ne.2 fun e => hn0 (by
            rw [ByteArray.toList_eq, ByteArray.toList_eq] at e
            exact ByteArray.ext (Array.toList_inj.1 e))
          have HM := Lib.hid hm
          clear hm
          go_wp2_with (first | (refine wpl_loadat HR.out.1 rfl 56 (.tmp 17) rfl rfl _ HU.out rfl (by simpa using info47 HR.out.2.2.2.1) ?_; rw [HT.out]) | (refine wpl_allocg rfl (run_alloc47 rfl _) ?_) | (refine wpl_storeg HR.out.2.1 HR.out.2.2.2.2.1 rfl rfl 56 (.tmp 8) (.tmp 18) rfl rfl rfl (info47 HR.out.2.2.2.1) HR.out.2.2.2.1.2 ?_; rw [HR.out.2.2.1]))
          exact ⟨⟨k + 1, by omega, by go_num, HR.out.2.2.2.2.2, HN.out HM.out⟩, by simp [intOf]; omega⟩
      · have hm : isOb kind name x = false := by unfold isOb; simp [hk0]
        have HM := Lib.hid hm
        clear hm
        go_wp2_with (first | (refine wpl_loadat HR.out.1 rfl 56 (.tmp 17) rfl rfl _ HU.out rfl (by simpa using info47 HR.out.2.2.2.1) ?_; rw [HT.out]) | (refine wpl_allocg rfl (run_alloc47 rfl _) ?_) | (refine wpl_storeg HR.out.2.1 HR.out.2.2.2.2.1 rfl rfl 56 (.tmp 8) (.tmp 18) rfl rfl rfl (info47 HR.out.2.2.2.1) HR.out.2.2.2.1.2 ?_; rw [HR.out.2.2.1]))
        exact ⟨⟨k + 1, by omega, by go_num, HR.out.2.2.2.2.2, HN.out HM.out⟩, by simp [intOf]; omega⟩
    · have hke : k = ml.length := by omega
      have hnone := findI_none (l := ml) (fun j hj => hno j hj (by omega))
      have HN := Lib.hid hnone
      clear hnone hno
      go_wp2_with fail
      go_ret
      exact ⟨by rw [HN.out]; rfl, hB⟩
end Go.Proofs.Ytlhaiflebigdlaa
end
section
namespace Go.Proofs.Ytlhaiflebigdlaa
open Go.RowKit Go.Proofs.Mem
set_option linter.unusedVariables false
set_option linter.unusedSimpArgs false
theorem earlyL_op {P : Program} {ops : Array Oper} {Q : Exit → Act → World → Prop} {S : World → Prop} {tail : Act → World → Prop} {i : Nat} {o : Oper} {r : List (Bool × Nat)} {a : Act} {w : World} (hi : ops[i]? = some o) (hw : Region.wanted o (yielded ops a.tmps) = true) (h : Oper.wp P o a w (fun a' w' => S w' ∧ wpEarlyL P ops Q S tail r a' w') Q) : wpEarlyL P ops Q S tail ((false, i) :: r) a w := by
  unfold wpEarlyL wpOp
  simp only [hi, hw, if_true]
  exact .inl h
/-- The law's model at block mb: its objects' row, its version, its events. -/
def MdIs (w : World) (mb : Nat) (lv : Value) (now : Nat) (ev : Value) (evs : List Ev) : Prop :=
  Bk w mb 34 #[lv, .int .u64 now, ev] ∧ w.ownsRow (mb + 1) 67 4 ev evs.length (evs.flatMap Ev.cells)
theorem MdIs.below {w w' : World} {mb : Nat} {lv : Value} {now : Nat} {ev : Value} {evs : List Ev} (h : MdIs w mb lv now ev evs) (hb : Below w.heap.size w w') : MdIs w' mb lv now ev evs := ⟨h.1.below' hb, own_below h.2 hb⟩
theorem MdIs.evGe {w : World} {mb : Nat} {lv : Value} {now : Nat} {ev : Value} {evs : List Ev} (h : MdIs w mb lv now ev evs) {g : Nat} (hg : ev.ownBlock = some g) : mb < g ∧ g < w.heap.size := by
  have := h.2.lt g hg
  omega
set_option maxHeartbeats 4000000 in
set_option maxRecDepth 100000 in
theorem note8_any (w : World) (mb : Nat) (lv : Value) (now : Nat) (ev : Value) (evs : List Ev) (h : MdIs w mb lv now ev evs) (hn : now < 1000000000) (hl : evs.length < 100000) (what kind : Int) (name : ByteArray) (ver : Nat) (L : Array Value) (hL : ObL L kind name ver) :
    Calls Try.prog 18 #[.pointer (some ⟨mb, 0, none⟩), .int .i64 what, .agg L] w fun e w' => ∃ ev', e = .returned (.tuple #[]) ∧ MdIs w' mb lv (now + 1) ev' (evs ++ [⟨what, kind, name, now + 1⟩]) ∧ T3 mb mb ev w w' ∧ EvTo w ev ev' := by
  obtain ⟨ti, hi0, hz0, hz1, hz2⟩ := info_parts info_ev
  have hz1' := hz1
  have g1 : (now : Int) < 1000000000 := by omega
  have HS := Lib.hid h
  have HL := Lib.hid hL
  have f1 : ∀ o, (w.alloc o).frozen? ⟨mb, 1, none⟩ = false := fun o => (h.1.alloc o).frozen 1
  have c1 : ∀ o, (w.alloc o).cell? ⟨mb, 1, none⟩ = some (.int .u64 now) := fun o => (h.1.alloc o).cell 1
  have hpl := h.1.lt
  clear h hn hL
  go_enter Try.func18, Try.ntmps18
  go_wp2_with (refine wpl_allocg rfl (run_box47 HL.out.is rfl rfl _) ?_)
  have kk := Bk.new (w.setCell ⟨mb, 1, none⟩ (.int .u64 ((now : Int) + 1))) 56 L
  have kp := (HS.out.1.set 1 (.int .u64 ((now : Int) + 1))).alloc (.cells L 56)
  have hT2 : T3 mb mb ev w ((w.setCell ⟨mb, 1, none⟩ (.int .u64 ((now : Int) + 1))).alloc (.cells L 56)) := ((T3.of_below (Below.refl _ _)).setP 1 _).trans (EvTo.refl _ _) (T3.of_below ((Below.refl _ _).alloc (Nat.le_refl _) _))
  have hown : ((w.setCell ⟨mb, 1, none⟩ (.int .u64 ((now : Int) + 1))).alloc (.cells L 56)).ownsRow (mb + 1) 67 4 ev evs.length (evs.flatMap Ev.cells) := by
    refine own_block HS.out.2 fun g hg => ?_
    have hge := HS.out.evGe hg
    exact (Below.heap_alloc _ _ g (by rw [World.size_setCell]; omega)).trans (Below.heap_setCell _ _ _ _ (by simp; omega))
  rw [World.size_setCell] at kk
  simp at kp
  have hR : RowKit.Hid (∃ q w2, q = w.heap.size ∧ w2 = (w.setCell ⟨mb, 1, none⟩ (.int .u64 ((now : Int) + 1))).alloc (.cells L 56) ∧ Bk w2 q 56 L ∧ Bk w2 mb 34 #[lv, .int .u64 ((now : Int) + 1), ev] ∧ T3 mb mb ev w w2 ∧ w2.ownsRow (mb + 1) 67 4 ev evs.length (evs.flatMap Ev.cells)) := ⟨_, _, rfl, rfl, kk, kp, hT2, hown⟩
  clear kk kp hT2 hown c1 f1
  obtain ⟨q, w2, hq, hw2, kk, kp, hT2, hown⟩ := hR
  rw [← hq, ← hw2]
  clear hw2
  have hevl : evs.length + 1 ≤ maxLen := by unfold maxLen; omega
  have hevb : (evs.length + 1) * 40 ≤ 140737488355328 := by omega
  have hne : some mb ≠ ev.ownBlock := fun e => by have := HS.out.evGe e.symm; omega
  have hkne : some q ≠ ev.ownBlock := fun e => by have := HS.out.evGe e.symm; omega
  have hmq : mb + 1 ≤ w2.heap.size := kp.lt
  have HQ := Lib.hid hq
  clear hq
  have k0 : w2.cell? ⟨q, 0, none⟩ = some (.int .i64 kind) := by rw [kk.cell]; exact HL.out.kind
  have k1 : w2.cell? ⟨q, 1, none⟩ = some (.string name) := by rw [kk.cell]; exact HL.out.name
  have p1 := kp.cell 1
  have p2 := kp.cell 2
  refine wp_region_sched [0, 1, 2, 3, 4, 5, 6, 7, 8, 9, 10, 11, 12, 13, 14] [(false, 15), (false, 16)] [17, 18, 19] (fun i => !(i == 4 || i == 7 || i == 9 || i == 13)) (fun w' => w'.cell? ⟨mb, 1, none⟩ = some (.int .u64 ((now : Int) + 1)) ∧ w'.cell? ⟨q, 0, none⟩ = some (.int .i64 kind) ∧ w'.cell? ⟨q, 1, none⟩ = some (.string name) ∧ w'.cell? ⟨mb, 2, none⟩ = some ev) (by kernel_rfl) (by kernel_rfl) (fun c a d v w h => by cases d <;> exact h) ⟨p1, k0, k1, p2⟩ fun u0 Hu => ?_
  obtain ⟨kk3, kp3, hT3, hown3, hsz⟩ : Bk u0 q 56 L ∧ Bk u0 mb 34 #[lv, .int .u64 ((now : Int) + 1), ev] ∧ T3 mb mb ev w u0 ∧ u0.ownsRow (mb + 1) 67 4 ev evs.length (evs.flatMap Ev.cells) ∧ mb + 1 ≤ u0.heap.size := by
    rw [Hu.out]
    exact ⟨kk.drew, kp.drew, hT2.trans (EvTo.refl _ _) (T3.of_below (Below.refl _ _).drew), hown.drew, hmq⟩
  clear Hu kk kp hT2 hown k0 k1 p1 p2 hmq
  refine readsL_free (v := ?_) (by rfl) (by rfl) (fun w' => ?_) ?_
  rotate_left
  · go_simp
    with_reducible rfl
  simp only [Act.put, List.setIfInBounds_toArray, List.set_cons_zero, List.set_cons_succ, List.getElem_toArray, List.getElem_cons_succ, List.getElem_cons_zero]
  refine readsL_free (v := ?_) (by rfl) (by rfl) (fun w' => ?_) ?_
  rotate_left
  · go_simp
    with_reducible rfl
  simp only [Act.put, List.setIfInBounds_toArray, List.set_cons_zero, List.set_cons_succ, List.getElem_toArray, List.getElem_cons_succ, List.getElem_cons_zero]
  refine readsL_free (v := ?_) (by rfl) (by rfl) (fun w' => ?_) ?_
  rotate_left
  · go_simp
    with_reducible rfl
  simp only [Act.put, List.setIfInBounds_toArray, List.set_cons_zero, List.set_cons_succ, List.getElem_toArray, List.getElem_cons_succ, List.getElem_cons_zero]
  refine readsL_free (v := ?_) (by rfl) (by rfl) (fun w' => ?_) ?_
  rotate_left
  · go_simp
    with_reducible rfl
  simp only [Act.put, List.setIfInBounds_toArray, List.set_cons_zero, List.set_cons_succ, List.getElem_toArray, List.getElem_cons_succ, List.getElem_cons_zero]
  refine readsL_step (v := ?_) (by rfl) (by rfl) (by rfl) (fun w' hS => ?_) ?_
  rotate_left
  · have u2 := hS.1
    have v0 := hS.2.1
    have v1 := hS.2.2.1
    have u3 := hS.2.2.2
    clear hS
    go_simp
    with_reducible rfl
  simp only [Act.put, List.setIfInBounds_toArray, List.set_cons_zero, List.set_cons_succ, List.getElem_toArray, List.getElem_cons_succ, List.getElem_cons_zero]
  refine readsL_free (v := ?_) (by rfl) (by rfl) (fun w' => ?_) ?_
  rotate_left
  · go_simp
    with_reducible rfl
  simp only [Act.put, List.setIfInBounds_toArray, List.set_cons_zero, List.set_cons_succ, List.getElem_toArray, List.getElem_cons_succ, List.getElem_cons_zero]
  refine readsL_free (v := ?_) (by rfl) (by rfl) (fun w' => ?_) ?_
  rotate_left
  · go_simp
    with_reducible rfl
  simp only [Act.put, List.setIfInBounds_toArray, List.set_cons_zero, List.set_cons_succ, List.getElem_toArray, List.getElem_cons_succ, List.getElem_cons_zero]
  refine readsL_step (v := ?_) (by rfl) (by rfl) (by rfl) (fun w' hS => ?_) ?_
  rotate_left
  · have u2 := hS.1
    have v0 := hS.2.1
    have v1 := hS.2.2.1
    have u3 := hS.2.2.2
    clear hS
    go_simp
    with_reducible rfl
  simp only [Act.put, List.setIfInBounds_toArray, List.set_cons_zero, List.set_cons_succ, List.getElem_toArray, List.getElem_cons_succ, List.getElem_cons_zero]
  refine readsL_free (v := ?_) (by rfl) (by rfl) (fun w' => ?_) ?_
  rotate_left
  · go_simp
    with_reducible rfl
  simp only [Act.put, List.setIfInBounds_toArray, List.set_cons_zero, List.set_cons_succ, List.getElem_toArray, List.getElem_cons_succ, List.getElem_cons_zero]
  refine readsL_step (v := ?_) (by rfl) (by rfl) (by rfl) (fun w' hS => ?_) ?_
  rotate_left
  · have u2 := hS.1
    have v0 := hS.2.1
    have v1 := hS.2.2.1
    have u3 := hS.2.2.2
    clear hS
    go_simp
    with_reducible rfl
  simp only [Act.put, List.setIfInBounds_toArray, List.set_cons_zero, List.set_cons_succ, List.getElem_toArray, List.getElem_cons_succ, List.getElem_cons_zero]
  refine readsL_free (v := ?_) (by rfl) (by rfl) (fun w' => ?_) ?_
  rotate_left
  · go_simp
    with_reducible rfl
  simp only [Act.put, List.setIfInBounds_toArray, List.set_cons_zero, List.set_cons_succ, List.getElem_toArray, List.getElem_cons_succ, List.getElem_cons_zero]
  refine readsL_free (v := ?_) (by rfl) (by rfl) (fun w' => ?_) ?_
  rotate_left
  · go_simp
    with_reducible rfl
  simp only [Act.put, List.setIfInBounds_toArray, List.set_cons_zero, List.set_cons_succ, List.getElem_toArray, List.getElem_cons_succ, List.getElem_cons_zero]
  refine readsL_free (v := ?_) (by rfl) (by rfl) (fun w' => ?_) ?_
  rotate_left
  · go_simp
    with_reducible rfl
  simp only [Act.put, List.setIfInBounds_toArray, List.set_cons_zero, List.set_cons_succ, List.getElem_toArray, List.getElem_cons_succ, List.getElem_cons_zero]
  refine readsL_step (v := ?_) (by rfl) (by rfl) (by rfl) (fun w' hS => ?_) ?_
  rotate_left
  · have u2 := hS.1
    have v0 := hS.2.1
    have v1 := hS.2.2.1
    have u3 := hS.2.2.2
    clear hS
    go_simp
    with_reducible rfl
  simp only [Act.put, List.setIfInBounds_toArray, List.set_cons_zero, List.set_cons_succ, List.getElem_toArray, List.getElem_cons_succ, List.getElem_cons_zero]
  refine readsL_free (v := ?_) (by rfl) (by rfl) (fun w' => ?_) ?_
  rotate_left
  · go_simp
    with_reducible rfl
  simp only [Act.put, List.setIfInBounds_toArray, List.set_cons_zero, List.set_cons_succ, List.getElem_toArray, List.getElem_cons_succ, List.getElem_cons_zero]
  refine readsL_nil ?_
  obtain ⟨z, hz⟩ : ∃ z, z = u0.heap.size := ⟨_, rfl⟩
  have HZ := Lib.hid hz
  clear hz
  have kk4 := kk3.alloc (.cells #[.int .i64 what, .int .i64 kind, .string name, .int .u64 ((now : Int) + 1)] 67)
  have kp4 := kp3.alloc (.cells #[.int .i64 what, .int .i64 kind, .string name, .int .u64 ((now : Int) + 1)] 67)
  refine earlyL_run (v := .slice (some ⟨z, 0, none⟩) 1 1) (w1 := u0.alloc (.cells #[.int .i64 what, .int .i64 kind, .string name, .int .u64 ((now : Int) + 1)] 67)) (by rfl) (by rfl) (by rw [HZ.out]; go_simp) ⟨kp4.cell 1, by rw [kk4.cell]; exact HL.out.kind, by rw [kk4.cell]; exact HL.out.name, kp4.cell 2⟩ ?_
  simp only [Act.put, List.setIfInBounds_toArray, List.set_cons_zero, List.set_cons_succ, List.getElem_toArray, List.getElem_cons_succ, List.getElem_cons_zero]
  refine earlyL_op (by rfl) (by rfl) ?_
  refine wp_append_lies _ (.tmp 17) (.tmp 28) 32 rfl (mb + 1) 67 ti _ 4 40 Try.underlying32 hi0 hz0 hz1 hz2 rfl (by omega) ev evs.length (evs.flatMap Ev.cells) rfl (own_below hown3 (below_al _ _)) ⟨z, 0, none⟩ 1 1 [.int .i64 what, .int .i64 kind, .string name, .int .u64 ((now : Int) + 1)] rfl rfl (by rw [HZ.out]; exact World.news_of_block (cs := #[.int .i64 what, .int .i64 kind, .string name, .int .u64 ((now : Int) + 1)]) (t := 67) (fr := (0, 0)) (heap_alloc_new u0 _)) (by simp [Value.oneCell']) (by omega) hevl hevb (by simp; omega) (u0.heap.size + 1) (by simp) ?_
  intro g cap w3 hown5 hg3 hat hlt
  have kp5 := kp4.grown hg3 hne
  have kk5 := kk4.grown hg3 hkne
  refine ⟨⟨kp5.cell 1, by rw [kk5.cell]; exact HL.out.kind, by rw [kk5.cell]; exact HL.out.name, kp5.cell 2⟩, ?_⟩
  refine earlyL_nil ?_
  simp only [Act.put, List.setIfInBounds_toArray, List.set_cons_zero, List.set_cons_succ, List.getElem_toArray, List.getElem_cons_succ, List.getElem_cons_zero]
  simp only [List.filterMap_cons, List.filterMap_nil, List.getElem?_toArray, List.getElem?_cons_succ, List.getElem?_cons_zero]
  have r2 := kp5.cell 2
  have r4 := kp5.frozen 2
  have hgm : g ≠ mb := by
    rcases hat with h | h
    · have := HS.out.evGe h; omega
    · omega
  have HH := Lib.hid (And.intro kp5 (And.intro hown5 (And.intro hat (And.intro hg3 hT3))))
  clear kp5 kk5 hown5 hat hg3 hT3 kp4 kk4 kp3 kk3 hown3 hevl hevb hi0 hz0 hz1 hz2 hz1'
  go_wp2_with fail
  obtain ⟨kp5, hown5, hat, hg3, hT3⟩ := HH.out
  have k6 := kp5.set 2 (.slice (some ⟨g, 0, none⟩) (evs.length + 1) cap)
  simp only [List.setIfInBounds_toArray, List.set_cons_zero, List.set_cons_succ] at k6
  have e1 : (evs ++ [(⟨what, kind, name, now + 1⟩ : Ev)]).length = evs.length + 1 := by simp
  have e2 : [(⟨what, kind, name, now + 1⟩ : Ev)].flatMap Ev.cells = [.int .i64 what, .int .i64 kind, .string name, .int .u64 ((now : Int) + 1)] := by simp [Ev.cells]
  have h4 := own_block (w' := w3.setCell ⟨mb, 2, none⟩ (.slice (some ⟨g, 0, none⟩) (evs.length + 1) cap)) hown5 (fun g' hg' => Below.heap_setCell _ _ _ _ (by
      have : g = g' := by simpa [Value.ownBlock] using hg'
      simp; omega))
  have h5 : T3 mb mb ev u0 w3 := (T3.of_below (below_al u0 _)).trans (EvTo.refl _ _) (T3.grownE hg3)
  refine bodyPost_end (v := .tuple #[]) (by simp [results, show (Try.f18).results = #[] from rfl]) rfl ⟨.slice (some ⟨g, 0, none⟩) (evs.length + 1) cap, rfl, ⟨by rw [Int.natCast_add]; exact k6, ?_⟩, (hT3.trans (EvTo.refl _ _) h5).setP 2 _, ?_⟩
  · rw [e1, List.flatMap_append, e2]
    exact h4
  · rcases hat with h | h
    · exact .inl h.symm
    · exact .inr ⟨g, by have := hT3.size; omega, rfl⟩
end Go.Proofs.Ytlhaiflebigdlaa
end
section
namespace Go.Proofs.Mem
open Go.RowKit
set_option linter.unusedVariables false
set_option linter.unusedSimpArgs false
/-- Of what was there nothing has turned but blocks of F. -/
def Tch (F : Nat → Prop) (w w' : World) : Prop := w'.os = w.os ∧ w'.tape = w.tape ∧ w'.output = w.output ∧ w.heap.size ≤ w'.heap.size ∧ ∀ i, i < w.heap.size → ¬ F i → w'.heap[i]? = w.heap[i]?
section
variable {F F' : Nat → Prop} {w w1 w2 : World}
theorem Tch.size (h : Tch F w w1) : w.heap.size ≤ w1.heap.size := h.2.2.2.1
theorem Tch.of_below (h : Below w.heap.size w w1) : Tch F w w1 := ⟨h.os, h.tape, h.output, h.size, fun i hi _ => h.block i hi⟩
theorem Tch.mono (h : Tch F w w1) (hF : ∀ i, i < w.heap.size → F i → F' i) : Tch F' w w1 := ⟨h.1, h.2.1, h.2.2.1, h.size, fun i hi hn => h.2.2.2.2 i hi fun hf => hn (hF i hi hf)⟩
/-- One behind the other, where the blocks that turn behind it are, of the elder ones, among those that may. -/
theorem Tch.trans (h : Tch F w w1) (h' : Tch F' w1 w2) (hF : ∀ i, i < w.heap.size → F' i → F i) : Tch F w w2 :=
  ⟨h'.1.trans h.1, h'.2.1.trans h.2.1, h'.2.2.1.trans h.2.2.1, Nat.le_trans h.size h'.size, fun i hi hn => (h'.2.2.2.2 i (Nat.lt_of_lt_of_le hi h.size) fun hf => hn (hF i hi hf)).trans (h.2.2.2.2 i hi hn)⟩
theorem Tch.low (h : Tch F w w1) {B : Nat} (h0 : B ≤ w.heap.size) (hF : ∀ i, F i → B ≤ i) : Below B w w1 := ⟨h.1, h.2.1, h.2.2.1, h.size, fun i hi => h.2.2.2.2 i (by omega) fun hf => by have := hF i hf; omega⟩
theorem Tch.bk (h : Tch F w w1) {g : Nat} {t : TypeId} {cs : Array Value} (hk : Bk w g t cs) (hg : ¬ F g) : Bk w1 g t cs := (h.2.2.2.2 g hk.lt hg).trans hk
theorem Tch.own (h : Tch F w w1) {base s n : Nat} {e : TypeId} {v : Value} {xs : List Value} (ho : w.ownsRow base e s v n xs) (hg : ∀ g, v.ownBlock = some g → ¬ F g) : w1.ownsRow base e s v n xs := by
  obtain ⟨hl, h2⟩ := ho
  refine ⟨hl, ?_⟩
  rcases h2 with h2 | ⟨g, cap, cur, hv, hb, hh, r⟩
  · exact .inl h2
  · refine .inr ⟨g, cap, cur, hv, hb, ?_, r⟩
    have hlt : g < w.heap.size := lt_of_heap hh
    rw [h.2.2.2.2 g hlt (hg g (by rw [hv]; rfl))]
    exact hh
end
/-- A row's block, where it has elements, is none of F. -/
def RowAway (F : Nat → Prop) (v : Value) : Prop := ∀ ad n c, v = .slice (some ad) n c → 0 < n → ¬ F ad.block
/-- An object that is read, its rows none of F's. -/
def Ob.Safe (x : Ob) (F : Nat → Prop) (w : World) : Prop := x.Ok w ∧ ∀ k ∈ rowsAt, ∀ v, x.cells[k]? = some v → RowAway F v
theorem Sl.tch {F : Nat → Prop} {w w' : World} {s n : Nat} {v : Value} {xs : List Value} (h : Sl w s v n xs) (ha : RowAway F v) (ht : Tch F w w') : Sl w' s v n xs := by
  obtain ⟨A, c, e, hc, hn, hl, hx⟩ := h
  refine ⟨A, c, e, hc, hn, hl, fun h0 => ?_⟩
  obtain ⟨ad, e1, hlt, hcell⟩ := hx h0
  subst e1
  refine ⟨ad, rfl, Nat.lt_of_lt_of_le hlt ht.size, fun j u hj => ?_⟩
  have h2 := ht.2.2.2.2 ad.block hlt (ha ad n c e h0)
  have h3 := hcell j u hj
  unfold World.cell? at h3 ⊢
  rw [add_block] at h3 ⊢
  rw [h2]
  exact h3
section
variable {x : Ob} {F F' : Nat → Prop} {w w' : World}
theorem Ob.Safe.ok (h : x.Safe F w) : x.Ok w := h.1
/-- Behind a step that turns only blocks of F; F': the blocks that may turn next, of the elder ones no more than F's. -/
theorem Ob.Safe.tch (h : x.Safe F w) (ht : Tch F w w') (hF : ∀ i, i < w.heap.size → F' i → F i) : x.Safe F' w' := by
  obtain ⟨ho, ha⟩ := h
  have sl : ∀ {α : Type} {r : Row α} {s bytes : Nat} {f : α → List Value} {p : α → Prop} (k : Nat), k ∈ rowsAt → x.cells[k]? = some r.v → r.Ok w s bytes f p → r.Ok w' s bytes f p := fun k hk e hr => ⟨hr.1.tch (ha k hk _ e) ht, hr.2⟩
  have aw : ∀ k ∈ rowsAt, ∀ v, x.cells[k]? = some v → (∃ s n xs, Sl w s v n xs) → RowAway F' v := by
    rintro k hk v e ⟨s, n, xs, hs⟩ ad m c hv h0 hf
    obtain ⟨A, c', e', hc, hn, hl, hx⟩ := hs
    rw [hv] at e'
    injection e' with e1 e2 e3
    subst e2
    obtain ⟨ad', e4, hlt, _⟩ := hx h0
    rw [← e1] at e4
    injection e4 with e4
    subst e4
    exact ha k hk v e ad m c hv h0 (hF _ hlt hf)
  refine ⟨⟨ho.kind, ho.name, ho.version,
    ⟨ho.w.replicas, ho.w.cpu, ho.w.mem, sl 6 (by decide) rfl ho.w.labels, sl 7 (by decide) rfl ho.w.select, sl 8 (by decide) rfl ho.w.tolerate, ho.w.warm⟩,
    ⟨ho.p.owner, ho.p.node, ho.p.phase, ho.p.since, ho.p.cpu, ho.p.mem, sl 16 (by decide) rfl ho.p.labels, sl 17 (by decide) rfl ho.p.select, sl 18 (by decide) rfl ho.p.tolerate, ho.p.warm⟩,
    ⟨ho.n.group, ho.n.cpu, ho.n.mem, sl 23 (by decide) rfl ho.n.labels, sl 24 (by decide) rfl ho.n.taints, ho.n.since⟩,
    ⟨ho.g.min, ho.g.max, ho.g.target, ho.g.cpu, ho.g.mem, sl 32 (by decide) rfl ho.g.labels, sl 33 (by decide) rfl ho.g.taints, ho.g.priority⟩,
    ⟨ho.h.target, ho.h.min, ho.h.max, sl 38 (by decide) rfl ho.h.metrics, ho.h.tolerance, ⟨ho.h.up.window, ho.h.up.pick, sl 42 (by decide) rfl ho.h.up.policies⟩, ⟨ho.h.down.window, ho.h.down.pick, sl 45 (by decide) rfl ho.h.down.policies⟩, sl 46 (by decide) rfl ho.h.past⟩⟩, fun k hk v e => aw k hk v e ?_⟩
  have hk' := hk
  simp only [rowsAt, List.mem_cons, List.not_mem_nil, or_false] at hk'
  rcases hk' with rfl | rfl | rfl | rfl | rfl | rfl | rfl | rfl | rfl | rfl | rfl | rfl | rfl | rfl <;> (injection e with e; subst e)
  · exact ⟨_, _, _, ho.w.labels.1⟩
  · exact ⟨_, _, _, ho.w.select.1⟩
  · exact ⟨_, _, _, ho.w.tolerate.1⟩
  · exact ⟨_, _, _, ho.p.labels.1⟩
  · exact ⟨_, _, _, ho.p.select.1⟩
  · exact ⟨_, _, _, ho.p.tolerate.1⟩
  · exact ⟨_, _, _, ho.n.labels.1⟩
  · exact ⟨_, _, _, ho.n.taints.1⟩
  · exact ⟨_, _, _, ho.g.labels.1⟩
  · exact ⟨_, _, _, ho.g.taints.1⟩
  · exact ⟨_, _, _, ho.h.metrics.1⟩
  · exact ⟨_, _, _, ho.h.up.policies.1⟩
  · exact ⟨_, _, _, ho.h.down.policies.1⟩
  · exact ⟨_, _, _, ho.h.past.1⟩
/-- An object just made. -/
theorem Ob.News.safe {B : Nat} {V : Nat → Value} (hf : x.Fit) (hn : x.News w B V) (hF : ∀ i, F i → i < B) : (x.reval V).Safe F w := by
  refine ⟨hf.ok hn, fun k hk v e => ?_⟩
  have h1 := hn k hk
  have hk' := hk
  have hv : v = V k := by
    simp only [rowsAt, List.mem_cons, List.not_mem_nil, or_false] at hk'
    rcases hk' with rfl | rfl | rfl | rfl | rfl | rfl | rfl | rfl | rfl | rfl | rfl | rfl | rfl | rfl <;> (injection e with e; exact e.symm)
  intro ad n c hs _ hf'
  have h2 := h1.2 ad n c (hv ▸ hs)
  have := hF _ hf'
  omega
end
end Go.Proofs.Mem
end
section
namespace Go.Proofs.Ytlhaiflebigdlaa
open Go.RowKit Go.Proofs.Mem
set_option linter.unusedVariables false
set_option linter.unusedSimpArgs false
def sAt : List Nat := [6, 7, 8, 16, 17, 18, 23, 24, 32, 33, 38, 42, 45, 46]
/-- All slices are nil. -/
def AllNil (L : Array Value) : Prop := Is47 L ∧ ∀ i ∈ sAt, L[i]? = some (.slice none 0 0)
theorem Bk.same {w : World} {g : Nat} {t : TypeId} {L : Array Value} {i : Nat} {u : Value} (h : Bk w g t L) (hi : L[i]? = some u) : Bk (w.setCell ⟨g, i, none⟩ u) g t L := by
  have h1 := h.set i u
  have h2 : L.setIfInBounds i u = L := by
    obtain ⟨h3, h4⟩ := Array.getElem?_eq_some_iff.1 hi
    rw [Array.setIfInBounds, dif_pos h3, ← h4]
    simp
  rwa [h2] at h1
set_option maxRecDepth 100000 in
theorem clone_nil_lab (w : World) : Calls Try.prog 34 #[.slice none 0 0] w fun e w' => e = .returned (.slice none 0 0) ∧ w' = w := by
  have hnil := fun (w : World) (a : Option Addr) (n c : Nat) => Lib.run_eql_slice_nil (P := Try.prog) w _ _ a n c 0 0 Try.underlying38
  go_enter Try.func34, Try.ntmps34
  go_wp2_with fail
  go_ret
  exact ⟨rfl, rfl⟩
set_option maxRecDepth 100000 in
theorem clone_nil_req (w : World) : Calls Try.prog 35 #[.slice none 0 0] w fun e w' => e = .returned (.slice none 0 0) ∧ w' = w := by
  have hnil := fun (w : World) (a : Option Addr) (n c : Nat) => Lib.run_eql_slice_nil (P := Try.prog) w _ _ a n c 0 0 Try.underlying39
  go_enter Try.func35, Try.ntmps35
  go_wp2_with fail
  go_ret
  exact ⟨rfl, rfl⟩
set_option maxRecDepth 100000 in
theorem clone_nil_met (w : World) : Calls Try.prog 36 #[.slice none 0 0] w fun e w' => e = .returned (.slice none 0 0) ∧ w' = w := by
  have hnil := fun (w : World) (a : Option Addr) (n c : Nat) => Lib.run_eql_slice_nil (P := Try.prog) w _ _ a n c 0 0 Try.underlying48
  go_enter Try.func36, Try.ntmps36
  go_wp2_with fail
  go_ret
  exact ⟨rfl, rfl⟩
set_option maxRecDepth 100000 in
theorem clone_nil_pol (w : World) : Calls Try.prog 37 #[.slice none 0 0] w fun e w' => e = .returned (.slice none 0 0) ∧ w' = w := by
  have hnil := fun (w : World) (a : Option Addr) (n c : Nat) => Lib.run_eql_slice_nil (P := Try.prog) w _ _ a n c 0 0 Try.underlying49
  go_enter Try.func37, Try.ntmps37
  go_wp2_with fail
  go_ret
  exact ⟨rfl, rfl⟩
set_option maxRecDepth 100000 in
theorem clone_nil_sca (w : World) : Calls Try.prog 38 #[.slice none 0 0] w fun e w' => e = .returned (.slice none 0 0) ∧ w' = w := by
  have hnil := fun (w : World) (a : Option Addr) (n c : Nat) => Lib.run_eql_slice_nil (P := Try.prog) w _ _ a n c 0 0 Try.underlying52
  go_enter Try.func38, Try.ntmps38
  go_wp2_with fail
  go_ret
  exact ⟨rfl, rfl⟩
set_option maxHeartbeats 2000000 in
set_option maxRecDepth 100000 in
theorem vclone_nil (w : World) (L : Array Value) (hL : AllNil L) : Calls Try.prog 22 #[.agg L] w fun e w' => e = .returned (.agg L) ∧ Below w.heap.size w w' := by
  have HL := Lib.hid hL
  clear hL
  go_enter Try.func22, Try.ntmps22
  go_wp2_with (first | (refine wpl_allocg rfl (run_alloc47 rfl _) ?_))
  have kq := (Bk.new w 56 L).alloc (.cells Z47 56)
  have kz := Bk.new (w.alloc (.cells L 56)) 56 Z47
  rw [World.size_alloc] at kz
  have B2 : Below w.heap.size w ((w.alloc (.cells L 56)).alloc (.cells Z47 56)) := ((Below.refl _ _).alloc (Nat.le_refl _) _).alloc (by simp) _
  generalize (w.alloc (.cells L 56)).alloc (.cells Z47 56) = w2 at kq kz B2 ⊢
  obtain ⟨q, hq⟩ : ∃ q, q = w.heap.size := ⟨_, rfl⟩
  rw [← hq] at kq kz ⊢
  have hql : q = w.heap.size := hq
  have HQ := Lib.hid hq
  clear hq hql
  go_region
  obtain ⟨PP, hPP⟩ : ∃ PP : Array Value, PP = #[.pointer (some ⟨q, 6, none⟩), .pointer (some ⟨q, 8, none⟩), .pointer (some ⟨q, 16, none⟩), .pointer (some ⟨q, 18, none⟩), .pointer (some ⟨q, 23, none⟩), .pointer (some ⟨q, 24, none⟩), .pointer (some ⟨q, 32, none⟩), .pointer (some ⟨q, 33, none⟩)] := ⟨_, rfl⟩
  rw [← hPP]
  have kp := (Bk.new w2 106 PP).drew
  have kq3 := (kq.alloc (.cells PP 106)).drew
  have kz3 := (kz.alloc (.cells PP 106)).drew
  have B3 := (B2.alloc B2.size (.cells PP 106)).drew
  have hc0 : w.heap.size + 2 ≤ w2.heap.size := by have := kz.lt; have := HQ.out; omega
  obtain ⟨c, hc⟩ : ∃ c, c = w2.heap.size := ⟨_, rfl⟩
  rw [← hc] at kp hc0 ⊢
  generalize (w2.alloc (.cells PP 106)).drew = w3 at kp kq3 kz3 B3 ⊢
  clear kq kz B2 hc w2
  have HPP := Lib.hid hPP
  clear hPP
  have hqc : q < w.heap.size + 1 := by have := HQ.out; omega
  go_wp2_with fail
  go_loopw [41] (fun iv wr => ∃ i : Nat, i ≤ 8 ∧ iv = .int .i64 i ∧ Bk wr c 106 PP ∧ Bk wr q 56 L ∧ Bk wr (q + 1) 56 Z47 ∧ Below w.heap.size w wr) (fun iv wr => 8 - (intOf iv).toNat)
  case atStart => exact ⟨0, by omega, rfl, kp, kq3, kz3, B3⟩
  case round =>
    obtain ⟨i, hi, rfl, kp, kq, kz, B⟩ := hrel
    clear kq3 kz3 B3
    by_cases hlt : i < 8
    · have hk : ∃ k, PP[i]? = some (.pointer (some ⟨q, k, none⟩)) ∧ L[k]? = some (.slice none 0 0) := by
        rw [HPP.out]
        have hs := HL.out.2
        rcases i with _ | _ | _ | _ | _ | _ | _ | _ | i
        · exact ⟨6, rfl, hs _ (by decide)⟩
        · exact ⟨8, rfl, hs _ (by decide)⟩
        · exact ⟨16, rfl, hs _ (by decide)⟩
        · exact ⟨18, rfl, hs _ (by decide)⟩
        · exact ⟨23, rfl, hs _ (by decide)⟩
        · exact ⟨24, rfl, hs _ (by decide)⟩
        · exact ⟨32, rfl, hs _ (by decide)⟩
        · exact ⟨33, rfl, hs _ (by decide)⟩
        · omega
      obtain ⟨k, hk1, hk2⟩ := hk
      have pc := kp.cell i
      rw [hk1] at pc
      have qc := kq.cell k
      rw [hk2] at qc
      have qf := kq.frozen k
      go_wp2_with fail
      refine (clone_nil_lab wr).mono ?_
      rintro e w' ⟨rfl, rfl⟩
      go_wp2_with fail
      have kq4 := Bk.same kq hk2
      have kp4 := kp.far (p := ⟨q, k, none⟩) (by simp; omega) (.slice none 0 0)
      have kz4 := kz.far (p := ⟨q, k, none⟩) (by simp) (.slice none 0 0)
      have B4 := B.setCell (p := ⟨q, k, none⟩) (Nat.le_of_eq HQ.out.symm) (.slice none 0 0)
      go_roundw
      case rel => exact ⟨i + 1, by omega, by go_num, kp4, kq4, kz4, B4⟩
      case measure => simp [intOf]; omega
    · have hi8 : i = 8 := by omega
      subst hi8
      clear kp hi
      have hc7 : wr.cell? ⟨q, 7, none⟩ = some (.slice none 0 0) := by rw [kq.cell]; exact HL.out.2 _ (by decide)
      have hc17 : wr.cell? ⟨q, 17, none⟩ = some (.slice none 0 0) := by rw [kq.cell]; exact HL.out.2 _ (by decide)
      go_wp2_with fail
      refine wp_region_reads3 12 0 (fun i => !(i == 5 || i == 6 || i == 10 || i == 11)) (fun w' => w'.cell? ⟨q, 7, none⟩ = some (.slice none 0 0) ∧ w'.cell? ⟨q, 17, none⟩ = some (.slice none 0 0)) (by kernel_rfl) (by kernel_rfl) (fun c a d v w h => by cases d <;> exact h) ⟨hc7, hc17⟩ ?_
      simp only [List.take_succ_cons, List.take_zero, List.drop_succ_cons, List.drop_zero]
      refine reads3_free (v := ?_) (by rfl) (fun w' => ?_) ?_
      rotate_left
      · go_simp
        with_reducible rfl
      simp only [Act.put, List.setIfInBounds_toArray, List.set_cons_zero, List.set_cons_succ]
      refine reads3_free (v := ?_) (by rfl) (fun w' => ?_) ?_
      rotate_left
      · go_simp
        with_reducible rfl
      simp only [Act.put, List.setIfInBounds_toArray, List.set_cons_zero, List.set_cons_succ]
      refine reads3_free (v := ?_) (by rfl) (fun w' => ?_) ?_
      rotate_left
      · go_simp
        with_reducible rfl
      simp only [Act.put, List.setIfInBounds_toArray, List.set_cons_zero, List.set_cons_succ]
      refine reads3_free (v := ?_) (by rfl) (fun w' => ?_) ?_
      rotate_left
      · go_simp
        with_reducible rfl
      simp only [Act.put, List.setIfInBounds_toArray, List.set_cons_zero, List.set_cons_succ]
      refine reads3_free (v := ?_) (by rfl) (fun w' => ?_) ?_
      rotate_left
      · go_simp
        with_reducible rfl
      simp only [Act.put, List.setIfInBounds_toArray, List.set_cons_zero, List.set_cons_succ]
      refine reads3_step (v := ?_) (by rfl) (by rfl) (fun w' hS => ?_) ?_
      rotate_left
      · have u1 := hS.1
        have u2 := hS.2
        clear hS
        go_simp
        with_reducible rfl
      simp only [Act.put, List.setIfInBounds_toArray, List.set_cons_zero, List.set_cons_succ]
      refine reads3_call (v := .slice none 0 0) _ #[.slice none 0 0] (by rfl) (by rfl) (fun w' _ => ?_) (fun w' _ => clone_nil_req w') ?_
      · go_simp
        try rfl
      simp only [Act.put, List.setIfInBounds_toArray, List.set_cons_zero, List.set_cons_succ]
      refine reads3_free (v := ?_) (by rfl) (fun w' => ?_) ?_
      rotate_left
      · go_simp
        with_reducible rfl
      simp only [Act.put, List.setIfInBounds_toArray, List.set_cons_zero, List.set_cons_succ]
      refine reads3_free (v := ?_) (by rfl) (fun w' => ?_) ?_
      rotate_left
      · go_simp
        with_reducible rfl
      simp only [Act.put, List.setIfInBounds_toArray, List.set_cons_zero, List.set_cons_succ]
      refine reads3_free (v := ?_) (by rfl) (fun w' => ?_) ?_
      rotate_left
      · go_simp
        with_reducible rfl
      simp only [Act.put, List.setIfInBounds_toArray, List.set_cons_zero, List.set_cons_succ]
      refine reads3_step (v := ?_) (by rfl) (by rfl) (fun w' hS => ?_) ?_
      rotate_left
      · have u1 := hS.1
        have u2 := hS.2
        clear hS
        go_simp
        with_reducible rfl
      simp only [Act.put, List.setIfInBounds_toArray, List.set_cons_zero, List.set_cons_succ]
      refine reads3_call (v := .slice none 0 0) _ #[.slice none 0 0] (by rfl) (by rfl) (fun w' _ => ?_) (fun w' _ => clone_nil_req w') ?_
      · go_simp
        try rfl
      simp only [Act.put, List.setIfInBounds_toArray, List.set_cons_zero, List.set_cons_succ]
      refine reads3_nil ?_
      simp only [wpEarly]
      have kq6 := kq.drew
      have kz6 := kz.drew
      have B6 := B.drew
      clear hc7 hc17 kq kz B
      generalize wr.drew = w6 at kq6 kz6 B6 ⊢
      have h7 : L[7]? = some (.slice none 0 0) := HL.out.2 _ (by decide)
      have h17 : L[17]? = some (.slice none 0 0) := HL.out.2 _ (by decide)
      have d7 : w6.cell? ⟨q, 7, none⟩ = some (.slice none 0 0) := by rw [kq6.cell]; exact h7
      have d17 : w6.cell? ⟨q, 17, none⟩ = some (.slice none 0 0) := by rw [kq6.cell]; exact h17
      have f7 := kq6.frozen 7
      have f17 := kq6.frozen 17
      go_wp2_with fail
      have kq7 := Bk.same (Bk.same kq6 h7) h17
      have kz7 := (kz6.far (p := ⟨q, 7, none⟩) (by simp) (.slice none 0 0)).far (p := ⟨q, 17, none⟩) (by simp) (.slice none 0 0)
      have B7 := (B6.setCell (p := ⟨q, 7, none⟩) (Nat.le_of_eq HQ.out.symm) (.slice none 0 0)).setCell (p := ⟨q, 17, none⟩) (Nat.le_of_eq HQ.out.symm) (.slice none 0 0)
      generalize (w6.setCell ⟨q, 7, none⟩ (.slice none 0 0)).setCell ⟨q, 17, none⟩ (.slice none 0 0) = w7 at kq7 kz7 B7 ⊢
      clear d7 d17 f7 f17 kq6 kz6 B6 h7 h17
      have h38 : L[38]? = some (.slice none 0 0) := HL.out.2 _ (by decide)
      have h42 : L[42]? = some (.slice none 0 0) := HL.out.2 _ (by decide)
      have h45 : L[45]? = some (.slice none 0 0) := HL.out.2 _ (by decide)
      have h46 : L[46]? = some (.slice none 0 0) := HL.out.2 _ (by decide)
      have hc38 : w7.cell? ⟨q, 38, none⟩ = some (.slice none 0 0) := by rw [kq7.cell]; exact h38
      have hc42 : w7.cell? ⟨q, 42, none⟩ = some (.slice none 0 0) := by rw [kq7.cell]; exact h42
      have hc45 : w7.cell? ⟨q, 45, none⟩ = some (.slice none 0 0) := by rw [kq7.cell]; exact h45
      have hc46 : w7.cell? ⟨q, 46, none⟩ = some (.slice none 0 0) := by rw [kq7.cell]; exact h46
      refine wp_region_reads3 26 0 (fun i => !(i == 7 || i == 8 || i == 13 || i == 14 || i == 19 || i == 20 || i == 24 || i == 25)) (fun w' => w'.cell? ⟨q, 38, none⟩ = some (.slice none 0 0) ∧ w'.cell? ⟨q, 42, none⟩ = some (.slice none 0 0) ∧ w'.cell? ⟨q, 45, none⟩ = some (.slice none 0 0) ∧ w'.cell? ⟨q, 46, none⟩ = some (.slice none 0 0)) (by kernel_rfl) (by kernel_rfl) (fun c a d v w h => by cases d <;> exact h) ⟨hc38, hc42, hc45, hc46⟩ ?_
      simp only [List.take_succ_cons, List.take_zero, List.drop_succ_cons, List.drop_zero]
      refine reads3_free (v := ?_) (by rfl) (fun w' => ?_) ?_
      rotate_left
      · go_simp
        with_reducible rfl
      simp only [Act.put, List.setIfInBounds_toArray, List.set_cons_zero, List.set_cons_succ]
      refine reads3_free (v := ?_) (by rfl) (fun w' => ?_) ?_
      rotate_left
      · go_simp
        with_reducible rfl
      simp only [Act.put, List.setIfInBounds_toArray, List.set_cons_zero, List.set_cons_succ]
      refine reads3_free (v := ?_) (by rfl) (fun w' => ?_) ?_
      rotate_left
      · go_simp
        with_reducible rfl
      simp only [Act.put, List.setIfInBounds_toArray, List.set_cons_zero, List.set_cons_succ]
      refine reads3_free (v := ?_) (by rfl) (fun w' => ?_) ?_
      rotate_left
      · go_simp
        with_reducible rfl
      simp only [Act.put, List.setIfInBounds_toArray, List.set_cons_zero, List.set_cons_succ]
      refine reads3_free (v := ?_) (by rfl) (fun w' => ?_) ?_
      rotate_left
      · go_simp
        with_reducible rfl
      simp only [Act.put, List.setIfInBounds_toArray, List.set_cons_zero, List.set_cons_succ]
      refine reads3_free (v := ?_) (by rfl) (fun w' => ?_) ?_
      rotate_left
      · go_simp
        with_reducible rfl
      simp only [Act.put, List.setIfInBounds_toArray, List.set_cons_zero, List.set_cons_succ]
      refine reads3_free (v := ?_) (by rfl) (fun w' => ?_) ?_
      rotate_left
      · go_simp
        with_reducible rfl
      simp only [Act.put, List.setIfInBounds_toArray, List.set_cons_zero, List.set_cons_succ]
      refine reads3_step (v := ?_) (by rfl) (by rfl) (fun w' hS => ?_) ?_
      rotate_left
      · have u1 := hS.1
        have u2 := hS.2.1
        have u3 := hS.2.2.1
        have u4 := hS.2.2.2
        clear hS
        go_simp
        with_reducible rfl
      simp only [Act.put, List.setIfInBounds_toArray, List.set_cons_zero, List.set_cons_succ]
      refine reads3_call (v := .slice none 0 0) _ #[.slice none 0 0] (by rfl) (by rfl) (fun w' _ => ?_) (fun w' _ => clone_nil_met w') ?_
      · go_simp
        try rfl
      simp only [Act.put, List.setIfInBounds_toArray, List.set_cons_zero, List.set_cons_succ]
      refine reads3_free (v := ?_) (by rfl) (fun w' => ?_) ?_
      rotate_left
      · go_simp
        with_reducible rfl
      simp only [Act.put, List.setIfInBounds_toArray, List.set_cons_zero, List.set_cons_succ]
      refine reads3_free (v := ?_) (by rfl) (fun w' => ?_) ?_
      rotate_left
      · go_simp
        with_reducible rfl
      simp only [Act.put, List.setIfInBounds_toArray, List.set_cons_zero, List.set_cons_succ]
      refine reads3_free (v := ?_) (by rfl) (fun w' => ?_) ?_
      rotate_left
      · go_simp
        with_reducible rfl
      simp only [Act.put, List.setIfInBounds_toArray, List.set_cons_zero, List.set_cons_succ]
      refine reads3_free (v := ?_) (by rfl) (fun w' => ?_) ?_
      rotate_left
      · go_simp
        with_reducible rfl
      simp only [Act.put, List.setIfInBounds_toArray, List.set_cons_zero, List.set_cons_succ]
      refine reads3_step (v := ?_) (by rfl) (by rfl) (fun w' hS => ?_) ?_
      rotate_left
      · have u1 := hS.1
        have u2 := hS.2.1
        have u3 := hS.2.2.1
        have u4 := hS.2.2.2
        clear hS
        go_simp
        with_reducible rfl
      simp only [Act.put, List.setIfInBounds_toArray, List.set_cons_zero, List.set_cons_succ]
      refine reads3_call (v := .slice none 0 0) _ #[.slice none 0 0] (by rfl) (by rfl) (fun w' _ => ?_) (fun w' _ => clone_nil_pol w') ?_
      · go_simp
        try rfl
      simp only [Act.put, List.setIfInBounds_toArray, List.set_cons_zero, List.set_cons_succ]
      refine reads3_free (v := ?_) (by rfl) (fun w' => ?_) ?_
      rotate_left
      · go_simp
        with_reducible rfl
      simp only [Act.put, List.setIfInBounds_toArray, List.set_cons_zero, List.set_cons_succ]
      refine reads3_free (v := ?_) (by rfl) (fun w' => ?_) ?_
      rotate_left
      · go_simp
        with_reducible rfl
      simp only [Act.put, List.setIfInBounds_toArray, List.set_cons_zero, List.set_cons_succ]
      refine reads3_free (v := ?_) (by rfl) (fun w' => ?_) ?_
      rotate_left
      · go_simp
        with_reducible rfl
      simp only [Act.put, List.setIfInBounds_toArray, List.set_cons_zero, List.set_cons_succ]
      refine reads3_free (v := ?_) (by rfl) (fun w' => ?_) ?_
      rotate_left
      · go_simp
        with_reducible rfl
      simp only [Act.put, List.setIfInBounds_toArray, List.set_cons_zero, List.set_cons_succ]
      refine reads3_step (v := ?_) (by rfl) (by rfl) (fun w' hS => ?_) ?_
      rotate_left
      · have u1 := hS.1
        have u2 := hS.2.1
        have u3 := hS.2.2.1
        have u4 := hS.2.2.2
        clear hS
        go_simp
        with_reducible rfl
      simp only [Act.put, List.setIfInBounds_toArray, List.set_cons_zero, List.set_cons_succ]
      refine reads3_call (v := .slice none 0 0) _ #[.slice none 0 0] (by rfl) (by rfl) (fun w' _ => ?_) (fun w' _ => clone_nil_pol w') ?_
      · go_simp
        try rfl
      simp only [Act.put, List.setIfInBounds_toArray, List.set_cons_zero, List.set_cons_succ]
      refine reads3_free (v := ?_) (by rfl) (fun w' => ?_) ?_
      rotate_left
      · go_simp
        with_reducible rfl
      simp only [Act.put, List.setIfInBounds_toArray, List.set_cons_zero, List.set_cons_succ]
      refine reads3_free (v := ?_) (by rfl) (fun w' => ?_) ?_
      rotate_left
      · go_simp
        with_reducible rfl
      simp only [Act.put, List.setIfInBounds_toArray, List.set_cons_zero, List.set_cons_succ]
      refine reads3_free (v := ?_) (by rfl) (fun w' => ?_) ?_
      rotate_left
      · go_simp
        with_reducible rfl
      simp only [Act.put, List.setIfInBounds_toArray, List.set_cons_zero, List.set_cons_succ]
      refine reads3_step (v := ?_) (by rfl) (by rfl) (fun w' hS => ?_) ?_
      rotate_left
      · have u1 := hS.1
        have u2 := hS.2.1
        have u3 := hS.2.2.1
        have u4 := hS.2.2.2
        clear hS
        go_simp
        with_reducible rfl
      simp only [Act.put, List.setIfInBounds_toArray, List.set_cons_zero, List.set_cons_succ]
      refine reads3_call (v := .slice none 0 0) _ #[.slice none 0 0] (by rfl) (by rfl) (fun w' _ => ?_) (fun w' _ => clone_nil_sca w') ?_
      · go_simp
        try rfl
      simp only [Act.put, List.setIfInBounds_toArray, List.set_cons_zero, List.set_cons_succ]
      refine reads3_nil ?_
      simp only [wpEarly]
      clear hc38 hc42 hc45 hc46
      have kq8 := kq7.drew
      have kz8 := kz7.drew
      have B8 := B7.drew
      clear kq7 kz7 B7
      generalize w7.drew = w8 at kq8 kz8 B8 ⊢
      have c38 : w8.cell? ⟨q, 38, none⟩ = some (.slice none 0 0) := by rw [kq8.cell]; exact h38
      have c42 : w8.cell? ⟨q, 42, none⟩ = some (.slice none 0 0) := by rw [kq8.cell]; exact h42
      have c45 : w8.cell? ⟨q, 45, none⟩ = some (.slice none 0 0) := by rw [kq8.cell]; exact h45
      have c46 : w8.cell? ⟨q, 46, none⟩ = some (.slice none 0 0) := by rw [kq8.cell]; exact h46
      have f38 := kq8.frozen 38
      have f42 := kq8.frozen 42
      have f45 := kq8.frozen 45
      have f46 := kq8.frozen 46
      have kq9 := Bk.same (Bk.same (Bk.same (Bk.same kq8 h38) h42) h45) h46
      have kz9 := (((kz8.far (p := ⟨q, 38, none⟩) (by simp) (.slice none 0 0)).far (p := ⟨q, 42, none⟩) (by simp) (.slice none 0 0)).far (p := ⟨q, 45, none⟩) (by simp) (.slice none 0 0)).far (p := ⟨q, 46, none⟩) (by simp) (.slice none 0 0)
      have hqq := Nat.le_of_eq HQ.out.symm
      have B9 := (((B8.setCell (p := ⟨q, 38, none⟩) hqq (.slice none 0 0)).setCell (p := ⟨q, 42, none⟩) hqq (.slice none 0 0)).setCell (p := ⟨q, 45, none⟩) hqq (.slice none 0 0)).setCell (p := ⟨q, 46, none⟩) hqq (.slice none 0 0)
      obtain ⟨W8, hW8⟩ : ∃ W8, W8 = (((w8.setCell ⟨q, 38, none⟩ (.slice none 0 0)).setCell ⟨q, 42, none⟩ (.slice none 0 0)).setCell ⟨q, 45, none⟩ (.slice none 0 0)).setCell ⟨q, 46, none⟩ (.slice none 0 0) := ⟨_, rfl⟩
      rw [← hW8] at kq9 kz9 B9
      have HU := Lib.hid (Try.underlying56)
      have hzz : Z47.size = L.size := HL.out.1.1.symm
      have H8 := Lib.hid (And.intro kq9 (And.intro kz9 (And.intro B9 hW8)))
      clear kq9 kz9 B9 hW8 kq8 kz8 B8
      go_wp2_with (first | (refine wpl_loadg (by obtain ⟨h1, h2, h3, h4⟩ := H8.out; rw [← h4]; exact h1) rfl 56 (.tmp 1) rfl rfl _ HU.out rfl (info47 HL.out.1) ?_) | (refine wpl_storeg (by obtain ⟨h1, h2, h3, h4⟩ := H8.out; rw [← h4]; exact h2) hzz rfl rfl 56 (.tmp 2) (.tmp 104) rfl rfl rfl (info47 HL.out.1) HL.out.1.2 ?_))
      obtain ⟨h1, h2, h3, h4⟩ := H8.out
      rw [← h4]
      refine bodyPost_ret (v := .agg L) ?_ rfl ⟨rfl, below_setCells (g := q + 1) L.toList 0 h3 (by omega)⟩
      exact results_obj (setCells_whole h2 hzz) HL.out.1 rfl rfl
end Go.Proofs.Ytlhaiflebigdlaa
end
section
namespace Go.Proofs.Ytlhaiflebigdlaa
open Go.RowKit Go.Proofs.Mem
set_option linter.unusedVariables false
set_option linter.unusedSimpArgs false
set_option maxHeartbeats 2000000 in
set_option maxRecDepth 100000 in
theorem vdefault_nil (w : World) (L : Array Value) (hL : AllNil L) (kind : Int) (hk : L[0]? = some (.int .i64 kind)) (h3 : kind ≠ 3) (h4 : kind ≠ 4) : Calls Try.prog 19 #[.agg L] w fun e w' => e = .returned (.agg L) ∧ Below w.heap.size w w' := by
  have HL := Lib.hid hL
  have HK := Lib.hid hk
  have HU := Lib.hid (Try.underlying56)
  clear hL hk
  have k0 := (Bk.new w 56 L).alloc (.cells Z47 56)
  have z0 := Bk.new (w.alloc (.cells L 56)) 56 Z47
  rw [World.size_alloc] at z0
  have B0 : Below w.heap.size w ((w.alloc (.cells L 56)).alloc (.cells Z47 56)) := ((Below.refl _ _).alloc (Nat.le_refl _) _).alloc (by simp) _
  go_enter Try.func19, Try.ntmps19
  go_wp2_with (first | (refine wpl_allocg rfl (run_alloc47 rfl _) ?_) | (refine wpl_loadg k0 rfl 56 (.tmp 1) rfl rfl _ HU.out rfl (info47 HL.out.1) ?_))
  generalize (w.alloc (.cells L 56)).alloc (.cells Z47 56) = w1 at k0 z0 B0 ⊢
  refine (vclone_nil w1 L HL.out).mono ?_
  rintro e w2 ⟨rfl, b2⟩
  have k2 := k0.below' b2
  have z2 := z0.below' b2
  have B2 := below_tr B0 b2
  clear k0 z0 B0 b2
  have kS := setCells_whole k2 rfl
  have zS := setCells_far (h := w.heap.size) (show w.heap.size + 1 ≠ w.heap.size by omega) L.toList 0 z2
  have BS := below_setCells (g := w.heap.size) L.toList 0 B2 (Nat.le_refl _)
  obtain ⟨W3, hW3⟩ : ∃ W3, W3 = w2.setCells w.heap.size 0 L.toList := ⟨_, rfl⟩
  rw [← hW3] at kS zS BS
  have c0 := kS.cell 0
  rw [HK.out] at c0
  have hzz : Z47.size = L.size := HL.out.1.1.symm
  have HW := Lib.hid hW3
  clear hW3
  go_wp2_with (first | (refine wpl_storeg k2 rfl rfl rfl 56 (.tmp 1) (.tmp 4) rfl rfl rfl (info47 HL.out.1) HL.out.1.2 ?_; rw [← HW.out]) | (refine wpl_loadg kS rfl 56 (.tmp 1) rfl rfl _ HU.out rfl (info47 HL.out.1) ?_) | (refine wpl_storeg zS hzz rfl rfl 56 (.tmp 2) (.tmp 28) rfl rfl rfl (info47 HL.out.1) HL.out.1.2 ?_))
  refine bodyPost_ret (v := .agg L) ?_ rfl ⟨rfl, below_setCells (g := w.heap.size + 1) L.toList 0 BS (by omega)⟩
  exact results_obj (setCells_whole zS hzz) HL.out.1 rfl rfl
set_option maxHeartbeats 2000000 in
set_option maxRecDepth 100000 in
theorem lright_nil (w : World) : Calls Try.prog 53 #[.slice none 0 0] w fun e w' => e = .returned (.bool true) ∧ w' = w := by
  go_enter Try.func53, Try.ntmps53
  go_wp2_with fail
  go_loopw [7] (fun iv wr => iv = .int .i64 0 ∧ wr = w) (fun iv wr => 0)
  case atStart => exact ⟨rfl, rfl⟩
  case round =>
    obtain ⟨rfl, rfl⟩ := hrel
    go_wp2_with fail
    go_ret
    exact ⟨rfl, rfl⟩
theorem qright (x : Int) (w : World) (h0 : 0 ≤ x) (h1 : x ≤ 9007199254740992) : Calls Try.prog 61 #[.int .i64 x] w fun e w' => e = .returned (.bool true) ∧ w' = w := by
  go_enter Try.func61, Try.ntmps61
  go_wp2_with fail
  go_ret
  exact ⟨rfl, rfl⟩
end Go.Proofs.Ytlhaiflebigdlaa
end
section
namespace Go.Proofs.Ytlhaiflebigdlaa
open Go.RowKit Go.Proofs.Mem
set_option linter.unusedVariables false
set_option linter.unusedSimpArgs false
theorem between_since (w : World) : Calls Try.prog 51 #[.int .i64 0, .int .i64 0, .int .i64 4611686018427387904] w fun e w' => e = .returned (.bool true) ∧ w' = w := by
  go_enter Try.func51, Try.ntmps51
  go_wp2_with fail
  go_ret
  exact ⟨rfl, rfl⟩
theorem named_none (w : World) : Calls Try.prog 50 #[.string ⟨#[]⟩] w fun e w' => e = .returned (.bool true) ∧ w' = w := by
  go_enter Try.func50, Try.ntmps50
  go_wp2_with fail
  go_ret
  exact ⟨rfl, rfl⟩
set_option maxHeartbeats 2000000 in
set_option maxRecDepth 100000 in
theorem size_one (w : World) : Calls Try.prog 52 #[.agg #[.int .i64 1, .int .i64 0]] w fun e w' => e = .returned (.bool true) ∧ Below w.heap.size w w' := by
  go_enter Try.func52, Try.ntmps52
  go_wp2_with fail
  refine (qright 1 _ (by omega) (by omega)).mono ?_
  rintro e w' ⟨rfl, rfl⟩
  go_wp2_with fail
  refine (qright 0 _ (by omega) (by omega)).mono ?_
  rintro e w' ⟨rfl, rfl⟩
  go_wp2_with fail
  go_ret
  exact ⟨rfl, (Below.refl _ _).alloc (Nat.le_refl _) _⟩
def Nd0 : Array Value := #[.string ⟨#[]⟩, .int .i64 1, .int .i64 0, .slice none 0 0, .slice none 0 0, .int .i64 0, .bool false]
set_option maxHeartbeats 2000000 in
set_option maxRecDepth 100000 in
theorem node_one (w : World) : Calls Try.prog 41 #[.agg Nd0] w fun e w' => e = .returned (.bool true) ∧ Below w.heap.size w w' := by
  unfold Nd0
  go_enter Try.func41, Try.ntmps41
  go_wp2_with fail
  refine (named_none _).mono ?_
  rintro e w' ⟨rfl, rfl⟩
  have k0 := Bk.new w 45 #[.string ⟨#[]⟩, .int .i64 1, .int .i64 0, .slice none 0 0, .slice none 0 0, .int .i64 0, .bool false]
  have B0 := (Below.refl w.heap.size w).alloc (Nat.le_refl _) (.cells #[.string ⟨#[]⟩, .int .i64 1, .int .i64 0, .slice none 0 0, .slice none 0 0, .int .i64 0, .bool false] 45)
  generalize w.alloc (.cells #[.string ⟨#[]⟩, .int .i64 1, .int .i64 0, .slice none 0 0, .slice none 0 0, .int .i64 0, .bool false] 45) = w1 at k0 B0 ⊢
  have c1 := k0.cell 1
  have c2 := k0.cell 2
  go_wp2_with fail
  refine (size_one w1).mono ?_
  rintro e w2 ⟨rfl, b2⟩
  have k2 := k0.below' b2
  have B2 := below_tr B0 b2
  clear k0 B0 b2 c1 c2
  have c3 := k2.cell 3
  have c4 := k2.cell 4
  have c5 := k2.cell 5
  go_wp2_with fail
  refine (lright_nil w2).mono ?_
  rintro e w' ⟨rfl, rfl⟩
  go_wp2_with fail
  refine (lright_nil _).mono ?_
  rintro e w' ⟨rfl, rfl⟩
  go_wp2_with fail
  refine (between_since _).mono ?_
  rintro e w' ⟨rfl, rfl⟩
  go_wp2_with fail
  go_ret
  exact ⟨rfl, B2⟩
end Go.Proofs.Ytlhaiflebigdlaa
end
section
namespace Go.Proofs.Ytlhaiflebigdlaa
open Go.RowKit Go.Proofs.Mem
set_option linter.unusedVariables false
set_option linter.unusedSimpArgs false
set_option maxHeartbeats 2000000 in
set_option maxRecDepth 100000 in
theorem check_one (w : World) (L : Array Value) (hL : Is47 L) (name : ByteArray) (hnm : nmB name = true) (h0 : L[0]? = some (.int .i64 2)) (h1 : L[1]? = some (.string name)) (hn : ∀ j, j < 7 → L[20 + j]? = Nd0[j]?)
    (hemp : ∀ w, Calls Try.prog 45 #[.agg L] w fun e w' => e = .returned (.bool true) ∧ Below w.heap.size w w') :
    Calls Try.prog 23 #[.agg L] w fun e w' => e = .returned (.int .i64 0) ∧ Below w.heap.size w w' := by
  have hsl : name.size ≤ maxLen := by
    unfold nmB at hnm
    simp only [Bool.and_eq_true, decide_eq_true_eq] at hnm
    unfold maxLen; omega
  have CN := Lib.hid (fun w1 => lname_any name w1 hsl)
  rw [hnm] at CN
  have CE := Lib.hid hemp
  have HL := Lib.hid hL
  have HU := Lib.hid (Try.underlying56)
  have k0 := Bk.new w 56 L
  have B0 := (Below.refl w.heap.size w).alloc (Nat.le_refl _) (.cells L 56)
  have q0 := k0.cell 0
  rw [h0] at q0
  have n0 := k0.cell 20
  rw [hn 0 (by omega)] at n0
  have n1 := k0.cell 21
  rw [hn 1 (by omega)] at n1
  have n2 := k0.cell 22
  rw [hn 2 (by omega)] at n2
  have n3 := k0.cell 23
  rw [hn 3 (by omega)] at n3
  have n4 := k0.cell 24
  rw [hn 4 (by omega)] at n4
  have n5 := k0.cell 25
  rw [hn 5 (by omega)] at n5
  have n6 := k0.cell 26
  rw [hn 6 (by omega)] at n6
  unfold Nd0 at n0 n1 n2 n3 n4 n5 n6
  simp only [List.getElem?_toArray, List.getElem?_cons_zero, List.getElem?_cons_succ] at n0 n1 n2 n3 n4 n5 n6
  have H1 := Lib.hid h1
  clear hL hnm hsl hemp h0 h1 hn
  go_enter Try.func23, Try.ntmps23
  go_upto_region 9 with fail
  generalize w.alloc (.cells L 56) = w1 at k0 B0 q0 n0 n1 n2 n3 n4 n5 n6 ⊢
  go_wp2_with fail
  refine (node_one w1).mono ?_
  rintro e w2 ⟨rfl, b2⟩
  have k2 := k0.below' b2
  have B2 := below_tr B0 b2
  clear b2 k0 B0 q0 n0 n1 n2 n3 n4 n5 n6
  have q1 := k2.cell 1
  rw [H1.out] at q1
  go_wp2_with fail
  refine (CN.out w2).mono ?_
  rintro e w3 ⟨rfl, rfl⟩
  go_wp2_with (refine wpl_loadg k2 rfl 56 (.tmp 1) rfl rfl _ HU.out rfl (info47 HL.out) ?_)
  refine (CE.out _).mono ?_
  rintro e w4 ⟨rfl, b4⟩
  have B4 := below_tr B2 b4
  clear b4 B2 k2 q1
  go_wp2_with fail
  go_ret
  exact ⟨rfl, B4⟩
end Go.Proofs.Ytlhaiflebigdlaa
end
section
namespace Go.Proofs.Ytlhaiflebigdlaa
open Go.RowKit Go.Proofs.Mem
set_option linter.unusedVariables false
set_option linter.unusedSimpArgs false
def NdL (name : ByteArray) (v : Int) : Array Value := #[.int .i64 2, .string name, .int .u64 v, .int .i64 0, .int .i64 0, .int .i64 0, .slice none 0 0, .slice none 0 0, .slice none 0 0, .int .i64 0, .string ⟨#[]⟩, .string ⟨#[]⟩, .int .i64 0, .int .i64 0, .int .i64 0, .int .i64 0, .slice none 0 0, .slice none 0 0, .slice none 0 0, .int .i64 0, .string ⟨#[]⟩, .int .i64 1, .int .i64 0, .slice none 0 0, .slice none 0 0, .int .i64 0, .bool false, .int .i64 0, .int .i64 0, .int .i64 0, .int .i64 0, .int .i64 0, .slice none 0 0, .slice none 0 0, .int .i64 0, .string ⟨#[]⟩, .int .i64 0, .int .i64 0, .slice none 0 0, .int .i64 0, .int .i64 0, .int .i64 0, .slice none 0 0, .int .i64 0, .int .i64 0, .slice none 0 0, .slice none 0 0]
theorem NdL.obL (name : ByteArray) (v : Nat) : ObL (NdL name v) 2 name v := ⟨⟨rfl, rfl⟩, rfl, rfl, rfl⟩
theorem NdL.nil (name : ByteArray) (v : Int) : AllNil (NdL name v) := by
  refine ⟨⟨rfl, rfl⟩, fun i hi => ?_⟩
  simp only [sAt, List.mem_cons, List.not_mem_nil, or_false] at hi
  rcases hi with rfl | rfl | rfl | rfl | rfl | rfl | rfl | rfl | rfl | rfl | rfl | rfl | rfl | rfl <;> rfl
theorem NdL.node (name : ByteArray) (v : Int) (j : Nat) (hj : j < 7) : (NdL name v)[20 + j]? = Nd0[j]? := by
  rcases j with _ | _ | _ | _ | _ | _ | _ | j
  all_goals first | rfl | omega
theorem NdL.put (name : ByteArray) (v : Int) (u : Nat) : putL (NdL name v) u = NdL name u := rfl
theorem run_buildnd {ev : Operand → Value} {o : Oper} {s : ByteArray} (ho : o.op = .build 56 #[(0, .const (.int .i64 2)), (1, .tmp 3), (5, .tmp 5)]) (h3 : ev (.tmp 3) = .string s) (h5 : ev (.tmp 5) = .agg Nd0) (hc : ∀ v, ev (.const v) = v) (w : World) : (execOp ev o).run Try.prog w = .ok (.value (.agg (NdL s 0))) w := by
  unfold execOp
  simp only [ho]
  unfold Nd0 at h5
  unfold NdL
  go_simp
theorem wpl_val {P : Program} {ops : Array Oper} {rest : List Oper} {o : Oper} {a : Act} {w : World} {Q : Exit → Act → World → Prop} {v : Value} (hw : Region.wanted o (yielded ops a.tmps) = true) (hr : (execOp a.eval o).run P w = .ok (.value v) w)
    (h : wpList P ops Q rest (a.put o.dst v) w) : wpList P ops Q (o :: rest) a w := by
  refine wpList_step fun K hK => ?_
  rw [if_pos hw]
  unfold Oper.wp
  rw [hr]
  exact hK _ _ h
set_option maxHeartbeats 2000000 in
set_option maxRecDepth 100000 in
theorem node8_any (name : ByteArray) (w : World) : Calls Try.prog 12 #[.string name] w fun e w' => e = .returned (.agg (NdL name 0)) ∧ Below w.heap.size w w' := by
  have kz := Bk.new w 56 Z47
  have B0 := below_al w (.cells Z47 56)
  have hL := (NdL.nil name 0).1
  have hzz : Z47.size = (NdL name 0).size := rfl
  have HL := Lib.hid hL
  clear hL
  obtain ⟨L, hLe⟩ : ∃ L, L = NdL name 0 := ⟨_, rfl⟩
  rw [← hLe] at HL hzz ⊢
  have HE := Lib.hid hLe
  clear hLe
  go_enter Try.func12, Try.ntmps12
  go_wp2_with (first | (refine wpl_allocg rfl (run_alloc47 rfl _) ?_) | (refine wpl_val rfl (run_buildnd (s := name) rfl rfl rfl (fun _ => rfl) _) ?_; rw [← HE.out]) | (refine wpl_storeg kz hzz rfl rfl 56 (.tmp 2) (.tmp 6) rfl rfl rfl (info47 HL.out) HL.out.2 ?_))
  refine bodyPost_ret (v := .agg L) ?_ rfl ⟨rfl, below_setCells (g := w.heap.size) L.toList 0 B0 (Nat.le_refl _)⟩
  exact results_obj (setCells_whole kz hzz) HL.out rfl rfl
theorem run_build0 {ev : Operand → Value} {o : Oper} (ho : o.op = .build 56 #[]) (w : World) : (execOp ev o).run Try.prog w = .ok (.value (.agg Z47)) w := by
  unfold execOp
  simp only [ho]
  unfold Z47
  go_simp
theorem results_obj_two {fn : Func} {t s : Nat} {tmps : Array Value} {w : World} {g : Nat} {ty : TypeId} {L : Array Value} (hk : Bk w g ty L) (hL : Is47 L) (hf : fn.results = #[.cell t 56, .tmp s]) (hp : tmps.getD t undef = .pointer (some ⟨g, 0, none⟩)) : (results fn tmps).run Try.prog w = .ok (.tuple #[.agg L, tmps.getD s undef]) w := by
  have hr := run_loadVar_mid (P := Try.prog) w g 0 56 L.toList _ hk.range Try.underlying56 rfl (by simpa using info47 hL)
  have hp' : tmps[t]?.getD undef = .pointer (some ⟨g, 0, none⟩) := by rw [← hp, Array.getD_eq_getD_getElem?]
  simp only [results, hf]
  simp [hp', asAddr, hr]
set_option maxHeartbeats 2000000 in
set_option maxRecDepth 100000 in
theorem get_nil (kind : Int) (name : ByteArray) (w : World) : Calls Try.prog 10 #[.pointer none, .int .i64 kind, .string name] w fun e w' => e = .returned (.tuple #[.agg Z47, .bool false]) ∧ Below w.heap.size w w' := by
  have kz := Bk.new w 56 Z47
  have B0 := below_al w (.cells Z47 56)
  have hz := z47_is
  go_enter Try.func10, Try.ntmps10
  go_wp2_with (first | (refine wpl_allocg rfl (run_alloc47 rfl _) ?_) | (refine wpl_val rfl (run_build0 rfl _) ?_) | (refine wpl_storeg kz rfl rfl rfl 56 (.tmp 6) (.tmp 12) rfl rfl rfl (info47 hz) hz.2 ?_))
  refine bodyPost_ret (v := .tuple #[.agg Z47, .bool false]) ?_ rfl ⟨rfl, below_setCells (g := w.heap.size) Z47.toList 0 B0 (Nat.le_refl _)⟩
  exact results_obj_two (t := 6) (s := 7) (setCells_whole kz rfl) hz rfl (by rfl)
end Go.Proofs.Ytlhaiflebigdlaa
end
section
namespace Go.Proofs.Ytlhaiflebigdlaa
open Go.RowKit Go.Proofs.Mem
set_option linter.unusedVariables false
set_option linter.unusedSimpArgs false
def N1 : ByteArray := ⟨#[110, 49]⟩
theorem n1_nm : nmB N1 = true := by decide +kernel
theorem n1_len : N1.size ≤ maxLen := by decide +kernel
def EmpOne : Prop := ∀ (name : ByteArray) (v : Int) (w : World), Calls Try.prog 45 #[.agg (NdL name v)] w fun e w' => e = .returned (.bool true) ∧ Below w.heap.size w w'
theorem nd_default (name : ByteArray) (v : Int) (w1 : World) : Calls Try.prog 19 #[.agg (NdL name v)] w1 fun e w' => e = .returned (.agg (NdL name v)) ∧ Below w1.heap.size w1 w' :=
  vdefault_nil w1 _ (NdL.nil name v) 2 rfl (by decide) (by decide)
section
variable (hE : EmpOne)
include hE
theorem nd_check (name : ByteArray) (hnm : nmB name = true) (v : Int) (w1 : World) : Calls Try.prog 23 #[.agg (NdL name v)] w1 fun e w' => e = .returned (.int .i64 0) ∧ Below w1.heap.size w1 w' :=
  check_one w1 _ (NdL.nil name v).1 name hnm rfl rfl (NdL.node name v) (hE name v)
/-- Create of a small node. -/
theorem nd_create (w : World) (p b n : Nat) (D : DataW Value) (most : Int) (now : Nat) (ev : Value) (evs : List Ev) (h : StIs w p b n D most now ev evs) (hN : n < maxLen) (name : ByteArray) (hnm : nmB name = true) (hs : name.size ≤ maxLen) (v : Nat)
    (Lw : Array Value) (hLw : Is47 Lw) (hval : valAt D (kOf 2 name) (.agg Z47) = .agg Lw) (hnow : now < 1000000000) (hl : evs.length ≤ 1024) :
    Calls Try.prog 13 #[.pointer (some ⟨p, 0, none⟩), .agg (NdL name v)] w (CreateSt p b n D most now ev evs 2 name (NdL name v) w) :=
  create_any w p b n D most now ev evs h hN 2 name v (NdL name v) (NdL name v) (NdL.nil name v).1 (NdL.obL name v) rfl hs Lw hLw hval (fun w1 _ => nd_default name v w1) (fun w1 _ => nd_check hE name hnm v w1) (fun w1 h1 => note_any w1 p b n D most now ev evs h1 hnow hl 0 2 name)
theorem nd_update (w : World) (p b n : Nat) (D : DataW Value) (most : Int) (now : Nat) (ev : Value) (evs : List Ev) (h : StIs w p b n D most now ev evs) (hN : n < maxLen) (name : ByteArray) (hnm : nmB name = true) (hs : name.size ≤ maxLen) (v : Nat)
    (Lw : Array Value) (hLw : Is47 Lw) (vw : Nat) (hvw : Lw[2]? = some (.int .u64 vw)) (hval : valAt D (kOf 2 name) (.agg Z47) = .agg Lw) (hnow : now < 1000000000) (hl : evs.length ≤ 1024) :
    Calls Try.prog 14 #[.pointer (some ⟨p, 0, none⟩), .agg (NdL name v)] w (UpdateSt p b n D most now ev evs 2 name (NdL name v) vw v w) :=
  update_any w p b n D most now ev evs h hN 2 name v (NdL name v) (NdL name v) (NdL.nil name v).1 (NdL.obL name v) rfl hs Lw hLw vw hvw hval (fun w1 _ => nd_default name v w1) (fun w1 _ => nd_check hE name hnm v w1) (fun w1 h1 => note_any w1 p b n D most now ev evs h1 hnow hl 1 2 name)
set_option maxHeartbeats 4000000 in
set_option maxRecDepth 100000 in
theorem lives8_any (w : World) : Calls Try.prog 4 #[] w fun e w' => e = .returned (.bool true) ∧ Below w.heap.size w w' := by
  have hE' := Lib.hid hE
  clear hE
  have HU := Lib.hid (Try.underlying56)
  go_enter Try.func4, Try.ntmps4
  go_wp2_with fail
  refine (snew_any 9 w (by omega) (by omega)).mono ?_
  rintro e w1 ⟨p, b, rfl, hb, hS1, B1⟩
  have HS1 := Lib.hid hS1
  clear hS1
  go_wp2_with fail
  refine (node8_any N1 w1).mono ?_
  rintro e w2 ⟨rfl, b2⟩
  have HS2 := Lib.hid (HS1.out.below b2)
  have B2 := below_tr B1 b2
  clear b2 B1 HS1
  obtain ⟨L, hLe⟩ : ∃ L, L = NdL N1 0 := ⟨_, rfl⟩
  rw [← hLe]
  have hL : Is47 L := by rw [hLe]; exact (NdL.nil N1 0).1
  have HL := Lib.hid (And.intro hL hLe)
  clear hL hLe
  have hzz : Z47.size = L.size := HL.out.1.1.symm
  have kz := Bk.new w2 56 Z47
  have ko := setCells_whole kz hzz
  have B3 := below_setCells (g := w2.heap.size) L.toList 0 (B2.alloc B2.size (.cells Z47 56)) B2.size
  have HS3 := Lib.hid (HS2.out.below (below_setCells (g := w2.heap.size) L.toList 0 (below_al w2 (.cells Z47 56)) (Nat.le_refl _)))
  go_wp2_with (first | (refine wpl_allocg rfl (run_alloc47 rfl _) ?_) | (refine wpl_storeg kz hzz rfl rfl 56 (.tmp 3) (.tmp 14) rfl rfl rfl (info47 HL.out.1) HL.out.1.2 ?_) | (refine wpl_loadg ko rfl 56 (.tmp 3) rfl rfl _ HU.out rfl (info47 HL.out.1) ?_))
  generalize hw3 : (w2.alloc (.cells Z47 56)).setCells w2.heap.size 0 L.toList = w3 at ko B3 HS3 ⊢
  have hp2 := HS2.out.2.1.lt
  have hb2 := HS2.out.2.2.1.lt
  obtain ⟨o, ho⟩ : ∃ o, o = w2.heap.size := ⟨_, rfl⟩
  rw [← ho] at ko hp2 hb2 ⊢
  clear hw3 kz B2 HS2 ho w2
  rw [show Value.agg L = .agg (NdL N1 0) from by rw [HL.out.2]]
  refine (nd_create hE'.out w3 p b 0 (.map []) 9 0 (.slice none 0 0) [] HS3.out (by unfold maxLen; omega) N1 n1_nm n1_len 0 Z47 z47_is (valAt_empty _ _) (by omega) (by simp)).mono ?_
  intro e w4 hC
  unfold CreateSt at hC
  rw [if_neg (by simp [Maps.has]), if_neg (by simp [Maps.size])] at hC
  obtain ⟨ev1, rfl, hS4, hT4, hE4⟩ := hC
  have ko4 := hT4.bk ko (by omega) (by omega) (by simp [Value.ownBlock])
  rw [HL.out.2] at ko4
  have hbp := HS3.out.1
  have B4 := B3.trans (hT4.low B3.size (by omega) hb (by simp [Value.ownBlock]))
  have hol := ko.lt
  have hne1 : some o ≠ ev1.ownBlock := fun e => by
    rcases hE4 with h | ⟨g, h1, h2⟩
    · rw [h] at e; simp [Value.ownBlock] at e
    · rw [h2] at e; injection e with e; omega
  have hge1 : ∀ g, ev1.ownBlock = some g → w.heap.size ≤ g := fun g hg => by
    have := hS4.evGe hg
    omega
  have HS4 := Lib.hid hS4
  clear ko B3 HS3 hT4 hE4 hS4 hol w3
  have o2 := ko4.cell 2
  rw [show (NdL N1 0)[2]? = some (.int .u64 0) from rfl] at o2
  have f2 := ko4.frozen 2
  have ko5 := ko4.set 2 (.int .u64 1)
  rw [show (NdL N1 0).setIfInBounds 2 (.int .u64 1) = NdL N1 1 from rfl] at ko5
  have HS5 := Lib.hid (show StIs (w4.setCell ⟨o, 2, none⟩ (.int .u64 1)) p b 1 _ 9 1 ev1 _ from ⟨HS4.out.1, HS4.out.2.1.far (by simp; omega) _, HS4.out.2.2.1.setCell (by simp; omega) _, own_block HS4.out.2.2.2 fun g hg => Below.heap_setCell _ _ _ _ (fun e => hne1 (by rw [hg, e]))⟩)
  have B5 := B4.setCell (p := ⟨o, 2, none⟩) (by simp; omega) (.int .u64 1)
  simp only [Nat.zero_add]
  rw [show (((1 : Nat) : Int)) = 1 from rfl]
  have h1 : Is47 (NdL N1 1) := (NdL.nil N1 1).1
  go_wp2_with (refine wpl_loadg (cs := NdL N1 1) ko5 rfl 56 (.tmp 3) rfl rfl _ HU.out rfl (info47 h1) ?_)
  generalize w4.setCell ⟨o, 2, none⟩ (.int .u64 1) = w5 at ko5 HS5 B5 ⊢
  clear ko4 B4 HS4 o2 f2 w4
  have hi0 : Maps.IsMap (.map [] : DataW Value) := ⟨[], rfl⟩
  have hkl := keyLit_kOf 2 N1
  refine (nd_update hE'.out w5 p b 1 _ 9 1 ev1 _ HS5.out (by unfold maxLen; omega) N1 n1_nm n1_len 1 (NdL N1 1) h1 1 rfl (valAt_put_same hi0 hkl _ _) (by omega) (nextEvs_len _ (by simp))).mono ?_
  intro e w6 hC
  unfold UpdateSt at hC
  rw [if_neg (by rw [Maps.has_put_same hi0 hkl]; simp), if_pos rfl] at hC
  obtain ⟨ev2, rfl, hS6, hT6, hE6⟩ := hC
  have ko6 := hT6.bk ko5 (by omega) (by omega) hne1
  have B6 := B5.trans (hT6.low B5.size (by omega) hb hge1)
  have HS6 := Lib.hid hS6
  have hi1 := HS5.out.2.2.1.isMap
  clear hS6 hT6 hE6 ko5 B5 HS5 w5
  go_wp2_with (refine wpl_loadg (cs := NdL N1 1) ko6 rfl 56 (.tmp 3) rfl rfl _ HU.out rfl (info47 h1) ?_)
  refine (nd_update hE'.out w6 p b 2 _ 9 2 ev2 _ HS6.out (by unfold maxLen; omega) N1 n1_nm n1_len 1 (NdL N1 2) (NdL.nil N1 2).1 2 rfl (valAt_put_same hi1 hkl _ _) (by omega) (nextEvs_len _ (nextEvs_len _ (by simp)))).mono ?_
  intro e w7 hC
  unfold UpdateSt at hC
  rw [if_neg (by rw [Maps.has_put_same hi1 hkl]; simp), if_neg (by omega)] at hC
  obtain ⟨rfl, b7⟩ := hC
  have B7 := below_tr B6 b7
  clear b7 B6 HS6 ko6
  go_wp2_with fail
  go_ret
  exact ⟨rfl, B7⟩
end
end Go.Proofs.Ytlhaiflebigdlaa
end
section
namespace Go.Proofs.Ytlhaiflebigdlaa
open Go.RowKit Go.Proofs.Mem
def ndO (name : ByteArray) (v : Int) : Ob := ⟨2, name, v, .zero, .zero, ⟨⟨#[]⟩, 1, 0, .nil, .nil, 0, false⟩, .zero, .zero⟩
theorem emp_one8 : EmpOne := fun name v w => by
  have h := vempties_sub (ndO name v) w ⟨⟨rfl, rfl, rfl, Row.nil_ok, Row.nil_ok, Row.nil_ok, rfl⟩, ⟨by show (0 : Nat) ≤ reachBytes; decide, by show (0 : Nat) ≤ reachBytes; decide, rfl, rfl, rfl, rfl, Row.nil_ok, Row.nil_ok, Row.nil_ok, rfl⟩, ⟨by show (0 : Nat) ≤ reachBytes; decide, rfl, rfl, Row.nil_ok, Row.nil_ok, rfl⟩, ⟨rfl, rfl, rfl, rfl, rfl, Row.nil_ok, Row.nil_ok, rfl⟩, ⟨by show (0 : Nat) ≤ reachBytes; decide, rfl, rfl, Row.nil_ok, rfl, ⟨rfl, rfl, Row.nil_ok⟩, ⟨rfl, rfl, Row.nil_ok⟩, Row.nil_ok⟩⟩
  have e : cemptyB (ndO name v) = true := by kernel_rfl
  rw [e] at h
  exact h
theorem lives8 (w : World) : Calls Try.prog 4 #[] w fun e w' => e = .returned (.bool true) ∧ Below w.heap.size w w' := lives8_any emp_one8 w
end Go.Proofs.Ytlhaiflebigdlaa
end
section
namespace Go.Proofs.Ytlhaiflebigdlaa
open Go.RowKit Go.Proofs.Mem
set_option linter.unusedVariables false
set_option linter.unusedSimpArgs false
theorem run_boxg {ev : Operand → Value} {o : Oper} {L : Array Value} {t : TypeId} {x : Operand} (ho : o.op = .box t x) (hx : ev x = .agg L) (w : World) : (execOp ev o).run Try.prog w = .ok (.value (.pointer (some ⟨w.heap.size, 0, none⟩))) (w.alloc (.cells L t)) := by
  unfold execOp
  simp only [ho, hx]
  go_simp
/-- An act's cells. -/
def actA (ak : Int) (o : Ob) (right : Bool) : Array Value := ([Value.int .i64 ak] ++ o.cells ++ [Value.bool right]).toArray
theorem actA_is (ak : Int) (o : Ob) (right : Bool) : (actA ak o right).size = 49 ∧ (actA ak o right)[0]? = some (.int .i64 ak) ∧ (actA ak o right)[1]? = some (.int .i64 o.kind) ∧ (actA ak o right)[2]? = some (.string o.name) ∧ (actA ak o right)[3]? = some (.int .u64 o.version) ∧ (actA ak o right)[48]? = some (.bool right) := ⟨rfl, rfl, rfl, rfl, rfl, rfl⟩
theorem actA_ob (ak : Int) (o : Ob) (right : Bool) : ((actA ak o right).toList.drop 1).take 47 = o.cells := rfl
theorem actA_ver (ak : Int) (o : Ob) (right : Bool) (v : Int) : (actA ak o right).setIfInBounds 3 (.int .u64 v) = actA ak ⟨o.kind, o.name, v, o.w, o.p, o.n, o.g, o.h⟩ right := by
  unfold actA
  rw [List.setIfInBounds_toArray]
  exact congrArg List.toArray (by kernel_rfl)
set_option maxRecDepth 100000 in
/-- A frame of 280 slots of which these are known. -/
def doF (p mb : Nat) (most : Int) (q : Nat) (fi : Int) (f : Nat → Value) : Array Value := #[.pointer (some ⟨p, 0, none⟩), .pointer (some ⟨mb, 0, none⟩), .int .i64 most, f 3, f 4, f 5, f 6, .pointer (some ⟨q, 0, none⟩), f 8, .int .i64 fi, f 10, f 11, f 12, f 13, f 14, f 15, f 16, f 17, f 18, f 19, f 20, f 21, f 22, f 23, f 24, f 25, f 26, f 27, f 28, f 29, f 30, f 31, f 32, f 33, f 34, f 35, f 36, f 37, f 38, f 39, f 40, f 41, f 42, f 43, f 44, f 45, f 46, f 47, f 48, f 49, f 50, f 51, f 52, f 53, f 54, f 55, f 56, f 57, f 58, f 59, f 60, f 61, f 62, f 63, f 64, f 65, f 66, f 67, f 68, f 69, f 70, f 71, f 72, f 73, f 74, f 75, f 76, f 77, f 78, f 79, f 80, f 81, f 82, f 83, f 84, f 85, f 86, f 87, f 88, f 89, f 90, f 91, f 92, f 93, f 94, f 95, f 96, f 97, f 98, f 99, f 100, f 101, f 102, f 103, f 104, f 105, f 106, f 107, f 108, f 109, f 110, f 111, f 112, f 113, f 114, f 115, f 116, f 117, f 118, f 119, f 120, f 121, f 122, f 123, f 124, f 125, f 126, f 127, f 128, f 129, f 130, f 131, f 132, f 133, f 134, f 135, f 136, f 137, f 138, f 139, f 140, f 141, f 142, f 143, f 144, f 145, f 146, f 147, f 148, f 149, f 150, f 151, f 152, f 153, f 154, f 155, f 156, f 157, f 158, f 159, f 160, f 161, f 162, f 163, f 164, f 165, f 166, f 167, f 168, f 169, f 170, f 171, f 172, f 173, f 174, f 175, f 176, f 177, f 178, f 179, f 180, f 181, f 182, f 183, f 184, f 185, f 186, f 187, f 188, f 189, f 190, f 191, f 192, f 193, f 194, f 195, f 196, f 197, f 198, f 199, f 200, f 201, f 202, f 203, f 204, f 205, f 206, f 207, f 208, f 209, f 210, f 211, f 212, f 213, f 214, f 215, f 216, f 217, f 218, f 219, f 220, f 221, f 222, f 223, f 224, f 225, f 226, f 227, f 228, f 229, f 230, f 231, f 232, f 233, f 234, f 235, f 236, f 237, f 238, f 239, f 240, f 241, f 242, f 243, f 244, f 245, f 246, f 247, f 248, f 249, f 250, f 251, f 252, f 253, f 254, f 255, f 256, f 257, f 258, f 259, f 260, f 261, f 262, f 263, f 264, f 265, f 266, f 267, f 268, f 269, f 270, f 271, f 272, f 273, f 274, f 275, f 276, f 277, f 278, f 279]
set_option maxRecDepth 100000 in
theorem frame280 (a : Act) {p mb q : Nat} {most fi : Int} (h : a.tmps.size = 280) (h0 : a.tmps[0]? = some (.pointer (some ⟨p, 0, none⟩))) (h1 : a.tmps[1]? = some (.pointer (some ⟨mb, 0, none⟩))) (h2 : a.tmps[2]? = some (.int .i64 most)) (h7 : a.tmps[7]? = some (.pointer (some ⟨q, 0, none⟩))) (h9 : a.tmps[9]? = some (.int .i64 fi)) (hd : a.defers = []) : ∃ f : Nat → Value, a = ⟨doF p mb most q fi f, []⟩ := by
  refine ⟨fun i => a.tmps.getD i undef, ?_⟩
  obtain ⟨T, ds⟩ := a
  simp only at h h0 h1 h2 h7 h9 hd
  subst hd
  have e0 : Value.pointer (some ⟨p, 0, none⟩) = T.getD 0 undef := by rw [Array.getD_eq_getD_getElem?, h0]; rfl
  have e1 : Value.pointer (some ⟨mb, 0, none⟩) = T.getD 1 undef := by rw [Array.getD_eq_getD_getElem?, h1]; rfl
  have e2 : Value.int .i64 most = T.getD 2 undef := by rw [Array.getD_eq_getD_getElem?, h2]; rfl
  have e7 : Value.pointer (some ⟨q, 0, none⟩) = T.getD 7 undef := by rw [Array.getD_eq_getD_getElem?, h7]; rfl
  have e9 : Value.int .i64 fi = T.getD 9 undef := by rw [Array.getD_eq_getD_getElem?, h9]; rfl
  refine congrArg (fun t => (⟨t, []⟩ : Act)) ?_
  unfold doF
  rw [e0, e1, e2, e7, e9]
  exact (frame_lit h).trans rfl
/-- The rest of the act's code. -/
def IsRest (c : Code) : Prop := ∃ x y z, (Try.f7).body = some (.seq x (.seq y (.seq z c)))
/-- The version that the act is with. -/
def verOf (ml : List Ob) (o : Ob) (right : Bool) : Int := match right with
  | false => o.version
  | true => match findN o.kind o.name ml with
    | some i => match ml[i]? with
      | some x => x.version
      | none => o.version
    | none => o.version
set_option maxHeartbeats 4000000 in
set_option maxRecDepth 100000 in
theorem do8_pre (w : World) (p b n : Nat) (D : DataW Value) (most : Int) (now : Nat) (ev : Value) (evs : List Ev) (h : StIs w p b n D most now ev evs) (mb : Nat) (lv : Value) (mev : Value) (mevs : List Ev) (hm : MdIs w mb lv now mev mevs) (ml : List Ob) (hrow : w.ownsRow (mb + 1) 56 47 lv ml.length (ml.flatMap Ob.cells)) (hok : ∀ x ∈ ml, x.Ok w) (hlen : ml.length ≤ 100000)
    (ak : Int) (o : Ob) (right : Bool) (ho : o.Ok w) (R : Ending → World → Prop)
    (hrest : ∀ (c : Code) (f : Nat → Value) (w3 : World) (v : Int), IsRest c → StIs w3 p b n D most now ev evs → MdIs w3 mb lv now mev mevs → Below w.heap.size w w3 → Bk w3 w.heap.size 58 (actA ak ⟨o.kind, o.name, v, o.w, o.p, o.n, o.g, o.h⟩ right) → v = verOf ml o right → c.wp Try.prog (bodyPost Try.prog Try.f7 R) ⟨doF p mb most w.heap.size (findI o.kind o.name ml) f, []⟩ w3) :
    Calls Try.prog 7 #[.pointer (some ⟨p, 0, none⟩), .pointer (some ⟨mb, 0, none⟩), .int .i64 most, .agg (actA ak o right)] w R := by
  obtain ⟨a0, a1, a2, a3, a4, a5⟩ := actA_is ak o right
  obtain ⟨A, hA⟩ : ∃ A, A = actA ak o right := ⟨_, rfl⟩
  rw [← hA] at a0 a1 a2 a3 a4 a5 ⊢
  have HA := Lib.hid (And.intro hA a0)
  clear hA a0
  have k1 := Bk.new w 58 A
  have B1 := below_al w (.cells A 58)
  obtain ⟨q, hq⟩ : ∃ q, q = w.heap.size := ⟨_, rfl⟩
  rw [← hq] at k1
  have hm1 := hm.below B1
  have hl1 := (Sl.of_own hrow).below B1
  have c0 : (w.alloc (.cells A 58)).cell? ⟨q, 1, none⟩ = some (.int .i64 o.kind) := by rw [k1.cell]; exact a2
  have c1 : (w.alloc (.cells A 58)).cell? ⟨q, 2, none⟩ = some (.string o.name) := by rw [k1.cell]; exact a3
  have hql : q < (w.alloc (.cells A 58)).heap.size := k1.lt
  have hqe : w.heap.size = q := hq.symm
  have HF := Lib.hid (fun (w1 : World) (h1 : Below w.heap.size w w1) (h2 : MdIs w1 mb lv now mev mevs) => find_any w1 mb lv ml (h2.1.cell 0) h2.1.lt ((Sl.of_own hrow).below h1) (fun x hx => cells_is x (hok x hx)) hlen o.kind o.name)
  have H1 := Lib.hid (And.intro hm1 (And.intro B1 k1))
  have HS := Lib.hid (And.intro h (And.intro hm (And.intro hrow (And.intro hok ho))))
  obtain ⟨w1, hw1⟩ : ∃ w1, w1 = w.alloc (.cells A 58) := ⟨_, rfl⟩
  rw [← hw1] at c0 c1 hql H1
  have HW := Lib.hid hw1.symm
  have HQ := Lib.hid hqe
  clear h hm hrow hok ho hm1 hl1 k1 B1 hq hw1 hqe
  go_enter Try.func7, Try.ntmps7
  refine wp_seq ?_
  refine wp_hide fun QA HQA => ?_
  go_wp2_with (refine wpl_allocg rfl (run_boxg rfl rfl _) ?_; rw [HW.out, HQ.out])
  rw [HQA.out]
  clear HQA QA
  simp only [Exit.then]
  refine wp_seq ?_
  refine wp_hide fun QB HQB => ?_
  go_wp2_with fail
  have S1 := HS.out.1.below H1.out.2.1
  refine (HF.out w1 H1.out.2.1 H1.out.1).mono ?_
  rintro e w2 ⟨rfl, b2⟩
  obtain ⟨m1, B1, k1⟩ := H1.out
  have m2 := m1.below b2
  have B2 := below_tr B1 b2
  have k2 := k1.below' b2
  have S2 := HS.out.1.below B2
  have R2 := (Sl.of_own HS.out.2.2.1).below B2
  have q48 : w2.cell? ⟨q, 48, none⟩ = some (.bool right) := by rw [k2.cell]; exact a5
  have q3 : w2.cell? ⟨q, 3, none⟩ = some (.int .u64 o.version) := by rw [k2.cell]; exact a4
  have f3 := k2.frozen 3
  have m0 := m2.1.cell 0
  have H2 := Lib.hid (And.intro m2 (And.intro B2 (And.intro k2 (And.intro S2 R2))))
  clear m1 B1 k1 m2 B2 k2 S2 R2 S1 b2 c0 c1 hql H1 a1 a2 a3 a4 a5
  have HREST := Lib.hid hrest
  clear hrest
  have hfin : ∀ (c : Code) (a : Act) (w3 : World) (v : Int), a.tmps.size = 280 → a.tmps[0]? = some (.pointer (some ⟨p, 0, none⟩)) → a.tmps[1]? = some (.pointer (some ⟨mb, 0, none⟩)) → a.tmps[2]? = some (.int .i64 most) → a.tmps[7]? = some (.pointer (some ⟨q, 0, none⟩)) → a.tmps[9]? = some (.int .i64 (findI o.kind o.name ml)) → a.defers = [] →
      StIs w3 p b n D most now ev evs → MdIs w3 mb lv now mev mevs → Below w.heap.size w w3 → Bk w3 q 58 (actA ak ⟨o.kind, o.name, v, o.w, o.p, o.n, o.g, o.h⟩ right) → v = verOf ml o right → IsRest c → c.wp Try.prog (bodyPost Try.prog Try.f7 R) a w3 := by
    intro c a w3 v s0 s1 s2 s3 s4 s5 s6 t1 t2 t3 t4 t5 t6
    obtain ⟨f, rfl⟩ := frame280 a s0 s1 s2 s3 s4 s5 s6
    have h9 := HREST.out c f w3 v t6 t1 t2 t3 (by rw [HQ.out]; exact t4) t5
    rw [HQ.out] at h9
    exact h9
  have HFIN := Lib.hid hfin
  clear hfin
  go_wp2_with fail
  rw [HQB.out]
  clear HQB QB
  simp only [Exit.then]
  refine wp_seq ?_
  refine wp_hide fun Q2 HQ2 => ?_
  obtain ⟨fi, hfi⟩ : ∃ fi, fi = findI o.kind o.name ml := ⟨_, rfl⟩
  rw [← hfi]
  have HFI := Lib.hid hfi
  cases hr : right with
  | false =>
    rw [hr] at q48
    have hv : o.version = verOf ml o right := by rw [hr]; rfl
    have HV := Lib.hid hv
    clear hv hr hfi
    go_wp2_with fail
    rw [HQ2.out]
    simp only [Exit.then]
    obtain ⟨m2, B2, k2, S2, R2⟩ := H2.out
    exact HFIN.out _ _ _ o.version rfl rfl rfl rfl rfl (by rw [HFI.out]; rfl) rfl S2 m2 B2 (by rw [← HA.out.1]; exact k2) HV.out ⟨_, _, _, rfl⟩
  | true =>
    rw [hr] at q48
    cases hf : findN o.kind o.name ml with
    | none =>
      have hm1 : fi = -1 := by rw [hfi]; unfold findI; rw [hf]
      have hv : o.version = verOf ml o right := by rw [hr]; unfold verOf; rw [hf]
      have HV := Lib.hid hv
      clear hv hr hfi hf
      subst hm1
      go_wp2_with fail
      rw [HQ2.out]
      simp only [Exit.then]
      obtain ⟨m2, B2, k2, S2, R2⟩ := H2.out
      exact HFIN.out _ _ _ o.version rfl rfl rfl rfl rfl (by rw [← HFI.out]; rfl) rfl S2 m2 B2 (by rw [← HA.out.1]; exact k2) HV.out ⟨_, _, _, rfl⟩
    | some i =>
      have hm1 : fi = (i : Int) := by rw [hfi]; unfold findI; rw [hf]
      have hil : i < ml.length := by
        unfold findN at hf
        rw [List.findIdx?_eq_some_iff_getElem] at hf
        exact hf.1
      have hv : (ml[i]).version = verOf ml o right := by rw [hr]; unfold verOf; rw [hf]; simp only; rw [List.getElem?_eq_getElem hil]
      obtain ⟨Al, cl, e1, hcl, _⟩ := id H2.out.2.2.2.2
      have hlv := e1
      subst hlv
      obtain ⟨b1, o1, rfl, hb1, hadd1, hcell⟩ := Sl.row' (s := 47) (f := Ob.cells) ob_len (by omega) H2.out.2.2.2.2 i hil
      have c2 := hcell 2 (.int .u64 (ml[i]).version) rfl
      have hve : (((ml[i]).version).toNat : Int) = (ml[i]).version := (version_nat (HS.out.2.2.2.1 _ (List.getElem_mem hil)).fit).symm
      generalize (ml[i]).version = vi at c2 hv hve
      have hge : (0 : Int) ≤ (i : Int) := by omega
      have hgel : (i : Int) < (ml.length : Int) := by omega
      have HV := Lib.hid hv
      clear hv hr hfi hf hcell e1
      subst hm1
      go_wp2_with fail
      rw [HQ2.out]
      simp only [Exit.then]
      obtain ⟨m2, B2, k2, S2, R2⟩ := H2.out
      have hqm : mb < w.heap.size := HS.out.2.1.1.lt
      have hqp := HS.out.1.2.1.lt
      have hqh := HQ.out
      have B3 := B2.setCell (p := ⟨q, 3, none⟩) (Nat.le_of_eq hqh) (.int .u64 vi)
      have m3 := HS.out.2.1.below B3
      have S3 := HS.out.1.below B3
      have k3 := k2.set 3 (.int .u64 vi)
      rw [HA.out.1, actA_ver] at k3
      exact HFIN.out _ _ _ vi rfl rfl rfl rfl rfl (by rw [← HFI.out]; rfl) rfl S3 m3 B3 k3 HV.out ⟨_, _, _, rfl⟩
end Go.Proofs.Ytlhaiflebigdlaa
end
section
namespace Go.Proofs.Ytlhaiflebigdlaa
open Go.RowKit Go.Proofs.Mem
set_option linter.unusedVariables false
set_option linter.unusedSimpArgs false
theorem rest_lit {c : Code} (h : IsRest c) : ∃ x y z, (Try.f7).body = some (.seq x (.seq y (.seq z c))) := h
set_option maxHeartbeats 4000000 in
set_option maxRecDepth 100000 in
theorem do8_del_none (c : Code) (hc : IsRest c) (f : Nat → Value) (w : World) (p b n : Nat) (D : DataW Value) (most : Int) (now : Nat) (ev : Value) (evs : List Ev) (h : StIs w p b n D most now ev evs) (hnow : now < 1000000000) (hevs : evs.length ≤ 1024) (mb q : Nat) (ak : Int) (o : Ob) (right : Bool) (fi : Int) (hk0 : ak ≠ 0) (hk1 : ak ≠ 1) (ho : o.Ok w)
    (hq : Bk w q 58 (actA ak o right)) (hqp : q ≠ p) (hqb : q ≠ b) (hqe : some q ≠ ev.ownBlock)
    (Lw : Array Value) (hLw : Is47 Lw) (vw : Nat) (hvw : Lw[2]? = some (.int .u64 vw)) (hval : valAt D (kOf o.kind o.name) (.agg Z47) = .agg Lw) (hbad : (0 ≤ o.kind ∧ o.kind < 5) → Maps.has D (kOf o.kind o.name) = false ∧ fi < 0) :
    c.wp Try.prog (bodyPost Try.prog Try.f7 fun e w' => e = .returned (.bool true) ∧ Below w.heap.size w w') ⟨doF p mb most q fi f, []⟩ w := by
  obtain ⟨a0, a1, a2, a3, a4, a5⟩ := actA_is ak o right
  have c0 : w.cell? ⟨q, 0, none⟩ = some (.int .i64 ak) := by rw [hq.cell]; exact a1
  have c1 : w.cell? ⟨q, 1, none⟩ = some (.int .i64 o.kind) := by rw [hq.cell]; exact a2
  have c2 : w.cell? ⟨q, 2, none⟩ = some (.string o.name) := by rw [hq.cell]; exact a3
  obtain ⟨vn, hvn⟩ : ∃ vn : Nat, vn = o.version.toNat := ⟨_, rfl⟩
  have c3 : w.cell? ⟨q, 3, none⟩ = some (.int .u64 (vn : Int)) := by rw [hq.cell, hvn, ← version_nat ho.fit]; exact a4
  have HD := Lib.hid (sdelete_any w p b n D most now ev evs h hnow hevs o.kind o.name ho.kind (Nat.le_trans ho.name reach_max) vn Lw hLw vw hvw hval)
  have HB := Lib.hid hbad
  have HQ := Lib.hid (And.intro hq (And.intro h (And.intro hqp (And.intro hqb hqe))))
  have hk0' : (ak != 0) = true := by simpa using hk0
  have hk1' : (ak != 1) = true := by simpa using hk1
  clear hvn hq h hqp hqb hqe hbad hval hvw hLw ho hnow hevs a0 a1 a2 a3 a4 a5 hk0 hk1
  obtain ⟨x, y, z, hlit⟩ := hc
  cases hlit
  unfold doF
  go_wp2_with fail
  refine HD.out.mono ?_
  rintro e w1 hst
  unfold DeleteSt at hst
  by_cases hk : 0 ≤ o.kind ∧ o.kind < 5
  · obtain ⟨hh, hfi⟩ := HB.out hk
    rw [if_neg (fun h => h hk), if_pos hh] at hst
    obtain ⟨rfl, b1⟩ := hst
    have d1 : w1.cell? ⟨q, 1, none⟩ = some (.int .i64 o.kind) := by rw [(HQ.out.1.below' b1).cell]; exact (actA_is ak o right).2.2.1
    have HB1 := Lib.hid b1
    have hk1 : ¬ o.kind < 0 := by omega
    have hk2 : ¬ 5 ≤ o.kind := by omega
    clear b1 hh hk c0 c1 c2 c3
    go_wp2_with fail
    go_ret
    exact ⟨rfl, HB1.out⟩
  · rw [if_pos hk] at hst
    obtain ⟨rfl, b1⟩ := hst
    have d1 : w1.cell? ⟨q, 1, none⟩ = some (.int .i64 o.kind) := by rw [(HQ.out.1.below' b1).cell]; exact (actA_is ak o right).2.2.1
    have HB1 := Lib.hid b1
    clear b1 c0 c1 c2 c3
    by_cases hk1 : o.kind < 0
    · clear hk
      go_wp2_with fail
      go_ret
      exact ⟨rfl, HB1.out⟩
    · have hk2 : 5 ≤ o.kind := by omega
      clear hk
      go_wp2_with fail
      go_ret
      exact ⟨rfl, HB1.out⟩
set_option maxHeartbeats 4000000 in
set_option maxRecDepth 100000 in
theorem do8_del_mism (c : Code) (hc : IsRest c) (f : Nat → Value) (w : World) (p b n : Nat) (D : DataW Value) (most : Int) (now : Nat) (ev : Value) (evs : List Ev) (h : StIs w p b n D most now ev evs) (hnow : now < 1000000000) (hevs : evs.length ≤ 1024) (mb q : Nat) (ak : Int) (o : Ob) (right : Bool) (i : Nat) (hk0 : ak ≠ 0) (hk1 : ak ≠ 1) (ho : o.Ok w)
    (hq : Bk w q 58 (actA ak o right)) (lv : Value) (ml : List Ob) (hmb : w.cell? ⟨mb, 0, none⟩ = some lv) (hmbl : mb < w.heap.size) (hrow : Sl w 47 lv ml.length (ml.flatMap Ob.cells)) (hi : i < ml.length)
    (Lw : Array Value) (hLw : Is47 Lw) (vw : Nat) (hvw : Lw[2]? = some (.int .u64 vw)) (hval : valAt D (kOf o.kind o.name) (.agg Z47) = .agg Lw) (hvi : (ml[i]).version = (vw : Int)) (hk : 0 ≤ o.kind ∧ o.kind < 5) (hhas : Maps.has D (kOf o.kind o.name) = true) (hv0 : o.version ≠ 0) (hv1 : o.version ≠ (vw : Int)) :
    c.wp Try.prog (bodyPost Try.prog Try.f7 fun e w' => e = .returned (.bool true) ∧ Below w.heap.size w w') ⟨doF p mb most q (i : Int) f, []⟩ w := by
  obtain ⟨a0, a1, a2, a3, a4, a5⟩ := actA_is ak o right
  have c0 : w.cell? ⟨q, 0, none⟩ = some (.int .i64 ak) := by rw [hq.cell]; exact a1
  have c1 : w.cell? ⟨q, 1, none⟩ = some (.int .i64 o.kind) := by rw [hq.cell]; exact a2
  have c2 : w.cell? ⟨q, 2, none⟩ = some (.string o.name) := by rw [hq.cell]; exact a3
  obtain ⟨vn, hvn⟩ : ∃ vn : Nat, vn = o.version.toNat := ⟨_, rfl⟩
  have hvo := version_nat ho.fit
  rw [← hvn] at hvo
  have c3 : w.cell? ⟨q, 3, none⟩ = some (.int .u64 (vn : Int)) := by rw [hq.cell, ← hvo]; exact a4
  have hn0 : vn ≠ 0 := by omega
  have hn1 : vn ≠ vw := by omega
  have HD := Lib.hid (sdelete_any w p b n D most now ev evs h hnow hevs o.kind o.name ho.kind (Nat.le_trans ho.name reach_max) vn Lw hLw vw hvw hval)
  have hk0' : (ak != 0) = true := by simpa using hk0
  have hk1' : (ak != 1) = true := by simpa using hk1
  have HQ := Lib.hid (And.intro hq (And.intro hrow (And.intro hmbl hmb)))
  clear h hval hvw hLw ho hnow hevs a0 a1 a2 a3 a4 a5 hk0 hk1 hq hrow hmbl hmb hvn hvo hv0 hv1
  obtain ⟨x, y, z, hlit⟩ := hc
  cases hlit
  unfold doF
  go_wp2_with fail
  refine HD.out.mono ?_
  rintro e w1 hst
  unfold DeleteSt at hst
  rw [if_neg (fun h => h hk), if_neg (by rw [hhas]; simp), if_pos ⟨hn0, hn1⟩] at hst
  obtain ⟨rfl, b1⟩ := hst
  have hq1 := HQ.out.1.below' b1
  have d1 : w1.cell? ⟨q, 1, none⟩ = some (.int .i64 o.kind) := by rw [hq1.cell]; exact (actA_is ak o right).2.2.1
  have d3 : w1.cell? ⟨q, 3, none⟩ = some (.int .u64 (vn : Int)) := keep_cell b1 c3
  have dm : w1.cell? ⟨mb, 0, none⟩ = some lv := keep_cell b1 HQ.out.2.2.2
  have R1 := HQ.out.2.1.below b1
  obtain ⟨Al, cl, e1, hcl, _⟩ := id R1
  have hlv := e1
  subst hlv
  obtain ⟨b2, o2, rfl, hb2, hadd2, hcell⟩ := Sl.row' (s := 47) (f := Ob.cells) ob_len (by omega) R1 i hi
  have dv := hcell 2 (.int .u64 (vw : Int)) (by rw [← hvi]; rfl)
  have hge : (0 : Int) ≤ (i : Int) := by omega
  have hge2 : ¬ (i : Int) < 0 := by omega
  have hgel : (i : Int) < (ml.length : Int) := by omega
  have HB1 := Lib.hid b1
  have hk1 : ¬ o.kind < 0 := by omega
  have hk2 : ¬ 5 ≤ o.kind := by omega
  have hx0 : ((vn : Int) != 0) = true := by simpa using hn0
  have hx1 : ((vn : Int) != (vw : Int)) = true := by
    have : ¬ (vn : Int) = (vw : Int) := by omega
    simpa using this
  clear b1 hk c0 c1 c2 c3 R1 e1 hcell hq1 hn0 hn1 hvi
  go_wp2_with fail
  refine wp_region_sched [0, 1, 2, 3, 4, 5, 6, 7, 8, 9, 10, 11, 12, 13, 14, 15, 16, 17, 18] [] [] (fun i => !(i == 2 || i == 7 || i == 11 || i == 15)) (fun w' => w'.cell? ⟨q, 3, none⟩ = some (.int .u64 (vn : Int)) ∧ w'.cell? ⟨mb, 0, none⟩ = some (.slice (some ⟨b2, o2, none⟩) ml.length cl) ∧ w'.cell? ⟨b2, o2 + i * 47 + 2, none⟩ = some (.int .u64 (vw : Int))) (by kernel_rfl) (by kernel_rfl) (fun c a d v w h => by cases d <;> exact h) ⟨d3, dm, dv⟩ fun u0 Hu => ?_
  refine readsL_free (v := ?_) (by rfl) (by rfl) (fun w' => ?_) ?_
  rotate_left
  · go_simp
    with_reducible rfl
  simp only [Act.put, List.setIfInBounds_toArray, List.set_cons_zero, List.set_cons_succ, List.getElem_toArray, List.getElem_cons_succ, List.getElem_cons_zero]
  refine readsL_free (v := ?_) (by rfl) (by rfl) (fun w' => ?_) ?_
  rotate_left
  · go_simp
    with_reducible rfl
  simp only [Act.put, List.setIfInBounds_toArray, List.set_cons_zero, List.set_cons_succ, List.getElem_toArray, List.getElem_cons_succ, List.getElem_cons_zero]
  refine readsL_step (v := ?_) (by rfl) (by rfl) (by rfl) (fun w' hS => ?_) ?_
  rotate_left
  · have u1 := hS.1
    have u2 := hS.2.1
    have u3 := hS.2.2
    clear hS
    go_simp
    with_reducible rfl
  simp only [Act.put, List.setIfInBounds_toArray, List.set_cons_zero, List.set_cons_succ, List.getElem_toArray, List.getElem_cons_succ, List.getElem_cons_zero]
  refine readsL_free (v := ?_) (by rfl) (by rfl) (fun w' => ?_) ?_
  rotate_left
  · go_simp
    with_reducible rfl
  simp only [Act.put, List.setIfInBounds_toArray, List.set_cons_zero, List.set_cons_succ, List.getElem_toArray, List.getElem_cons_succ, List.getElem_cons_zero]
  refine readsL_free (v := ?_) (by rfl) (by rfl) (fun w' => ?_) ?_
  rotate_left
  · go_simp
    with_reducible rfl
  simp only [Act.put, List.setIfInBounds_toArray, List.set_cons_zero, List.set_cons_succ, List.getElem_toArray, List.getElem_cons_succ, List.getElem_cons_zero]
  refine readsL_free (v := ?_) (by rfl) (by rfl) (fun w' => ?_) ?_
  rotate_left
  · go_simp
    with_reducible rfl
  simp only [Act.put, List.setIfInBounds_toArray, List.set_cons_zero, List.set_cons_succ, List.getElem_toArray, List.getElem_cons_succ, List.getElem_cons_zero]
  refine readsL_free (v := ?_) (by rfl) (by rfl) (fun w' => ?_) ?_
  rotate_left
  · go_simp
    with_reducible rfl
  simp only [Act.put, List.setIfInBounds_toArray, List.set_cons_zero, List.set_cons_succ, List.getElem_toArray, List.getElem_cons_succ, List.getElem_cons_zero]
  refine readsL_step (v := ?_) (by rfl) (by rfl) (by rfl) (fun w' hS => ?_) ?_
  rotate_left
  · have u1 := hS.1
    have u2 := hS.2.1
    have u3 := hS.2.2
    clear hS
    go_simp
    with_reducible rfl
  simp only [Act.put, List.setIfInBounds_toArray, List.set_cons_zero, List.set_cons_succ, List.getElem_toArray, List.getElem_cons_succ, List.getElem_cons_zero]
  refine readsL_free (v := ?_) (by rfl) (by rfl) (fun w' => ?_) ?_
  rotate_left
  · go_simp
    with_reducible rfl
  simp only [Act.put, List.setIfInBounds_toArray, List.set_cons_zero, List.set_cons_succ, List.getElem_toArray, List.getElem_cons_succ, List.getElem_cons_zero]
  refine readsL_free (v := ?_) (by rfl) (by rfl) (fun w' => ?_) ?_
  rotate_left
  · go_simp
    with_reducible rfl
  simp only [Act.put, List.setIfInBounds_toArray, List.set_cons_zero, List.set_cons_succ, List.getElem_toArray, List.getElem_cons_succ, List.getElem_cons_zero]
  refine readsL_free (v := ?_) (by rfl) (by rfl) (fun w' => ?_) ?_
  rotate_left
  · go_simp
    with_reducible rfl
  simp only [Act.put, List.setIfInBounds_toArray, List.set_cons_zero, List.set_cons_succ, List.getElem_toArray, List.getElem_cons_succ, List.getElem_cons_zero]
  refine readsL_step (v := ?_) (by rfl) (by rfl) (by rfl) (fun w' hS => ?_) ?_
  rotate_left
  · have u1 := hS.1
    have u2 := hS.2.1
    have u3 := hS.2.2
    clear hS
    go_simp
    with_reducible rfl
  simp only [Act.put, List.setIfInBounds_toArray, List.set_cons_zero, List.set_cons_succ, List.getElem_toArray, List.getElem_cons_succ, List.getElem_cons_zero]
  refine readsL_free (v := ?_) (by rfl) (by rfl) (fun w' => ?_) ?_
  rotate_left
  · go_simp
    with_reducible rfl
  simp only [Act.put, List.setIfInBounds_toArray, List.set_cons_zero, List.set_cons_succ, List.getElem_toArray, List.getElem_cons_succ, List.getElem_cons_zero]
  refine readsL_free (v := ?_) (by rfl) (by rfl) (fun w' => ?_) ?_
  rotate_left
  · go_simp
    with_reducible rfl
  simp only [Act.put, List.setIfInBounds_toArray, List.set_cons_zero, List.set_cons_succ, List.getElem_toArray, List.getElem_cons_succ, List.getElem_cons_zero]
  refine readsL_free (v := ?_) (by rfl) (by rfl) (fun w' => ?_) ?_
  rotate_left
  · go_simp
    with_reducible rfl
  simp only [Act.put, List.setIfInBounds_toArray, List.set_cons_zero, List.set_cons_succ, List.getElem_toArray, List.getElem_cons_succ, List.getElem_cons_zero]
  refine readsL_step (v := ?_) (by rfl) (by rfl) (by rfl) (fun w' hS => ?_) ?_
  rotate_left
  · have u1 := hS.1
    have u2 := hS.2.1
    have u3 := hS.2.2
    clear hS
    go_simp
    with_reducible rfl
  simp only [Act.put, List.setIfInBounds_toArray, List.set_cons_zero, List.set_cons_succ, List.getElem_toArray, List.getElem_cons_succ, List.getElem_cons_zero]
  refine readsL_free (v := ?_) (by rfl) (by rfl) (fun w' => ?_) ?_
  rotate_left
  · go_simp
    with_reducible rfl
  simp only [Act.put, List.setIfInBounds_toArray, List.set_cons_zero, List.set_cons_succ, List.getElem_toArray, List.getElem_cons_succ, List.getElem_cons_zero]
  refine readsL_free (v := ?_) (by rfl) (by rfl) (fun w' => ?_) ?_
  rotate_left
  · go_simp
    with_reducible rfl
  simp only [Act.put, List.setIfInBounds_toArray, List.set_cons_zero, List.set_cons_succ, List.getElem_toArray, List.getElem_cons_succ, List.getElem_cons_zero]
  refine readsL_free (v := ?_) (by rfl) (by rfl) (fun w' => ?_) ?_
  rotate_left
  · go_simp
    with_reducible rfl
  simp only [Act.put, List.setIfInBounds_toArray, List.set_cons_zero, List.set_cons_succ, List.getElem_toArray, List.getElem_cons_succ, List.getElem_cons_zero]
  refine readsL_nil ?_
  refine earlyL_nil ?_
  simp only [List.filterMap_nil]
  have HU0 : RowKit.Hid (Below w.heap.size w u0) := by
    have := HB1.out.drew
    rw [← Hu.out] at this
    exact this
  clear Hu d1 d3 dm dv HB1
  go_wp2_with fail
  go_ret
  exact ⟨rfl, HU0.out⟩
end Go.Proofs.Ytlhaiflebigdlaa
end
