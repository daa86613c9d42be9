/-
  The walk of the store's Update: an object's cells are a row without a form; what valid says of it is handed in.
-/
import Derived.Test.YtibekpfffimojaaSt4
namespace Go.Proofs.Ytibekpfffimojaa
open Go.RowKit Go.Proofs.Mem
set_option linter.unusedVariables false
set_option linter.unusedSimpArgs false
/-- What Update does of an object that may be; vw: the version that is there. -/
def UpdateSt (p b n : Nat) (D : DataW Value) (most : Int) (now : Nat) (ev : Value) (evs : List Ev) (kind : Int) (name : ByteArray) (L : Array Value) (vw ver : Nat) (w : World) (e : Ending) (w' : World) : Prop :=
  if Maps.has D (kOf kind name) = false then e = .returned (.tuple #[.int .u64 0, .int .i64 7]) ∧ Below w.heap.size w w'
  else if vw = ver then PutSt2 p b n D most now ev evs 1 kind name L w e w'
  else e = .returned (.tuple #[.int .u64 0, .int .i64 9]) ∧ Below w.heap.size w w'
set_option maxHeartbeats 2000000 in
set_option maxRecDepth 100000 in
theorem update_any (w : World) (p b n : Nat) (D : DataW Value) (most : Int) (now : Nat) (ev : Value) (evs : List Ev) (h : StIs w p b n D most now ev evs) (hN : n < maxLen)
    (kind : Int) (name : ByteArray) (ver : Nat) (L L' : Array Value) (hL : Is47 L) (hL' : ObL L' kind name ver) (hk : (Lit.int .i64 kind).wf = true) (hs : name.size ≤ maxLen)
    (Lw : Array Value) (hLw : Is47 Lw) (vw : Nat) (hvw : Lw[2]? = some (.int .u64 vw)) (hval : valAt D (kOf kind name) (.agg Z47) = .agg Lw)
    (hdef : ∀ w1 : World, Below w.heap.size w w1 → Calls Try.prog 18 #[.agg L] w1 fun e w' => e = .returned (.agg L') ∧ Below w1.heap.size w1 w')
    (hchk : ∀ w1 : World, Below w.heap.size w w1 → Calls Try.prog 19 #[.agg L'] w1 fun e w' => e = .returned (.int .i64 0) ∧ Below w1.heap.size w1 w')
    (hnote : ∀ w1 : World, StIs w1 p b n D most now ev evs → Calls Try.prog 21 #[.pointer (some ⟨p, 0, none⟩), .int .i64 1, .agg #[.int .i64 kind, .string name]] w1 (NoteSt p b n D most now ev evs ⟨1, kind, name, now + 1⟩ w1)) :
    Calls Try.prog 8 #[.pointer (some ⟨p, 0, none⟩), .agg L] w (UpdateSt p b n D most now ev evs kind name L' vw ver w) := by
  have hkey := keyOf_st kind name hk hs
  have CD := Lib.hid hdef
  have CC := Lib.hid hchk
  have CP := Lib.hid (fun w1 (h1 : StIs w1 p b n D most now ev evs) => put_any w1 p b n D most now ev evs h1 hN 1 kind name ver L' hL' hk hs hnote)
  have HS := Lib.hid h
  have HL := Lib.hid hL
  have HL' := Lib.hid hL'
  have HLw := Lib.hid hLw
  have HV := Lib.hid hval
  have HU := Lib.hid (Try.underlying44)
  clear h hL hL' hLw hk hs hnote hdef hchk hval
  have B0 := (Below.refl w.heap.size w).alloc (Nat.le_refl _) (.cells L 44)
  have k0 := Bk.new w 44 L
  obtain ⟨q, hq⟩ : ∃ q, q = w.heap.size := ⟨_, rfl⟩
  rw [← hq] at k0
  have HQ := Lib.hid hq
  clear hq
  go_enter Try.func8, Try.ntmps8
  go_wp2_with (refine wpl_loadg (t := 44) k0 rfl 44 (.tmp 3) rfl (by rw [HQ.out]; rfl) _ HU.out rfl (info47 HL.out) ?_)
  refine (CD.out _ B0).mono ?_
  rintro e w1 ⟨rfl, b1⟩
  have k1 := k0.below' b1
  have B1 := below_tr B0 b1
  have hq1 : w.heap.size ≤ w1.heap.size := B1.size
  clear b1 B0 k0
  rw [← HQ.out]
  have hzz : L.size = L'.size := HL.out.1.trans HL'.out.is.1.symm
  have kS := setCells_whole k1 hzz
  have B2 := below_setCells (g := q) L'.toList 0 B1 (Nat.le_of_eq HQ.out.symm)
  go_wp2_with (first | (refine wpl_storeg k1 hzz rfl rfl 44 (.tmp 3) (.tmp 12) rfl rfl rfl (info47 HL'.out.is) HL'.out.is.2 ?_) | (refine wpl_loadg (t := 44) kS rfl 44 (.tmp 3) rfl rfl _ HU.out rfl (info47 HL'.out.is) ?_))
  generalize w1.setCells q 0 L'.toList = w2 at kS B2 ⊢
  clear k1 B1 hq1 w1 hzz
  refine (CC.out _ B2).mono ?_
  rintro e w3 ⟨rfl, b3⟩
  have k3 := kS.below' b3
  have B3 := below_tr B2 b3
  clear b3 B2 kS w2
  go_wp2_with fail
  have HS3 := Lib.hid (HS.out.below B3)
  have o0 := k3.cell 0
  have o1 := k3.cell 1
  rw [HL'.out.kind] at o0
  rw [HL'.out.name] at o1
  obtain ⟨d0, d1, d2, d3⟩ := HS3.out.cells
  have hm3 := HS3.out.2.2.1
  refine wp_region_reads2 12 13 1 (fun w' => w'.cell? ⟨p, 1, none⟩ = some (.map (some b)) ∧ w'.cell? ⟨q, 0, none⟩ = some (.int .i64 kind) ∧ w'.cell? ⟨q, 1, none⟩ = some (.string name) ∧ Mp Try.prog w' 77 b n D) (by kernel_rfl) (by kernel_rfl) (fun c a d v w h => by cases d <;> exact h) ⟨d1, o0, o1, hm3⟩ ?_
  simp only [List.take_succ_cons, List.take_zero, List.drop_succ_cons, List.drop_zero]
  iterate 12
    refine reads2_step (v := ?_) (by rfl) (fun w' hS => ?_) ?_
    rotate_left
    · have u1 := hS.1
      have v0 := hS.2.1
      have v1 := hS.2.2.1
      have hl := hS.2.2.2.run_look_ok stK underSt (zero47 w') hkey
      rw [HV.out] at hl
      clear hS
      go_simp
      with_reducible rfl
    simp only [Act.put, List.setIfInBounds_toArray, List.set_cons_zero, List.set_cons_succ]
  refine reads2_free (v := ?_) (by rfl) (fun w' => ?_) ?_
  rotate_left
  · go_simp
    with_reducible rfl
  simp only [Act.put, List.setIfInBounds_toArray, List.set_cons_zero, List.set_cons_succ]
  refine reads2_nil ?_
  have kz := Bk.new w3.drew 44 Z47
  have hd3 := hm3.drew.alloc (.cells Z47 44)
  have hS3 : StIs (w3.drew.alloc (.cells Z47 44)) p b n D most now ev evs := HS3.out.below ((Below.refl w3.heap.size w3).drew.alloc (Nat.le_refl _) _)
  have k4 : Bk (w3.drew.alloc (.cells Z47 44)) q 44 L' := k3.drew.alloc _
  have s1 := hS3.cells.2.1
  have x0 := k4.cell 0
  have x1 := k4.cell 1
  rw [HL'.out.kind] at x0
  rw [HL'.out.name] at x1
  refine early_allocg (some 7) rfl rfl (by rfl) (run_alloc47 rfl _) ⟨s1, x0, x1, hd3⟩ ?_
  clear s1 x0 x1 o0 o1 d0 d1 d2 d3 hm3 hd3
  have B4 : Below w.heap.size w (w3.drew.alloc (.cells Z47 44)) := B3.drew.alloc B3.size _
  simp only [wpEarly]
  simp only [Act.put, List.setIfInBounds_toArray, List.set_cons_zero, List.set_cons_succ]
  have hzl : Z47.size = Lw.size := HLw.out.1.symm
  have B5 := below_setCells (g := w3.heap.size) Lw.toList 0 B4 B3.size
  have k5 := setCells_far (Nat.ne_of_lt k3.lt) Lw.toList 0 k4
  have k7 := setCells_whole kz hzl
  have hws : w3.drew.heap.size = w3.heap.size := rfl
  rw [hws] at kz k7
  refine wpl_storeg kz hzl (by rfl) rfl 44 (.tmp 7) (.tmp 29) rfl rfl rfl (info47 HLw.out) HLw.out.2 ?_
  generalize hg5 : (w3.drew.alloc (.cells Z47 44)).setCells w3.heap.size 0 Lw.toList = w5 at B5 k5 k7 ⊢
  clear hg5 k4 kz B4 hS3 B3 k3 HS3
  have HS5 := Lib.hid (HS.out.below B5)
  obtain ⟨bb, hbb⟩ : ∃ bb, bb = Maps.has D (kOf kind name) := ⟨_, rfl⟩
  rw [← hbb]
  have HBB := Lib.hid hbb
  clear hbb
  cases bb
  · go_wp2_with fail
    go_ret2
    unfold UpdateSt
    rw [if_pos HBB.out.symm]
    exact ⟨rfl, B5⟩
  · have c7 := k7.cell 2
    rw [hvw] at c7
    have c5 := k5.cell 2
    rw [HL'.out.ver] at c5
    have HVW := Lib.hid hvw
    clear hvw
    rcases Nat.decEq vw ver with hne | heq
    · have hne' : ¬ (vw : Int) = (ver : Int) := by omega
      have hne2 : (vw : Int) ≠ (ver : Int) := hne'
      go_wp2_with fail
      go_ret2
      unfold UpdateSt
      rw [if_neg (by rw [← HBB.out]; simp), if_neg hne]
      exact ⟨rfl, B5⟩
    · subst heq
      go_wp2_with (refine wpl_loadg (t := 44) k5 rfl 44 (.tmp 3) rfl rfl _ HU.out rfl (info47 HL'.out.is) ?_)
      refine (CP.out w5 HS5.out).mono ?_
      rintro e w7 ⟨ev', rfl, HS7, HT7, HE7⟩
      have HR := Lib.hid (And.intro HS7 (And.intro HT7 HE7))
      clear HS7 HT7 HE7
      go_wp2_with fail
      go_ret2
      unfold UpdateSt
      rw [if_neg (by rw [← HBB.out]; simp), if_pos rfl]
      obtain ⟨HS7, HT7, HE7⟩ := HR.out
      exact ⟨ev', rfl, HS7, (T3.of_below B5).trans (EvTo.refl _ _) HT7, EvTo.trans B5.size (EvTo.refl _ _) HE7⟩
end Go.Proofs.Ytibekpfffimojaa
