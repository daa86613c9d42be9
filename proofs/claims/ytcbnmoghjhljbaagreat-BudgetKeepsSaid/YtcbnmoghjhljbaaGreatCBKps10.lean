/-
  BudgetKeeps: the keeper's Evict, at a time that may be.; BudgetKeeps: trimtablaw16.Same of two stores that hold the same.; BudgetKeeps: two stores beside each other, of which one is turned at a time; what is kept of maps meanwhile.; BudgetKeeps: acts as they are read; what an eviction does, as a function; deletions.; BudgetKeeps: the law's walk.; The walk of the statement BudgetKeeps, at its arguments as they are read.
-/
import Derived.Test.YtcbnmoghjhljbaaGreatCBKps9
import Derived.Test.YtcbnmoghjhljbaaGreatCBKps1
import Derived.Test.YtcbnmoghjhljbaaGreatCBKps8
import Derived.Test.YtcbnmoghjhljbaaGreatCBKps6
section
namespace Go.Proofs.YtcbnmoghjhljbaaGreat
open Go.RowKit Go.Proofs.Mem
open Go.Maps (Keyed string_keyed)
open Go.WideMaps (keyOf_string_mk)
set_option linter.unusedVariables false
set_option linter.unusedSimpArgs false
def FewC (cl : List Ob) (D : DataW Value) (s : List UInt8) : Prop :=
  ∃ (i : Nat) (hi : i < cl.length) (i2 : Nat) (hi2 : i2 < cl.length) (k v : Nat) (pc : Bool), findN 1 ⟨s.toArray⟩ cl = some i ∧ findN 0 cl[i].p.owner cl = some i2 ∧ cl[i].p.phase = 2 ∧ Maps.has D (.string cl[i].p.owner.data.toList) = true ∧
    valAt D (.string cl[i].p.owner.data.toList) (.agg #[.int .i64 0, .int .i64 0, .bool false]) = .agg #[.int .i64 k, .int .i64 v, .bool pc] ∧ rdy cl cl[i].p.owner ≤ mustN k v pc cl[i2].w.replicas.toNat
def KEv (G : Nat → Prop) (B : Nat) (w : World) (p b : Nat) (most : Int) (evs : List Ev) (cl : List Ob) (D : DataW Value) (s : List UInt8) (now : Int) (e : Ending) (w' : World) : Prop :=
  (FewC cl D s ∧ e = .returned (.int .i64 14) ∧ Below w.heap.size w w') ∨ (¬ FewC cl D s ∧ EvG G B w p b most evs cl ⟨s.toArray⟩ now e w')
theorem EvG.from {G : Nat → Prop} {B : Nat} {w w5 w' : World} {p b : Nat} {most : Int} {evs : List Ev} {cl : List Ob} {name : ByteArray} {now : Int} {e : Ending} (hb : Below w.heap.size w w5) (hB : B ≤ w.heap.size) (h : EvG G B w5 p b most evs cl name now e w') : EvG G B w p b most evs cl name now e w' := by
  rcases h with ⟨h1, h2, h3⟩ | ⟨i, hi, h1, h2, h3, h4⟩ | ⟨i, hi, h1, h2, h3, h4, h5, h6⟩
  · exact .inl ⟨h1, h2, below_tr hb h3⟩
  · exact .inr (.inl ⟨i, hi, h1, h2, h3, below_tr hb h4⟩)
  · exact .inr (.inr ⟨i, hi, h1, h2, h3, h4, (hb.mono hB).trans h5, fun n₀ G => (KeepU.of_below hb).trans (h6 n₀ G)⟩)
theorem EvG.num {G : Nat → Prop} {B : Nat} {w w' : World} {p b : Nat} {most : Int} {evs : List Ev} {cl : List Ob} {name : ByteArray} {now : Int} {e : Ending} (h : EvG G B w p b most evs cl name now e w') : ∃ z : Int, e = .returned (.int .i64 z) ∧ EvG G B w p b most evs cl name now (.returned (.int .i64 z)) w' := by
  rcases id h with ⟨_, rfl, _⟩ | ⟨_, _, _, _, rfl, _⟩ | ⟨_, _, _, _, rfl, _⟩
  · exact ⟨_, rfl, h⟩
  · exact ⟨_, rfl, h⟩
  · exact ⟨_, rfl, h⟩
set_option maxHeartbeats 8000000 in
set_option maxRecDepth 100000 in
theorem kevict_any {G : Nat → Prop} {B : Nat} {w : World} {p b : Nat} {most : Int} {evs : List Ev} {cl : List Ob} {kp km n : Nat} {D : DataW Value} (M : SG G B w p b most evs cl) (K : Kpr w kp km n D) (hD : BudOk D) (hcl : cl.length ≤ 100) (hlen : evs.length ≤ 400) (hB : B ≤ w.heap.size)
    (s : List UInt8) (hs : s.length ≤ maxLen) (now : Int) (hn : 0 ≤ now ∧ now ≤ 4611686018427387904) :
    Calls Tryz.prog 18 #[.pointer (some ⟨kp, 0, none⟩), .pointer (some ⟨p, 0, none⟩), .string ⟨s.toArray⟩, .int .i64 now] w (KEv G B w p b most evs cl D s now) := by
  have hkn : KeyOk (1, (⟨s.toArray⟩ : ByteArray)) := ⟨rfl, hs⟩
  have CG := Lib.hid (s8_get M.s8 1 ⟨s.toArray⟩ hkn)
  have HM := Lib.hid (And.intro M (And.intro K (And.intro hD (And.intro hcl (And.intro hlen (And.intro hB (And.intro hkn hn)))))))
  have hn1 : ¬ now < 0 := by omega
  have hn2 : ¬ 4611686018427387904 < now := by omega
  clear M K hD hcl hlen hB hs hkn hn
  go_enter Tryz.func18, Tryz.ntmps18
  go_wp2_with fail
  refine CG.out.mono ?_
  rintro e W1 ⟨y, rfl, hys, b1, hy0, hy1⟩
  have hko : KeyOk (0, y.p.owner) := ⟨rfl, Nat.le_trans hys.1.p.owner reach_max⟩
  have HKO := Lib.hid hko
  clear hko
  have h47' := cells_is y hys.1
  obtain ⟨L, hL⟩ : ∃ L : Array Value, L = y.cells.toArray := ⟨_, rfl⟩
  rw [← hL] at h47' ⊢
  have h47 := Lib.hid h47'
  have hzz : Z47.size = L.size := h47'.1.symm
  have kz := Bk.new W1 56 Z47
  have k7 := setCells_whole kz hzz
  have b7 : Below W1.heap.size W1 ((W1.alloc (.cells Z47 56)).setCells W1.heap.size 0 L.toList) := below_setCells (g := W1.heap.size) L.toList 0 (below_al W1 _) (Nat.le_refl _)
  obtain ⟨W2, hW2⟩ : ∃ W2, W2 = (W1.alloc (.cells Z47 56)).setCells W1.heap.size 0 L.toList := ⟨_, rfl⟩
  rw [← hW2] at b7 k7
  have HKZ := Lib.hid (And.intro kz hzz)
  rw [hL] at k7
  have hb12 := below_tr b1 b7
  have HW2 := Lib.hid hW2.symm
  obtain ⟨th, hth⟩ : ∃ th, th = (findN 1 ⟨s.toArray⟩ cl).isSome := ⟨_, rfl⟩
  rw [← hth]
  obtain ⟨ow, how⟩ : ∃ ow, ow = y.p.owner.data.toList := ⟨_, rfl⟩
  have hoe : (⟨ow.toArray⟩ : ByteArray) = y.p.owner := by rw [how]
  obtain ⟨k, v, pc, hval, hokb⟩ := HM.out.2.2.1 ow
  obtain ⟨kept, hkept⟩ : ∃ kept, kept = Maps.has D (.string ow) := ⟨_, rfl⟩
  have hol : ow.length ≤ maxLen := by rw [how]; exact HKO.out.2
  have hkey := keyOf_string_mk Tryz.underlying9 (s := ⟨ow.toArray⟩) hol
  have K2 := HM.out.2.1.below hb12
  have hlk : ∀ w', Below W2.heap.size W2 w' → (Instr.lookup 66 (.map (some km)) (.string ⟨ow.toArray⟩) true).run Tryz.prog w' = .ok (.tuple #[.agg #[.int .i64 k, .int .i64 v, .bool pc], .bool kept]) w' := fun w' hb => by
    have h := (K2.2.below hb).run_look_ok strKb Tryz.underlying66 (zeroBud w') hkey
    rw [hval, ← hkept] at h
    exact h
  have bk0 := K2.1.cell 0
  have b10 : W2.cell? ⟨W1.heap.size, 10, none⟩ = some (.string ⟨ow.toArray⟩) := by rw [hoe]; exact k7.cell 10
  have H2 := Lib.hid (And.intro k7 (And.intro hb12 (And.intro hy1 (And.intro hth (And.intro how (And.intro hoe (And.intro hval (And.intro hokb hkept))))))))
  have HLK := Lib.hid hlk
  have HBK := Lib.hid (And.intro bk0 b10)
  clear k7 b1 b7 hys hy0 hy1 hW2 CG hL h47' kz hzz hb12 hth how hoe hval hokb hkept hol hkey K2 hlk bk0 b10
  go_wp2_with (first | ((with_reducible refine at_alloc_ ?_); refine wpl_allocg rfl (run_alloc47 rfl _) ?_) | ((with_reducible refine at_store_ ?_); refine wpl_storeg HKZ.out.1 HKZ.out.2 rfl rfl 56 (.tmp 9) (.tmp 33) rfl rfl rfl (info47 h47.out) h47.out.2 ?_; rw [HW2.out]))
  refine wp_region_vars (W := W2) (B := W2.heap.size)
    (ps := [⟨0, 36, .pointer (some ⟨kp, 0, none⟩)⟩, ⟨1, 37, .pointer (some ⟨kp, 0, none⟩)⟩, ⟨2, 38, .pointer (some ⟨kp, 0, none⟩)⟩, ⟨3, 39, .map (some km)⟩, ⟨4, 40, .pointer (some ⟨W1.heap.size, 10, none⟩)⟩, ⟨5, 41, .pointer (some ⟨W1.heap.size, 10, none⟩)⟩, ⟨6, 42, .string ⟨ow.toArray⟩⟩,
      ⟨7, 43, .tuple #[.agg #[.int .i64 k, .int .i64 v, .bool pc], .bool kept]⟩, ⟨8, 35, .tuple #[.agg #[.int .i64 k, .int .i64 v, .bool pc], .bool kept]⟩, ⟨9, 44, .agg #[.int .i64 k, .int .i64 v, .bool pc]⟩, ⟨10, 45, .bool kept⟩, ⟨13, 12, .bool kept⟩])
    (vs := [⟨11, 12, 11, 24, #[.int .i64 0, .int .i64 0, .bool false], #[.int .i64 k, .int .i64 v, .bool pc]⟩])
    (by kernel_rfl) ?_ (Nat.le_refl _) (Below.refl _ _) ?_
  · constructor
    · intro p hp
      simp only [List.mem_cons, List.not_mem_nil, or_false] at hp
      rcases hp with rfl | rfl | rfl | rfl | rfl | rfl | rfl | rfl | rfl | rfl | rfl | rfl
      · refine ⟨_, rfl, rfl, rfl, fun a w' hA hB => ?_⟩
        have e0 := at_other hA 0 _ rfl rfl rfl
        clear hA
        go_simp
      · refine ⟨_, rfl, rfl, rfl, fun a w' hA hB => ?_⟩
        have e0 := at_pure hA 0 _ rfl rfl
        clear hA
        go_simp
      · refine ⟨_, rfl, rfl, rfl, fun a w' hA hB => ?_⟩
        have e0 := at_pure hA 1 _ rfl rfl
        clear hA
        go_simp
      · refine ⟨_, rfl, rfl, rfl, fun a w' hA hB => ?_⟩
        have e0 := at_pure hA 2 _ rfl rfl
        clear hA
        have q0 := keep_cell hB HBK.out.1
        go_simp
      · refine ⟨_, rfl, rfl, rfl, fun a w' hA hB => ?_⟩
        have e0 := at_other hA 9 _ rfl rfl rfl
        clear hA
        go_simp
      · refine ⟨_, rfl, rfl, rfl, fun a w' hA hB => ?_⟩
        have e0 := at_pure hA 4 _ rfl rfl
        clear hA
        go_simp
      · refine ⟨_, rfl, rfl, rfl, fun a w' hA hB => ?_⟩
        have e0 := at_pure hA 5 _ rfl rfl
        clear hA
        have q0 := keep_cell hB HBK.out.2
        go_simp
      · refine ⟨_, rfl, rfl, rfl, fun a w' hA hB => ?_⟩
        have e0 := at_pure hA 3 _ rfl rfl
        have e1 := at_pure hA 6 _ rfl rfl
        clear hA
        have q0 := HLK.out w' hB
        go_simp
      · refine ⟨_, rfl, rfl, rfl, fun a w' hA hB => ?_⟩
        have e0 := at_pure hA 7 _ rfl rfl
        clear hA
        go_simp
      · refine ⟨_, rfl, rfl, rfl, fun a w' hA hB => ?_⟩
        have e0 := at_pure hA 8 _ rfl rfl
        clear hA
        go_simp
      · refine ⟨_, rfl, rfl, rfl, fun a w' hA hB => ?_⟩
        have e0 := at_pure hA 8 _ rfl rfl
        clear hA
        go_simp
      · refine ⟨_, rfl, rfl, rfl, fun a w' hA hB => ?_⟩
        have e0 := at_pure hA 10 _ rfl rfl
        clear hA
        go_simp
    · intro v hv
      simp only [List.mem_cons, List.not_mem_nil, or_false] at hv
      subst hv
      refine ⟨_, rfl, rfl, rfl, fun a w' => ?_⟩
      go_simp
    · intro v hv
      simp only [List.mem_cons, List.not_mem_nil, or_false] at hv
      subst hv
      refine ⟨_, rfl, rfl, rfl, deps_of rfl, fun a w' g hA e2 hk => ?_⟩
      have e1 := at_pure hA 9 _ rfl rfl
      clear hA
      have k0 := hk.cell 0
      have f0 := hk.frozen 0
      have k1 := hk.cell 1
      have f1 := hk.frozen 1
      have k2 := hk.cell 2
      have f2 := hk.frozen 2
      clear hk
      go_simp
      rfl
    · intro v hv
      simp only [List.mem_cons, List.not_mem_nil, or_false] at hv
      subst hv
      rfl
    · show ∀ i, i < 14 → i ∈ [0, 1, 2, 3, 4, 5, 6, 7, 8, 9, 10, 13, 11, 12]
      decide
    · show ([0, 1, 2, 3, 4, 5, 6, 7, 8, 9, 10, 13, 11, 12] : List Nat).Nodup
      decide
    · show ([36, 37, 38, 39, 40, 41, 42, 43, 35, 44, 45, 12, 11] : List Nat).Nodup
      decide
    · show ∀ s ∈ ([36, 37, 38, 39, 40, 41, 42, 43, 35, 44, 45, 12, 11] : List Nat), s < 89
      decide
    · exact up_of (by decide +kernel)
  · intro gg W3 hB3 hv hd
    clear hd
    obtain ⟨_, k3⟩ := hv _ (List.mem_cons_self ..)
    clear hv
    simp only at k3
    simp only [putAll, setsOf, List.map_cons, List.map_nil, List.cons_append, List.nil_append, List.foldl_cons, List.foldl_nil, List.setIfInBounds_toArray, List.set_cons_zero, List.set_cons_succ]
    generalize gg 11 = g11 at k3 ⊢
    have hK := ‹∀ (a : Act) (w : World), Code.wp Tryz.prog _ _ a w → _›
    refine hK _ _ ?_
    clear hK
    have B3 := below_tr H2.out.2.1 hB3
    have CG2 := Lib.hid (s8_get (HM.out.1.below B3).s8 0 y.p.owner HKO.out)
    have c10 : W3.cell? ⟨W1.heap.size, 10, none⟩ = some (.string y.p.owner) := keep_cell hB3 (H2.out.1.cell 10)
    have H3 := Lib.hid (And.intro (H2.out.1.below' hB3) (And.intro B3 k3))
    clear hB3 B3 k3
    go_wp2_with fail
    refine CG2.out.mono ?_
    rintro e W4 ⟨y2, rfl, hys2, b4, _, hz1⟩
    have g47' := cells_is y2 hys2.1
    obtain ⟨L2, hL2⟩ : ∃ L : Array Value, L = y2.cells.toArray := ⟨_, rfl⟩
    rw [← hL2] at g47' ⊢
    have g47 := Lib.hid g47'
    have hz2 : Z47.size = L2.size := g47'.1.symm
    have kz2 := Bk.new W4 56 Z47
    have k72 := setCells_whole kz2 hz2
    have b5 : Below W4.heap.size W4 ((W4.alloc (.cells Z47 56)).setCells W4.heap.size 0 L2.toList) := below_setCells (g := W4.heap.size) L2.toList 0 (below_al W4 _) (Nat.le_refl _)
    obtain ⟨W5, hW5⟩ : ∃ W5, W5 = (W4.alloc (.cells Z47 56)).setCells W4.heap.size 0 L2.toList := ⟨_, rfl⟩
    rw [← hW5] at b5 k72
    rw [hL2] at k72
    have HKZ2 := Lib.hid (And.intro kz2 hz2)
    have b35 := below_tr b4 b5
    have HW4 := Lib.hid hW5.symm
    obtain ⟨ph, hph⟩ : ∃ ph, ph = y.p.phase := ⟨_, rfl⟩
    have e12 : W5.cell? ⟨W1.heap.size, 12, none⟩ = some (.int .i64 ph) := by rw [hph]; exact keep_cell b35 (H3.out.1.cell 12)
    obtain ⟨own, hown⟩ : ∃ own, own = (findN 0 y.p.owner cl).isSome := ⟨_, rfl⟩
    rw [← hown]
    have br5 := below_tr H3.out.2.1 b35
    have HY := Lib.hid (fun (i : Nat) (hf : findN 1 ⟨s.toArray⟩ cl = some i) (hi : i < cl.length) => (show cl[i].p.phase = ph ∧ cl[i].p.owner = y.p.owner by
      obtain ⟨_, hn⟩ := H2.out.2.2.1 i hf
      have hnp : (nf y).p = (nf cl[i]).p := by rw [hn]
      have e1 : y.p.phase = cl[i].p.phase := (congrArg Pd.phase hnp : (nf y).p.phase = (nf cl[i]).p.phase)
      have e2 : y.p.owner = cl[i].p.owner := (congrArg Pd.owner hnp : (nf y).p.owner = (nf cl[i]).p.owner)
      exact ⟨by rw [← e1]; exact hph.symm, e2.symm⟩))
    have H5 := Lib.hid (And.intro br5 (And.intro k72 (And.intro hz1 (And.intro hown (H3.out.2.2.below' b35)))))
    clear b4 hz1 hys2 kz2 hz2 b5 hW5 g47' hL2 b35 k72 CG2 c10 hph hown br5
    cases th with
    | false =>
      have HNO : Hid (¬ FewC cl D s) := Lib.hid (by
        rintro ⟨j, hj, j2, hj2, k', v', pc', f1, f2, f3, f4, f5, f6⟩
        have h := H2.out.2.2.2.1
        rw [f1] at h
        cases h)
      have CE := Lib.hid (gevict_any (HM.out.1.below H5.out.1) HM.out.2.2.2.2.1 (Nat.le_trans HM.out.2.2.2.2.2.1 (H5.out.1).size) ⟨s.toArray⟩ HM.out.2.2.2.2.2.2.1 now HM.out.2.2.2.2.2.2.2)
      go_wp2_with (first | ((with_reducible refine at_alloc_ ?_); refine wpl_allocg rfl (run_alloc47 rfl _) ?_) | ((with_reducible refine at_store_ ?_); refine wpl_storeg HKZ2.out.1 HKZ2.out.2 rfl rfl 56 (.tmp 13) (.tmp 52) rfl rfl rfl (info47 g47.out) g47.out.2 ?_; rw [HW4.out]))
      refine CE.out.mono ?_
      rintro e W9 hEv
      obtain ⟨z, rfl, hEv2⟩ := hEv.num
      have HEV := Lib.hid hEv2
      clear hEv hEv2
      go_wp2_with fail
      go_ret
      exact .inr ⟨HNO.out, HEV.out.from H5.out.1 HM.out.2.2.2.2.2.1⟩
    | true =>
      cases kept with
      | false =>
        have HNO : Hid (¬ FewC cl D s) := Lib.hid (by
          rintro ⟨j, hj, j2, hj2, k', v', pc', f1, f2, f3, f4, f5, f6⟩
          have h := H2.out.2.2.2.2.2.2.2.2
          rw [H2.out.2.2.2.2.1, ← (HY.out j f1 hj).2, f4] at h
          cases h)
        have CE := Lib.hid (gevict_any (HM.out.1.below H5.out.1) HM.out.2.2.2.2.1 (Nat.le_trans HM.out.2.2.2.2.2.1 (H5.out.1).size) ⟨s.toArray⟩ HM.out.2.2.2.2.2.2.1 now HM.out.2.2.2.2.2.2.2)
        go_wp2_with (first | ((with_reducible refine at_alloc_ ?_); refine wpl_allocg rfl (run_alloc47 rfl _) ?_) | ((with_reducible refine at_store_ ?_); refine wpl_storeg HKZ2.out.1 HKZ2.out.2 rfl rfl 56 (.tmp 13) (.tmp 52) rfl rfl rfl (info47 g47.out) g47.out.2 ?_; rw [HW4.out]))
        refine CE.out.mono ?_
        rintro e W9 hEv
        obtain ⟨z, rfl, hEv2⟩ := hEv.num
        have HEV := Lib.hid hEv2
        clear hEv hEv2
        go_wp2_with fail
        go_ret
        exact .inr ⟨HNO.out, HEV.out.from H5.out.1 HM.out.2.2.2.2.2.1⟩
      | true =>
        cases own with
        | false =>
          have HNO : Hid (¬ FewC cl D s) := Lib.hid (by
            rintro ⟨j, hj, j2, hj2, k', v', pc', f1, f2, f3, f4, f5, f6⟩
            have h := H5.out.2.2.2.1
            rw [← (HY.out j f1 hj).2, f2] at h
            cases h)
          have CE := Lib.hid (gevict_any (HM.out.1.below H5.out.1) HM.out.2.2.2.2.1 (Nat.le_trans HM.out.2.2.2.2.2.1 (H5.out.1).size) ⟨s.toArray⟩ HM.out.2.2.2.2.2.2.1 now HM.out.2.2.2.2.2.2.2)
          go_wp2_with (first | ((with_reducible refine at_alloc_ ?_); refine wpl_allocg rfl (run_alloc47 rfl _) ?_) | ((with_reducible refine at_store_ ?_); refine wpl_storeg HKZ2.out.1 HKZ2.out.2 rfl rfl 56 (.tmp 13) (.tmp 52) rfl rfl rfl (info47 g47.out) g47.out.2 ?_; rw [HW4.out]))
          refine CE.out.mono ?_
          rintro e W9 hEv
          obtain ⟨z, rfl, hEv2⟩ := hEv.num
          have HEV := Lib.hid hEv2
          clear hEv hEv2
          go_wp2_with fail
          go_ret
          exact .inr ⟨HNO.out, HEV.out.from H5.out.1 HM.out.2.2.2.2.2.1⟩
        | true =>
          cases hp2 : ph == 2 with
          | false =>
            have HNO : Hid (¬ FewC cl D s) := Lib.hid (by
              rintro ⟨j, hj, j2, hj2, k', v', pc', f1, f2, f3, f4, f5, f6⟩
              rw [(HY.out j f1 hj).1] at f3
              rw [f3] at hp2
              cases hp2)
            have CE := Lib.hid (gevict_any (HM.out.1.below H5.out.1) HM.out.2.2.2.2.1 (Nat.le_trans HM.out.2.2.2.2.2.1 (H5.out.1).size) ⟨s.toArray⟩ HM.out.2.2.2.2.2.2.1 now HM.out.2.2.2.2.2.2.2)
            go_wp2_with (first | ((with_reducible refine at_alloc_ ?_); refine wpl_allocg rfl (run_alloc47 rfl _) ?_) | ((with_reducible refine at_store_ ?_); refine wpl_storeg HKZ2.out.1 HKZ2.out.2 rfl rfl 56 (.tmp 13) (.tmp 52) rfl rfl rfl (info47 g47.out) g47.out.2 ?_; rw [HW4.out]))
            refine CE.out.mono ?_
            rintro e W9 hEv
            obtain ⟨z, rfl, hEv2⟩ := hEv.num
            have HEV := Lib.hid hEv2
            clear hEv hEv2
            go_wp2_with fail
            go_ret
            exact .inr ⟨HNO.out, HEV.out.from H5.out.1 HM.out.2.2.2.2.2.1⟩
          | true =>
            obtain ⟨i, hf1⟩ : ∃ i, findN 1 ⟨s.toArray⟩ cl = some i := by
              have h := H2.out.2.2.2.1
              cases hf : findN 1 ⟨s.toArray⟩ cl with
              | none =>
                rw [hf] at h
                cases h
              | some i => exact ⟨i, rfl⟩
            obtain ⟨i2, hf2⟩ : ∃ i2, findN 0 y.p.owner cl = some i2 := by
              have h := H5.out.2.2.2.1
              cases hf : findN 0 y.p.owner cl with
              | none =>
                rw [hf] at h
                cases h
              | some i => exact ⟨i, rfl⟩
            obtain ⟨hi1, _, _⟩ := findN_some hf1
            obtain ⟨hi2, hk2, hn2⟩ := findN_some hf2
            obtain ⟨_, hnf2⟩ := H5.out.2.2.1 i2 hf2
            have hnm : y2.name = y.p.owner := by rw [(nf_key hnf2).2, hn2]
            have hrw : y2.w.replicas = cl[i2].w.replicas := by
              have h : (nf y2).w = (nf cl[i2]).w := by rw [hnf2]
              exact (congrArg Wl.replicas h : (nf y2).w.replicas = (nf cl[i2]).w.replicas)
            have hRk : okR cl[i2].w.replicas = true := wl_may hk2 (by
              obtain ⟨_, _, _, _, _, _, _, _, hg⟩ := HM.out.1.s8
              exact hg _ (List.getElem_mem _))
            obtain ⟨R, hR⟩ : ∃ R : Nat, R = cl[i2].w.replicas.toNat := ⟨_, rfl⟩
            have hRe : cl[i2].w.replicas = (R : Int) := by
              have := okR_t hRk
              omega
            have hRk' : okR (R : Int) = true := by rw [← hRe]; exact hRk
            have e1 : W5.cell? ⟨W4.heap.size, 1, none⟩ = some (.string y.p.owner) := by rw [← hnm]; exact H5.out.2.1.cell 1
            have e3 : W5.cell? ⟨W4.heap.size, 3, none⟩ = some (.int .i64 (R : Int)) := by rw [← hRe, ← hrw]; exact H5.out.2.1.cell 3
            obtain ⟨n, hnn⟩ : ∃ n, n = rdy cl y.p.owner := ⟨_, rfl⟩
            obtain ⟨m, hmm⟩ : ∃ m, m = mustN k v pc R := ⟨_, rfl⟩
            have hnl : n ≤ 100 := by rw [hnn]; exact Nat.le_trans (rdy_le _) HM.out.2.2.2.1
            have CRd := Lib.hid (fun (w1 : World) (hb1 : Below W5.heap.size W5 w1) => ready_any ((HM.out.1.below H5.out.1).below hb1).s8 HM.out.2.2.2.1 y.p.owner)
            rw [← hnn] at CRd
            have CRm := Lib.hid (fun w1 => room_ok k v pc R n w1 H2.out.2.2.2.2.2.2.2.1 hRk' (by omega))
            rw [← hmm] at CRm
            obtain ⟨rm, hrm⟩ : ∃ rm, rm = n - m := ⟨_, rfl⟩
            rw [← hrm] at CRm
            have HC := Lib.hid (And.intro hf1 (And.intro hi1 (And.intro hf2 (And.intro hi2 (And.intro hnn (And.intro hmm (And.intro hR hrm)))))))
            have z1 := cell_regrown e1
            have z3 := cell_regrown e3
            clear hf1 hf2 hk2 hn2 hnf2 hnm hrw hRk hR hRe hRk' hnn hmm e1 e3 hnl hrm
            go_wp2_with (first | ((with_reducible refine at_alloc_ ?_); refine wpl_allocg rfl (run_alloc47 rfl _) ?_) | ((with_reducible refine at_store_ ?_); refine wpl_storeg HKZ2.out.1 HKZ2.out.2 rfl rfl 56 (.tmp 13) (.tmp 52) rfl rfl rfl (info47 g47.out) g47.out.2 ?_; rw [HW4.out]))
            refine wp_region_quiet_below (by kernel_rfl) (by kernel_rfl) ?_
            refine q_load H5.out.2.2.2.2 rfl 24 (.tmp 11) rfl rfl _ Tryz.underlying24 rfl (by kernel_rfl) ?_
            repeat (quiet_step (first | (go_at_call 26; (with_reducible exact Calls.regrown_of (CRd.out _ (below_regrown _ _ _)))) | (go_at_call 24; (with_reducible exact Calls.regrown_of (CRm.out _)))))
            refine wpQuiet_nil ?_
            rintro _ ⟨rp, rfl⟩
            have hBz := below_regrown W5 rp.d rp.os
            generalize «Sort».grow (redrawn W5 rp.d) rp.os = W6 at hBz ⊢
            have br6 := below_tr H5.out.1 hBz
            have HBR := Lib.hid br6
            clear z1 z3 CRd CRm e12 hBz br6
            cases hle : decide (n ≤ m) with
            | true =>
              have hr0 : rm = 0 := by
                have h1 : n ≤ m := of_decide_eq_true hle
                have h2 := HC.out.2.2.2.2.2.2.2
                omega
              subst hr0
              have HF : Hid (FewC cl D s) := by
                obtain ⟨hf1, hi1, hf2, hi2, q1, q2, q3, q4⟩ := id HC.out
                obtain ⟨x1, x2⟩ := HY.out i hf1 hi1
                refine Lib.hid ⟨i, hi1, i2, hi2, k, v, pc, hf1, by rw [x2]; exact hf2, x1.trans (by simpa using hp2), ?_, ?_, ?_⟩
                · rw [x2, ← H2.out.2.2.2.2.1]
                  exact H2.out.2.2.2.2.2.2.2.2.symm
                · rw [x2, ← H2.out.2.2.2.2.1]
                  exact H2.out.2.2.2.2.2.2.1
                · rw [x2, ← q1, ← q3, ← q2]
                  exact of_decide_eq_true hle
              go_wp2_with fail
              go_ret
              exact .inl ⟨HF.out, rfl, HBR.out⟩
            | false =>
              have hr1 : 0 < rm := by
                have h1 : ¬ n ≤ m := of_decide_eq_false hle
                have h2 := HC.out.2.2.2.2.2.2.2
                omega
              have hr2 : ((rm : Int) == 0) = false := by
                have : ¬ (rm : Int) = 0 := by omega
                simpa using this
              have hr3 : (rm == 0) = false := by
                have : ¬ rm = 0 := by omega
                simpa using this
              have HNO : Hid (¬ FewC cl D s) := Lib.hid (by
                rintro ⟨j, hj, j2, hj2, k', v', pc', f1, f2, f3, f4, f5, f6⟩
                obtain ⟨hf1, hi1, hf3, hi3, q1, q2, q3, q4⟩ := id HC.out
                obtain ⟨x1, x2⟩ := HY.out i hf1 hi1
                rw [hf1] at f1
                injection f1 with f1
                subst f1
                rw [x2, hf3] at f2
                injection f2 with f2
                subst f2
                rw [x2, ← H2.out.2.2.2.2.1, H2.out.2.2.2.2.2.2.1] at f5
                injection f5 with f5
                simp at f5
                obtain ⟨g1, g2, g3⟩ := f5
                have g1' : k = k' := by omega
                have g2' : v = v' := by omega
                subst g1' g2' g3
                rw [x2, ← q1, ← q3, ← q2] at f6
                exact of_decide_eq_false hle f6)
              have CE := Lib.hid (gevict_any (HM.out.1.below HBR.out) HM.out.2.2.2.2.1 (Nat.le_trans HM.out.2.2.2.2.2.1 (HBR.out).size) ⟨s.toArray⟩ HM.out.2.2.2.2.2.2.1 now HM.out.2.2.2.2.2.2.2)
              go_wp2_with fail
              refine CE.out.mono ?_
              rintro e W9 hEv
              obtain ⟨z, rfl, hEv2⟩ := hEv.num
              have HEV := Lib.hid hEv2
              clear hEv hEv2
              go_wp2_with fail
              go_ret
              exact .inr ⟨HNO.out, HEV.out.from HBR.out HM.out.2.2.2.2.2.1⟩
end Go.Proofs.YtcbnmoghjhljbaaGreat
end
section
namespace Go.Proofs.YtcbnmoghjhljbaaGreat
open Go.RowKit Go.Proofs.Mem
set_option linter.unusedVariables false
set_option linter.unusedSimpArgs false
attribute [local go_sem] Oper.semAt_some
theorem keep_ps {B : Nat} {W V : World} {p b n₀ : Nat} {most : Int} {evs : List Ev} {cl : List Ob} {j : Nat} {o : Obj} (M : S8 B W p b most evs cl) (hK : KeepU n₀ p b (fun _ => False) W V) (hn : W.heap.size ≤ n₀) (ho : W.heap[j]? = some o) (hp : j ≠ p) (hb : j ≠ b) (he : ∀ cur, o ≠ .cells cur 95 (0, 0)) : V.heap[j]? = some o := by
  obtain ⟨n, D, ev, st, _⟩ := M
  have hlt := (Array.getElem?_eq_some_iff.1 ho).1
  refine hK.frame st.cells.2.2.2 ho (.inl (by omega)) ?_ (fun h => h)
  rintro (h | h | h)
  · exact hp h
  · exact hb h
  · obtain ⟨cur, h3⟩ := own_cells st.2.2.2 h
    rw [h3] at ho
    injection ho with ho
    exact he cur ho.symm
theorem keep_bk {B : Nat} {W V : World} {p b n₀ g : Nat} {most : Int} {evs : List Ev} {cl : List Ob} {t : TypeId} {cs : Array Value} (M : S8 B W p b most evs cl) (hK : KeepU n₀ p b (fun _ => False) W V) (hn : W.heap.size ≤ n₀) (hk : Bk W g t cs) (hp : g ≠ p) (hb : g ≠ b) (ht : t ≠ 95) : Bk V g t cs :=
  keep_ps M hK hn hk hp hb fun cur e => by injection e with e1 e2; exact ht e2
set_option maxRecDepth 100000 in
def ksF (p s0 : Nat) (k : Int) (f : Nat → Value) : Array Value := #[.pointer (some ⟨p, 0, none⟩), f 1, f 2, .pointer (some ⟨s0, 0, none⟩), .pointer (some ⟨s0 + 1, 0, none⟩), f 5, f 6, f 7, f 8, f 9, f 10, f 11, f 12, f 13, f 14, f 15, f 16, f 17, f 18, f 19, f 20, f 21, .int .i64 k, f 23, f 24, f 25, f 26, f 27, f 28, f 29, f 30, f 31, f 32, f 33, f 34, f 35, f 36, f 37, f 38, f 39, f 40, f 41, f 42, f 43, f 44, f 45, f 46, f 47, f 48]
set_option maxRecDepth 100000 in
def ksG (p s0 : Nat) (k : Int) (q q2 : Nat) (f : Nat → Value) : Array Value := #[.pointer (some ⟨p, 0, none⟩), f 1, f 2, .pointer (some ⟨s0, 0, none⟩), .pointer (some ⟨s0 + 1, 0, none⟩), .pointer (some ⟨q, 0, none⟩), f 6, .pointer (some ⟨q2, 0, none⟩), f 8, f 9, f 10, f 11, f 12, f 13, f 14, f 15, f 16, f 17, f 18, f 19, f 20, f 21, .int .i64 k, f 23, f 24, f 25, f 26, f 27, f 28, f 29, f 30, f 31, f 32, f 33, f 34, f 35, f 36, f 37, f 38, f 39, f 40, f 41, f 42, f 43, f 44, f 45, f 46, f 47, f 48]
structure IsSW (wa : World) (ms : List Nat) (W : World) : Prop where
  nd : ms.Nodup
  mark : ∀ D ∈ ms, W.heap[D]? = some (.deferred (some [])) ∧ wa.heap.size ≤ D
  low : Below wa.heap.size wa W
def IsSI (wa : World) (p s0 : Nat) (a : Act) (W : World) : Prop :=
  ∃ (k : Nat) (f : Nat → Value) (ms : List Nat), k ≤ 5 ∧ a = ⟨ksF p s0 k f, ms.map mkM⟩ ∧ IsSW wa ms W
def ksK (a : Act) : Nat := 5 - (intOf (a.tmps.getD 22 undef)).toNat
theorem isSI_intro {wa : World} {p s0 : Nat} {W : World} {ms : List Nat} (t : Array Value) (k : Nat) (h : t = ksF p s0 k (fun i => t.getD i undef)) (hk : k ≤ 5) (hW : IsSW wa ms W) : IsSI wa p s0 ⟨t, ms.map mkM⟩ W :=
  ⟨k, _, ms, hk, by rw [← h], hW⟩
structure IsSR (wa : World) (q : Nat) (ms : List Nat) (k : Nat) (pre : List Ob) (W : World) : Prop where
  mark : ∀ D ∈ ms, W.heap[D]? = some (.deferred (some [])) ∧ wa.heap.size ≤ D ∧ D < q
  bk : Bk W q 3 #[.int .i64 k]
  low : Below wa.heap.size wa W
  zs : q + 3 ≤ W.heap.size
theorem IsSR.own {wa : World} {q : Nat} {ms : List Nat} {k B : Nat} (hq : q ≤ B) (hw : wa.heap.size ≤ B) : OwnFrom B (IsSR wa q ms k) := fun pre W W' row h hg hr =>
  have hr2 : ∀ r, row = some r → ∃ o : Obj, W.heap[r]? = some o ∧ o.isCells = false := fun r e => (hr r e).2
  { mark := fun D hD => by
      obtain ⟨h1, h2, h3⟩ := h.mark D hD
      refine ⟨(hg.block D (Array.getElem?_eq_some_iff.1 h1).1 fun e => ?_).trans h1, h2, h3⟩
      have := (hr D e.symm).1
      omega
    bk := bk_kept h.bk hg hr2
    low := h.low.grown hg h.low.size fun r e => Nat.le_trans hw (hr r e).1
    zs := Nat.le_trans h.zs hg.size }
theorem IsSR.below {wa W W' : World} {q k : Nat} {ms : List Nat} {pre pre' : List Ob} (h : IsSR wa q ms k pre W) (hb : Below W.heap.size W W') : IsSR wa q ms k pre' W' where
  mark := fun D hD => by
    obtain ⟨h1, h2, h3⟩ := h.mark D hD
    exact ⟨(hb.block D (Array.getElem?_eq_some_iff.1 h1).1).trans h1, h2, h3⟩
  bk := h.bk.below' hb
  low := below_tr h.low hb
  zs := Nat.le_trans h.zs hb.size
def IsSAx (cl : List Ob) (p s0 k q : Nat) (pre : List Ob) (x : Ob) (a : Act) (W : World) : Prop :=
  ∃ q2 f, a = ⟨ksG p s0 k q q2 f, []⟩ ∧ q + 3 ≤ q2 ∧ Bk W q2 56 x.cells.toArray ∧ KnL cl k pre x W
theorem isSAx_intro {cl : List Ob} {p s0 k q : Nat} {pre : List Ob} {x : Ob} {W : World} (t : Array Value) (q2 : Nat) (h : t = ksG p s0 k q q2 (fun i => t.getD i undef)) (hq : q + 3 ≤ q2) (hb : Bk W q2 56 x.cells.toArray) (hk : KnL cl k pre x W) : IsSAx cl p s0 k q pre x ⟨t, []⟩ W :=
  ⟨q2, _, by rw [← h], hq, hb, hk⟩
theorem fn_guard {P : Program} (t : TypeId) (x y : Operand) (f : Fn) (a b : Array Value) (w : World) : (eqGuard BinOp.eql t x y (.func f a b) .nilFunc).run P w = .ok () w := by simp [eqGuard]
set_option maxRecDepth 100000 in
theorem fn_nil (f : Fn) (a b : Array Value) (w : World) : (binOp BinOp.eql 98 (.func f a b) .nilFunc).run Tryz.prog w = .ok (.bool false) w := by
  simp [binOp, Op.equal]
  rfl
attribute [local go_sem] fn_guard fn_nil
set_option maxHeartbeats 8000000 in
set_option maxRecDepth 100000 in
theorem same16_any {B B2 : Nat} {w : World} {p b p2 b2 : Nat} {most : Int} {evs evs2 : List Ev} {cl : List Ob} (M : S8 B w p b most evs cl) (M2 : S8 B2 w p2 b2 most evs2 cl) (he : evs2.length = evs.length) (hev : evs.length ≤ 500) :
    Calls Tryz.prog 20 #[.pointer (some ⟨p, 0, none⟩), .pointer (some ⟨p2, 0, none⟩)] w fun e w' => e = .returned (.bool true) ∧ Below w.heap.size w w' := by
  have HM := Lib.hid (And.intro M (And.intro M2 (And.intro he hev)))
  clear M M2 he hev
  refine (callsIn_wide (n := 7)).1 ?_
  refine callsIn_of_wp_marks Tryz.func20 rfl trivial ?_ rfl
  simp only [Tryz.ntmps20, List.size_toArray, List.length_cons, List.length_nil, Nat.reduceAdd, Nat.reduceSub, Array.replicate_succ, Array.replicate_zero, List.push_toArray, List.append_toArray, List.nil_append, List.cons_append]
  refine wpIn_seq ?_
  refine wpIn_wide.2 ?_
  refine wp_hide fun QA HQA => ?_
  go_wp2_with fail
  rw [HQA.out]
  simp only [Exit.then]
  clear HQA
  obtain ⟨W0, hW0⟩ : ∃ W0, W0 = (w.alloc (.cells #[.pointer (some ⟨p2, 0, none⟩)] 26)).alloc (.cells #[.bool false] 4) := ⟨_, rfl⟩
  have g1 := (Bk.new w 26 #[.pointer (some ⟨p2, 0, none⟩)]).alloc (.cells #[.bool false] 4)
  have g2 := Bk.new (w.alloc (.cells #[.pointer (some ⟨p2, 0, none⟩)] 26)) 4 #[.bool false]
  rw [World.size_alloc] at g2
  have gB : Below w.heap.size w W0 := by
    rw [hW0]
    exact below_tr (below_al _ _) (below_al _ _)
  have gz : W0.heap.size = w.heap.size + 2 := by rw [hW0]; simp
  rw [← hW0] at g1 g2 ⊢
  clear hW0
  have HG := Lib.hid (And.intro g1 (And.intro g2 (And.intro gB gz)))
  have z3 := cell_regrown (g1.cell 0)
  clear g1 g2 gB gz
  have CLa := Lib.hid (fun (w1 : World) (hb1 : Below W0.heap.size W0 w1) => (s8_len ((HM.out.1.below HG.out.2.2.1).below hb1)).mono (R' := fun e w' => e = .returned (.int .i64 (cl.length : Nat)) ∧ Below w1.heap.size w1 w') (fun e w' ⟨h1, h2⟩ => ⟨h1, by subst h2; exact Below.refl _ _⟩))
  have CLb := Lib.hid (fun (w1 : World) (hb1 : Below W0.heap.size W0 w1) => (s8_len ((HM.out.2.1.below HG.out.2.2.1).below hb1)).mono (R' := fun e w' => e = .returned (.int .i64 (cl.length : Nat)) ∧ Below w1.heap.size w1 w') (fun e w' ⟨h1, h2⟩ => ⟨h1, by subst h2; exact Below.refl _ _⟩))
  have CNa := Lib.hid (fun (w1 : World) (hb1 : Below W0.heap.size W0 w1) => (s8_now ((HM.out.1.below HG.out.2.2.1).below hb1)).mono (R' := fun e w' => e = .returned (.int .u64 (evs.length : Nat)) ∧ Below w1.heap.size w1 w') (fun e w' ⟨h1, h2⟩ => ⟨h1, by subst h2; exact Below.refl _ _⟩))
  have CNb := Lib.hid (fun (w1 : World) (hb1 : Below W0.heap.size W0 w1) => (s8_now ((HM.out.2.1.below HG.out.2.2.1).below hb1)).mono (R' := fun e w' => e = .returned (.int .u64 (evs.length : Nat)) ∧ Below w1.heap.size w1 w') (fun e w' ⟨h1, h2⟩ => ⟨by rw [h1, HM.out.2.2.1], by subst h2; exact Below.refl _ _⟩))
  refine wpIn_seq ?_
  refine wpIn_wide.2 ?_
  refine wp_hide fun QB HQB => ?_
  go_wp2_with fail
  refine wp_region_quiet_below (by kernel_rfl) (by kernel_rfl) ?_
  repeat (go_big_quiet_step (first
    | (go_at_call 37; (with_reducible exact Calls.regrown_of (CLa.out _ (below_regrown _ _ _))))
    | (go_at_call 37; (with_reducible exact Calls.regrown_of (CLb.out _ (below_regrown _ _ _))))
    | (go_at_call 38; (with_reducible exact Calls.regrown_of (CNa.out _ (below_regrown _ _ _))))
    | (go_at_call 38; (with_reducible exact Calls.regrown_of (CNb.out _ (below_regrown _ _ _))))))
  refine wpQuiet_nil ?_
  rintro _ ⟨rp, rfl⟩
  have hBz := below_regrown W0 rp.d rp.os
  generalize «Sort».grow (redrawn W0 rp.d) rp.os = W1 at hBz ⊢
  have H1 := Lib.hid (And.intro (HG.out.1.below' hBz) (And.intro (HG.out.2.1.below' hBz) (And.intro (below_tr HG.out.2.2.1 hBz) hBz.size)))
  clear hBz z3 CLa CLb CNa CNb
  go_wp2_with fail
  rw [HQB.out]
  simp only [Exit.then]
  clear HQB
  refine wpIn_seq ?_
  refine wpIn_hide fun QL HQL => ?_
  refine wpIn_seq ?_
  refine wpIn_wide.2 ?_
  refine wp_hide fun QI HQI => ?_
  go_wp2_with fail
  rw [HQI.out]
  simp only [Exit.then]
  clear HQI
  refine wpIn_block ?_
  refine wpIn_loop (IsSI W1 p w.heap.size) (fun a _ => ksK a) (isSI_intro (ms := []) _ 0 (by kernel_rfl) (by omega) ⟨List.nodup_nil, fun D h => (by cases h), Below.refl _ _⟩) ?_
  rintro a W ⟨k, f, ms, hk, rfl, hI⟩
  have HI := Lib.hid hI
  clear hI
  unfold ksF
  by_cases hlt : k < 5
  · have hlt2 : (k : Int) < 5 := by omega
    refine wpIn_seq ?_
    refine wpIn_wide.2 ?_
    refine wp_hide fun QM HQM => ?_
    go_wp2_with fail
    rw [HQM.out]
    simp only [Exit.then]
    clear HQM
    refine wpIn_seq ?_
    refine wpIn_wide.2 ?_
    refine wp_hide fun QN HQN => ?_
    go_wp2_with fail
    rw [HQN.out]
    simp only [Exit.then]
    clear HQN
    refine wpIn_seq ?_
    refine wpIn_hide fun QF HQF => ?_
    refine wpIn_block ?_
    refine wpIn_seq ?_
    refine wpIn_wide.2 ?_
    refine wp_hide fun QO HQO => ?_
    go_wp2_with fail
    rw [HQO.out]
    simp only [Exit.then]
    clear HQO
    obtain ⟨V1, hV1⟩ : ∃ V1, V1 = W.alloc (.cells #[.int .i64 k] 3) := ⟨_, rfl⟩
    have m1 := Bk.new W 3 #[.int .i64 k]
    have mB := below_al W (.cells #[.int .i64 k] 3)
    have mz : V1.heap.size = W.heap.size + 1 := by rw [hV1]; simp
    rw [← hV1] at m1 mB ⊢
    clear hV1
    obtain ⟨q, hq⟩ : ∃ q, q = W.heap.size := ⟨_, rfl⟩
    rw [← hq] at m1 mz ⊢
    have e11 := m1.cell 0
    have HM1 := Lib.hid (And.intro m1 (And.intro mB (And.intro mz hq)))
    clear m1 mB mz hq
    refine wpIn_seq ?_
    refine wpIn_wide.2 ?_
    refine wp_hide fun QJ HQJ => ?_
    go_wp2_with fail
    refine (list_any p k V1).mono ?_
    rintro e V2 ⟨rfl, rfl⟩
    go_wp2_with fail
    rw [HQJ.out]
    simp only [Exit.then]
    clear HQJ
    obtain ⟨WL, hWL⟩ : ∃ WL, WL = (V1.alloc (.cells #[.pointer (some ⟨p, 0, none⟩)] 26)).alloc (.cells #[.int .i64 k] 3) := ⟨_, rfl⟩
    have l1 := (Bk.new V1 26 #[.pointer (some ⟨p, 0, none⟩)]).alloc (.cells #[.int .i64 k] 3)
    have l2 := Bk.new (V1.alloc (.cells #[.pointer (some ⟨p, 0, none⟩)] 26)) 3 #[.int .i64 k]
    rw [World.size_alloc] at l2
    have lB : Below V1.heap.size V1 WL := by
      rw [hWL]
      exact below_tr (below_al _ _) (below_al _ _)
    have lz : WL.heap.size = V1.heap.size + 2 := by rw [hWL]; simp
    rw [← hWL] at l1 l2 ⊢
    clear hWL e11
    have HL1 := Lib.hid (And.intro l1 (And.intro l2 (And.intro lB lz)))
    clear l1 l2 lB lz
    refine wpIn_seq ?_
    refine wpIn_wide.2 ?_
    refine wp_hide fun QC HQC => ?_
    go_wp2_with fail
    rw [HQC.out]
    simp only [Exit.then]
    clear HQC
    refine wpIn_seq ?_
    refine wpIn_wide.2 ?_
    refine wp_hide fun QD HQD => ?_
    go_wp2_with fail
    rw [HQD.out]
    simp only [Exit.then]
    clear HQD
    refine wpIn_block ?_
    have HBW : Below W.heap.size W WL := below_tr HM1.out.2.1 HL1.out.2.2.1
    have HB7 : Below W1.heap.size W1 WL := below_tr HI.out.low HBW
    have HBw : Below w.heap.size w WL := below_tr H1.out.2.2.1 HB7
    obtain ⟨n1, D1, ev1, st1, R1, hlow1, _, hcl1, hgood1⟩ := id HM.out.1
    have stL := st1.below HBw
    have hmz := HM1.out.2.2.1
    have hq := HM1.out.2.2.2
    have hlz := HL1.out.2.2.2
    have hev := HM.out.2.2.2
    have hWz := HI.out.low.size
    refine wpIn_rangeFunc_know (n := 7) rfl (by omega) (gf := 50) (lb := #[.pointer (some ⟨V1.heap.size, 0, none⟩), .pointer (some ⟨V1.heap.size + 1, 0, none⟩)]) rfl trivial (enters_of Tryz.func50 rfl rfl)
      (list_knows (p := p) (b := b) (n := n1) (D := D1) (F := fun _ => False) (cl := cl) 6 (by omega) (k : Int) ?hcl WL ?hp ?hmp ?hR ?hbs ?hbk ?hF) KeepL.trans ?hKb (Below.refl _ _) (fun _ => rfl)
      (IsSR W1 q ms k) (fun _ _ _ => False) ?hI (fun _ _ _ _ _ hs _ _ => hs) ?h0 (IsSAx cl p w.heap.size k q) ?hAx ?assign ?body ?done ?stop
    case hcl => omega
    case hp => exact stL.cells.2.1
    case hmp => exact stL.2.2.1
    case hR => exact {
      size := R1.size
      at1 := fun x hx => by
        obtain ⟨h1, y, h2, h3, h4⟩ := R1.at1 x hx
        exact ⟨h1, y, h2, safe_less (safe_old h3.ok HBw) (fun j (hj : False) => hj.elim), h4⟩
      at0 := R1.at0
      ok := R1.ok
      uniq := R1.uniq }
    case hbs => exact HL1.out.1.cell 0
    case hbk => exact HL1.out.2.1.cell 0
    case hF => exact ⟨id, id, id, id⟩
    case hKb => exact fun W l o o' hl ho hc hw => KeepL.put W l o o' hl ho hc hw
    case hI => exact IsSR.own (by omega) (by omega)
    case h0 =>
      exact {
        mark := fun D hD => by
          obtain ⟨d1, d2⟩ := HI.out.mark D hD
          have d3 := (Array.getElem?_eq_some_iff.1 d1).1
          exact ⟨(HBW.block D d3).trans d1, d2, by omega⟩
        bk := HM1.out.1.below' HL1.out.2.2.1
        low := HB7
        zs := by omega }
    case hAx =>
      rintro pre x a' s A A' row ⟨q', f', e, hq', hb', z, hz, k1, k2, k3, ho⟩ hg hr
      have hr2 : ∀ r, row = some r → ∃ o : Obj, A.heap[r]? = some o ∧ o.isCells = false := fun r e => (hr r e).2
      exact ⟨q', f', e, hq', bk_kept hb' hg hr2, z, hz, k1, k2, k3, ok_kept ho hg hr2⟩
    case assign =>
      intro l pre x A K hA hKn hK
      have h47 : Is47 x.cells.toArray := cells_is x (by obtain ⟨z, hz, h1, h2, h3, h4⟩ := hKn; exact h4)
      have kz := Bk.new A 56 Z47
      refine wpIn_region_lit ?_
      refine wplI_run (fun _ => trivial) (fun ev => Oper.semAt_some _ _ _ (by intro c h; cases h)) rfl (run_alloc47 rfl _) ?_
      refine wplI_storeg (cs := x.cells.toArray) (fun _ => trivial) (fun ev => Oper.semAt_some _ _ _ (by intro c h; cases h)) kz (by rw [h47.1]; rfl) rfl rfl 56 (.tmp 7) (.tmp 31) rfl (by kernel_rfl) (by kernel_rfl) (info47 h47) h47.2 ?_
      have k2 := setCells_whole kz (show Z47.size = x.cells.toArray.size by rw [h47.1]; rfl)
      have b2 : Below A.heap.size A ((A.alloc (.cells Z47 56)).setCells A.heap.size 0 x.cells.toArray.toList) := below_setCells (g := A.heap.size) x.cells.toArray.toList 0 (below_al A _) (Nat.le_refl _)
      have hzs := hA.zs
      exact hK _ _ ⟨b2.size, fun j o _ hj _ => (b2.block j (Array.getElem?_eq_some_iff.1 hj).1).trans hj⟩ (KeepL.of_below b2 (by omega)) (hA.below b2) (isSAx_intro _ A.heap.size (by kernel_rfl) hzs k2 (hKn.below b2))
    case body =>
      rintro l pre x _ A hl hlo hA ⟨q2, f', rfl, hq2, hbq, hKn⟩
      unfold ksG
      obtain ⟨z, hz, hzk, hzn, hnf, hok⟩ := id hKn
      obtain ⟨i, hi, rfl⟩ := List.getElem_of_mem hz
      have hu := R1.uniq
      obtain ⟨ex1, ex2⟩ := nf_key hnf
      have hgood := hgood1 _ (List.getElem_mem hi)
      have MA := (HM.out.2.1.below H1.out.2.2.1).below hA.low
      have hfi : findN (k : Int) x.name cl = some i := by
        have := findN_of (l := cl) hu hi
        rw [hzk] at this
        rw [ex2]
        exact this
      have hkx : KeyOk ((k : Int), x.name) := by
        have := Ob.Ok.keyOk hok
        rw [ex1, hzk] at this
        exact this
      have CG := Lib.hid (CallsIn.inRound l ((callsIn_wide (n := 4)).2 (s8_get MA (k : Int) x.name hkx)))
      have e3 := (H1.out.1.below' hA.low).cell 0
      have e11 := hA.bk.cell 0
      have e12 : A.cell? ⟨q2, 1, none⟩ = some (.string x.name) := hbq.cell 1
      have HX := Lib.hid (And.intro hA (And.intro hbq (And.intro hl (And.intro hlo (And.intro hq2 hok)))))
      have HY := Lib.hid (And.intro hzk (And.intro hnf (And.intro ex1 (And.intro hgood hfi))))
      have HZ := Lib.hid (And.intro hmz (And.intro hq hlz))
      clear hz hzk hzn hnf hok hu ex1 ex2 hgood MA hfi hkx hA hbq hl hlo hq2 hKn st1 R1 hgood1 stL hmz hq hlz hev hlow1 hcl1 hWz HBW HB7 HBw
      refine wpIn_block ?_
      refine wpIn_seq ?_
      refine wpIn_hide fun QP HQP => ?_
      gi_wp2_with fail
      refine ⟨trivial, ?_⟩
      refine CG.out.mono ?_
      rintro e A1 ⟨y, rfl, hys, b1, _, hyn⟩
      obtain ⟨_, hyn⟩ := hyn i HY.out.2.2.2.2
      rw [HY.out.2.2.2.2]
      simp only [Option.isSome_some]
      have h47 := cells_is y hys.1
      have hzz : Z47.size = y.cells.toArray.size := by rw [h47.1]; rfl
      have kz := Bk.new A1 56 Z47
      gi_wp2_with (first | (refine wplI_run (fun _ => trivial) (fun ev => Oper.semAt_some _ _ _ (by intro c h; cases h)) rfl (run_alloc47 rfl _) ?_) | (refine wplI_storeg (cs := y.cells.toArray) (fun _ => trivial) (fun ev => Oper.semAt_some _ _ _ (by intro c h; cases h)) kz hzz rfl rfl 56 (.tmp 8) (.tmp 38) rfl rfl rfl (info47 h47) h47.2 ?_))
      rw [HQP.out]
      simp only [Exit.then]
      clear HQP
      obtain ⟨A2, hA2⟩ : ∃ A2, A2 = (A1.alloc (.cells Z47 56)).setCells A1.heap.size 0 y.cells := ⟨_, rfl⟩
      have b2 : Below A1.heap.size A1 A2 := by
        rw [hA2]
        exact below_setCells (g := A1.heap.size) y.cells.toArray.toList 0 (below_al A1 _) (Nat.le_refl _)
      have k13 : Bk A2 A1.heap.size 56 y.cells.toArray := by rw [hA2]; exact setCells_whole kz hzz
      obtain ⟨r13, hr13⟩ : ∃ r, r = A1.heap.size := ⟨_, rfl⟩
      rw [← hA2, ← hr13]
      rw [← hr13] at k13
      have bA := below_tr b1 b2
      have H2 := Lib.hid (And.intro (HX.out.1.below (pre' := pre ++ [x]) bA) (And.intro (HX.out.2.1.below' bA) (And.intro k13 (And.intro bA (And.intro (hys.1.below b2) (And.intro hyn (HX.out.2.2.2.2.2.below bA)))))))
      clear hA2 kz hzz h47 hys b1 b2 k13 bA hyn hr13 CG e12 e11 e3
      have hyx : nf y = nf x := by
        rw [H2.out.2.2.2.2.2.1]
        exact HY.out.2.1.symm
      have erx : errO x = 0 := (errO_nf HY.out.2.1).trans HY.out.2.2.2.1
      have ery : errO y = 0 := (errO_nf hyx).trans erx
      have hkx : x.kind = (k : Int) := HY.out.2.2.1.trans HY.out.1
      have CS := Lib.hid (CallsIn.inRound l ((callsIn_wide (n := 4)).2 (same_eq y x A2 k (by omega) ((nf_key hyx).1.trans hkx) hkx H2.out.2.2.2.2.1 H2.out.2.2.2.2.2.2 (obs_of_err ery).2 (obs_of_err erx).2 (objB_nf hyx))))
      clear hyx erx ery hkx
      refine wpIn_seq ?_
      refine wpIn_hide fun QR HQR => ?_
      gi_wp2_with (first | (refine wplI_run (fun _ => trivial) (fun ev => Oper.semAt_some _ _ _ (by intro c h; cases h)) rfl (run_load_at H2.out.2.2.1.range 56 (.tmp 8) rfl rfl _ Tryz.underlying56 rfl (by kernel_rfl)) ?_) | (refine wplI_run (fun _ => trivial) (fun ev => Oper.semAt_some _ _ _ (by intro c h; cases h)) rfl (run_load_at H2.out.2.1.range 56 (.tmp 7) rfl rfl _ Tryz.underlying56 rfl (by kernel_rfl)) ?_))
      refine ⟨trivial, ?_⟩
      refine CS.out.mono ?_
      rintro e A3 ⟨rfl, b3⟩
      have HB3 := Lib.hid b3
      clear b3 CS
      gi_wp2_with fail
      rw [HQR.out]
      simp only [Exit.then]
      clear HQR
      gi_wp2_with fail
      have bA3 := below_tr H2.out.2.2.2.1 HB3.out
      have hzs := HX.out.1.zs
      exact ⟨⟨bA3.size, fun j o _ hj _ => (bA3.block j (Array.getElem?_eq_some_iff.1 hj).1).trans hj⟩, KeepL.of_below bA3 (by have := HZ.out; omega), HX.out.1.below bA3⟩
    case done =>
      intro D xs A hD hxs hA hmD
      show QF .normal _ A
      rw [HQF.out]
      simp only [Exit.then]
      refine wpIn_wide.2 ?_
      refine wp_hide fun QK HQK => ?_
      go_wp2_with fail
      rw [HQK.out]
      simp only [Exit.then]
      refine ⟨isSI_intro (ms := D :: ms) _ (k + 1) (by kernel_rfl) (by omega) {
        nd := List.nodup_cons.2 ⟨fun h => by
          have := (hA.mark D h).2.2
          omega, HI.out.nd⟩
        mark := fun E hE => by
          rcases List.mem_cons.1 hE with rfl | hE
          · exact ⟨hmD, by omega⟩
          · exact ⟨(hA.mark E hE).1, (hA.mark E hE).2.1⟩
        low := hA.low }, ?_⟩
      show 5 - ((k : Int) + 1).toNat < 5 - (k : Int).toNat
      omega
    case stop =>
      rintro D c pre A _ h _
      exact h.elim
  · have hk5 : k = 5 := by omega
    subst hk5
    have hlt2 : ¬ ((5 : Nat) : Int) < 5 := by omega
    refine wpIn_seq ?_
    refine wpIn_wide.2 ?_
    refine wp_hide fun QM HQM => ?_
    go_wp2_with fail
    rw [HQM.out]
    simp only [Exit.then]
    refine wpIn_seq ?_
    refine wpIn_wide.2 ?_
    refine wp_hide fun QN HQN => ?_
    go_wp2_with fail
    rw [HQN.out]
    show QL .normal _ W
    rw [HQL.out]
    simp only [Exit.then]
    clear HQM HQN HQL
    have l6 := H1.out.2.1.below' HI.out.low
    have p6 := l6.cell 0
    have f6 := l6.frozen 0
    refine wpIn_seq ?_
    refine wpIn_wide.2 ?_
    refine wp_hide fun QE HQE => ?_
    go_wp2_with fail
    rw [HQE.out]
    simp only [Exit.then]
    have hgz := HG.out.2.2.2
    have h1z := H1.out.2.2.2
    obtain ⟨V8, hV8⟩ : ∃ V8, V8 = W.setCell ⟨w.heap.size + 1, 0, none⟩ (.bool true) := ⟨_, rfl⟩
    have k8 : Bk V8 (w.heap.size + 1) 4 #[.bool true] := by
      rw [hV8]
      exact l6.set 0 (.bool true)
    have B8 : Below w.heap.size w V8 := by
      rw [hV8]
      exact (below_tr H1.out.2.2.1 HI.out.low).setCell (p := ⟨w.heap.size + 1, 0, none⟩) (by show w.heap.size ≤ w.heap.size + 1; omega) _
    have m8 : ∀ D ∈ ms, V8.heap[D]? = some (.deferred (some [])) := fun D hD => by
      have d1 := (HI.out.mark D hD).1
      have d2 := (HI.out.mark D hD).2
      rw [hV8]
      exact (Below.heap_setCell W ⟨w.heap.size + 1, 0, none⟩ _ D (by show D ≠ w.heap.size + 1; omega)).trans d1
    rw [← hV8]
    have hnd := HI.out.nd
    have hlow := fun D hD => (HI.out.mark D hD).2
    clear hV8 l6 p6 f6
    gi_wp2_with fail
    refine marks_leave ms V8 hnd m8 fun w' a1 a2 a3 a4 a5 => ?_
    have k9 : Bk w' (w.heap.size + 1) 4 #[.bool true] := (a5 _ (fun h => by have := hlow _ h; omega)).trans k8
    have hc5 := k9.cell 0
    refine ⟨.bool true, ?_, rfl, ⟨a1.trans B8.os, a2.trans B8.tape, a3.trans B8.output, by rw [a4]; exact B8.size, fun i hi => (a5 i (fun h => by have := hlow i h; omega)).trans (B8.block i hi)⟩⟩
    simp [results, Tryz.results20, go_sem, hc5]
end Go.Proofs.YtcbnmoghjhljbaaGreat
end
section
namespace Go.Proofs.YtcbnmoghjhljbaaGreat
open Go.RowKit Go.Proofs.Mem
set_option linter.unusedVariables false
set_option linter.unusedSimpArgs false
def Two (B : Nat) (w : World) (p b p2 b2 : Nat) (most : Int) (evs evs2 : List Ev) (cl cl2 : List Ob) : Prop :=
  ∃ n D ev n2 D2 ev2, StIs w p b n D most evs.length ev evs ∧ StIs w p2 b2 n2 D2 most evs2.length ev2 evs2 ∧ SRel D (PG p b ev (PS p2 b2 ev2)) w cl ∧ SRel D2 (PG p2 b2 ev2 (PS p b ev)) w cl2 ∧ (∀ j, PS p b ev j → ¬ PS p2 b2 ev2 j) ∧
    (B ≤ b ∧ n ≤ evs.length ∧ cl.length ≤ evs.length ∧ ∀ x ∈ cl, errO x = 0) ∧ (B ≤ b2 ∧ n2 ≤ evs2.length ∧ cl2.length ≤ evs2.length ∧ ∀ x ∈ cl2, errO x = 0)
section
variable {B : Nat} {w w' : World} {p b p2 b2 : Nat} {most : Int} {evs evs2 : List Ev} {cl cl2 : List Ob}
theorem Two.swap (T : Two B w p b p2 b2 most evs evs2 cl cl2) : Two B w p2 b2 p b most evs2 evs cl2 cl := by
  obtain ⟨n, D, ev, n2, D2, ev2, st, st2, R, R2, hd, h, h2⟩ := T
  exact ⟨n2, D2, ev2, n, D, ev, st2, st, R2, R, fun j h h' => hd j h' h, h2, h⟩
theorem Two.left (T : Two B w p b p2 b2 most evs evs2 cl cl2) : S8 B w p b most evs cl := by
  obtain ⟨n, D, ev, n2, D2, ev2, st, st2, R, R2, hd, h, h2⟩ := T
  exact ⟨n, D, ev, st, R.less fun j h => .inl h, h⟩
theorem Two.right (T : Two B w p b p2 b2 most evs evs2 cl cl2) : S8 B w p2 b2 most evs2 cl2 := T.swap.left
theorem Two.below (T : Two B w p b p2 b2 most evs evs2 cl cl2) (hb : Below w.heap.size w w') : Two B w' p b p2 b2 most evs evs2 cl cl2 := by
  obtain ⟨n, D, ev, n2, D2, ev2, st, st2, R, R2, hd, h, h2⟩ := T
  exact ⟨n, D, ev, n2, D2, ev2, st.below hb, st2.below hb, R.tch (Tch.of_below hb) fun _ _ h => h, R2.tch (Tch.of_below hb) fun _ _ h => h, hd, h, h2⟩
theorem Two.turn (T : Two B w p b p2 b2 most evs evs2 cl cl2) : ∃ G, SG G B w p b most evs cl ∧ ∀ w' evs' cl', SG G B w' p b most evs' cl' → (∀ n₀ F, KeepU n₀ p b F w w') → Two B w' p b p2 b2 most evs' evs2 cl' cl2 := by
  obtain ⟨n, D, ev, n2, D2, ev2, st, st2, R, R2, hd, h, h2⟩ := T
  refine ⟨PS p2 b2 ev2, ⟨n, D, ev, st, R, fun j hj => ps_lt st2 hj, h⟩, fun w' evs' cl' M' hK => ?_⟩
  obtain ⟨n', D', ev', st', R', _, h'⟩ := M'
  have hT := (hK w.heap.size (fun _ => False)).tch (Nat.le_refl _) st.cells.2.2.2
  obtain ⟨ev9, c9, hE⟩ := (hK w.heap.size (fun _ => False)).inv st.cells.2.2.2
  have e9 : ev9 = ev' := by
    rw [st'.cells.2.2.2] at c9
    injection c9 with c9
    exact c9.symm
  subst e9
  have hto := ps_to (p := p) (b := b) hE
  have away : ∀ j, PS p2 b2 ev2 j → ¬ PS p b ev j := fun j h h' => hd j h' h
  exact ⟨n', D', ev9, n2, D2, ev2, st', ⟨st2.1, hT.bk st2.2.1 (away _ (.inl rfl)), st2.2.2.1.of_block (hT.2.2.2.2 b2 st2.2.2.1.lt (away _ (.inr (.inl rfl)))), hT.own st2.2.2.2 fun g hg => away _ (.inr (.inr hg))⟩, R',
    R2.tch (hT.mono fun i _ hi => .inr hi) (fun i hi h => h.elim .inl fun h => .inr (hto i hi h)), fun j h1 h3 => hd j (hto j (ps_lt st2 h3) h1) h3, h', h2⟩
theorem two_copy (M : S8 B w p b most evs cl) (hlen : evs.length ≤ 500) (hB : B ≤ w.heap.size) :
    Calls Tryz.prog 9 #[.pointer (some ⟨p, 0, none⟩)] w fun e w' => ∃ p2 b2, e = .returned (.pointer (some ⟨p2, 0, none⟩)) ∧ Two B w' p b p2 b2 most evs evs cl cl ∧ (b < p ∧ p < w.heap.size ∧ w.heap.size ≤ b2 ∧ b2 < p2) ∧ Below w.heap.size w w' := by
  obtain ⟨n, D, ev, st, R, hlow, hn, hcl, hgood⟩ := M
  refine (scopy_any w p b n D most _ ev evs st (by omega)).mono ?_
  rintro e w' ⟨p2, b2, ev2, rfl, st2, hb2, hBw⟩
  have hps : ∀ j, PS p b ev j → j < w.heap.size := fun j hj => ps_lt st hj
  have hps2 : ∀ j, PS p2 b2 ev2 j → w.heap.size ≤ j := fun j hj => ps_low st2 hb2 hj
  have safe : ∀ {y : Ob}, y.Safe (PS p b ev) w → y.Safe (fun j => PS p b ev j ∨ w.heap.size ≤ j) w' := fun h => safe_both (h.tch (Tch.of_below hBw) fun _ _ h => h) (safe_old h.ok hBw)
  refine ⟨p2, b2, rfl, ⟨n, D, ev, n, D, ev2, st.below hBw, st2, ?_, ?_, fun j h h' => ?_, ⟨hlow, hn, hcl, hgood⟩, ⟨by omega, hn, hcl, hgood⟩⟩, ⟨st.1.1, st.2.1.lt, hb2, st2.1.1⟩, hBw⟩
  · exact {
      size := R.size
      at1 := fun x hx => by
        obtain ⟨h1, y, h2, h3, h4⟩ := R.at1 x hx
        exact ⟨h1, y, h2, safe_less (safe h3) fun j hj => hj.elim .inl fun h => .inr (hps2 j h), h4⟩
      at0 := R.at0
      ok := R.ok
      uniq := R.uniq }
  · exact {
      size := R.size
      at1 := fun x hx => by
        obtain ⟨h1, y, h2, h3, h4⟩ := R.at1 x hx
        exact ⟨h1, y, h2, safe_less (safe h3) fun j hj => hj.elim (fun h => .inr (hps2 j h)) .inl, h4⟩
      at0 := R.at0
      ok := R.ok
      uniq := R.uniq }
  · have h1 := hps j h
    have h2 := hps2 j h'
    omega
theorem Mp.turned {k : TypeId} {m n : Nat} {D : DataW Value} (h : Mp Tryz.prog w k m n D) (M : S8 B w p b most evs cl) (hK : ∀ n₀ F, KeepU n₀ p b F w w') (hp : m ≠ p) (hb : m ≠ b) : Mp Tryz.prog w' k m n D := by
  obtain ⟨es, clock, hb9, hrest⟩ := id h
  exact h.of_block ((keep_ps M (hK w.heap.size (fun _ => False)) (Nat.le_refl _) hb9 hp hb (fun cur e => by cases e)).trans hb9.symm)
theorem Kpr.turned {kp km n : Nat} {D : DataW Value} (h : Kpr w kp km n D) (M : S8 B w p b most evs cl) (hK : ∀ n₀ F, KeepU n₀ p b F w w') (hp : km ≠ p ∧ kp ≠ p) (hb : km ≠ b ∧ kp ≠ b) : Kpr w' kp km n D :=
  ⟨keep_bk M (hK w.heap.size (fun _ => False)) (Nat.le_refl _) h.1 hp.2 hb.2 (by decide), Mp.turned h.2 M hK hp.1 hb.1⟩
theorem grown_tch {m : Nat} (ht : Tch (fun j => j = m) w w') : w.grownBy w' (some m) :=
  ⟨ht.1, ht.2.1, ht.2.2.1, ht.size, fun k hk hn => ht.2.2.2.2 k hk fun e => hn (by rw [e])⟩
theorem Mp.plain {k : TypeId} {m n : Nat} {D : DataW Value} (h : Mp Tryz.prog w k m n D) : ∀ r, some m = some r → ∃ o : Obj, w.heap[r]? = some o ∧ o.isCells = false := fun r e => by
  injection e with e
  subst e
  obtain ⟨es, clock, hb9, _⟩ := h
  exact ⟨_, hb9, rfl⟩
theorem SRel.kept {F : Nat → Prop} {D : DataW Value} {row : Option Nat} (R : SRel D F w cl) (hg : w.grownBy w' row) (hr : ∀ r, row = some r → ∃ o : Obj, w.heap[r]? = some o ∧ o.isCells = false) : SRel D F w' cl where
  size := R.size
  at1 := fun x hx => by
    obtain ⟨h1, y, h2, h3, h4⟩ := R.at1 x hx
    exact ⟨h1, y, h2, ⟨ok_kept h3.1 hg hr, h3.2⟩, h4⟩
  at0 := R.at0
  ok := R.ok
  uniq := R.uniq
theorem Two.kept {row : Option Nat} (T : Two B w p b p2 b2 most evs evs2 cl cl2) (hg : w.grownBy w' row) (hr : ∀ r, row = some r → ∃ o : Obj, w.heap[r]? = some o ∧ o.isCells = false) (hb : some b ≠ row) (hb2 : some b2 ≠ row) : Two B w' p b p2 b2 most evs evs2 cl cl2 := by
  obtain ⟨n, D, ev, n2, D2, ev2, st, st2, R, R2, hd, h, h2⟩ := T
  exact ⟨n, D, ev, n2, D2, ev2, ⟨st.1, bk_kept st.2.1 hg hr, st.2.2.1.grown hg hb, own_kept st.2.2.2 hg hr⟩, ⟨st2.1, bk_kept st2.2.1 hg hr, st2.2.2.1.grown hg hb2, own_kept st2.2.2.2 hg hr⟩, R.kept hg hr, R2.kept hg hr, hd, h, h2⟩
theorem Kpr.kept {kp km n : Nat} {D : DataW Value} {row : Option Nat} (h : Kpr w kp km n D) (hg : w.grownBy w' row) (hr : ∀ r, row = some r → ∃ o : Obj, w.heap[r]? = some o ∧ o.isCells = false) (hm : some km ≠ row) : Kpr w' kp km n D :=
  ⟨bk_kept h.1 hg hr, Mp.grown h.2 hg hm⟩
theorem bud_put {D : DataW Value} (hD : BudOk D) (hM : Maps.IsMap D) (s : List UInt8) {k v : Nat} {pc : Bool} (h : okB k v pc = true) : BudOk (D.put (.string s) (.held (.agg #[.int .i64 k, .int .i64 v, .bool pc]))) := fun r => by
  by_cases e : r = s
  · subst e
    exact ⟨k, v, pc, valAt_put_same hM (keyLit_string _) _ _, h⟩
  · rw [valAt_put_other (by intro h; injection h with h; exact e h)]
    exact hD r
theorem bud_nil : BudOk (.map []) := fun r => ⟨0, 0, false, rfl, by decide⟩
end
end Go.Proofs.YtcbnmoghjhljbaaGreat
end
section
namespace Go.Proofs.YtcbnmoghjhljbaaGreat
open Go.RowKit Go.Proofs.Mem
set_option linter.unusedVariables false
set_option linter.unusedSimpArgs false
structure KA where
  kind : Int
  name : List UInt8
  k : Int
  v : Int
  pc : Bool
def KA.cells (a : KA) : List Value := [.int .i64 a.kind, .string ⟨a.name.toArray⟩, .int .i64 a.k, .int .i64 a.v, .bool a.pc]
theorem del_absent {D : DataW Value} {k : Lit} (h : Maps.has D k = false) : D.del k = D := by
  cases D <;> first | rfl | (simp [DataW.del, Maps.has] at h ⊢; exact h)
theorem bud_del {D : DataW Value} (hD : BudOk D) (s : List UInt8) : BudOk (D.del (.string s)) := fun r => by
  by_cases e : r = s
  · subst e
    exact ⟨0, 0, false, valAt_del_same _, by decide⟩
  · rw [valAt_del_other (by intro h; injection h with h; exact e h)]
    exact hD r
def evStep (cl : List Ob) (n : Nat) (name : ByteArray) (now : Int) : Int × List Ev × List Ob :=
  match findN 1 name cl with
  | none => (7, [], cl)
  | some i => match cl[i]? with
    | none => (7, [], cl)
    | some o => if decide (o.p.phase = 1) || decide (o.p.phase = 2) then (0, [⟨1, 1, name, n + 1⟩], cl.set i (mkV (evOb now o) (n + 1))) else (12, [], cl)
theorem evStep_len (cl : List Ob) (n : Nat) (name : ByteArray) (now : Int) : (evStep cl n name now).2.1.length ≤ 1 := by
  unfold evStep
  split
  · simp
  · split
    · simp
    · split <;> simp
theorem EvG.step {G : Nat → Prop} {B : Nat} {w w' : World} {p b : Nat} {most : Int} {evs : List Ev} {cl : List Ob} {name : ByteArray} {now : Int} {e : Ending} (M : SG G B w p b most evs cl) (hB : B ≤ w.heap.size) (h : EvG G B w p b most evs cl name now e w') :
    e = .returned (.int .i64 (evStep cl evs.length name now).1) ∧ SG G B w' p b most (evs ++ (evStep cl evs.length name now).2.1) (evStep cl evs.length name now).2.2 ∧ Below B w w' ∧ ∀ n₀ F, KeepU n₀ p b F w w' := by
  rcases h with ⟨h1, h2, h3⟩ | ⟨i, hi, h1, h2, h3, h4⟩ | ⟨i, hi, h1, h2, h3, h4, h5, h6⟩
  · have e1 : evStep cl evs.length name now = (7, [], cl) := by unfold evStep; rw [h1]
    rw [e1, List.append_nil]
    exact ⟨h2, M.below h3, h3.mono hB, fun n₀ F => KeepU.of_below h3⟩
  · have e1 : evStep cl evs.length name now = (12, [], cl) := by
      unfold evStep
      simp only [h1, List.getElem?_eq_getElem hi, h2]
      rfl
    rw [e1, List.append_nil]
    exact ⟨h3, M.below h4, h4.mono hB, fun n₀ F => KeepU.of_below h4⟩
  · have e1 : evStep cl evs.length name now = (0, [⟨1, 1, name, evs.length + 1⟩], cl.set i (mkV (evOb now cl[i]) (evs.length + 1))) := by
      unfold evStep
      simp only [h1, List.getElem?_eq_getElem hi, h2]
      rfl
    rw [e1]
    exact ⟨h3, h4, h5, h6⟩
def KpI (B : Nat) (w : World) (p b p2 b2 kp km mm j ne : Nat) (W : World) : Prop :=
  ∃ n D evs evs2 cl, Two B W p b p2 b2 200 evs evs2 cl cl ∧ evs2.length = evs.length ∧ evs.length ≤ ne + j ∧ Kpr W kp km n D ∧ Mp Tryz.prog W 9 mm n D ∧ BudOk D ∧ n ≤ j ∧ Below w.heap.size w W
end Go.Proofs.YtcbnmoghjhljbaaGreat
end
section
namespace Go.Proofs.YtcbnmoghjhljbaaGreat
open Go.RowKit Go.Proofs.Mem
open Go.Maps (Keyed string_keyed)
open Go.WideMaps (keyOf_string_mk)
set_option linter.unusedVariables false
set_option linter.unusedSimpArgs false
set_option maxHeartbeats 16000000 in
set_option maxRecDepth 100000 in
theorem budgetKeeps_any (w : World) (A : Option Addr) (c : Nat) (l : List Ob) (hA : Sl w 47 (.slice A l.length c) l.length (l.flatMap Ob.cells)) (hok : ∀ x ∈ l, x.Ok w) (hlen : l.length ≤ maxLen)
    (AA : Option Addr) (ac : Nat) (acts : List KA) (hAc : Sl w 5 (.slice AA acts.length ac) acts.length (acts.flatMap KA.cells)) (now : Int) :
    Calls Tryz.prog 4 #[.slice A l.length c, .slice AA acts.length ac, .int .i64 now] w fun e w' => e = .returned (.bool true) ∧ Below w.heap.size w w' := by
  have HL := Lib.hid (And.intro hA (And.intro hok (And.intro hlen hAc)))
  have hmm := @run_makeMap Tryz.prog
  clear hA hok hlen hAc
  go_enter Tryz.func4, Tryz.ntmps4
  go_wp2_with fail
  refine (stocked_any w A c l HL.out.1 HL.out.2.1 HL.out.2.2.1).mono ?_
  rintro e W1 ⟨hS, b1⟩
  have H1 := Lib.hid b1
  clear b1
  rcases hS with rfl | ⟨p, b, evs, cl, rfl, hM, hev⟩
  · clear hmm
    go_wp2_with fail
    refine (lives32_any W1).mono ?_
    rintro e W2 ⟨rfl, b2⟩
    have H2 := Lib.hid (below_tr H1.out b2)
    clear b2
    go_wp2_with fail
    refine (lives32_any W2).mono ?_
    rintro e W3 ⟨rfl, b3⟩
    have H3 := Lib.hid (below_tr H2.out b3)
    clear b3
    go_wp2_with fail
    go_ret
    exact ⟨rfl, H3.out⟩
  · have HM := Lib.hid (And.intro hM hev)
    clear hM hev
    go_wp2_with fail
    refine (lives32_any W1).mono ?_
    rintro e W2 ⟨rfl, b2⟩
    have H2 := Lib.hid (And.intro (below_tr H1.out b2) (HM.out.1.below b2))
    have HW12 := Lib.hid b2.size
    clear b2
    by_cases hlong : 40 < acts.length
    · have hl1 : (40 : Int) < acts.length := by omega
      clear hmm
      go_wp2_with fail
      refine (lives32_any W2).mono ?_
      rintro e W3 ⟨rfl, b3⟩
      have H3 := Lib.hid (below_tr H2.out.1 b3)
      clear b3
      go_wp2_with fail
      go_ret
      exact ⟨rfl, H3.out⟩
    · have hl1 : ¬ (40 : Int) < acts.length := by omega
      go_wp2_with fail
      refine (knew_any W2).mono ?_
      rintro e W3 ⟨kp, km, rfl, hK3, hkm1, hkm2, b3⟩
      have H3 := Lib.hid (And.intro hK3 (And.intro hkm1 (And.intro hkm2 (And.intro (below_tr H2.out.1 b3) (H2.out.2.below b3)))))
      clear hK3 hkm1 hkm2 b3
      go_wp2_with fail
      clear hmm
      obtain ⟨W4, hW4⟩ : ∃ W4, W4 = W3.alloc (.map #[] 0) := ⟨_, rfl⟩
      obtain ⟨mm, hmm⟩ : ∃ m, m = W3.heap.size := ⟨_, rfl⟩
      have m1 : Mp Tryz.prog W4 9 mm 0 (.map []) := by rw [hW4, hmm]; exact Mp.made W3 Tryz.prog 9
      have B4 : Below W3.heap.size W3 W4 := by rw [hW4]; exact below_al _ _
      have z4 : W4.heap.size = mm + 1 := by rw [hW4, hmm]; simp
      rw [← hW4, ← hmm]
      have hz3 : kp < mm := by rw [hmm]; exact H3.out.1.1.lt
      have H4 := Lib.hid (And.intro (H3.out.1.below B4) (And.intro m1 (And.intro (below_tr H3.out.2.2.2.1 B4) (And.intro (H3.out.2.2.2.2.below B4) (And.intro hz3 z4)))))
      clear hW4 hmm m1 B4 z4 hz3
      refine (two_copy H4.out.2.2.2.1 (by have := HM.out.2; omega) H4.out.2.2.1.size).mono ?_
      rintro e W5 ⟨p2, b2, rfl, hT5, hnn, b5⟩
      have hnum : b < p ∧ p < km ∧ km < kp ∧ kp < mm ∧ mm < b2 ∧ b2 < p2 ∧ w.heap.size ≤ b ∧ p2 < W5.heap.size := by
        obtain ⟨_, _, _, st, _, hlow, _⟩ := HM.out.1
        obtain ⟨_, _, _, _, _, _, _, st2, _⟩ := id hT5
        have h1 := st.2.1.lt
        have h2 := H2.out.2
        have h3 := H3.out.2.1
        have h4 := H3.out.2.2.1
        have h5 := H4.out.2.2.2.2
        have h6 := HW12.out
        have h7 := st2.2.1.lt
        have h8 := H4.out.2.2.2.2.2
        omega
      have HN := Lib.hid hnum
      have h0 : Hid (KpI w.heap.size w p b p2 b2 kp km mm 0 evs.length W5) := ⟨0, .map [], evs, evs, cl, hT5, rfl, by omega, H4.out.1.below b5, Mp.below H4.out.2.1 b5, bud_nil, Nat.le_refl _, below_tr H4.out.2.2.1 b5⟩
      have hev60 := HM.out.2
      have HEV := Lib.hid hev60
      clear hT5 hnn b5 hnum hev60
      go_wp2_with fail
      go_loopw [44] (fun vi W => ∃ j : Nat, j ≤ acts.length ∧ vi = .int .i64 j ∧ Hid (KpI w.heap.size w p b p2 b2 kp km mm j evs.length W)) (fun vi _ => acts.length - (intOf vi).toNat)
      case atStart => exact ⟨0, Nat.zero_le _, rfl, h0⟩
      case round =>
        clear h0
        obtain ⟨j, hj, rfl, hJ⟩ := hrel
        obtain ⟨n, D, ev1, ev2, cl1, hT, he, hel, hK, hMm, hD, hn, hBw⟩ := hJ.out
        clear hJ
        by_cases hlt : j < acts.length
        · obtain ⟨bg, og, rfl, hbg, hadd, hcell⟩ := Sl.row' (s := 5) (f := KA.cells) (fun _ => rfl) (by omega) (HL.out.2.2.2.below hBw) j hlt
          obtain ⟨⟨kind, nm, k, v, pc⟩, ha⟩ : ∃ a, a = acts[j] := ⟨_, rfl⟩
          rw [← ha] at hcell
          have r0 : wr.cell? ⟨bg, og + j * 5, none⟩ = some (.int .i64 kind) := hcell 0 _ rfl
          have r1 : wr.cell? ⟨bg, og + j * 5 + 1, none⟩ = some (.string ⟨nm.toArray⟩) := hcell 1 _ rfl
          have r2 : wr.cell? ⟨bg, og + j * 5 + 2, none⟩ = some (.int .i64 k) := hcell 2 _ rfl
          have r3 : wr.cell? ⟨bg, og + j * 5 + 3, none⟩ = some (.int .i64 v) := hcell 3 _ rfl
          have r4 : wr.cell? ⟨bg, og + j * 5 + 4, none⟩ = some (.bool pc) := hcell 4 _ rfl
          have k9 := Bk.new wr 68 #[.int .i64 kind, .string ⟨nm.toArray⟩, .int .i64 k, .int .i64 v, .bool pc]
          have b9 := below_al wr (.cells #[.int .i64 kind, .string ⟨nm.toArray⟩, .int .i64 k, .int .i64 v, .bool pc] 68)
          have y0 := k9.cell 0
          have y1 := k9.cell 1
          have y2 := k9.cell 2
          have y3 := k9.cell 3
          have y4 := k9.cell 4
          obtain ⟨W9, hW9⟩ : ∃ W9, W9 = wr.alloc (.cells #[.int .i64 kind, .string ⟨nm.toArray⟩, .int .i64 k, .int .i64 v, .bool pc] 68) := ⟨_, rfl⟩
          rw [← hW9] at k9 b9
          obtain ⟨r, hr⟩ : ∃ r, r = wr.heap.size := ⟨_, rfl⟩
          have hnum2 : p2 < r := by
            rw [hr]
            obtain ⟨_, _, _, _, _, _, _, st2, _⟩ := id hT
            exact st2.2.1.lt
          have HX := Lib.hid hW9.symm
          have H9 := Lib.hid (And.intro (hT.below b9) (And.intro (hK.below b9) (And.intro (Mp.below hMm b9) (And.intro k9 (And.intro (below_tr hBw b9) (And.intro hnum2 hr))))))
          have HJ := Lib.hid (And.intro he (And.intro hel (And.intro hD hn)))
          have x0 := k9.cell 0
          have x1 := k9.cell 1
          have x2 := k9.cell 2
          have x3 := k9.cell 3
          have x4 := k9.cell 4
          clear hT he hel hK hMm hD hn hBw hcell ha k9 hW9 b9 hr hnum2
          by_cases h60 : 60 < nm.length
          · have h61 : (60 : Int) < nm.length := by omega
            have HE := Lib.hid H9.out.2.2.2.2.1
            go_wp2_with fail
            go_ret
            rw [HX.out]
            exact ⟨rfl, HE.out⟩
          · have h61 : ¬ (60 : Int) < nm.length := by omega
            have hnl : nm.length ≤ 60 := by omega
            have hwf : wfs ⟨nm.toArray⟩ := Nat.le_trans hnl (by decide)
            have hml : nm.length ≤ maxLen := Nat.le_trans hnl (by decide)
            have hkn : KeyOk (1, (⟨nm.toArray⟩ : ByteArray)) := ⟨rfl, hml⟩
            have hkey := keyOf_string_mk Tryz.underlying9 (s := ⟨nm.toArray⟩) hml
            have HNM := Lib.hid (And.intro hwf (And.intro hml (And.intro hkn hkey)))
            clear h60 hnl hwf hml hkn hkey
            by_cases hk0 : kind = 0
            · subst hk0
              go_wp2_with fail
              rw [HX.out]
              clear y0 y1 y2 y3 y4
              refine (name_any ⟨nm.toArray⟩ W9 HNM.out.1).mono ?_
              rintro e w' ⟨rfl, hw9⟩
              subst hw9
              have CK := Lib.hid (fun (W : World) (n' : Nat) (D' : DataW Value) (K : Kpr W kp km n' D') (hn' : n' < maxLen) => kset_any K hn' (by have := HN.out; omega) nm HNM.out.2.1 k v pc)
              cases hnm : nmB ⟨nm.toArray⟩ with
              | false =>
                have HNB := Lib.hid hnm
                clear hnm
                have CS0 := Lib.hid (CK.out _ n D H9.out.2.1 (by have := HJ.out.2.2.2; unfold maxLen; omega))
                go_wp2_with fail
                refine CS0.out.mono ?_
                rintro e W10 hS
                rcases hS with ⟨_, rfl, b10⟩ | ⟨h1, _⟩ | ⟨h1, _⟩
                · clear CS0 CK x0 x1 x2 x3 x4 r0 r1 r2 r3 r4
                  have HT : Hid (KpI w.heap.size w p b p2 b2 kp km mm (j + 1) evs.length W10) := Lib.hid ⟨n, D, ev1, ev2, cl1, H9.out.1.below b10, HJ.out.1, by have := HJ.out.2.1; omega, H9.out.2.1.below b10, Mp.below H9.out.2.2.1 b10, HJ.out.2.2.1, by have := HJ.out.2.2.2; omega, below_tr H9.out.2.2.2.2.1 b10⟩
                  clear b10
                  obtain ⟨n', D', e1', e2', c', T', he', hel', K', M', hD', hn', hB'⟩ := HT.out
                  have CL := Lib.hid (klen_any K')
                  have CS := Lib.hid (same16_any T'.left T'.right he' (by have h1 := HEV.out; omega))
                  have HI := Lib.hid (fun (W0' : World) (hb : Below W10.heap.size W10 W0') => (show KpI w.heap.size w p b p2 b2 kp km mm (j + 1) evs.length W0' from ⟨n', D', e1', e2', c', T'.below hb, he', hel', K'.below hb, Mp.below M' hb, hD', hn', below_tr hB' hb⟩))
                  clear T' he' hel' K' hD' hn' hB' HT
                  go_wp2_with fail
                  refine CL.out.mono ?_
                  rintro e w' ⟨rfl, hww⟩
                  subst hww
                  go_wp2_with (at_len; refine wpl_len_map rfl _ 66 rfl 9 24 Tryz.underlying66 mm n' D' rfl M' ?_)
                  refine CS.out.mono ?_
                  rintro e W99 ⟨rfl, b99⟩
                  have HI2 := Lib.hid (HI.out _ b99)
                  clear b99 M' CL CS HI
                  go_wp2_with fail
                  exact ⟨⟨j + 1, by omega, by go_num, HI2⟩, by simp [intOf]; omega⟩
                · rw [HNB.out] at h1; cases h1
                · rw [HNB.out] at h1; cases h1
              | true =>
                have HNB := Lib.hid hnm
                clear hnm
                cases hb : okB k v pc with
                | false =>
                  have HB := Lib.hid hb
                  clear hb
                  go_wp2_with fail
                  refine (bright_f k v pc W9 HB.out).mono ?_
                  rintro e W10 ⟨rfl, b10⟩
                  have k10 := H9.out.2.2.2.1.below' b10
                  clear x1 x2 x3 x4
                  have x1 := k10.cell 1
                  have x2 := k10.cell 2
                  have x3 := k10.cell 3
                  have x4 := k10.cell 4
                  have CS0 := Lib.hid (CK.out _ n D (H9.out.2.1.below b10) (by have := HJ.out.2.2.2; unfold maxLen; omega))
                  clear k10
                  go_wp2_with fail
                  refine CS0.out.mono ?_
                  rintro e W11 hS
                  rcases hS with ⟨h1, _⟩ | ⟨_, _, rfl, b11⟩ | ⟨_, h1, _⟩
                  · rw [HNB.out] at h1; cases h1
                  · have b911 := below_tr b10 b11
                    clear CS0 CK x0 x1 x2 x3 x4 r0 r1 r2 r3 r4
                    have HT : Hid (KpI w.heap.size w p b p2 b2 kp km mm (j + 1) evs.length W11) := Lib.hid ⟨n, D, ev1, ev2, cl1, H9.out.1.below b911, HJ.out.1, by have := HJ.out.2.1; omega, H9.out.2.1.below b911, Mp.below H9.out.2.2.1 b911, HJ.out.2.2.1, by have := HJ.out.2.2.2; omega, below_tr H9.out.2.2.2.2.1 b911⟩
                    clear b911 b10 b11
                    obtain ⟨n', D', e1', e2', c', T', he', hel', K', M', hD', hn', hB'⟩ := HT.out
                    have CL := Lib.hid (klen_any K')
                    have CS := Lib.hid (same16_any T'.left T'.right he' (by have h1 := HEV.out; omega))
                    have HI := Lib.hid (fun (W0' : World) (hb : Below W11.heap.size W11 W0') => (show KpI w.heap.size w p b p2 b2 kp km mm (j + 1) evs.length W0' from ⟨n', D', e1', e2', c', T'.below hb, he', hel', K'.below hb, Mp.below M' hb, hD', hn', below_tr hB' hb⟩))
                    clear T' he' hel' K' hD' hn' hB' HT
                    go_wp2_with fail
                    refine CL.out.mono ?_
                    rintro e w' ⟨rfl, hww⟩
                    subst hww
                    go_wp2_with (at_len; refine wpl_len_map rfl _ 66 rfl 9 24 Tryz.underlying66 mm n' D' rfl M' ?_)
                    refine CS.out.mono ?_
                    rintro e W99 ⟨rfl, b99⟩
                    have HI2 := Lib.hid (HI.out _ b99)
                    clear b99 M' CL CS HI
                    go_wp2_with fail
                    exact ⟨⟨j + 1, by omega, by go_num, HI2⟩, by simp [intOf]; omega⟩
                  · rw [HB.out] at h1; cases h1
                | true =>
                  have HB := Lib.hid hb
                  obtain ⟨q1, _, q3, _, _⟩ := okB_t hb
                  obtain ⟨k, rfl⟩ := Int.eq_ofNat_of_zero_le q1
                  obtain ⟨v, rfl⟩ := Int.eq_ofNat_of_zero_le q3
                  clear hb q1 q3
                  go_wp2_with fail
                  refine (bright_t k v pc W9 HB.out).mono ?_
                  rintro e W10 ⟨rfl, b10⟩
                  have k10 := H9.out.2.2.2.1.below' b10
                  clear x1 x2 x3 x4
                  have x1 := k10.cell 1
                  have x2 := k10.cell 2
                  have x3 := k10.cell 3
                  have x4 := k10.cell 4
                  have hM10 := Mp.below H9.out.2.2.1 b10
                  have hkey := HNM.out.2.2.2
                  have hnm9 : n < maxLen := by have := HJ.out.2.2.2; unfold maxLen; omega
                  have H10 := Lib.hid (And.intro k10 (And.intro (H9.out.1.below b10) (And.intro (H9.out.2.1.below b10) (below_tr H9.out.2.2.2.2.1 b10))))
                  clear k10 b10
                  go_wp2_with (at_mapUpdate; refine wpl_store_map rfl _ _ _ 66 rfl 9 24 strKb Tryz.underlying66 mm n D rfl hM10 hnm9 _ (.agg #[.int .i64 k, .int .i64 v, .bool pc]) _ rfl rfl hkey ?_; intro w11 hM11 hg11 hs11n; have hs11 := Lib.hid hs11n; clear hs11n; have kk := bk_kept H10.out.1 hg11 (Mp.plain hM10); clear x1 x2 x3 x4; have x1 := kk.cell 1; have x2 := kk.cell 2; have x3 := kk.cell 3; have x4 := kk.cell 4)
                  have hne : ∀ x, x ≠ mm → some x ≠ some mm := fun x h e => h (by injection e)
                  have hT11 := H10.out.2.1.kept hg11 (Mp.plain hM10) (hne _ (by have := HN.out; omega)) (hne _ (by have := HN.out; omega))
                  have hK11 := H10.out.2.2.1.kept hg11 (Mp.plain hM10) (hne _ (by have := HN.out; omega))
                  have hB11 : Below w.heap.size w w11 := H10.out.2.2.2.grown hg11 H10.out.2.2.2.size (fun x e => by injection e; have := HN.out; omega)
                  refine (CK.out _ n D hK11 hnm9).mono ?_
                  rintro e W12 hS
                  rcases hS with ⟨h1, _⟩ | ⟨_, h1, _⟩ | ⟨_, _, rfl, hK12, ht12⟩
                  · rw [HNB.out] at h1; cases h1
                  · rw [HB.out] at h1; cases h1
                  · have hg12 := grown_tch ht12
                    have hne2 : ∀ x, x ≠ km → some x ≠ some km := fun x h e => h (by injection e)
                    have hT12 := hT11.kept hg12 (Mp.plain hK11.2) (hne2 _ (by have := HN.out; omega)) (hne2 _ (by have := HN.out; omega))
                    have hM12 := Mp.grown hM11 hg12 (hne2 _ (by have := HN.out; omega))
                    have hB12 : Below w.heap.size w W12 := hB11.grown hg12 hB11.size (fun x e => by injection e; have := HN.out; omega)
                    have HT : Hid (KpI w.heap.size w p b p2 b2 kp km mm (j + 1) evs.length W12) := Lib.hid ⟨n + 1, _, ev1, ev2, cl1, hT12, HJ.out.1, by have := HJ.out.2.1; omega, hK12, hM12, bud_put HJ.out.2.2.1 hM10.isMap nm HB.out, by have := HJ.out.2.2.2; omega, hB12⟩
                    clear hM10 hkey hnm9 hM11 hg11 kk hne hT11 hK11 hB11 hK12 ht12 hg12 hne2 hT12 hM12 hB12 x0 x1 x2 x3 x4 r0 r1 r2 r3 r4 CK
                    obtain ⟨n', D', e1', e2', c', T', he', hel', K', M', hD', hn', hB'⟩ := HT.out
                    have CL := Lib.hid (klen_any K')
                    have CS := Lib.hid (same16_any T'.left T'.right he' (by have h1 := HEV.out; omega))
                    have HI := Lib.hid (fun (W0' : World) (hb : Below W12.heap.size W12 W0') => (show KpI w.heap.size w p b p2 b2 kp km mm (j + 1) evs.length W0' from ⟨n', D', e1', e2', c', T'.below hb, he', hel', K'.below hb, Mp.below M' hb, hD', hn', below_tr hB' hb⟩))
                    clear T' he' hel' K' hD' hn' hB' HT
                    go_wp2_with fail
                    refine CL.out.mono ?_
                    rintro e w' ⟨rfl, hww⟩
                    subst hww
                    go_wp2_with (at_len; refine wpl_len_map rfl _ 66 rfl 9 24 Tryz.underlying66 mm n' D' rfl M' ?_)
                    refine CS.out.mono ?_
                    rintro e W99 ⟨rfl, b99⟩
                    have HI2 := Lib.hid (HI.out _ b99)
                    clear b99 M' CL CS HI
                    go_wp2_with fail
                    exact ⟨⟨j + 1, by omega, by go_num, HI2⟩, by simp [intOf]; omega⟩
            · have hk0' : (kind == 0) = false := by simpa using hk0
              by_cases hk1 : kind = 1
              · subst hk1
                obtain ⟨k', v', pc', hval, _⟩ := HJ.out.2.2.1 nm
                have hkey := HNM.out.2.2.2
                have hMx := H9.out.2.2.1
                have hM2 := Mp.alloc H9.out.2.2.1 (.cells #[.int .i64 k', .int .i64 v', .bool pc'] 24)
                have k2 := H9.out.2.2.2.1.alloc (.cells #[.int .i64 k', .int .i64 v', .bool pc'] 24)
                have z1 := k2.cell 1
                have T2 := H9.out.1.below (below_al W9 (.cells #[.int .i64 k', .int .i64 v', .bool pc'] 24))
                have K2 := H9.out.2.1.below (below_al W9 (.cells #[.int .i64 k', .int .i64 v', .bool pc'] 24))
                have B2' := below_tr H9.out.2.2.2.2.1 (below_al W9 (.cells #[.int .i64 k', .int .i64 v', .bool pc'] 24))
                rw [← HX.out] at hMx hM2 k2 z1 T2 K2 B2'
                have H10 := Lib.hid (And.intro k2 (And.intro T2 (And.intro K2 B2')))
                clear k2 T2 K2 B2' x0 x1 x2 x3 x4
                cases hh : Maps.has D (.string nm) with
                | false =>
                  have HH := Lib.hid hh
                  go_wp2_with (first | (at_lookup; refine wpl_look_ok rfl _ _ 66 rfl 9 24 strKb Tryz.underlying66 zeroBud mm n D rfl hMx _ _ rfl hkey ?_; rw [hval, hh]) | (at_delete; refine wpl_delete_map rfl _ _ 66 9 rfl 24 strKb Tryz.underlying66 mm n D rfl hM2 _ _ rfl hkey ?_; intro w3 hm3 hg3 hs3n; have hs3 := Lib.hid hs3n; clear hs3n; have kk := bk_kept H10.out.1 hg3 (Mp.plain hM2); have q1 := kk.cell 1))
                  have hne : ∀ x, x ≠ mm → some x ≠ some mm := fun x h e => h (by injection e)
                  have hT3 := H10.out.2.1.kept hg3 (Mp.plain hM2) (hne _ (by have := HN.out; omega)) (hne _ (by have := HN.out; omega))
                  have hK3 := H10.out.2.2.1.kept hg3 (Mp.plain hM2) (hne _ (by have := HN.out; omega))
                  have hB3 : Below w.heap.size w w3 := H10.out.2.2.2.grown hg3 H10.out.2.2.2.size (fun x e => by injection e; have := HN.out; omega)
                  refine (kremove_any hK3 (by have := HN.out; omega) HJ.out.2.2.1 nm HNM.out.2.1).mono ?_
                  rintro e W12 hS
                  rcases hS with ⟨_, rfl, b12⟩ | ⟨h1, _⟩
                  · rw [del_absent HH.out] at hm3
                    have HT : Hid (KpI w.heap.size w p b p2 b2 kp km mm (j + 1) evs.length W12) := Lib.hid ⟨n, D, ev1, ev2, cl1, hT3.below b12, HJ.out.1, by have := HJ.out.2.1; omega, hK3.below b12, Mp.below hm3 b12, HJ.out.2.2.1, by have := HJ.out.2.2.2; omega, below_tr hB3 b12⟩
                    clear hM2 hMx hkey hval hm3 hg3 kk q1 hne hT3 hK3 hB3 b12 z1 y0 y1 y2 y3 y4 r0 r1 r2 r3 r4 hh
                    obtain ⟨n', D', e1', e2', c', T', he', hel', K', M', hD', hn', hB'⟩ := HT.out
                    have CL := Lib.hid (klen_any K')
                    have CS := Lib.hid (same16_any T'.left T'.right he' (by have h1 := HEV.out; omega))
                    have HI := Lib.hid (fun (W0' : World) (hb : Below W12.heap.size W12 W0') => (show KpI w.heap.size w p b p2 b2 kp km mm (j + 1) evs.length W0' from ⟨n', D', e1', e2', c', T'.below hb, he', hel', K'.below hb, Mp.below M' hb, hD', hn', below_tr hB' hb⟩))
                    clear T' he' hel' K' hD' hn' hB' HT
                    go_wp2_with fail
                    refine CL.out.mono ?_
                    rintro e w' ⟨rfl, hww⟩
                    subst hww
                    go_wp2_with (at_len; refine wpl_len_map rfl _ 66 rfl 9 24 Tryz.underlying66 mm n' D' rfl M' ?_)
                    refine CS.out.mono ?_
                    rintro e W99 ⟨rfl, b99⟩
                    have HI2 := Lib.hid (HI.out _ b99)
                    clear b99 M' CL CS HI
                    go_wp2_with fail
                    exact ⟨⟨j + 1, by omega, by go_num, HI2⟩, by simp [intOf]; omega⟩
                  · rw [HH.out] at h1; cases h1
                | true =>
                  have HH := Lib.hid hh
                  go_wp2_with (first | (at_lookup; refine wpl_look_ok rfl _ _ 66 rfl 9 24 strKb Tryz.underlying66 zeroBud mm n D rfl hMx _ _ rfl hkey ?_; rw [hval, hh]) | (at_delete; refine wpl_delete_map rfl _ _ 66 9 rfl 24 strKb Tryz.underlying66 mm n D rfl hM2 _ _ rfl hkey ?_; intro w3 hm3 hg3 hs3n; have hs3 := Lib.hid hs3n; clear hs3n; have kk := bk_kept H10.out.1 hg3 (Mp.plain hM2); have q1 := kk.cell 1))
                  have hne : ∀ x, x ≠ mm → some x ≠ some mm := fun x h e => h (by injection e)
                  have hT3 := H10.out.2.1.kept hg3 (Mp.plain hM2) (hne _ (by have := HN.out; omega)) (hne _ (by have := HN.out; omega))
                  have hK3 := H10.out.2.2.1.kept hg3 (Mp.plain hM2) (hne _ (by have := HN.out; omega))
                  have hB3 : Below w.heap.size w w3 := H10.out.2.2.2.grown hg3 H10.out.2.2.2.size (fun x e => by injection e; have := HN.out; omega)
                  refine (kremove_any hK3 (by have := HN.out; omega) HJ.out.2.2.1 nm HNM.out.2.1).mono ?_
                  rintro e W12 hS
                  rcases hS with ⟨h1, _⟩ | ⟨_, rfl, hK12, ht12⟩
                  · rw [HH.out] at h1; cases h1
                  · have hg12 := grown_tch ht12
                    have hne2 : ∀ x, x ≠ km → some x ≠ some km := fun x h e => h (by injection e)
                    have hT12 := hT3.kept hg12 (Mp.plain hK3.2) (hne2 _ (by have := HN.out; omega)) (hne2 _ (by have := HN.out; omega))
                    have hM12 := Mp.grown hm3 hg12 (hne2 _ (by have := HN.out; omega))
                    have hB12 : Below w.heap.size w W12 := hB3.grown hg12 hB3.size (fun x e => by injection e; have := HN.out; omega)
                    have HT : Hid (KpI w.heap.size w p b p2 b2 kp km mm (j + 1) evs.length W12) := Lib.hid ⟨n, _, ev1, ev2, cl1, hT12, HJ.out.1, by have := HJ.out.2.1; omega, hK12, hM12, bud_del HJ.out.2.2.1 nm, by have := HJ.out.2.2.2; omega, hB12⟩
                    clear hM2 hMx hkey hval hm3 hg3 kk q1 hne hT3 hK3 hB3 z1 y0 y1 y2 y3 y4 r0 r1 r2 r3 r4 hh hg12 hne2 hT12 hM12 hB12 hK12 ht12
                    obtain ⟨n', D', e1', e2', c', T', he', hel', K', M', hD', hn', hB'⟩ := HT.out
                    have CL := Lib.hid (klen_any K')
                    have CS := Lib.hid (same16_any T'.left T'.right he' (by have h1 := HEV.out; omega))
                    have HI := Lib.hid (fun (W0' : World) (hb : Below W12.heap.size W12 W0') => (show KpI w.heap.size w p b p2 b2 kp km mm (j + 1) evs.length W0' from ⟨n', D', e1', e2', c', T'.below hb, he', hel', K'.below hb, Mp.below M' hb, hD', hn', below_tr hB' hb⟩))
                    clear T' he' hel' K' hD' hn' hB' HT
                    go_wp2_with fail
                    refine CL.out.mono ?_
                    rintro e w' ⟨rfl, hww⟩
                    subst hww
                    go_wp2_with (at_len; refine wpl_len_map rfl _ 66 rfl 9 24 Tryz.underlying66 mm n' D' rfl M' ?_)
                    refine CS.out.mono ?_
                    rintro e W99 ⟨rfl, b99⟩
                    have HI2 := Lib.hid (HI.out _ b99)
                    clear b99 M' CL CS HI
                    go_wp2_with fail
                    exact ⟨⟨j + 1, by omega, by go_num, HI2⟩, by simp [intOf]; omega⟩
              · have hk1' : (kind == 1) = false := by simpa using hk1
                clear x0 x2 x3 x4
                have hcl100 : cl1.length ≤ 100 := by
                  obtain ⟨_, _, _, _, _, _, _, hc9, _⟩ := H9.out.1.left
                  have h1 := HJ.out.2.1
                  have h2 := HEV.out
                  omega
                have HCL := Lib.hid hcl100
                clear hcl100
                by_cases hbad : now < 0 ∨ 4611686018427387904 < now
                · have CB := Lib.hid (kevict_bad kp p ⟨nm.toArray⟩ now W9 hbad)
                  go_wp2_with fail
                  rw [HX.out]
                  clear y0 y1 y2 y3 y4
                  refine CB.out.mono ?_
                  rintro e w' ⟨rfl, hww⟩
                  subst hww
                  have HR := Lib.hid (And.intro H9.out.1.right (And.intro H9.out.2.2.1 H9.out.2.2.2.1))
                  clear CB
                  have CG := Lib.hid (s8_get HR.out.1 1 ⟨nm.toArray⟩ HNM.out.2.2.1)
                  go_wp2_with fail
                  refine CG.out.mono ?_
                  rintro e W11 ⟨y, rfl, hys, b11, _, hy1⟩
                  have hko : KeyOk (0, y.p.owner) := ⟨rfl, Nat.le_trans hys.1.p.owner reach_max⟩
                  have HKO := Lib.hid hko
                  clear hko
                  have h47' := cells_is y hys.1
                  obtain ⟨L, hL⟩ : ∃ L : Array Value, L = y.cells.toArray := ⟨_, rfl⟩
                  rw [← hL] at h47' ⊢
                  have h47 := Lib.hid h47'
                  have hzz : Z47.size = L.size := h47'.1.symm
                  have kz := Bk.new W11 56 Z47
                  have k7 := setCells_whole kz hzz
                  have b7 : Below W11.heap.size W11 ((W11.alloc (.cells Z47 56)).setCells W11.heap.size 0 L.toList) := below_setCells (g := W11.heap.size) L.toList 0 (below_al W11 _) (Nat.le_refl _)
                  obtain ⟨W12, hW2⟩ : ∃ W2, W2 = (W11.alloc (.cells Z47 56)).setCells W11.heap.size 0 L.toList := ⟨_, rfl⟩
                  rw [← hW2] at b7 k7
                  have HKZ := Lib.hid (And.intro kz hzz)
                  rw [hL] at k7
                  have hb12 := below_tr b11 b7
                  have HK2 := Lib.hid (And.intro k7 (And.intro hb12 hy1))
                  have HW2 := Lib.hid hW2.symm
                  obtain ⟨th, hth⟩ : ∃ th, th = (findN 1 ⟨nm.toArray⟩ cl1).isSome := ⟨_, rfl⟩
                  rw [← hth]
                  have HTH := Lib.hid hth
                  have CG2 := Lib.hid (s8_get (HR.out.1.below hb12) 0 y.p.owner HKO.out)
                  have e10 : W12.cell? ⟨W11.heap.size, 10, none⟩ = some (.string y.p.owner) := k7.cell 10
                  clear x1 hth k7 b11 b7 hys hy1 hW2 CG hL h47' kz hzz hb12
                  go_wp2_with (first | ((with_reducible refine at_alloc_ ?_); refine wpl_allocg rfl (run_alloc47 rfl _) ?_) | ((with_reducible refine at_store_ ?_); refine wpl_storeg HKZ.out.1 HKZ.out.2 rfl rfl 56 (.tmp 17) (.tmp 65) rfl rfl rfl (info47 h47.out) h47.out.2 ?_; rw [HW2.out]))
                  refine CG2.out.mono ?_
                  rintro e W13 ⟨y2, rfl, hys2, b13, _, hz1⟩
                  have g47' := cells_is y2 hys2.1
                  obtain ⟨L2, hL2⟩ : ∃ L : Array Value, L = y2.cells.toArray := ⟨_, rfl⟩
                  rw [← hL2] at g47' ⊢
                  have g47 := Lib.hid g47'
                  have hz2 : Z47.size = L2.size := g47'.1.symm
                  have kz2 := Bk.new W13 56 Z47
                  have k72 := setCells_whole kz2 hz2
                  have b14 : Below W13.heap.size W13 ((W13.alloc (.cells Z47 56)).setCells W13.heap.size 0 L2.toList) := below_setCells (g := W13.heap.size) L2.toList 0 (below_al W13 _) (Nat.le_refl _)
                  obtain ⟨W14, hW4⟩ : ∃ W4, W4 = (W13.alloc (.cells Z47 56)).setCells W13.heap.size 0 L2.toList := ⟨_, rfl⟩
                  rw [← hW4] at b14 k72
                  rw [hL2] at k72
                  have HKZ2 := Lib.hid (And.intro kz2 hz2)
                  have b24 := below_tr b13 b14
                  have HW4 := Lib.hid hW4.symm
                  have br14 := below_tr HK2.out.2.1 b24
                  obtain ⟨ow, how⟩ : ∃ ow, ow = y.p.owner.data.toList := ⟨_, rfl⟩
                  have hoe : (⟨ow.toArray⟩ : ByteArray) = y.p.owner := by rw [how]
                  obtain ⟨k', v', pc', hvalo, hokb⟩ := HJ.out.2.2.1 ow
                  obtain ⟨kept, hkept⟩ : ∃ kept, kept = Maps.has D (.string ow) := ⟨_, rfl⟩
                  have hol : ow.length ≤ maxLen := by rw [how]; exact HKO.out.2
                  have hkeyo := keyOf_string_mk Tryz.underlying9 (s := ⟨ow.toArray⟩) hol
                  have hMx := Mp.below HR.out.2.1 br14
                  have e10' : W14.cell? ⟨W11.heap.size, 10, none⟩ = some (.string ⟨ow.toArray⟩) := by rw [hoe]; exact keep_cell b24 e10
                  obtain ⟨own, hown⟩ : ∃ own, own = (findN 0 y.p.owner cl1).isSome := ⟨_, rfl⟩
                  rw [← hown]
                  have k21 := Bk.new W14 24 #[.int .i64 k', .int .i64 v', .bool pc']
                  have b15 := below_al W14 (.cells #[.int .i64 k', .int .i64 v', .bool pc'] 24)
                  obtain ⟨ph, hph⟩ : ∃ ph, ph = y.p.phase := ⟨_, rfl⟩
                  have HY := Lib.hid (fun (i : Nat) (hf : findN 1 ⟨nm.toArray⟩ cl1 = some i) (hi : i < cl1.length) => (show cl1[i].p.phase = ph ∧ cl1[i].p.owner = y.p.owner by
                    obtain ⟨_, hn⟩ := HK2.out.2.2 i hf
                    have hnp : (nf y).p = (nf cl1[i]).p := by rw [hn]
                    have e1 : y.p.phase = cl1[i].p.phase := (congrArg Pd.phase hnp : (nf y).p.phase = (nf cl1[i]).p.phase)
                    have e2 : y.p.owner = cl1[i].p.owner := (congrArg Pd.owner hnp : (nf y).p.owner = (nf cl1[i]).p.owner)
                    exact ⟨by rw [← e1]; exact hph.symm, e2.symm⟩))
                  have HO := Lib.hid (And.intro hown (And.intro how (And.intro hoe (And.intro hvalo (And.intro hokb hkept)))))
                  have H14 := Lib.hid (And.intro (k72.below' b15) (And.intro hz1 (And.intro k21 (And.intro (below_tr br14 b15) ((HK2.out.1.below' (below_tr b24 b15)).cell 12)))))
                  clear b13 hz1 hys2 kz2 hz2 b14 hW4 g47' hL2 b24 k72 CG2 e10 how hoe hokb hown k21 b15 br14 hol
                  have HKEPT := Lib.hid hkept
                  clear hkept
                  go_wp2_with (first | ((with_reducible refine at_alloc_ ?_); refine wpl_allocg rfl (run_alloc47 rfl _) ?_) | ((with_reducible refine at_store_ ?_); refine wpl_storeg HKZ2.out.1 HKZ2.out.2 rfl rfl 56 (.tmp 19) (.tmp 73) rfl rfl rfl (info47 g47.out) g47.out.2 ?_; rw [HW4.out]) | (at_lookup; refine wpl_look_ok rfl _ _ 66 rfl 9 24 strKb Tryz.underlying66 zeroBud mm n D rfl hMx _ _ rfl hkeyo ?_; rw [hvalo, ← HKEPT.out]))
                  obtain ⟨W15, hW15⟩ : ∃ W, W = W14.alloc (.cells #[.int .i64 k', .int .i64 v', .bool pc'] 24) := ⟨_, rfl⟩
                  obtain ⟨r21, hr21⟩ : ∃ g, g = W14.heap.size := ⟨_, rfl⟩
                  rw [← hW15, ← hr21] at H14
                  rw [← hW15, ← hr21]
                  have e12 : W15.cell? ⟨W11.heap.size, 12, none⟩ = some (.int .i64 ph) := by rw [hph]; exact H14.out.2.2.2.2
                  have z12 := cell_regrown e12
                  clear hW15 hr21 hMx hkeyo hvalo e10' hph
                  rcases id hbad with hb | hb
                  · have hb1 : ¬ 0 ≤ now := by omega
                    have hb2 : decide (0 ≤ now) = false := decide_eq_false hb1
                    refine wp_region_quiet_below (by kernel_rfl) (by kernel_rfl) ?_
                    repeat (go_big_quiet_step (fail))
                    refine wpQuiet_nil ?_
                    rintro _ ⟨rp, rfl⟩
                    have hBz := below_regrown W15 rp.d rp.os
                    generalize «Sort».grow (redrawn W15 rp.d) rp.os = W16 at hBz ⊢
                    have bR16 := below_tr H14.out.2.2.2.1 hBz
                    have x1 := (HR.out.2.2.below' bR16).cell 1
                    have HB16 := Lib.hid bR16
                    clear z12 e12 hBz bR16
                    clear hb hb1 hb2
                    go_wp2_with fail
                    refine (evict_bad p2 ⟨nm.toArray⟩ now W16 hbad).mono ?_
                    rintro e w' ⟨rfl, hww⟩
                    subst hww
                    have HT : Hid (KpI w.heap.size w p b p2 b2 kp km mm (j + 1) evs.length W16) := Lib.hid ⟨n, D, ev1, ev2, cl1, H9.out.1.below HB16.out, HJ.out.1, by have := HJ.out.2.1; omega, H9.out.2.1.below HB16.out, Mp.below H9.out.2.2.1 HB16.out, HJ.out.2.2.1, by have := HJ.out.2.2.2; omega, below_tr H9.out.2.2.2.2.1 HB16.out⟩
                    clear x1 r0 r1 r2 r3 r4 hbad
                    obtain ⟨n', D', e1', e2', c', T', he', hel', K', M', hD', hn', hB'⟩ := HT.out
                    have CL := Lib.hid (klen_any K')
                    have CS := Lib.hid (same16_any T'.left T'.right he' (by have h1 := HEV.out; omega))
                    have HI := Lib.hid (fun (W0' : World) (hb : Below W16.heap.size W16 W0') => (show KpI w.heap.size w p b p2 b2 kp km mm (j + 1) evs.length W0' from ⟨n', D', e1', e2', c', T'.below hb, he', hel', K'.below hb, Mp.below M' hb, hD', hn', below_tr hB' hb⟩))
                    clear T' he' hel' K' hD' hn' hB' HT
                    go_wp2_with fail
                    refine CL.out.mono ?_
                    rintro e w' ⟨rfl, hww⟩
                    subst hww
                    go_wp2_with (at_len; refine wpl_len_map rfl _ 66 rfl 9 24 Tryz.underlying66 mm n' D' rfl M' ?_)
                    refine CS.out.mono ?_
                    rintro e W99 ⟨rfl, b99⟩
                    have HI2 := Lib.hid (HI.out _ b99)
                    clear b99 M' CL CS HI
                    go_wp2_with fail
                    exact ⟨⟨j + 1, by omega, by go_num, HI2⟩, by simp [intOf]; omega⟩
                  · have hb1 : 0 ≤ now := by omega
                    have hb2 : decide (0 ≤ now) = true := decide_eq_true hb1
                    have hb3 : ¬ now ≤ 4611686018427387904 := by omega
                    have hb4 : decide (now ≤ 4611686018427387904) = false := decide_eq_false hb3
                    refine wp_region_quiet_below (by kernel_rfl) (by kernel_rfl) ?_
                    repeat (go_big_quiet_step (fail))
                    refine wpQuiet_nil ?_
                    rintro _ ⟨rp, rfl⟩
                    have hBz := below_regrown W15 rp.d rp.os
                    generalize «Sort».grow (redrawn W15 rp.d) rp.os = W16 at hBz ⊢
                    have bR16 := below_tr H14.out.2.2.2.1 hBz
                    have x1 := (HR.out.2.2.below' bR16).cell 1
                    have HB16 := Lib.hid bR16
                    clear z12 e12 hBz bR16
                    clear hb hb1 hb2 hb3 hb4
                    go_wp2_with fail
                    refine (evict_bad p2 ⟨nm.toArray⟩ now W16 hbad).mono ?_
                    rintro e w' ⟨rfl, hww⟩
                    subst hww
                    have HT : Hid (KpI w.heap.size w p b p2 b2 kp km mm (j + 1) evs.length W16) := Lib.hid ⟨n, D, ev1, ev2, cl1, H9.out.1.below HB16.out, HJ.out.1, by have := HJ.out.2.1; omega, H9.out.2.1.below HB16.out, Mp.below H9.out.2.2.1 HB16.out, HJ.out.2.2.1, by have := HJ.out.2.2.2; omega, below_tr H9.out.2.2.2.2.1 HB16.out⟩
                    clear x1 r0 r1 r2 r3 r4 hbad
                    obtain ⟨n', D', e1', e2', c', T', he', hel', K', M', hD', hn', hB'⟩ := HT.out
                    have CL := Lib.hid (klen_any K')
                    have CS := Lib.hid (same16_any T'.left T'.right he' (by have h1 := HEV.out; omega))
                    have HI := Lib.hid (fun (W0' : World) (hb : Below W16.heap.size W16 W0') => (show KpI w.heap.size w p b p2 b2 kp km mm (j + 1) evs.length W0' from ⟨n', D', e1', e2', c', T'.below hb, he', hel', K'.below hb, Mp.below M' hb, hD', hn', below_tr hB' hb⟩))
                    clear T' he' hel' K' hD' hn' hB' HT
                    go_wp2_with fail
                    refine CL.out.mono ?_
                    rintro e w' ⟨rfl, hww⟩
                    subst hww
                    go_wp2_with (at_len; refine wpl_len_map rfl _ 66 rfl 9 24 Tryz.underlying66 mm n' D' rfl M' ?_)
                    refine CS.out.mono ?_
                    rintro e W99 ⟨rfl, b99⟩
                    have HI2 := Lib.hid (HI.out _ b99)
                    clear b99 M' CL CS HI
                    go_wp2_with fail
                    exact ⟨⟨j + 1, by omega, by go_num, HI2⟩, by simp [intOf]; omega⟩
                · have hn0 : 0 ≤ now ∧ now ≤ 4611686018427387904 := by omega
                  have HN0 := Lib.hid hn0
                  obtain ⟨hn1, hn2⟩ := hn0
                  have hn3 : decide (0 ≤ now) = true := decide_eq_true hn1
                  have hn4 : decide (now ≤ 4611686018427387904) = true := decide_eq_true hn2
                  clear hbad
                  obtain ⟨G, hSG, hturn⟩ := H9.out.1.turn
                  have CK := Lib.hid (kevict_any hSG H9.out.2.1 HJ.out.2.2.1 HCL.out (by have h2 := HJ.out.2.1; have h3 := HEV.out; omega) H9.out.2.2.2.2.1.size nm HNM.out.2.1 now HN0.out)
                  have HSG := Lib.hid (And.intro hSG hturn)
                  clear hSG hturn
                  by_cases hfew : FewC cl1 D nm
                  · go_wp2_with fail
                    rw [HX.out]
                    clear y0 y1 y2 y3 y4
                    refine CK.out.mono ?_
                    rintro e W10 hKE
                    obtain ⟨rfl, b10⟩ : e = .returned (.int .i64 14) ∧ Below W9.heap.size W9 W10 := by
                      rcases hKE with ⟨_, h1, h2⟩ | ⟨h1, _⟩
                      · exact ⟨h1, h2⟩
                      · exact absurd hfew h1
                    have H10 := Lib.hid (And.intro (H9.out.1.below b10) (And.intro (H9.out.2.1.below b10) (And.intro (Mp.below H9.out.2.2.1 b10) (below_tr H9.out.2.2.2.2.1 b10))))
                    have k10 := H9.out.2.2.2.1.below' b10
                    have HR := Lib.hid (And.intro H10.out.1.right (And.intro H10.out.2.2.1 k10))
                    clear x1
                    have x1 := k10.cell 1
                    clear hKE b10 CK k10
                    have CG := Lib.hid (s8_get HR.out.1 1 ⟨nm.toArray⟩ HNM.out.2.2.1)
                    go_wp2_with fail
                    refine CG.out.mono ?_
                    rintro e W11 ⟨y, rfl, hys, b11, _, hy1⟩
                    have hko : KeyOk (0, y.p.owner) := ⟨rfl, Nat.le_trans hys.1.p.owner reach_max⟩
                    have HKO := Lib.hid hko
                    clear hko
                    have h47' := cells_is y hys.1
                    obtain ⟨L, hL⟩ : ∃ L : Array Value, L = y.cells.toArray := ⟨_, rfl⟩
                    rw [← hL] at h47' ⊢
                    have h47 := Lib.hid h47'
                    have hzz : Z47.size = L.size := h47'.1.symm
                    have kz := Bk.new W11 56 Z47
                    have k7 := setCells_whole kz hzz
                    have b7 : Below W11.heap.size W11 ((W11.alloc (.cells Z47 56)).setCells W11.heap.size 0 L.toList) := below_setCells (g := W11.heap.size) L.toList 0 (below_al W11 _) (Nat.le_refl _)
                    obtain ⟨W12, hW2⟩ : ∃ W2, W2 = (W11.alloc (.cells Z47 56)).setCells W11.heap.size 0 L.toList := ⟨_, rfl⟩
                    rw [← hW2] at b7 k7
                    have HKZ := Lib.hid (And.intro kz hzz)
                    rw [hL] at k7
                    have hb12 := below_tr b11 b7
                    have HK2 := Lib.hid (And.intro k7 (And.intro hb12 hy1))
                    have HW2 := Lib.hid hW2.symm
                    obtain ⟨th, hth⟩ : ∃ th, th = (findN 1 ⟨nm.toArray⟩ cl1).isSome := ⟨_, rfl⟩
                    rw [← hth]
                    have HTH := Lib.hid hth
                    have CG2 := Lib.hid (s8_get (HR.out.1.below hb12) 0 y.p.owner HKO.out)
                    have e10 : W12.cell? ⟨W11.heap.size, 10, none⟩ = some (.string y.p.owner) := k7.cell 10
                    clear x1 hth k7 b11 b7 hys hy1 hW2 CG hL h47' kz hzz hb12
                    go_wp2_with (first | ((with_reducible refine at_alloc_ ?_); refine wpl_allocg rfl (run_alloc47 rfl _) ?_) | ((with_reducible refine at_store_ ?_); refine wpl_storeg HKZ.out.1 HKZ.out.2 rfl rfl 56 (.tmp 17) (.tmp 65) rfl rfl rfl (info47 h47.out) h47.out.2 ?_; rw [HW2.out]))
                    refine CG2.out.mono ?_
                    rintro e W13 ⟨y2, rfl, hys2, b13, _, hz1⟩
                    have g47' := cells_is y2 hys2.1
                    obtain ⟨L2, hL2⟩ : ∃ L : Array Value, L = y2.cells.toArray := ⟨_, rfl⟩
                    rw [← hL2] at g47' ⊢
                    have g47 := Lib.hid g47'
                    have hz2 : Z47.size = L2.size := g47'.1.symm
                    have kz2 := Bk.new W13 56 Z47
                    have k72 := setCells_whole kz2 hz2
                    have b14 : Below W13.heap.size W13 ((W13.alloc (.cells Z47 56)).setCells W13.heap.size 0 L2.toList) := below_setCells (g := W13.heap.size) L2.toList 0 (below_al W13 _) (Nat.le_refl _)
                    obtain ⟨W14, hW4⟩ : ∃ W4, W4 = (W13.alloc (.cells Z47 56)).setCells W13.heap.size 0 L2.toList := ⟨_, rfl⟩
                    rw [← hW4] at b14 k72
                    rw [hL2] at k72
                    have HKZ2 := Lib.hid (And.intro kz2 hz2)
                    have b24 := below_tr b13 b14
                    have HW4 := Lib.hid hW4.symm
                    have br14 := below_tr HK2.out.2.1 b24
                    obtain ⟨ow, how⟩ : ∃ ow, ow = y.p.owner.data.toList := ⟨_, rfl⟩
                    have hoe : (⟨ow.toArray⟩ : ByteArray) = y.p.owner := by rw [how]
                    obtain ⟨k', v', pc', hvalo, hokb⟩ := HJ.out.2.2.1 ow
                    obtain ⟨kept, hkept⟩ : ∃ kept, kept = Maps.has D (.string ow) := ⟨_, rfl⟩
                    have hol : ow.length ≤ maxLen := by rw [how]; exact HKO.out.2
                    have hkeyo := keyOf_string_mk Tryz.underlying9 (s := ⟨ow.toArray⟩) hol
                    have hMx := Mp.below HR.out.2.1 br14
                    have e10' : W14.cell? ⟨W11.heap.size, 10, none⟩ = some (.string ⟨ow.toArray⟩) := by rw [hoe]; exact keep_cell b24 e10
                    obtain ⟨own, hown⟩ : ∃ own, own = (findN 0 y.p.owner cl1).isSome := ⟨_, rfl⟩
                    rw [← hown]
                    have k21 := Bk.new W14 24 #[.int .i64 k', .int .i64 v', .bool pc']
                    have b15 := below_al W14 (.cells #[.int .i64 k', .int .i64 v', .bool pc'] 24)
                    obtain ⟨ph, hph⟩ : ∃ ph, ph = y.p.phase := ⟨_, rfl⟩
                    have HY := Lib.hid (fun (i : Nat) (hf : findN 1 ⟨nm.toArray⟩ cl1 = some i) (hi : i < cl1.length) => (show cl1[i].p.phase = ph ∧ cl1[i].p.owner = y.p.owner by
                      obtain ⟨_, hn⟩ := HK2.out.2.2 i hf
                      have hnp : (nf y).p = (nf cl1[i]).p := by rw [hn]
                      have e1 : y.p.phase = cl1[i].p.phase := (congrArg Pd.phase hnp : (nf y).p.phase = (nf cl1[i]).p.phase)
                      have e2 : y.p.owner = cl1[i].p.owner := (congrArg Pd.owner hnp : (nf y).p.owner = (nf cl1[i]).p.owner)
                      exact ⟨by rw [← e1]; exact hph.symm, e2.symm⟩))
                    have HO := Lib.hid (And.intro hown (And.intro how (And.intro hoe (And.intro hvalo (And.intro hokb hkept)))))
                    have H14 := Lib.hid (And.intro (k72.below' b15) (And.intro hz1 (And.intro k21 (And.intro (below_tr br14 b15) ((HK2.out.1.below' (below_tr b24 b15)).cell 12)))))
                    clear b13 hz1 hys2 kz2 hz2 b14 hW4 g47' hL2 b24 k72 CG2 e10 how hoe hokb hown k21 b15 br14 hol
                    have HKEPT := Lib.hid hkept
                    clear hkept
                    go_wp2_with (first | ((with_reducible refine at_alloc_ ?_); refine wpl_allocg rfl (run_alloc47 rfl _) ?_) | ((with_reducible refine at_store_ ?_); refine wpl_storeg HKZ2.out.1 HKZ2.out.2 rfl rfl 56 (.tmp 19) (.tmp 73) rfl rfl rfl (info47 g47.out) g47.out.2 ?_; rw [HW4.out]) | (at_lookup; refine wpl_look_ok rfl _ _ 66 rfl 9 24 strKb Tryz.underlying66 zeroBud mm n D rfl hMx _ _ rfl hkeyo ?_; rw [hvalo, ← HKEPT.out]))
                    obtain ⟨W15, hW15⟩ : ∃ W, W = W14.alloc (.cells #[.int .i64 k', .int .i64 v', .bool pc'] 24) := ⟨_, rfl⟩
                    obtain ⟨r21, hr21⟩ : ∃ g, g = W14.heap.size := ⟨_, rfl⟩
                    rw [← hW15, ← hr21] at H14
                    rw [← hW15, ← hr21]
                    have e12 : W15.cell? ⟨W11.heap.size, 12, none⟩ = some (.int .i64 ph) := by rw [hph]; exact H14.out.2.2.2.2
                    have z12 := cell_regrown e12
                    clear hW15 hr21 hMx hkeyo hvalo e10' hph
                    have HFEW := Lib.hid hfew
                    clear hfew
                    have hth : th = true := by
                      obtain ⟨i, hi, i2, hi2, k9, v9, pc9, f1, f2, f3, f4, f5, f6⟩ := HFEW.out
                      rw [HTH.out, f1]
                      rfl
                    have hkp : kept = true := by
                      obtain ⟨i, hi, i2, hi2, k9, v9, pc9, f1, f2, f3, f4, f5, f6⟩ := HFEW.out
                      rw [HO.out.2.2.2.2.2, HO.out.2.1, ← (HY.out i f1 hi).2]
                      exact f4
                    have how9 : own = true := by
                      obtain ⟨i, hi, i2, hi2, k9, v9, pc9, f1, f2, f3, f4, f5, f6⟩ := HFEW.out
                      rw [HO.out.1, ← (HY.out i f1 hi).2, f2]
                      rfl
                    have hp2 : (ph == 2) = true := by
                      obtain ⟨i, hi, i2, hi2, k9, v9, pc9, f1, f2, f3, f4, f5, f6⟩ := HFEW.out
                      rw [← (HY.out i f1 hi).1, f3]
                      rfl
                    subst hth hkp how9
                    obtain ⟨i, hf1⟩ : ∃ i, findN 1 ⟨nm.toArray⟩ cl1 = some i := by
                      have h := HTH.out
                      cases hf : findN 1 ⟨nm.toArray⟩ cl1 with
                      | none =>
                        rw [hf] at h
                        cases h
                      | some i => exact ⟨i, rfl⟩
                    obtain ⟨i2, hf2⟩ : ∃ i2, findN 0 y.p.owner cl1 = some i2 := by
                      have h := HO.out.1
                      cases hf : findN 0 y.p.owner cl1 with
                      | none =>
                        rw [hf] at h
                        cases h
                      | some i => exact ⟨i, rfl⟩
                    obtain ⟨hi1, _, _⟩ := findN_some hf1
                    obtain ⟨hi2, hkk2, hn2⟩ := findN_some hf2
                    obtain ⟨_, hnf2⟩ := H14.out.2.1 i2 hf2
                    have hnm2 : y2.name = y.p.owner := by rw [(nf_key hnf2).2, hn2]
                    have hrw : y2.w.replicas = cl1[i2].w.replicas := by
                      have h : (nf y2).w = (nf cl1[i2]).w := by rw [hnf2]
                      exact (congrArg Wl.replicas h : (nf y2).w.replicas = (nf cl1[i2]).w.replicas)
                    have hRk : okR cl1[i2].w.replicas = true := wl_may hkk2 (by
                      obtain ⟨_, _, _, _, _, _, _, _, hg⟩ := HR.out.1
                      exact hg _ (List.getElem_mem _))
                    obtain ⟨R, hR⟩ : ∃ R : Nat, R = cl1[i2].w.replicas.toNat := ⟨_, rfl⟩
                    have hRe : cl1[i2].w.replicas = (R : Int) := by
                      have := okR_t hRk
                      omega
                    have hRk' : okR (R : Int) = true := by rw [← hRe]; exact hRk
                    have e1 : W15.cell? ⟨W13.heap.size, 1, none⟩ = some (.string y.p.owner) := by rw [← hnm2]; exact H14.out.1.cell 1
                    have e3 : W15.cell? ⟨W13.heap.size, 3, none⟩ = some (.int .i64 (R : Int)) := by rw [← hRe, ← hrw]; exact H14.out.1.cell 3
                    obtain ⟨nr, hnn⟩ : ∃ n, n = rdy cl1 y.p.owner := ⟨_, rfl⟩
                    obtain ⟨m, hmm⟩ : ∃ m, m = mustN k' v' pc' R := ⟨_, rfl⟩
                    have CRd := Lib.hid (fun (w1 : World) (hb1 : Below W15.heap.size W15 w1) => lready_any ((HR.out.1.below H14.out.2.2.2.1).below hb1) HCL.out y.p.owner)
                    rw [← hnn] at CRd
                    have CRm := Lib.hid (fun w1 => lawmust_ok k' v' pc' R w1 HO.out.2.2.2.2.1 hRk')
                    rw [← hmm] at CRm
                    have HC := Lib.hid (And.intro hf1 (And.intro hi1 (And.intro hf2 (And.intro hi2 (And.intro hnn (And.intro hmm hR))))))
                    have z1 := cell_regrown e1
                    have z3 := cell_regrown e3
                    have HFW : Hid (nr ≤ m → FewC cl1 D nm) := Lib.hid (fun hle => by
                      obtain ⟨hf1, hi1, hf2, hi2, q1, q2, q3⟩ := id HC.out
                      obtain ⟨y1, y3⟩ := HY.out i hf1 hi1
                      refine ⟨i, hi1, i2, hi2, k', v', pc', hf1, by rw [y3]; exact hf2, y1.trans (by simpa using hp2), ?_, ?_, ?_⟩
                      · rw [y3, ← HO.out.2.1]
                        exact HO.out.2.2.2.2.2.symm
                      · rw [y3, ← HO.out.2.1]
                        exact HO.out.2.2.2.1
                      · rw [y3, ← q1, ← q3, ← q2]
                        exact hle)
                    clear hf1 hf2 hkk2 hn2 hnf2 hnm2 hrw hRk hR hRe hRk' hnn hmm e1 e3
                    refine wp_region_quiet_below (by kernel_rfl) (by kernel_rfl) ?_
                    repeat (go_big_quiet_step ((go_at_call 11; (with_reducible exact Calls.regrown_of (CRd.out _ (below_regrown _ _ _))))))
                    refine q_loadgd H14.out.2.2.1 rfl 24 (.tmp 21) rfl rfl _ Tryz.underlying24 rfl (by kernel_rfl) ?_
                    repeat (quiet_step ((go_at_call 12; (with_reducible exact Calls.regrown_of (CRm.out _)))))
                    refine wpQuiet_nil ?_
                    rintro _ ⟨rp, rfl⟩
                    have hBz := below_regrown W15 rp.d rp.os
                    generalize «Sort».grow (redrawn W15 rp.d) rp.os = W16 at hBz ⊢
                    have bR16 := below_tr H14.out.2.2.2.1 hBz
                    have x1 := (HR.out.2.2.below' bR16).cell 1
                    have HB16 := Lib.hid bR16
                    clear z12 z1 z3 CRd CRm e12 hBz bR16
                    have hle9 : nr ≤ m := by
                      obtain ⟨hf1, hi1, hf2, hi2, q1, q2, q3⟩ := id HC.out
                      obtain ⟨i', hi', i2', hi2', k9, v9, pc9, f1, f2, f3, f4, f5, f6⟩ := HFEW.out
                      rw [hf1] at f1
                      injection f1 with f1
                      subst f1
                      obtain ⟨y1, y3⟩ := HY.out i hf1 hi1
                      rw [y3, hf2] at f2
                      injection f2 with f2
                      subst f2
                      rw [y3, ← HO.out.2.1, HO.out.2.2.2.1] at f5
                      injection f5 with f5
                      simp at f5
                      obtain ⟨g1, g2, g3⟩ := f5
                      have g1' : k' = k9 := by omega
                      have g2' : v' = v9 := by omega
                      subst g1' g2' g3
                      rw [y3, ← q1, ← q3, ← q2] at f6
                      exact f6
                    have hle3 : decide (nr ≤ m) = true := decide_eq_true hle9
                    have hle2 : decide ((nr : Int) ≤ (m : Int)) = true := decide_eq_true (by omega)
                    have hle4 : (nr : Int) ≤ (m : Int) := by omega
                    have HT : Hid (KpI w.heap.size w p b p2 b2 kp km mm (j + 1) evs.length W16) := Lib.hid ⟨n, D, ev1, ev2, cl1, H10.out.1.below HB16.out, HJ.out.1, by have := HJ.out.2.1; omega, H10.out.2.1.below HB16.out, Mp.below H10.out.2.2.1 HB16.out, HJ.out.2.2.1, by have := HJ.out.2.2.2; omega, below_tr H10.out.2.2.2 HB16.out⟩
                    clear x1 r0 r1 r2 r3 r4
                    obtain ⟨n', D', e1', e2', c', T', he', hel', K', M', hD', hn', hB'⟩ := HT.out
                    have CL := Lib.hid (klen_any K')
                    have CS := Lib.hid (same16_any T'.left T'.right he' (by have h1 := HEV.out; omega))
                    have HI := Lib.hid (fun (W0' : World) (hb : Below W16.heap.size W16 W0') => (show KpI w.heap.size w p b p2 b2 kp km mm (j + 1) evs.length W0' from ⟨n', D', e1', e2', c', T'.below hb, he', hel', K'.below hb, Mp.below M' hb, hD', hn', below_tr hB' hb⟩))
                    clear T' he' hel' K' hD' hn' hB' HT
                    go_wp2_with fail
                    refine CL.out.mono ?_
                    rintro e w' ⟨rfl, hww⟩
                    subst hww
                    go_wp2_with (at_len; refine wpl_len_map rfl _ 66 rfl 9 24 Tryz.underlying66 mm n' D' rfl M' ?_)
                    refine CS.out.mono ?_
                    rintro e W99 ⟨rfl, b99⟩
                    have HI2 := Lib.hid (HI.out _ b99)
                    clear b99 M' CL CS HI
                    go_wp2_with fail
                    exact ⟨⟨j + 1, by omega, by go_num, HI2⟩, by simp [intOf]; omega⟩
                  · go_wp2_with fail
                    rw [HX.out]
                    clear y0 y1 y2 y3 y4
                    refine CK.out.mono ?_
                    rintro e W10 hKE
                    have hE : EvG G w.heap.size W9 p b 200 ev1 cl1 ⟨nm.toArray⟩ now e W10 := by
                      rcases hKE with ⟨h1, _⟩ | ⟨_, h1⟩
                      · exact absurd h1 hfew
                      · exact h1
                    obtain ⟨rfl, hS10, b10, hK10⟩ := hE.step HSG.out.1 H9.out.2.2.2.2.1.size
                    obtain ⟨st, hst⟩ : ∃ st, st = evStep cl1 ev1.length ⟨nm.toArray⟩ now := ⟨_, rfl⟩
                    rw [← hst] at hS10 ⊢
                    have HST := Lib.hid hst
                    have hnr := H9.out.2.2.2.2.2
                    have hnn := HN.out
                    have T10 := HSG.out.2 _ _ _ hS10 hK10
                    have K10 := H9.out.2.1.turned H9.out.1.left hK10 ⟨by omega, by omega⟩ ⟨by omega, by omega⟩
                    have M10 := Mp.turned H9.out.2.2.1 H9.out.1.left hK10 (by omega) (by omega)
                    have k10 := keep_bk H9.out.1.left (hK10 W9.heap.size (fun _ => False)) (Nat.le_refl _) H9.out.2.2.2.1 (by omega) (by omega) (by decide)
                    have H10 := Lib.hid (And.intro T10 (And.intro K10 (And.intro M10 (H9.out.2.2.2.2.1.trans b10))))
                    have HR := Lib.hid (And.intro T10.right (And.intro M10 k10))
                    clear x1
                    have x1 := k10.cell 1
                    clear hKE hE hS10 b10 hK10 hst T10 K10 M10 k10 CK hnr hnn
                    have CG := Lib.hid (s8_get HR.out.1 1 ⟨nm.toArray⟩ HNM.out.2.2.1)
                    go_wp2_with fail
                    refine CG.out.mono ?_
                    rintro e W11 ⟨y, rfl, hys, b11, _, hy1⟩
                    have hko : KeyOk (0, y.p.owner) := ⟨rfl, Nat.le_trans hys.1.p.owner reach_max⟩
                    have HKO := Lib.hid hko
                    clear hko
                    have h47' := cells_is y hys.1
                    obtain ⟨L, hL⟩ : ∃ L : Array Value, L = y.cells.toArray := ⟨_, rfl⟩
                    rw [← hL] at h47' ⊢
                    have h47 := Lib.hid h47'
                    have hzz : Z47.size = L.size := h47'.1.symm
                    have kz := Bk.new W11 56 Z47
                    have k7 := setCells_whole kz hzz
                    have b7 : Below W11.heap.size W11 ((W11.alloc (.cells Z47 56)).setCells W11.heap.size 0 L.toList) := below_setCells (g := W11.heap.size) L.toList 0 (below_al W11 _) (Nat.le_refl _)
                    obtain ⟨W12, hW2⟩ : ∃ W2, W2 = (W11.alloc (.cells Z47 56)).setCells W11.heap.size 0 L.toList := ⟨_, rfl⟩
                    rw [← hW2] at b7 k7
                    have HKZ := Lib.hid (And.intro kz hzz)
                    rw [hL] at k7
                    have hb12 := below_tr b11 b7
                    have HK2 := Lib.hid (And.intro k7 (And.intro hb12 hy1))
                    have HW2 := Lib.hid hW2.symm
                    obtain ⟨th, hth⟩ : ∃ th, th = (findN 1 ⟨nm.toArray⟩ cl1).isSome := ⟨_, rfl⟩
                    rw [← hth]
                    have HTH := Lib.hid hth
                    have CG2 := Lib.hid (s8_get (HR.out.1.below hb12) 0 y.p.owner HKO.out)
                    have e10 : W12.cell? ⟨W11.heap.size, 10, none⟩ = some (.string y.p.owner) := k7.cell 10
                    clear x1 hth k7 b11 b7 hys hy1 hW2 CG hL h47' kz hzz hb12
                    go_wp2_with (first | ((with_reducible refine at_alloc_ ?_); refine wpl_allocg rfl (run_alloc47 rfl _) ?_) | ((with_reducible refine at_store_ ?_); refine wpl_storeg HKZ.out.1 HKZ.out.2 rfl rfl 56 (.tmp 17) (.tmp 65) rfl rfl rfl (info47 h47.out) h47.out.2 ?_; rw [HW2.out]))
                    refine CG2.out.mono ?_
                    rintro e W13 ⟨y2, rfl, hys2, b13, _, hz1⟩
                    have g47' := cells_is y2 hys2.1
                    obtain ⟨L2, hL2⟩ : ∃ L : Array Value, L = y2.cells.toArray := ⟨_, rfl⟩
                    rw [← hL2] at g47' ⊢
                    have g47 := Lib.hid g47'
                    have hz2 : Z47.size = L2.size := g47'.1.symm
                    have kz2 := Bk.new W13 56 Z47
                    have k72 := setCells_whole kz2 hz2
                    have b14 : Below W13.heap.size W13 ((W13.alloc (.cells Z47 56)).setCells W13.heap.size 0 L2.toList) := below_setCells (g := W13.heap.size) L2.toList 0 (below_al W13 _) (Nat.le_refl _)
                    obtain ⟨W14, hW4⟩ : ∃ W4, W4 = (W13.alloc (.cells Z47 56)).setCells W13.heap.size 0 L2.toList := ⟨_, rfl⟩
                    rw [← hW4] at b14 k72
                    rw [hL2] at k72
                    have HKZ2 := Lib.hid (And.intro kz2 hz2)
                    have b24 := below_tr b13 b14
                    have HW4 := Lib.hid hW4.symm
                    have br14 := below_tr HK2.out.2.1 b24
                    obtain ⟨ow, how⟩ : ∃ ow, ow = y.p.owner.data.toList := ⟨_, rfl⟩
                    have hoe : (⟨ow.toArray⟩ : ByteArray) = y.p.owner := by rw [how]
                    obtain ⟨k', v', pc', hvalo, hokb⟩ := HJ.out.2.2.1 ow
                    obtain ⟨kept, hkept⟩ : ∃ kept, kept = Maps.has D (.string ow) := ⟨_, rfl⟩
                    have hol : ow.length ≤ maxLen := by rw [how]; exact HKO.out.2
                    have hkeyo := keyOf_string_mk Tryz.underlying9 (s := ⟨ow.toArray⟩) hol
                    have hMx := Mp.below HR.out.2.1 br14
                    have e10' : W14.cell? ⟨W11.heap.size, 10, none⟩ = some (.string ⟨ow.toArray⟩) := by rw [hoe]; exact keep_cell b24 e10
                    obtain ⟨own, hown⟩ : ∃ own, own = (findN 0 y.p.owner cl1).isSome := ⟨_, rfl⟩
                    rw [← hown]
                    have k21 := Bk.new W14 24 #[.int .i64 k', .int .i64 v', .bool pc']
                    have b15 := below_al W14 (.cells #[.int .i64 k', .int .i64 v', .bool pc'] 24)
                    obtain ⟨ph, hph⟩ : ∃ ph, ph = y.p.phase := ⟨_, rfl⟩
                    have HY := Lib.hid (fun (i : Nat) (hf : findN 1 ⟨nm.toArray⟩ cl1 = some i) (hi : i < cl1.length) => (show cl1[i].p.phase = ph ∧ cl1[i].p.owner = y.p.owner by
                      obtain ⟨_, hn⟩ := HK2.out.2.2 i hf
                      have hnp : (nf y).p = (nf cl1[i]).p := by rw [hn]
                      have e1 : y.p.phase = cl1[i].p.phase := (congrArg Pd.phase hnp : (nf y).p.phase = (nf cl1[i]).p.phase)
                      have e2 : y.p.owner = cl1[i].p.owner := (congrArg Pd.owner hnp : (nf y).p.owner = (nf cl1[i]).p.owner)
                      exact ⟨by rw [← e1]; exact hph.symm, e2.symm⟩))
                    have HO := Lib.hid (And.intro hown (And.intro how (And.intro hoe (And.intro hvalo (And.intro hokb hkept)))))
                    have H14 := Lib.hid (And.intro (k72.below' b15) (And.intro hz1 (And.intro k21 (And.intro (below_tr br14 b15) ((HK2.out.1.below' (below_tr b24 b15)).cell 12)))))
                    clear b13 hz1 hys2 kz2 hz2 b14 hW4 g47' hL2 b24 k72 CG2 e10 how hoe hokb hown k21 b15 br14 hol
                    have HKEPT := Lib.hid hkept
                    clear hkept
                    go_wp2_with (first | ((with_reducible refine at_alloc_ ?_); refine wpl_allocg rfl (run_alloc47 rfl _) ?_) | ((with_reducible refine at_store_ ?_); refine wpl_storeg HKZ2.out.1 HKZ2.out.2 rfl rfl 56 (.tmp 19) (.tmp 73) rfl rfl rfl (info47 g47.out) g47.out.2 ?_; rw [HW4.out]) | (at_lookup; refine wpl_look_ok rfl _ _ 66 rfl 9 24 strKb Tryz.underlying66 zeroBud mm n D rfl hMx _ _ rfl hkeyo ?_; rw [hvalo, ← HKEPT.out]))
                    obtain ⟨W15, hW15⟩ : ∃ W, W = W14.alloc (.cells #[.int .i64 k', .int .i64 v', .bool pc'] 24) := ⟨_, rfl⟩
                    obtain ⟨r21, hr21⟩ : ∃ g, g = W14.heap.size := ⟨_, rfl⟩
                    rw [← hW15, ← hr21] at H14
                    rw [← hW15, ← hr21]
                    have e12 : W15.cell? ⟨W11.heap.size, 12, none⟩ = some (.int .i64 ph) := by rw [hph]; exact H14.out.2.2.2.2
                    have z12 := cell_regrown e12
                    clear hW15 hr21 hMx hkeyo hvalo e10' hph
                    cases th with
                    | false =>
                      refine wp_region_quiet_below (by kernel_rfl) (by kernel_rfl) ?_
                      repeat (go_big_quiet_step (fail))
                      refine wpQuiet_nil ?_
                      rintro _ ⟨rp, rfl⟩
                      have hBz := below_regrown W15 rp.d rp.os
                      generalize «Sort».grow (redrawn W15 rp.d) rp.os = W16 at hBz ⊢
                      have bR16 := below_tr H14.out.2.2.2.1 hBz
                      have x1 := (HR.out.2.2.below' bR16).cell 1
                      have HB16 := Lib.hid bR16
                      clear z12 e12 hBz bR16
                      have T16 := H10.out.1.below HB16.out
                      obtain ⟨G2, hSG2, hturn2⟩ := T16.swap.turn
                      have hB16 : Below w.heap.size w W16 := below_tr H10.out.2.2.2 HB16.out
                      have CE := Lib.hid (gevict_any hSG2 (by have h1 := HJ.out.1; have h2 := HJ.out.2.1; have h3 := HEV.out; omega) hB16.size ⟨nm.toArray⟩ HNM.out.2.2.1 now HN0.out)
                      have HT16 := Lib.hid (And.intro T16 (And.intro hSG2 (And.intro hturn2 hB16)))
                      clear T16 hSG2 hturn2 hB16
                      go_wp2_with fail
                      refine CE.out.mono ?_
                      rintro e W17 hE2
                      obtain ⟨rfl, hS17, b17, hK17⟩ := hE2.step HT16.out.2.1 HT16.out.2.2.2.size
                      rw [HJ.out.1, ← HST.out] at hS17 ⊢
                      have T17 := (HT16.out.2.2.1 _ _ _ hS17 hK17).swap
                      have K17 := (H10.out.2.1.below HB16.out).turned HT16.out.1.right hK17 ⟨by have := HN.out; omega, by have := HN.out; omega⟩ ⟨by have := HN.out; omega, by have := HN.out; omega⟩
                      have M17 := Mp.turned (Mp.below H10.out.2.2.1 HB16.out) HT16.out.1.right hK17 (by have := HN.out; omega) (by have := HN.out; omega)
                      have hln := evStep_len cl1 ev1.length ⟨nm.toArray⟩ now
                      rw [← HST.out] at hln
                      have HT : Hid (KpI w.heap.size w p b p2 b2 kp km mm (j + 1) evs.length W17) := Lib.hid ⟨n, D, _, _, _, T17, by rw [List.length_append, List.length_append, HJ.out.1], by have := HJ.out.2.1; rw [List.length_append]; omega, K17, M17, HJ.out.2.2.1, by have := HJ.out.2.2.2; omega, HT16.out.2.2.2.trans b17⟩
                      clear hE2 hS17 b17 hK17 T17 K17 M17 hln CE x1 r0 r1 r2 r3 r4
                      obtain ⟨n', D', e1', e2', c', T', he', hel', K', M', hD', hn', hB'⟩ := HT.out
                      have CL := Lib.hid (klen_any K')
                      have CS := Lib.hid (same16_any T'.left T'.right he' (by have h1 := HEV.out; omega))
                      have HI := Lib.hid (fun (W0' : World) (hb : Below W17.heap.size W17 W0') => (show KpI w.heap.size w p b p2 b2 kp km mm (j + 1) evs.length W0' from ⟨n', D', e1', e2', c', T'.below hb, he', hel', K'.below hb, Mp.below M' hb, hD', hn', below_tr hB' hb⟩))
                      clear T' he' hel' K' hD' hn' hB' HT
                      go_wp2_with fail
                      refine CL.out.mono ?_
                      rintro e w' ⟨rfl, hww⟩
                      subst hww
                      go_wp2_with (at_len; refine wpl_len_map rfl _ 66 rfl 9 24 Tryz.underlying66 mm n' D' rfl M' ?_)
                      refine CS.out.mono ?_
                      rintro e W99 ⟨rfl, b99⟩
                      have HI2 := Lib.hid (HI.out _ b99)
                      clear b99 M' CL CS HI
                      go_wp2_with fail
                      exact ⟨⟨j + 1, by omega, by go_num, HI2⟩, by simp [intOf]; omega⟩
                    | true =>
                      cases kept with
                      | false =>
                        refine wp_region_quiet_below (by kernel_rfl) (by kernel_rfl) ?_
                        repeat (go_big_quiet_step (fail))
                        refine wpQuiet_nil ?_
                        rintro _ ⟨rp, rfl⟩
                        have hBz := below_regrown W15 rp.d rp.os
                        generalize «Sort».grow (redrawn W15 rp.d) rp.os = W16 at hBz ⊢
                        have bR16 := below_tr H14.out.2.2.2.1 hBz
                        have x1 := (HR.out.2.2.below' bR16).cell 1
                        have HB16 := Lib.hid bR16
                        clear z12 e12 hBz bR16
                        have T16 := H10.out.1.below HB16.out
                        obtain ⟨G2, hSG2, hturn2⟩ := T16.swap.turn
                        have hB16 : Below w.heap.size w W16 := below_tr H10.out.2.2.2 HB16.out
                        have CE := Lib.hid (gevict_any hSG2 (by have h1 := HJ.out.1; have h2 := HJ.out.2.1; have h3 := HEV.out; omega) hB16.size ⟨nm.toArray⟩ HNM.out.2.2.1 now HN0.out)
                        have HT16 := Lib.hid (And.intro T16 (And.intro hSG2 (And.intro hturn2 hB16)))
                        clear T16 hSG2 hturn2 hB16
                        go_wp2_with fail
                        refine CE.out.mono ?_
                        rintro e W17 hE2
                        obtain ⟨rfl, hS17, b17, hK17⟩ := hE2.step HT16.out.2.1 HT16.out.2.2.2.size
                        rw [HJ.out.1, ← HST.out] at hS17 ⊢
                        have T17 := (HT16.out.2.2.1 _ _ _ hS17 hK17).swap
                        have K17 := (H10.out.2.1.below HB16.out).turned HT16.out.1.right hK17 ⟨by have := HN.out; omega, by have := HN.out; omega⟩ ⟨by have := HN.out; omega, by have := HN.out; omega⟩
                        have M17 := Mp.turned (Mp.below H10.out.2.2.1 HB16.out) HT16.out.1.right hK17 (by have := HN.out; omega) (by have := HN.out; omega)
                        have hln := evStep_len cl1 ev1.length ⟨nm.toArray⟩ now
                        rw [← HST.out] at hln
                        have HT : Hid (KpI w.heap.size w p b p2 b2 kp km mm (j + 1) evs.length W17) := Lib.hid ⟨n, D, _, _, _, T17, by rw [List.length_append, List.length_append, HJ.out.1], by have := HJ.out.2.1; rw [List.length_append]; omega, K17, M17, HJ.out.2.2.1, by have := HJ.out.2.2.2; omega, HT16.out.2.2.2.trans b17⟩
                        clear hE2 hS17 b17 hK17 T17 K17 M17 hln CE x1 r0 r1 r2 r3 r4
                        obtain ⟨n', D', e1', e2', c', T', he', hel', K', M', hD', hn', hB'⟩ := HT.out
                        have CL := Lib.hid (klen_any K')
                        have CS := Lib.hid (same16_any T'.left T'.right he' (by have h1 := HEV.out; omega))
                        have HI := Lib.hid (fun (W0' : World) (hb : Below W17.heap.size W17 W0') => (show KpI w.heap.size w p b p2 b2 kp km mm (j + 1) evs.length W0' from ⟨n', D', e1', e2', c', T'.below hb, he', hel', K'.below hb, Mp.below M' hb, hD', hn', below_tr hB' hb⟩))
                        clear T' he' hel' K' hD' hn' hB' HT
                        go_wp2_with fail
                        refine CL.out.mono ?_
                        rintro e w' ⟨rfl, hww⟩
                        subst hww
                        go_wp2_with (at_len; refine wpl_len_map rfl _ 66 rfl 9 24 Tryz.underlying66 mm n' D' rfl M' ?_)
                        refine CS.out.mono ?_
                        rintro e W99 ⟨rfl, b99⟩
                        have HI2 := Lib.hid (HI.out _ b99)
                        clear b99 M' CL CS HI
                        go_wp2_with fail
                        exact ⟨⟨j + 1, by omega, by go_num, HI2⟩, by simp [intOf]; omega⟩
                      | true =>
                        cases own with
                        | false =>
                          refine wp_region_quiet_below (by kernel_rfl) (by kernel_rfl) ?_
                          repeat (go_big_quiet_step (fail))
                          refine wpQuiet_nil ?_
                          rintro _ ⟨rp, rfl⟩
                          have hBz := below_regrown W15 rp.d rp.os
                          generalize «Sort».grow (redrawn W15 rp.d) rp.os = W16 at hBz ⊢
                          have bR16 := below_tr H14.out.2.2.2.1 hBz
                          have x1 := (HR.out.2.2.below' bR16).cell 1
                          have HB16 := Lib.hid bR16
                          clear z12 e12 hBz bR16
                          have T16 := H10.out.1.below HB16.out
                          obtain ⟨G2, hSG2, hturn2⟩ := T16.swap.turn
                          have hB16 : Below w.heap.size w W16 := below_tr H10.out.2.2.2 HB16.out
                          have CE := Lib.hid (gevict_any hSG2 (by have h1 := HJ.out.1; have h2 := HJ.out.2.1; have h3 := HEV.out; omega) hB16.size ⟨nm.toArray⟩ HNM.out.2.2.1 now HN0.out)
                          have HT16 := Lib.hid (And.intro T16 (And.intro hSG2 (And.intro hturn2 hB16)))
                          clear T16 hSG2 hturn2 hB16
                          go_wp2_with fail
                          refine CE.out.mono ?_
                          rintro e W17 hE2
                          obtain ⟨rfl, hS17, b17, hK17⟩ := hE2.step HT16.out.2.1 HT16.out.2.2.2.size
                          rw [HJ.out.1, ← HST.out] at hS17 ⊢
                          have T17 := (HT16.out.2.2.1 _ _ _ hS17 hK17).swap
                          have K17 := (H10.out.2.1.below HB16.out).turned HT16.out.1.right hK17 ⟨by have := HN.out; omega, by have := HN.out; omega⟩ ⟨by have := HN.out; omega, by have := HN.out; omega⟩
                          have M17 := Mp.turned (Mp.below H10.out.2.2.1 HB16.out) HT16.out.1.right hK17 (by have := HN.out; omega) (by have := HN.out; omega)
                          have hln := evStep_len cl1 ev1.length ⟨nm.toArray⟩ now
                          rw [← HST.out] at hln
                          have HT : Hid (KpI w.heap.size w p b p2 b2 kp km mm (j + 1) evs.length W17) := Lib.hid ⟨n, D, _, _, _, T17, by rw [List.length_append, List.length_append, HJ.out.1], by have := HJ.out.2.1; rw [List.length_append]; omega, K17, M17, HJ.out.2.2.1, by have := HJ.out.2.2.2; omega, HT16.out.2.2.2.trans b17⟩
                          clear hE2 hS17 b17 hK17 T17 K17 M17 hln CE x1 r0 r1 r2 r3 r4
                          obtain ⟨n', D', e1', e2', c', T', he', hel', K', M', hD', hn', hB'⟩ := HT.out
                          have CL := Lib.hid (klen_any K')
                          have CS := Lib.hid (same16_any T'.left T'.right he' (by have h1 := HEV.out; omega))
                          have HI := Lib.hid (fun (W0' : World) (hb : Below W17.heap.size W17 W0') => (show KpI w.heap.size w p b p2 b2 kp km mm (j + 1) evs.length W0' from ⟨n', D', e1', e2', c', T'.below hb, he', hel', K'.below hb, Mp.below M' hb, hD', hn', below_tr hB' hb⟩))
                          clear T' he' hel' K' hD' hn' hB' HT
                          go_wp2_with fail
                          refine CL.out.mono ?_
                          rintro e w' ⟨rfl, hww⟩
                          subst hww
                          go_wp2_with (at_len; refine wpl_len_map rfl _ 66 rfl 9 24 Tryz.underlying66 mm n' D' rfl M' ?_)
                          refine CS.out.mono ?_
                          rintro e W99 ⟨rfl, b99⟩
                          have HI2 := Lib.hid (HI.out _ b99)
                          clear b99 M' CL CS HI
                          go_wp2_with fail
                          exact ⟨⟨j + 1, by omega, by go_num, HI2⟩, by simp [intOf]; omega⟩
                        | true =>
                          cases hp2 : ph == 2 with
                          | false =>
                            refine wp_region_quiet_below (by kernel_rfl) (by kernel_rfl) ?_
                            repeat (go_big_quiet_step (fail))
                            refine wpQuiet_nil ?_
                            rintro _ ⟨rp, rfl⟩
                            have hBz := below_regrown W15 rp.d rp.os
                            generalize «Sort».grow (redrawn W15 rp.d) rp.os = W16 at hBz ⊢
                            have bR16 := below_tr H14.out.2.2.2.1 hBz
                            have x1 := (HR.out.2.2.below' bR16).cell 1
                            have HB16 := Lib.hid bR16
                            clear z12 e12 hBz bR16
                            have T16 := H10.out.1.below HB16.out
                            obtain ⟨G2, hSG2, hturn2⟩ := T16.swap.turn
                            have hB16 : Below w.heap.size w W16 := below_tr H10.out.2.2.2 HB16.out
                            have CE := Lib.hid (gevict_any hSG2 (by have h1 := HJ.out.1; have h2 := HJ.out.2.1; have h3 := HEV.out; omega) hB16.size ⟨nm.toArray⟩ HNM.out.2.2.1 now HN0.out)
                            have HT16 := Lib.hid (And.intro T16 (And.intro hSG2 (And.intro hturn2 hB16)))
                            clear T16 hSG2 hturn2 hB16
                            go_wp2_with fail
                            refine CE.out.mono ?_
                            rintro e W17 hE2
                            obtain ⟨rfl, hS17, b17, hK17⟩ := hE2.step HT16.out.2.1 HT16.out.2.2.2.size
                            rw [HJ.out.1, ← HST.out] at hS17 ⊢
                            have T17 := (HT16.out.2.2.1 _ _ _ hS17 hK17).swap
                            have K17 := (H10.out.2.1.below HB16.out).turned HT16.out.1.right hK17 ⟨by have := HN.out; omega, by have := HN.out; omega⟩ ⟨by have := HN.out; omega, by have := HN.out; omega⟩
                            have M17 := Mp.turned (Mp.below H10.out.2.2.1 HB16.out) HT16.out.1.right hK17 (by have := HN.out; omega) (by have := HN.out; omega)
                            have hln := evStep_len cl1 ev1.length ⟨nm.toArray⟩ now
                            rw [← HST.out] at hln
                            have HT : Hid (KpI w.heap.size w p b p2 b2 kp km mm (j + 1) evs.length W17) := Lib.hid ⟨n, D, _, _, _, T17, by rw [List.length_append, List.length_append, HJ.out.1], by have := HJ.out.2.1; rw [List.length_append]; omega, K17, M17, HJ.out.2.2.1, by have := HJ.out.2.2.2; omega, HT16.out.2.2.2.trans b17⟩
                            clear hE2 hS17 b17 hK17 T17 K17 M17 hln CE x1 r0 r1 r2 r3 r4
                            obtain ⟨n', D', e1', e2', c', T', he', hel', K', M', hD', hn', hB'⟩ := HT.out
                            have CL := Lib.hid (klen_any K')
                            have CS := Lib.hid (same16_any T'.left T'.right he' (by have h1 := HEV.out; omega))
                            have HI := Lib.hid (fun (W0' : World) (hb : Below W17.heap.size W17 W0') => (show KpI w.heap.size w p b p2 b2 kp km mm (j + 1) evs.length W0' from ⟨n', D', e1', e2', c', T'.below hb, he', hel', K'.below hb, Mp.below M' hb, hD', hn', below_tr hB' hb⟩))
                            clear T' he' hel' K' hD' hn' hB' HT
                            go_wp2_with fail
                            refine CL.out.mono ?_
                            rintro e w' ⟨rfl, hww⟩
                            subst hww
                            go_wp2_with (at_len; refine wpl_len_map rfl _ 66 rfl 9 24 Tryz.underlying66 mm n' D' rfl M' ?_)
                            refine CS.out.mono ?_
                            rintro e W99 ⟨rfl, b99⟩
                            have HI2 := Lib.hid (HI.out _ b99)
                            clear b99 M' CL CS HI
                            go_wp2_with fail
                            exact ⟨⟨j + 1, by omega, by go_num, HI2⟩, by simp [intOf]; omega⟩
                          | true =>
                            obtain ⟨i, hf1⟩ : ∃ i, findN 1 ⟨nm.toArray⟩ cl1 = some i := by
                              have h := HTH.out
                              cases hf : findN 1 ⟨nm.toArray⟩ cl1 with
                              | none =>
                                rw [hf] at h
                                cases h
                              | some i => exact ⟨i, rfl⟩
                            obtain ⟨i2, hf2⟩ : ∃ i2, findN 0 y.p.owner cl1 = some i2 := by
                              have h := HO.out.1
                              cases hf : findN 0 y.p.owner cl1 with
                              | none =>
                                rw [hf] at h
                                cases h
                              | some i => exact ⟨i, rfl⟩
                            obtain ⟨hi1, _, _⟩ := findN_some hf1
                            obtain ⟨hi2, hkk2, hn2⟩ := findN_some hf2
                            obtain ⟨_, hnf2⟩ := H14.out.2.1 i2 hf2
                            have hnm2 : y2.name = y.p.owner := by rw [(nf_key hnf2).2, hn2]
                            have hrw : y2.w.replicas = cl1[i2].w.replicas := by
                              have h : (nf y2).w = (nf cl1[i2]).w := by rw [hnf2]
                              exact (congrArg Wl.replicas h : (nf y2).w.replicas = (nf cl1[i2]).w.replicas)
                            have hRk : okR cl1[i2].w.replicas = true := wl_may hkk2 (by
                              obtain ⟨_, _, _, _, _, _, _, _, hg⟩ := HR.out.1
                              exact hg _ (List.getElem_mem _))
                            obtain ⟨R, hR⟩ : ∃ R : Nat, R = cl1[i2].w.replicas.toNat := ⟨_, rfl⟩
                            have hRe : cl1[i2].w.replicas = (R : Int) := by
                              have := okR_t hRk
                              omega
                            have hRk' : okR (R : Int) = true := by rw [← hRe]; exact hRk
                            have e1 : W15.cell? ⟨W13.heap.size, 1, none⟩ = some (.string y.p.owner) := by rw [← hnm2]; exact H14.out.1.cell 1
                            have e3 : W15.cell? ⟨W13.heap.size, 3, none⟩ = some (.int .i64 (R : Int)) := by rw [← hRe, ← hrw]; exact H14.out.1.cell 3
                            obtain ⟨nr, hnn⟩ : ∃ n, n = rdy cl1 y.p.owner := ⟨_, rfl⟩
                            obtain ⟨m, hmm⟩ : ∃ m, m = mustN k' v' pc' R := ⟨_, rfl⟩
                            have CRd := Lib.hid (fun (w1 : World) (hb1 : Below W15.heap.size W15 w1) => lready_any ((HR.out.1.below H14.out.2.2.2.1).below hb1) HCL.out y.p.owner)
                            rw [← hnn] at CRd
                            have CRm := Lib.hid (fun w1 => lawmust_ok k' v' pc' R w1 HO.out.2.2.2.2.1 hRk')
                            rw [← hmm] at CRm
                            have HC := Lib.hid (And.intro hf1 (And.intro hi1 (And.intro hf2 (And.intro hi2 (And.intro hnn (And.intro hmm hR))))))
                            have z1 := cell_regrown e1
                            have z3 := cell_regrown e3
                            have HFW : Hid (nr ≤ m → FewC cl1 D nm) := Lib.hid (fun hle => by
                              obtain ⟨hf1, hi1, hf2, hi2, q1, q2, q3⟩ := id HC.out
                              obtain ⟨y1, y3⟩ := HY.out i hf1 hi1
                              refine ⟨i, hi1, i2, hi2, k', v', pc', hf1, by rw [y3]; exact hf2, y1.trans (by simpa using hp2), ?_, ?_, ?_⟩
                              · rw [y3, ← HO.out.2.1]
                                exact HO.out.2.2.2.2.2.symm
                              · rw [y3, ← HO.out.2.1]
                                exact HO.out.2.2.2.1
                              · rw [y3, ← q1, ← q3, ← q2]
                                exact hle)
                            clear hf1 hf2 hkk2 hn2 hnf2 hnm2 hrw hRk hR hRe hRk' hnn hmm e1 e3
                            refine wp_region_quiet_below (by kernel_rfl) (by kernel_rfl) ?_
                            repeat (go_big_quiet_step ((go_at_call 11; (with_reducible exact Calls.regrown_of (CRd.out _ (below_regrown _ _ _))))))
                            refine q_loadgd H14.out.2.2.1 rfl 24 (.tmp 21) rfl rfl _ Tryz.underlying24 rfl (by kernel_rfl) ?_
                            repeat (quiet_step ((go_at_call 12; (with_reducible exact Calls.regrown_of (CRm.out _)))))
                            refine wpQuiet_nil ?_
                            rintro _ ⟨rp, rfl⟩
                            have hBz := below_regrown W15 rp.d rp.os
                            generalize «Sort».grow (redrawn W15 rp.d) rp.os = W16 at hBz ⊢
                            have bR16 := below_tr H14.out.2.2.2.1 hBz
                            have x1 := (HR.out.2.2.below' bR16).cell 1
                            have HB16 := Lib.hid bR16
                            clear z12 z1 z3 CRd CRm e12 hBz bR16
                            cases hle : decide (nr ≤ m) with
                            | true => exact absurd (HFW.out (of_decide_eq_true hle)) hfew
                            | false =>
                              have hle9 : ¬ nr ≤ m := of_decide_eq_false hle
                              have hle2 : decide ((nr : Int) ≤ (m : Int)) = false := decide_eq_false (by omega)
                              have hle4 : ¬ (nr : Int) ≤ (m : Int) := by omega
                              have T16 := H10.out.1.below HB16.out
                              obtain ⟨G2, hSG2, hturn2⟩ := T16.swap.turn
                              have hB16 : Below w.heap.size w W16 := below_tr H10.out.2.2.2 HB16.out
                              have CE := Lib.hid (gevict_any hSG2 (by have h1 := HJ.out.1; have h2 := HJ.out.2.1; have h3 := HEV.out; omega) hB16.size ⟨nm.toArray⟩ HNM.out.2.2.1 now HN0.out)
                              have HT16 := Lib.hid (And.intro T16 (And.intro hSG2 (And.intro hturn2 hB16)))
                              clear T16 hSG2 hturn2 hB16
                              go_wp2_with fail
                              refine CE.out.mono ?_
                              rintro e W17 hE2
                              obtain ⟨rfl, hS17, b17, hK17⟩ := hE2.step HT16.out.2.1 HT16.out.2.2.2.size
                              rw [HJ.out.1, ← HST.out] at hS17 ⊢
                              have T17 := (HT16.out.2.2.1 _ _ _ hS17 hK17).swap
                              have K17 := (H10.out.2.1.below HB16.out).turned HT16.out.1.right hK17 ⟨by have := HN.out; omega, by have := HN.out; omega⟩ ⟨by have := HN.out; omega, by have := HN.out; omega⟩
                              have M17 := Mp.turned (Mp.below H10.out.2.2.1 HB16.out) HT16.out.1.right hK17 (by have := HN.out; omega) (by have := HN.out; omega)
                              have hln := evStep_len cl1 ev1.length ⟨nm.toArray⟩ now
                              rw [← HST.out] at hln
                              have HT : Hid (KpI w.heap.size w p b p2 b2 kp km mm (j + 1) evs.length W17) := Lib.hid ⟨n, D, _, _, _, T17, by rw [List.length_append, List.length_append, HJ.out.1], by have := HJ.out.2.1; rw [List.length_append]; omega, K17, M17, HJ.out.2.2.1, by have := HJ.out.2.2.2; omega, HT16.out.2.2.2.trans b17⟩
                              clear hE2 hS17 b17 hK17 T17 K17 M17 hln CE x1 r0 r1 r2 r3 r4
                              obtain ⟨n', D', e1', e2', c', T', he', hel', K', M', hD', hn', hB'⟩ := HT.out
                              have CL := Lib.hid (klen_any K')
                              have CS := Lib.hid (same16_any T'.left T'.right he' (by have h1 := HEV.out; omega))
                              have HI := Lib.hid (fun (W0' : World) (hb : Below W17.heap.size W17 W0') => (show KpI w.heap.size w p b p2 b2 kp km mm (j + 1) evs.length W0' from ⟨n', D', e1', e2', c', T'.below hb, he', hel', K'.below hb, Mp.below M' hb, hD', hn', below_tr hB' hb⟩))
                              clear T' he' hel' K' hD' hn' hB' HT
                              go_wp2_with fail
                              refine CL.out.mono ?_
                              rintro e w' ⟨rfl, hww⟩
                              subst hww
                              go_wp2_with (at_len; refine wpl_len_map rfl _ 66 rfl 9 24 Tryz.underlying66 mm n' D' rfl M' ?_)
                              refine CS.out.mono ?_
                              rintro e W99 ⟨rfl, b99⟩
                              have HI2 := Lib.hid (HI.out _ b99)
                              clear b99 M' CL CS HI
                              go_wp2_with fail
                              exact ⟨⟨j + 1, by omega, by go_num, HI2⟩, by simp [intOf]; omega⟩
        · have hjl : j = acts.length := by omega
          have HE := Lib.hid hBw
          clear hT he hel hK hMm hD hn hBw
          go_wp2_with fail
          refine (knone_set ⟨#[97]⟩ 0 0 false wr).mono ?_
          rintro e W6 ⟨rfl, b6⟩
          have H6 := Lib.hid (below_tr HE.out b6)
          clear b6
          go_wp2_with fail
          refine (knone_remove ⟨#[97]⟩ W6).mono ?_
          rintro e w' ⟨rfl, hww⟩
          subst hww
          go_wp2_with fail
          refine (knone_evict (.pointer (some ⟨p, 0, none⟩)) ⟨#[97]⟩ 0 W6).mono ?_
          rintro e w' ⟨rfl, hww⟩
          subst hww
          go_wp2_with fail
          refine (knone_len W6).mono ?_
          rintro e w' ⟨rfl, hww⟩
          subst hww
          go_wp2_with fail
          go_ret
          exact ⟨rfl, H6.out⟩
end Go.Proofs.YtcbnmoghjhljbaaGreat
end
section
namespace Go.Proofs.YtcbnmoghjhljbaaGreat
open Go.RowKit Go.Proofs.Mem
set_option linter.unusedVariables false
theorem bud_of {w : World} {cs : List Value} {m : Nat} (h : Mem.Ok Tryz.prog w (m + 2) 24 cs) : ∃ (k v : Int) (p : Bool), cs = [.int .i64 k, .int .i64 v, .bool p] := by
  obtain ⟨hl, hf⟩ := ok_struct (n := m + 1) Tryz.underlying24 h
  rw [show Tryz.prog.cellsOf 24 = 3 by kernel_rfl] at hl
  obtain ⟨k, e0, _⟩ := ok_int (n := m) Tryz.underlying3 (ok_field hf 0 3 0 1 rfl (by kernel_rfl))
  obtain ⟨v, e1, _⟩ := ok_int (n := m) Tryz.underlying3 (ok_field hf 1 3 1 1 rfl (by kernel_rfl))
  obtain ⟨p, e2⟩ := ok_bool (n := m) Tryz.underlying4 (ok_field hf 2 4 2 1 rfl (by kernel_rfl))
  exact ⟨k, v, p, three_of hl (Go.Proofs.Mem.one_cell e0) (Go.Proofs.Mem.one_cell e1) (Go.Proofs.Mem.one_cell e2)⟩
theorem five_parts {cs : List Value} {a b c d e : Value} (hl : cs.length = 5) (h0 : (cs.drop 0).take 1 = [a]) (h1 : (cs.drop 1).take 1 = [b]) (h2 : (cs.drop 2).take 3 = [c, d, e]) : cs = [a, b, c, d, e] := by
  match cs, hl with
  | [x0, x1, x2, x3, x4], _ =>
    simp at h0 h1 h2
    obtain ⟨h2, h3, h4⟩ := h2
    rw [h0, h1, h2, h3, h4]
theorem actsB_of {w : World} {A : Option Addr} {n c m : Nat} (h : Mem.Ok Tryz.prog w (m + 4) 63 (Value.slice A n c).cells.toList) :
    ∃ xs : List KA, xs.length = n ∧ Sl w 5 (.slice A n c) n (xs.flatMap KA.cells) := by
  have hco : Tryz.prog.cellsOf 68 = 5 := by kernel_rfl
  obtain ⟨v, m', xs, e1, hS, hm, hel⟩ := ok_slice Tryz.underlying63 h (by omega)
  rw [hco] at hS hel
  have e2 : v = .slice A n c := by simp [Value.cells] at e1; exact e1.symm
  subst e2
  obtain ⟨rfl, _, _, hl, _⟩ := hS.parts
  obtain ⟨l, h1, h2, _⟩ := rows_of (s := 5) KA.cells (fun _ => True) _ xs hl (fun i hi => by
    obtain ⟨hl5, hf⟩ := ok_struct (n := m + 2) Tryz.underlying68 (hel i hi)
    rw [hco] at hl5
    obtain ⟨kind, f0, _⟩ := ok_int (n := m + 1) Tryz.underlying3 (ok_field hf 0 3 0 1 rfl (by kernel_rfl))
    obtain ⟨s, f1, _⟩ := ok_string (n := m + 1) Tryz.underlying9 (ok_field hf 1 9 1 1 rfl (by kernel_rfl))
    obtain ⟨k, v, p, f2⟩ := bud_of (m := m) (ok_field hf 2 24 2 3 rfl (by kernel_rfl))
    refine ⟨⟨kind, s.data.toList, k, v, p⟩, ?_, trivial⟩
    rw [five_parts hl5 f0 f1 f2]
    show _ = [Value.int .i64 kind, Value.string ⟨s.data.toList.toArray⟩, _, _, _]
    rw [ba_eta])
  exact ⟨l, h1, by rw [← h2]; exact hS⟩
theorem budgetKeeps_walk (A : Option Addr) (n c : Nat) (A2 : Option Addr) (n2 c2 : Nat) (now : Int) (w : World) (h : Mem.Ok Tryz.prog w 9 22 (Value.slice A n c).cells.toList) (h2 : Mem.Ok Tryz.prog w 9 63 (Value.slice A2 n2 c2).cells.toList) (hw : Lit.wf (.int .i64 now) = true) :
    Calls Tryz.prog 4 #[.slice A n c, .slice A2 n2 c2, .int .i64 now] w fun e w' => e = .returned (.bool true) ∧ Below w.heap.size w w' := by
  obtain ⟨l, e1, m1, s1, o1⟩ := obs_of (m := 2) h
  obtain ⟨l2, e2, s2⟩ := actsB_of (m := 5) h2
  subst e1 e2
  exact budgetKeeps_any w A c l s1 o1 m1 A2 c2 l2 s2 now
end Go.Proofs.YtcbnmoghjhljbaaGreat
end
