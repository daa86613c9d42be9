/-
  The walks of package ring, at ints. (printed by wip/gen_ring.py)
-/
import Derived.Test.YtjiliegfcljjhaaGreatRing
import Derived.Test.YtjiliegfcljjhaaGreatProg
import Derived.Test.YtjiliegfcljjhaaGreatQuiet
import Derived.Deep.DeepCutAuto
namespace Go.Proofs.YtjiliegfcljjhaaGreat
open Go.RowKit Go.Proofs.Mem
set_option linter.unusedVariables false
set_option linter.unusedSimpArgs false
abbrev RingI := @RingAt Int (Value.int .i64) 159 131
set_option maxRecDepth 100000 in
theorem lenI_nil (w : World) : Calls Tryz.prog 71 #[.pointer none] w fun e w' => e = .returned (.int .i64 0) ∧ w = w' := by
  go_enter Tryz.func71, Tryz.ntmps71
  go_wp2_with fail
  go_ret
  exact ⟨rfl, rfl⟩
set_option maxRecDepth 100000 in
theorem lenI_any {p q f n : Nat} {zs : List (Int × Int)} (w : World) (h : RingI w p q zs f n) : Calls Tryz.prog 71 #[.pointer (some ⟨p, 0, none⟩)] w fun e w' => e = .returned (.int .i64 n) ∧ w = w' := by
  have c2 := h.c2
  clear h
  go_enter Tryz.func71, Tryz.ntmps71
  go_wp2_with fail
  go_ret
  exact ⟨rfl, rfl⟩
set_option maxRecDepth 100000 in
theorem atI_any {p q f n : Nat} {zs : List (Int × Int)} (i : Nat) (hi : i ≤ 32) (w : World) (h : RingI w p q zs f n) :
    Calls Tryz.prog 53 #[.pointer (some ⟨p, 0, none⟩), .int .i64 i] w fun e w' => e = .returned (.int .i64 ((f + i) % zs.length : Nat)) ∧ Below w.heap.size w w' := by
  obtain ⟨c, hcc, c0⟩ := h.c0
  have c1 := h.c1
  have hf := h.hf
  have hl := h.hl
  clear h
  obtain ⟨N, hN⟩ : ∃ N, N = zs.length := ⟨_, rfl⟩
  rw [← hN] at c0 hcc hf hl ⊢
  clear hN
  obtain ⟨k, hk⟩ : ∃ k, k = (f + i) % N := ⟨_, rfl⟩
  have hm : ((f : Int) + (i : Int)).tmod (N : Int) = (k : Int) := by rw [hk, ← tmod_nat]; rfl
  have hN0 : ((N : Int) == 0) = false := by simp; omega
  rw [← hk]
  have hk2 : k < N := by rw [hk]; exact Nat.mod_lt _ (by omega)
  have b1 : (f : Int) ≤ 32 := by omega
  have b2 : (i : Int) ≤ 32 := by omega
  have b3 : (k : Int) ≤ 32 := by omega
  clear hk
  go_enter Tryz.func53, Tryz.ntmps53
  go_wp2_with fail
  go_quiet (fail)
  go_wp2_with fail
  go_ret
  exact ⟨rfl, below_drewN (Below.refl _ _) _⟩
set_option maxHeartbeats 200000 in
set_option maxRecDepth 100000 in
theorem lastI_nil (w : World) : Calls Tryz.prog 51 #[.pointer none] w fun e w' => e = .returned (.tuple #[.agg #[.int .i64 0, .int .i64 0], .bool false]) ∧ Below w.heap.size w w' := by
  go_enter Tryz.func51, Tryz.ntmps51
  go_wp2_with fail
  refine (lenI_nil _).mono ?_
  rintro e w1 ⟨rfl, rfl⟩
  go_wp2_with fail
  refine bodyPost_ret (v := .tuple #[.agg #[.int .i64 0, .int .i64 0], .bool false]) (by simp [results, Tryz.results51, go_sem]) rfl ⟨rfl, below_al _ _⟩
set_option maxHeartbeats 200000 in
set_option maxRecDepth 100000 in
theorem lastI_any {p q f n : Nat} {zs : List (Int × Int)} (w : World) (h : RingI w p q zs f n) (hn : 0 < n) (k : Nat) (hk : k = (f + (n - 1)) % zs.length) (hkl : k < zs.length) :
    Calls Tryz.prog 51 #[.pointer (some ⟨p, 0, none⟩)] w fun e w' => e = .returned (.tuple #[.agg #[.int .i64 zs[k].1, .int .i64 zs[k].2], .bool true]) ∧ Below w.heap.size w w' := by
  have C0 := Lib.hid (fun w1 (hb : Below w.heap.size w w1) => lenI_any w1 (h.below hb))
  have C1 := Lib.hid (fun w1 (hb : Below w.heap.size w w1) => atI_any (n - 1) (by have := h.hn; have := h.hl; omega) w1 (h.below hb))
  rw [← hk] at C1
  obtain ⟨c, hcc, c0⟩ := h.c0
  have c2 := h.c2
  have z0 := h.z0 k hkl
  have z1 := h.z1 k hkl
  have hp := h.plt
  have hq := h.qlt
  have hnl := h.hn
  have hll := h.hl
  clear h hk
  generalize zs[k] = x at z0 z1 ⊢
  obtain ⟨at1, val⟩ := x
  simp only at z0 z1 ⊢
  obtain ⟨N, hN⟩ : ∃ N, N = zs.length := ⟨_, rfl⟩
  rw [← hN] at c0 hcc hkl hll hnl
  clear hN
  have e1 : ((n - 1 : Nat) : Int) = (n : Int) - 1 := by omega
  rw [e1] at C1
  have b1 : (n : Int) ≤ 32 := by omega
  have b2 : ((n : Int) == 0) = false := by simp; omega
  have hwr : IntKind.i64.wrap ((n : Int) - 1) = (n : Int) - 1 := by simp [IntKind.wrap, IntKind.signed, IntKind.bits]; omega
  have hkz : Bk (w.alloc (.cells #[.int .i64 0, .int .i64 0] 131)) w.heap.size 131 #[.int .i64 0, .int .i64 0] := Bk.new w _ _
  obtain ⟨W1, hW1⟩ : ∃ W1, W1 = w.alloc (.cells #[.int .i64 0, .int .i64 0] 131) := ⟨_, rfl⟩
  have hB1 : Below w.heap.size w W1 := by rw [hW1]; exact below_al _ _
  have d0 := keep_cell hB1 c0
  have d2 := keep_cell hB1 c2
  have y0 := keep_cell hB1 z0
  have y1 := keep_cell hB1 z1
  rw [← hW1] at hkz
  have HE := Lib.hid hW1
  clear hW1 e1
  go_enter Tryz.func51, Tryz.ntmps51
  go_upto_region 1 with fail
  rw [← HE.out]
  go_wp2_with fail
  refine (C0.out _ hB1).mono ?_
  rintro e w1 ⟨rfl, rfl⟩
  clear HE
  go_wp2_with fail
  have hZ : Two W1.drew w.heap.size 131 := ⟨_, rfl, hkz⟩
  have hB0 := (Below.refl w.heap.size W1).drew
  have hgl : k * 2 + 1 < 100 := by omega
  have hadd : (⟨q, 0, none⟩ : Addr).add (k * 2) = ⟨q, k * 2, none⟩ := by rw [add_lit]; simp
  have hadd2 : (⟨q, k * 2, none⟩ : Addr).add 1 = ⟨q, k * 2 + 1, none⟩ := by rw [add_lit]
  go_region_held3 (fun w' => w'.cell? ⟨p, 0, none⟩ = some (.slice (some ⟨q, 0, none⟩) N c) ∧ w'.cell? ⟨p, 2, none⟩ = some (.int .i64 n) ∧ w'.cell? ⟨q, k * 2, none⟩ = some (.int .i64 at1) ∧ w'.cell? ⟨q, k * 2 + 1, none⟩ = some (.int .i64 val) ∧ Two w' w.heap.size 131 ∧ Below w.heap.size W1 w')
    (first | (with_reducible exact keepRs hp hq _ _ (keepRs hp hq _ _ (by assumption))) | (with_reducible exact keepR hp hq (by assumption) hb9) | (exact ⟨d0, d2, y0, y1, hZ, hB0⟩) | (with_reducible assumption))
    (first
      | (go_at_call 53; refine (C1.out _ (hB1.trans (by with_reducible assumption : _ ∧ _ ∧ _ ∧ _ ∧ Two _ w.heap.size 131 ∧ Below w.heap.size W1 _).2.2.2.2.2)).mono ?_; rintro e wa ⟨rfl, hb9⟩; have hZ9 := ((by with_reducible assumption : _ ∧ _ ∧ _ ∧ _ ∧ Two _ w.heap.size 131 ∧ Below w.heap.size W1 _).2.2.2.2.1).below hb9; obtain ⟨t0, t1, u0, u1, v0, v1⟩ := hZ9.facts))
  have hBF := hB1.trans (by with_reducible assumption : _ ∧ _ ∧ _ ∧ _ ∧ _ ∧ Below w.heap.size W1 ((wa.setCell ⟨w.heap.size, 0, none⟩ (.int .i64 at1)).setCell ⟨w.heap.size, 1, none⟩ (.int .i64 val))).2.2.2.2.2
  obtain ⟨cs, hcs, hbk⟩ := hZ9
  have hF := setCells_whole (cs := #[.int .i64 at1, .int .i64 val]) hbk (by rw [hcs]; rfl)
  change Bk ((wa.setCell ⟨w.heap.size, 0, none⟩ (.int .i64 at1)).setCell ⟨w.heap.size, 1, none⟩ (.int .i64 val)) _ _ _ at hF
  generalize (wa.setCell ⟨w.heap.size, 0, none⟩ (.int .i64 at1)).setCell ⟨w.heap.size, 1, none⟩ (.int .i64 val) = wF at hF hBF ⊢
  have r0 := hF.cell 0
  have r1 := hF.cell 1
  clear hbk hB0 hB1 C0 C1
  go_wp2_with fail
  refine bodyPost_ret (v := .tuple #[.agg #[.int .i64 at1, .int .i64 val], .bool true]) (by simp [results, Tryz.results51, go_sem, r0, r1]) rfl ⟨rfl, hBF⟩
theorem keepPI {p q : Nat} {i0 i1 : Nat} {x0 x1 : Value} {w : World} (hne : p ≠ q) (i : Nat) (u : Value) (h : w.cell? ⟨p, i0, none⟩ = some x0 ∧ w.cell? ⟨p, i1, none⟩ = some x1) :
    (w.setCell ⟨q, i, none⟩ u).cell? ⟨p, i0, none⟩ = some x0 ∧ (w.setCell ⟨q, i, none⟩ u).cell? ⟨p, i1, none⟩ = some x1 := by
  have e : ∀ k, (w.setCell ⟨q, i, none⟩ u).cell? ⟨p, k, none⟩ = w.cell? ⟨p, k, none⟩ := fun k => World.cell?_setCell_other (w := w) (a := ⟨q, i, none⟩) (v := u) (b := ⟨p, k, none⟩) (fun e => absurd (congrArg Addr.block e) (Ne.symm hne))
  exact ⟨(e _).trans h.1, (e _).trans h.2⟩
theorem keepPcI {p : Nat} {i0 i1 : Nat} {x0 x1 : Value} {w w' : World} (h : w.cell? ⟨p, i0, none⟩ = some x0 ∧ w.cell? ⟨p, i1, none⟩ = some x1) (hB : Below w.heap.size w w') : w'.cell? ⟨p, i0, none⟩ = some x0 ∧ w'.cell? ⟨p, i1, none⟩ = some x1 := ⟨keep_cell hB h.1, keep_cell hB h.2⟩
theorem keepPdI {p q : Nat} {i0 i1 : Nat} {x0 x1 : Value} {w : World} (hne : p ≠ q) (i j : Nat) (u v : Value) (h : w.cell? ⟨p, i0, none⟩ = some x0 ∧ w.cell? ⟨p, i1, none⟩ = some x1) :
    ((w.setCell ⟨q, i, none⟩ u).setCell ⟨q, j, none⟩ v).drew.cell? ⟨p, i0, none⟩ = some x0 ∧ ((w.setCell ⟨q, i, none⟩ u).setCell ⟨q, j, none⟩ v).drew.cell? ⟨p, i1, none⟩ = some x1 := keepPI hne j v (keepPI hne i u h)
set_option maxHeartbeats 400000 in
set_option maxRecDepth 100000 in
theorem dropI_any {p q f n : Nat} {zs : List (Int × Int)} (w : World) (h : RingI w p q zs f n) (hn : 0 < n) :
    Calls Tryz.prog 52 #[.pointer (some ⟨p, 0, none⟩)] w fun e w' => e = .returned (.tuple #[]) ∧ RingI w' p q (zs.set f (0, 0)) ((f + 1) % zs.length) (n - 1) ∧ RTouch p q w w' := by
  have hd : RingI w.drew p q zs f n := h.drew
  have hR1 := (h.setZ f h.hf (0, 0)).drew
  have T1 : RTouch p q w ((w.setCell ⟨q, f * 2, none⟩ (.int .i64 0)).setCell ⟨q, f * 2 + 1, none⟩ (.int .i64 0)).drew := (((RTouch.refl p q w).setCell (a := ⟨q, f * 2, none⟩) (.inr rfl) _).setCell (a := ⟨q, f * 2 + 1, none⟩) (.inr rfl) _).trans (RTouch.of_below (Below.refl _ _).drew)
  obtain ⟨c, hcc, d0'⟩ := h.c0
  have d0 : w.drew.cell? ⟨p, 0, none⟩ = some (.slice (some ⟨q, 0, none⟩) zs.length c) := d0'
  have d1 := hd.c1
  have d1' := h.c1
  have y0 := hd.z0 f hd.hf
  have y1 := hd.z1 f hd.hf
  have f0 := hd.fq (f * 2)
  have f1 := hd.fq (f * 2 + 1)
  have v0 := h.z0 f h.hf
  have v1 := h.z1 f h.hf
  have u0 := h.fq (f * 2)
  have u1 := h.fq (f * 2 + 1)
  have hne := h.ne
  have hff := h.hf
  have hll := h.hl
  have hnl := h.hn
  have hadd : (⟨q, 0, none⟩ : Addr).add (f * 2) = ⟨q, f * 2, none⟩ := by rw [add_lit]; simp
  have hadd2 : (⟨q, f * 2, none⟩ : Addr).add 1 = ⟨q, f * 2 + 1, none⟩ := by rw [add_lit]
  have hzz : zs[f]? = some (zs[f]'hff) := List.getElem?_eq_getElem hff
  generalize (zs[f]'hff) = x at y0 y1 v0 v1 hzz
  clear h hd hzz
  obtain ⟨k, hk⟩ : ∃ k, k = (f + 1) % zs.length := ⟨_, rfl⟩
  have hkl : k < zs.length := by rw [hk]; exact Nat.mod_lt _ (by omega)
  rw [← hk]
  have HK := Lib.hid hk
  clear hk
  obtain ⟨N, hN⟩ : ∃ N, N = zs.length := ⟨_, rfl⟩
  have HN := Lib.hid hN
  rw [← hN] at d0 d0' hcc hff hll hnl hkl
  clear hN
  have b1 : (f : Int) ≤ 32 := by omega
  have b2 : (n : Int) ≤ 32 := by omega
  have b3 : (k : Int) ≤ 32 := by omega
  go_enter Tryz.func52, Tryz.ntmps52
  go_wp2_with fail
  go_region_held3 (fun w' => w'.cell? ⟨p, 0, none⟩ = some (.slice (some ⟨q, 0, none⟩) N c) ∧ w'.cell? ⟨p, 1, none⟩ = some (.int .i64 f))
    (first | (exact ⟨d0, d1⟩) | (with_reducible exact keepPdI hne _ _ _ _ ⟨d0', d1'⟩) | (with_reducible assumption))
    (fail)
  generalize ((w.setCell ⟨q, f * 2, none⟩ (.int .i64 0)).setCell ⟨q, f * 2 + 1, none⟩ (.int .i64 0)).drew = w1 at hR1 T1 ⊢
  have hlen : (zs.set f (0, 0)).length = N := by rw [List.length_set]; exact HN.out.symm
  obtain ⟨Zs, hZs⟩ : ∃ Zs, Zs = zs.set f (0, 0) := ⟨_, rfl⟩
  rw [← hZs] at hR1 hlen
  have HZ := Lib.hid hZs
  clear hZs
  have C1 := Lib.hid (atI_any 1 (by omega) w1 hR1)
  rw [hlen, HN.out, ← HK.out] at C1
  clear d0 d1 d0' d1' y0 y1 f0 f1 v0 v1 u0 u1 hadd hadd2
  go_wp2_with fail
  refine (C1.out).mono ?_
  rintro e w2 ⟨rfl, hb2⟩
  have hR2 := hR1.below hb2
  have T2 := T1.trans (RTouch.of_below hb2)
  obtain ⟨cg, hcg, g0⟩ := hR2.c0
  have g1 := hR2.c1
  have g2 := hR2.c2
  have q1 := hR2.fp 1
  have q2 := hR2.fp 2
  clear C1 hR1 T1 hb2
  have e1 : ((n - 1 : Nat) : Int) = (n : Int) - 1 := by omega
  have hwr : IntKind.i64.wrap ((n : Int) - 1) = (n : Int) - 1 := by simp [IntKind.wrap, IntKind.signed, IntKind.bits]; omega
  have hR3 := (hR2.setF k (by rw [hlen]; exact hkl)).setN (n - 1) (by rw [hlen]; omega)
  have T3 := (T2.setCell (a := ⟨p, 1, none⟩) (.inl rfl) (.int .i64 k)).setCell (a := ⟨p, 2, none⟩) (.inl rfl) (.int .i64 (n - 1 : Nat))
  rw [e1] at hR3 T3
  clear e1 hR2 T2
  go_wp2_with fail
  go_end0
  exact ⟨rfl, by rw [← HZ.out]; exact hR3, T3⟩
set_option maxHeartbeats 400000 in
set_option maxRecDepth 100000 in
theorem lastI_zero {p q f : Nat} {zs : List (Int × Int)} (w : World) (h : RingI w p q zs f 0) : Calls Tryz.prog 51 #[.pointer (some ⟨p, 0, none⟩)] w fun e w' => e = .returned (.tuple #[.agg #[.int .i64 0, .int .i64 0], .bool false]) ∧ Below w.heap.size w w' := by
  have C0 := Lib.hid (fun w1 (hb : Below w.heap.size w w1) => lenI_any w1 (h.below hb))
  clear h
  obtain ⟨W1, hW1⟩ : ∃ W1, W1 = w.alloc (.cells #[.int .i64 0, .int .i64 0] 131) := ⟨_, rfl⟩
  have hB1 : Below w.heap.size w W1 := by rw [hW1]; exact below_al _ _
  have HE := Lib.hid hW1
  clear hW1
  go_enter Tryz.func51, Tryz.ntmps51
  go_upto_region 1 with fail
  rw [← HE.out]
  go_wp2_with fail
  refine (C0.out _ hB1).mono ?_
  rintro e w1 ⟨rfl, rfl⟩
  rw [HE.out]
  go_wp2_with fail
  refine bodyPost_ret (v := .tuple #[.agg #[.int .i64 0, .int .i64 0], .bool false]) (by simp [results, Tryz.results51, go_sem]) rfl ⟨rfl, below_al _ _⟩
/-- The youngest one, or none. -/
theorem lastI_is {p q f n : Nat} {zs : List (Int × Int)} (w : World) (h : RingI w p q zs f n) : Calls Tryz.prog 51 #[.pointer (some ⟨p, 0, none⟩)] w fun e w' => ∃ (a : Int) (v : Int) (ok : Bool), e = .returned (.tuple #[.agg #[.int .i64 a, .int .i64 v], .bool ok]) ∧ (lst zs f n).getLast? = (if ok then some (a, v) else none) ∧ (ok = false → a = 0 ∧ v = 0) ∧ Below w.heap.size w w' := by
  have h0 : 0 < zs.length := Nat.lt_of_le_of_lt (Nat.zero_le _) h.hf
  rcases Nat.eq_zero_or_pos n with hn | hn
  · subst hn
    refine (lastI_zero w h).mono ?_
    rintro e w' ⟨rfl, hb⟩
    exact ⟨0, 0, false, rfl, by simp [lst_eq zs f 0 h0], fun _ => ⟨rfl, rfl⟩, hb⟩
  · refine (lastI_any w h hn _ rfl (Nat.mod_lt _ h0)).mono ?_
    rintro e w' ⟨rfl, hb⟩
    refine ⟨_, _, true, rfl, ?_, fun h => (by cases h), hb⟩
    rw [List.getLast?_eq_getElem?, lst_length zs f n h0, List.getElem?_eq_getElem (by rw [lst_length zs f n h0]; omega), lst_get zs f n (n - 1) h0 (by omega)]
    rfl
set_option maxHeartbeats 400000 in
set_option maxRecDepth 100000 in
theorem putI_nil (t : Int) (x : Int) (w : World) : Calls Tryz.prog 28 #[.pointer none, .int .i64 t, .int .i64 x] w fun e w' => e = .returned (.int .i64 1) ∧ w = w' := by
  go_enter Tryz.func28, Tryz.ntmps28
  go_wp2_with fail
  go_ret
  exact ⟨rfl, rfl⟩
set_option maxHeartbeats 400000 in
set_option maxRecDepth 100000 in
theorem putI_below {p : Nat} (t : Int) (ht : t < 0) (x : Int) (w : World) : Calls Tryz.prog 28 #[.pointer (some ⟨p, 0, none⟩), .int .i64 t, .int .i64 x] w fun e w' => e = .returned (.int .i64 1) ∧ w = w' := by
  go_enter Tryz.func28, Tryz.ntmps28
  go_wp2_with fail
  all_goals
    go_ret
    exact ⟨rfl, rfl⟩
set_option maxHeartbeats 400000 in
set_option maxRecDepth 100000 in
theorem putI_stale {p q f n : Nat} {zs : List (Int × Int)} (t : Int) (ht : 0 ≤ t) (x : Int) (w : World) (h : RingI w p q zs f n) (y : Int × Int) (hy : (lst zs f n).getLast? = some y) (hty : t ≤ y.1) :
    Calls Tryz.prog 28 #[.pointer (some ⟨p, 0, none⟩), .int .i64 t, .int .i64 x] w fun e w' => e = .returned (.int .i64 13) ∧ Below w.heap.size w w' := by
  have C0 := Lib.hid (lastI_is w h)
  rw [hy] at C0
  clear h hy
  obtain ⟨ya, yv⟩ := y
  simp only at hty
  have HY := Lib.hid hty
  clear hty
  go_enter Tryz.func28, Tryz.ntmps28
  go_wp2_with fail
  refine (C0.out).mono ?_
  rintro e w1 ⟨a, v, ok, rfl, hok, _, hb1⟩
  cases ok
  · exact absurd hok (by simp)
  · have e1 : ya = a := by simpa using congrArg (Option.map (·.1)) hok
    subst e1
    clear hok
    have hty := HY.out
    go_wp2_with fail
    all_goals
      go_ret
      exact ⟨rfl, hb1.trans ((below_al _ _).mono hb1.size)⟩
set_option maxHeartbeats 1000000 in
set_option maxRecDepth 100000 in
theorem putI_ok {p q f n : Nat} {zs : List (Int × Int)} (t : Int) (ht : 0 ≤ t) (x : Int) (w : World) (h : RingI w p q zs f n) (hy : ∀ y, (lst zs f n).getLast? = some y → y.1 < t) :
    Calls Tryz.prog 28 #[.pointer (some ⟨p, 0, none⟩), .int .i64 t, .int .i64 x] w fun e w' => e = .returned (.int .i64 0) ∧ (∃ zs' f' n', RingI w' p q zs' f' n' ∧ zs'.length = zs.length ∧ lst zs' f' n' = (if n = zs.length then (lst zs f n).drop 1 else lst zs f n) ++ [(t, x)]) ∧ RTouch p q w w' := by
  have C0 := Lib.hid (lastI_is w h)
  obtain ⟨R, hR⟩ : ∃ R : World → Prop, R = fun w' => (∃ zs' f' n', RingI w' p q zs' f' n' ∧ zs'.length = zs.length ∧ lst zs' f' n' = (if n = zs.length then (lst zs f n).drop 1 else lst zs f n) ++ [(t, x)]) ∧ RTouch p q w w' := ⟨_, rfl⟩
  have hRi : ∀ w', ((∃ zs' f' n', RingI w' p q zs' f' n' ∧ zs'.length = zs.length ∧ lst zs' f' n' = (if n = zs.length then (lst zs f n).drop 1 else lst zs f n) ++ [(t, x)]) ∧ RTouch p q w w') → R w' := fun w' h => by rw [hR]; exact h
  have HR := Lib.hid hRi
  suffices hsuf : Calls Tryz.prog 28 #[.pointer (some ⟨p, 0, none⟩), .int .i64 t, .int .i64 x] w fun e w' => e = .returned (.int .i64 0) ∧ R w' by
    refine hsuf.mono ?_
    rintro e w' ⟨rfl, h2⟩
    rw [hR] at h2
    exact ⟨rfl, h2⟩
  clear hR hRi
  have HY := Lib.hid hy
  have hH := Lib.hid h
  clear hy h
  go_enter Tryz.func28, Tryz.ntmps28
  go_wp2_with fail
  refine (C0.out).mono ?_
  rintro e w1 ⟨a, v, ok, rfl, hok, h9, hb1⟩
  clear h9
  have hst : ok = false ∨ (ok = true ∧ a < t) := by
    cases ok
    · exact .inl rfl
    · exact .inr ⟨rfl, HY.out _ hok⟩
  clear hok HY C0
  have hB2 := hb1.trans ((below_al w1 (.cells #[.int .i64 a, .int .i64 v] 131)).mono hb1.size)
  obtain ⟨W2, hW2⟩ : ∃ W2, W2 = w1.alloc (.cells #[.int .i64 a, .int .i64 v] 131) := ⟨_, rfl⟩
  rw [← hW2] at hB2
  have hkA : Bk W2 w1.heap.size 131 #[.int .i64 a, .int .i64 v] := by rw [hW2]; exact Bk.new _ _ _
  have a0 := hkA.cell 0
  have HW := Lib.hid hW2
  clear hW2 hkA
  have hR2 := hH.out.below hB2
  have T2 : RTouch p q w W2 := RTouch.of_below hB2
  obtain ⟨c, hcc, d0⟩ := hR2.c0
  have d1 := hR2.c1
  have d2 := hR2.c2
  have hlf := hR2.hf
  have hln := hR2.hn
  have hll := hR2.hl
  have h0 : 0 < zs.length := by omega
  obtain ⟨N, hN⟩ : ∃ N, N = zs.length := ⟨_, rfl⟩
  rw [← hN] at d0 hcc
  have hnN : (n = N ∧ ((n : Int) == (N : Int)) = true) ∨ (n < N ∧ ((n : Int) == (N : Int)) = false) := by
    rcases Nat.lt_or_ge n N with h1 | h1
    · exact .inr ⟨h1, by simp; omega⟩
    · exact .inl ⟨by omega, by simp; omega⟩
  have b1 : (n : Int) ≤ 32 := by omega
  have b2 : (N : Int) ≤ 32 := by omega
  have HN := Lib.hid hN
  rw [← hN] at hlf hln hll h0
  clear hN hB2
  rcases hst with rfl | ⟨rfl, hat⟩
  all_goals
    go_upto_region 4 with fail
    rw [← HW.out]
    go_wp2_with fail
    go_quiet (fail)
    have hR3 : RingI (W2.drewN nq) p q zs f n := hR2.below (below_drewN (Below.refl _ _) _)
    have T3 : RTouch p q w (W2.drewN nq) := T2.trans (RTouch.of_below (below_drewN (Below.refl _ _) _))
    generalize W2.drewN nq = W3 at hR3 T3 ⊢
    clear d0 d1 d2 T2 hR2 a0 HW
    rcases hnN with ⟨hn1, hn2⟩ | ⟨hn1, hn2⟩
    · have hn0 : 0 < n := by omega
      have CD := Lib.hid (dropI_any W3 hR3 hn0)
      have HZ : ∃ Z F M, Z = zs.set f (0, 0) ∧ F = (f + 1) % zs.length ∧ M = n - 1 := ⟨_, _, _, rfl, rfl, rfl⟩
      obtain ⟨Z, F, M, hZ1, hZ2, hZ3⟩ := HZ
      rw [← hZ1, ← hZ2, ← hZ3] at CD
      have hlst : Hid (lst Z F M = (if n = zs.length then (lst zs f n).drop 1 else lst zs f n)) := Lib.hid (by
        rw [hZ1, hZ2, hZ3, if_pos (by rw [← HN.out]; exact hn1)]
        exact lst_drop zs f n _ hH.out.hf hH.out.hn hn0)
      have hZl : Z.length = N := by rw [hZ1, List.length_set]; exact HN.out.symm
      have hMN : M < N := by omega
      clear hZ1 hZ2 hZ3 hR3 hn1
      go_wp2_with fail
      refine (CD.out).mono ?_
      rintro e W4 ⟨rfl, hR4, T4⟩
      have T5 := T3.trans T4
      clear T3 T4 CD
      go_upto_region 8 with fail
      have hML : M ≤ 32 := by omega
      have C1 := Lib.hid (fun w1 (hb : Below W4.heap.size W4 w1) => atI_any M hML w1 (hR4.below hb))
      obtain ⟨k, hk⟩ : ∃ k, k = (F + M) % Z.length := ⟨_, rfl⟩
      rw [← hk] at C1
      have hkl : k < Z.length := by rw [hk]; exact Nat.mod_lt _ (by omega)
      have hlk : Hid (lst (Z.set k (t, x)) F (M + 1) = lst Z F M ++ [(t, x)]) := Lib.hid (by rw [hk]; exact lst_push Z F M _ hR4.hf (by omega))
      clear hk
      obtain ⟨c9, hcc9, d0⟩ := hR4.c0
      have d2 := hR4.c2
      rw [hZl] at d0 hcc9
      have hkN : k < N := by omega
      have b3 : (k : Int) ≤ 32 := by omega
      have b4 : (M : Int) ≤ 32 := by omega
      have hRd := hR4.drew
      have hbW : Below W4.heap.size W4 W4.drew := (Below.refl _ _).drew
      have TW := T5.trans (RTouch.of_below (p := p) (q := q) hbW)
      have hne := hR4.ne
      have hadd : (⟨q, 0, none⟩ : Addr).add (k * 2) = ⟨q, k * 2, none⟩ := by rw [add_lit]; simp
      have hadd2 : (⟨q, k * 2, none⟩ : Addr).add 1 = ⟨q, k * 2 + 1, none⟩ := by rw [add_lit]
      clear T5
      go_region_held3 (fun w' => w'.cell? ⟨p, 0, none⟩ = some (.slice (some ⟨q, 0, none⟩) N c9) ∧ w'.cell? ⟨p, 2, none⟩ = some (.int .i64 M))
        (first | (exact ⟨d0, d2⟩) | (with_reducible exact keepPI hne _ _ (keepPI hne _ _ (by assumption))) | (with_reducible exact keepPcI (by assumption) hb9))
        (first
          | (go_at_call 53; refine (C1.out _ hbW).mono ?_; rintro e wa ⟨rfl, hb9⟩; have hRa := hRd.below hb9; have y0 := hRa.z0 k hkl; have y1 := hRa.z1 k hkl; have q0 := hRa.fq (k * 2); have q1 := hRa.fq (k * 2 + 1)))
      have hRF := hRa.setZ k hkl (t, x)
      have T6 := ((TW.trans (RTouch.of_below hb9)).setCell (a := ⟨q, k * 2, none⟩) (.inr rfl) (.int .i64 t)).setCell (a := ⟨q, k * 2 + 1, none⟩) (.inr rfl) (.int .i64 x)
      generalize (wa.setCell ⟨q, k * 2, none⟩ (.int .i64 t)).setCell ⟨q, k * 2 + 1, none⟩ (.int .i64 x) = wF at hRF T6 ⊢
      clear hRa hRd hb9 y0 y1 q0 q1 TW C1 d0 d2 hadd hadd2
      have g2 := hRF.c2
      have q2 := hRF.fp 2
      have hwr : IntKind.i64.wrap ((M : Int) + 1) = (M : Int) + 1 := by simp [IntKind.wrap, IntKind.signed, IntKind.bits]; omega
      have hRG := hRF.setN (M + 1) (by rw [List.length_set]; omega)
      have T7 := T6.setCell (a := ⟨p, 2, none⟩) (.inl rfl) (.int .i64 (M + 1 : Nat))
      have e1 : ((M + 1 : Nat) : Int) = (M : Int) + 1 := by omega
      rw [e1] at hRG T7
      have hfin := HR.out _ ⟨⟨_, _, _, hRG, (List.length_set ..).trans (hZl.trans HN.out), hlk.out.trans (congrArg (· ++ [(t, x)]) hlst.out)⟩, T7⟩
      clear e1 hRG T7 hRF T6 hlk hlst
      go_wp2_with fail
      go_ret
      exact ⟨rfl, hfin⟩
    · have hlst : Hid (lst zs f n = (if n = zs.length then (lst zs f n).drop 1 else lst zs f n)) := Lib.hid (by
        rw [if_neg (by rw [← HN.out]; omega)])
      have hZl : zs.length = N := HN.out.symm
      go_upto_region 8 with fail
      have hML : n ≤ 32 := by omega
      have C1 := Lib.hid (fun w1 (hb : Below W3.heap.size W3 w1) => atI_any n hML w1 (hR3.below hb))
      obtain ⟨k, hk⟩ : ∃ k, k = (f + n) % zs.length := ⟨_, rfl⟩
      rw [← hk] at C1
      have hkl : k < zs.length := by rw [hk]; exact Nat.mod_lt _ (by omega)
      have hlk : Hid (lst (zs.set k (t, x)) f (n + 1) = lst zs f n ++ [(t, x)]) := Lib.hid (by rw [hk]; exact lst_push zs f n _ hR3.hf (by omega))
      clear hk
      obtain ⟨c9, hcc9, d0⟩ := hR3.c0
      have d2 := hR3.c2
      rw [hZl] at d0 hcc9
      have hkN : k < N := by omega
      have b3 : (k : Int) ≤ 32 := by omega
      have b4 : (n : Int) ≤ 32 := by omega
      have hRd := hR3.drew
      have hbW : Below W3.heap.size W3 W3.drew := (Below.refl _ _).drew
      have TW := T3.trans (RTouch.of_below (p := p) (q := q) hbW)
      have hne := hR3.ne
      have hadd : (⟨q, 0, none⟩ : Addr).add (k * 2) = ⟨q, k * 2, none⟩ := by rw [add_lit]; simp
      have hadd2 : (⟨q, k * 2, none⟩ : Addr).add 1 = ⟨q, k * 2 + 1, none⟩ := by rw [add_lit]
      clear T3
      go_region_held3 (fun w' => w'.cell? ⟨p, 0, none⟩ = some (.slice (some ⟨q, 0, none⟩) N c9) ∧ w'.cell? ⟨p, 2, none⟩ = some (.int .i64 n))
        (first | (exact ⟨d0, d2⟩) | (with_reducible exact keepPI hne _ _ (keepPI hne _ _ (by assumption))) | (with_reducible exact keepPcI (by assumption) hb9))
        (first
          | (go_at_call 53; refine (C1.out _ hbW).mono ?_; rintro e wa ⟨rfl, hb9⟩; have hRa := hRd.below hb9; have y0 := hRa.z0 k hkl; have y1 := hRa.z1 k hkl; have q0 := hRa.fq (k * 2); have q1 := hRa.fq (k * 2 + 1)))
      have hRF := hRa.setZ k hkl (t, x)
      have T6 := ((TW.trans (RTouch.of_below hb9)).setCell (a := ⟨q, k * 2, none⟩) (.inr rfl) (.int .i64 t)).setCell (a := ⟨q, k * 2 + 1, none⟩) (.inr rfl) (.int .i64 x)
      generalize (wa.setCell ⟨q, k * 2, none⟩ (.int .i64 t)).setCell ⟨q, k * 2 + 1, none⟩ (.int .i64 x) = wF at hRF T6 ⊢
      clear hRa hRd hb9 y0 y1 q0 q1 TW C1 d0 d2 hadd hadd2
      have g2 := hRF.c2
      have q2 := hRF.fp 2
      have hwr : IntKind.i64.wrap ((n : Int) + 1) = (n : Int) + 1 := by simp [IntKind.wrap, IntKind.signed, IntKind.bits]; omega
      have hRG := hRF.setN (n + 1) (by rw [List.length_set]; omega)
      have T7 := T6.setCell (a := ⟨p, 2, none⟩) (.inl rfl) (.int .i64 (n + 1 : Nat))
      have e1 : ((n + 1 : Nat) : Int) = (n : Int) + 1 := by omega
      rw [e1] at hRG T7
      have hfin := HR.out _ ⟨⟨_, _, _, hRG, (List.length_set ..).trans (hZl.trans HN.out), hlk.out.trans (congrArg (· ++ [(t, x)]) hlst.out)⟩, T7⟩
      clear e1 hRG T7 hRF T6 hlk hlst
      go_wp2_with fail
      go_ret
      exact ⟨rfl, hfin⟩
end Go.Proofs.YtjiliegfcljjhaaGreat
