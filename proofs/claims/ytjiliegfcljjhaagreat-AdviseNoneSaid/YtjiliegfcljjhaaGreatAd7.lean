/-
  The walks of the adviser's of (an owner that is there), with, advice, CPU, Mem.
-/
import Derived.Test.YtjiliegfcljjhaaGreatAd6
namespace Go.Proofs.YtjiliegfcljjhaaGreat
open Go.RowKit Go.Proofs.Mem
open Go.Maps (Keyed string_keyed)
open Go.WideMaps (keyOf_string_mk)
set_option linter.unusedVariables false
set_option linter.unusedSimpArgs false
set_option maxHeartbeats 1000000 in
set_option maxRecDepth 100000 in
theorem of_old (w : World) (a b n : Nat) (D : DataW Value) (F G M H mg ls gr : Nat) (h : AdIs w a b n D F G M H mg ls gr) (s : ByteArray) (hs : s.size ≤ maxLen) (hh : Maps.has D (kO s) = true) (x y : Option Addr) (hv : valAt D (kO s) (.agg #[.pointer none, .pointer none]) = .agg #[.pointer x, .pointer y]) :
    Calls Tryz.prog 22 #[.pointer (some ⟨a, 0, none⟩), .string s] w fun e w' => e = .returned (.agg #[.pointer x, .pointer y]) ∧ Below w.heap.size w w' := by
  have hkey := keyOf_string_mk Tryz.underlying9 hs
  have hm1 := h.2.2.alloc (.cells #[.pointer none, .pointer none] 88)
  have hlk := hm1.run_look_ok strKA underAd (zeroAd _) hkey
  rw [show valAt D (Lit.string s.data.toList) (.agg #[.pointer none, .pointer none]) = _ from hv, show Maps.has D (Lit.string s.data.toList) = true from hh] at hlk
  have d7 := (h.2.1.alloc (.cells #[.pointer none, .pointer none] 88)).cell 7
  have B0 := below_tr (below_al w (.cells #[.pointer none, .pointer none] 88)) (below_al _ (.cells #[.pointer x, .pointer y] 88))
  have k4 := (Bk.new w 88 #[.pointer none, .pointer none]).alloc (.cells #[.pointer x, .pointer y] 88)
  have k5 := Bk.new (w.alloc (.cells #[.pointer none, .pointer none] 88)) 88 #[.pointer x, .pointer y]
  rw [World.size_alloc] at k5
  clear h hv hh
  have k6 := (Bk.new w 88 #[.pointer x, .pointer y]).alloc (.cells #[.pointer x, .pointer y] 88)
  have z0 := k6.cell 0
  have z1 := k6.cell 1
  have B6 := below_tr (below_al w (.cells #[.pointer x, .pointer y] 88)) (below_al _ (.cells #[.pointer x, .pointer y] 88))
  have hR : (loadVar 88 ⟨w.heap.size, 0, none⟩).run Tryz.prog ((w.alloc (.cells #[.pointer x, .pointer y] 88)).alloc (.cells #[.pointer x, .pointer y] 88)) = .ok (.agg #[.pointer x, .pointer y]) ((w.alloc (.cells #[.pointer x, .pointer y] 88)).alloc (.cells #[.pointer x, .pointer y] 88)) := by go_simp
  go_enter Tryz.func22, Tryz.ntmps22
  go_wp2_with fail
  exact bodyPost_ret (v := .agg #[.pointer x, .pointer y]) (results_cell rfl rfl hR) rfl ⟨rfl, B6⟩
theorem with_one (w : World) (a b n : Nat) (D : DataW Value) (F G M H : Nat) (h : AdIs w a b n D F G M H 150 1 1099511627776) :
    Calls Tryz.prog 30 #[.pointer (some ⟨a, 0, none⟩), .int .i64 1000] w fun e w' => e = .returned (.int .i64 1150) ∧ Below w.heap.size w w' := by
  have HS := Lib.hid h
  have c4 := h.2.1.cell 4
  have CM := muldiv_some 1000 1150 1000 true w (by omega) (by omega) (by omega) (by omega)
  clear h
  go_enter Tryz.func30, Tryz.ntmps30
  go_wp2_with fail
  refine CM.mono ?_
  rintro e w1 ⟨hc, b1⟩
  have hm : mulDivN 1000 1150 1000 true = 1150 := by decide
  obtain rfl : e = .returned (.tuple #[.int .u64 1150, .int .i64 0]) := by
    rw [hm] at hc
    rcases hc with ⟨h1, _⟩ | ⟨_, h1, _⟩ | ⟨_, n, h1, _, h2⟩
    · omega
    · omega
    · subst h1; exact h2
  have HS1 := HS.out.below b1
  have c6 := HS1.2.1.cell 6
  have c5 := HS1.2.1.cell 5
  clear hc hm HS1
  go_wp2_with fail
  go_ret
  exact ⟨rfl, b1⟩
theorem perc_one (w : World) (c : Nat) (q : Int) (h : Ch w c 1000 2000 9 9 ((List.replicate 9 0).set 0 1048576) q true) (t : Nat) (h1 : 1 ≤ t) (ht : t ≤ 1000) :
    Calls Tryz.prog 29 #[.pointer (some ⟨c + 1, 0, none⟩), .int .i64 t] w fun e w' => e = .returned (.tuple #[.int .i64 1000, .bool true]) ∧ Below w.heap.size w w' := by
  have hsum : ((List.replicate 9 0).set 0 1048576).sum = 1048576 := by decide
  refine (perc_some w c 1000 2000 9 9 _ q true h (by omega) (by decide) t ht (by rw [hsum]; omega)).mono ?_
  rintro e w' ⟨⟨i, rfl, hi⟩, hb⟩
  have hi0 : i = 0 := by
    rcases i with _ | i
    · rfl
    · have h3 := hi.less
      have h4 := ChartLaw.want_le ((List.replicate 9 0).set 0 1048576).sum t (by rw [hsum]; omega) ht
      rw [hsum] at h3 h4
      have h5 : (((List.replicate 9 0).set 0 1048576).take (i + 1)).sum = 1048576 + ((List.replicate 8 0).take i).sum := rfl
      omega
  subst hi0
  exact ⟨rfl, hb⟩
theorem results_cell_two {fn : Func} {t s : Nat} {ty : TypeId} {tmps : Array Value} {w : World} {ad : Addr} {v : Value} (hf : fn.results = #[.cell t ty, .tmp s]) (hp : tmps.getD t undef = .pointer (some ad)) (hr : (loadVar ty ad).run Tryz.prog w = .ok v w) : (results fn tmps).run Tryz.prog w = .ok (.tuple #[v, tmps.getD s undef]) w := by
  have hp' : tmps[t]?.getD undef = .pointer (some ad) := by rw [← hp, Array.getD_eq_getD_getElem?]
  simp only [results, hf]
  simp [hp', asAddr, hr]
theorem load_adv {w : World} {g : Nat} {x y z : Int} (h : Bk w g 31 #[.int .i64 x, .int .i64 y, .int .i64 z]) : (loadVar 31 ⟨g, 0, none⟩).run Tryz.prog w = .ok (.agg #[.int .i64 x, .int .i64 y, .int .i64 z]) w := by
  have z0 := h.cell 0
  have z1 := h.cell 1
  have z2 := h.cell 2
  go_simp
def Z3 : Array Value := #[.int .i64 0, .int .i64 0, .int .i64 0]
def PV (w : World) : Array Value := #[.int .i64 500, .pointer (some ⟨w.heap.size + 1, 0, none⟩), .int .i64 900, .pointer (some ⟨w.heap.size + 1, 1, none⟩), .int .i64 950, .pointer (some ⟨w.heap.size + 1, 2, none⟩)]
set_option maxHeartbeats 1000000 in
set_option maxRecDepth 100000 in
theorem advice_none (w : World) (av : Value) (c F G M H : Nat) (p : Int) (met : Bool) (h : Ch w c F G M H (List.replicate M 0) p met) (hM : M ≤ 64) :
    Calls Tryz.prog 15 #[av, .pointer (some ⟨c + 1, 0, none⟩)] w fun e w' => e = .returned (.tuple #[.agg #[.int .i64 0, .int .i64 0, .int .i64 0], .bool false]) ∧ Below w.heap.size w w' := by
  have hsum : (List.replicate M 0).sum = 0 := by simp
  have CP := Lib.hid (fun (w1 : World) (hb : Below w.heap.size w w1) (t : Int) => perc_none w1 c F G M H _ p met (h.below hb) hM (fun x hx => by rw [List.eq_of_mem_replicate hx]; omega) t hsum)
  clear h hsum
  have k4 := ((Bk.new w 31 Z3).alloc (.cells Z3 31)).alloc (.cells (PV w) 115)
  have k6 := (Bk.new (w.alloc (.cells Z3 31)) 31 Z3).alloc (.cells (PV w) 115)
  have kp := Bk.new ((w.alloc (.cells Z3 31)).alloc (.cells Z3 31)) 115 (PV w)
  have B0 := below_tr (below_tr (below_al w (.cells Z3 31)) (below_al _ (.cells Z3 31))) (below_al _ (.cells (PV w) 115))
  simp only [World.size_alloc] at k4 k6 kp
  unfold PV Z3 at k4 k6 kp B0
  go_enter Tryz.func15, Tryz.ntmps15
  go_wp2_with fail
  generalize ((w.alloc (.cells #[.int .i64 0, .int .i64 0, .int .i64 0] 31)).alloc (.cells #[.int .i64 0, .int .i64 0, .int .i64 0] 31)).alloc (.cells _ 115) = w1 at k4 k6 kp B0 ⊢
  go_loopw [19] (fun i wr => i = .int .i64 0 ∧ wr = w1) (fun i wr => 0)
  case atStart => exact ⟨rfl, rfl⟩
  case round =>
    obtain ⟨rfl, rfl⟩ := hrel
    have c0 := kp.cell 0
    have c1 := kp.cell 1
    have k8 := Bk.new wr 115 #[.int .i64 500, .pointer (some ⟨w.heap.size + 1, 0, none⟩)]
    have B8 := below_tr B0 (below_al wr (.cells #[.int .i64 500, .pointer (some ⟨w.heap.size + 1, 0, none⟩)] 115))
    have k48 := k4.alloc (.cells #[.int .i64 500, .pointer (some ⟨w.heap.size + 1, 0, none⟩)] 115)
    go_wp2_with fail
    generalize wr.alloc (.cells #[.int .i64 500, .pointer (some ⟨w.heap.size + 1, 0, none⟩)] 115) = w2 at k8 B8 k48 ⊢
    refine (CP.out w2 B8 500).mono ?_
    rintro e w3 ⟨rfl, rfl⟩
    have f0 := k48.frozen 0
    have f1 := k48.frozen 1
    have f2 := k48.frozen 2
    have x0 := k48.cell 0
    have x1 := k48.cell 1
    have x2 := k48.cell 2
    go_wp2_with fail
    have k9 := ((k48.set 0 (.int .i64 0)).set 1 (.int .i64 0)).set 2 (.int .i64 0)
    simp at k9
    have B9 := ((B8.setCell (p := ⟨w.heap.size, 0, none⟩) (Nat.le_refl _) (.int .i64 0)).setCell (p := ⟨w.heap.size, 1, none⟩) (Nat.le_refl _) (.int .i64 0)).setCell (p := ⟨w.heap.size, 2, none⟩) (Nat.le_refl _) (.int .i64 0)
    exact bodyPost_ret (v := .tuple #[.agg #[.int .i64 0, .int .i64 0, .int .i64 0], .bool false]) (results_cell_two (t := 4) (s := 5) rfl rfl (load_adv k9)) rfl ⟨rfl, B9⟩
/-- The advice's cells, of which the first ones are made. -/
def outJ (j : Nat) : Array Value := #[.int .i64 (if 0 < j then 1150 else 0), .int .i64 (if 1 < j then 1150 else 0), .int .i64 (if 2 < j then 1150 else 0)]
set_option maxHeartbeats 2000000 in
set_option maxRecDepth 100000 in
theorem advice_one (w : World) (a b n : Nat) (D : DataW Value) (F G M H : Nat) (hA : AdIs w a b n D F G M H 150 1 1099511627776) (c : Nat) (q : Int) (h : Ch w c 1000 2000 9 9 ((List.replicate 9 0).set 0 1048576) q true) :
    Calls Tryz.prog 15 #[.pointer (some ⟨a, 0, none⟩), .pointer (some ⟨c + 1, 0, none⟩)] w fun e w' => e = .returned (.tuple #[.agg #[.int .i64 1150, .int .i64 1150, .int .i64 1150], .bool true]) ∧ Below w.heap.size w w' := by
  have CP := Lib.hid (fun (w1 : World) (hb : Below w.heap.size w w1) (t : Nat) (h1 : 1 ≤ t) (h2 : t ≤ 1000) => perc_one w1 c q (h.below hb) t h1 h2)
  have CW := Lib.hid (fun (w1 : World) (hb : Below w.heap.size w w1) => with_one w1 a b n D F G M H (hA.below hb))
  clear h hA
  have k4 := ((Bk.new w 31 Z3).alloc (.cells Z3 31)).alloc (.cells (PV w) 115)
  have k6 := (Bk.new (w.alloc (.cells Z3 31)) 31 Z3).alloc (.cells (PV w) 115)
  have kp := Bk.new ((w.alloc (.cells Z3 31)).alloc (.cells Z3 31)) 115 (PV w)
  have B0 := below_tr (below_tr (below_al w (.cells Z3 31)) (below_al _ (.cells Z3 31))) (below_al _ (.cells (PV w) 115))
  simp only [World.size_alloc] at k4 k6 kp
  unfold PV Z3 at k4 k6 kp B0
  go_enter Tryz.func15, Tryz.ntmps15
  go_wp2_with fail
  generalize ((w.alloc (.cells #[.int .i64 0, .int .i64 0, .int .i64 0] 31)).alloc (.cells #[.int .i64 0, .int .i64 0, .int .i64 0] 31)).alloc (.cells _ 115) = w1 at k4 k6 kp B0 ⊢
  obtain ⟨g, hg⟩ : ∃ g, g = w.heap.size := ⟨_, rfl⟩
  rw [← hg] at k4 k6 kp ⊢
  have HG := Lib.hid hg
  clear hg
  go_loopw [19] (fun i wr => ∃ j : Nat, j ≤ 3 ∧ i = .int .i64 j ∧ Bk wr g 31 #[.int .i64 0, .int .i64 0, .int .i64 0] ∧ Bk wr (g + 1) 31 (outJ j) ∧ Bk wr (g + 1 + 1) 115 #[.int .i64 500, .pointer (some ⟨g + 1, 0, none⟩), .int .i64 900, .pointer (some ⟨g + 1, 1, none⟩), .int .i64 950, .pointer (some ⟨g + 1, 2, none⟩)] ∧ Below w.heap.size w wr) (fun i wr => 3 - (intOf i).toNat)
  case atStart => exact ⟨0, by omega, rfl, k4, k6, kp, B0⟩
  case round =>
    clear k4 k6 kp B0
    obtain ⟨j, hj, rfl, m4, m6, mp, hBw⟩ := hrel
    by_cases h3 : j = 3
    · subst h3
      have x0 := m6.cell 0
      have x1 := m6.cell 1
      have x2 := m6.cell 2
      have f0 := m4.frozen 0
      have f1 := m4.frozen 1
      have f2 := m4.frozen 2
      have y0 := m4.cell 0
      have y1 := m4.cell 1
      have y2 := m4.cell 2
      have k9 := ((m4.set 0 (.int .i64 1150)).set 1 (.int .i64 1150)).set 2 (.int .i64 1150)
      simp at k9
      have hgw := HG.out
      have B9 := ((hBw.setCell (p := ⟨g, 0, none⟩) (Nat.le_of_eq hgw.symm) (.int .i64 1150)).setCell (p := ⟨g, 1, none⟩) (Nat.le_of_eq hgw.symm) (.int .i64 1150)).setCell (p := ⟨g, 2, none⟩) (Nat.le_of_eq hgw.symm) (.int .i64 1150)
      clear hgw
      simp [outJ] at x0 x1 x2
      go_wp2_with fail
      exact bodyPost_ret (v := .tuple #[.agg #[.int .i64 1150, .int .i64 1150, .int .i64 1150], .bool true]) (results_cell_two (t := 4) (s := 5) rfl rfl (load_adv k9)) rfl ⟨rfl, B9⟩
    · have hj3 : j = 0 ∨ j = 1 ∨ j = 2 := by omega
      clear hj h3
      rcases hj3 with rfl | rfl | rfl
      · have c0 := mp.cell 0
        have c1 := mp.cell 1
        have k8 := Bk.new wr 115 #[.int .i64 500, .pointer (some ⟨g + 1, 0, none⟩)]
        have B8 := below_tr hBw (below_al wr (.cells #[.int .i64 500, .pointer (some ⟨g + 1, 0, none⟩)] 115))
        have m48 := m4.alloc (.cells #[.int .i64 500, .pointer (some ⟨g + 1, 0, none⟩)] 115)
        have m68 := m6.alloc (.cells #[.int .i64 500, .pointer (some ⟨g + 1, 0, none⟩)] 115)
        have mp8 := mp.alloc (.cells #[.int .i64 500, .pointer (some ⟨g + 1, 0, none⟩)] 115)
        go_wp2_with fail
        obtain ⟨g8, hg8⟩ : ∃ g8, g8 = wr.heap.size := ⟨_, rfl⟩
        have hg18 : g + 1 + 1 < g8 := by rw [hg8]; exact mp.lt
        rw [← hg8] at k8 ⊢
        clear hg8
        generalize wr.alloc (.cells #[.int .i64 500, .pointer (some ⟨g + 1, 0, none⟩)] 115) = w2 at k8 B8 m48 m68 mp8 ⊢
        clear c0 c1 m4 m6 mp hBw
        refine (CP.out w2 B8 500 (by omega) (by omega)).mono ?_
        rintro e w3 ⟨rfl, b3⟩
        have B3 := below_tr B8 b3
        have k83 := k8.below' b3
        have m43 := m48.below' b3
        have m63 := m68.below' b3
        have mp3 := mp8.below' b3
        clear b3 B8 k8 m48 m68 mp8
        go_wp2_with fail
        have e1 := k83.cell 1
        refine wp_region_reads 4 1 (fun w' => w'.cell? ⟨g8, 1, none⟩ = some (.pointer (some ⟨g + 1, 0, none⟩))) (by kernel_rfl) (by kernel_rfl) (fun c a d v w h => by cases d <;> exact h) e1 ?_
        simp only [List.take_succ_cons, List.take_zero, List.drop_succ_cons, List.drop_zero]
        iterate 4
          refine reads_step (v := ?_) (by rfl) (fun w' hS => ?_) ?_
          rotate_left
          · go_simp
            with_reducible rfl
          simp only [Act.put, List.setIfInBounds_toArray, List.set_cons_zero, List.set_cons_succ]
        refine reads_nil ?_
        refine early_callT (.int .i64 1150) 37 _ #[.pointer (some ⟨a, 0, none⟩), .int .i64 1000] rfl rfl (by rfl) (by go_simp) (CW.out w3.drew B3.drew) ?_
        intro w4 b4
        have b4' : Below w3.heap.size w3 w4 := ⟨b4.os, b4.tape, b4.output, b4.size, b4.block⟩
        have B4 := below_tr B3 b4'
        have k84 := k83.below' b4'
        have m44 := m43.below' b4'
        have m64 := m63.below' b4'
        have mp4 := mp3.below' b4'
        refine ⟨k84.cell 1, ?_⟩
        simp only [wpEarly]
        simp only [Act.put, List.setIfInBounds_toArray, List.set_cons_zero, List.set_cons_succ]
        have f6 := m64.frozen 0
        have x6 := m64.cell 0
        have n6 := m64.set 0 (.int .i64 1150)
        have n4 := m44.far (p := ⟨g + 1, 0, none⟩) (by show g ≠ g + 1; omega) (.int .i64 1150)
        have np := mp4.far (p := ⟨g + 1, 0, none⟩) (by show g + 1 + 1 ≠ g + 1; omega) (.int .i64 1150)
        have B5 := B4.setCell (p := ⟨g + 1, 0, none⟩) (by have := HG.out; show w.heap.size ≤ g + 1; omega) (.int .i64 1150)
        rw [show (outJ 0).setIfInBounds 0 (.int .i64 1150) = outJ (0 + 1) from by simp [outJ]] at n6
        simp [outJ] at x6
        have HF := Lib.hid (And.intro n4 (And.intro n6 (And.intro np B5)))
        clear b4 b4' B3 B4 k83 k84 m43 m44 m63 m64 mp3 mp4 e1 n4 n6 np B5
        go_wp2_with fail
        exact ⟨⟨0 + 1, by omega, by go_num, HF.out.1, HF.out.2.1, HF.out.2.2.1, HF.out.2.2.2⟩, by simp [intOf]⟩
      · have c0 := mp.cell 2
        have c1 := mp.cell 3
        have k8 := Bk.new wr 115 #[.int .i64 900, .pointer (some ⟨g + 1, 1, none⟩)]
        have B8 := below_tr hBw (below_al wr (.cells #[.int .i64 900, .pointer (some ⟨g + 1, 1, none⟩)] 115))
        have m48 := m4.alloc (.cells #[.int .i64 900, .pointer (some ⟨g + 1, 1, none⟩)] 115)
        have m68 := m6.alloc (.cells #[.int .i64 900, .pointer (some ⟨g + 1, 1, none⟩)] 115)
        have mp8 := mp.alloc (.cells #[.int .i64 900, .pointer (some ⟨g + 1, 1, none⟩)] 115)
        go_wp2_with fail
        obtain ⟨g8, hg8⟩ : ∃ g8, g8 = wr.heap.size := ⟨_, rfl⟩
        have hg18 : g + 1 + 1 < g8 := by rw [hg8]; exact mp.lt
        rw [← hg8] at k8 ⊢
        clear hg8
        generalize wr.alloc (.cells #[.int .i64 900, .pointer (some ⟨g + 1, 1, none⟩)] 115) = w2 at k8 B8 m48 m68 mp8 ⊢
        clear c0 c1 m4 m6 mp hBw
        refine (CP.out w2 B8 900 (by omega) (by omega)).mono ?_
        rintro e w3 ⟨rfl, b3⟩
        have B3 := below_tr B8 b3
        have k83 := k8.below' b3
        have m43 := m48.below' b3
        have m63 := m68.below' b3
        have mp3 := mp8.below' b3
        clear b3 B8 k8 m48 m68 mp8
        go_wp2_with fail
        have e1 := k83.cell 1
        refine wp_region_reads 4 1 (fun w' => w'.cell? ⟨g8, 1, none⟩ = some (.pointer (some ⟨g + 1, 1, none⟩))) (by kernel_rfl) (by kernel_rfl) (fun c a d v w h => by cases d <;> exact h) e1 ?_
        simp only [List.take_succ_cons, List.take_zero, List.drop_succ_cons, List.drop_zero]
        iterate 4
          refine reads_step (v := ?_) (by rfl) (fun w' hS => ?_) ?_
          rotate_left
          · go_simp
            with_reducible rfl
          simp only [Act.put, List.setIfInBounds_toArray, List.set_cons_zero, List.set_cons_succ]
        refine reads_nil ?_
        refine early_callT (.int .i64 1150) 37 _ #[.pointer (some ⟨a, 0, none⟩), .int .i64 1000] rfl rfl (by rfl) (by go_simp) (CW.out w3.drew B3.drew) ?_
        intro w4 b4
        have b4' : Below w3.heap.size w3 w4 := ⟨b4.os, b4.tape, b4.output, b4.size, b4.block⟩
        have B4 := below_tr B3 b4'
        have k84 := k83.below' b4'
        have m44 := m43.below' b4'
        have m64 := m63.below' b4'
        have mp4 := mp3.below' b4'
        refine ⟨k84.cell 1, ?_⟩
        simp only [wpEarly]
        simp only [Act.put, List.setIfInBounds_toArray, List.set_cons_zero, List.set_cons_succ]
        have f6 := m64.frozen 1
        have x6 := m64.cell 1
        have n6 := m64.set 1 (.int .i64 1150)
        have n4 := m44.far (p := ⟨g + 1, 1, none⟩) (by show g ≠ g + 1; omega) (.int .i64 1150)
        have np := mp4.far (p := ⟨g + 1, 1, none⟩) (by show g + 1 + 1 ≠ g + 1; omega) (.int .i64 1150)
        have B5 := B4.setCell (p := ⟨g + 1, 1, none⟩) (by have := HG.out; show w.heap.size ≤ g + 1; omega) (.int .i64 1150)
        rw [show (outJ 1).setIfInBounds 1 (.int .i64 1150) = outJ (1 + 1) from by simp [outJ]] at n6
        simp [outJ] at x6
        have HF := Lib.hid (And.intro n4 (And.intro n6 (And.intro np B5)))
        clear b4 b4' B3 B4 k83 k84 m43 m44 m63 m64 mp3 mp4 e1 n4 n6 np B5
        go_wp2_with fail
        exact ⟨⟨1 + 1, by omega, by go_num, HF.out.1, HF.out.2.1, HF.out.2.2.1, HF.out.2.2.2⟩, by simp [intOf]⟩
      · have c0 := mp.cell 4
        have c1 := mp.cell 5
        have k8 := Bk.new wr 115 #[.int .i64 950, .pointer (some ⟨g + 1, 2, none⟩)]
        have B8 := below_tr hBw (below_al wr (.cells #[.int .i64 950, .pointer (some ⟨g + 1, 2, none⟩)] 115))
        have m48 := m4.alloc (.cells #[.int .i64 950, .pointer (some ⟨g + 1, 2, none⟩)] 115)
        have m68 := m6.alloc (.cells #[.int .i64 950, .pointer (some ⟨g + 1, 2, none⟩)] 115)
        have mp8 := mp.alloc (.cells #[.int .i64 950, .pointer (some ⟨g + 1, 2, none⟩)] 115)
        go_wp2_with fail
        obtain ⟨g8, hg8⟩ : ∃ g8, g8 = wr.heap.size := ⟨_, rfl⟩
        have hg18 : g + 1 + 1 < g8 := by rw [hg8]; exact mp.lt
        rw [← hg8] at k8 ⊢
        clear hg8
        generalize wr.alloc (.cells #[.int .i64 950, .pointer (some ⟨g + 1, 2, none⟩)] 115) = w2 at k8 B8 m48 m68 mp8 ⊢
        clear c0 c1 m4 m6 mp hBw
        refine (CP.out w2 B8 950 (by omega) (by omega)).mono ?_
        rintro e w3 ⟨rfl, b3⟩
        have B3 := below_tr B8 b3
        have k83 := k8.below' b3
        have m43 := m48.below' b3
        have m63 := m68.below' b3
        have mp3 := mp8.below' b3
        clear b3 B8 k8 m48 m68 mp8
        go_wp2_with fail
        have e1 := k83.cell 1
        refine wp_region_reads 4 1 (fun w' => w'.cell? ⟨g8, 1, none⟩ = some (.pointer (some ⟨g + 1, 2, none⟩))) (by kernel_rfl) (by kernel_rfl) (fun c a d v w h => by cases d <;> exact h) e1 ?_
        simp only [List.take_succ_cons, List.take_zero, List.drop_succ_cons, List.drop_zero]
        iterate 4
          refine reads_step (v := ?_) (by rfl) (fun w' hS => ?_) ?_
          rotate_left
          · go_simp
            with_reducible rfl
          simp only [Act.put, List.setIfInBounds_toArray, List.set_cons_zero, List.set_cons_succ]
        refine reads_nil ?_
        refine early_callT (.int .i64 1150) 37 _ #[.pointer (some ⟨a, 0, none⟩), .int .i64 1000] rfl rfl (by rfl) (by go_simp) (CW.out w3.drew B3.drew) ?_
        intro w4 b4
        have b4' : Below w3.heap.size w3 w4 := ⟨b4.os, b4.tape, b4.output, b4.size, b4.block⟩
        have B4 := below_tr B3 b4'
        have k84 := k83.below' b4'
        have m44 := m43.below' b4'
        have m64 := m63.below' b4'
        have mp4 := mp3.below' b4'
        refine ⟨k84.cell 1, ?_⟩
        simp only [wpEarly]
        simp only [Act.put, List.setIfInBounds_toArray, List.set_cons_zero, List.set_cons_succ]
        have f6 := m64.frozen 2
        have x6 := m64.cell 2
        have n6 := m64.set 2 (.int .i64 1150)
        have n4 := m44.far (p := ⟨g + 1, 2, none⟩) (by show g ≠ g + 1; omega) (.int .i64 1150)
        have np := mp4.far (p := ⟨g + 1, 2, none⟩) (by show g + 1 + 1 ≠ g + 1; omega) (.int .i64 1150)
        have B5 := B4.setCell (p := ⟨g + 1, 2, none⟩) (by have := HG.out; show w.heap.size ≤ g + 1; omega) (.int .i64 1150)
        rw [show (outJ 2).setIfInBounds 2 (.int .i64 1150) = outJ (2 + 1) from by simp [outJ]] at n6
        simp [outJ] at x6
        have HF := Lib.hid (And.intro n4 (And.intro n6 (And.intro np B5)))
        clear b4 b4' B3 B4 k83 k84 m43 m44 m63 m64 mp3 mp4 e1 n4 n6 np B5
        go_wp2_with fail
        exact ⟨⟨2 + 1, by omega, by go_num, HF.out.1, HF.out.2.1, HF.out.2.2.1, HF.out.2.2.2⟩, by simp [intOf]⟩
end Go.Proofs.YtjiliegfcljjhaaGreat
