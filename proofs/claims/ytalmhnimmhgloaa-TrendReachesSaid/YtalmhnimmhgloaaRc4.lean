/-
  The walk of the statement TrendReaches.
-/
import Derived.Test.YtalmhnimmhgloaaRc2
import Derived.Test.YtalmhnimmhgloaaRc3
import Derived.Test.YtalmhnimmhgloaaTr9
import Derived.Test.YtalmhnimmhgloaaOpen
namespace Go.Proofs.Ytalmhnimmhgloaa
open Go.RowKit Go.Proofs.Mem LineLaw
set_option linter.unusedVariables false
set_option linter.unusedSimpArgs false
/-- A row of samples that came in. -/
theorem smps_of {w : World} {A : Option Addr} {n c m : Nat} (h : Ok Try.prog w (m + 3) 62 (Value.slice A n c).cells.toList) :
    n ≤ maxLen ∧ ∃ l : List Smp, l.length = n ∧ Sl w 2 (.slice A n c) n (l.flatMap Smp.cells) := by
  have hc : Try.prog.cellsOf 71 = 2 := by kernel_rfl
  obtain ⟨v, m', xs, e1, hS, hm, hel⟩ := ok_slice Try.underlying62 h (by rw [hc]; omega)
  rw [hc] at hS hel
  have e2 : v = .slice A n c := by simp [Value.cells] at e1; exact e1.symm
  subst e2
  obtain ⟨rfl, _, _, hl, _⟩ := hS.parts
  refine ⟨hm, ?_⟩
  have key : ∀ j, j ≤ n → ∃ l : List Smp, l.length = j ∧ xs.take (j * 2) = l.flatMap Smp.cells := by
    intro j
    induction j with
    | zero => intro _; exact ⟨[], rfl, by simp⟩
    | succ j ih =>
      intro hj
      obtain ⟨l, h1, h2⟩ := ih (by omega)
      obtain ⟨hl2, hf⟩ := ok_struct Try.underlying71 (hel j (by omega))
      obtain ⟨z0, h0, _⟩ := ok_int Try.underlying2 (ok_field hf 0 2 0 1 (by kernel_rfl) (by kernel_rfl))
      obtain ⟨z1, h1', _⟩ := ok_int Try.underlying46 (ok_field hf 1 46 1 1 (by kernel_rfl) (by kernel_rfl))
      have g0 := one_cell h0
      have g1 := one_cell h1'
      have e := two_of (by rw [hl2, hc]) g0 g1
      refine ⟨l ++ [⟨z0, z1⟩], by simp [h1], ?_⟩
      rw [Nat.succ_mul, List.take_add, h2, e, List.flatMap_append]
      rfl
  obtain ⟨l, h1, h2⟩ := key n (Nat.le_refl _)
  rw [List.take_of_length_le (by omega)] at h2
  exact ⟨l, h1, by rw [← h2]; exact hS⟩
set_option maxHeartbeats 4000000 in
set_option maxRecDepth 100000 in
theorem reaches_main (l : List Smp) (v : Value) (m : Int) (w : World) (hml : l.length ≤ maxLen) (hv : Sl w 2 v l.length (l.flatMap Smp.cells)) :
    Calls Try.prog 7 #[v, .int .i64 m] w fun e w' => e = .returned (.bool true) ∧ Below w.heap.size w w' := by
  obtain ⟨A, cp, rfl, hcp, _⟩ := id hv
  go_enter Try.func7, Try.ntmps7
  go_wp2_with fail
  refine (lives42_any _).mono ?_
  rintro e w1 ⟨rfl, hb1⟩
  have CR := Lib.hid (right42_any l _ w1 hml (hv.below hb1))
  go_wp2_with fail
  refine CR.out.mono ?_
  rintro e w2 ⟨⟨c, rfl, hc⟩, hb2⟩
  have hB2 := hb1.trans (hb2.mono hb1.size)
  rcases hc with hc | ⟨rfl, hok⟩
  · go_wp2_with fail
    refine (lives42_any _).mono ?_
    rintro e w3 ⟨rfl, hb3⟩
    go_wp2_with fail
    go_ret
    exact ⟨rfl, hB2.trans (hb3.mono hB2.size)⟩
  · have hS2 := hv.below hB2
    have CF := Lib.hid (fit_any l _ w2 hok hS2)
    have g := hok.good
    have h2 := hok.two
    have hm := hok.most
    have f0 := hok.first0
    have hla := lastAt_eq l (by omega)
    have z1 := hok.near _ (List.getElem_mem (show l.length - 1 < l.length by omega))
    have z2 := hok.ge (l.length - 1) (by omega)
    have z3 := hok.at1 _ (List.getElem_mem (show l.length - 1 < l.length by omega))
    rw [← hla] at z1 z2 z3
    have hn : (T l (first l) l.length).n = l.length := (T_bd hok.few (Nat.le_refl _)).n
    have CO := Lib.hid (fun (t : Int) (w1 : World) (hS : Sl w1 2 (.slice A l.length cp) l.length (l.flatMap Smp.cells)) h0 h1 => forecast_any l _ t w1 hok hS h0 h1)
    have CW := Lib.hid (fun w1 => when_any (T l (first l) l.length) (first l) (lastAt l) m w1 g f0.1 z2 z1 z3)
    unfold lineOf lineV at CW
    unfold FitIs lineV at CF
    rw [hn] at CW
    unfold WhenIs at CW
    have hfe := first_eq l (by omega)
    have HV := Lib.hid hS2
    have i1 : (0 : Int) < l.length := by omega
    have i3 : (2 : Int) ≤ l.length := by omega
    have i4 : (l.length : Int) ≤ 32 := by omega
    obtain ⟨b, o, rfl, hbl, _, hc0⟩ := Sl.row' (f := Smp.cells) (fun _ => rfl) (by omega) hS2 0 (by omega)
    obtain ⟨j, hj⟩ : ∃ j, l.length = j + 1 := ⟨l.length - 1, by omega⟩
    obtain ⟨b2, o2, eA, _, _, hcj⟩ := Sl.row' (f := Smp.cells) (fun _ => rfl) (by omega) hS2 (l.length - 1) (by omega)
    injection eA with eA
    injection eA with e1 e2 e3
    subst e1; subst e2
    have a0 : w2.cell? ⟨b, o + 0 * 2, none⟩ = _ := hc0 0 _ rfl
    have a1 : w2.cell? ⟨b, o + (l.length - 1) * 2, none⟩ = _ := hcj 0 _ rfl
    rw [Nat.zero_mul, Nat.add_zero, ← hfe] at a0
    rw [← hla] at a1
    have hj2 : l.length - 1 = j := by omega
    have jl : (j : Int) < l.length := by omega
    have q1 : IntKind.i64.wrap ((l.length : Int) - 1) = (j : Int) := by rw [IntWalk.i64_in _ (by omega)]; omega
    have q2 : (l.length : Int) - 1 = (j : Int) := by omega
    rw [hj2] at a1
    clear hc0 hcj hfe hla hn g hv hok hj hj2 hS2 hb1
    go_wp2_with fail
    refine CF.out.mono ?_
    rintro e w3 ⟨rfl, hb3⟩
    have hB3 := hB2.trans (hb3.mono hB2.size)
    go_wp2_with fail
    have hB4 := hB3.alloc hB3.size (.cells #[.int .i64 l.length, .int .i64 (first l), .int .i64 (lastAt l), .int .i64 (T l (first l) l.length).x, .int .i64 (T l (first l) l.length).y, .int .i64 (T l (first l) l.length).over, .int .i64 (T l (first l) l.length).under] 65)
    have hb4 := hb3.alloc hb3.size (.cells #[.int .i64 l.length, .int .i64 (first l), .int .i64 (lastAt l), .int .i64 (T l (first l) l.length).x, .int .i64 (T l (first l) l.length).y, .int .i64 (T l (first l) l.length).over, .int .i64 (T l (first l) l.length).under] 65)
    generalize w3.alloc (.cells #[.int .i64 l.length, .int .i64 (first l), .int .i64 (lastAt l), .int .i64 (T l (first l) l.length).x, .int .i64 (T l (first l) l.length).y, .int .i64 (T l (first l) l.length).over, .int .i64 (T l (first l) l.length).under] 65) = w4 at *
    clear CF hB3 hb3
    obtain ⟨a, ha⟩ : ∃ a, a = T l (first l) l.length := ⟨_, rfl⟩
    rw [← ha] at CW CO ⊢
    clear ha
    refine (CW.out w4).mono ?_
    rintro e w5 ⟨hcase, hb5⟩
    have hb45 := hb4.trans (hb5.mono hb4.size)
    have a05 : w5.cell? ⟨b, o, none⟩ = _ := (hb45.cell (p := ⟨b, o, none⟩) hbl).trans a0
    have a15 : w5.cell? ⟨b, o + j * 2, none⟩ = _ := (hb45.cell (p := ⟨b, o + j * 2, none⟩) hbl).trans a1
    have hS5 := HV.out.below hb45
    have hB5 := hB2.trans (hb45.mono hB2.size)
    clear a0 a1 hb4 hb5 hb45 hB4 hB2 CW HV
    generalize lastAt l = z at *
    have HS5 := Lib.hid hS5
    clear hS5
    have dn : ∀ nq, Sl (w5.drewN nq) 2 (.slice (some ⟨b, o, none⟩) l.length cp) l.length (l.flatMap Smp.cells) := fun nq => HS5.out.below (below_drewN (Below.refl _ _) _)
    have DN := Lib.hid dn
    clear dn
    rcases hcase with ⟨k, rfl, h1, h3, h4⟩ | ⟨rfl, h1, h3⟩
    · have hz0 : 0 ≤ z := by omega
      rcases Nat.eq_zero_or_pos k with h0 | h0
      · subst h0
        have e0 : z + ((0 : Nat) : Int) = z := by omega
        have e9 : z - first l + ((0 : Nat) : Int) = z - first l := by omega
        rw [e0]
        rw [e9] at h3
        have C1 := Lib.hid (fun w6 (hS : Sl w6 2 (.slice (some ⟨b, o, none⟩) l.length cp) l.length (l.flatMap Smp.cells)) => CO.out z w6 hS (by omega) (by omega))
        clear CO h4 e0 e9 h1
        generalize fc a (z - first l) = V1 at *
        generalize first l = f at *
        have m1 : decide (m ≤ V1) = true := decide_eq_true h3
        have ez : (z == z) = true := by simp
        have b1 : z ≤ f + 131072 := by omega
        obtain ⟨f0, f1⟩ := f0
        go_wp2_with fail
        go_quiet (fail)
        go_wp2_with fail
        refine (C1.out _ (DN.out _)).mono ?_
        rintro e w6 ⟨rfl, hb6⟩
        go_wp2_with fail
        go_ret
        exact ⟨rfl, (below_drewN hB5 _).trans (hb6.mono (below_drewN hB5 _).size)⟩
      · obtain ⟨i, rfl⟩ : ∃ i, k = i + 1 := ⟨k - 1, by omega⟩
        have h5 := h4 i rfl
        clear h4
        have C1 := Lib.hid (fun w6 (hS : Sl w6 2 (.slice (some ⟨b, o, none⟩) l.length cp) l.length (l.flatMap Smp.cells)) => CO.out (z + ((i + 1 : Nat) : Int)) w6 hS (by omega) (by omega))
        have C2 := Lib.hid (fun w6 (hS : Sl w6 2 (.slice (some ⟨b, o, none⟩) l.length cp) l.length (l.flatMap Smp.cells)) => CO.out (z + ((i + 1 : Nat) : Int) - 1) w6 hS (by omega) (by omega))
        have e1 : z + ((i + 1 : Nat) : Int) - first l = z - first l + ((i + 1 : Nat) : Int) := by omega
        have e2 : z + ((i + 1 : Nat) : Int) - 1 - first l = z - first l + (i : Int) := by omega
        rw [e1] at C1
        rw [e2] at C2
        have ti : ((i + 1 : Nat) : Int) = (i : Int) + 1 := by omega
        generalize fc a (z - first l + ((i + 1 : Nat) : Int)) = V1 at *
        generalize fc a (z - first l + (i : Int)) = V2 at *
        generalize first l = f at *
        obtain ⟨t, ht⟩ : ∃ t, t = z + ((i + 1 : Nat) : Int) := ⟨_, rfl⟩
        rw [← ht] at C1 C2 ⊢
        have m1 : decide (m ≤ V1) = true := decide_eq_true h3
        have m2 : decide (V2 < m) = true := decide_eq_true h5
        have t0 : z ≤ t := by omega
        have t1 : t ≤ f + 131072 := by omega
        have tz : (t == z) = false := by rw [beq_eq_false_iff_ne]; omega
        obtain ⟨f0, f1⟩ := f0
        clear CO ht ti e1 e2 h1
        go_wp2_with fail
        go_quiet (fail)
        go_wp2_with fail
        refine (C1.out _ (DN.out _)).mono ?_
        rintro e w6 ⟨rfl, hb6⟩
        have hB6 := (below_drewN hB5 nq).trans (hb6.mono (below_drewN hB5 _).size)
        have hS6 := (DN.out nq).below hb6
        go_wp2_with fail
        refine (C2.out _ hS6).mono ?_
        rintro e w7 ⟨rfl, hb7⟩
        go_wp2_with fail
        go_ret
        exact ⟨rfl, hB6.trans (hb7.mono hB6.size)⟩
    · have C1 := Lib.hid (fun w6 (hS : Sl w6 2 (.slice (some ⟨b, o, none⟩) l.length cp) l.length (l.flatMap Smp.cells)) => CO.out z w6 hS (by omega) (by omega))
      have C2 := Lib.hid (fun w6 (hS : Sl w6 2 (.slice (some ⟨b, o, none⟩) l.length cp) l.length (l.flatMap Smp.cells)) => CO.out (first l + 131072) w6 hS (by omega) (by omega))
      have e1 : first l + 131072 - first l = 131072 := by omega
      rw [e1] at C2
      clear CO
      generalize fc a (z - first l) = V1 at *
      generalize fc a 131072 = V2 at *
      generalize first l = f at *
      have m1 : decide (V1 < m) = true := decide_eq_true h1
      have m2 : decide (V2 < m) = true := decide_eq_true h3
      obtain ⟨f0, f1⟩ := f0
      go_wp2_with fail
      go_quiet (fail)
      go_wp2_with fail
      refine (C1.out _ (DN.out _)).mono ?_
      rintro e w6 ⟨rfl, hb6⟩
      have hB6 := (below_drewN hB5 nq).trans (hb6.mono (below_drewN hB5 _).size)
      have hS6 := (DN.out nq).below hb6
      go_wp2_with fail
      refine (C2.out _ hS6).mono ?_
      rintro e w7 ⟨rfl, hb7⟩
      go_wp2_with fail
      go_ret
      exact ⟨rfl, hB6.trans (hb7.mono hB6.size)⟩
/-- The law's walk. -/
theorem trendReaches_walk (A : Option Addr) (n c : Nat) (m : Int) (w : World) (h : Ok Try.prog w 9 62 (Value.slice A n c).cells.toList) (wm : (Lit.int .i64 m).wf = true) :
    Calls Try.prog 7 #[.slice A n c, .int .i64 m] w fun e w' => e = .returned (.bool true) ∧ Below w.heap.size w w' := by
  obtain ⟨hm, l, hl, hS⟩ := smps_of (m := 6) h
  subst hl
  exact reaches_main l _ m w hm hS
end Go.Proofs.Ytalmhnimmhgloaa
