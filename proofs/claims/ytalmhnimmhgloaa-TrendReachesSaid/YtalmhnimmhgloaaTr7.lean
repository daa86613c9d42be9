/-
  Contracts of package trend's At and When. Conditions: those named in each.
-/
import Derived.Test.YtalmhnimmhgloaaTr6
import Derived.Test.YtalmhnimmhgloaaQuiet
namespace Go.Proofs.Ytalmhnimmhgloaa
open Go.RowKit Go.Proofs.Mem Go.Sort LineLaw
set_option linter.unusedVariables false
set_option linter.unusedSimpArgs false
set_option maxRecDepth 100000 in
theorem At_any (a : S) (f z t : Int) (w : World) (g : LineLaw.Good a) (f0 : 0 ≤ f) (t0 : f ≤ t) (t1 : t - f ≤ 131072) (t2 : t ≤ 4611686018427387904 + 131072) :
    Calls Try.prog 30 #[lineOf a f z, .int .i64 t] w fun e w' => e = .returned (.tuple #[.int .i64 (fc a (t - f)), .int .i64 0]) ∧ Below w.heap.size w w' := by
  have C := Lib.hid (fun w1 => fat_any a f z (t - f) w1 g (by omega) t1)
  obtain ⟨n1, n2, _⟩ := g
  have hn : (a.n == 0) = false := by simp; omega
  unfold lineOf lineV at C ⊢
  have d0 : 0 ≤ t - f := by omega
  go_enter Try.func30, Try.ntmps30
  go_wp2_with fail
  refine (C.out _).mono ?_
  rintro e w1 ⟨rfl, hb1⟩
  go_wp2_with fail
  go_ret2
  exact ⟨rfl, (below_al w _).trans (hb1.mono (by simp))⟩
set_option maxHeartbeats 1000000 in
set_option maxRecDepth 100000 in
theorem whenf_any (a : S) (f z m fr : Int) (k : Nat) (p q r : Nat) (w : World) (g : LineLaw.Good a) (hp : Bk w p 65 #[.int .i64 a.n, .int .i64 f, .int .i64 z, .int .i64 a.x, .int .i64 a.y, .int .i64 a.over, .int .i64 a.under]) (hq : w.cell? ⟨q, 0, none⟩ = some (.int .i64 fr)) (hr : w.cell? ⟨r, 0, none⟩ = some (.int .i64 m)) (hql : q < w.heap.size) (hrl : r < w.heap.size)
    (h0 : 0 ≤ fr) (h1 : fr + k ≤ 131072) :
    Calls Try.prog 49 #[.int .i64 k, .pointer (some ⟨p, 0, none⟩), .pointer (some ⟨q, 0, none⟩), .pointer (some ⟨r, 0, none⟩)] w fun e w' => e = .returned (.bool (decide (m ≤ fc a (fr + k)))) ∧ Below w.heap.size w w' := by
  have C : Hid (∀ w1, Calls Try.prog 47 #[.agg #[.int .i64 a.n, .int .i64 f, .int .i64 z, .int .i64 a.x, .int .i64 a.y, .int .i64 a.over, .int .i64 a.under], .int .i64 (fr + k)] w1 fun e w' => e = .returned (.int .i64 (fc a (fr + k))) ∧ Below w1.heap.size w1 w') := Lib.hid (fun w1 => fat_any a f z (fr + k) w1 g (by omega) h1)
  have q5 : IntKind.i64.wrap (fr + k) = fr + k := IntWalk.i64_in _ (by omega)
  have HF := Lib.hid Try.underlying65
  generalize fc a (fr + k) = R at *
  obtain ⟨T, hT⟩ : ∃ T, T = fr + (k : Int) := ⟨_, rfl⟩
  rw [← hT] at C q5
  have eT := hT.symm
  clear hT h1
  clear g
  generalize a.n = n at *
  generalize a.x = x at *
  generalize a.y = y at *
  generalize a.over = ov at *
  generalize a.under = un at *
  go_enter Try.func49, Try.ntmps49
  go_wp2_with fail
  have zq := fun a b => cell_regrown hq a b
  have zr := fun a b => cell_regrown hr a b
  refine wp_region_quiet_below (by kernel_rfl) (by kernel_rfl) ?_
  refine q_load hp rfl 65 (.tmp 1) rfl rfl _ HF.out rfl (by kernel_rfl) ?_
  repeat (quiet_step ((go_at_call 47; (with_reducible exact Calls.regrown_of (C.out _)))))
  refine q_done fun W1 hBz => ?_
  go_wp2_with fail
  go_ret
  exact ⟨rfl, hBz⟩
/-- What sort.Search finds. -/
def SearchIs (a : S) (fr m : Int) (n : Nat) (w : World) (e : Ending) (w' : World) : Prop := (∃ k : Nat, e = .returned (.int .i64 k) ∧ k ≤ n ∧ (k < n → m ≤ fc a (fr + k)) ∧ ∀ j : Nat, j + 1 = k → fc a (fr + j) < m) ∧ Below w.heap.size w w'
set_option maxHeartbeats 1000000 in
set_option maxRecDepth 100000 in
theorem search_any (a : S) (f z m fr : Int) (n : Nat) (p q r : Nat) (w : World) (g : LineLaw.Good a) (hp : Bk w p 65 #[.int .i64 a.n, .int .i64 f, .int .i64 z, .int .i64 a.x, .int .i64 a.y, .int .i64 a.over, .int .i64 a.under]) (hq : w.cell? ⟨q, 0, none⟩ = some (.int .i64 fr)) (hr : w.cell? ⟨r, 0, none⟩ = some (.int .i64 m)) (hql : q < w.heap.size) (hrl : r < w.heap.size)
    (h0 : 0 ≤ fr) (h1 : fr + n ≤ 131073) :
    Calls Try.prog 48 #[.int .i64 n, .func (.func 49) #[] #[.pointer (some ⟨p, 0, none⟩), .pointer (some ⟨q, 0, none⟩), .pointer (some ⟨r, 0, none⟩)]] w (SearchIs a fr m n w) := by
  have CW : Hid (∀ (w1 : World) (k : Nat), k < n → Below w.heap.size w w1 → Calls Try.prog 49 #[.int .i64 k, .pointer (some ⟨p, 0, none⟩), .pointer (some ⟨q, 0, none⟩), .pointer (some ⟨r, 0, none⟩)] w1 fun e w' => e = .returned (.bool (decide (m ≤ fc a (fr + k)))) ∧ Below w1.heap.size w1 w') := Lib.hid fun w1 k hk hb => whenf_any a f z m fr k p q r w1 g (hp.below' hb) ((hb.cell (p := ⟨q, 0, none⟩) hql).trans hq) ((hb.cell (p := ⟨r, 0, none⟩) hrl).trans hr) (by have := hb.size; omega) (by have := hb.size; omega) h0 (by omega)
  clear hp hq hr g hql hrl
  have hn : (n : Int) ≤ 131073 := by omega
  go_enter Try.func48, Try.ntmps48
  go_wp2_with fail
  go_loopw [5, 6, 7] (fun i j _ wr => ∃ (i' j' : Nat), i = .int .i64 i' ∧ j = .int .i64 j' ∧ i' ≤ j' ∧ j' ≤ n ∧ Hid (j' < n → m ≤ fc a (fr + j')) ∧ Hid (∀ k : Nat, k + 1 = i' → fc a (fr + k) < m) ∧ Below w.heap.size w wr) (fun i j _ wr => (intOf j).toNat - (intOf i).toNat)
  case atStart => exact ⟨0, n, rfl, rfl, Nat.zero_le _, Nat.le_refl _, Lib.hid fun h => absurd h (by omega), Lib.hid fun k hk => by omega, Below.refl _ _⟩
  case round =>
    obtain ⟨i, j, rfl, rfl, hij, hjn, HJ, HI, hB⟩ := hrel
    by_cases hlt : i < j
    · obtain ⟨h, hh⟩ : ∃ h : Nat, (h : Int) = ((i : Int) + j) / 2 := ⟨(i + j) / 2, by push_cast; rfl⟩
      have h3 : i ≤ h := by omega
      have h4 : h < j := by omega
      have i1 : (i : Int) ≤ 131073 := by omega
      have i2 : (j : Int) ≤ 131073 := by omega
      have eh := hh.symm
      clear hh
      obtain ⟨b, hb⟩ : ∃ b, b = decide (m ≤ fc a (fr + h)) := ⟨_, rfl⟩
      have C1 := Lib.hid (CW.out wr h (by omega) hB)
      rw [← hb] at C1
      cases b
      · have HN : Hid (∀ k : Nat, k + 1 = h + 1 → fc a (fr + k) < m) := Lib.hid fun k hk => by
          obtain rfl : k = h := by omega
          have := of_decide_eq_false hb.symm
          omega
        clear hb
        go_wp2_with fail
        refine C1.out.mono ?_
        rintro e w1 ⟨rfl, hb1⟩
        go_wp2_with fail
        exact ⟨⟨h + 1, j, by go_num, rfl, by omega, by omega, HJ, HN, hB.trans (hb1.mono hB.size)⟩, by simp [intOf]; omega⟩
      · have HN : Hid (h < n → m ≤ fc a (fr + h)) := Lib.hid fun _ => of_decide_eq_true hb.symm
        clear hb
        go_wp2_with fail
        refine C1.out.mono ?_
        rintro e w1 ⟨rfl, hb1⟩
        go_wp2_with fail
        exact ⟨⟨i, h, rfl, rfl, by omega, by omega, HN, HI, hB.trans (hb1.mono hB.size)⟩, by simp [intOf]; omega⟩
    · go_wp2_with fail
      go_ret
      obtain rfl : i = j := by omega
      exact ⟨⟨i, rfl, hjn, HJ.out, HI.out⟩, hB⟩
end Go.Proofs.Ytalmhnimmhgloaa
