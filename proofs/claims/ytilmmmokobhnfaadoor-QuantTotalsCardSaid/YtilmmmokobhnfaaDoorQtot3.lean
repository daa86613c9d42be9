/-
  The walk of trimtablaw02.QuantTotals.
-/
import Derived.Test.YtilmmmokobhnfaaDoorQtot2
import Derived.Test.YtilmmmokobhnfaaDoorQu
import Derived.Test.YtilmmmokobhnfaaDoorOpen
namespace Go.Proofs.YtilmmmokobhnfaaDoor
open Go.RowKit Go.Proofs.Mem Go.Proofs.Qn
set_option linter.unusedVariables false
set_option linter.unusedSimpArgs false
theorem sum_bad {xs : List Int} {k : Nat} {y s got er : Int} (hg : xs[k]? = some y) (hs : sumGo 0 (xs.take k) = (s, 0)) (hy : y < 0 ∨ 9007199254740992 < y) (h : sumGo 0 xs = (got, er)) : got = 0 ∧ er = 1 := by
  have ht : xs.take (k + 1) = xs.take k ++ [y] := by rw [List.take_add_one, hg]; rfl
  have h1 := sumGo_snoc _ 0 s y hs
  have ha : addR s y = (0, 1) := by unfold addR; rw [if_pos (by omega)]
  rw [ha, ← ht] at h1
  have h2 := sumGo_err (xs.take (k + 1)) (xs.drop (k + 1)) 0 1 (by omega) (by rw [h1]; simp)
  rw [List.take_append_drop, h] at h2
  exact ⟨by injection h2, by injection h2⟩
theorem sum_big {xs : List Int} {k : Nat} {y s got er : Int} (hg : xs[k]? = some y) (hs : sumGo 0 (xs.take k) = (s, 0)) (s0 : 0 ≤ s) (s1 : s ≤ 9007199254740992) (y0 : 0 ≤ y) (y1 : y ≤ 9007199254740992) (hy : 9007199254740992 < s + y) (h : sumGo 0 xs = (got, er)) : got = 0 ∧ er = 3 := by
  have ht : xs.take (k + 1) = xs.take k ++ [y] := by rw [List.take_add_one, hg]; rfl
  have h1 := sumGo_snoc _ 0 s y hs
  have ha : addR s y = (0, 3) := by unfold addR; rw [if_neg (by omega), if_pos hy]
  rw [ha, ← ht] at h1
  have h2 := sumGo_err (xs.take (k + 1)) (xs.drop (k + 1)) 0 3 (by omega) (by rw [h1]; simp)
  rw [List.take_append_drop, h] at h2
  exact ⟨by injection h2, by injection h2⟩
theorem sum_next {xs : List Int} {k : Nat} {y s : Int} (hg : xs[k]? = some y) (hs : sumGo 0 (xs.take k) = (s, 0)) (s0 : 0 ≤ s) (s1 : s ≤ 9007199254740992) (y0 : 0 ≤ y) (y1 : y ≤ 9007199254740992) (hy : s + y ≤ 9007199254740992) : sumGo 0 (xs.take (k + 1)) = (s + y, 0) := by
  have ht : xs.take (k + 1) = xs.take k ++ [y] := by rw [List.take_add_one, hg]; rfl
  have h1 := sumGo_snoc _ 0 s y hs
  have ha : addR s y = (s + y, 0) := by unfold addR; rw [if_neg (by omega), if_neg (by omega)]
  rw [ha, ← ht] at h1
  rw [h1]; simp
set_option maxHeartbeats 4000000 in
set_option maxRecDepth 100000 in
theorem quantTotals_long (A : Option Addr) (n c : Nat) (hn : 100 < n) (w : World) (hT : Tab w) : Calls Tryd.prog 5 #[.slice A n c] w fun e w' => e = .returned (.bool true) ∧ Below w.heap.size w w' := by
  have CL := Lib.hid (fun (u : World) (hu : Below w.heap.size w u) => lives02_any u (tab_below hT hu))
  have hni : 100 < (n : Int) := by omega
  clear hn hT
  go_enter Tryd.func5, Tryd.ntmps5
  go_wp2_with fail
  refine (CL.out _ (below_al _ _)).mono ?_
  rintro e w1 ⟨rfl, hb1⟩
  have c1 := ((Bk.new w 39 #[.slice A n c]).below' hb1).cell 0
  have hB1 := below_tr (below_al _ _) hb1
  have HB := Lib.hid hB1
  clear hb1
  go_wp2_with fail
  refine (CL.out _ HB.out).mono ?_
  rintro e w2 ⟨rfl, hb2⟩
  have hB2 := below_tr HB.out hb2
  go_wp2_with fail
  go_ret
  exact ⟨rfl, hB2⟩
set_option maxHeartbeats 4000000 in
set_option maxRecDepth 100000 in
theorem quantTotals_ok (A : Option Addr) (n c : Nat) (xs : List Int) (hx : xs.length = n) (hn : n ≤ 100) (w : World) (hT : Tab w) (hS : Sl w 1 (.slice A n c) n (xs.map iv)) : Calls Tryd.prog 5 #[.slice A n c] w fun e w' => e = .returned (.bool true) ∧ Below w.heap.size w w' := by
  have CL := Lib.hid (fun (u : World) (hu : Below w.heap.size w u) => lives02_any u (tab_below hT hu))
  have hni : (n : Int) ≤ 100 := by omega
  have CS := fun (w1 : World) (hw1 : Below w.heap.size w w1) (hb1 : w.heap.size < w1.heap.size) (h1 : w1.cell? ⟨w.heap.size, 0, none⟩ = some (.slice A n c)) => sum_any hx hn w1 h1 (hS.below hw1) hb1
  obtain ⟨got, er, hge⟩ : ∃ got er, sumGo 0 xs = (got, er) := ⟨_, _, rfl⟩
  rw [hge] at CS
  dsimp only at CS
  have HCS := Lib.hid CS
  have HGE := Lib.hid hge
  have HX := Lib.hid hx
  have HS := Lib.hid hS
  clear CS hge hx hn hT hS
  go_enter Tryd.func5, Tryd.ntmps5
  go_wp2_with fail
  refine (CL.out _ (below_al _ _)).mono ?_
  rintro e w1 ⟨rfl, hb1⟩
  have B1 := ((Bk.new w 39 #[.slice A n c]).below' hb1)
  have c1 := B1.cell 0
  have HB := Lib.hid (below_tr (below_al _ _) hb1)
  have HB1 := Lib.hid B1
  clear hb1 B1
  go_wp2_with fail
  refine (HCS.out _ HB.out HB1.out.lt (HB1.out.cell 0)).mono ?_
  rintro e w2 ⟨rfl, hb2⟩
  have c2 := (HB1.out.below' hb2).cell 0
  have HB2 := Lib.hid (below_tr HB.out hb2)
  clear hb2 c1 HB HB1 HCS CL
  go_wp2_with fail
  go_loopw [5, 23] (fun sv iv wr => ∃ (k : Nat) (s : Int), k ≤ n ∧ iv = .int .i64 k ∧ sv = .int .i64 s ∧ Hid (sumGo 0 (xs.take k) = (s, 0)) ∧ 0 ≤ s ∧ s ≤ 9007199254740992 ∧ wr = w2) (fun sv iv wr => n - (intOf iv).toNat)
  case atStart => exact ⟨0, 0, Nat.zero_le _, rfl, rfl, Lib.hid rfl, Int.le_refl _, by omega, rfl⟩
  case round =>
    obtain ⟨k, s, hk, rfl, rfl, hs, s0, s1, rfl⟩ := hrel
    by_cases hlt : k < n
    · have hd : k < xs.length := by rw [HX.out]; exact hlt
      have hg : xs[k]? = some xs[k] := List.getElem?_eq_getElem hd
      obtain ⟨ad, rfl, hadb, hcell⟩ := (HS.out.below HB2.out).cell1 (k := k) (u := iv xs[k]) (by rw [List.getElem?_map, hg]; rfl)
      generalize xs[k] = y at hg hcell
      unfold iv at hcell
      clear hadb
      have hcase : ((y < 0 ∧ True) ∨ (0 ≤ y ∧ 9007199254740992 < y)) ∨ ((0 ≤ y ∧ y ≤ 9007199254740992) ∧ (9007199254740992 < s + y ∨ s + y ≤ 9007199254740992)) := by simp only [and_true]; omega
      have HG := Lib.hid hg
      clear hg hd
      rcases hcase with (⟨h, _⟩ | ⟨h, h2⟩) | ⟨⟨h, h2⟩, h3 | h3⟩
      · obtain ⟨rfl, rfl⟩ := sum_bad HG.out hs.out (.inl h) HGE.out
        go_wp2_with fail
        go_ret
        exact ⟨rfl, HB2.out⟩
      · obtain ⟨rfl, rfl⟩ := sum_bad HG.out hs.out (.inr h2) HGE.out
        have h4 : decide (y ≤ 9007199254740992) = false := by simp; omega
        go_wp2_with fail
        go_ret
        exact ⟨rfl, HB2.out⟩
      · obtain ⟨rfl, rfl⟩ := sum_big HG.out hs.out s0 s1 h h2 h3 HGE.out
        have h4 : decide (s + y ≤ 9007199254740992) = false := by simp; omega
        go_wp2_with fail
        go_ret
        exact ⟨rfl, HB2.out⟩
      · have HN := Lib.hid (sum_next HG.out hs.out s0 s1 h h2 h3)
        have hsy : 0 ≤ s + y := by omega
        go_wp2_with fail
        go_roundw
        case rel => exact ⟨k + 1, s + y, by omega, by go_num, rfl, HN, hsy, h3, trivial⟩
        case measure => simp [intOf]; omega
    · obtain rfl : k = n := by omega
      have hs' := hs.out
      rw [← HX.out, List.take_length, HGE.out] at hs'
      obtain ⟨rfl, rfl⟩ : got = s ∧ er = 0 := ⟨by injection hs', by injection hs'⟩
      clear hs'
      go_wp2_with fail
      go_ret
      exact ⟨rfl, HB2.out⟩
theorem rows_of {α : Type} {s : Nat} (f : α → List Value) (p : α → Prop) : ∀ (m : Nat) (xs : List Value), xs.length = m * s → (∀ i, i < m → ∃ x, (xs.drop (i * s)).take s = f x ∧ p x) → ∃ l : List α, l.length = m ∧ xs = l.flatMap f ∧ ∀ x ∈ l, p x
  | 0, xs, hl, _ => ⟨[], rfl, by simpa using hl, by simp⟩
  | m + 1, xs, hl, h => by
    have hs : s ≤ xs.length := by rw [hl, Nat.succ_mul]; omega
    obtain ⟨x, hx, px⟩ := h 0 (by omega)
    obtain ⟨l, h1, h2, h3⟩ := rows_of (s := s) f p m (xs.drop s) (by rw [List.length_drop, hl, Nat.succ_mul]; omega) (fun i hi => by
      obtain ⟨y, hy, py⟩ := h (i + 1) (by omega)
      exact ⟨y, by rw [List.drop_drop, Nat.add_comm s, ← Nat.succ_mul]; exact hy, py⟩)
    refine ⟨x :: l, by simp [h1], ?_, ?_⟩
    · rw [List.flatMap_cons, ← h2, ← hx, Nat.zero_mul, List.drop_zero, List.take_append_drop]
    · intro y hy
      rcases List.mem_cons.1 hy with rfl | hy
      · exact px
      · exact h3 y hy
theorem flat_iv (l : List Int) : l.flatMap (fun b => [iv b]) = l.map iv := by
  induction l with
  | nil => rfl
  | cons a l ih => rw [List.flatMap_cons, ih]; rfl
theorem milli_of {w : World} {A : Option Addr} {n c m : Nat} (h : Ok Tryd.prog w (m + 3) 39 (Value.slice A n c).cells.toList) :
    ∃ xs : List Int, xs.length = n ∧ Sl w 1 (.slice A n c) n (xs.map iv) := by
  have hcs : Tryd.prog.cellsOf 29 = 1 := by kernel_rfl
  obtain ⟨v, m', xs, e1, hS, hm, hel⟩ := ok_slice Tryd.underlying39 h (by omega)
  rw [hcs] at hS hel
  have e2 : v = .slice A n c := by simp [Value.cells] at e1; exact e1.symm
  subst e2
  obtain ⟨rfl, _, _, hl, _⟩ := hS.parts
  obtain ⟨l, h1, h2, _⟩ := rows_of (s := 1) (fun b : Int => [iv b]) (fun _ => True) _ xs hl (fun i hi => by
    obtain ⟨z0, e0, _⟩ := ok_int Tryd.underlying29 (hel i hi)
    exact ⟨z0, e0, trivial⟩)
  refine ⟨l, h1, ?_⟩
  rw [h2] at hS
  rw [flat_iv] at hS
  exact hS
theorem quantTotals_walk (A : Option Addr) (n c : Nat) (w : World) (h : Ok Tryd.prog w 9 39 (Value.slice A n c).cells.toList) (hT : Tab w) :
    Calls Tryd.prog 5 #[.slice A n c] w fun e w' => e = .returned (.bool true) ∧ Below w.heap.size w w' := by
  obtain ⟨xs, hx, hS⟩ := milli_of (m := 6) h
  rcases Nat.lt_or_ge 100 n with hn | hn
  · exact quantTotals_long A n c hn w hT
  · exact quantTotals_ok A n c xs hx hn w hT hS
end Go.Proofs.YtilmmmokobhnfaaDoor
