/-
  Package quant's Sum over the law's own iterator.
-/
import Derived.RangeFuncNested
import Derived.RangeFuncBound
import Derived.RangeFuncCalls
import Derived.RangeFuncLeaves
import Derived.RangeFuncFrom
import Derived.Shelf.Abstract
import Derived.Shelf.RegionOpen
import Derived.WalkKit
import Derived.OwnWalkIn
import Derived.TacticsInMore
import Derived.LoopNIn
import Derived.LoopIn
import Derived.Test.YtilmmmokobhnfaaDoorQtot
namespace Go.Proofs.YtilmmmokobhnfaaDoor
open Go.RowKit Go.Proofs.Mem Go.Proofs.Qn Go.Shelf
set_option linter.unusedVariables false
set_option linter.unusedSimpArgs false
attribute [local go_sem] Oper.semAt_some
theorem bk_own {g : Nat} {t : TypeId} {cs : Array Value} {W W' : World} {row : Option Nat} (h : Bk W g t cs) (hg : W.grownBy W' row) (hr : ∀ r, row = some r → ∃ o : Obj, W.heap[r]? = some o ∧ o.isCells = false) : Bk W' g t cs := by
  refine h.grown hg fun e => ?_
  obtain ⟨o, ho, hc⟩ := hr g e.symm
  have h' : W.heap[g]? = some (.cells cs t) := h
  rw [h'] at ho
  injection ho with ho
  subst ho
  cases hc
theorem keepB_b {b1 : Nat} {A : Option Addr} {w : World} (h1 : b1 < w.heap.size) (hA : ∀ ad, A = some ad → ad.block < w.heap.size) (W : World) (l : Nat) (o o' : Obj) (hl : w.heap.size ≤ l) (h : W.heap[l]? = some o) (_ : o.isCells = false) (_ : o.isWalk = false) : KeepB b1 A W (W.putObj l o') := by
  have hg := grownBy_putObj' W l o'
  have hlW : l < W.heap.size := (Array.getElem?_eq_some_iff.1 h).1
  have e : ∀ b, b < w.heap.size → (W.putObj l o').heap[b]? = W.heap[b]? := fun b hb => hg.block b (by omega) (fun e => by injection e with e; omega)
  exact ⟨hg.size, e b1 h1, fun ad ha => e _ (hA ad ha)⟩
theorem keepB_below {b1 : Nat} {A : Option Addr} {w W W' : World} (h1 : b1 < w.heap.size) (hA : ∀ ad, A = some ad → ad.block < w.heap.size) (h : Below w.heap.size W W') : KeepB b1 A W W' := ⟨h.size, h.block b1 h1, fun ad e => h.block _ (hA ad e)⟩
theorem addR_rng (a b : Int) : 0 ≤ (addR a b).1 ∧ (addR a b).1 ≤ 9007199254740992 := by
  unfold addR
  split
  · simp
  · split
    · simp
    · simp only; omega
set_option maxHeartbeats 1000000 in
set_option maxRecDepth 100000 in
theorem sum_any {b1 n c : Nat} {A : Option Addr} {xs : List Int} (hn : xs.length = n) (hb : n ≤ 100) (w : World) (h1 : w.cell? ⟨b1, 0, none⟩ = some (.slice A n c)) (hS : Sl w 1 (.slice A n c) n (xs.map iv)) (hb1 : b1 < w.heap.size) :
    Calls Tryd.prog 17 #[.func (.func 18) #[] #[.pointer (some ⟨b1, 0, none⟩)]] w fun e w' => e = .returned (.tuple #[.int .i64 (sumGo 0 xs).1, .int .i64 (sumGo 0 xs).2]) ∧ Below w.heap.size w w' := by
  obtain ⟨A', hA', hAb⟩ : ∃ A' : Option Addr, (0 < n → A' = A) ∧ ∀ ad, A' = some ad → ad.block < w.heap.size := by
    rcases Nat.eq_zero_or_pos n with h0 | h0
    · exact ⟨none, fun h => by omega, fun ad e => by cases e⟩
    · obtain ⟨ad, rfl, hlt, _⟩ := hS.parts.2.2.2.2 h0
      exact ⟨some ad, fun _ => rfl, fun ad' e => by injection e with e; subst e; exact hlt⟩
  refine (callsIn_wide (n := 8)).1 ?_
  refine callsIn_of_wp_marks Tryd.func17 rfl trivial ?_ rfl
  simp only [Tryd.ntmps17, List.size_toArray, List.length_cons, List.length_nil, Nat.reduceAdd, Nat.reduceSub, Array.replicate_succ, Array.replicate_zero, List.push_toArray, List.append_toArray, List.nil_append, List.cons_append]
  gi_wp2_with fail
  have k2 := ((Bk.new w 29 #[.int .i64 0]).alloc (.cells #[.int .i64 0] 30)).alloc (.cells #[.int .i64 0] 29)
  have k3 := (Bk.new (w.alloc (.cells #[.int .i64 0] 29)) 30 #[.int .i64 0]).alloc (.cells #[.int .i64 0] 29)
  have k4 := Bk.new ((w.alloc (.cells #[.int .i64 0] 29)).alloc (.cells #[.int .i64 0] 30)) 29 #[.int .i64 0]
  simp only [World.size_alloc] at k2 k3 k4
  have hB0 := below_tr (below_tr (below_al w (.cells #[.int .i64 0] 29)) (below_al _ (.cells #[.int .i64 0] 30))) (below_al _ (.cells #[.int .i64 0] 29))
  have hsz : (((w.alloc (.cells #[.int .i64 0] 29)).alloc (.cells #[.int .i64 0] 30)).alloc (.cells #[.int .i64 0] 29)).heap.size = w.heap.size + 3 := by simp
  generalize ((w.alloc (.cells #[.int .i64 0] 29)).alloc (.cells #[.int .i64 0] 30)).alloc (.cells #[.int .i64 0] 29) = W1 at k2 k3 k4 hB0 hsz ⊢
  have hseq := tot_stops (8 - 1) (by omega) hA' hn hb W1 ((hB0.cell (p := ⟨b1, 0, none⟩) hb1).trans h1) (hS.below hB0)
  have HN := Lib.hid hn
  clear hn hA'
  have hb1' : b1 < W1.heap.size := by omega
  have hAb' : ∀ ad, A' = some ad → ad.block < W1.heap.size := fun ad e => by have := hAb ad e; omega
  generalize hA : Act.mk _ [] = a0
  refine wpIn_rangeFunc_ownF rfl (by omega) (gf := 18) (lb := #[.pointer (some ⟨b1, 0, none⟩)]) (by rw [← hA]; rfl) trivial (enters_of Tryd.func18 (by kernel_rfl) rfl)
    hseq (fun h k => h.trans k) (keepB_b hb1' hAb') (Below.refl _ _) (fun _ => rfl)
    (fun pre W => Bk W w.heap.size 29 #[.int .i64 0] ∧ Bk W (w.heap.size + 1) 30 #[.int .i64 0] ∧ (∃ s, Bk W (w.heap.size + 1 + 1) 29 #[.int .i64 s] ∧ sumGo 0 pre = (s, 0)) ∧ Below w.heap.size w W)
    (fun c pre W => c = .ret ∧ (∃ e, e ≠ 0 ∧ Bk W w.heap.size 29 #[.int .i64 0] ∧ Bk W (w.heap.size + 1) 30 #[.int .i64 e] ∧ sumGo 0 pre = (0, e)) ∧ Below w.heap.size w W)
    (fun s A B row h hg hr => ⟨bk_own h.1 hg (fun r e => (hr r e).2), bk_own h.2.1 hg (fun r e => (hr r e).2), (by obtain ⟨s', hs, he⟩ := h.2.2.1; exact ⟨s', bk_own hs hg (fun r e => (hr r e).2), he⟩), (ownFrom_below (β := Unit) (Nat.le_refl _) hB0.size) () A B row h.2.2.2 hg hr⟩)
    (fun c s A B row h hg hr => ⟨h.1, (by obtain ⟨e, h0, hs, ht, he⟩ := h.2.1; exact ⟨e, h0, bk_own hs hg (fun r e => (hr r e).2), bk_own ht hg (fun r e => (hr r e).2), he⟩), (ownFrom_below (β := Unit) (Nat.le_refl _) hB0.size) () A B row h.2.2 hg hr⟩)
    ⟨k2, k3, ⟨0, k4, rfl⟩, hB0⟩
    (fun x => ⟨(a0.tmps.setIfInBounds 8 (.int .i64 x)).setIfInBounds 5 (.int .i64 x), []⟩) ?assign ?body ?done ?stop
  case assign =>
    intro l x W K hK
    subst hA
    gi_wp2
    simpa using hK
  case body =>
    rintro l pre x W ⟨j2, j3, ⟨s, j4, hs⟩, hBW⟩ hlen
    subst hA
    simp only [List.setIfInBounds_toArray, List.set_cons_zero, List.set_cons_succ]
    have CA := Lib.hid (qadd_any s x W)
    have c4 := j4.cell 0
    have f4 := j4.frozen 0
    have c2 := j2.cell 0
    have f2 := j2.frozen 0
    have c3 := j3.cell 0
    have f3 := j3.frozen 0
    have hsn := sumGo_snoc pre 0 s x hs
    generalize hr : addR s x = r at CA hsn
    obtain ⟨r1, r2⟩ := r
    dsimp only at CA hsn
    clear hr
    have hB4 : Below w.heap.size w (W.setCell ⟨w.heap.size + 1 + 1, 0, none⟩ (.int .i64 r1)) := hBW.setCell (p := ⟨w.heap.size + 1 + 1, 0, none⟩) (by show w.heap.size ≤ w.heap.size + 1 + 1; omega) _
    by_cases hr2 : r2 = 0
    · subst hr2
      have HF := Lib.hid (show KeepsOthers W (W.setCell ⟨w.heap.size + 1 + 1, 0, none⟩ (.int .i64 r1)) ∧ KeepB b1 A' W (W.setCell ⟨w.heap.size + 1 + 1, 0, none⟩ (.int .i64 r1)) ∧ (Bk (W.setCell ⟨w.heap.size + 1 + 1, 0, none⟩ (.int .i64 r1)) w.heap.size 29 #[.int .i64 0] ∧ Bk (W.setCell ⟨w.heap.size + 1 + 1, 0, none⟩ (.int .i64 r1)) (w.heap.size + 1) 30 #[.int .i64 0] ∧ (∃ s, Bk (W.setCell ⟨w.heap.size + 1 + 1, 0, none⟩ (.int .i64 r1)) (w.heap.size + 1 + 1) 29 #[.int .i64 s] ∧ sumGo 0 (pre ++ [x]) = (s, 0)) ∧ Below w.heap.size w (W.setCell ⟨w.heap.size + 1 + 1, 0, none⟩ (.int .i64 r1))) from
        ⟨KeepsOthers.setCell W _ _, keepB_below hb1 hAb ((Below.refl _ W).setCell (p := ⟨w.heap.size + 1 + 1, 0, none⟩) (by show w.heap.size ≤ w.heap.size + 1 + 1; omega) _), j2.far (p := ⟨w.heap.size + 1 + 1, 0, none⟩) (by show w.heap.size ≠ w.heap.size + 1 + 1; omega) _, j3.far (p := ⟨w.heap.size + 1 + 1, 0, none⟩) (by show w.heap.size + 1 ≠ w.heap.size + 1 + 1; omega) _, ⟨r1, j4.set 0 _, by rw [hsn]; simp⟩, hB4⟩)
      clear hsn hB4 hs
      gi_wp2_with (refine ⟨trivial, ?_⟩; gi_at_call 19; refine (callsIn_wide.2 CA.out).mono ?_; rintro e w1 ⟨rfl, rfl⟩)
      exact HF.out
    · have hs2 : sumGo 0 (pre ++ [x]) = (0, r2) := by rw [hsn, if_neg hr2]
      have m2 := (j2.far (p := ⟨w.heap.size + 1 + 1, 0, none⟩) (by show w.heap.size ≠ w.heap.size + 1 + 1; omega) (.int .i64 r1)).set 0 (.int .i64 0)
      have m3 := ((j3.far (p := ⟨w.heap.size + 1 + 1, 0, none⟩) (by show w.heap.size + 1 ≠ w.heap.size + 1 + 1; omega) (.int .i64 r1)).far (p := ⟨w.heap.size, 0, none⟩) (by show w.heap.size + 1 ≠ w.heap.size; omega) (.int .i64 0)).set 0 (.int .i64 r2)
      have hB5 := (hB4.setCell (p := ⟨w.heap.size, 0, none⟩) (Nat.le_refl _) (.int .i64 0)).setCell (p := ⟨w.heap.size + 1, 0, none⟩) (by show w.heap.size ≤ w.heap.size + 1; omega) (.int .i64 r2)
      have HF := Lib.hid (show KeepsOthers W (((W.setCell ⟨w.heap.size + 1 + 1, 0, none⟩ (.int .i64 r1)).setCell ⟨w.heap.size, 0, none⟩ (.int .i64 0)).setCell ⟨w.heap.size + 1, 0, none⟩ (.int .i64 r2)) ∧ ((∃ e, e ≠ 0 ∧ Bk (((W.setCell ⟨w.heap.size + 1 + 1, 0, none⟩ (.int .i64 r1)).setCell ⟨w.heap.size, 0, none⟩ (.int .i64 0)).setCell ⟨w.heap.size + 1, 0, none⟩ (.int .i64 r2)) w.heap.size 29 #[.int .i64 0] ∧ Bk (((W.setCell ⟨w.heap.size + 1 + 1, 0, none⟩ (.int .i64 r1)).setCell ⟨w.heap.size, 0, none⟩ (.int .i64 0)).setCell ⟨w.heap.size + 1, 0, none⟩ (.int .i64 r2)) (w.heap.size + 1) 30 #[.int .i64 e] ∧ sumGo 0 (pre ++ [x]) = (0, e)) ∧ Below w.heap.size w (((W.setCell ⟨w.heap.size + 1 + 1, 0, none⟩ (.int .i64 r1)).setCell ⟨w.heap.size, 0, none⟩ (.int .i64 0)).setCell ⟨w.heap.size + 1, 0, none⟩ (.int .i64 r2))) from
        ⟨((KeepsOthers.setCell W _ _).trans (KeepsOthers.setCell _ _ _)).trans (KeepsOthers.setCell _ _ _), ⟨r2, hr2, m2.far (p := ⟨w.heap.size + 1, 0, none⟩) (by show w.heap.size ≠ w.heap.size + 1; omega) _, m3, hs2⟩, hB5⟩)
      clear hsn hB4 hs hs2 m2 m3 hB5
      gi_wp2_with (refine ⟨trivial, ?_⟩; gi_at_call 19; refine (callsIn_wide.2 CA.out).mono ?_; rintro e w1 ⟨rfl, rfl⟩)
      exact ⟨HF.out.1, rfl, HF.out.2.1, HF.out.2.2⟩
  case done =>
    rintro D ys W hD rfl ⟨j2, j3, ⟨s, j4, hs⟩, hBW⟩ hK
    subst hA
    have c2 := j2.cell 0
    have c3 := j3.cell 0
    have c4 := j4.cell 0
    have f2 := j2.frozen 0
    have f3 := j3.frozen 0
    have hK2 : ((W.setCell ⟨w.heap.size, 0, none⟩ (.int .i64 s)).setCell ⟨w.heap.size + 1, 0, none⟩ (.int .i64 0)).heap[D]? = some (.deferred (some [])) := ((KeepsOthers.setCell W _ _).trans (KeepsOthers.setCell _ _ _)).same D _ hK rfl
    have m2 := (j2.set 0 (.int .i64 s)).far (p := ⟨w.heap.size + 1, 0, none⟩) (by show w.heap.size ≠ w.heap.size + 1; omega) (.int .i64 0)
    have m3 := (j3.far (p := ⟨w.heap.size, 0, none⟩) (by show w.heap.size + 1 ≠ w.heap.size; omega) (.int .i64 s)).set 0 (.int .i64 0)
    have hB5 := (hBW.setCell (p := ⟨w.heap.size, 0, none⟩) (Nat.le_refl _) (.int .i64 s)).setCell (p := ⟨w.heap.size + 1, 0, none⟩) (by show w.heap.size ≤ w.heap.size + 1; omega) (.int .i64 0)
    have hBp : Below w.heap.size w (((W.setCell ⟨w.heap.size, 0, none⟩ (.int .i64 s)).setCell ⟨w.heap.size + 1, 0, none⟩ (.int .i64 0)).putObj D (.deferred none)) := hB5.trans (belowK_b (w := w) (Nat.le_refl _) _ D _ _ (Nat.le_trans hB0.size hD) hK2 rfl rfl)
    have e2 := cell_kept (m2.cell 0) (grownBy_putObj' _ D (.deferred none)) (fun r e => by cases e; exact ⟨_, hK2, rfl⟩)
    have e3 := cell_kept (m3.cell 0) (grownBy_putObj' _ D (.deferred none)) (fun r e => by cases e; exact ⟨_, hK2, rfl⟩)
    have HE := Lib.hid (And.intro hK2 (And.intro hBp (And.intro e2 e3)))
    clear hK2 hBp e2 e3 m2 m3 hB5
    gi_wp2
    obtain ⟨hK2, hBp, e2, e3⟩ := HE.out
    refine ⟨by simp, .inl ⟨_, _, rfl, run_takeDeferred hK2, ?_⟩⟩
    refine ⟨.tuple #[.int .i64 s, .int .i64 0], ?_, by rw [hs], hBp⟩
    simp at e2 e3
    simp [results, Tryd.f17, go_sem, e2, e3]
  case stop =>
    rintro D c pre W hD hpre ⟨rfl, ⟨e, h0, j2, j3, hs⟩, hBW⟩ hK
    subst hA
    have c2 := j2.cell 0
    have c3 := j3.cell 0
    have hBp : Below w.heap.size w (W.putObj D (.deferred none)) := hBW.trans (belowK_b (w := w) (Nat.le_refl _) _ D _ _ (Nat.le_trans hB0.size hD) hK rfl rfl)
    have e2 := cell_kept c2 (grownBy_putObj' _ D (.deferred none)) (fun r e => by cases e; exact ⟨_, hK, rfl⟩)
    have e3 := cell_kept c3 (grownBy_putObj' _ D (.deferred none)) (fun r e => by cases e; exact ⟨_, hK, rfl⟩)
    gi_wp2
    refine ⟨by simp, .inl ⟨_, _, rfl, run_takeDeferred hK, ?_⟩⟩
    obtain ⟨r, rfl⟩ := hpre
    refine ⟨.tuple #[.int .i64 0, .int .i64 e], ?_, by rw [sumGo_err pre r 0 e h0 hs], hBp⟩
    simp at e2 e3
    simp [results, Tryd.f17, go_sem, e2, e3]
end Go.Proofs.YtilmmmokobhnfaaDoor
