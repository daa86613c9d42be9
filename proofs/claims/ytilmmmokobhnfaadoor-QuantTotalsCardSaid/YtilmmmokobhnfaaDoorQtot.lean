/-
  trimtablaw02.QuantTotals: the law's own iterator, package quant's Sum over it.
-/
import Derived.RangeFuncNested
import Derived.RangeFuncBound
import Derived.RangeFuncCalls
import Derived.RangeFuncLeaves
import Derived.RangeFuncFrom
import Derived.Shelf.Abstract
import Derived.Shelf.RegionOpen
import Derived.WalkKit
import Derived.OwnWalkIn
import Derived.TacticsInMore
import Derived.LoopNIn
import Derived.LoopIn
import Derived.Test.YtilmmmokobhnfaaDoorQt
namespace Go.Proofs.YtilmmmokobhnfaaDoor
open Go.RowKit Go.Proofs.Mem Go.Proofs.Qn Go.Shelf
set_option linter.unusedVariables false
set_option linter.unusedSimpArgs false
attribute [local go_sem] Oper.semAt_some
def iv (x : Int) : Value := .int .i64 x
def sumGo (s : Int) : List Int → Int × Int
  | [] => (s, 0)
  | m :: r => if (addR s m).2 = 0 then sumGo (addR s m).1 r else (0, (addR s m).2)
theorem sumGo_snoc : ∀ (l : List Int) (z s m : Int), sumGo z l = (s, 0) → sumGo z (l ++ [m]) = if (addR s m).2 = 0 then ((addR s m).1, 0) else (0, (addR s m).2)
  | [], z, s, m, h => by
    simp only [sumGo, Prod.mk.injEq, and_true] at h
    subst h
    simp only [List.nil_append, sumGo]
  | x :: l, z, s, m, h => by
    simp only [sumGo] at h
    split at h
    · rename_i h0
      rw [List.cons_append, sumGo, if_pos h0]
      exact sumGo_snoc l _ s m h
    · rename_i h0
      simp only [Prod.mk.injEq] at h
      exact absurd h.2 h0
theorem sumGo_err : ∀ (l r : List Int) (z e : Int), e ≠ 0 → sumGo z l = (0, e) → sumGo z (l ++ r) = (0, e)
  | [], r, z, e, he, h => by
    simp only [sumGo, Prod.mk.injEq] at h
    exact absurd h.2.symm he
  | x :: l, r, z, e, he, h => by
    simp only [sumGo] at h
    split at h
    · rename_i h0
      rw [List.cons_append, sumGo, if_pos h0]
      exact sumGo_err l r _ e he h
    · rename_i h0
      rw [List.cons_append, sumGo, if_neg h0]
      exact h
/-- What a round keeps: the closure's block, the row's. -/
structure KeepB (b1 : Nat) (A : Option Addr) (w w' : World) : Prop where
  size : w.heap.size ≤ w'.heap.size
  b1 : w'.heap[b1]? = w.heap[b1]?
  row : ∀ ad, A = some ad → w'.heap[ad.block]? = w.heap[ad.block]?
theorem KeepB.trans {b1 : Nat} {A : Option Addr} {a b c : World} (h : KeepB b1 A a b) (k : KeepB b1 A b c) : KeepB b1 A a c := ⟨Nat.le_trans h.size k.size, k.b1.trans h.b1, fun ad e => (k.row ad e).trans (h.row ad e)⟩
theorem Sl.far {w w' : World} {size n c : Nat} {A : Option Addr} {xs : List Value} (h : Sl w size (.slice A n c) n xs) (hs : w.heap.size ≤ w'.heap.size) (hk : ∀ ad, A = some ad → w'.heap[ad.block]? = w.heap[ad.block]?) : Sl w' size (.slice A n c) n xs := by
  obtain ⟨_, hc, hn, hl, hx⟩ := h.parts
  refine ⟨A, c, rfl, hc, hn, hl, fun h0 => ?_⟩
  obtain ⟨ad, rfl, hb, hcell⟩ := hx h0
  refine ⟨ad, rfl, Nat.lt_of_lt_of_le hb hs, fun j u hu => ?_⟩
  rw [← hcell j u hu]
  exact World.cell?_of_block (by rw [add_block]; exact hk ad rfl)
set_option maxHeartbeats 1000000 in
set_option maxRecDepth 100000 in
theorem tot_in (m : Nat) (hm : 1 ≤ m) (l b1 n c : Nat) (A A' : Option Addr) (hA' : 0 < n → A' = A) (xs : List Int) (hn : xs.length = n) (hb : n ≤ 100) (J Jx : List Int → World → Prop) (W : World) (h1 : W.cell? ⟨b1, 0, none⟩ = some (.slice A n c)) (hS : Sl W 1 (.slice A n c) n (xs.map iv))
    (hJ : AbidesFrom W.heap.size J)
    (hY : ∀ pre x W1, J pre W1 → pre.length < xs.length → YieldAt Fence.wide (m - 1) Tryd.prog l #[.int .i64 x] W1 fun e W' =>
      (e = .returned (.bool true) ∧ J (pre ++ [x]) W' ∧ KeepB b1 A' W1 W') ∨ (e = .returned (.bool false) ∧ Jx (pre ++ [x]) W'))
    (h0 : J [] W) :
    CallsIn Fence.wide m Tryd.prog 18 #[.func (.yield l) #[] #[], .pointer (some ⟨b1, 0, none⟩)] W fun e W' => (∃ v, e = .returned v) ∧
      ((∃ ys, ys = xs ∧ J ys W') ∨ (∃ pre, pre <+: xs ∧ Jx pre W')) := by
  have HS := Lib.hid hS
  have HN := Lib.hid hn
  have HA' := Lib.hid hA'
  rw [hn] at hY
  clear hS hn hA'
  refine callsIn_of_wp Tryd.func18 rfl trivial ?_ rfl
  simp only [Tryd.ntmps18, List.size_toArray, List.length_cons, List.length_nil, Nat.reduceAdd, Nat.reduceSub, Array.replicate_succ, Array.replicate_zero, List.push_toArray, List.append_toArray, List.nil_append, List.cons_append]
  gi_wp2
  have hK0 : KeepB b1 A' W W := ⟨Nat.le_refl _, rfl, fun _ _ => rfl⟩
  gi_loopw [7] (fun i wr => ∃ k : Nat, k ≤ n ∧ i = .int .i64 k ∧ J (xs.take k) wr ∧ KeepB b1 A' W wr)
    (fun i _ => n - (intOf i).toNat)
  case atStart => exact ⟨0, Nat.zero_le _, rfl, h0, hK0⟩
  case round =>
    obtain ⟨k, hk, rfl, hJs, hKr⟩ := hrel
    by_cases hlt : k < n
    · have hd : k < xs.length := by rw [HN.out]; omega
      have hg : xs[k]? = some xs[k] := List.getElem?_eq_getElem hd
      have hSr : Sl wr 1 (.slice A n c) n (xs.map iv) := Sl.far HS.out hKr.size (HA'.out (by omega) ▸ hKr.row)
      obtain ⟨ad, rfl, hadb, hcell⟩ := hSr.cell1 (k := k) (u := iv xs[k]) (by rw [List.getElem?_map, hg]; rfl)
      generalize xs[k] = y at hg hcell
      unfold iv at hcell
      have hlen : (xs.take k).length < n := by rw [List.length_take, HN.out]; omega
      have hY1 := hY _ y wr hJs hlen
      have hs : xs.take (k + 1) = xs.take k ++ [y] := by
        rw [List.take_add_one, hg]
        rfl
      obtain ⟨fn, tmps, assign, body, hy, hRY⟩ := hY1
      have HS2 := Lib.hid hs
      clear hs hg hlen
      gi_wp2
      refine hRY.mono ?_
      rintro e W3 (⟨rfl, hJ3, hk3⟩ | ⟨rfl, hJx3⟩)
      · gi_wp2
        go_roundw
        case rel => exact ⟨k + 1, by omega, by go_num, by rw [HS2.out]; exact hJ3, hKr.trans hk3⟩
        case measure => simp [intOf]; omega
      · gi_wp2
        refine bodyPost_ret (results_none rfl _ _ _) rfl ?_
        exact ⟨⟨_, rfl⟩, .inr ⟨_, by rw [← HS2.out]; exact List.take_prefix _ _, hJx3⟩⟩
    · have e : xs.take k = xs := List.take_of_length_le (by rw [HN.out]; omega)
      rw [e] at hJs
      clear e
      gi_wp2
      go_end0
      exact ⟨⟨_, rfl⟩, .inl ⟨_, rfl, hJs⟩⟩
theorem tot_stops (m : Nat) (hm : 1 ≤ m) {b1 n c : Nat} {A A' : Option Addr} (hA' : 0 < n → A' = A) {xs : List Int} (hn : xs.length = n) (hb : n ≤ 100) (w : World) (h1 : w.cell? ⟨b1, 0, none⟩ = some (.slice A n c)) (hS : Sl w 1 (.slice A n c) n (xs.map iv)) :
    SeqStopsK Fence.wide m Tryd.prog 18 #[.pointer (some ⟨b1, 0, none⟩)] (fun x : Int => #[Value.int .i64 x]) (KeepB b1 A') (fun ys => ys = xs) (fun pre => pre <+: xs) xs.length w := fun l J Jx W hW hJ _ hY h0 =>
  tot_in m hm l b1 n c A A' hA' xs hn hb J Jx W (keep_cell hW h1) (hS.below hW) hJ hY h0
end Go.Proofs.YtilmmmokobhnfaaDoor
