/-
  The contract of slices.Backward at bytes: each byte comes, the last one first. The walk of package octet's Reader.Get.
-/
import Derived.RangeFuncNested
import Derived.RangeFuncBound
import Derived.RangeFuncCalls
import Derived.RangeFuncLeaves
import Derived.RangeFuncFrom
import Derived.Shelf.Abstract
import Derived.Shelf.RegionOpen
import Derived.WalkKit
import Derived.OwnWalkIn
import Derived.TacticsInMore
import Derived.LoopNIn
import Derived.LoopIn
import Derived.Laws.BitsAllLaws
import Derived.Test.YthdjfcfbmmmmcaaOct3
namespace Go.Proofs.Ythdjfcfbmmmmcaa
open Go.RowKit Go.Proofs.Mem Go.Shelf
set_option linter.unusedVariables false
set_option linter.unusedSimpArgs false
attribute [local go_sem] Oper.semAt_some
/-- Bytes with their places, the last one first. -/
def bwl (bs : List UInt8) : List (Nat × UInt8) := (bs.mapIdx fun i b => (i, b)).reverse
theorem bwl_len (bs : List UInt8) : (bwl bs).length = bs.length := by simp [bwl]
theorem bwl_get (bs : List UInt8) (k : Nat) (hk : k < bs.length) : (bwl bs)[bs.length - (k + 1)]? = some (k, bs[k]) := by
  unfold bwl
  rw [List.getElem?_reverse (by rw [List.length_mapIdx]; omega), List.length_mapIdx, List.getElem?_mapIdx]
  rw [show bs.length - 1 - (bs.length - (k + 1)) = k by omega, List.getElem?_eq_getElem hk]
  rfl
/-- What bytes say, the least one first. -/
def leV (bs : List UInt8) : Nat := bs.foldr (fun b x => x * 256 + b.toNat) 0
def acc (l : List (Nat × UInt8)) : Nat := l.foldl (fun x y => x * 256 + y.2.toNat) 0
theorem acc_snoc (l : List (Nat × UInt8)) (y : Nat × UInt8) : acc (l ++ [y]) = acc l * 256 + y.2.toNat := by simp [acc]
theorem acc_bwl (bs : List UInt8) : acc (bwl bs) = leV bs := by
  unfold acc bwl leV
  rw [List.foldl_reverse]
  generalize 0 = z
  suffices h : ∀ (f : Nat → UInt8 → Nat × UInt8), (∀ i b, (f i b).2 = b) → (bs.mapIdx f).foldr (fun y x => x * 256 + y.2.toNat) z = bs.foldr (fun b x => x * 256 + b.toNat) z from h _ fun _ _ => rfl
  induction bs with
  | nil => intro f _; rfl
  | cons b bs ih =>
    intro f hf
    rw [List.mapIdx_cons, List.foldr_cons, List.foldr_cons, ih _ (fun i c => hf (i + 1) c), hf]
theorem acc_lt (l : List (Nat × UInt8)) : acc l < 256 ^ l.length := by
  rcases List.eq_nil_or_concat l with rfl | ⟨m, y, rfl⟩
  · simp [acc]
  · rw [List.concat_eq_append, acc_snoc, List.length_append]
    have := acc_lt m
    have h2 := y.2.toNat_lt
    simp only [List.length_cons, List.length_nil, Nat.zero_add, Nat.pow_succ]
    omega
termination_by l.length
decreasing_by simp_all
theorem or_step (a y : Nat) (ha : a < 72057594037927936) (hy : y < 256) : bits .or .u64 ((a : Int) * 256) (IntKind.u64.wrap (y : Int)) = ((a * 256 + y : Nat) : Int) := by
  rw [IntKind.wrap_u64, show ((y : Int) % 18446744073709551616) = (y : Int) by omega, show ((a : Int) * 256) = ((a * 256 : Nat) : Int) by omega, u64_or_nat _ _ (by omega) (by omega)]
  have h := Nat.two_pow_add_eq_or_of_lt (i := 8) (b := y) (by omega) a
  congr 1
  rw [Nat.mul_comm]
  exact h.symm
/-- What a round keeps: the closure's block, the row's. -/
structure KeepB (b1 : Nat) (A : Option Addr) (w w' : World) : Prop where
  size : w.heap.size ≤ w'.heap.size
  b1 : w'.heap[b1]? = w.heap[b1]?
  row : ∀ ad, A = some ad → w'.heap[ad.block]? = w.heap[ad.block]?
theorem KeepB.trans {b1 : Nat} {A : Option Addr} {a b c : World} (h : KeepB b1 A a b) (k : KeepB b1 A b c) : KeepB b1 A a c := ⟨Nat.le_trans h.size k.size, k.b1.trans h.b1, fun ad e => (k.row ad e).trans (h.row ad e)⟩
set_option maxHeartbeats 1000000 in
set_option maxRecDepth 100000 in
theorem back_in (m : Nat) (hm : 1 ≤ m) (l b1 n c : Nat) (A : Option Addr) (bs : List UInt8) (hn : bs.length = n) (hb : n ≤ 1000000000) (J Jx : List (Nat × UInt8) → World → Prop) (W : World) (h1 : W.cell? ⟨b1, 0, none⟩ = some (.slice A n c)) (hS : Sl W 1 (.slice A n c) n (bs.map bv))
    (hJ : AbidesFrom W.heap.size J)
    (hY : ∀ pre x W1, J pre W1 → pre.length < (bwl bs).length → YieldAt Fence.wide (m - 1) Try.prog l #[.int .i64 x.1, .int .u8 x.2.toNat] W1 fun e W' =>
      (e = .returned (.bool true) ∧ J (pre ++ [x]) W' ∧ KeepB b1 A W1 W') ∨ (e = .returned (.bool false) ∧ Jx (pre ++ [x]) W'))
    (h0 : J [] W) :
    CallsIn Fence.wide m Try.prog 42 #[.func (.yield l) #[] #[], .pointer (some ⟨b1, 0, none⟩)] W fun e W' => (∃ v, e = .returned v) ∧
      ((∃ ys, ys = bwl bs ∧ J ys W') ∨ (∃ pre, pre <+: bwl bs ∧ Jx pre W')) := by
  have HS := Lib.hid hS
  have HN := Lib.hid hn
  have hL : (bwl bs).length = n := by rw [bwl_len, hn]
  have HL := Lib.hid hL
  rw [hL] at hY
  clear hS hn hL
  refine callsIn_of_wp Try.func42 rfl trivial ?_ rfl
  simp only [Try.ntmps42, List.size_toArray, List.length_cons, List.length_nil, Nat.reduceAdd, Nat.reduceSub, Array.replicate_succ, Array.replicate_zero, List.push_toArray, List.append_toArray, List.nil_append, List.cons_append]
  gi_wp2
  have hK0 : KeepB b1 A W W := ⟨Nat.le_refl _, rfl, fun _ _ => rfl⟩
  gi_loopw [3] (fun i wr => ∃ k : Nat, k ≤ n ∧ i = .int .i64 ((k : Int) - 1) ∧ J ((bwl bs).take (n - k)) wr ∧ KeepB b1 A W wr)
    (fun i _ => (intOf i + 1).toNat)
  case atStart => exact ⟨n, Nat.le_refl _, rfl, by rw [Nat.sub_self]; exact h0, hK0⟩
  case round =>
    obtain ⟨k, hk, rfl, hJs, hKr⟩ := hrel
    rcases Nat.eq_zero_or_pos k with rfl | hk0
    · have e : (bwl bs).take (n - 0) = bwl bs := List.take_of_length_le (by rw [HL.out]; omega)
      rw [e] at hJs
      clear e
      gi_wp2
      go_end0
      exact ⟨⟨_, rfl⟩, .inl ⟨_, rfl, hJs⟩⟩
    · obtain ⟨d, rfl⟩ : ∃ d, k = d + 1 := ⟨k - 1, by omega⟩
      have hd : d < bs.length := by rw [HN.out]; omega
      have hg := bwl_get bs d hd
      rw [HN.out] at hg
      have hkr := hKr.b1
      have g1 : wr.cell? ⟨b1, 0, none⟩ = some (.slice A n c) := by
        rw [← h1]
        simp only [World.cell?, hKr.b1]
      have hSr : Sl wr 1 (.slice A n c) n (bs.map bv) := HS.out.far hKr.size hKr.row
      obtain ⟨ad, rfl, hadb, hcell⟩ := hSr.cell1 (k := d) (u := bv bs[d]) (by rw [List.getElem?_map, List.getElem?_eq_getElem hd]; rfl)
      have hdd : (((d + 1 : Nat) : Int) - 1) = (d : Int) := by omega
      rw [hdd]
      generalize bs[d] = y at hg hcell
      unfold bv at hcell
      have HG := Lib.hid hg
      have hlen : ((bwl bs).take (n - (d + 1))).length < n := by rw [List.length_take, HL.out]; omega
      have hY1 := hY _ (d, y) wr hJs hlen
      have hs : (bwl bs).take (n - d) = (bwl bs).take (n - (d + 1)) ++ [(d, y)] := by
        rw [show n - d = (n - (d + 1)) + 1 by omega, List.take_add_one, HG.out]
        rfl
      obtain ⟨fn, tmps, assign, body, hy, hRY⟩ := hY1
      dsimp only at hy
      have HS2 := Lib.hid hs
      clear hs hg hdd hkr hlen
      gi_wp2
      refine hRY.mono ?_
      rintro e W3 (⟨rfl, hJ3, hk3⟩ | ⟨rfl, hJx3⟩)
      · gi_wp2
        go_roundw
        case rel => exact ⟨d, by omega, by go_num, by rw [HS2.out]; exact hJ3, hKr.trans hk3⟩
        case measure => simp [intOf]
      · gi_wp2
        refine bodyPost_ret (results_none rfl _ _ _) rfl ?_
        exact ⟨⟨_, rfl⟩, .inr ⟨_, by rw [← HS2.out]; exact List.take_prefix _ _, hJx3⟩⟩
theorem back_stops (m : Nat) (hm : 1 ≤ m) {b1 n c : Nat} {A : Option Addr} {bs : List UInt8} (hn : bs.length = n) (hb : n ≤ 1000000000) (w : World) (h1 : w.cell? ⟨b1, 0, none⟩ = some (.slice A n c)) (hS : Sl w 1 (.slice A n c) n (bs.map bv)) :
    SeqStopsK Fence.wide m Try.prog 42 #[.pointer (some ⟨b1, 0, none⟩)] (fun x : Nat × UInt8 => #[Value.int .i64 x.1, .int .u8 x.2.toNat]) (KeepB b1 A) (fun ys => ys = bwl bs) (fun pre => pre <+: bwl bs) (bwl bs).length w := fun l J Jx W hW hJ _ hY h0 =>
  back_in m hm l b1 n c A bs hn hb J Jx W (keep_cell hW h1) (hS.below hW) hJ hY h0
theorem back_any (v : Value) (w : World) (hv : ∃ A n c, v = .slice A n c) : Calls Try.prog 24 #[v] w fun e w' => e = .returned (.func (.func 42) #[] #[.pointer (some ⟨w.heap.size, 0, none⟩)]) ∧ w' = w.alloc (.cells #[v] 22) := by
  obtain ⟨A, n, c, rfl⟩ := hv
  go_enter Try.func24, Try.ntmps24
  go_wp2_with fail
  go_ret
  exact ⟨rfl, rfl⟩
theorem touch_grown {b : Nat} {W1 A B : World} {row : Option Nat} (h : PTouch b none W1 A) (hg : A.grownBy B row) (hr : ∀ r, row = some r → W1.heap.size ≤ r) : PTouch b none W1 B := by
  refine ⟨Nat.le_trans h.size hg.size, fun g hgl h1 h2 => (hg.block g (Nat.lt_of_lt_of_le hgl h.size) fun e => ?_).trans (h.heap g hgl h1 h2), fun B' W hB h1 h2 h3 => (h.below B' W hB h1 h2 h3).grown hg (Nat.le_trans h3 h.size) fun k e => ?_⟩
  · have := hr g e.symm
    omega
  · have := hr k e
    omega
/-- A block of cells stays through whatever turns no cells. -/
theorem bk_own {g : Nat} {t : TypeId} {cs : Array Value} {W W' : World} {row : Option Nat} (h : Bk W g t cs) (hg : W.grownBy W' row) (hr : ∀ r, row = some r → ∃ o : Obj, W.heap[r]? = some o ∧ o.isCells = false) : Bk W' g t cs := by
  refine h.grown hg fun e => ?_
  obtain ⟨o, ho, hc⟩ := hr g e.symm
  have h' : W.heap[g]? = some (.cells cs t) := h
  rw [h'] at ho
  injection ho with ho
  subst ho
  cases hc
theorem keepB_b {b1 : Nat} {A : Option Addr} {w : World} (h1 : b1 < w.heap.size) (hA : ∀ ad, A = some ad → ad.block < w.heap.size) (W : World) (l : Nat) (o o' : Obj) (hl : w.heap.size ≤ l) (h : W.heap[l]? = some o) (_ : o.isCells = false) (_ : o.isWalk = false) : KeepB b1 A W (W.putObj l o') := by
  have hg := grownBy_putObj' W l o'
  have hlW : l < W.heap.size := (Array.getElem?_eq_some_iff.1 h).1
  have e : ∀ b, b < w.heap.size → (W.putObj l o').heap[b]? = W.heap[b]? := fun b hb => hg.block b (by omega) (fun e => by injection e with e; omega)
  exact ⟨hg.size, e b1 h1, fun ad ha => e _ (hA ad ha)⟩
set_option maxHeartbeats 1000000 in
set_option maxRecDepth 100000 in
/-- Get's own part: behind what 'take' hands back. -/
theorem get_gen (n : Int) (hn : wholeP n) (rv : Value) (hrv : ∃ p, rv = .pointer p) (bs : List UInt8) (hb : bs.length ≤ 8) (w : World) (T : World → Prop)
    (CT : ∀ w1, Below w.heap.size w w1 → Calls Try.prog 25 #[rv, .int .i64 n] w1 fun e w' => ∃ A c, e = .returned (.slice A bs.length c) ∧ Sl w' 1 (.slice A bs.length c) bs.length (bs.map bv) ∧ (∀ ad, A = some ad → ad.block < w.heap.size) ∧ w1.heap.size ≤ w'.heap.size ∧ (∀ g, w.heap.size ≤ g → g < w1.heap.size → w'.heap[g]? = w1.heap[g]?) ∧ T w')
    (hT : ∀ a b, T a → w.heap.size ≤ a.heap.size → PTouch w.heap.size none a b → T b) :
    Calls Try.prog 11 #[rv, .int .i64 n] w fun e w' => e = .returned (.int .u64 (leV bs)) ∧ T w' := by
  have CW := Lib.hid (whole_t n hn w)
  obtain ⟨p, rfl⟩ := hrv
  refine (callsIn_wide (n := 8)).1 ?_
  refine callsIn_of_wp_marks Try.func11 rfl trivial ?_ rfl
  simp only [Try.ntmps11, List.size_toArray, List.length_cons, List.length_nil, Nat.reduceAdd, Nat.reduceSub, Array.replicate_succ, Array.replicate_zero, List.push_toArray, List.append_toArray, List.nil_append, List.cons_append]
  gi_wp2_with (first
    | (refine ⟨trivial, ?_⟩; gi_at_call 23; refine (callsIn_wide.2 CW.out).mono ?_; rintro e w1 ⟨rfl, rfl⟩)
    | (refine ⟨trivial, ?_⟩; gi_at_call 25; refine (callsIn_wide.2 (CT _ (below_al _ _))).mono ?_; rintro e w2 ⟨A, c, rfl, hS, hAb, hsz2, hkeep2, hT2⟩)
    | (refine ⟨trivial, ?_⟩; gi_at_call 24; refine (callsIn_wide.2 (back_any _ _ ⟨_, _, _, rfl⟩)).mono ?_; rintro e w3 ⟨rfl, rfl⟩))
  have k5 : Bk w2 w.heap.size 26 #[.int .u64 0] := (hkeep2 w.heap.size (Nat.le_refl _) (by simp)).trans (Bk.new w _ _)
  have hlt5 := k5.lt
  have j5 := k5.alloc (.cells #[.slice A bs.length c] 22)
  have j6 := Bk.new w2 22 #[.slice A bs.length c]
  have hS0 := hS.alloc (.cells #[.slice A bs.length c] 22)
  have hT0 := hT w2 (w2.alloc (.cells #[.slice A bs.length c] 22)) hT2 (Nat.le_of_lt hlt5) (PTouch.of_below (below_al _ _))
  have hA0 : ∀ ad, A = some ad → ad.block < (w2.alloc (.cells #[.slice A bs.length c] 22)).heap.size := fun ad e => by
    have := hAb ad e
    simp
    omega
  generalize w2.alloc (.cells #[.slice A bs.length c] 22) = W1 at j5 j6 hS0 hT0 hA0 ⊢
  have hg1 : w2.heap.size ≠ w.heap.size := by omega
  generalize w2.heap.size = g6 at j6 hg1 ⊢
  clear k5 hT2 hS hkeep2 hsz2 hlt5
  have hs0 : w.heap.size ≤ W1.heap.size := Nat.le_of_lt j5.lt
  have hseq := back_stops (8 - 1) (by omega) (bs := bs) rfl (by omega) W1 (j6.cell 0) hS0
  have hbl := bwl_len bs
  have HBL := Lib.hid hbl
  have HB8 := Lib.hid hb
  clear hbl hb
  generalize hA : Act.mk _ [] = a0
  refine wpIn_rangeFunc_ownF rfl (by omega) (gf := 42) (lb := #[.pointer (some ⟨g6, 0, none⟩)]) (by rw [← hA]; rfl) trivial (enters_of Try.func42 (by kernel_rfl) rfl)
    hseq (fun h k => h.trans k) (keepB_b j6.lt hA0) (Below.refl _ _) (fun _ => rfl)
    (fun pre W => Bk W w.heap.size 26 #[.int .u64 (acc pre)] ∧ PTouch w.heap.size none W1 W)
    (fun _ _ _ => False)
    (fun s A B row h hg hr => ⟨bk_own h.1 hg (fun r e => (hr r e).2), touch_grown h.2 hg (fun r e => (hr r e).1)⟩)
    (fun _ _ _ _ _ hs _ _ => hs)
    ⟨j5, PTouch.refl _ _ _⟩
    (fun x => ⟨((a0.tmps.setIfInBounds 20 (.int .i64 x.1)).setIfInBounds 21 (.int .u8 x.2.toNat)).setIfInBounds 7 (.int .u8 x.2.toNat), []⟩) ?assign ?body ?done ?stop
  case assign =>
    intro l x W K hK
    subst hA
    gi_wp2
    simpa using hK
  case body =>
    rintro l pre ⟨i, y⟩ W ⟨hk, hP⟩ hlen
    subst hA
    rw [HBL.out] at hlen
    simp only [List.setIfInBounds_toArray, List.set_cons_zero, List.set_cons_succ]
    have c5 := hk.cell 0
    have f5 := hk.frozen 0
    have hacc := acc_lt pre
    have hp7 : pre.length ≤ 7 := by have := HB8.out; omega
    have hpow : 256 ^ pre.length ≤ 256 ^ 7 := Nat.pow_le_pow_right (by omega) hp7
    have ha : acc pre < 72057594037927936 := by omega
    clear hpow hacc
    have hor := or_step (acc pre) y.toNat ha y.toNat_lt
    have e : ((acc (pre ++ [(i, y)]) : Nat) : Int) = ((acc pre * 256 + y.toNat : Nat) : Int) := by rw [acc_snoc]
    have hk2 := hk.set 0 (.int .u64 ((acc pre * 256 + y.toNat : Nat) : Int))
    have hfin : KeepsOthers W (W.setCell ⟨w.heap.size, 0, none⟩ (.int .u64 ((acc pre * 256 + y.toNat : Nat) : Int))) ∧ KeepB g6 A W (W.setCell ⟨w.heap.size, 0, none⟩ (.int .u64 ((acc pre * 256 + y.toNat : Nat) : Int))) ∧ Bk (W.setCell ⟨w.heap.size, 0, none⟩ (.int .u64 ((acc pre * 256 + y.toNat : Nat) : Int))) w.heap.size 26 #[.int .u64 (acc (pre ++ [(i, y)]))] ∧ PTouch w.heap.size none W1 (W.setCell ⟨w.heap.size, 0, none⟩ (.int .u64 ((acc pre * 256 + y.toNat : Nat) : Int))) :=
      ⟨KeepsOthers.setCell W _ _, ⟨by simp [World.setCell], Below.heap_setCell W ⟨w.heap.size, 0, none⟩ _ _ hg1, fun ad e => Below.heap_setCell W ⟨w.heap.size, 0, none⟩ _ _ (Nat.ne_of_lt (hAb ad e))⟩, by rw [e]; simpa using hk2, hP.setCell (a := ⟨w.heap.size, 0, none⟩) rfl _⟩
    rw [← hor] at hfin
    have HF := Lib.hid hfin
    clear hfin hor e hk2
    gi_wp2
    exact HF.out
  case done =>
    rintro D ys W hD rfl ⟨hk, hP⟩ hK
    subst hA
    rw [acc_bwl] at hk
    have c5 := hk.cell 0
    gi_wp2
    refine ⟨by simp, .inl ⟨_, _, rfl, run_takeDeferred hK, ?_⟩⟩
    exact ⟨_, results_tmp rfl _ _ _, rfl, hT W1 _ hT0 hs0 (touch_grown hP (grownBy_putObj' W D _) (fun r e => by injection e with e; omega))⟩
  case stop =>
    rintro D c pre W _ h hf _
    exact hf.elim
end Go.Proofs.Ythdjfcfbmmmmcaa
