/-
  The contract of package ring's iterator Since, at ints: each sample from a tick on comes, the eldest first.
-/
import Derived.Test.YtjiliegfcljjhaaGreatRM4
namespace Go.Proofs.YtjiliegfcljjhaaGreat
open Go.RowKit Go.Proofs.Mem Go.Shelf
set_option linter.unusedVariables false
set_option linter.unusedSimpArgs false
attribute [local go_sem] Oper.semAt_some
/-- What a round keeps: the ring's and the closure's blocks. -/
structure KeepR (p q b1 b2 : Nat) (w w' : World) : Prop where
  size : w.heap.size ≤ w'.heap.size
  p : w'.heap[p]? = w.heap[p]?
  q : w'.heap[q]? = w.heap[q]?
  b1 : w'.heap[b1]? = w.heap[b1]?
  b2 : w'.heap[b2]? = w.heap[b2]?
theorem KeepR.trans {p q b1 b2 : Nat} {A B C : World} (h : KeepR p q b1 b2 A B) (k : KeepR p q b1 b2 B C) : KeepR p q b1 b2 A C := ⟨Nat.le_trans h.size k.size, k.p.trans h.p, k.q.trans h.q, k.b1.trans h.b1, k.b2.trans h.b2⟩
theorem KeepR.of_below {p q b1 b2 : Nat} {A B : World} (h : Below A.heap.size A B) (hp : p < A.heap.size) (hq : q < A.heap.size) (h1 : b1 < A.heap.size) (h2 : b2 < A.heap.size) : KeepR p q b1 b2 A B := ⟨h.size, h.block p hp, h.block q hq, h.block b1 h1, h.block b2 h2⟩
theorem KeepR.ring {p q b1 b2 f n : Nat} {zs : List (Int × Int)} {A B : World} (h : KeepR p q b1 b2 A B) (hR : RingI A p q zs f n) : RingI B p q zs f n := ⟨hR.bp.imp fun _ b => ⟨b.1, h.p.trans b.2⟩, hR.bq.imp fun _ b => h.q.trans b, hR.ne, hR.hf, hR.hn, hR.hl⟩
theorem keepS7 {p q b1 i : Nat} {x0 x1 y0 y1 : Value} {W w w' : World} (h : w.cell? ⟨b1, 0, none⟩ = some x0 ∧ w.cell? ⟨p, 0, none⟩ = some x1 ∧ w.cell? ⟨q, i, none⟩ = some y0 ∧ w.cell? ⟨q, i + 1, none⟩ = some y1 ∧ Below W.heap.size W w) (hB : Below w.heap.size w w') :
    w'.cell? ⟨b1, 0, none⟩ = some x0 ∧ w'.cell? ⟨p, 0, none⟩ = some x1 ∧ w'.cell? ⟨q, i, none⟩ = some y0 ∧ w'.cell? ⟨q, i + 1, none⟩ = some y1 ∧ Below W.heap.size W w' := ⟨keep_cell hB h.1, keep_cell hB h.2.1, keep_cell hB h.2.2.1, keep_cell hB h.2.2.2.1, below_tr h.2.2.2.2 hB⟩
theorem keepS7s {p q b1 i g j : Nat} {x0 x1 y0 y1 u : Value} {W w : World} (hp : p < W.heap.size) (hq : q < W.heap.size) (h1 : b1 < W.heap.size) (hg : W.heap.size ≤ g) (h : w.cell? ⟨b1, 0, none⟩ = some x0 ∧ w.cell? ⟨p, 0, none⟩ = some x1 ∧ w.cell? ⟨q, i, none⟩ = some y0 ∧ w.cell? ⟨q, i + 1, none⟩ = some y1 ∧ Below W.heap.size W w) :
    (w.setCell ⟨g, j, none⟩ u).cell? ⟨b1, 0, none⟩ = some x0 ∧ (w.setCell ⟨g, j, none⟩ u).cell? ⟨p, 0, none⟩ = some x1 ∧ (w.setCell ⟨g, j, none⟩ u).cell? ⟨q, i, none⟩ = some y0 ∧ (w.setCell ⟨g, j, none⟩ u).cell? ⟨q, i + 1, none⟩ = some y1 ∧ Below W.heap.size W (w.setCell ⟨g, j, none⟩ u) := by
  have e : ∀ b k, b < W.heap.size → (w.setCell ⟨g, j, none⟩ u).cell? ⟨b, k, none⟩ = w.cell? ⟨b, k, none⟩ := fun b k hb => World.cell?_setCell_other (w := w) (a := ⟨g, j, none⟩) (v := u) (b := ⟨b, k, none⟩) (fun e => absurd (congrArg Addr.block e) (by show g ≠ b; omega))
  exact ⟨(e _ _ h1).trans h.1, (e _ _ hp).trans h.2.1, (e _ _ hq).trans h.2.2.1, (e _ _ hq).trans h.2.2.2.1, h.2.2.2.2.setCell (p := ⟨g, j, none⟩) hg u⟩
theorem grown_none {A B : World} (h : Below A.heap.size A B) : A.grownBy B none := ⟨h.os, h.tape, h.output, h.size, fun k hk _ => h.block k hk⟩
theorem flt_succ {α : Type} (P : α → Bool) (L : List α) (k : Nat) (x : α) (h : L[k]? = some x) : (L.take (k + 1)).filter P = (L.take k).filter P ++ (if P x = true then [x] else []) := by
  rw [List.take_add_one, h, List.filter_append]
  congr 1
  cases hp : P x <;> simp [hp]
theorem flt_pre {α : Type} (P : α → Bool) (L : List α) (k : Nat) : (L.take k).filter P <+: L.filter P := by
  refine ⟨(L.drop k).filter P, ?_⟩
  rw [← List.filter_append, List.take_append_drop]
theorem flt_len {α : Type} (P : α → Bool) (L : List α) (k : Nat) (x : α) (h : L[k]? = some x) (hp : P x = true) : ((L.take k).filter P).length < (L.filter P).length := by
  have h1 := (flt_pre P L (k + 1)).length_le
  rw [flt_succ P L k x h, if_pos hp, List.length_append] at h1
  simp at h1
  omega
set_option maxHeartbeats 1000000 in
set_option maxRecDepth 100000 in
theorem sinceI_in (m : Nat) (hm : 1 ≤ m) (l p q f n b1 b2 : Nat) (zs : List (Int × Int)) (t : Int) (J Jx : List (Int × Int) → World → Prop) (W : World) (hR : RingI W p q zs f n) (h1 : W.cell? ⟨b1, 0, none⟩ = some (.pointer (some ⟨p, 0, none⟩))) (h2 : W.cell? ⟨b2, 0, none⟩ = some (.int .i64 t))
    (hJ : AbidesFrom W.heap.size J)
    (hY : ∀ pre x W1, J pre W1 → pre.length < ((lst zs f n).filter fun y => decide (t ≤ y.1)).length → YieldAt Fence.wide (m - 1) Tryz.prog l #[.agg #[.int .i64 x.1, .int .i64 x.2]] W1 fun e W' =>
      (e = .returned (.bool true) ∧ J (pre ++ [x]) W' ∧ KeepR p q b1 b2 W1 W') ∨ (e = .returned (.bool false) ∧ Jx (pre ++ [x]) W'))
    (h0 : J [] W) :
    CallsIn Fence.wide m Tryz.prog 70 #[.func (.yield l) #[] #[], .pointer (some ⟨b1, 0, none⟩), .pointer (some ⟨b2, 0, none⟩)] W fun e W' => (∃ v, e = .returned v) ∧
      ((∃ ys, ys = (lst zs f n).filter (fun y => decide (t ≤ y.1)) ∧ J ys W') ∨ (∃ pre, pre <+: (lst zs f n).filter (fun y => decide (t ≤ y.1)) ∧ Jx pre W')) := by
  obtain ⟨L, hL⟩ : ∃ L, L = lst zs f n := ⟨_, rfl⟩
  rw [← hL] at hY ⊢
  have hz0 : 0 < zs.length := Nat.lt_of_le_of_lt (Nat.zero_le _) hR.hf
  have hLl : L.length = n := by rw [hL]; exact lst_length zs f n hz0
  have hLg : ∀ i (hi : i < n), L[i]? = some (zs[(f + i) % zs.length]'(Nat.mod_lt _ hz0)) := fun i hi => by
    rw [hL, List.getElem?_eq_getElem (by rw [lst_length zs f n hz0]; exact hi), lst_get zs f n i hz0 hi]
  have HLg := Lib.hid hLg
  have hn32 : n ≤ 32 := Nat.le_trans hR.hn hR.hl
  have hN32 := hR.hl
  have hfN := hR.hf
  have HR := Lib.hid hR
  have hpW := hR.plt
  have hqW := hR.qlt
  have h1W := World.block_lt_of_cell? _ _ h1
  have h2W := World.block_lt_of_cell? _ _ h2
  simp only at h1W h2W
  clear hLg hL hR
  refine callsIn_of_wp Tryz.func70 rfl trivial ?_ rfl
  simp only [Tryz.ntmps70, List.size_toArray, List.length_cons, List.length_nil, Nat.reduceAdd, Nat.reduceSub, Array.replicate_succ, Array.replicate_zero, List.push_toArray, List.append_toArray, List.nil_append, List.cons_append]
  gi_wp2_with (first
    | (refine ⟨trivial, ?_⟩; gi_at_call 71; refine (callsIn_wide.2 (lenI_any _ HR.out)).mono ?_; rintro e w1 ⟨rfl, rfl⟩))
  have hK0 : KeepR p q b1 b2 W W := ⟨Nat.le_refl _, rfl, rfl, rfl, rfl⟩
  gi_loopw [8, 4] (fun i r wr => ∃ k : Nat, k ≤ n ∧ i = .int .i64 k ∧ J ((L.take k).filter fun y => decide (t ≤ y.1)) wr ∧ KeepR p q b1 b2 W wr)
    (fun i r _ => n - (intOf i).toNat)
  case atStart => exact ⟨0, Nat.zero_le _, rfl, h0, hK0⟩
  case round =>
    obtain ⟨k, hk, rfl, hJs, hKr⟩ := hrel
    by_cases hlt : k < n
    · have hRr := hKr.ring HR.out
      have g1 : wr.cell? ⟨b1, 0, none⟩ = some (.pointer (some ⟨p, 0, none⟩)) := by
        rw [← h1]
        simp only [World.cell?, hKr.b1]
      have g2 : wr.cell? ⟨b2, 0, none⟩ = some (.int .i64 t) := by
        rw [← h2]
        simp only [World.cell?, hKr.b2]
      obtain ⟨i, hi⟩ : ∃ i, i = (f + k) % zs.length := ⟨_, rfl⟩
      have hiN : i < zs.length := by rw [hi]; exact Nat.mod_lt _ hz0
      have C1 := Lib.hid (fun w1 (hb : Below wr.heap.size wr w1) => atI_any k (by omega) w1 (hRr.below hb))
      rw [← hi] at C1
      have hLk : L[k]? = some zs[i] := by
        rw [HLg.out k hlt]
        simp only [hi]
      obtain ⟨c, hcc, d0⟩ := hRr.c0
      have y0 := hRr.z0 i hiN
      have y1 := hRr.z1 i hiN
      generalize hx : zs[i] = x at y0 y1 hLk
      obtain ⟨xa, xv⟩ := x
      simp only at y0 y1
      have HLk := Lib.hid hLk
      clear hx hLk hi
      have hpr : p < wr.heap.size := hRr.plt
      have hqr : q < wr.heap.size := hRr.qlt
      have h1r := World.block_lt_of_cell? _ _ g1
      have h2r := World.block_lt_of_cell? _ _ g2
      simp only at h1r h2r
      have hB0 : Below wr.heap.size wr wr.drew := (Below.refl _ _).drew
      have hadd : (⟨q, 0, none⟩ : Addr).add (i * 2) = ⟨q, i * 2, none⟩ := by rw [add_lit]; simp
      obtain ⟨N, hN⟩ : ∃ N, N = zs.length := ⟨_, rfl⟩
      rw [← hN] at d0 hcc hiN hN32
      have HN := Lib.hid hN
      have b3 : (i : Int) ≤ 32 := by omega
      clear hN hRr
      have e1 : wr.drew.cell? ⟨b1, 0, none⟩ = some (.pointer (some ⟨p, 0, none⟩)) := g1
      have e2 : wr.drew.cell? ⟨p, 0, none⟩ = some (.slice (some ⟨q, 0, none⟩) N c) := d0
      have e3 : wr.drew.cell? ⟨q, i * 2, none⟩ = some (.int .i64 xa) := y0
      have e4 : wr.drew.cell? ⟨q, i * 2 + 1, none⟩ = some (.int .i64 xv) := y1
      have hnw : Bk (wr.alloc (.cells #[.int .i64 0, .int .i64 0] 131)).drew wr.heap.size 131 #[.int .i64 0, .int .i64 0] := Bk.new wr _ _
      gi_wp2
      refine wpIn_wide.2 ?_
      go_region_held3 (fun w' => w'.cell? ⟨b1, 0, none⟩ = some (.pointer (some ⟨p, 0, none⟩)) ∧ w'.cell? ⟨p, 0, none⟩ = some (.slice (some ⟨q, 0, none⟩) N c) ∧ w'.cell? ⟨q, i * 2, none⟩ = some (.int .i64 xa) ∧ w'.cell? ⟨q, i * 2 + 1, none⟩ = some (.int .i64 xv) ∧ Below wr.heap.size wr w')
        (first | (exact ⟨e1, e2, e3, e4, hB0⟩) | (with_reducible exact keepS7 (by assumption) (below_al _ _)) | (with_reducible exact keepS7 hS9 (below_al _ _)) | (with_reducible exact keepS7 (by assumption) hb9) | (with_reducible exact keepS7s hpr hqr h1r (by with_reducible assumption) (keepS7s hpr hqr h1r (by with_reducible assumption) (by with_reducible assumption))) | (with_reducible assumption))
        (first
          | (go_at_call 53; refine (C1.out _ (by with_reducible assumption : _ ∧ _ ∧ _ ∧ _ ∧ Below wr.heap.size wr _).2.2.2.2).mono ?_; rintro e wa ⟨rfl, hb9⟩; have hnb : Bk wa wr.heap.size 131 #[.int .i64 0, .int .i64 0] := (by with_reducible exact hnw.below' hb9); have n0 : wa.cell? ⟨wr.heap.size, 0, none⟩ = some (.int .i64 0) := hnb.cell 0; have n1 : wa.cell? ⟨wr.heap.size, 1, none⟩ = some (.int .i64 0) := hnb.cell 1; have m0 : wa.frozen? ⟨wr.heap.size, 0, none⟩ = false := hnb.frozen 0; have m1 : wa.frozen? ⟨wr.heap.size, 1, none⟩ = false := hnb.frozen 1; have hgr : wr.heap.size ≤ wr.heap.size := Nat.le_refl _; have hg9 := Nat.le_trans (by with_reducible assumption : _ ∧ _ ∧ _ ∧ _ ∧ Below wr.heap.size wr _).2.2.2.2.size hb9.size; have hS9 := keepS7 (by with_reducible assumption : _ ∧ _ ∧ _ ∧ _ ∧ Below wr.heap.size wr _) hb9)
          | (go_at_call 53; refine (C1.out _ (by with_reducible assumption : _ ∧ _ ∧ _ ∧ _ ∧ Below wr.heap.size wr _).2.2.2.2).mono ?_; rintro e wa ⟨rfl, hb9⟩; have hg9 := Nat.le_trans (by with_reducible assumption : _ ∧ _ ∧ _ ∧ _ ∧ Below wr.heap.size wr _).2.2.2.2.size hb9.size; have hS9 := keepS7 (by with_reducible assumption : _ ∧ _ ∧ _ ∧ _ ∧ Below wr.heap.size wr _) hb9))
      · have hk9 := Bk.new wa 131 #[.int .i64 xa, .int .i64 xv]
        have hBF : Below wr.heap.size wr (wa.alloc (.cells #[.int .i64 xa, .int .i64 xv] 131)) := below_tr hS9.2.2.2.2 (below_al _ _)
        generalize wa.alloc (.cells #[.int .i64 xa, .int .i64 xv] 131) = wF at hk9 hBF ⊢
        clear hS9 hg9 hb9
        generalize wa.heap.size = g9 at hk9 ⊢
        have c0 := hk9.cell 0
        have c1 := hk9.cell 1
        have KF : KeepR p q b1 b2 wr wF := KeepR.of_below hBF hpr hqr h1r h2r
        have JF := hJ _ _ _ none hJs (grown_none hBF) (fun r e => by cases e)
        have g2F := keep_cell hBF g2
        clear hk9 e1 e2 e3 e4 g1 y0 y1 d0 hnw hadd hB0 C1
        have hcxt : (t ≤ xa ∧ decide (t ≤ xa) = true) ∨ (xa < t ∧ decide (t ≤ xa) = false) := by
          rcases Int.lt_or_le xa t with e | e
          · exact .inr ⟨e, by simp; omega⟩
          · exact .inl ⟨e, by simp; exact e⟩
        have hKF := hKr.trans KF
        rcases hcxt with ⟨hx1, hx2⟩ | ⟨hx1, hx2⟩
        · have hs := flt_succ (fun y : Int × Int => decide (t ≤ y.1)) L k (xa, xv) HLk.out
          rw [if_pos hx2] at hs
          have hln := flt_len (fun y : Int × Int => decide (t ≤ y.1)) L k (xa, xv) HLk.out hx2
          obtain ⟨fn, tmps, assign, body, hy, hRY⟩ := hY _ (xa, xv) wF JF hln
          dsimp only at hy
          have HS := Lib.hid hs
          clear hs hln hx2
          gi_wp2
          refine hRY.mono ?_
          rintro e W3 (⟨rfl, hJ3, hk3⟩ | ⟨rfl, hJx3⟩)
          · gi_wp2
            go_roundw
            case rel => exact ⟨k + 1, by omega, by go_num, by rw [HS.out]; exact hJ3, hKF.trans hk3⟩
            case measure => simp [intOf]; omega
          · gi_wp2
            refine bodyPost_ret (results_none rfl _ _ _) rfl ?_
            exact ⟨⟨_, rfl⟩, .inr ⟨_, by rw [← HS.out]; exact flt_pre _ _ _, hJx3⟩⟩
        · have hs := flt_succ (fun y : Int × Int => decide (t ≤ y.1)) L k (xa, xv) HLk.out
          rw [if_neg (by rw [hx2]; simp), List.append_nil] at hs
          have HS := Lib.hid hs
          clear hs hx2
          gi_wp2
          refine ⟨fun _ h => (by cases h), ?_⟩
          gi_wp2
          go_roundw
          case rel => exact ⟨k + 1, by omega, by go_num, by rw [HS.out]; exact JF, hKF⟩
          case measure => simp [intOf]; omega
      · have hk9 := (hnb.set 0 (.int .i64 xa)).set 1 (.int .i64 xv)
        simp only [List.setIfInBounds_toArray, List.set_cons_zero, List.set_cons_succ] at hk9
        have hBF : Below wr.heap.size wr ((wa.setCell ⟨wr.heap.size, 0, none⟩ (.int .i64 xa)).setCell ⟨wr.heap.size, 1, none⟩ (.int .i64 xv)) := (hS9.2.2.2.2.setCell (p := ⟨wr.heap.size, 0, none⟩) (Nat.le_refl _) _).setCell (p := ⟨wr.heap.size, 1, none⟩) (Nat.le_refl _) _
        generalize (wa.setCell ⟨wr.heap.size, 0, none⟩ (.int .i64 xa)).setCell ⟨wr.heap.size, 1, none⟩ (.int .i64 xv) = wF at hk9 hBF ⊢
        clear hS9 hg9 hb9 hnb n0 n1 m0 m1
        have c0 := hk9.cell 0
        have c1 := hk9.cell 1
        have KF : KeepR p q b1 b2 wr wF := KeepR.of_below hBF hpr hqr h1r h2r
        have JF := hJ _ _ _ none hJs (grown_none hBF) (fun r e => by cases e)
        have g2F := keep_cell hBF g2
        clear hk9 e1 e2 e3 e4 g1 y0 y1 d0 hnw hadd hB0 C1
        have hcxt : (t ≤ xa ∧ decide (t ≤ xa) = true) ∨ (xa < t ∧ decide (t ≤ xa) = false) := by
          rcases Int.lt_or_le xa t with e | e
          · exact .inr ⟨e, by simp; omega⟩
          · exact .inl ⟨e, by simp; exact e⟩
        have hKF := hKr.trans KF
        rcases hcxt with ⟨hx1, hx2⟩ | ⟨hx1, hx2⟩
        · have hs := flt_succ (fun y : Int × Int => decide (t ≤ y.1)) L k (xa, xv) HLk.out
          rw [if_pos hx2] at hs
          have hln := flt_len (fun y : Int × Int => decide (t ≤ y.1)) L k (xa, xv) HLk.out hx2
          obtain ⟨fn, tmps, assign, body, hy, hRY⟩ := hY _ (xa, xv) wF JF hln
          dsimp only at hy
          have HS := Lib.hid hs
          clear hs hln hx2
          gi_wp2
          refine hRY.mono ?_
          rintro e W3 (⟨rfl, hJ3, hk3⟩ | ⟨rfl, hJx3⟩)
          · gi_wp2
            go_roundw
            case rel => exact ⟨k + 1, by omega, by go_num, by rw [HS.out]; exact hJ3, hKF.trans hk3⟩
            case measure => simp [intOf]; omega
          · gi_wp2
            refine bodyPost_ret (results_none rfl _ _ _) rfl ?_
            exact ⟨⟨_, rfl⟩, .inr ⟨_, by rw [← HS.out]; exact flt_pre _ _ _, hJx3⟩⟩
        · have hs := flt_succ (fun y : Int × Int => decide (t ≤ y.1)) L k (xa, xv) HLk.out
          rw [if_neg (by rw [hx2]; simp), List.append_nil] at hs
          have HS := Lib.hid hs
          clear hs hx2
          gi_wp2
          refine ⟨fun _ h => (by cases h), ?_⟩
          gi_wp2
          go_roundw
          case rel => exact ⟨k + 1, by omega, by go_num, by rw [HS.out]; exact JF, hKF⟩
          case measure => simp [intOf]; omega
    · have hkn : k = n := by omega
      subst hkn
      have e : L.take k = L := List.take_of_length_le (by omega)
      rw [e] at hJs
      clear e
      gi_wp2
      go_end0
      exact ⟨⟨_, rfl⟩, .inl ⟨_, rfl, hJs⟩⟩
theorem sinceI_stops (m : Nat) (hm : 1 ≤ m) {p q f n b1 b2 : Nat} {zs : List (Int × Int)} (t : Int) (w : World) (hR : RingI w p q zs f n) (h1 : w.cell? ⟨b1, 0, none⟩ = some (.pointer (some ⟨p, 0, none⟩))) (h2 : w.cell? ⟨b2, 0, none⟩ = some (.int .i64 t)) :
    SeqStopsK Fence.wide m Tryz.prog 70 #[.pointer (some ⟨b1, 0, none⟩), .pointer (some ⟨b2, 0, none⟩)] (fun x : Int × Int => #[Value.agg #[.int .i64 x.1, .int .i64 x.2]]) (KeepR p q b1 b2) (fun ys => ys = (lst zs f n).filter fun y => decide (t ≤ y.1)) (fun pre => pre <+: (lst zs f n).filter fun y => decide (t ≤ y.1)) ((lst zs f n).filter fun y => decide (t ≤ y.1)).length w := fun l J Jx W hW hJ _ hY h0 =>
  sinceI_in m hm l p q f n b1 b2 zs t J Jx W (hR.below hW) (keep_cell hW h1) (keep_cell hW h2) hJ hY h0
end Go.Proofs.YtjiliegfcljjhaaGreat
