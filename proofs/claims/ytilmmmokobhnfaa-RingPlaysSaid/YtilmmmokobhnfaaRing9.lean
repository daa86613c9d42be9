/-
  The walk of trimtablaw10.is: a ring tells what a model has. (XRing9 is printed by wip/gen_is.py out of XRing8.)
-/
import Derived.Test.YtilmmmokobhnfaaRing7
import Derived.Test.YtilmmmokobhnfaaRoundQ
import Derived.Test.YtilmmmokobhnfaaQuietLast
import Derived.Laws.StructEq
import Derived.RangeFuncNested
import Derived.RangeFuncWrites
namespace Go.Proofs.Ytilmmmokobhnfaa
open Go.RowKit Go.Proofs.Mem Go.Shelf
set_option linter.unusedVariables false
set_option linter.unusedSimpArgs false
attribute [local go_sem] Oper.semAt_some
theorem neq_smp (a b c d : Int) (w : World) : (binOp .neq 91 (.agg #[.int .i64 a, .int .i64 b]) (.agg #[.int .i64 c, .int .i64 d])).run Try.prog w = .ok (.bool (!((a == c) && (b == d)))) w := by
  have u := Try.underlying2
  have i := Try.isAgg2
  have z := Try.sizeOf2
  have u2 := Try.underlying3
  have i2 := Try.isAgg3
  have z2 := Try.sizeOf3
  have hS : Try.prog.underlying 91 = some (.struct (Try.prog.fieldsOf 91)) := by kernel_rfl
  have hp : Try.prog.stoodInHeld 91 = false := by kernel_rfl
  rw [run_neq_struct, show (10000 : Nat) = 9999 + 1 from rfl, run_equalIn_agg w 9999 91 _ _ hS hp]
  simp only [Program.fieldsOf, Try.underlying91]
  go_simp
  cases h1 : a == c <;> cases h2 : b == d <;> simp_all
theorem eql_smp (a b c d : Int) (w : World) : (binOp .eql 91 (.agg #[.int .i64 a, .int .i64 b]) (.agg #[.int .i64 c, .int .i64 d])).run Try.prog w = .ok (.bool ((a == c) && (b == d))) w := by
  have u := Try.underlying2
  have i := Try.isAgg2
  have z := Try.sizeOf2
  have u2 := Try.underlying3
  have i2 := Try.isAgg3
  have z2 := Try.sizeOf3
  have hS : Try.prog.underlying 91 = some (.struct (Try.prog.fieldsOf 91)) := by kernel_rfl
  have hp : Try.prog.stoodInHeld 91 = false := by kernel_rfl
  rw [run_eql_struct, show (10000 : Nat) = 9999 + 1 from rfl, run_equalIn_agg w 9999 91 _ _ hS hp]
  simp only [Program.fieldsOf, Try.underlying91]
  go_simp
  cases h1 : a == c <;> cases h2 : b == d <;> simp_all
/-- A block of cells stays through whatever turns no cells. -/
theorem bk_own {g : Nat} {t : TypeId} {cs : Array Value} {W W' : World} {row : Option Nat} (h : Bk W g t cs) (hg : W.grownBy W' row) (hr : ∀ r, row = some r → ∃ o : Obj, W.heap[r]? = some o ∧ o.isCells = false) : Bk W' g t cs := by
  refine h.grown hg fun e => ?_
  obtain ⟨o, ho, hc⟩ := hr g e.symm
  have h' : W.heap[g]? = some (.cells cs t) := h
  rw [h'] at ho
  injection ho with ho
  subst ho
  cases hc
theorem keepR_b {p q b1 b2 : Nat} {w : World} (hp : p < w.heap.size) (hq : q < w.heap.size) (h1 : b1 < w.heap.size) (h2 : b2 < w.heap.size) (W : World) (l : Nat) (o o' : Obj) (hl : w.heap.size ≤ l) (h : W.heap[l]? = some o) (_ : o.isCells = false) (_ : o.isWalk = false) : KeepR p q b1 b2 W (W.putObj l o') := by
  have hg := grownBy_putObj' W l o'
  have hlW : l < W.heap.size := (Array.getElem?_eq_some_iff.1 h).1
  have e : ∀ b, b < w.heap.size → (W.putObj l o').heap[b]? = W.heap[b]? := fun b hb => hg.block b (by omega) (fun e => by injection e with e; omega)
  exact ⟨hg.size, e p hp, e q hq, e b1 h1, e b2 h2⟩
/-- In ascending order, what is not below t is a tail. -/
theorem dw_filter (t : Int) : ∀ (M : List (Int × Int)), M.Pairwise (fun a b => a.1 < b.1) → M.dropWhile (fun y => decide (y.1 < t)) = M.filter (fun y => decide (t ≤ y.1))
  | [], _ => rfl
  | x :: M, h => by
    rw [List.pairwise_cons] at h
    by_cases e : x.1 < t
    · have : decide (x.1 < t) = true := by simpa using e
      have n : decide (t ≤ x.1) = false := by simp; omega
      rw [List.dropWhile_cons, this, List.filter_cons, n]
      exact dw_filter t M h.2
    · have : decide (x.1 < t) = false := by simpa using e
      have n : decide (t ≤ x.1) = true := by simp; omega
      rw [List.dropWhile_cons, this, List.filter_cons, n]
      have hall : M.filter (fun y => decide (t ≤ y.1)) = M := by
        rw [List.filter_eq_self]
        intro y hy
        have := h.1 y hy
        simp
        omega
      simp [hall]
theorem pre_snoc {α : Type} {pre L : List α} {x : α} (h : pre <+: L) (hx : L[pre.length]? = some x) : pre ++ [x] <+: L := by
  obtain ⟨s, rfl⟩ := h
  rw [List.getElem?_append_right (Nat.le_refl _), Nat.sub_self] at hx
  cases s with
  | nil => cases hx
  | cons y s =>
    simp at hx
    subst hx
    exact ⟨s, by simp⟩
theorem pre_last {α : Type} {pre L : List α} {x : α} (h : pre ++ [x] <+: L) : L[pre.length]? = some x := by
  obtain ⟨s, rfl⟩ := h
  rw [List.append_assoc, List.getElem?_append_right (Nat.le_refl _), Nat.sub_self]
  rfl
def kOf (b : Nat) (w : World) : Nat := match w.cell? ⟨b, 0, none⟩ with | some v => (intOf v).toNat | none => 0
set_option maxHeartbeats 1000000 in
set_option maxRecDepth 100000 in
theorem is_true {p q f n : Nat} {zs : List (Int × Int)} (t : Int) (w : World) (hR : RingI w p q zs f n) (mv : Value) (M : List (Int × Int)) (hm : Sl w 2 mv M.length (M.flatMap (rcells (Value.int .i64)))) (hM : lst zs f n = M) (hs : M.Pairwise fun a b => a.1 < b.1) :
    Calls Try.prog 41 #[.pointer (some ⟨p, 0, none⟩), mv, .int .i64 t] w fun e w' => e = .returned (.bool true) ∧ Below w.heap.size w w' := by
  have hz0 : 0 < zs.length := Nat.lt_of_le_of_lt (Nat.zero_le _) hR.hf
  have hMl : M.length = n := by rw [← hM]; exact lst_length zs f n hz0
  have hM32 : M.length ≤ 32 := by have := hR.hn; have := hR.hl; omega
  obtain ⟨A, c, rfl, hc, _⟩ := id hm
  have b4 := (((Bk.new w 87 #[.slice A M.length c]).alloc (.cells #[.bool false] 4)).alloc (.cells #[.int .i64 0] 3))
  have b6 := (Bk.new (w.alloc (.cells #[.slice A M.length c] 87)) 4 #[.bool false]).alloc (.cells #[.int .i64 0] 3)
  have b7 := Bk.new ((w.alloc (.cells #[.slice A M.length c] 87)).alloc (.cells #[.bool false] 4)) 3 #[.int .i64 0]
  simp only [World.size_alloc] at b4 b6 b7
  have hBx : Below w.heap.size w (((w.alloc (.cells #[.slice A M.length c] 87)).alloc (.cells #[.bool false] 4)).alloc (.cells #[.int .i64 0] 3)) := below_tr (below_tr (below_al _ _) (below_al _ _)) (below_al _ _)
  obtain ⟨W0, hW0⟩ : ∃ W0, W0 = ((w.alloc (.cells #[.slice A M.length c] 87)).alloc (.cells #[.bool false] 4)).alloc (.cells #[.int .i64 0] 3) := ⟨_, rfl⟩
  rw [← hW0] at b4 b6 b7 hBx
  have HW := Lib.hid hW0
  have HM := Lib.hid hM
  have HS := Lib.hid hs
  have HMM := Lib.hid hm
  have HRR := Lib.hid hR
  clear hW0 hM hs hm hR
  have HN := Lib.hid hMl
  rw [hMl] at b4 hM32 hc HW
  rw [hMl]
  clear hMl
  refine (callsIn_wide (n := 8)).1 ?_
  refine callsIn_of_wp_marks Try.func41 rfl trivial ?_ rfl
  simp only [Try.ntmps41, List.size_toArray, List.length_cons, List.length_nil, Nat.reduceAdd, Nat.reduceSub, Array.replicate_succ, Array.replicate_zero, List.push_toArray, List.append_toArray, List.nil_append, List.cons_append]
  gi_wp2
  refine wpIn_wide.2 ?_
  have hsz : w.heap.size + 1 + 1 < W0.heap.size := b7.lt
  rw [← HW.out]
  go_loopw [11] (fun i wr => ∃ k : Nat, k ≤ n ∧ Below w.heap.size w wr ∧ Bk wr w.heap.size 87 #[.slice A n c] ∧ Bk wr (w.heap.size + 1) 4 #[.bool false] ∧ Bk wr (w.heap.size + 1 + 1) 3 #[.int .i64 k] ∧ Hid (∀ y ∈ M.take k, decide (y.1 < t) = true)) (fun i wr => n - kOf (w.heap.size + 1 + 1) wr)
  case atStart => exact ⟨0, Nat.zero_le _, hBx, b4, b6, b7, Lib.hid (by simp)⟩
  case round =>
    obtain ⟨k, hk, hB, k4, k6, k7, hall⟩ := hrel
    have hkM : k ≤ M.length := by rw [HN.out]; exact hk
    have hcs : (n ≤ k ∧ Hid (M.filter (fun y => decide (t ≤ y.1)) = M.drop k)) ∨ (k < n ∧ ∃ x : Int × Int, M[k]? = some x ∧ x.1 < t) ∨ (k < n ∧ (∃ x : Int × Int, M[k]? = some x ∧ ¬ x.1 < t) ∧ Hid (M.filter (fun y => decide (t ≤ y.1)) = M.drop k)) := by
      rcases Nat.lt_or_ge k n with h1 | h1
      · have hk2 : k < M.length := by rw [HN.out]; exact h1
        by_cases h2 : (M[k]'hk2).1 < t
        · exact .inr (.inl ⟨h1, _, List.getElem?_eq_getElem hk2, h2⟩)
        · refine .inr (.inr ⟨h1, ⟨_, List.getElem?_eq_getElem hk2, h2⟩, Lib.hid ?_⟩)
          rw [← dw_filter t M HS.out]
          exact (dw_eq (fun y : Int × Int => decide (y.1 < t)) M k hkM hall.out (fun y hy => by
            rw [List.getElem?_eq_getElem hk2] at hy
            injection hy with hy
            subst hy
            simpa using h2)).2
      · refine .inl ⟨h1, Lib.hid ?_⟩
        rw [← dw_filter t M HS.out]
        exact (dw_eq (fun y : Int × Int => decide (y.1 < t)) M k hkM hall.out (fun y hy => by
          rw [List.getElem?_eq_none (by rw [HN.out]; omega)] at hy
          cases hy)).2
    have c4 := k4.cell 0
    have c7 := k7.cell 0
    have f7 := k7.frozen 0
    have bk32 : (k : Int) ≤ 32 := by omega
    rcases hcs with ⟨hkn, hD⟩ | ⟨hkn, ⟨xa, xv⟩, hx, hxt⟩ | ⟨hkn, ⟨⟨xa, xv⟩, hx, hxt⟩, hD⟩
    · clear hall b4 b6 b7 hBx
      go_wp2_with fail
      have KB1 := (Bk.new wr 84 #[.pointer (some ⟨p, 0, none⟩)]).alloc (.cells #[.int .i64 t] 2)
      have KB2 := Bk.new (wr.alloc (.cells #[.pointer (some ⟨p, 0, none⟩)] 84)) 2 #[.int .i64 t]
      rw [World.size_alloc] at KB2
      have K4 := (k4.alloc (.cells #[.pointer (some ⟨p, 0, none⟩)] 84)).alloc (.cells #[.int .i64 t] 2)
      have K6 := (k6.alloc (.cells #[.pointer (some ⟨p, 0, none⟩)] 84)).alloc (.cells #[.int .i64 t] 2)
      have K7 := (k7.alloc (.cells #[.pointer (some ⟨p, 0, none⟩)] 84)).alloc (.cells #[.int .i64 t] 2)
      have HB1 := below_tr (below_tr hB (below_al wr (.cells #[.pointer (some ⟨p, 0, none⟩)] 84))) (below_al _ (.cells #[.int .i64 t] 2))
      gi_wp2_with (refine ⟨trivial, ?_⟩; gi_at_call 43; refine (callsIn_wide.2 (sinceI_any _ _ _ ⟨_, rfl⟩)).mono ?_; rintro e w3 ⟨rfl, rfl⟩)
      generalize (wr.alloc (.cells #[.pointer (some ⟨p, 0, none⟩)] 84)).alloc (.cells #[.int .i64 t] 2) = W1 at KB1 KB2 K4 K6 K7 HB1 ⊢
      have R1 := HRR.out.below HB1
      have hg1 : w.heap.size + 1 + 1 < wr.heap.size := k7.lt
      generalize hb1 : wr.heap.size = g1 at KB1 KB2 hg1 ⊢
      clear hb1 hB k4 k6 k7
      have hseq := sinceI_stops (8 - 1) (by omega) t W1 R1 (KB1.cell 0) (KB2.cell 0)
      rw [HM.out, hD.out] at hseq
      generalize hA : Act.mk _ [] = a0
      refine wpIn_rangeFunc_ownH rfl (by omega) (gf := 75) (lb := #[.pointer (some ⟨g1, 0, none⟩), .pointer (some ⟨g1 + 1, 0, none⟩)]) (by rw [← hA]; rfl) trivial (enters_of Try.func75 (by kernel_rfl) rfl)
        hseq (fun h k => h.trans k) (keepR_b R1.plt R1.qlt KB1.lt KB2.lt) (Below.refl _ _) (fun _ => rfl)
        (fun pre W => (pre <+: M.drop k) ∧ Bk W w.heap.size 87 #[.slice A n c] ∧ Bk W (w.heap.size + 1) 4 #[.bool false] ∧ Bk W (w.heap.size + 1 + 1) 3 #[.int .i64 ((k + pre.length : Nat) : Int)] ∧ Below w.heap.size w W ∧ W1.heap.size ≤ W.heap.size)
        (fun c pre W => c = .ret ∧ ¬ (pre <+: M.drop k))
        (fun s A B row h hg hr => ⟨h.1, bk_own h.2.1 hg (fun r e => (hr r e).2), bk_own h.2.2.1 hg (fun r e => (hr r e).2), bk_own h.2.2.2.1 hg (fun r e => (hr r e).2), (ownFrom_below (β := Unit) (Nat.le_refl _) HB1.size) () A B row h.2.2.2.2.1 hg hr, Nat.le_trans h.2.2.2.2.2 hg.size⟩)
        (fun c s A B row h hg hr => h)
        ⟨⟨_, rfl⟩, K4, K6, K7, HB1, Nat.le_refl _⟩
        (fun x a' W => ∃ Bx, w.heap.size + 1 + 1 < Bx ∧ Bk W Bx 91 #[.int .i64 x.1, .int .i64 x.2] ∧ a' = ⟨(a0.tmps.setIfInBounds 29 (.agg #[.int .i64 x.1, .int .i64 x.2])).setIfInBounds 8 (.pointer (some ⟨Bx, 0, none⟩)), []⟩)
        (fun x a' s A B row h hg hr => by
          obtain ⟨Bx, h1, h2, h3⟩ := h
          exact ⟨Bx, h1, bk_own h2 hg (fun r e => (hr r e).2), h3⟩) ?assign ?body ?done ?stop
      case assign =>
        rintro l pre ⟨xa', xv'⟩ W K ⟨hpre, j4, j6, j7, hBW, hsW⟩ hK
        have hlt7 := j7.lt
        have HK := Lib.hid (hK ⟨(a0.tmps.setIfInBounds 29 (.agg #[.int .i64 xa', .int .i64 xv'])).setIfInBounds 8 (.pointer (some ⟨W.heap.size, 0, none⟩)), []⟩ (W.alloc (.cells #[.int .i64 xa', .int .i64 xv'] 91)) ((KeepsOthers.alloc _ _).from _)
          (KeepR.of_below (below_al _ _) (Nat.lt_of_lt_of_le R1.plt hsW) (Nat.lt_of_lt_of_le R1.qlt hsW) (Nat.lt_of_lt_of_le KB1.lt hsW) (Nat.lt_of_lt_of_le KB2.lt hsW))
          ⟨hpre, j4.alloc _, j6.alloc _, j7.alloc _, hBW.alloc hBW.size _, Nat.le_trans hsW (below_al _ _).size⟩ ⟨W.heap.size, hlt7, Bk.new _ _ _, rfl⟩)
        clear hK
        subst hA
        gi_wp2
        exact HK.out
      case stop =>
        rintro D cc pre W _ hpre ⟨_, hn⟩ _
        exact absurd hpre hn
      case body =>
        rintro l pre ⟨xa', xv'⟩ a' W hl ⟨r, hr⟩ ⟨hpre, j4, j6, j7, hBW, hsW⟩ ⟨Bx, hBx, jx, rfl⟩ hlen
        subst hA
        simp only [List.setIfInBounds_toArray, List.set_cons_zero, List.set_cons_succ]
        obtain ⟨d, hd⟩ : ∃ d, d = k + pre.length := ⟨_, rfl⟩
        rw [← hd] at j7
        have hdn : d < n := by
          rw [List.length_drop, HN.out] at hlen
          omega
        have hdM : d < M.length := by rw [HN.out]; exact hdn
        have HD := Lib.hid hd
        clear hd
        obtain ⟨bm, om, rfl, hbm, hadd, hcell⟩ := Sl.row' (s := 2) (f := rcells (Value.int .i64)) (fun _ => rfl) (by omega) (HMM.out.below hBW) d hdM
        have y0 : W.cell? ⟨bm, om + d * 2, none⟩ = _ := hcell 0 _ rfl
        have y1 : W.cell? ⟨bm, om + d * 2 + 1, none⟩ = _ := hcell 1 _ rfl
        have hMd : M[d]? = some M[d] := List.getElem?_eq_getElem hdM
        generalize M[d] = y at y0 y1 hMd
        obtain ⟨ya, yv⟩ := y
        simp only at y0 y1
        have HMd := Lib.hid hMd
        have hq := fun w1 => neq_smp ya yv xa' xv' w1
        have hgd : Try.prog.eqGuardType Try.prog.depth 91 = false := by kernel_rfl
        have z4 := fun a b => cell_regrown (j4.cell 0) a b
        have z7 := fun a b => cell_regrown (j7.cell 0) a b
        have z0 := fun a b => cell_regrown y0 a b
        have z1 := fun a b => cell_regrown y1 a b
        have zx0 := fun a b => cell_regrown (jx.cell 0) a b
        have zx1 := fun a b => cell_regrown (jx.cell 1) a b
        have d32 : (d : Int) ≤ 32 := by omega
        have hge : decide ((n : Int) ≤ (d : Int)) = false := by simp; omega
        have hge2 : decide (n ≤ d) = false := by simp; omega
        clear hMd hcell y0 y1 hlen
        gi_wp2
        refine wpIn_region_quiet_round (by kernel_rfl) (by kernel_rfl) (by rfl) ?_
        repeat (go_big_quiet_step (fail))
        refine q_done fun W2 hBz => ?_
        have m7 := j7.below' hBz
        have m6 := j6.below' hBz
        have m4 := j4.below' hBz
        have p7 := m7.cell 0
        have f7' := m7.frozen 0
        have p6 := m6.cell 0
        have f6' := m6.frozen 0
        have hwr : IntKind.i64.wrap ((d : Int) + 1) = (d : Int) + 1 := by simp [IntKind.wrap, IntKind.signed, IntKind.bits]; omega
        have hLd : (M.drop k)[pre.length]? = some (ya, yv) := by rw [List.getElem?_drop, ← HD.out]; exact HMd.out
        have hKO : KeepsOthers W W2 := KeepsOthers.of_grownBy (grown_none hBz) (fun j o e => by cases e)
        clear z4 z7 z0 z1 zx0 zx1 hgd hq hge hge2
        by_cases hxy : ya = xa' ∧ yv = xv'
        · obtain ⟨rfl, rfl⟩ := hxy
          have hpre2 := pre_snoc hpre hLd
          have hKR : KeepR p q g1 (g1 + 1) W (W2.setCell ⟨w.heap.size + 1 + 1, 0, none⟩ (.int .i64 ((d : Int) + 1))) := (KeepR.of_below hBz (Nat.lt_of_lt_of_le R1.plt hsW) (Nat.lt_of_lt_of_le R1.qlt hsW) (Nat.lt_of_lt_of_le KB1.lt hsW) (Nat.lt_of_lt_of_le KB2.lt hsW)).trans
            ⟨by simp [World.setCell], Below.heap_setCell _ _ _ _ (by have := HRR.out.plt; show p ≠ w.heap.size + 1 + 1; omega), Below.heap_setCell _ _ _ _ (by have := HRR.out.qlt; show q ≠ w.heap.size + 1 + 1; omega), Below.heap_setCell _ _ _ _ (by show g1 ≠ w.heap.size + 1 + 1; omega), Below.heap_setCell _ _ _ _ (by show g1 + 1 ≠ w.heap.size + 1 + 1; omega)⟩
          have hI7 : Bk (W2.setCell ⟨w.heap.size + 1 + 1, 0, none⟩ (.int .i64 ((d : Int) + 1))) (w.heap.size + 1 + 1) 3 #[.int .i64 ((k + (pre ++ [(ya, yv)]).length : Nat) : Int)] := by
            have := m7.set 0 (.int .i64 ((d : Int) + 1))
            have e : ((k + (pre ++ [(ya, yv)]).length : Nat) : Int) = (d : Int) + 1 := by rw [List.length_append, HD.out]; simp; omega
            rw [e]
            simpa using this
          have hfin := And.intro (((hKO.trans (KeepsOthers.setCell W2 ⟨w.heap.size + 1 + 1, 0, none⟩ (.int .i64 ((d : Int) + 1)))).from W1.heap.size)) (And.intro hKR (And.intro hpre2 (And.intro (m4.far (p := ⟨w.heap.size + 1 + 1, 0, none⟩) (by show w.heap.size ≠ w.heap.size + 1 + 1; omega) (.int .i64 ((d : Int) + 1))) (And.intro (m6.far (p := ⟨w.heap.size + 1 + 1, 0, none⟩) (by show w.heap.size + 1 ≠ w.heap.size + 1 + 1; omega) (.int .i64 ((d : Int) + 1))) (And.intro hI7 (And.intro ((below_tr hBW hBz).setCell (p := ⟨w.heap.size + 1 + 1, 0, none⟩) (by show w.heap.size ≤ w.heap.size + 1 + 1; omega) (.int .i64 ((d : Int) + 1))) (show W1.heap.size ≤ (W2.setCell ⟨w.heap.size + 1 + 1, 0, none⟩ (.int .i64 ((d : Int) + 1))).heap.size from by simp [World.setCell]; exact Nat.le_trans hsW hBz.size)))))))
          have HFIN := Lib.hid hfin
          clear hfin hKR hI7 hpre2 hKO m4 m6 m7
          gi_wp2
          all_goals first
            | exact HFIN.out
            | (rename_i hbad; exact absurd hbad (by simp))
        · have hne : ((!ya == xa') || (!yv == xv')) = true := by
            cases h1 : ya == xa'
            · rfl
            · cases h2 : yv == xv'
              · rfl
              · exact absurd ⟨by simpa using h1, by simpa using h2⟩ hxy
          have hnp : ¬ (pre ++ [(xa', xv')] <+: M.drop k) := fun h => by
            have := pre_last h
            rw [hLd] at this
            injection this with this
            injection this with e1 e2
            exact hxy ⟨e1, e2⟩
          have HFIN := Lib.hid (And.intro ((hKO.trans (KeepsOthers.setCell W2 ⟨w.heap.size + 1, 0, none⟩ (.bool false))).from W1.heap.size) hnp)
          clear hnp hKO m4 m6 m7
          have HXY := Lib.hid hxy
          clear hxy
          gi_wp2
          all_goals first
            | exact ⟨HFIN.out.1, rfl, HFIN.out.2⟩
            | (rename_i hbad; exact absurd (And.intro (by simpa using hbad.1) (by simpa using hbad.2)) HXY.out)
      case done =>
        rintro DD ys W hDD rfl ⟨_, j4, j6, j7, hBW, hsW⟩ hK
        subst hA
        have hkl : k + (M.drop k).length = n := by rw [List.length_drop, HN.out]; omega
        rw [hkl] at j7
        have RW := HRR.out.below hBW
        have CLast := Lib.hid (lastI_is W RW)
        rw [HM.out] at CLast
        have CLen := Lib.hid (fun w1 (hb : Below W.heap.size W w1) => (lenI_any w1 (RW.below hb)).mono (R' := fun e w' => e = .returned (.int .i64 n) ∧ Below w1.heap.size w1 w') (fun e w' ⟨h1, h2⟩ => ⟨h1, by subst h2; exact Below.refl _ _⟩))
        clear hkl
        gi_wp2_with (refine ⟨trivial, ?_⟩; gi_at_call 42; refine (callsIn_wide.2 CLast.out).mono ?_; rintro e w5 ⟨a, v, ok, rfl, hok, h9, hb5⟩; clear h9)
        have hBn := hb5.trans ((below_al w5 (.cells #[.int .i64 a, .int .i64 v] 91)).mono hb5.size)
        have jn := Bk.new w5 91 #[.int .i64 a, .int .i64 v]
        generalize w5.alloc (.cells #[.int .i64 a, .int .i64 v] 91) = W6 at hBn jn ⊢
        generalize w5.heap.size = g6 at jn ⊢
        have i4 := j4.below' hBn
        have i6 := j6.below' hBn
        have i7 := j7.below' hBn
        have z4 := fun a b => cell_regrown (i4.cell 0) a b
        have z7 := fun a b => cell_regrown (i7.cell 0) a b
        have zn0 := fun a b => cell_regrown (jn.cell 0) a b
        have zn1 := fun a b => cell_regrown (jn.cell 1) a b
        have n32 : (n : Int) ≤ 32 := by omega
        clear CLast j4 j7
        cases ok
        · have hn0 : n = 0 := by
            have : M = [] := by simpa using hok
            rw [← HN.out, this]
            rfl
          have hnn : (n : Int) = 0 := by omega
          have hgt : decide ((0 : Int) < (n : Int)) = false := by simp; omega
          have hgt2 : decide (0 < n) = false := by simp; omega
          have HN0 := Lib.hid hn0
          clear hn0 hnn hok
          refine wpIn_wide.2 ?_
          refine wp_region_quiet_last (List.dropLast_concat_getLast (by simp)).symm (by kernel_rfl) (by kernel_rfl) (by rfl) ?_
          simp only [stillLast, still, List.getLast_cons_cons, List.getLast_singleton]
          repeat (go_big_quiet_step (first
            | (go_at_call 44; (with_reducible exact Calls.regrown_of (CLen.out _ (below_tr hBn (below_regrown _ _ _)))))))
          refine wpQuiet_nil ?_
          rintro _ ⟨rp, rfl⟩
          have hBz := below_regrown W6 rp.d rp.os
          generalize «Sort».grow (redrawn W6 rp.d) rp.os = W7 at hBz ⊢
          have l6 := i6.below' hBz
          have p6 := l6.cell 0
          have f6 := l6.frozen 0
          have hlt : DD < W.heap.size := (Array.getElem?_eq_some_iff.1 hK).1
          have hK7 : W7.heap[DD]? = some (.deferred (some [])) := ((hBz.block DD (Nat.lt_of_lt_of_le hlt hBn.size)).trans (hBn.block DD hlt)).trans hK
          have hK8 : (W7.setCell ⟨w.heap.size + 1, 0, none⟩ (.bool true)).heap[DD]? = some (.deferred (some [])) := (KeepsOthers.setCell W7 ⟨w.heap.size + 1, 0, none⟩ (.bool true)).same DD _ hK7 rfl
          have c8 : (W7.setCell ⟨w.heap.size + 1, 0, none⟩ (.bool true)).cell? ⟨w.heap.size + 1, 0, none⟩ = some (.bool true) := (l6.set 0 (.bool true)).cell 0
          have hBF : Below w.heap.size w (W7.setCell ⟨w.heap.size + 1, 0, none⟩ (.bool true)) := (below_tr (below_tr hBW hBn) hBz).setCell (p := ⟨w.heap.size + 1, 0, none⟩) (by show w.heap.size ≤ w.heap.size + 1; omega) _
          have hDw : w.heap.size ≤ DD := Nat.le_trans HB1.size hDD
          have hc5 := cell_kept c8 (grownBy_putObj' _ DD (.deferred none)) (fun r e => by cases e; exact ⟨_, hK8, rfl⟩)
          have HFF := Lib.hid (And.intro hK8 (And.intro hc5 (hBF.trans (belowK_b (w := w) (Nat.le_refl _) _ DD _ (.deferred none) hDw hK8 rfl rfl))))
          clear hK8 c8 hBF hc5 hK7
          go_simp
          gi_wp2
          refine ⟨by simp, .inl ⟨_, _, rfl, run_takeDeferred HFF.out.1, ?_⟩⟩
          refine ⟨.bool true, ?_, rfl, HFF.out.2.2⟩
          have hc5 := HFF.out.2.1
          simp [results, Try.results41, go_sem, hc5]
        · have hn0 : 0 < n := by
            rcases Nat.eq_zero_or_pos n with e | e
            · have : M = [] := List.eq_nil_of_length_eq_zero (by rw [HN.out, e])
              rw [this] at hok
              cases hok
            · exact e
          have hML : M[n - 1]? = some (a, v) := by
            rw [List.getLast?_eq_getElem?, HN.out] at hok
            exact hok
          obtain ⟨m1, rfl⟩ : ∃ m1, n = m1 + 1 := ⟨n - 1, by omega⟩
          rw [Nat.add_sub_cancel] at hML
          have hm1 : m1 < M.length := by rw [HN.out]; omega
          obtain ⟨bm, om, rfl, hbm, hadd, hcell⟩ := Sl.row' (s := 2) (f := rcells (Value.int .i64)) (fun _ => rfl) (by omega) (HMM.out.below (below_tr hBW hBn)) m1 hm1
          have y0 : W6.cell? ⟨bm, om + m1 * 2, none⟩ = _ := hcell 0 _ rfl
          have y1 : W6.cell? ⟨bm, om + m1 * 2 + 1, none⟩ = _ := hcell 1 _ rfl
          have hMe := (List.getElem?_eq_some_iff.1 hML).2
          rw [hMe] at y0 y1
          simp only at y0 y1
          have zy0 := fun a b => cell_regrown y0 a b
          have zy1 := fun a b => cell_regrown y1 a b
          have hq := fun w1 => eql_smp a v a v w1
          have hgd : Try.prog.eqGuardType Try.prog.depth 91 = false := by kernel_rfl
          have hwr : IntKind.i64.wrap ((m1 : Int) + 1 - 1) = (m1 : Int) := by simp [IntKind.wrap, IntKind.signed, IntKind.bits]; omega
          have m32 : (m1 : Int) ≤ 32 := by omega
          clear hcell hMe hML hok hn0
          refine wpIn_wide.2 ?_
          refine wp_region_quiet_last (List.dropLast_concat_getLast (by simp)).symm (by kernel_rfl) (by kernel_rfl) (by rfl) ?_
          simp only [stillLast, still, List.getLast_cons_cons, List.getLast_singleton]
          repeat (go_big_quiet_step (first
            | (go_at_call 44; (with_reducible exact Calls.regrown_of (CLen.out _ (below_tr hBn (below_regrown _ _ _)))))))
          refine wpQuiet_nil ?_
          rintro _ ⟨rp, rfl⟩
          have hBz := below_regrown W6 rp.d rp.os
          generalize «Sort».grow (redrawn W6 rp.d) rp.os = W7 at hBz ⊢
          have l6 := i6.below' hBz
          have p6 := l6.cell 0
          have f6 := l6.frozen 0
          have hlt : DD < W.heap.size := (Array.getElem?_eq_some_iff.1 hK).1
          have hK7 : W7.heap[DD]? = some (.deferred (some [])) := ((hBz.block DD (Nat.lt_of_lt_of_le hlt hBn.size)).trans (hBn.block DD hlt)).trans hK
          have hK8 : (W7.setCell ⟨w.heap.size + 1, 0, none⟩ (.bool true)).heap[DD]? = some (.deferred (some [])) := (KeepsOthers.setCell W7 ⟨w.heap.size + 1, 0, none⟩ (.bool true)).same DD _ hK7 rfl
          have c8 : (W7.setCell ⟨w.heap.size + 1, 0, none⟩ (.bool true)).cell? ⟨w.heap.size + 1, 0, none⟩ = some (.bool true) := (l6.set 0 (.bool true)).cell 0
          have hBF : Below w.heap.size w (W7.setCell ⟨w.heap.size + 1, 0, none⟩ (.bool true)) := (below_tr (below_tr hBW hBn) hBz).setCell (p := ⟨w.heap.size + 1, 0, none⟩) (by show w.heap.size ≤ w.heap.size + 1; omega) _
          have hDw : w.heap.size ≤ DD := Nat.le_trans HB1.size hDD
          have hc5 := cell_kept c8 (grownBy_putObj' _ DD (.deferred none)) (fun r e => by cases e; exact ⟨_, hK8, rfl⟩)
          have HFF := Lib.hid (And.intro hK8 (And.intro hc5 (hBF.trans (belowK_b (w := w) (Nat.le_refl _) _ DD _ (.deferred none) hDw hK8 rfl rfl))))
          clear hK8 c8 hBF hc5 hK7
          go_simp
          gi_wp2
          refine ⟨by simp, .inl ⟨_, _, rfl, run_takeDeferred HFF.out.1, ?_⟩⟩
          refine ⟨.bool true, ?_, rfl, HFF.out.2.2⟩
          have hc5 := HFF.out.2.1
          simp [results, Try.results41, go_sem, hc5]
    · obtain ⟨bm, om, rfl, hbm, hadd, hcell⟩ := Sl.row' (s := 2) (f := rcells (Value.int .i64)) (fun _ => rfl) (by omega) (HMM.out.below hB) k (List.getElem?_eq_some_iff.1 hx).1
      have y0 : wr.cell? ⟨bm, om + k * 2, none⟩ = _ := hcell 0 _ rfl
      rw [(List.getElem?_eq_some_iff.1 hx).2] at y0
      have hall2 : Hid (∀ y ∈ M.take (k + 1), decide (y.1 < t) = true) := Lib.hid (by
        intro y hy
        rw [List.take_add_one, hx] at hy
        rcases List.mem_append.1 hy with hy | hy
        · exact hall.out y hy
        · simp at hy; subst hy; simpa using hxt)
      have hwr : IntKind.i64.wrap ((k : Int) + 1) = (k : Int) + 1 := by simp [IntKind.wrap, IntKind.signed, IntKind.bits]; omega
      have k7' := k7.set 0 (.int .i64 (k + 1 : Nat))
      have hmes : n - kOf (w.heap.size + 1 + 1) (wr.setCell ⟨w.heap.size + 1 + 1, 0, none⟩ (.int .i64 ((k : Int) + 1))) < n - kOf (w.heap.size + 1 + 1) wr := by
        have e1 : (wr.setCell ⟨w.heap.size + 1 + 1, 0, none⟩ (.int .i64 ((k : Int) + 1))).cell? ⟨w.heap.size + 1 + 1, 0, none⟩ = some (.int .i64 ((k : Int) + 1)) := k7'.cell 0
        unfold kOf
        rw [e1, c7]
        simp [intOf]
        omega
      have k4' := k4.far (p := ⟨w.heap.size + 1 + 1, 0, none⟩) (by show w.heap.size ≠ w.heap.size + 1 + 1; omega) (.int .i64 ((k : Int) + 1))
      have k6' := k6.far (p := ⟨w.heap.size + 1 + 1, 0, none⟩) (by show w.heap.size + 1 ≠ w.heap.size + 1 + 1; omega) (.int .i64 ((k : Int) + 1))
      have hB' := hB.setCell (p := ⟨w.heap.size + 1 + 1, 0, none⟩) (by show w.heap.size ≤ w.heap.size + 1 + 1; omega) (.int .i64 ((k : Int) + 1))
      have HX := Lib.hid hx
      have HREL := Lib.hid (And.intro hB' (And.intro k4' (And.intro k6' (And.intro k7' hmes))))
      clear hx hall hcell k7' hmes k4' k6' hB' b4 b6 b7 hBx
      go_wp2_with fail
      exact ⟨⟨k + 1, by omega, HREL.out.1, HREL.out.2.1, HREL.out.2.2.1, HREL.out.2.2.2.1, hall2⟩, HREL.out.2.2.2.2⟩
    · obtain ⟨bm0, om0, hA0, hbm0, hadd0, hcell0⟩ := Sl.row' (s := 2) (f := rcells (Value.int .i64)) (fun _ => rfl) (by omega) (HMM.out.below hB) k (List.getElem?_eq_some_iff.1 hx).1
      have y0 : wr.cell? ⟨bm0, om0 + k * 2, none⟩ = _ := hcell0 0 _ rfl
      rw [(List.getElem?_eq_some_iff.1 hx).2] at y0
      have c4' : wr.cell? ⟨w.heap.size, 0, none⟩ = some (.slice (some ⟨bm0, om0, none⟩) n c) := by rw [← hA0]; exact c4
      have HA0 := Lib.hid hA0
      clear hcell0 hA0 c4 hall hx b4 b6 b7 hBx
      go_wp2_with fail
      have KB1 := (Bk.new wr 84 #[.pointer (some ⟨p, 0, none⟩)]).alloc (.cells #[.int .i64 t] 2)
      have KB2 := Bk.new (wr.alloc (.cells #[.pointer (some ⟨p, 0, none⟩)] 84)) 2 #[.int .i64 t]
      rw [World.size_alloc] at KB2
      have K4 := (k4.alloc (.cells #[.pointer (some ⟨p, 0, none⟩)] 84)).alloc (.cells #[.int .i64 t] 2)
      have K6 := (k6.alloc (.cells #[.pointer (some ⟨p, 0, none⟩)] 84)).alloc (.cells #[.int .i64 t] 2)
      have K7 := (k7.alloc (.cells #[.pointer (some ⟨p, 0, none⟩)] 84)).alloc (.cells #[.int .i64 t] 2)
      have HB1 := below_tr (below_tr hB (below_al wr (.cells #[.pointer (some ⟨p, 0, none⟩)] 84))) (below_al _ (.cells #[.int .i64 t] 2))
      gi_wp2_with (refine ⟨trivial, ?_⟩; gi_at_call 43; refine (callsIn_wide.2 (sinceI_any _ _ _ ⟨_, rfl⟩)).mono ?_; rintro e w3 ⟨rfl, rfl⟩)
      generalize (wr.alloc (.cells #[.pointer (some ⟨p, 0, none⟩)] 84)).alloc (.cells #[.int .i64 t] 2) = W1 at KB1 KB2 K4 K6 K7 HB1 ⊢
      have R1 := HRR.out.below HB1
      have hg1 : w.heap.size + 1 + 1 < wr.heap.size := k7.lt
      generalize hb1 : wr.heap.size = g1 at KB1 KB2 hg1 ⊢
      clear hb1 hB k4 k6 k7
      have hseq := sinceI_stops (8 - 1) (by omega) t W1 R1 (KB1.cell 0) (KB2.cell 0)
      rw [HM.out, hD.out] at hseq
      generalize hA : Act.mk _ [] = a0
      refine wpIn_rangeFunc_ownH rfl (by omega) (gf := 75) (lb := #[.pointer (some ⟨g1, 0, none⟩), .pointer (some ⟨g1 + 1, 0, none⟩)]) (by rw [← hA]; rfl) trivial (enters_of Try.func75 (by kernel_rfl) rfl)
        hseq (fun h k => h.trans k) (keepR_b R1.plt R1.qlt KB1.lt KB2.lt) (Below.refl _ _) (fun _ => rfl)
        (fun pre W => (pre <+: M.drop k) ∧ Bk W w.heap.size 87 #[.slice A n c] ∧ Bk W (w.heap.size + 1) 4 #[.bool false] ∧ Bk W (w.heap.size + 1 + 1) 3 #[.int .i64 ((k + pre.length : Nat) : Int)] ∧ Below w.heap.size w W ∧ W1.heap.size ≤ W.heap.size)
        (fun c pre W => c = .ret ∧ ¬ (pre <+: M.drop k))
        (fun s A B row h hg hr => ⟨h.1, bk_own h.2.1 hg (fun r e => (hr r e).2), bk_own h.2.2.1 hg (fun r e => (hr r e).2), bk_own h.2.2.2.1 hg (fun r e => (hr r e).2), (ownFrom_below (β := Unit) (Nat.le_refl _) HB1.size) () A B row h.2.2.2.2.1 hg hr, Nat.le_trans h.2.2.2.2.2 hg.size⟩)
        (fun c s A B row h hg hr => h)
        ⟨⟨_, rfl⟩, K4, K6, K7, HB1, Nat.le_refl _⟩
        (fun x a' W => ∃ Bx, w.heap.size + 1 + 1 < Bx ∧ Bk W Bx 91 #[.int .i64 x.1, .int .i64 x.2] ∧ a' = ⟨(a0.tmps.setIfInBounds 29 (.agg #[.int .i64 x.1, .int .i64 x.2])).setIfInBounds 8 (.pointer (some ⟨Bx, 0, none⟩)), []⟩)
        (fun x a' s A B row h hg hr => by
          obtain ⟨Bx, h1, h2, h3⟩ := h
          exact ⟨Bx, h1, bk_own h2 hg (fun r e => (hr r e).2), h3⟩) ?assign ?body ?done ?stop
      case assign =>
        rintro l pre ⟨xa', xv'⟩ W K ⟨hpre, j4, j6, j7, hBW, hsW⟩ hK
        have hlt7 := j7.lt
        have HK := Lib.hid (hK ⟨(a0.tmps.setIfInBounds 29 (.agg #[.int .i64 xa', .int .i64 xv'])).setIfInBounds 8 (.pointer (some ⟨W.heap.size, 0, none⟩)), []⟩ (W.alloc (.cells #[.int .i64 xa', .int .i64 xv'] 91)) ((KeepsOthers.alloc _ _).from _)
          (KeepR.of_below (below_al _ _) (Nat.lt_of_lt_of_le R1.plt hsW) (Nat.lt_of_lt_of_le R1.qlt hsW) (Nat.lt_of_lt_of_le KB1.lt hsW) (Nat.lt_of_lt_of_le KB2.lt hsW))
          ⟨hpre, j4.alloc _, j6.alloc _, j7.alloc _, hBW.alloc hBW.size _, Nat.le_trans hsW (below_al _ _).size⟩ ⟨W.heap.size, hlt7, Bk.new _ _ _, rfl⟩)
        clear hK
        subst hA
        gi_wp2
        exact HK.out
      case stop =>
        rintro D cc pre W _ hpre ⟨_, hn⟩ _
        exact absurd hpre hn
      case body =>
        rintro l pre ⟨xa', xv'⟩ a' W hl ⟨r, hr⟩ ⟨hpre, j4, j6, j7, hBW, hsW⟩ ⟨Bx, hBx, jx, rfl⟩ hlen
        subst hA
        simp only [List.setIfInBounds_toArray, List.set_cons_zero, List.set_cons_succ]
        obtain ⟨d, hd⟩ : ∃ d, d = k + pre.length := ⟨_, rfl⟩
        rw [← hd] at j7
        have hdn : d < n := by
          rw [List.length_drop, HN.out] at hlen
          omega
        have hdM : d < M.length := by rw [HN.out]; exact hdn
        have HD := Lib.hid hd
        clear hd
        obtain ⟨bm, om, rfl, hbm, hadd, hcell⟩ := Sl.row' (s := 2) (f := rcells (Value.int .i64)) (fun _ => rfl) (by omega) (HMM.out.below hBW) d hdM
        have y0 : W.cell? ⟨bm, om + d * 2, none⟩ = _ := hcell 0 _ rfl
        have y1 : W.cell? ⟨bm, om + d * 2 + 1, none⟩ = _ := hcell 1 _ rfl
        have hMd : M[d]? = some M[d] := List.getElem?_eq_getElem hdM
        generalize M[d] = y at y0 y1 hMd
        obtain ⟨ya, yv⟩ := y
        simp only at y0 y1
        have HMd := Lib.hid hMd
        have hq := fun w1 => neq_smp ya yv xa' xv' w1
        have hgd : Try.prog.eqGuardType Try.prog.depth 91 = false := by kernel_rfl
        have z4 := fun a b => cell_regrown (j4.cell 0) a b
        have z7 := fun a b => cell_regrown (j7.cell 0) a b
        have z0 := fun a b => cell_regrown y0 a b
        have z1 := fun a b => cell_regrown y1 a b
        have zx0 := fun a b => cell_regrown (jx.cell 0) a b
        have zx1 := fun a b => cell_regrown (jx.cell 1) a b
        have d32 : (d : Int) ≤ 32 := by omega
        have hge : decide ((n : Int) ≤ (d : Int)) = false := by simp; omega
        have hge2 : decide (n ≤ d) = false := by simp; omega
        clear hMd hcell y0 y1 hlen
        gi_wp2
        refine wpIn_region_quiet_round (by kernel_rfl) (by kernel_rfl) (by rfl) ?_
        repeat (go_big_quiet_step (fail))
        refine q_done fun W2 hBz => ?_
        have m7 := j7.below' hBz
        have m6 := j6.below' hBz
        have m4 := j4.below' hBz
        have p7 := m7.cell 0
        have f7' := m7.frozen 0
        have p6 := m6.cell 0
        have f6' := m6.frozen 0
        have hwr : IntKind.i64.wrap ((d : Int) + 1) = (d : Int) + 1 := by simp [IntKind.wrap, IntKind.signed, IntKind.bits]; omega
        have hLd : (M.drop k)[pre.length]? = some (ya, yv) := by rw [List.getElem?_drop, ← HD.out]; exact HMd.out
        have hKO : KeepsOthers W W2 := KeepsOthers.of_grownBy (grown_none hBz) (fun j o e => by cases e)
        clear z4 z7 z0 z1 zx0 zx1 hgd hq hge hge2
        by_cases hxy : ya = xa' ∧ yv = xv'
        · obtain ⟨rfl, rfl⟩ := hxy
          have hpre2 := pre_snoc hpre hLd
          have hKR : KeepR p q g1 (g1 + 1) W (W2.setCell ⟨w.heap.size + 1 + 1, 0, none⟩ (.int .i64 ((d : Int) + 1))) := (KeepR.of_below hBz (Nat.lt_of_lt_of_le R1.plt hsW) (Nat.lt_of_lt_of_le R1.qlt hsW) (Nat.lt_of_lt_of_le KB1.lt hsW) (Nat.lt_of_lt_of_le KB2.lt hsW)).trans
            ⟨by simp [World.setCell], Below.heap_setCell _ _ _ _ (by have := HRR.out.plt; show p ≠ w.heap.size + 1 + 1; omega), Below.heap_setCell _ _ _ _ (by have := HRR.out.qlt; show q ≠ w.heap.size + 1 + 1; omega), Below.heap_setCell _ _ _ _ (by show g1 ≠ w.heap.size + 1 + 1; omega), Below.heap_setCell _ _ _ _ (by show g1 + 1 ≠ w.heap.size + 1 + 1; omega)⟩
          have hI7 : Bk (W2.setCell ⟨w.heap.size + 1 + 1, 0, none⟩ (.int .i64 ((d : Int) + 1))) (w.heap.size + 1 + 1) 3 #[.int .i64 ((k + (pre ++ [(ya, yv)]).length : Nat) : Int)] := by
            have := m7.set 0 (.int .i64 ((d : Int) + 1))
            have e : ((k + (pre ++ [(ya, yv)]).length : Nat) : Int) = (d : Int) + 1 := by rw [List.length_append, HD.out]; simp; omega
            rw [e]
            simpa using this
          have hfin := And.intro (((hKO.trans (KeepsOthers.setCell W2 ⟨w.heap.size + 1 + 1, 0, none⟩ (.int .i64 ((d : Int) + 1)))).from W1.heap.size)) (And.intro hKR (And.intro hpre2 (And.intro (m4.far (p := ⟨w.heap.size + 1 + 1, 0, none⟩) (by show w.heap.size ≠ w.heap.size + 1 + 1; omega) (.int .i64 ((d : Int) + 1))) (And.intro (m6.far (p := ⟨w.heap.size + 1 + 1, 0, none⟩) (by show w.heap.size + 1 ≠ w.heap.size + 1 + 1; omega) (.int .i64 ((d : Int) + 1))) (And.intro hI7 (And.intro ((below_tr hBW hBz).setCell (p := ⟨w.heap.size + 1 + 1, 0, none⟩) (by show w.heap.size ≤ w.heap.size + 1 + 1; omega) (.int .i64 ((d : Int) + 1))) (show W1.heap.size ≤ (W2.setCell ⟨w.heap.size + 1 + 1, 0, none⟩ (.int .i64 ((d : Int) + 1))).heap.size from by simp [World.setCell]; exact Nat.le_trans hsW hBz.size)))))))
          have HFIN := Lib.hid hfin
          clear hfin hKR hI7 hpre2 hKO m4 m6 m7
          gi_wp2
          all_goals first
            | exact HFIN.out
            | (rename_i hbad; exact absurd hbad (by simp))
        · have hne : ((!ya == xa') || (!yv == xv')) = true := by
            cases h1 : ya == xa'
            · rfl
            · cases h2 : yv == xv'
              · rfl
              · exact absurd ⟨by simpa using h1, by simpa using h2⟩ hxy
          have hnp : ¬ (pre ++ [(xa', xv')] <+: M.drop k) := fun h => by
            have := pre_last h
            rw [hLd] at this
            injection this with this
            injection this with e1 e2
            exact hxy ⟨e1, e2⟩
          have HFIN := Lib.hid (And.intro ((hKO.trans (KeepsOthers.setCell W2 ⟨w.heap.size + 1, 0, none⟩ (.bool false))).from W1.heap.size) hnp)
          clear hnp hKO m4 m6 m7
          have HXY := Lib.hid hxy
          clear hxy
          gi_wp2
          all_goals first
            | exact ⟨HFIN.out.1, rfl, HFIN.out.2⟩
            | (rename_i hbad; exact absurd (And.intro (by simpa using hbad.1) (by simpa using hbad.2)) HXY.out)
      case done =>
        rintro DD ys W hDD rfl ⟨_, j4, j6, j7, hBW, hsW⟩ hK
        subst hA
        have hkl : k + (M.drop k).length = n := by rw [List.length_drop, HN.out]; omega
        rw [hkl] at j7
        have RW := HRR.out.below hBW
        have CLast := Lib.hid (lastI_is W RW)
        rw [HM.out] at CLast
        have CLen := Lib.hid (fun w1 (hb : Below W.heap.size W w1) => (lenI_any w1 (RW.below hb)).mono (R' := fun e w' => e = .returned (.int .i64 n) ∧ Below w1.heap.size w1 w') (fun e w' ⟨h1, h2⟩ => ⟨h1, by subst h2; exact Below.refl _ _⟩))
        clear hkl
        gi_wp2_with (refine ⟨trivial, ?_⟩; gi_at_call 42; refine (callsIn_wide.2 CLast.out).mono ?_; rintro e w5 ⟨a, v, ok, rfl, hok, h9, hb5⟩; clear h9)
        have hBn := hb5.trans ((below_al w5 (.cells #[.int .i64 a, .int .i64 v] 91)).mono hb5.size)
        have jn := Bk.new w5 91 #[.int .i64 a, .int .i64 v]
        generalize w5.alloc (.cells #[.int .i64 a, .int .i64 v] 91) = W6 at hBn jn ⊢
        generalize w5.heap.size = g6 at jn ⊢
        have i4 := j4.below' hBn
        have i6 := j6.below' hBn
        have i7 := j7.below' hBn
        have z4 := fun a b => cell_regrown (i4.cell 0) a b
        have z7 := fun a b => cell_regrown (i7.cell 0) a b
        have zn0 := fun a b => cell_regrown (jn.cell 0) a b
        have zn1 := fun a b => cell_regrown (jn.cell 1) a b
        have n32 : (n : Int) ≤ 32 := by omega
        clear CLast j4 j7
        cases ok
        · have hn0 : n = 0 := by
            have : M = [] := by simpa using hok
            rw [← HN.out, this]
            rfl
          have hnn : (n : Int) = 0 := by omega
          have hgt : decide ((0 : Int) < (n : Int)) = false := by simp; omega
          have hgt2 : decide (0 < n) = false := by simp; omega
          have HN0 := Lib.hid hn0
          clear hn0 hnn hok
          refine wpIn_wide.2 ?_
          refine wp_region_quiet_last (List.dropLast_concat_getLast (by simp)).symm (by kernel_rfl) (by kernel_rfl) (by rfl) ?_
          simp only [stillLast, still, List.getLast_cons_cons, List.getLast_singleton]
          repeat (go_big_quiet_step (first
            | (go_at_call 44; (with_reducible exact Calls.regrown_of (CLen.out _ (below_tr hBn (below_regrown _ _ _)))))))
          refine wpQuiet_nil ?_
          rintro _ ⟨rp, rfl⟩
          have hBz := below_regrown W6 rp.d rp.os
          generalize «Sort».grow (redrawn W6 rp.d) rp.os = W7 at hBz ⊢
          have l6 := i6.below' hBz
          have p6 := l6.cell 0
          have f6 := l6.frozen 0
          have hlt : DD < W.heap.size := (Array.getElem?_eq_some_iff.1 hK).1
          have hK7 : W7.heap[DD]? = some (.deferred (some [])) := ((hBz.block DD (Nat.lt_of_lt_of_le hlt hBn.size)).trans (hBn.block DD hlt)).trans hK
          have hK8 : (W7.setCell ⟨w.heap.size + 1, 0, none⟩ (.bool true)).heap[DD]? = some (.deferred (some [])) := (KeepsOthers.setCell W7 ⟨w.heap.size + 1, 0, none⟩ (.bool true)).same DD _ hK7 rfl
          have c8 : (W7.setCell ⟨w.heap.size + 1, 0, none⟩ (.bool true)).cell? ⟨w.heap.size + 1, 0, none⟩ = some (.bool true) := (l6.set 0 (.bool true)).cell 0
          have hBF : Below w.heap.size w (W7.setCell ⟨w.heap.size + 1, 0, none⟩ (.bool true)) := (below_tr (below_tr hBW hBn) hBz).setCell (p := ⟨w.heap.size + 1, 0, none⟩) (by show w.heap.size ≤ w.heap.size + 1; omega) _
          have hDw : w.heap.size ≤ DD := Nat.le_trans HB1.size hDD
          have hc5 := cell_kept c8 (grownBy_putObj' _ DD (.deferred none)) (fun r e => by cases e; exact ⟨_, hK8, rfl⟩)
          have HFF := Lib.hid (And.intro hK8 (And.intro hc5 (hBF.trans (belowK_b (w := w) (Nat.le_refl _) _ DD _ (.deferred none) hDw hK8 rfl rfl))))
          clear hK8 c8 hBF hc5 hK7
          go_simp
          gi_wp2
          refine ⟨by simp, .inl ⟨_, _, rfl, run_takeDeferred HFF.out.1, ?_⟩⟩
          refine ⟨.bool true, ?_, rfl, HFF.out.2.2⟩
          have hc5 := HFF.out.2.1
          simp [results, Try.results41, go_sem, hc5]
        · have hn0 : 0 < n := by
            rcases Nat.eq_zero_or_pos n with e | e
            · have : M = [] := List.eq_nil_of_length_eq_zero (by rw [HN.out, e])
              rw [this] at hok
              cases hok
            · exact e
          have hML : M[n - 1]? = some (a, v) := by
            rw [List.getLast?_eq_getElem?, HN.out] at hok
            exact hok
          obtain ⟨m1, rfl⟩ : ∃ m1, n = m1 + 1 := ⟨n - 1, by omega⟩
          rw [Nat.add_sub_cancel] at hML
          have hm1 : m1 < M.length := by rw [HN.out]; omega
          obtain ⟨bm, om, rfl, hbm, hadd, hcell⟩ := Sl.row' (s := 2) (f := rcells (Value.int .i64)) (fun _ => rfl) (by omega) (HMM.out.below (below_tr hBW hBn)) m1 hm1
          have y0 : W6.cell? ⟨bm, om + m1 * 2, none⟩ = _ := hcell 0 _ rfl
          have y1 : W6.cell? ⟨bm, om + m1 * 2 + 1, none⟩ = _ := hcell 1 _ rfl
          have hMe := (List.getElem?_eq_some_iff.1 hML).2
          rw [hMe] at y0 y1
          simp only at y0 y1
          have zy0 := fun a b => cell_regrown y0 a b
          have zy1 := fun a b => cell_regrown y1 a b
          have hq := fun w1 => eql_smp a v a v w1
          have hgd : Try.prog.eqGuardType Try.prog.depth 91 = false := by kernel_rfl
          have hwr : IntKind.i64.wrap ((m1 : Int) + 1 - 1) = (m1 : Int) := by simp [IntKind.wrap, IntKind.signed, IntKind.bits]; omega
          have m32 : (m1 : Int) ≤ 32 := by omega
          clear hcell hMe hML hok hn0
          refine wpIn_wide.2 ?_
          refine wp_region_quiet_last (List.dropLast_concat_getLast (by simp)).symm (by kernel_rfl) (by kernel_rfl) (by rfl) ?_
          simp only [stillLast, still, List.getLast_cons_cons, List.getLast_singleton]
          repeat (go_big_quiet_step (first
            | (go_at_call 44; (with_reducible exact Calls.regrown_of (CLen.out _ (below_tr hBn (below_regrown _ _ _)))))))
          refine wpQuiet_nil ?_
          rintro _ ⟨rp, rfl⟩
          have hBz := below_regrown W6 rp.d rp.os
          generalize «Sort».grow (redrawn W6 rp.d) rp.os = W7 at hBz ⊢
          have l6 := i6.below' hBz
          have p6 := l6.cell 0
          have f6 := l6.frozen 0
          have hlt : DD < W.heap.size := (Array.getElem?_eq_some_iff.1 hK).1
          have hK7 : W7.heap[DD]? = some (.deferred (some [])) := ((hBz.block DD (Nat.lt_of_lt_of_le hlt hBn.size)).trans (hBn.block DD hlt)).trans hK
          have hK8 : (W7.setCell ⟨w.heap.size + 1, 0, none⟩ (.bool true)).heap[DD]? = some (.deferred (some [])) := (KeepsOthers.setCell W7 ⟨w.heap.size + 1, 0, none⟩ (.bool true)).same DD _ hK7 rfl
          have c8 : (W7.setCell ⟨w.heap.size + 1, 0, none⟩ (.bool true)).cell? ⟨w.heap.size + 1, 0, none⟩ = some (.bool true) := (l6.set 0 (.bool true)).cell 0
          have hBF : Below w.heap.size w (W7.setCell ⟨w.heap.size + 1, 0, none⟩ (.bool true)) := (below_tr (below_tr hBW hBn) hBz).setCell (p := ⟨w.heap.size + 1, 0, none⟩) (by show w.heap.size ≤ w.heap.size + 1; omega) _
          have hDw : w.heap.size ≤ DD := Nat.le_trans HB1.size hDD
          have hc5 := cell_kept c8 (grownBy_putObj' _ DD (.deferred none)) (fun r e => by cases e; exact ⟨_, hK8, rfl⟩)
          have HFF := Lib.hid (And.intro hK8 (And.intro hc5 (hBF.trans (belowK_b (w := w) (Nat.le_refl _) _ DD _ (.deferred none) hDw hK8 rfl rfl))))
          clear hK8 c8 hBF hc5 hK7
          go_simp
          gi_wp2
          refine ⟨by simp, .inl ⟨_, _, rfl, run_takeDeferred HFF.out.1, ?_⟩⟩
          refine ⟨.bool true, ?_, rfl, HFF.out.2.2⟩
          have hc5 := HFF.out.2.1
          simp [results, Try.results41, go_sem, hc5]
end Go.Proofs.Ytilmmmokobhnfaa
