/-
  The chapter's example of layer 42, and package trend's Rise. Conditions: those named in each.
-/
import Derived.Test.YtalmhnimmhgloaaTr8
namespace Go.Proofs.Ytalmhnimmhgloaa
open Go.RowKit Go.Proofs.Mem Go.Sort LineLaw
set_option linter.unusedVariables false
set_option linter.unusedSimpArgs false
def exL : List Smp := [⟨0, 10⟩, ⟨10, 20⟩]
theorem exL_ok : OkL exL := by
  constructor
  · decide
  · decide
  · intro s hs; simp [exL] at hs; rcases hs with rfl | rfl <;> decide
  · intro s hs; simp [exL] at hs; rcases hs with rfl | rfl <;> decide
  · intro s hs; simp [exL] at hs; rcases hs with rfl | rfl <;> decide
  · intro s hs; simp [exL] at hs; rcases hs with rfl | rfl <;> decide
  · intro i h
    have : i = 0 := by simp [exL] at h; omega
    subst this
    show (0 : Int) < 10
    decide
  · intro s hs; simp [exL] at hs; rcases hs with rfl | rfl <;> decide
def exT : S := ⟨2, 10, 30, 100, 200⟩
theorem exT_eq : T exL (first exL) exL.length = exT := rfl
theorem exT_good : LineLaw.Good exT := by
  have := exL_ok.good
  rwa [exT_eq] at this
theorem fc_ex (t : Int) (h0 : 0 ≤ t) (h1 : t ≤ 131072) : fc exT t = t + 10 := by
  have e : top exT t = 200 * (t + 10) := by
    have e1 : exT.under = 100 := by decide
    have e2 : exT.over = 100 := by decide
    unfold top
    rw [e1, e2]
    simp only [exT]
    omega
  unfold fc
  rw [e]
  have e2 : exT.n * exT.under = 200 := by decide
  rw [e2, Int.max_eq_left (by omega), Int.mul_ediv_cancel_left _ (by decide)]
  omega
theorem when_ex (w : World) (e : Ending) (w' : World) (h : WhenIs exT 0 10 30 w e w') : e = .returned (.tuple #[.int .i64 20, .bool true]) ∧ Below w.heap.size w w' := by
  obtain ⟨h, hb⟩ := h
  refine ⟨?_, hb⟩
  rcases h with ⟨k, rfl, h1, h2, h3⟩ | ⟨_, _, h2⟩
  · have hk : (k : Int) ≤ 131062 := by omega
    rw [fc_ex _ (by omega) (by omega)] at h2
    have hk2 : k = 10 := by
      rcases Nat.lt_or_ge 10 k with hlt | hge
      · have := h3 (k - 1) (by omega)
        rw [fc_ex _ (by omega) (by omega)] at this
        omega
      · omega
    subst hk2
    rfl
  · rw [fc_ex _ (by omega) (by omega)] at h2
    omega
set_option maxHeartbeats 1000000 in
set_option maxRecDepth 100000 in
theorem lives42_any (w : World) : Calls Try.prog 24 #[] w fun e w' => e = .returned (.bool true) ∧ Below w.heap.size w w' := by
  have CW : Hid (∀ w1, Calls Try.prog 27 #[.agg #[.int .i64 2, .int .i64 0, .int .i64 10, .int .i64 10, .int .i64 30, .int .i64 100, .int .i64 100], .int .i64 30] w1 fun e w' => e = .returned (.tuple #[.int .i64 20, .bool true]) ∧ Below w1.heap.size w1 w') := Lib.hid fun w1 => (when_any exT 0 10 30 w1 exT_good (by omega) (by omega) (by omega) (by omega)).mono (when_ex w1)
  have CA : Hid (∀ w1, Calls Try.prog 30 #[.agg #[.int .i64 2, .int .i64 0, .int .i64 10, .int .i64 10, .int .i64 30, .int .i64 100, .int .i64 100], .int .i64 15] w1 fun e w' => e = .returned (.tuple #[.int .i64 25, .int .i64 0]) ∧ Below w1.heap.size w1 w') := Lib.hid fun w1 => (At_any exT 0 10 15 w1 exT_good (by omega) (by omega) (by omega) (by omega)).mono fun e w' ⟨h, hb⟩ => ⟨by rw [h, fc_ex _ (by omega) (by omega)]; rfl, hb⟩
  have CF : Hid (∀ (v : Value) (w1 : World), Sl w1 2 v 2 [.int .i64 0, .int .i64 10, .int .i64 10, .int .i64 20] → Calls Try.prog 26 #[v] w1 fun e w' => e = .returned (.tuple #[.agg #[.int .i64 2, .int .i64 0, .int .i64 10, .int .i64 10, .int .i64 30, .int .i64 100, .int .i64 100], .int .i64 0]) ∧ Below w1.heap.size w1 w') := Lib.hid fun v w1 hv => (fit_any exL v w1 exL_ok hv).mono fun e w' ⟨h, hb⟩ => ⟨h, hb⟩
  go_enter Try.func24, Try.ntmps24
  go_wp2_with fail
  have hS := Sl.made (size := 2) w #[.int .i64 0, .int .i64 10, .int .i64 10, .int .i64 20] 71 2 2 (Nat.le_refl _) rfl
  refine (CF.out _ _ hS).mono ?_
  rintro e w1 ⟨rfl, hb1⟩
  have hB1 : Below w.heap.size w w1 := (below_al _ _).trans (hb1.mono (by simp))
  clear hS hb1
  go_wp2_with fail
  have kF := Bk.new w1 65 #[.int .i64 2, .int .i64 0, .int .i64 10, .int .i64 10, .int .i64 30, .int .i64 100, .int .i64 100]
  have hB2 := hB1.alloc hB1.size (.cells #[.int .i64 2, .int .i64 0, .int .i64 10, .int .i64 10, .int .i64 30, .int .i64 100, .int .i64 100] 65)
  generalize w1.alloc (.cells #[.int .i64 2, .int .i64 0, .int .i64 10, .int .i64 10, .int .i64 30, .int .i64 100, .int .i64 100] 65) = w2 at kF hB2 ⊢
  refine (CA.out w2).mono ?_
  rintro e w3 ⟨rfl, hb3⟩
  have kF3 := kF.below' hb3
  have hB3 := hB2.trans (hb3.mono hB2.size)
  have c0 := kF3.cell 0
  have c1 := kF3.cell 1
  have c2 := kF3.cell 2
  have c3 := kF3.cell 3
  have c4 := kF3.cell 4
  have c5 := kF3.cell 5
  have c6 := kF3.cell 6
  clear kF hb3 hB2
  go_wp2_with fail
  refine (CW.out w3).mono ?_
  rintro e w4 ⟨rfl, hb4⟩
  go_wp2_with fail
  go_ret
  exact ⟨rfl, hB3.trans (hb4.mono hB3.size)⟩
set_option maxHeartbeats 1000000 in
set_option maxRecDepth 100000 in
theorem rise_none (w : World) : Calls Try.prog 31 #[.slice none 0 0] w fun e w' => e = .returned (.tuple #[.int .i64 0, .int .i64 0, .int .i64 14]) ∧ w = w' := by
  go_enter Try.func31, Try.ntmps31
  go_wp2_with fail
  go_ret3
  exact ⟨rfl, rfl⟩
def lastV (l : List Smp) (k : Nat) : Int := (l[k]?.map Smp.v).getD 0
theorem lastV_eq (l : List Smp) (k : Nat) (h : k < l.length) : lastV l k = l[k].v := by
  unfold lastV
  rw [List.getElem?_eq_getElem h]
  rfl
set_option maxHeartbeats 1000000 in
set_option maxRecDepth 100000 in
/-- Rise, of values that don't go down. -/
theorem rise_any (l : List Smp) (v : Value) (w : World) (h0 : 1 ≤ l.length) (hm : l.length ≤ 64) (hup : ∀ (i : Nat) (h : i + 1 < l.length), (l[i]'(by omega)).v ≤ l[i + 1].v) (hlo : ∀ (i : Nat) (h : i < l.length), lastV l 0 ≤ l[i].v) (hv : Sl w 2 v l.length (l.flatMap Smp.cells)) :
    Calls Try.prog 31 #[v] w fun e w' => e = .returned (.tuple #[.int .i64 (lastV l 0), .int .i64 (lastV l (l.length - 1)), .int .i64 0]) ∧ Below w.heap.size w w' := by
  obtain ⟨A, cp, rfl, hcp, _⟩ := id hv
  obtain ⟨b, o, rfl, hbl, _, hcell⟩ := Sl.row' (f := Smp.cells) (fun _ => rfl) (by omega) hv 0 (by omega)
  have a1 : w.cell? ⟨b, o + 0 * 2 + 1, none⟩ = _ := hcell 1 _ rfl
  rw [Nat.zero_mul, Nat.add_zero, ← lastV_eq l 0 (by omega)] at a1
  have q3 : (0 : Int) < l.length := by omega
  have q4 : ((l.length : Int) == 0) = false := beq_eq_false_iff_ne.2 (by omega)
  have HU := Lib.hid hup
  have HLO := Lib.hid hlo
  clear hcell hup hlo
  go_enter Try.func31, Try.ntmps31
  go_wp2_with fail
  go_quiet (fail)
  go_wp2_with fail
  go_loopw [5, 6, 22] (fun lo hi i wr => ∃ (k : Nat), k ≤ l.length ∧ i = .int .i64 k ∧ lo = .int .i64 (lastV l 0) ∧ hi = .int .i64 (lastV l (k - 1)) ∧ Below w.heap.size w wr) (fun lo hi i wr => l.length - (intOf i).toNat)
  case atStart => exact ⟨0, Nat.zero_le _, rfl, rfl, rfl, (below_drewN (Below.refl _ _) _)⟩
  case round =>
    obtain ⟨k, hk, rfl, rfl, rfl, hB⟩ := hrel
    by_cases hlt : k < l.length
    · obtain ⟨b2, o2, eA, _, _, hcell2⟩ := Sl.row' (f := Smp.cells) (fun _ => rfl) (by omega) (hv.below hB) k hlt
      injection eA with eA
      injection eA with e1 e2 e3
      subst e1; subst e2
      have d0 : wr.cell? ⟨b, o + k * 2, none⟩ = _ := hcell2 0 _ rfl
      have d1 := hcell2 1 _ rfl
      have hlo := HLO.out k hlt
      have hhi : lastV l (k - 1) ≤ l[k].v := by
        rcases Nat.eq_zero_or_pos k with h | h
        · subst h; exact HLO.out 0 hlt
        · obtain ⟨j, rfl⟩ : ∃ j, k = j + 1 := ⟨k - 1, by omega⟩
          have := HU.out j hlt
          rw [Nat.add_sub_cancel, lastV_eq l j (by omega)]
          exact this
      have hn : Hid (lastV l (k + 1 - 1) = l[k].v) := Lib.hid (by rw [Nat.add_sub_cancel, lastV_eq l k hlt])
      clear hcell2
      generalize l[k] = s at d0 d1 hlo hhi hn
      generalize lastV l 0 = L at *
      generalize lastV l (k - 1) = Hh at *
      have m1 : min L s.v = L := by omega
      have m2 : max Hh s.v = s.v := by omega
      go_wp2_with fail
      go_region
      go_wp2_with fail
      exact ⟨⟨k + 1, hlt, by go_num, rfl, by rw [hn.out], (hB.alloc hB.size _).drew⟩, by simp [intOf]; omega⟩
    · obtain rfl : k = l.length := by omega
      go_wp2_with fail
      go_ret3
      exact ⟨rfl, hB⟩
end Go.Proofs.Ytalmhnimmhgloaa
