/-
  The walk of the statement ChartGrows: it returns true, for every input.
-/
import Derived.Test.YtalmhnimmhgloaaCh6
import Derived.Test.YtalmhnimmhgloaaOpen
namespace Go.Proofs.Ytalmhnimmhgloaa
open Go.RowKit Go.Proofs.Mem
set_option linter.unusedVariables false
set_option linter.unusedSimpArgs false
theorem lives_b1 (i : Nat) (hi : i < 3) (h : FirstIs 2000 1000 3 1500 i ∨ (i + 1 = 3 ∧ NoneIs 2000 1000 3 1500)) : i = 1 := by
  have e0 : ChartLaw.endAt 2000 0 1000 = 1000 := rfl
  have e1 : ChartLaw.endAt 2000 1 1000 = 2000 := rfl
  rcases h with ⟨_, h1, h2⟩ | ⟨_, h2⟩
  · match i, hi with
    | 0, _ => rw [e0] at h1; omega
    | 1, _ => rfl
    | 2, _ => have := h2 1 (by omega); rw [e1] at this; omega
  · have := h2 1 (by omega); rw [e1] at this; omega
theorem lives_b2 (i : Nat) (hi : i < 3) (h : FirstIs 2000 1000 3 9000 i ∨ (i + 1 = 3 ∧ NoneIs 2000 1000 3 9000)) : i = 2 := by
  have e0 : ChartLaw.endAt 2000 0 1000 = 1000 := rfl
  have e1 : ChartLaw.endAt 2000 1 1000 = 2000 := rfl
  have e2 : ChartLaw.endAt 2000 2 1000 = 4000 := rfl
  rcases h with ⟨_, h1, h2⟩ | ⟨h1, h2⟩
  · match i, hi with
    | 0, _ => rw [e0] at h1; omega
    | 1, _ => rw [e1] at h1; omega
    | 2, _ => rfl
  · omega
set_option maxHeartbeats 1000000 in
set_option maxRecDepth 100000 in
theorem lives39_any (w : World) : Calls Try.prog 19 #[] w fun e w' => e = .returned (.bool true) ∧ Below w.heap.size w w' := by
  have C0 : Hid (∀ w1, Calls Try.prog 18 #[.agg #[.int .i64 1000, .int .i64 2000, .int .i64 3, .int .i64 9]] w1 (NewIs 1000 2000 3 9 w1)) := Lib.hid fun w1 => new_any 1000 2000 3 9 w1 rfl
  go_enter Try.func19, Try.ntmps19
  go_wp2_with fail
  refine (C0.out w).mono ?_
  rintro e w1 ⟨c, rfl, hc, hC, hb1⟩
  have E0 : Hid (Calls Try.prog 39 #[.pointer (some ⟨c + 1, 0, none⟩), .int .i64 0] w1 fun e w' => e = .returned (.int .i64 1000) ∧ w1 = w') := Lib.hid (end_any w1 c 1000 2000 3 9 _ 0 false hC (by omega) 0 (by omega))
  have E1 : Hid (Calls Try.prog 39 #[.pointer (some ⟨c + 1, 0, none⟩), .int .i64 1] w1 fun e w' => e = .returned (.int .i64 2000) ∧ w1 = w') := Lib.hid (end_any w1 c 1000 2000 3 9 _ 0 false hC (by omega) 1 (by omega))
  have E2 : Hid (Calls Try.prog 39 #[.pointer (some ⟨c + 1, 0, none⟩), .int .i64 2] w1 fun e w' => e = .returned (.int .i64 4000) ∧ w1 = w') := Lib.hid (end_any w1 c 1000 2000 3 9 _ 0 false hC (by omega) 2 (by omega))
  go_wp2_with fail
  refine E0.out.mono ?_
  rintro e w' ⟨rfl, rfl⟩
  go_wp2_with fail
  refine E1.out.mono ?_
  rintro e w' ⟨rfl, rfl⟩
  go_wp2_with fail
  refine E2.out.mono ?_
  rintro e w' ⟨rfl, rfl⟩
  go_wp2_with fail
  refine (bucket_any w1 c 1000 2000 3 9 _ 0 false 1500 hC (by omega) (by omega) (by omega) (by omega)).mono ?_
  rintro e w2 ⟨⟨i, rfl, hi, hI⟩, hb2⟩
  obtain rfl := lives_b1 i hi hI
  have hC2 := hC.below hb2
  clear hI hi
  go_wp2_with fail
  refine (bucket_any w2 c 1000 2000 3 9 _ 0 false 9000 hC2 (by omega) (by omega) (by omega) (by omega)).mono ?_
  rintro e w3 ⟨⟨i, rfl, hi, hI⟩, hb3⟩
  obtain rfl := lives_b2 i hi hI
  clear hI hi
  go_wp2_with fail
  go_ret
  exact ⟨rfl, (hb1.trans (hb2.mono hb1.size)).trans (hb3.mono (Nat.le_trans hb1.size hb2.size))⟩
/-- A put, as it lies in a row. -/
structure PutA where
  step : Int
  m : Int
  k : Int
def PutA.cells (x : PutA) : List Value := [.int .i32 x.step, .int .i64 x.m, .int .i64 x.k]
/-- Where the law stops early. -/
theorem grows_early (F G M H : Int) (A : Option Addr) (n cp : Nat) (a b : Int) (w : World) (hn : n ≤ maxLen) (h : rulesB F G M H = false ∨ (rulesB F G M H = true ∧ 60 < n)) :
    Calls Try.prog 5 #[.agg #[.int .i64 F, .int .i64 G, .int .i64 M, .int .i64 H], .slice A n cp, .int .u16 a, .int .u16 b] w fun e w' => e = .returned (.bool true) ∧ Below w.heap.size w w' := by
  rcases h with h | ⟨h, hl⟩
  · have C0 := Lib.hid (fun w1 => new_bad F G M H w1 h)
    clear h
    go_enter Try.func5, Try.ntmps5
    go_wp2_with fail
    refine (C0.out _).mono ?_
    rintro e w1 ⟨rfl, hb1⟩
    go_wp2_with fail
    refine (lives39_any _).mono ?_
    rintro e w2 ⟨rfl, hb2⟩
    go_wp2_with fail
    refine (lives39_any _).mono ?_
    rintro e w3 ⟨rfl, hb3⟩
    go_wp2_with fail
    go_ret
    have hB1 : Below w.heap.size w w1 := (below_al _ _).trans (hb1.mono (by simp))
    exact ⟨rfl, (hB1.trans (hb2.mono hB1.size)).trans (hb3.mono (Nat.le_trans hB1.size hb2.size))⟩
  · obtain ⟨F0, F1, G0, G1, M0, M1, H0, H1⟩ := of_decide_eq_true h
    obtain ⟨F, rfl⟩ := Int.eq_ofNat_of_zero_le (show 0 ≤ F by omega)
    obtain ⟨G, rfl⟩ := Int.eq_ofNat_of_zero_le (show 0 ≤ G by omega)
    obtain ⟨M, rfl⟩ := Int.eq_ofNat_of_zero_le (show 0 ≤ M by omega)
    obtain ⟨H, rfl⟩ := Int.eq_ofNat_of_zero_le (show 0 ≤ H by omega)
    have C0 := Lib.hid (fun w1 => new_any F G M H w1 h)
    have hl' : (60 : Int) < n := by omega
    clear h
    go_enter Try.func5, Try.ntmps5
    go_wp2_with fail
    refine (C0.out _).mono ?_
    rintro e w1 ⟨c, rfl, _, _, hb1⟩
    go_wp2_with fail
    refine (lives39_any _).mono ?_
    rintro e w2 ⟨rfl, hb2⟩
    go_wp2_with fail
    refine (lives39_any _).mono ?_
    rintro e w3 ⟨rfl, hb3⟩
    go_wp2_with fail
    go_ret
    have hB1 : Below w.heap.size w w1 := (below_al _ _).trans (hb1.mono (by simp))
    exact ⟨rfl, (hB1.trans (hb2.mono hB1.size)).trans (hb3.mono (Nat.le_trans hB1.size hb2.size))⟩
set_option maxHeartbeats 1000000 in
set_option maxRecDepth 100000 in
theorem grows_walk (F G M H : Nat) (xs : List PutA) (v : Value) (a b : Nat) (w : World) (h : rulesB F G M H = true) (hl : xs.length ≤ 60) (hv : Sl w 3 v xs.length (xs.flatMap PutA.cells)) (hx : ∀ x ∈ xs, (Lit.int .i32 x.step).wf = true) (ha : a < 65536) (hb : b < 65536) :
    Calls Try.prog 5 #[.agg #[.int .i64 F, .int .i64 G, .int .i64 M, .int .i64 H], v, .int .u16 a, .int .u16 b] w fun e w' => e = .returned (.bool true) ∧ Below w.heap.size w w' := by
  obtain ⟨F0, F1, G0, G1, M0, M1, H0, H1⟩ := of_decide_eq_true h
  have C0 := Lib.hid (fun w1 => new_any F G M H w1 h)
  have hl' : (xs.length : Int) ≤ 60 := by omega
  have HX := Lib.hid hx
  obtain ⟨A, cp, rfl, hcp, _⟩ := id hv
  clear h hx
  go_enter Try.func5, Try.ntmps5
  go_wp2_with fail
  refine (C0.out _).mono ?_
  rintro e w1 ⟨c, rfl, hc, hC, hb1⟩
  have hB1 : Below w.heap.size w w1 := (below_al _ _).trans (hb1.mono (by simp))
  go_wp2_with fail
  refine (lives39_any _).mono ?_
  rintro e w2 ⟨rfl, hb2⟩
  have hC2 := hC.below hb2
  have hB2 : Below w.heap.size w w2 := hB1.trans (hb2.mono hB1.size)
  have hcw : w.heap.size ≤ c := by simp at hc; omega
  clear hC hb1 hb2 hB1 hc
  go_wp2_with fail
  go_loopw [12, 38] (fun _ i wr => ∃ (k : Nat) (ws : List Nat) (p : Int) (met : Bool), k ≤ xs.length ∧ i = .int .i64 k ∧ Ch wr c F G M H ws p met ∧ Hid (∀ x ∈ ws, x ≤ 144115188075855872) ∧ 0 ≤ p ∧ p ≤ 4611686018427387904 ∧ Below w.heap.size w wr) (fun _ i wr => xs.length - (intOf i).toNat)
  case atStart => exact ⟨0, _, 0, false, Nat.zero_le _, rfl, hC2, Lib.hid (by intro x hx; rw [List.mem_replicate] at hx; omega), by omega, by omega, hB2⟩
  case round =>
    obtain ⟨k, ws, p, met, hk, rfl, hC, HWs, p0, p1, hB⟩ := hrel
    by_cases hlt : k < xs.length
    · obtain ⟨bq, o, rfl, hbl, hadd, hcell⟩ := Sl.row' (f := PutA.cells) (fun _ => rfl) (by omega) (hv.below hB) k hlt
      have a0 : wr.cell? ⟨bq, o + k * 3, none⟩ = _ := hcell 0 _ rfl
      have a1 := hcell 1 _ rfl
      have a2 := hcell 2 _ rfl
      have hst := HX.out _ (List.getElem_mem hlt)
      simp [Lit.wf, IntKind.min, IntKind.max, IntKind.signed, IntKind.bits] at hst
      obtain ⟨st0, st1⟩ := hst
      clear hcell
      generalize xs[k] = x at a0 a1 a2 st0 st1
      go_wp2_with fail
      refine (put_any _ c F G M H ws p met _ _ _ (hC.below (below_al _ _)) (by omega) (by omega) (by omega) (by omega) HWs.out p0 p1).mono ?_
      rintro e w4 ⟨n, ws', p', met', rfl, hC4, hw4, q0, q1, hb4⟩
      have HW4 := Lib.hid hw4
      have hB4 : Below w.heap.size w w4 := Below.trans (hB.alloc hB.size _) (hb4.mono hcw)
      clear hw4 hb4
      go_wp2_with fail
      exact ⟨⟨k + 1, ws', p', met', by omega, by go_num, hC4, HW4, q0, q1, hB4⟩, by simp [intOf]; omega⟩
    · clear hC2 hB2
      go_wp2_with fail
      have x0 : 0 ≤ min (a : Int) (b : Int) % 1001 ∧ min (a : Int) (b : Int) % 1001 ≤ 1000 := by omega
      have y0 : 0 ≤ max (a : Int) (b : Int) % 1001 ∧ max (a : Int) (b : Int) % 1001 ≤ 1000 := by omega
      generalize min (a : Int) (b : Int) % 1001 = x at x0 ⊢
      generalize max (a : Int) (b : Int) % 1001 = y at y0 ⊢
      obtain ⟨X, hX⟩ : ∃ X : Nat, min x y = (X : Int) := ⟨(min x y).toNat, by omega⟩
      obtain ⟨Y, hY⟩ : ∃ Y : Nat, max x y = (Y : Int) := ⟨(max x y).toNat, by omega⟩
      have hXY : X ≤ Y := by omega
      have hY1 : Y ≤ 1000 := by omega
      rw [hX]
      have HY := Lib.hid hY
      clear hX hY
      rcases Nat.eq_zero_or_pos ws.sum with hz | hz
      · have P1 := Lib.hid (fun t => perc_none wr c F G M H ws p met hC (by omega) HWs.out t hz)
        have P2 := Lib.hid (total_any wr c F G M H ws p met hC (by omega) HWs.out)
        rw [hz] at P2
        clear hz
        refine (P1.out _).mono ?_
        rintro e w' ⟨rfl, rfl⟩
        go_wp2_with fail
        refine (P1.out _).mono ?_
        rintro e w' ⟨rfl, rfl⟩
        go_wp2_with fail
        refine P2.out.mono ?_
        rintro e w' ⟨rfl, rfl⟩
        go_wp2_with fail
        go_ret
        exact ⟨rfl, hB⟩
      · refine (perc_some wr c F G M H ws p met hC (by omega) HWs.out X (by omega) hz).mono ?_
        rintro e w5 ⟨⟨i, rfl, hi⟩, hb5⟩
        have hB5 := hB.trans (hb5.mono hB.size)
        go_wp2_with fail
        rw [HY.out]
        refine (perc_some w5 c F G M H ws p met (hC.below hb5) (by omega) HWs.out Y (by omega) hz).mono ?_
        rintro e w6 ⟨⟨j, rfl, hj⟩, hb6⟩
        have hB6 := hB5.trans (hb6.mono hB5.size)
        have hle := ChartLaw.grows (g := G) (e := F) (by omega) (by omega) hXY hi hj
        have P2 := Lib.hid (total_any w6 c F G M H ws p met ((hC.below hb5).below hb6) (by omega) HWs.out)
        clear hi hj
        unfold endV
        generalize ChartLaw.endAt G i F = ei at hle ⊢
        generalize ChartLaw.endAt G j F = ej at hle ⊢
        have hle' : (ei : Int) ≤ ej := by omega
        have hz' : (0 : Int) < (ws.sum : Nat) := by omega
        go_wp2_with fail
        refine P2.out.mono ?_
        rintro e w' ⟨rfl, rfl⟩
        go_wp2_with fail
        go_ret
        exact ⟨rfl, hB6⟩
/-- The rules, opened. -/
theorem rules_of {w : World} {m : Nat} {a0 : Array Value} (h : Ok Try.prog w (m + 2) 48 (Value.agg a0).cells.toList) : ∃ F G M H : Int, a0 = #[.int .i64 F, .int .i64 G, .int .i64 M, .int .i64 H] := by
  obtain ⟨hl, hf⟩ := ok_struct Try.underlying48 h
  have hce : Try.prog.cellsOf 48 = 4 := by kernel_rfl
  replace hl : a0.toList.length = 4 := hl.trans hce
  obtain ⟨z0, e0, _⟩ := ok_int Try.underlying46 (ok_field hf 0 46 0 1 (by kernel_rfl) (by kernel_rfl))
  obtain ⟨z1, e1, _⟩ := ok_int Try.underlying3 (ok_field hf 1 3 1 1 (by kernel_rfl) (by kernel_rfl))
  obtain ⟨z2, e2, _⟩ := ok_int Try.underlying3 (ok_field hf 2 3 2 1 (by kernel_rfl) (by kernel_rfl))
  obtain ⟨z3, e3, _⟩ := ok_int Try.underlying3 (ok_field hf 3 3 3 1 (by kernel_rfl) (by kernel_rfl))
  have f0 : a0.toList[0]? = _ := one_cell e0
  have f1 : a0.toList[1]? = _ := one_cell e1
  have f2 : a0.toList[2]? = _ := one_cell e2
  have f3 : a0.toList[3]? = _ := one_cell e3
  refine ⟨z0, z1, z2, z3, ?_⟩
  match hq : a0.toList, hl with
  | [x, y, z, u], _ =>
    rw [hq] at f0 f1 f2 f3
    simp at f0 f1 f2 f3
    subst f0; subst f1; subst f2; subst f3
    exact arr_of hq
/-- The puts, opened. -/
theorem puts_of {w : World} {m : Nat} {A : Option Addr} {n cp : Nat} (h : Ok Try.prog w (m + 3) 49 (Value.slice A n cp).cells.toList) :
    n ≤ maxLen ∧ ∃ xs : List PutA, xs.length = n ∧ Sl w 3 (.slice A n cp) n (xs.flatMap PutA.cells) ∧ ∀ x ∈ xs, (Lit.int .i32 x.step).wf = true := by
  have hce : Try.prog.cellsOf 54 = 3 := by kernel_rfl
  obtain ⟨v, m', cs, e1, hS, hm, hel⟩ := ok_slice Try.underlying49 h (by rw [hce]; omega)
  rw [hce] at hS hel
  have e2 : v = .slice A n cp := by simp [Value.cells] at e1; exact e1.symm
  subst e2
  obtain ⟨rfl, _, _, hl, _⟩ := hS.parts
  refine ⟨hm, ?_⟩
  have key : ∀ j, j ≤ n → ∃ xs : List PutA, xs.length = j ∧ cs.take (j * 3) = xs.flatMap PutA.cells ∧ ∀ x ∈ xs, (Lit.int .i32 x.step).wf = true := by
    intro j
    induction j with
    | zero => intro _; exact ⟨[], rfl, by simp, by simp⟩
    | succ j ih =>
      intro hj
      obtain ⟨xs, h1, h2, h3⟩ := ih (by omega)
      obtain ⟨hl3, hf⟩ := ok_struct Try.underlying54 (hel j (by omega))
      rw [hce] at hl3
      obtain ⟨z0, e0, w0⟩ := ok_int Try.underlying21 (ok_field hf 0 21 0 1 (by kernel_rfl) (by kernel_rfl))
      obtain ⟨z1, e1, _⟩ := ok_int Try.underlying46 (ok_field hf 1 46 1 1 (by kernel_rfl) (by kernel_rfl))
      obtain ⟨z2, e2, _⟩ := ok_int Try.underlying3 (ok_field hf 2 3 2 1 (by kernel_rfl) (by kernel_rfl))
      have hp : (cs.drop (j * 3)).take 3 = [.int .i32 z0, .int .i64 z1, .int .i64 z2] := three_of hl3 (one_cell e0) (one_cell e1) (one_cell e2)
      refine ⟨xs ++ [⟨z0, z1, z2⟩], by simp [h1], ?_, ?_⟩
      · rw [Nat.succ_mul, List.take_add, h2, hp, List.flatMap_append]
        rfl
      · intro y hy
        rcases List.mem_append.1 hy with hy | hy
        · exact h3 y hy
        · simp at hy; subst hy; exact w0
  obtain ⟨xs, h1, h2, h3⟩ := key n (Nat.le_refl _)
  rw [← hl, List.take_length] at h2
  exact ⟨xs, h1, by rw [← h2]; exact hS, h3⟩
theorem chartGrows_walk (a0 : Array Value) (A : Option Addr) (n cp : Nat) (a b : Int) (w : World) (h0 : Ok Try.prog w 9 48 (Value.agg a0).cells.toList) (h1 : Ok Try.prog w 9 49 (Value.slice A n cp).cells.toList) (wa : (Lit.int .u16 a).wf = true) (wb : (Lit.int .u16 b).wf = true) :
    Calls Try.prog 5 #[.agg a0, .slice A n cp, .int .u16 a, .int .u16 b] w fun e w' => e = .returned (.bool true) ∧ Below w.heap.size w w' := by
  obtain ⟨F, G, M, H, rfl⟩ := rules_of (m := 7) h0
  obtain ⟨hm, xs, hz, hS, hx⟩ := puts_of (m := 6) h1
  have ha : 0 ≤ a ∧ a < 65536 := by simp [Lit.wf, IntKind.min, IntKind.max, IntKind.signed, IntKind.bits] at wa; omega
  have hb : 0 ≤ b ∧ b < 65536 := by simp [Lit.wf, IntKind.min, IntKind.max, IntKind.signed, IntKind.bits] at wb; omega
  by_cases hr : rulesB F G M H = true
  · by_cases hl : n ≤ 60
    · obtain ⟨F0, F1, G0, G1, M0, M1, H0, H1⟩ := of_decide_eq_true hr
      obtain ⟨F, rfl⟩ := Int.eq_ofNat_of_zero_le (show 0 ≤ F by omega)
      obtain ⟨G, rfl⟩ := Int.eq_ofNat_of_zero_le (show 0 ≤ G by omega)
      obtain ⟨M, rfl⟩ := Int.eq_ofNat_of_zero_le (show 0 ≤ M by omega)
      obtain ⟨H, rfl⟩ := Int.eq_ofNat_of_zero_le (show 0 ≤ H by omega)
      obtain ⟨a, rfl⟩ := Int.eq_ofNat_of_zero_le ha.1
      obtain ⟨b, rfl⟩ := Int.eq_ofNat_of_zero_le hb.1
      subst hz
      exact grows_walk F G M H xs _ a b w hr hl hS hx (by omega) (by omega)
    · exact grows_early F G M H A n cp a b w hm (.inr ⟨hr, by omega⟩)
  · exact grows_early F G M H A n cp a b w hm (.inl (by simpa using hr))
end Go.Proofs.Ytalmhnimmhgloaa
