/-
  trimtablaw06.OctetBad: the walk.
-/
import Derived.Test.YtilmmmokobhnfaaBad1
import Derived.Test.YtilmmmokobhnfaaObj
import Derived.Test.YtilmmmokobhnfaaOpen
namespace Go.Proofs.Ytilmmmokobhnfaa
open Go.RowKit Go.Proofs.Mem
set_option linter.unusedVariables false
set_option linter.unusedSimpArgs false
set_option maxHeartbeats 1000000 in
set_option maxRecDepth 100000 in
theorem octetBad_long (A : Option Addr) (n c : Nat) (m : Int) (hn : 300 < n) (w : World) :
    Calls Try.prog 9 #[.slice A n c, .int .i64 m] w fun e w' => e = .returned (.bool true) ∧ Below w.heap.size w w' := by
  have h1 : (300 : Int) < (n : Int) := by omega
  go_enter Try.func9, Try.ntmps9
  go_wp2_with fail
  refine (lives06_any _).mono ?_
  rintro e w1 ⟨rfl, hb1⟩
  go_wp2_with fail
  refine (lives06_any _).mono ?_
  rintro e w2 ⟨rfl, hb2⟩
  go_wp2_with fail
  go_ret
  exact ⟨rfl, below_tr hb1 hb2⟩
/-- How much a reader has left, off its memory. -/
def lenAt (p : Nat) (w : World) : Nat := match w.cell? ⟨p, 0, none⟩ with | some (.slice _ n _) => n | _ => 0
theorem rd_lenAt {w : World} {p : Nat} {r : Option Nat} {bs : List UInt8} {bad : Bool} (h : RdO w p r bs bad) : lenAt p w = bs.length := by
  obtain ⟨A, c, hk, _⟩ := h
  have := hk.cell 0
  unfold lenAt
  rw [this]
  rfl
theorem obj_nil' (w : World) : Calls Try.prog 45 #[.pointer none] w fun e w' => ∃ L : Array Value, e = .returned (.agg L) ∧ (∀ w0, (Instr.field 46 (.agg L) 1).run Try.prog w0 = .ok (.string ⟨#[]⟩) w0) ∧ Below w.heap.size w w' :=
  (robj_nil w).mono fun e w' ⟨h1, h2⟩ => ⟨Ob0, h1, fun w0 => by
    have u := Try.underlying46
    simp only [Instr.field, Sem.run_bind, run_underlying u, Result.andThen_ok]
    generalize hL : Ob0 = L
    have hL1 : L[1]? = some (.string ⟨#[]⟩) := by rw [← hL]; rfl
    clear hL
    simp [asAgg, part, isAgg, Try.isAgg9, hL1], h2⟩
set_option maxHeartbeats 1000000 in
set_option maxRecDepth 100000 in
theorem octetBad_ok (A : Option Addr) (c : Nat) (bs : List UInt8) (m : Int) (hb : bs.length ≤ 300) (w : World) (hA : Sl w 1 (.slice A bs.length c) bs.length (bs.map bv)) :
    Calls Try.prog 9 #[.slice A bs.length c, .int .i64 m] w fun e w' => e = .returned (.bool true) ∧ Below w.heap.size w w' := by
  have hl1 : (bs.length : Int) ≤ 300 := by omega
  have CR := Lib.hid (fun w1 (hb1 : Below w.heap.size w w1) => read_any bs.length bs rfl _ w1 (hA.below hb1) (by omega))
  have HB := Lib.hid hb
  obtain ⟨n, hn⟩ : ∃ n, n = bs.length := ⟨_, rfl⟩
  rw [← hn] at hl1 CR
  rw [← hn]
  clear hn hA hb
  go_enter Try.func9, Try.ntmps9
  go_wp2_with fail
  refine (lives06_any _).mono ?_
  rintro e w1 ⟨rfl, hb1⟩
  go_wp2_with fail
  refine (bad_nil _).mono ?_
  rintro e w2 ⟨rfl, rfl⟩
  go_wp2_with fail
  refine (left_nil _).mono ?_
  rintro e w2 ⟨rfl, rfl⟩
  go_wp2_with fail
  refine (end_nil _).mono ?_
  rintro e w2 ⟨rfl, rfl⟩
  go_wp2_with fail
  refine (get_nil 1 _).mono ?_
  rintro e w2 ⟨rfl, hb2⟩
  go_wp2_with fail
  refine (rtext_nil _).mono ?_
  rintro e w3 ⟨rfl, hb3⟩
  go_wp2_with fail
  refine (rint_nil _).mono ?_
  rintro e w4 ⟨rfl, hb4⟩
  go_wp2_with fail
  refine (obj_nil' _).mono ?_
  rintro e w5 ⟨L, rfl, hL1, hb5⟩
  have hB5 := below_tr (below_tr (below_tr (below_tr hb1 hb2) hb3) hb4) hb5
  clear hb1 hb2 hb3 hb4 hb5
  go_wp2_with fail
  refine (CR.out _ hB5).mono ?_
  rintro e w6 ⟨p, rfl, ⟨r, hR, hr⟩, hp, hb6⟩
  have hB6 := below_tr hB5 hb6
  have hpw : w.heap.size ≤ p := Nat.le_trans hB5.size hp
  clear hb6 hp hr hB5 CR hL1
  by_cases hm : wholeP m
  · obtain ⟨k, rfl⟩ : ∃ k : Nat, m = k := ⟨m.toNat, by rcases hm with h | h | h | h <;> omega⟩
    have HGO := Lib.hid (fun (wr : World) (bs' : List UInt8) (hR : RdO wr p r bs' false) (hb : bs'.length ≤ 1000000000) (hl : k ≤ bs'.length) => get_ok k hm wr hR hb hl)
    have HGB := Lib.hid (fun (wr : World) (bs' : List UInt8) (hR : RdO wr p r bs' false) (hb : bs'.length ≤ 1000000000) (hl : bs'.length < k) => get_bad k wr hR hb (.inr (.inr (by omega))))
    have hmm : k = 1 ∨ k = 2 ∨ k = 4 ∨ k = 8 := by rcases hm with h | h | h | h <;> omega
    clear hm
    rcases hmm with rfl | rfl | rfl | rfl
    · go_wp2_with fail
      go_loopw [4] (fun u wr => u = .bool false ∧ ∃ bs' : List UInt8, bs'.length ≤ 300 ∧ RdO wr p r bs' false ∧ Below w.heap.size w wr) (fun u wr => lenAt p wr)
      case atStart => exact ⟨rfl, bs, HB.out, hR, hB6⟩
      case round =>
        obtain ⟨rfl, bs', hb', hR', hB'⟩ := hrel
        have CL := left_any wr hR' (by omega)
        simp only [Bool.false_eq_true, if_false] at CL
        have CL := Lib.hid CL
        have HLA := Lib.hid (rd_lenAt hR')
        have HGO2 := Lib.hid (HGO.out wr bs' hR' (by omega))
        by_cases hle : 1 ≤ bs'.length
        · have hi : (1 : Int) ≤ (bs'.length : Int) := by omega
          go_wp2_with fail
          refine CL.out.mono ?_
          rintro e v1 ⟨rfl, rfl⟩
          go_wp2_with fail
          refine (HGO2.out hle).mono ?_
          rintro e v2 ⟨rfl, hq⟩
          have hR2 := hq.1
          have hB2 := hq.2.below _ _ hB' hpw (by simp) hB'.size
          have HLB := Lib.hid (rd_lenAt hR2)
          clear hq
          go_wp2_with fail
          refine (bad_any v2 hR2).mono ?_
          rintro e v3 ⟨rfl, rfl⟩
          go_wp2_with fail
          exact ⟨⟨rfl, _, by rw [List.length_drop]; omega, hR2, hB2⟩, by rw [HLA.out, HLB.out, List.length_drop]; omega⟩
        · have hi : (bs'.length : Int) < (1 : Int) := by omega
          have HGB := Lib.hid (fun (u : World) (hu : RdO u p r bs' false) (_ : bs'.length ≤ 1000000000) => HGB.out u bs' hu (by omega) (by omega))
          clear HGO2
          go_wp2_with fail
          refine CL.out.mono ?_
          rintro e v0 ⟨rfl, rfl⟩
          go_wp2_with fail
          refine (HGB.out _ hR' (by omega)).mono ?_
          rintro e v1 ⟨rfl, hq1⟩
          have hR1 := hq1.1
          have hB1 := hq1.2.below _ _ hB' hpw (by simp) hB'.size
          clear hq1
          go_wp2_with fail
          refine (bad_any v1 hR1).mono ?_
          rintro e v2 ⟨rfl, rfl⟩
          go_wp2_with fail
          refine (get_bad 1 v1 hR1 (by omega) (.inr (.inl rfl))).mono ?_
          rintro e v2 ⟨rfl, hq2⟩
          have hR2 := hq2.1
          have hB2 := hq2.2.below _ _ hB1 hpw (by simp) hB1.size
          clear hq2 hR1 hB1
          go_wp2_with fail
          refine (rtext_bad v2 hR2 (by omega) (.inl rfl)).mono ?_
          rintro e v3 ⟨rfl, hq3⟩
          have hR3 := hq3.1
          have hB3 := hq3.2.below _ _ hB2 hpw (by simp) hB2.size
          clear hq3 hR2 hB2
          have CL := Lib.hid (left_any v3 hR3 (by omega))
          have CE := Lib.hid (end_any v3 hR3 (by omega))
          simp only [Bool.not_true, Bool.false_and, if_true] at CL CE
          go_wp2_with fail
          refine CL.out.mono ?_
          rintro e v4 ⟨rfl, rfl⟩
          go_wp2_with fail
          refine CE.out.mono ?_
          rintro e v4 ⟨rfl, rfl⟩
          go_wp2_with fail
          go_ret
          exact ⟨rfl, hB3⟩
    · go_wp2_with fail
      go_loopw [4] (fun u wr => u = .bool false ∧ ∃ bs' : List UInt8, bs'.length ≤ 300 ∧ RdO wr p r bs' false ∧ Below w.heap.size w wr) (fun u wr => lenAt p wr)
      case atStart => exact ⟨rfl, bs, HB.out, hR, hB6⟩
      case round =>
        obtain ⟨rfl, bs', hb', hR', hB'⟩ := hrel
        have CL := left_any wr hR' (by omega)
        simp only [Bool.false_eq_true, if_false] at CL
        have CL := Lib.hid CL
        have HLA := Lib.hid (rd_lenAt hR')
        have HGO2 := Lib.hid (HGO.out wr bs' hR' (by omega))
        by_cases hle : 2 ≤ bs'.length
        · have hi : (2 : Int) ≤ (bs'.length : Int) := by omega
          go_wp2_with fail
          refine CL.out.mono ?_
          rintro e v1 ⟨rfl, rfl⟩
          go_wp2_with fail
          refine (HGO2.out hle).mono ?_
          rintro e v2 ⟨rfl, hq⟩
          have hR2 := hq.1
          have hB2 := hq.2.below _ _ hB' hpw (by simp) hB'.size
          have HLB := Lib.hid (rd_lenAt hR2)
          clear hq
          go_wp2_with fail
          refine (bad_any v2 hR2).mono ?_
          rintro e v3 ⟨rfl, rfl⟩
          go_wp2_with fail
          exact ⟨⟨rfl, _, by rw [List.length_drop]; omega, hR2, hB2⟩, by rw [HLA.out, HLB.out, List.length_drop]; omega⟩
        · have hi : (bs'.length : Int) < (2 : Int) := by omega
          have HGB := Lib.hid (fun (u : World) (hu : RdO u p r bs' false) (_ : bs'.length ≤ 1000000000) => HGB.out u bs' hu (by omega) (by omega))
          clear HGO2
          go_wp2_with fail
          refine CL.out.mono ?_
          rintro e v0 ⟨rfl, rfl⟩
          go_wp2_with fail
          refine (HGB.out _ hR' (by omega)).mono ?_
          rintro e v1 ⟨rfl, hq1⟩
          have hR1 := hq1.1
          have hB1 := hq1.2.below _ _ hB' hpw (by simp) hB'.size
          clear hq1
          go_wp2_with fail
          refine (bad_any v1 hR1).mono ?_
          rintro e v2 ⟨rfl, rfl⟩
          go_wp2_with fail
          refine (get_bad 1 v1 hR1 (by omega) (.inr (.inl rfl))).mono ?_
          rintro e v2 ⟨rfl, hq2⟩
          have hR2 := hq2.1
          have hB2 := hq2.2.below _ _ hB1 hpw (by simp) hB1.size
          clear hq2 hR1 hB1
          go_wp2_with fail
          refine (rtext_bad v2 hR2 (by omega) (.inl rfl)).mono ?_
          rintro e v3 ⟨rfl, hq3⟩
          have hR3 := hq3.1
          have hB3 := hq3.2.below _ _ hB2 hpw (by simp) hB2.size
          clear hq3 hR2 hB2
          have CL := Lib.hid (left_any v3 hR3 (by omega))
          have CE := Lib.hid (end_any v3 hR3 (by omega))
          simp only [Bool.not_true, Bool.false_and, if_true] at CL CE
          go_wp2_with fail
          refine CL.out.mono ?_
          rintro e v4 ⟨rfl, rfl⟩
          go_wp2_with fail
          refine CE.out.mono ?_
          rintro e v4 ⟨rfl, rfl⟩
          go_wp2_with fail
          go_ret
          exact ⟨rfl, hB3⟩
    · go_wp2_with fail
      go_loopw [4] (fun u wr => u = .bool false ∧ ∃ bs' : List UInt8, bs'.length ≤ 300 ∧ RdO wr p r bs' false ∧ Below w.heap.size w wr) (fun u wr => lenAt p wr)
      case atStart => exact ⟨rfl, bs, HB.out, hR, hB6⟩
      case round =>
        obtain ⟨rfl, bs', hb', hR', hB'⟩ := hrel
        have CL := left_any wr hR' (by omega)
        simp only [Bool.false_eq_true, if_false] at CL
        have CL := Lib.hid CL
        have HLA := Lib.hid (rd_lenAt hR')
        have HGO2 := Lib.hid (HGO.out wr bs' hR' (by omega))
        by_cases hle : 4 ≤ bs'.length
        · have hi : (4 : Int) ≤ (bs'.length : Int) := by omega
          go_wp2_with fail
          refine CL.out.mono ?_
          rintro e v1 ⟨rfl, rfl⟩
          go_wp2_with fail
          refine (HGO2.out hle).mono ?_
          rintro e v2 ⟨rfl, hq⟩
          have hR2 := hq.1
          have hB2 := hq.2.below _ _ hB' hpw (by simp) hB'.size
          have HLB := Lib.hid (rd_lenAt hR2)
          clear hq
          go_wp2_with fail
          refine (bad_any v2 hR2).mono ?_
          rintro e v3 ⟨rfl, rfl⟩
          go_wp2_with fail
          exact ⟨⟨rfl, _, by rw [List.length_drop]; omega, hR2, hB2⟩, by rw [HLA.out, HLB.out, List.length_drop]; omega⟩
        · have hi : (bs'.length : Int) < (4 : Int) := by omega
          have HGB := Lib.hid (fun (u : World) (hu : RdO u p r bs' false) (_ : bs'.length ≤ 1000000000) => HGB.out u bs' hu (by omega) (by omega))
          clear HGO2
          go_wp2_with fail
          refine CL.out.mono ?_
          rintro e v0 ⟨rfl, rfl⟩
          go_wp2_with fail
          refine (HGB.out _ hR' (by omega)).mono ?_
          rintro e v1 ⟨rfl, hq1⟩
          have hR1 := hq1.1
          have hB1 := hq1.2.below _ _ hB' hpw (by simp) hB'.size
          clear hq1
          go_wp2_with fail
          refine (bad_any v1 hR1).mono ?_
          rintro e v2 ⟨rfl, rfl⟩
          go_wp2_with fail
          refine (get_bad 1 v1 hR1 (by omega) (.inr (.inl rfl))).mono ?_
          rintro e v2 ⟨rfl, hq2⟩
          have hR2 := hq2.1
          have hB2 := hq2.2.below _ _ hB1 hpw (by simp) hB1.size
          clear hq2 hR1 hB1
          go_wp2_with fail
          refine (rtext_bad v2 hR2 (by omega) (.inl rfl)).mono ?_
          rintro e v3 ⟨rfl, hq3⟩
          have hR3 := hq3.1
          have hB3 := hq3.2.below _ _ hB2 hpw (by simp) hB2.size
          clear hq3 hR2 hB2
          have CL := Lib.hid (left_any v3 hR3 (by omega))
          have CE := Lib.hid (end_any v3 hR3 (by omega))
          simp only [Bool.not_true, Bool.false_and, if_true] at CL CE
          go_wp2_with fail
          refine CL.out.mono ?_
          rintro e v4 ⟨rfl, rfl⟩
          go_wp2_with fail
          refine CE.out.mono ?_
          rintro e v4 ⟨rfl, rfl⟩
          go_wp2_with fail
          go_ret
          exact ⟨rfl, hB3⟩
    · go_wp2_with fail
      go_loopw [4] (fun u wr => u = .bool false ∧ ∃ bs' : List UInt8, bs'.length ≤ 300 ∧ RdO wr p r bs' false ∧ Below w.heap.size w wr) (fun u wr => lenAt p wr)
      case atStart => exact ⟨rfl, bs, HB.out, hR, hB6⟩
      case round =>
        obtain ⟨rfl, bs', hb', hR', hB'⟩ := hrel
        have CL := left_any wr hR' (by omega)
        simp only [Bool.false_eq_true, if_false] at CL
        have CL := Lib.hid CL
        have HLA := Lib.hid (rd_lenAt hR')
        have HGO2 := Lib.hid (HGO.out wr bs' hR' (by omega))
        by_cases hle : 8 ≤ bs'.length
        · have hi : (8 : Int) ≤ (bs'.length : Int) := by omega
          go_wp2_with fail
          refine CL.out.mono ?_
          rintro e v1 ⟨rfl, rfl⟩
          go_wp2_with fail
          refine (HGO2.out hle).mono ?_
          rintro e v2 ⟨rfl, hq⟩
          have hR2 := hq.1
          have hB2 := hq.2.below _ _ hB' hpw (by simp) hB'.size
          have HLB := Lib.hid (rd_lenAt hR2)
          clear hq
          go_wp2_with fail
          refine (bad_any v2 hR2).mono ?_
          rintro e v3 ⟨rfl, rfl⟩
          go_wp2_with fail
          exact ⟨⟨rfl, _, by rw [List.length_drop]; omega, hR2, hB2⟩, by rw [HLA.out, HLB.out, List.length_drop]; omega⟩
        · have hi : (bs'.length : Int) < (8 : Int) := by omega
          have HGB := Lib.hid (fun (u : World) (hu : RdO u p r bs' false) (_ : bs'.length ≤ 1000000000) => HGB.out u bs' hu (by omega) (by omega))
          clear HGO2
          go_wp2_with fail
          refine CL.out.mono ?_
          rintro e v0 ⟨rfl, rfl⟩
          go_wp2_with fail
          refine (HGB.out _ hR' (by omega)).mono ?_
          rintro e v1 ⟨rfl, hq1⟩
          have hR1 := hq1.1
          have hB1 := hq1.2.below _ _ hB' hpw (by simp) hB'.size
          clear hq1
          go_wp2_with fail
          refine (bad_any v1 hR1).mono ?_
          rintro e v2 ⟨rfl, rfl⟩
          go_wp2_with fail
          refine (get_bad 1 v1 hR1 (by omega) (.inr (.inl rfl))).mono ?_
          rintro e v2 ⟨rfl, hq2⟩
          have hR2 := hq2.1
          have hB2 := hq2.2.below _ _ hB1 hpw (by simp) hB1.size
          clear hq2 hR1 hB1
          go_wp2_with fail
          refine (rtext_bad v2 hR2 (by omega) (.inl rfl)).mono ?_
          rintro e v3 ⟨rfl, hq3⟩
          have hR3 := hq3.1
          have hB3 := hq3.2.below _ _ hB2 hpw (by simp) hB2.size
          clear hq3 hR2 hB2
          have CL := Lib.hid (left_any v3 hR3 (by omega))
          have CE := Lib.hid (end_any v3 hR3 (by omega))
          simp only [Bool.not_true, Bool.false_and, if_true] at CL CE
          go_wp2_with fail
          refine CL.out.mono ?_
          rintro e v4 ⟨rfl, rfl⟩
          go_wp2_with fail
          refine CE.out.mono ?_
          rintro e v4 ⟨rfl, rfl⟩
          go_wp2_with fail
          go_ret
          exact ⟨rfl, hB3⟩
  · have HGB := Lib.hid (fun (wr : World) (hR : RdO wr p r bs false) (hb : bs.length ≤ 1000000000) => get_bad m wr hR hb (.inl hm))
    have q1 : (m == 1) = false := by simp; exact fun e => hm (.inl e)
    have q2 : (m == 2) = false := by simp; exact fun e => hm (.inr (.inl e))
    have q3 : (m == 4) = false := by simp; exact fun e => hm (.inr (.inr (.inl e)))
    have q4 : (m == 8) = false := by simp; exact fun e => hm (.inr (.inr (.inr e)))
    have hb3 := HB.out
    clear hm
    go_wp2_with fail
    refine (HGB.out _ hR (by omega)).mono ?_
    rintro e v1 ⟨rfl, hq1⟩
    have hR1 := hq1.1
    have hB1 := hq1.2.below _ _ hB6 hpw (by simp) hB6.size
    clear hq1
    go_wp2_with fail
    refine (bad_any v1 hR1).mono ?_
    rintro e v2 ⟨rfl, rfl⟩
    go_wp2_with fail
    refine (get_bad 1 v1 hR1 (by omega) (.inr (.inl rfl))).mono ?_
    rintro e v2 ⟨rfl, hq2⟩
    have hR2 := hq2.1
    have hB2 := hq2.2.below _ _ hB1 hpw (by simp) hB1.size
    clear hq2 hR1 hB1
    go_wp2_with fail
    refine (rtext_bad v2 hR2 (by omega) (.inl rfl)).mono ?_
    rintro e v3 ⟨rfl, hq3⟩
    have hR3 := hq3.1
    have hB3 := hq3.2.below _ _ hB2 hpw (by simp) hB2.size
    clear hq3 hR2 hB2
    have CL := Lib.hid (left_any v3 hR3 (by omega))
    have CE := Lib.hid (end_any v3 hR3 (by omega))
    simp only [Bool.not_true, Bool.false_and, if_true] at CL CE
    go_wp2_with fail
    refine CL.out.mono ?_
    rintro e v4 ⟨rfl, rfl⟩
    go_wp2_with fail
    refine CE.out.mono ?_
    rintro e v4 ⟨rfl, rfl⟩
    go_wp2_with fail
    go_ret
    exact ⟨rfl, hB3⟩
theorem flat_one (l : List UInt8) : l.flatMap (fun b => [bv b]) = l.map bv := by
  induction l with
  | nil => rfl
  | cons a l ih => rw [List.flatMap_cons, ih]; rfl
theorem bytes_of {w : World} {A : Option Addr} {n c m : Nat} (h : Ok Try.prog w (m + 3) 64 (Value.slice A n c).cells.toList) :
    ∃ bs : List UInt8, bs.length = n ∧ Sl w 1 (.slice A n c) n (bs.map bv) := by
  have hcs : Try.prog.cellsOf 5 = 1 := by kernel_rfl
  obtain ⟨v, m', xs, e1, hS, hm, hel⟩ := ok_slice Try.underlying64 h (by omega)
  rw [hcs] at hS hel
  have e2 : v = .slice A n c := by simp [Value.cells] at e1; exact e1.symm
  subst e2
  obtain ⟨rfl, _, _, hl, _⟩ := hS.parts
  obtain ⟨l, h1, h2, _⟩ := rows_of (s := 1) (fun b : UInt8 => [bv b]) (fun _ => True) _ xs hl (fun i hi => by
    obtain ⟨z0, e0, w0⟩ := ok_int Try.underlying5 (hel i hi)
    have b2 : 0 ≤ z0 ∧ z0 ≤ 255 := by
      simp [Lit.wf, IntKind.min, IntKind.max, IntKind.signed, IntKind.bits] at w0
      omega
    obtain ⟨y, rfl⟩ := Int.eq_ofNat_of_zero_le b2.1
    refine ⟨UInt8.ofNat y, ?_, trivial⟩
    rw [e0]
    have : (UInt8.ofNat y).toNat = y := by simp; omega
    simp [bv, this])
  refine ⟨l, h1, ?_⟩
  rw [h2] at hS
  rw [flat_one] at hS
  exact hS
theorem octetBad_walk (A : Option Addr) (n c : Nat) (m : Int) (w : World) (h : Ok Try.prog w 9 64 (Value.slice A n c).cells.toList) (_ : (Lit.int .i64 m).wf = true) :
    Calls Try.prog 9 #[.slice A n c, .int .i64 m] w fun e w' => e = .returned (.bool true) ∧ Below w.heap.size w w' := by
  obtain ⟨bs, hx, hS⟩ := bytes_of (m := 6) h
  rcases Nat.lt_or_ge 300 n with hn | hn
  · exact octetBad_long A n c m hn w
  · subst hx
    exact octetBad_ok A c bs m hn w hS
end Go.Proofs.Ytilmmmokobhnfaa
