/-
  Contracts of package trend's abs and less. Conditions: those named in each.
-/
import Derived.Test.YtalmhnimmhgloaaTr4
import Derived.Laws.Bits64
namespace Go.Proofs.Ytalmhnimmhgloaa
open Go.RowKit Go.Proofs.Mem LineLaw
set_option linter.unusedVariables false
set_option linter.unusedSimpArgs false
theorem abs_any (x : Int) (w : World) (h0 : -4611686018427387904 ≤ x) (h1 : x ≤ 4611686018427387904) :
    Calls Try.prog 71 #[.int .i64 x] w fun e w' => e = .returned (.int .u64 (x.natAbs : Nat)) ∧ w = w' := by
  rcases Int.lt_or_le x 0 with h | h
  · have e : ((x.natAbs : Nat) : Int) = -x := by omega
    rw [e]
    have q1 : 0 ≤ -x := by omega
    have q2 : -x ≤ 4611686018427387904 := by omega
    go_enter Try.func71, Try.ntmps71
    go_wp2_with fail
    go_ret
    exact ⟨rfl, rfl⟩
  · have e : ((x.natAbs : Nat) : Int) = x := by omega
    rw [e]
    go_enter Try.func71, Try.ntmps71
    go_wp2_with fail
    go_ret
    exact ⟨rfl, rfl⟩
theorem xor_ones (b : Nat) (hb : b < 18446744073709551616) : 18446744073709551615 ^^^ b = 18446744073709551615 - b := by
  have h := BitVec.toNat_not (x := BitVec.ofNat 64 b)
  rw [BitVec.not_def, BitVec.toNat_xor, BitVec.toNat_allOnes, BitVec.toNat_ofNat, Nat.mod_eq_of_lt (by simpa using hb)] at h
  simpa using h
theorem not_u64 (b : Nat) (hb : b < 18446744073709551616) : bits BinOp.xor IntKind.u64 IntKind.u64.max (b : Int) = ((18446744073709551615 - b : Nat) : Int) := by
  have h := bits_xor_u64_nat 18446744073709551615 b (by omega) hb
  rw [xor_ones b hb] at h
  exact h
set_option maxHeartbeats 1000000 in
set_option maxRecDepth 100000 in
theorem less_any (ah al bh bl : Nat) (w : World) (h1 : ah < 18446744073709551616) (h2 : al < 18446744073709551616) (h3 : bh < 18446744073709551616) (h4 : bl < 18446744073709551616) :
    Calls Try.prog 72 #[.agg #[.int .u64 ah, .int .u64 al], .agg #[.int .u64 bh, .int .u64 bl]] w (WideIs ((ah * 18446744073709551616 + al) - (bh * 18446744073709551616 + bl)) w) := by
  obtain ⟨cz, hcz⟩ : ∃ cz, cz = cmpZ (ah * 18446744073709551616 + al) (bh * 18446744073709551616 + bl) := ⟨_, rfl⟩
  have CC := Lib.hid (fun w1 => wcmp_any ah al bh bl w1 h2 h4)
  rw [← hcz] at CC
  by_cases hlt : bh * 18446744073709551616 + bl < ah * 18446744073709551616 + al
  · have hc1 : cz = 1 := by rw [hcz]; unfold cmpZ; rw [if_pos hlt]
    clear hcz
    subst hc1
    have H4 := Lib.hid (And.intro h1 (And.intro h2 (And.intro h3 (And.intro h4 hlt))))
    clear h1 h2 h3 h4 hlt
    go_enter Try.func72, Try.ntmps72
    go_wp2_with fail
    obtain ⟨W3, hW3⟩ : ∃ W3, W3 = ((w.alloc (.cells #[.int .u64 ah, .int .u64 al] 118)).alloc (.cells #[.int .u64 bh, .int .u64 bl] 118)).alloc (.cells #[.int .u64 0, .int .u64 0] 118) := ⟨_, rfl⟩
    rw [← hW3]
    have kA : Bk W3 w.heap.size 118 #[.int .u64 ah, .int .u64 al] := by rw [hW3]; exact ((Bk.new w _ _).alloc _).alloc _
    have kB : Bk W3 (w.heap.size + 1) 118 #[.int .u64 bh, .int .u64 bl] := by
      rw [hW3]
      have := Bk.new (w.alloc (.cells #[.int .u64 ah, .int .u64 al] 118)) 118 #[.int .u64 bh, .int .u64 bl]
      rw [World.size_alloc] at this
      exact this.alloc _
    have kC : Bk W3 (w.heap.size + 1 + 1) 118 #[.int .u64 0, .int .u64 0] := by
      rw [hW3]
      have := Bk.new ((w.alloc (.cells #[.int .u64 ah, .int .u64 al] 118)).alloc (.cells #[.int .u64 bh, .int .u64 bl] 118)) 118 #[.int .u64 0, .int .u64 0]
      rw [World.size_alloc, World.size_alloc] at this
      exact this
    have hB3 : Below w.heap.size w W3 := by rw [hW3]; exact ((below_al _ _).alloc (by simp) _).alloc (by simp; omega) _
    clear hW3
    refine (CC.out _).mono ?_
    rintro e w1 ⟨rfl, hb1⟩
    have kA1 := kA.below' hb1
    have kB1 := kB.below' hb1
    have kC1 := kC.below' hb1
    have hB1 := hB3.trans (hb1.mono hB3.size)
    have a0 := kA1.cell 0
    have a1 := kA1.cell 1
    have b0 := kB1.cell 0
    have b1 := kB1.cell 1
    clear kA kB kC hb1 hB3
    go_wp2_with fail
    rw [not_u64 bh H4.out.2.2.1, not_u64 bl H4.out.2.2.2.1]
    refine (wadd_any ah al _ _ w1 H4.out.1 H4.out.2.1 (by omega) (by omega)).mono ?_
    rintro e w2 ⟨h, l, c, rfl, hN, hh, hl, hc, hb2⟩
    have HS : Hid (c = 1 ∧ ah * 18446744073709551616 + al - (bh * 18446744073709551616 + bl) = h * 18446744073709551616 + l + 1) := Lib.hid (by have := H4.out; omega)
    clear hN
    have hB2 := hB1.trans (hb2.mono hB1.size)
    have kC2 := kC1.below' hb2
    clear kA1 kB1 kC1 a0 a1 b0 b1 hb2 hB1
    go_wp2_with fail
    have kD := Bk.new w2 118 #[.int .u64 h, .int .u64 l]
    have kC3 := kC2.alloc (.cells #[.int .u64 h, .int .u64 l] 118)
    have hB3 := hB2.alloc hB2.size (.cells #[.int .u64 h, .int .u64 l] 118)
    have hcd : w.heap.size + 1 + 1 < w2.heap.size := kC2.lt
    generalize w2.alloc (.cells #[.int .u64 h, .int .u64 l] 118) = w3 at kD kC3 hB3 ⊢
    clear kC2 hB2
    refine (wadd_one h l w3 hh hl).mono ?_
    rintro e w4 ⟨h', l', c', rfl, hN', hh', hl', hc', hb4⟩
    have HS2 : Hid (ah * 18446744073709551616 + al - (bh * 18446744073709551616 + bl) = h' * 18446744073709551616 + l') := Lib.hid (by have := H4.out; have := HS.out; omega)
    have HR := Lib.hid (And.intro hh' hl')
    clear hN' hh hl hh' hl' HS CC
    have hB4 := hB3.trans (hb4.mono hB3.size)
    have kD4 := kD.below' hb4
    have kC4 := kC3.below' hb4
    clear kD kC3 hB3 hb4
    have d0 := kD4.cell 0
    have d1 := kD4.cell 1
    have fd0 := kD4.frozen 0
    have fd1 := kD4.frozen 1
    have c0 := kC4.cell 0
    have c1 := kC4.cell 1
    have f0 := kC4.frozen 0
    have f1 := kC4.frozen 1
    have hne : ¬ w.heap.size + 1 + 1 = w2.heap.size := by omega
    have hne2 : ¬ w2.heap.size = w.heap.size + 1 + 1 := by omega
    generalize w2.heap.size = D at *
    go_wp2_with fail
    refine bodyPost_ret (v := .agg #[.int .u64 h', .int .u64 l']) (by simp [results, Try.results72, go_sem, c0, c1, hne, hne2]) rfl ⟨h', l', rfl, HS2.out, HR.out.1, HR.out.2, (((hB4.setCell (by simp; omega) _).setCell (by simp; omega) _).setCell (by simp; omega) _).setCell (by simp; omega) _⟩
  · have hc1 : cz ≤ 0 := by rw [hcz]; unfold cmpZ; rw [if_neg hlt]; split <;> omega
    have hz : ah * 18446744073709551616 + al - (bh * 18446744073709551616 + bl) = 0 := by omega
    have HZ := Lib.hid hz
    clear hcz hlt h1 h2 h3 h4 hz
    go_enter Try.func72, Try.ntmps72
    go_wp2_with fail
    obtain ⟨W3, hW3⟩ : ∃ W3, W3 = ((w.alloc (.cells #[.int .u64 ah, .int .u64 al] 118)).alloc (.cells #[.int .u64 bh, .int .u64 bl] 118)).alloc (.cells #[.int .u64 0, .int .u64 0] 118) := ⟨_, rfl⟩
    rw [← hW3]
    have kA : Bk W3 w.heap.size 118 #[.int .u64 ah, .int .u64 al] := by rw [hW3]; exact ((Bk.new w _ _).alloc _).alloc _
    have kB : Bk W3 (w.heap.size + 1) 118 #[.int .u64 bh, .int .u64 bl] := by
      rw [hW3]
      have := Bk.new (w.alloc (.cells #[.int .u64 ah, .int .u64 al] 118)) 118 #[.int .u64 bh, .int .u64 bl]
      rw [World.size_alloc] at this
      exact this.alloc _
    have kC : Bk W3 (w.heap.size + 1 + 1) 118 #[.int .u64 0, .int .u64 0] := by
      rw [hW3]
      have := Bk.new ((w.alloc (.cells #[.int .u64 ah, .int .u64 al] 118)).alloc (.cells #[.int .u64 bh, .int .u64 bl] 118)) 118 #[.int .u64 0, .int .u64 0]
      rw [World.size_alloc, World.size_alloc] at this
      exact this
    have hB3 : Below w.heap.size w W3 := by rw [hW3]; exact ((below_al _ _).alloc (by simp) _).alloc (by simp; omega) _
    clear hW3
    refine (CC.out _).mono ?_
    rintro e w1 ⟨rfl, hb1⟩
    have kC1 := kC.below' hb1
    have hB1 := hB3.trans (hb1.mono hB3.size)
    have c0 := kC1.cell 0
    have c1 := kC1.cell 1
    have f0 := kC1.frozen 0
    have f1 := kC1.frozen 1
    clear kA kB kC hb1 hB3
    go_wp2_with fail
    refine bodyPost_ret (v := .agg #[.int .u64 0, .int .u64 0]) (by simp [results, Try.results72, go_sem, c0, c1]) rfl ⟨0, 0, rfl, by rw [HZ.out], by omega, by omega, (hB1.setCell (by simp; omega) _).setCell (by simp; omega) _⟩
end Go.Proofs.Ytalmhnimmhgloaa
