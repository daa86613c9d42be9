/-
  The contract of package trend's When. Conditions: those named in each.
-/
import Derived.Test.YtalmhnimmhgloaaTr7
namespace Go.Proofs.Ytalmhnimmhgloaa
open Go.RowKit Go.Proofs.Mem Go.Sort LineLaw
set_option linter.unusedVariables false
set_option linter.unusedSimpArgs false
/-- What When says: the first tick from the last sample's on, or none. -/
def WhenIs (a : S) (f z m : Int) (w : World) (e : Ending) (w' : World) : Prop :=
  ((∃ k : Nat, e = .returned (.tuple #[.int .i64 (z + k), .bool true]) ∧ (z - f) + k ≤ 131072 ∧ m ≤ fc a (z - f + k) ∧ ∀ j : Nat, j + 1 = k → fc a (z - f + j) < m) ∨ (e = .returned (.tuple #[.int .i64 0, .bool false]) ∧ fc a (z - f) < m ∧ fc a 131072 < m)) ∧ Below w.heap.size w w'
set_option maxHeartbeats 2000000 in
set_option maxRecDepth 100000 in
theorem when_any (a : S) (f z m : Int) (w : World) (g : LineLaw.Good a) (f0 : 0 ≤ f) (f1 : f ≤ z) (z0 : z - f ≤ 65536) (z1 : z ≤ 4611686018427387904) :
    Calls Try.prog 27 #[lineOf a f z, .int .i64 m] w (WhenIs a f z m w) := by
  have hD := fun (h : a.over ≤ 0) => fc_down g h (show z - f ≤ 131072 by omega)
  have G := Lib.hid g
  obtain ⟨n1, n2, _⟩ := g
  have hn : (a.n == 0) = false := by simp; omega
  have CA : Hid (∀ w1, Calls Try.prog 47 #[.agg #[.int .i64 a.n, .int .i64 f, .int .i64 z, .int .i64 a.x, .int .i64 a.y, .int .i64 a.over, .int .i64 a.under], .int .i64 (z - f)] w1 fun e w' => e = .returned (.int .i64 (fc a (z - f))) ∧ Below w1.heap.size w1 w') := Lib.hid (fun w1 => fat_any a f z (z - f) w1 G.out (by omega) (by omega))
  have CS := Lib.hid (fun (n : Nat) (p q r : Nat) (w1 : World) hp hq hr hql hrl h1 => search_any a f z m (z - f) n p q r w1 G.out hp hq hr hql hrl (by omega) h1)
  have HD := Lib.hid hD
  clear hD
  unfold lineOf lineV
  obtain ⟨fr, hfr⟩ : ∃ fr, fr = z - f := ⟨_, rfl⟩
  unfold WhenIs
  rw [← hfr] at CA CS HD ⊢
  have efr := hfr.symm
  have fr0 : 0 ≤ fr := by omega
  have fr1 : fr ≤ 65536 := by omega
  have FIN : Hid (∀ (k : Nat) w', fr + k ≤ 131072 → m ≤ fc a (fr + k) → (∀ j : Nat, j + 1 = k → fc a (fr + j) < m) → Below w.heap.size w w' → ((∃ k' : Nat, Ending.returned (.tuple #[.int .i64 (z + k), .bool true]) = .returned (.tuple #[.int .i64 (z + k'), .bool true]) ∧ fr + k' ≤ 131072 ∧ m ≤ fc a (fr + k') ∧ ∀ j : Nat, j + 1 = k' → fc a (fr + j) < m) ∨ (Ending.returned (.tuple #[.int .i64 (z + k), .bool true]) = .returned (.tuple #[.int .i64 0, .bool false]) ∧ fc a fr < m ∧ fc a 131072 < m)) ∧ Below w.heap.size w w') := Lib.hid fun k w' h1 h2 h3 hb => ⟨.inl ⟨k, rfl, h1, h2, h3⟩, hb⟩
  clear hfr
  generalize hov : a.over = ov at *
  generalize a.n = n at *
  generalize a.x = x at *
  generalize a.y = y at *
  generalize a.under = un at *
  clear hov
  go_enter Try.func27, Try.ntmps27
  go_wp2_with fail
  obtain ⟨W3, hW3⟩ : ∃ W3, W3 = ((w.alloc (.cells #[.int .i64 n, .int .i64 f, .int .i64 z, .int .i64 x, .int .i64 y, .int .i64 ov, .int .i64 un] 65)).alloc (.cells #[.int .i64 m] 46)).alloc (.cells #[.int .i64 fr] 2) := ⟨_, rfl⟩
  rw [← hW3]
  have kF : Bk W3 w.heap.size 65 #[.int .i64 n, .int .i64 f, .int .i64 z, .int .i64 x, .int .i64 y, .int .i64 ov, .int .i64 un] := by rw [hW3]; exact ((Bk.new w _ _).alloc _).alloc _
  have kM : Bk W3 (w.heap.size + 1) 46 #[.int .i64 m] := by
    rw [hW3]
    have := Bk.new (w.alloc (.cells #[.int .i64 n, .int .i64 f, .int .i64 z, .int .i64 x, .int .i64 y, .int .i64 ov, .int .i64 un] 65)) 46 #[.int .i64 m]
    rw [World.size_alloc] at this
    exact this.alloc _
  have kQ : Bk W3 (w.heap.size + 1 + 1) 2 #[.int .i64 fr] := by
    rw [hW3]
    have := Bk.new ((w.alloc (.cells #[.int .i64 n, .int .i64 f, .int .i64 z, .int .i64 x, .int .i64 y, .int .i64 ov, .int .i64 un] 65)).alloc (.cells #[.int .i64 m] 46)) 2 #[.int .i64 fr]
    rw [World.size_alloc, World.size_alloc] at this
    exact this
  have hB3 : Below w.heap.size w W3 := by rw [hW3]; exact ((below_al _ _).alloc (by simp) _).alloc (by simp; omega) _
  clear hW3
  have zq := fun a b => cell_regrown (kQ.cell 0) a b
  have zr := fun a b => cell_regrown (kM.cell 0) a b
  have HF := Lib.hid Try.underlying65
  obtain ⟨R, hR⟩ : ∃ R, R = fc a fr := ⟨_, rfl⟩
  rw [← hR] at CA
  have HR := Lib.hid hR
  clear hR
  refine wp_region_quiet_below (by kernel_rfl) (by kernel_rfl) ?_
  refine q_load kF rfl 65 (.tmp 2) rfl rfl _ HF.out rfl (by kernel_rfl) ?_
  repeat (quiet_step ((go_at_call 47; (with_reducible exact Calls.regrown_of (CA.out _)))))
  refine q_done fun W4 hBz => ?_
  have kF4 := kF.below' hBz
  have kM4 := kM.below' hBz
  have kQ4 := kQ.below' hBz
  have hB4 := hB3.trans (hBz.mono hB3.size)
  clear kF kM kQ hB3 hBz zq zr
  have c1 := kF4.cell 1
  have c2 := kF4.cell 2
  have c5 := kF4.cell 5
  have q0 := kQ4.cell 0
  rcases Int.lt_or_le R m with hlt | hge
  · rcases Int.lt_or_le 0 ov with ho | ho
    · obtain ⟨n', hn'⟩ : ∃ n' : Nat, (n' : Int) = 131072 - fr + 1 := ⟨(131072 - fr + 1).toNat, by omega⟩
      have e1 := hn'.symm
      have hm1 : 131072 - fr = (n' : Int) - 1 := by omega
      have CSS := Lib.hid (CS.out n' w.heap.size (w.heap.size + 1 + 1) (w.heap.size + 1) W4 kF4 (kQ4.cell 0) (kM4.cell 0) kQ4.lt kM4.lt (by omega))
      have HN := Lib.hid hn'
      clear hn' CS hm1
      go_wp2_with fail
      refine CSS.out.mono ?_
      rintro e w5 ⟨⟨k, rfl, hkn, hk1, hk2⟩, hb5⟩
      have hB5 := hB4.trans (hb5.mono hB4.size)
      have kF5 := kF4.below' hb5
      have d2 := kF5.cell 2
      have HK := Lib.hid (And.intro hk1 hk2)
      clear hk1 hk2 CSS hb5 c1 c2 c5 q0
      have hn2 : (n' : Int) ≤ 131073 := by have := HN.out; omega
      rcases Nat.lt_or_ge k n' with hk | hk
      · have hkI : ¬ (n' : Int) - 1 < (k : Int) := by omega
        have hkI2 : (k : Int) ≤ (n' : Int) - 1 := by omega
        have ek : (131072 - fr) = (n' : Int) - 1 := by have := HN.out; omega
        have hY := Lib.hid (FIN.out k w5 (by have := HN.out; omega) (HK.out.1 hk) HK.out.2 hB5)
        have hk3 : (k : Int) ≤ 131072 - fr := by omega
        clear ek hkI hkI2
        go_wp2_with fail
        go_ret2
        exact hY.out
      · obtain rfl : k = n' := by omega
        have hend : Hid (fc a fr < m ∧ fc a 131072 < m) := Lib.hid (by
          have h1 := HK.out.2 (k - 1) (by have := HN.out; omega)
          have e : fr + ((k - 1 : Nat) : Int) = 131072 := by have := HN.out; omega
          rw [e] at h1
          have := HR.out
          omega)
        have hk3 : 131072 - fr < (k : Int) := by have := HN.out; omega
        go_wp2_with fail
        go_ret2
        exact ⟨.inr ⟨rfl, hend.out.1, hend.out.2⟩, hB5⟩
    · have hend : Hid (fc a fr < m ∧ fc a 131072 < m) := Lib.hid (by have := HD.out ho; have := HR.out; omega)
      go_wp2_with fail
      go_ret2
      exact ⟨.inr ⟨rfl, hend.out.1, hend.out.2⟩, hB4⟩
  · have hY := Lib.hid (FIN.out 0 W4 (by omega) (by have := HR.out; simpa using by omega) (fun j hj => by omega) hB4)
    go_wp2_with fail
    go_ret2
    have := hY.out
    simp only [Int.natCast_zero, Int.add_zero] at this
    simpa using this
end Go.Proofs.Ytalmhnimmhgloaa
