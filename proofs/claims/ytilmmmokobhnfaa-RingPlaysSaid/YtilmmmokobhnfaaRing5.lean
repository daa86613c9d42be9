/-
  The walk of package ring's Cut, at ints.
-/
import Derived.Test.YtilmmmokobhnfaaRing4
namespace Go.Proofs.Ytilmmmokobhnfaa
open Go.RowKit Go.Proofs.Mem
set_option linter.unusedVariables false
set_option linter.unusedSimpArgs false
theorem dw_eq {α : Type} (p : α → Bool) : ∀ (L : List α) (k : Nat), k ≤ L.length → (∀ y ∈ L.take k, p y = true) → (∀ y, L[k]? = some y → p y = false) → (L.takeWhile p).length = k ∧ L.dropWhile p = L.drop k
  | [], k, hk, _, _ => by simp at hk; subst hk; simp
  | x :: L, 0, _, _, h => by
    have := h x rfl
    simp [List.takeWhile, List.dropWhile, this]
  | x :: L, k + 1, hk, h1, h2 => by
    have hx : p x = true := h1 x (by simp)
    obtain ⟨e1, e2⟩ := dw_eq p L k (by simpa using hk) (fun y hy => h1 y (by simp [hy])) (fun y hy => h2 y (by simpa using hy))
    simp [List.takeWhile, List.dropWhile, hx, e1, e2]
set_option maxHeartbeats 2000000 in
set_option maxRecDepth 100000 in
theorem cutI_any {p q f n : Nat} {zs : List (Int × Int)} (t : Int) (w : World) (h : RingI w p q zs f n) :
    Calls Try.prog 39 #[.pointer (some ⟨p, 0, none⟩), .int .i64 t] w fun e w' => e = .returned (.int .i64 (((lst zs f n).takeWhile fun y => decide (y.1 < t)).length : Nat)) ∧ (∃ zs' f' n', RingI w' p q zs' f' n' ∧ zs'.length = zs.length ∧ lst zs' f' n' = (lst zs f n).dropWhile fun y => decide (y.1 < t)) ∧ RTouch p q w w' := by
  obtain ⟨L, hL⟩ : ∃ L, L = lst zs f n := ⟨_, rfl⟩
  rw [← hL]
  have h0 : 0 < zs.length := Nat.lt_of_le_of_lt (Nat.zero_le _) h.hf
  have hLl : L.length ≤ 32 := by rw [hL, lst_length zs f n h0]; have := h.hn; have := h.hl; omega
  have hst : ∃ Z F M, RingI w p q Z F M ∧ Z.length = zs.length ∧ lst Z F M = L.drop 0 := ⟨_, _, _, h, rfl, by rw [hL]; rfl⟩
  have HL := Lib.hid hLl
  clear h hL hLl
  go_enter Try.func39, Try.ntmps39
  go_wp2_with fail
  go_loopw [5] (fun i wr => ∃ k : Nat, i = .int .i64 k ∧ k ≤ L.length ∧ (∃ Z F M, RingI wr p q Z F M ∧ Z.length = zs.length ∧ lst Z F M = L.drop k) ∧ Hid (∀ y ∈ L.take k, decide (y.1 < t) = true) ∧ RTouch p q w wr) (fun i wr => L.length - (intOf i).toNat)
  case atStart => exact ⟨0, rfl, Nat.zero_le _, hst, Lib.hid (by simp), RTouch.refl _ _ _⟩
  case round =>
    obtain ⟨k, rfl, hkL, ⟨Z, F, M, hR, hZl, hlst⟩, hall, hT⟩ := hrel
    have hZ0 : 0 < Z.length := by omega
    have hM : M = L.length - k := by
      have := lst_length Z F M hZ0
      rw [hlst, List.length_drop] at this
      exact this.symm
    have CL := Lib.hid (fun w1 (hb : Below wr.heap.size wr w1) => (lenI_any w1 (hR.below hb)).mono (R' := fun e w' => e = .returned (.int .i64 M) ∧ Below w1.heap.size w1 w') (fun e w' ⟨h1, h2⟩ => ⟨h1, by subst h2; exact Below.refl _ _⟩))
    have b0 : (M : Int) ≤ 32 := by have := HL.out; omega
    have b1 : (k : Int) ≤ 32 := by have := HL.out; omega
    have hMn : M = 0 ∨ (0 < M ∧ (decide ((0 : Int) < (M : Int))) = true) := by
      rcases Nat.eq_zero_or_pos M with e | e
      · exact .inl e
      · exact .inr ⟨e, by simp; omega⟩
    rcases hMn with hM0 | ⟨hM1, hM2⟩
    · have hkk : k = L.length := by omega
      have hfin := dw_eq (fun y : Int × Int => decide (y.1 < t)) L k hkL hall.out (fun y hy => by rw [List.getElem?_eq_none (by omega)] at hy; cases hy)
      have HFI := Lib.hid hfin
      have HZZ := Lib.hid hlst
      clear hfin hkk hM hst hall hlst
      subst hM0
      go_wp2_with fail
      refine wp_region_quiet_below (by kernel_rfl) (by kernel_rfl) ?_
      repeat (go_big_quiet_step (first
        | (go_at_call 44; (with_reducible exact Calls.regrown_of (CL.out _ (below_regrown _ _ _))))))
      refine q_done fun W1 hBz => ?_
      go_wp2_with fail
      go_ret
      exact ⟨by rw [HFI.out.1]; rfl, ⟨Z, F, 0, hR.below hBz, hZl, by rw [HZZ.out, HFI.out.2]⟩, hT.trans (RTouch.of_below hBz)⟩
    · have hFl := hR.hf
      obtain ⟨c, hcc, d0⟩ := hR.c0
      have d1 := hR.c1
      have y0 := hR.z0 F hFl
      have hhead : L[k]? = some Z[F] := by
        have e := lst_get Z F M 0 hZ0 hM1
        have e2 : (lst Z F M)[0]? = some Z[F] := by
          rw [List.getElem?_eq_getElem (by rw [lst_length Z F M hZ0]; exact hM1), e]
          simp [Nat.mod_eq_of_lt hFl]
        rw [hlst, List.getElem?_drop] at e2
        simpa using e2
      have CD := Lib.hid (fun w1 (hb : Below wr.heap.size wr w1) => dropI_any w1 (hR.below hb) hM1)
      have hadd : (⟨q, 0, none⟩ : Addr).add (F * 2) = ⟨q, F * 2, none⟩ := by rw [add_lit]; simp
      have d0r := fun d os => cell_regrown d0 d os
      have d1r := fun d os => cell_regrown d1 d os
      have y0r := fun d os => cell_regrown y0 d os
      have hkL1 : k + 1 ≤ L.length := by omega
      have hlst2 : Hid (lst (Z.set F (0, 0)) ((F + 1) % Z.length) (M - 1) = L.drop (k + 1)) := Lib.hid (by
        rw [lst_drop Z F M (0, 0) hFl hR.hn hM1, hlst, List.drop_drop])
      have hwr : IntKind.i64.wrap ((k : Int) + 1) = (k : Int) + 1 := by simp [IntKind.wrap, IntKind.signed, IntKind.bits]; omega
      generalize hx : Z[F] = x at y0 y0r hhead
      obtain ⟨xa, xv⟩ := x
      have HX := Lib.hid hx
      have HH := Lib.hid hhead
      have HZL := Lib.hid hZl
      have HLS := Lib.hid hlst
      obtain ⟨N, hN⟩ : ∃ N, N = Z.length := ⟨_, rfl⟩
      rw [← hN] at d0 d0r hcc hFl
      have b3 : (F : Int) ≤ 32 := by have := hR.hl; omega
      simp only at y0 y0r
      clear hx hhead hM hst d0 d1 y0 hN hZl hlst hZ0
      by_cases hxt : xa < t
      · have hdec : decide (xa < t) = true := by simpa using hxt
        have hall2 : Hid (∀ y ∈ L.take (k + 1), decide (y.1 < t) = true) := Lib.hid (by
          intro y hy
          rw [List.take_add_one, HH.out] at hy
          rcases List.mem_append.1 hy with hy | hy
          · exact hall.out y hy
          · simp at hy; subst hy; exact hdec)
        clear hall
        go_wp2_with fail
        refine wp_region_quiet_below (by kernel_rfl) (by kernel_rfl) ?_
        repeat (go_big_quiet_step (first
          | (go_at_call 44; (with_reducible exact Calls.regrown_of (CL.out _ (below_regrown _ _ _))))))
        refine q_done fun W1 hBz => ?_
        go_wp2_with fail
        refine (CD.out _ hBz).mono ?_
        rintro e w2 ⟨rfl, hR2, hT2⟩
        go_wp2_with fail
        exact ⟨⟨k + 1, by go_num, hkL1, ⟨_, _, _, hR2, by rw [List.length_set]; exact HZL.out, hlst2.out⟩, hall2, (hT.trans (RTouch.of_below hBz)).trans hT2⟩, by simp [intOf]; omega⟩
      · have hdec : decide (xa < t) = false := by simpa using hxt
        have hfin := dw_eq (fun y : Int × Int => decide (y.1 < t)) L k hkL hall.out (fun y hy => by
          rw [HH.out] at hy
          injection hy with hy
          subst hy
          exact hdec)
        have HFI := Lib.hid hfin
        clear hfin hall hlst2
        go_wp2_with fail
        refine wp_region_quiet_below (by kernel_rfl) (by kernel_rfl) ?_
        repeat (go_big_quiet_step (first
          | (go_at_call 44; (with_reducible exact Calls.regrown_of (CL.out _ (below_regrown _ _ _))))))
        refine q_done fun W1 hBz => ?_
        go_wp2_with fail
        go_ret
        exact ⟨by rw [HFI.out.1]; rfl, ⟨Z, F, M, hR.below hBz, HZL.out, by rw [HLS.out, HFI.out.2]⟩, hT.trans (RTouch.of_below hBz)⟩
end Go.Proofs.Ytilmmmokobhnfaa
