/-
  The walk of valid.Clone and valid.Default of an object all of whose slices are nil.
-/
import Derived.Test.YtibekpfffimojaaBig
import Derived.Test.YtibekpfffimojaaTail2
import Derived.BigRegion
import Derived.Lib.SliceRun
import Derived.WalkSpells
import Derived.Deep.DeepCutAuto
namespace Go.Proofs.Ytibekpfffimojaa
open Go.RowKit Go.Proofs.Mem
set_option linter.unusedVariables false
set_option linter.unusedSimpArgs false
def sAt : List Nat := [6, 7, 8, 16, 17, 18, 23, 24, 32, 33, 38, 42, 45, 46]
/-- All slices are nil. -/
def AllNil (L : Array Value) : Prop := Is47 L ∧ ∀ i ∈ sAt, L[i]? = some (.slice none 0 0)
theorem Bk.same {w : World} {g : Nat} {t : TypeId} {L : Array Value} {i : Nat} {u : Value} (h : Bk w g t L) (hi : L[i]? = some u) : Bk (w.setCell ⟨g, i, none⟩ u) g t L := by
  have h1 := h.set i u
  have h2 : L.setIfInBounds i u = L := by
    obtain ⟨h3, h4⟩ := Array.getElem?_eq_some_iff.1 hi
    rw [Array.setIfInBounds, dif_pos h3, ← h4]
    simp
  rwa [h2] at h1
set_option maxRecDepth 100000 in
theorem clone_nil_lab (w : World) : Calls Try.prog 36 #[.slice none 0 0] w fun e w' => e = .returned (.slice none 0 0) ∧ w' = w := by
  have hnil := fun (w : World) (a : Option Addr) (n c : Nat) => Lib.run_eql_slice_nil (P := Try.prog) w _ _ a n c 0 0 Try.underlying26
  go_enter Try.func36, Try.ntmps36
  go_wp2_with fail
  go_ret
  exact ⟨rfl, rfl⟩
set_option maxRecDepth 100000 in
theorem clone_nil_req (w : World) : Calls Try.prog 37 #[.slice none 0 0] w fun e w' => e = .returned (.slice none 0 0) ∧ w' = w := by
  have hnil := fun (w : World) (a : Option Addr) (n c : Nat) => Lib.run_eql_slice_nil (P := Try.prog) w _ _ a n c 0 0 Try.underlying27
  go_enter Try.func37, Try.ntmps37
  go_wp2_with fail
  go_ret
  exact ⟨rfl, rfl⟩
set_option maxRecDepth 100000 in
theorem clone_nil_met (w : World) : Calls Try.prog 38 #[.slice none 0 0] w fun e w' => e = .returned (.slice none 0 0) ∧ w' = w := by
  have hnil := fun (w : World) (a : Option Addr) (n c : Nat) => Lib.run_eql_slice_nil (P := Try.prog) w _ _ a n c 0 0 Try.underlying36
  go_enter Try.func38, Try.ntmps38
  go_wp2_with fail
  go_ret
  exact ⟨rfl, rfl⟩
set_option maxRecDepth 100000 in
theorem clone_nil_pol (w : World) : Calls Try.prog 39 #[.slice none 0 0] w fun e w' => e = .returned (.slice none 0 0) ∧ w' = w := by
  have hnil := fun (w : World) (a : Option Addr) (n c : Nat) => Lib.run_eql_slice_nil (P := Try.prog) w _ _ a n c 0 0 Try.underlying37
  go_enter Try.func39, Try.ntmps39
  go_wp2_with fail
  go_ret
  exact ⟨rfl, rfl⟩
set_option maxRecDepth 100000 in
theorem clone_nil_sca (w : World) : Calls Try.prog 40 #[.slice none 0 0] w fun e w' => e = .returned (.slice none 0 0) ∧ w' = w := by
  have hnil := fun (w : World) (a : Option Addr) (n c : Nat) => Lib.run_eql_slice_nil (P := Try.prog) w _ _ a n c 0 0 Try.underlying40
  go_enter Try.func40, Try.ntmps40
  go_wp2_with fail
  go_ret
  exact ⟨rfl, rfl⟩
set_option maxHeartbeats 2000000 in
set_option maxRecDepth 100000 in
theorem vclone_nil (w : World) (L : Array Value) (hL : AllNil L) : Calls Try.prog 23 #[.agg L] w fun e w' => e = .returned (.agg L) ∧ Below w.heap.size w w' := by
  have HL := Lib.hid hL
  clear hL
  go_enter Try.func23, Try.ntmps23
  go_wp2_with (first | (refine wpl_allocg rfl (run_alloc47 rfl _) ?_))
  have kq := (Bk.new w 44 L).alloc (.cells Z47 44)
  have kz := Bk.new (w.alloc (.cells L 44)) 44 Z47
  rw [World.size_alloc] at kz
  have B2 : Below w.heap.size w ((w.alloc (.cells L 44)).alloc (.cells Z47 44)) := ((Below.refl _ _).alloc (Nat.le_refl _) _).alloc (by simp) _
  generalize (w.alloc (.cells L 44)).alloc (.cells Z47 44) = w2 at kq kz B2 ⊢
  obtain ⟨q, hq⟩ : ∃ q, q = w.heap.size := ⟨_, rfl⟩
  rw [← hq] at kq kz ⊢
  have hql : q = w.heap.size := hq
  have HQ := Lib.hid hq
  clear hq hql
  go_region
  obtain ⟨PP, hPP⟩ : ∃ PP : Array Value, PP = #[.pointer (some ⟨q, 6, none⟩), .pointer (some ⟨q, 8, none⟩), .pointer (some ⟨q, 16, none⟩), .pointer (some ⟨q, 18, none⟩), .pointer (some ⟨q, 23, none⟩), .pointer (some ⟨q, 24, none⟩), .pointer (some ⟨q, 32, none⟩), .pointer (some ⟨q, 33, none⟩)] := ⟨_, rfl⟩
  rw [← hPP]
  have kp := (Bk.new w2 97 PP).drew
  have kq3 := (kq.alloc (.cells PP 97)).drew
  have kz3 := (kz.alloc (.cells PP 97)).drew
  have B3 := (B2.alloc B2.size (.cells PP 97)).drew
  have hc0 : w.heap.size + 2 ≤ w2.heap.size := by have := kz.lt; have := HQ.out; omega
  obtain ⟨c, hc⟩ : ∃ c, c = w2.heap.size := ⟨_, rfl⟩
  rw [← hc] at kp hc0 ⊢
  generalize (w2.alloc (.cells PP 97)).drew = w3 at kp kq3 kz3 B3 ⊢
  clear kq kz B2 hc w2
  have HPP := Lib.hid hPP
  clear hPP
  have hqc : q < w.heap.size + 1 := by have := HQ.out; omega
  go_wp2_with fail
  go_loopw [41] (fun iv wr => ∃ i : Nat, i ≤ 8 ∧ iv = .int .i64 i ∧ Bk wr c 97 PP ∧ Bk wr q 44 L ∧ Bk wr (q + 1) 44 Z47 ∧ Below w.heap.size w wr) (fun iv wr => 8 - (intOf iv).toNat)
  case atStart => exact ⟨0, by omega, rfl, kp, kq3, kz3, B3⟩
  case round =>
    obtain ⟨i, hi, rfl, kp, kq, kz, B⟩ := hrel
    clear kq3 kz3 B3
    by_cases hlt : i < 8
    · have hk : ∃ k, PP[i]? = some (.pointer (some ⟨q, k, none⟩)) ∧ L[k]? = some (.slice none 0 0) := by
        rw [HPP.out]
        have hs := HL.out.2
        rcases i with _ | _ | _ | _ | _ | _ | _ | _ | i
        · exact ⟨6, rfl, hs _ (by decide)⟩
        · exact ⟨8, rfl, hs _ (by decide)⟩
        · exact ⟨16, rfl, hs _ (by decide)⟩
        · exact ⟨18, rfl, hs _ (by decide)⟩
        · exact ⟨23, rfl, hs _ (by decide)⟩
        · exact ⟨24, rfl, hs _ (by decide)⟩
        · exact ⟨32, rfl, hs _ (by decide)⟩
        · exact ⟨33, rfl, hs _ (by decide)⟩
        · omega
      obtain ⟨k, hk1, hk2⟩ := hk
      have pc := kp.cell i
      rw [hk1] at pc
      have qc := kq.cell k
      rw [hk2] at qc
      have qf := kq.frozen k
      go_wp2_with fail
      refine (clone_nil_lab wr).mono ?_
      rintro e w' ⟨rfl, rfl⟩
      go_wp2_with fail
      have kq4 := Bk.same kq hk2
      have kp4 := kp.far (p := ⟨q, k, none⟩) (by simp; omega) (.slice none 0 0)
      have kz4 := kz.far (p := ⟨q, k, none⟩) (by simp) (.slice none 0 0)
      have B4 := B.setCell (p := ⟨q, k, none⟩) (Nat.le_of_eq HQ.out.symm) (.slice none 0 0)
      go_roundw
      case rel => exact ⟨i + 1, by omega, by go_num, kp4, kq4, kz4, B4⟩
      case measure => simp [intOf]; omega
    · have hi8 : i = 8 := by omega
      subst hi8
      clear kp hi
      have hc7 : wr.cell? ⟨q, 7, none⟩ = some (.slice none 0 0) := by rw [kq.cell]; exact HL.out.2 _ (by decide)
      have hc17 : wr.cell? ⟨q, 17, none⟩ = some (.slice none 0 0) := by rw [kq.cell]; exact HL.out.2 _ (by decide)
      go_wp2_with fail
      refine wp_region_reads3 12 0 (fun i => !(i == 5 || i == 6 || i == 10 || i == 11)) (fun w' => w'.cell? ⟨q, 7, none⟩ = some (.slice none 0 0) ∧ w'.cell? ⟨q, 17, none⟩ = some (.slice none 0 0)) (by kernel_rfl) (by kernel_rfl) (fun c a d v w h => by cases d <;> exact h) ⟨hc7, hc17⟩ ?_
      simp only [List.take_succ_cons, List.take_zero, List.drop_succ_cons, List.drop_zero]
      refine reads3_free (v := ?_) (by rfl) (fun w' => ?_) ?_
      rotate_left
      · go_simp
        with_reducible rfl
      simp only [Act.put, List.setIfInBounds_toArray, List.set_cons_zero, List.set_cons_succ]
      refine reads3_free (v := ?_) (by rfl) (fun w' => ?_) ?_
      rotate_left
      · go_simp
        with_reducible rfl
      simp only [Act.put, List.setIfInBounds_toArray, List.set_cons_zero, List.set_cons_succ]
      refine reads3_free (v := ?_) (by rfl) (fun w' => ?_) ?_
      rotate_left
      · go_simp
        with_reducible rfl
      simp only [Act.put, List.setIfInBounds_toArray, List.set_cons_zero, List.set_cons_succ]
      refine reads3_free (v := ?_) (by rfl) (fun w' => ?_) ?_
      rotate_left
      · go_simp
        with_reducible rfl
      simp only [Act.put, List.setIfInBounds_toArray, List.set_cons_zero, List.set_cons_succ]
      refine reads3_free (v := ?_) (by rfl) (fun w' => ?_) ?_
      rotate_left
      · go_simp
        with_reducible rfl
      simp only [Act.put, List.setIfInBounds_toArray, List.set_cons_zero, List.set_cons_succ]
      refine reads3_step (v := ?_) (by rfl) (by rfl) (fun w' hS => ?_) ?_
      rotate_left
      · have u1 := hS.1
        have u2 := hS.2
        clear hS
        go_simp
        with_reducible rfl
      simp only [Act.put, List.setIfInBounds_toArray, List.set_cons_zero, List.set_cons_succ]
      refine reads3_call (v := .slice none 0 0) _ #[.slice none 0 0] (by rfl) (by rfl) (fun w' _ => ?_) (fun w' _ => clone_nil_req w') ?_
      · go_simp
        try rfl
      simp only [Act.put, List.setIfInBounds_toArray, List.set_cons_zero, List.set_cons_succ]
      refine reads3_free (v := ?_) (by rfl) (fun w' => ?_) ?_
      rotate_left
      · go_simp
        with_reducible rfl
      simp only [Act.put, List.setIfInBounds_toArray, List.set_cons_zero, List.set_cons_succ]
      refine reads3_free (v := ?_) (by rfl) (fun w' => ?_) ?_
      rotate_left
      · go_simp
        with_reducible rfl
      simp only [Act.put, List.setIfInBounds_toArray, List.set_cons_zero, List.set_cons_succ]
      refine reads3_free (v := ?_) (by rfl) (fun w' => ?_) ?_
      rotate_left
      · go_simp
        with_reducible rfl
      simp only [Act.put, List.setIfInBounds_toArray, List.set_cons_zero, List.set_cons_succ]
      refine reads3_step (v := ?_) (by rfl) (by rfl) (fun w' hS => ?_) ?_
      rotate_left
      · have u1 := hS.1
        have u2 := hS.2
        clear hS
        go_simp
        with_reducible rfl
      simp only [Act.put, List.setIfInBounds_toArray, List.set_cons_zero, List.set_cons_succ]
      refine reads3_call (v := .slice none 0 0) _ #[.slice none 0 0] (by rfl) (by rfl) (fun w' _ => ?_) (fun w' _ => clone_nil_req w') ?_
      · go_simp
        try rfl
      simp only [Act.put, List.setIfInBounds_toArray, List.set_cons_zero, List.set_cons_succ]
      refine reads3_nil ?_
      simp only [wpEarly]
      have kq6 := kq.drew
      have kz6 := kz.drew
      have B6 := B.drew
      clear hc7 hc17 kq kz B
      generalize wr.drew = w6 at kq6 kz6 B6 ⊢
      have h7 : L[7]? = some (.slice none 0 0) := HL.out.2 _ (by decide)
      have h17 : L[17]? = some (.slice none 0 0) := HL.out.2 _ (by decide)
      have d7 : w6.cell? ⟨q, 7, none⟩ = some (.slice none 0 0) := by rw [kq6.cell]; exact h7
      have d17 : w6.cell? ⟨q, 17, none⟩ = some (.slice none 0 0) := by rw [kq6.cell]; exact h17
      have f7 := kq6.frozen 7
      have f17 := kq6.frozen 17
      go_wp2_with fail
      have kq7 := Bk.same (Bk.same kq6 h7) h17
      have kz7 := (kz6.far (p := ⟨q, 7, none⟩) (by simp) (.slice none 0 0)).far (p := ⟨q, 17, none⟩) (by simp) (.slice none 0 0)
      have B7 := (B6.setCell (p := ⟨q, 7, none⟩) (Nat.le_of_eq HQ.out.symm) (.slice none 0 0)).setCell (p := ⟨q, 17, none⟩) (Nat.le_of_eq HQ.out.symm) (.slice none 0 0)
      generalize (w6.setCell ⟨q, 7, none⟩ (.slice none 0 0)).setCell ⟨q, 17, none⟩ (.slice none 0 0) = w7 at kq7 kz7 B7 ⊢
      clear d7 d17 f7 f17 kq6 kz6 B6 h7 h17
      have h38 : L[38]? = some (.slice none 0 0) := HL.out.2 _ (by decide)
      have h42 : L[42]? = some (.slice none 0 0) := HL.out.2 _ (by decide)
      have h45 : L[45]? = some (.slice none 0 0) := HL.out.2 _ (by decide)
      have h46 : L[46]? = some (.slice none 0 0) := HL.out.2 _ (by decide)
      have hc38 : w7.cell? ⟨q, 38, none⟩ = some (.slice none 0 0) := by rw [kq7.cell]; exact h38
      have hc42 : w7.cell? ⟨q, 42, none⟩ = some (.slice none 0 0) := by rw [kq7.cell]; exact h42
      have hc45 : w7.cell? ⟨q, 45, none⟩ = some (.slice none 0 0) := by rw [kq7.cell]; exact h45
      have hc46 : w7.cell? ⟨q, 46, none⟩ = some (.slice none 0 0) := by rw [kq7.cell]; exact h46
      refine wp_region_reads3 26 0 (fun i => !(i == 7 || i == 8 || i == 13 || i == 14 || i == 19 || i == 20 || i == 24 || i == 25)) (fun w' => w'.cell? ⟨q, 38, none⟩ = some (.slice none 0 0) ∧ w'.cell? ⟨q, 42, none⟩ = some (.slice none 0 0) ∧ w'.cell? ⟨q, 45, none⟩ = some (.slice none 0 0) ∧ w'.cell? ⟨q, 46, none⟩ = some (.slice none 0 0)) (by kernel_rfl) (by kernel_rfl) (fun c a d v w h => by cases d <;> exact h) ⟨hc38, hc42, hc45, hc46⟩ ?_
      simp only [List.take_succ_cons, List.take_zero, List.drop_succ_cons, List.drop_zero]
      refine reads3_free (v := ?_) (by rfl) (fun w' => ?_) ?_
      rotate_left
      · go_simp
        with_reducible rfl
      simp only [Act.put, List.setIfInBounds_toArray, List.set_cons_zero, List.set_cons_succ]
      refine reads3_free (v := ?_) (by rfl) (fun w' => ?_) ?_
      rotate_left
      · go_simp
        with_reducible rfl
      simp only [Act.put, List.setIfInBounds_toArray, List.set_cons_zero, List.set_cons_succ]
      refine reads3_free (v := ?_) (by rfl) (fun w' => ?_) ?_
      rotate_left
      · go_simp
        with_reducible rfl
      simp only [Act.put, List.setIfInBounds_toArray, List.set_cons_zero, List.set_cons_succ]
      refine reads3_free (v := ?_) (by rfl) (fun w' => ?_) ?_
      rotate_left
      · go_simp
        with_reducible rfl
      simp only [Act.put, List.setIfInBounds_toArray, List.set_cons_zero, List.set_cons_succ]
      refine reads3_free (v := ?_) (by rfl) (fun w' => ?_) ?_
      rotate_left
      · go_simp
        with_reducible rfl
      simp only [Act.put, List.setIfInBounds_toArray, List.set_cons_zero, List.set_cons_succ]
      refine reads3_free (v := ?_) (by rfl) (fun w' => ?_) ?_
      rotate_left
      · go_simp
        with_reducible rfl
      simp only [Act.put, List.setIfInBounds_toArray, List.set_cons_zero, List.set_cons_succ]
      refine reads3_free (v := ?_) (by rfl) (fun w' => ?_) ?_
      rotate_left
      · go_simp
        with_reducible rfl
      simp only [Act.put, List.setIfInBounds_toArray, List.set_cons_zero, List.set_cons_succ]
      refine reads3_step (v := ?_) (by rfl) (by rfl) (fun w' hS => ?_) ?_
      rotate_left
      · have u1 := hS.1
        have u2 := hS.2.1
        have u3 := hS.2.2.1
        have u4 := hS.2.2.2
        clear hS
        go_simp
        with_reducible rfl
      simp only [Act.put, List.setIfInBounds_toArray, List.set_cons_zero, List.set_cons_succ]
      refine reads3_call (v := .slice none 0 0) _ #[.slice none 0 0] (by rfl) (by rfl) (fun w' _ => ?_) (fun w' _ => clone_nil_met w') ?_
      · go_simp
        try rfl
      simp only [Act.put, List.setIfInBounds_toArray, List.set_cons_zero, List.set_cons_succ]
      refine reads3_free (v := ?_) (by rfl) (fun w' => ?_) ?_
      rotate_left
      · go_simp
        with_reducible rfl
      simp only [Act.put, List.setIfInBounds_toArray, List.set_cons_zero, List.set_cons_succ]
      refine reads3_free (v := ?_) (by rfl) (fun w' => ?_) ?_
      rotate_left
      · go_simp
        with_reducible rfl
      simp only [Act.put, List.setIfInBounds_toArray, List.set_cons_zero, List.set_cons_succ]
      refine reads3_free (v := ?_) (by rfl) (fun w' => ?_) ?_
      rotate_left
      · go_simp
        with_reducible rfl
      simp only [Act.put, List.setIfInBounds_toArray, List.set_cons_zero, List.set_cons_succ]
      refine reads3_free (v := ?_) (by rfl) (fun w' => ?_) ?_
      rotate_left
      · go_simp
        with_reducible rfl
      simp only [Act.put, List.setIfInBounds_toArray, List.set_cons_zero, List.set_cons_succ]
      refine reads3_step (v := ?_) (by rfl) (by rfl) (fun w' hS => ?_) ?_
      rotate_left
      · have u1 := hS.1
        have u2 := hS.2.1
        have u3 := hS.2.2.1
        have u4 := hS.2.2.2
        clear hS
        go_simp
        with_reducible rfl
      simp only [Act.put, List.setIfInBounds_toArray, List.set_cons_zero, List.set_cons_succ]
      refine reads3_call (v := .slice none 0 0) _ #[.slice none 0 0] (by rfl) (by rfl) (fun w' _ => ?_) (fun w' _ => clone_nil_pol w') ?_
      · go_simp
        try rfl
      simp only [Act.put, List.setIfInBounds_toArray, List.set_cons_zero, List.set_cons_succ]
      refine reads3_free (v := ?_) (by rfl) (fun w' => ?_) ?_
      rotate_left
      · go_simp
        with_reducible rfl
      simp only [Act.put, List.setIfInBounds_toArray, List.set_cons_zero, List.set_cons_succ]
      refine reads3_free (v := ?_) (by rfl) (fun w' => ?_) ?_
      rotate_left
      · go_simp
        with_reducible rfl
      simp only [Act.put, List.setIfInBounds_toArray, List.set_cons_zero, List.set_cons_succ]
      refine reads3_free (v := ?_) (by rfl) (fun w' => ?_) ?_
      rotate_left
      · go_simp
        with_reducible rfl
      simp only [Act.put, List.setIfInBounds_toArray, List.set_cons_zero, List.set_cons_succ]
      refine reads3_free (v := ?_) (by rfl) (fun w' => ?_) ?_
      rotate_left
      · go_simp
        with_reducible rfl
      simp only [Act.put, List.setIfInBounds_toArray, List.set_cons_zero, List.set_cons_succ]
      refine reads3_step (v := ?_) (by rfl) (by rfl) (fun w' hS => ?_) ?_
      rotate_left
      · have u1 := hS.1
        have u2 := hS.2.1
        have u3 := hS.2.2.1
        have u4 := hS.2.2.2
        clear hS
        go_simp
        with_reducible rfl
      simp only [Act.put, List.setIfInBounds_toArray, List.set_cons_zero, List.set_cons_succ]
      refine reads3_call (v := .slice none 0 0) _ #[.slice none 0 0] (by rfl) (by rfl) (fun w' _ => ?_) (fun w' _ => clone_nil_pol w') ?_
      · go_simp
        try rfl
      simp only [Act.put, List.setIfInBounds_toArray, List.set_cons_zero, List.set_cons_succ]
      refine reads3_free (v := ?_) (by rfl) (fun w' => ?_) ?_
      rotate_left
      · go_simp
        with_reducible rfl
      simp only [Act.put, List.setIfInBounds_toArray, List.set_cons_zero, List.set_cons_succ]
      refine reads3_free (v := ?_) (by rfl) (fun w' => ?_) ?_
      rotate_left
      · go_simp
        with_reducible rfl
      simp only [Act.put, List.setIfInBounds_toArray, List.set_cons_zero, List.set_cons_succ]
      refine reads3_free (v := ?_) (by rfl) (fun w' => ?_) ?_
      rotate_left
      · go_simp
        with_reducible rfl
      simp only [Act.put, List.setIfInBounds_toArray, List.set_cons_zero, List.set_cons_succ]
      refine reads3_step (v := ?_) (by rfl) (by rfl) (fun w' hS => ?_) ?_
      rotate_left
      · have u1 := hS.1
        have u2 := hS.2.1
        have u3 := hS.2.2.1
        have u4 := hS.2.2.2
        clear hS
        go_simp
        with_reducible rfl
      simp only [Act.put, List.setIfInBounds_toArray, List.set_cons_zero, List.set_cons_succ]
      refine reads3_call (v := .slice none 0 0) _ #[.slice none 0 0] (by rfl) (by rfl) (fun w' _ => ?_) (fun w' _ => clone_nil_sca w') ?_
      · go_simp
        try rfl
      simp only [Act.put, List.setIfInBounds_toArray, List.set_cons_zero, List.set_cons_succ]
      refine reads3_nil ?_
      simp only [wpEarly]
      clear hc38 hc42 hc45 hc46
      have kq8 := kq7.drew
      have kz8 := kz7.drew
      have B8 := B7.drew
      clear kq7 kz7 B7
      generalize w7.drew = w8 at kq8 kz8 B8 ⊢
      have c38 : w8.cell? ⟨q, 38, none⟩ = some (.slice none 0 0) := by rw [kq8.cell]; exact h38
      have c42 : w8.cell? ⟨q, 42, none⟩ = some (.slice none 0 0) := by rw [kq8.cell]; exact h42
      have c45 : w8.cell? ⟨q, 45, none⟩ = some (.slice none 0 0) := by rw [kq8.cell]; exact h45
      have c46 : w8.cell? ⟨q, 46, none⟩ = some (.slice none 0 0) := by rw [kq8.cell]; exact h46
      have f38 := kq8.frozen 38
      have f42 := kq8.frozen 42
      have f45 := kq8.frozen 45
      have f46 := kq8.frozen 46
      have kq9 := Bk.same (Bk.same (Bk.same (Bk.same kq8 h38) h42) h45) h46
      have kz9 := (((kz8.far (p := ⟨q, 38, none⟩) (by simp) (.slice none 0 0)).far (p := ⟨q, 42, none⟩) (by simp) (.slice none 0 0)).far (p := ⟨q, 45, none⟩) (by simp) (.slice none 0 0)).far (p := ⟨q, 46, none⟩) (by simp) (.slice none 0 0)
      have hqq := Nat.le_of_eq HQ.out.symm
      have B9 := (((B8.setCell (p := ⟨q, 38, none⟩) hqq (.slice none 0 0)).setCell (p := ⟨q, 42, none⟩) hqq (.slice none 0 0)).setCell (p := ⟨q, 45, none⟩) hqq (.slice none 0 0)).setCell (p := ⟨q, 46, none⟩) hqq (.slice none 0 0)
      obtain ⟨W8, hW8⟩ : ∃ W8, W8 = (((w8.setCell ⟨q, 38, none⟩ (.slice none 0 0)).setCell ⟨q, 42, none⟩ (.slice none 0 0)).setCell ⟨q, 45, none⟩ (.slice none 0 0)).setCell ⟨q, 46, none⟩ (.slice none 0 0) := ⟨_, rfl⟩
      rw [← hW8] at kq9 kz9 B9
      have HU := Lib.hid (Try.underlying44)
      have hzz : Z47.size = L.size := HL.out.1.1.symm
      have H8 := Lib.hid (And.intro kq9 (And.intro kz9 (And.intro B9 hW8)))
      clear kq9 kz9 B9 hW8 kq8 kz8 B8
      go_wp2_with (first | (refine wpl_loadg (by obtain ⟨h1, h2, h3, h4⟩ := H8.out; rw [← h4]; exact h1) rfl 44 (.tmp 1) rfl rfl _ HU.out rfl (info47 HL.out.1) ?_) | (refine wpl_storeg (by obtain ⟨h1, h2, h3, h4⟩ := H8.out; rw [← h4]; exact h2) hzz rfl rfl 44 (.tmp 2) (.tmp 104) rfl rfl rfl (info47 HL.out.1) HL.out.1.2 ?_))
      obtain ⟨h1, h2, h3, h4⟩ := H8.out
      rw [← h4]
      refine bodyPost_ret (v := .agg L) ?_ rfl ⟨rfl, below_setCells (g := q + 1) L.toList 0 h3 (by omega)⟩
      exact results_obj (setCells_whole h2 hzz) HL.out.1 rfl rfl
end Go.Proofs.Ytibekpfffimojaa
