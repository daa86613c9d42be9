/-
  The walk of valid.Clone and valid.Default of an object all of whose slices are nil.; The walk of valid.Default of an object (of no group, no hpa) all of whose slices are nil; label.Right of none; quant.Right; size; node.; The walks of valid.size, named, between, node at the law's small node.; The walk of valid.Check of an object of kind 2 whose node is the law's small one.; The walk of trimtablaw08.node: the law's small node; its cells as a row.; The walk of trimtablaw08.lives.; The law's small node: valid.empties of it; the chapter's example of layer 8 is true.; The law's act on a store and on its own model (under way: the beginning).; The law's act: Delete.; The law's act: Delete of what is there, at its version (or at none).; The law's act: an object that may not be.; A row of one object, built; a whole object, read in a drawn region.; The law's act: Create, taken.
-/
import Derived.Test.YtlhaiflebigdlaaGreatCSPys1
import Derived.BigRegion
import Derived.Lib.SliceRun
import Derived.WalkSpells
import Derived.Deep.DeepCutAuto
import Derived.Test.YtlhaiflebigdlaaGreatCSPys3
import Derived.Lib.QuietBelow
import Derived.BigQuiet
import Derived.Test.YtlhaiflebigdlaaGreatCSPys6
import Derived.Test.YtlhaiflebigdlaaGreatCSPys8
import Derived.Great.FillDense
import Derived.Great.BuildSlice
section
namespace Go.Proofs.YtlhaiflebigdlaaGreat
open Go.RowKit Go.Proofs.Mem
set_option linter.unusedVariables false
set_option linter.unusedSimpArgs false
def sAt : List Nat := [6, 7, 8, 16, 17, 18, 23, 24, 32, 33, 38, 42, 45, 46]
def AllNil (L : Array Value) : Prop := Is47 L ∧ ∀ i ∈ sAt, L[i]? = some (.slice none 0 0)
theorem Bk.same {w : World} {g : Nat} {t : TypeId} {L : Array Value} {i : Nat} {u : Value} (h : Bk w g t L) (hi : L[i]? = some u) : Bk (w.setCell ⟨g, i, none⟩ u) g t L := by
  have h1 := h.set i u
  have h2 : L.setIfInBounds i u = L := by
    obtain ⟨h3, h4⟩ := Array.getElem?_eq_some_iff.1 hi
    rw [Array.setIfInBounds, dif_pos h3, ← h4]
    simp
  rwa [h2] at h1
set_option maxRecDepth 100000 in
theorem clone_nil_lab (w : World) : Calls Tryz.prog 51 #[.slice none 0 0] w fun e w' => e = .returned (.slice none 0 0) ∧ w' = w := by
  have hnil := fun (w : World) (a : Option Addr) (n c : Nat) => Lib.run_eql_slice_nil (P := Tryz.prog) w _ _ a n c 0 0 Tryz.underlying38
  go_enter Tryz.func51, Tryz.ntmps51
  go_wp2_with fail
  go_ret
  exact ⟨rfl, rfl⟩
set_option maxRecDepth 100000 in
theorem clone_nil_req (w : World) : Calls Tryz.prog 52 #[.slice none 0 0] w fun e w' => e = .returned (.slice none 0 0) ∧ w' = w := by
  have hnil := fun (w : World) (a : Option Addr) (n c : Nat) => Lib.run_eql_slice_nil (P := Tryz.prog) w _ _ a n c 0 0 Tryz.underlying39
  go_enter Tryz.func52, Tryz.ntmps52
  go_wp2_with fail
  go_ret
  exact ⟨rfl, rfl⟩
set_option maxRecDepth 100000 in
theorem clone_nil_met (w : World) : Calls Tryz.prog 53 #[.slice none 0 0] w fun e w' => e = .returned (.slice none 0 0) ∧ w' = w := by
  have hnil := fun (w : World) (a : Option Addr) (n c : Nat) => Lib.run_eql_slice_nil (P := Tryz.prog) w _ _ a n c 0 0 Tryz.underlying48
  go_enter Tryz.func53, Tryz.ntmps53
  go_wp2_with fail
  go_ret
  exact ⟨rfl, rfl⟩
set_option maxRecDepth 100000 in
theorem clone_nil_pol (w : World) : Calls Tryz.prog 54 #[.slice none 0 0] w fun e w' => e = .returned (.slice none 0 0) ∧ w' = w := by
  have hnil := fun (w : World) (a : Option Addr) (n c : Nat) => Lib.run_eql_slice_nil (P := Tryz.prog) w _ _ a n c 0 0 Tryz.underlying49
  go_enter Tryz.func54, Tryz.ntmps54
  go_wp2_with fail
  go_ret
  exact ⟨rfl, rfl⟩
set_option maxRecDepth 100000 in
theorem clone_nil_sca (w : World) : Calls Tryz.prog 55 #[.slice none 0 0] w fun e w' => e = .returned (.slice none 0 0) ∧ w' = w := by
  have hnil := fun (w : World) (a : Option Addr) (n c : Nat) => Lib.run_eql_slice_nil (P := Tryz.prog) w _ _ a n c 0 0 Tryz.underlying52
  go_enter Tryz.func55, Tryz.ntmps55
  go_wp2_with fail
  go_ret
  exact ⟨rfl, rfl⟩
set_option maxHeartbeats 2000000 in
set_option maxRecDepth 100000 in
theorem vclone_nil (w : World) (L : Array Value) (hL : AllNil L) : Calls Tryz.prog 30 #[.agg L] w fun e w' => e = .returned (.agg L) ∧ Below w.heap.size w w' := by
  have HL := Lib.hid hL
  clear hL
  go_enter Tryz.func30, Tryz.ntmps30
  go_wp2_with (first | (refine wpl_allocg rfl (run_alloc47 rfl _) ?_))
  have kq := (Bk.new w 56 L).alloc (.cells Z47 56)
  have kz := Bk.new (w.alloc (.cells L 56)) 56 Z47
  rw [World.size_alloc] at kz
  have B2 : Below w.heap.size w ((w.alloc (.cells L 56)).alloc (.cells Z47 56)) := ((Below.refl _ _).alloc (Nat.le_refl _) _).alloc (by simp) _
  generalize (w.alloc (.cells L 56)).alloc (.cells Z47 56) = w2 at kq kz B2 ⊢
  obtain ⟨q, hq⟩ : ∃ q, q = w.heap.size := ⟨_, rfl⟩
  rw [← hq] at kq kz ⊢
  have hql : q = w.heap.size := hq
  have HQ := Lib.hid hq
  clear hq hql
  go_region
  obtain ⟨PP, hPP⟩ : ∃ PP : Array Value, PP = #[.pointer (some ⟨q, 6, none⟩), .pointer (some ⟨q, 8, none⟩), .pointer (some ⟨q, 16, none⟩), .pointer (some ⟨q, 18, none⟩), .pointer (some ⟨q, 23, none⟩), .pointer (some ⟨q, 24, none⟩), .pointer (some ⟨q, 32, none⟩), .pointer (some ⟨q, 33, none⟩)] := ⟨_, rfl⟩
  rw [← hPP]
  have kp := (Bk.new w2 120 PP).drew
  have kq3 := (kq.alloc (.cells PP 120)).drew
  have kz3 := (kz.alloc (.cells PP 120)).drew
  have B3 := (B2.alloc B2.size (.cells PP 120)).drew
  have hc0 : w.heap.size + 2 ≤ w2.heap.size := by have := kz.lt; have := HQ.out; omega
  obtain ⟨c, hc⟩ : ∃ c, c = w2.heap.size := ⟨_, rfl⟩
  rw [← hc] at kp hc0 ⊢
  generalize (w2.alloc (.cells PP 120)).drew = w3 at kp kq3 kz3 B3 ⊢
  clear kq kz B2 hc w2
  have HPP := Lib.hid hPP
  clear hPP
  have hqc : q < w.heap.size + 1 := by have := HQ.out; omega
  go_wp2_with fail
  go_loopw [41] (fun iv wr => ∃ i : Nat, i ≤ 8 ∧ iv = .int .i64 i ∧ Bk wr c 120 PP ∧ Bk wr q 56 L ∧ Bk wr (q + 1) 56 Z47 ∧ Below w.heap.size w wr) (fun iv wr => 8 - (intOf iv).toNat)
  case atStart => exact ⟨0, by omega, rfl, kp, kq3, kz3, B3⟩
  case round =>
    obtain ⟨i, hi, rfl, kp, kq, kz, B⟩ := hrel
    clear kq3 kz3 B3
    by_cases hlt : i < 8
    · have hk : ∃ k, PP[i]? = some (.pointer (some ⟨q, k, none⟩)) ∧ L[k]? = some (.slice none 0 0) := by
        rw [HPP.out]
        have hs := HL.out.2
        rcases i with _ | _ | _ | _ | _ | _ | _ | _ | i
        · exact ⟨6, rfl, hs _ (by decide)⟩
        · exact ⟨8, rfl, hs _ (by decide)⟩
        · exact ⟨16, rfl, hs _ (by decide)⟩
        · exact ⟨18, rfl, hs _ (by decide)⟩
        · exact ⟨23, rfl, hs _ (by decide)⟩
        · exact ⟨24, rfl, hs _ (by decide)⟩
        · exact ⟨32, rfl, hs _ (by decide)⟩
        · exact ⟨33, rfl, hs _ (by decide)⟩
        · omega
      obtain ⟨k, hk1, hk2⟩ := hk
      have pc := kp.cell i
      rw [hk1] at pc
      have qc := kq.cell k
      rw [hk2] at qc
      have qf := kq.frozen k
      go_wp2_with fail
      refine (clone_nil_lab wr).mono ?_
      rintro e w' ⟨rfl, rfl⟩
      go_wp2_with fail
      have kq4 := Bk.same kq hk2
      have kp4 := kp.far (p := ⟨q, k, none⟩) (by simp; omega) (.slice none 0 0)
      have kz4 := kz.far (p := ⟨q, k, none⟩) (by simp) (.slice none 0 0)
      have B4 := B.setCell (p := ⟨q, k, none⟩) (Nat.le_of_eq HQ.out.symm) (.slice none 0 0)
      go_roundw
      case rel => exact ⟨i + 1, by omega, by go_num, kp4, kq4, kz4, B4⟩
      case measure => simp [intOf]; omega
    · have hi8 : i = 8 := by omega
      subst hi8
      clear kp hi
      have hc7 : wr.cell? ⟨q, 7, none⟩ = some (.slice none 0 0) := by rw [kq.cell]; exact HL.out.2 _ (by decide)
      have hc17 : wr.cell? ⟨q, 17, none⟩ = some (.slice none 0 0) := by rw [kq.cell]; exact HL.out.2 _ (by decide)
      go_wp2_with fail
      refine wp_region_reads3 12 0 (fun i => !(i == 5 || i == 6 || i == 10 || i == 11)) (fun w' => w'.cell? ⟨q, 7, none⟩ = some (.slice none 0 0) ∧ w'.cell? ⟨q, 17, none⟩ = some (.slice none 0 0)) (by kernel_rfl) (by kernel_rfl) (fun c a d v w h => by cases d <;> exact h) ⟨hc7, hc17⟩ ?_
      simp only [List.take_succ_cons, List.take_zero, List.drop_succ_cons, List.drop_zero]
      refine reads3_free (v := ?_) (by rfl) (fun w' => ?_) ?_
      rotate_left
      · go_simp
        with_reducible rfl
      simp only [Act.put, List.setIfInBounds_toArray, List.set_cons_zero, List.set_cons_succ]
      refine reads3_free (v := ?_) (by rfl) (fun w' => ?_) ?_
      rotate_left
      · go_simp
        with_reducible rfl
      simp only [Act.put, List.setIfInBounds_toArray, List.set_cons_zero, List.set_cons_succ]
      refine reads3_free (v := ?_) (by rfl) (fun w' => ?_) ?_
      rotate_left
      · go_simp
        with_reducible rfl
      simp only [Act.put, List.setIfInBounds_toArray, List.set_cons_zero, List.set_cons_succ]
      refine reads3_free (v := ?_) (by rfl) (fun w' => ?_) ?_
      rotate_left
      · go_simp
        with_reducible rfl
      simp only [Act.put, List.setIfInBounds_toArray, List.set_cons_zero, List.set_cons_succ]
      refine reads3_free (v := ?_) (by rfl) (fun w' => ?_) ?_
      rotate_left
      · go_simp
        with_reducible rfl
      simp only [Act.put, List.setIfInBounds_toArray, List.set_cons_zero, List.set_cons_succ]
      refine reads3_step (v := ?_) (by rfl) (by rfl) (fun w' hS => ?_) ?_
      rotate_left
      · have u1 := hS.1
        have u2 := hS.2
        clear hS
        go_simp
        with_reducible rfl
      simp only [Act.put, List.setIfInBounds_toArray, List.set_cons_zero, List.set_cons_succ]
      refine reads3_call (v := .slice none 0 0) _ #[.slice none 0 0] (by rfl) (by rfl) (fun w' _ => ?_) (fun w' _ => clone_nil_req w') ?_
      · go_simp
        try rfl
      simp only [Act.put, List.setIfInBounds_toArray, List.set_cons_zero, List.set_cons_succ]
      refine reads3_free (v := ?_) (by rfl) (fun w' => ?_) ?_
      rotate_left
      · go_simp
        with_reducible rfl
      simp only [Act.put, List.setIfInBounds_toArray, List.set_cons_zero, List.set_cons_succ]
      refine reads3_free (v := ?_) (by rfl) (fun w' => ?_) ?_
      rotate_left
      · go_simp
        with_reducible rfl
      simp only [Act.put, List.setIfInBounds_toArray, List.set_cons_zero, List.set_cons_succ]
      refine reads3_free (v := ?_) (by rfl) (fun w' => ?_) ?_
      rotate_left
      · go_simp
        with_reducible rfl
      simp only [Act.put, List.setIfInBounds_toArray, List.set_cons_zero, List.set_cons_succ]
      refine reads3_step (v := ?_) (by rfl) (by rfl) (fun w' hS => ?_) ?_
      rotate_left
      · have u1 := hS.1
        have u2 := hS.2
        clear hS
        go_simp
        with_reducible rfl
      simp only [Act.put, List.setIfInBounds_toArray, List.set_cons_zero, List.set_cons_succ]
      refine reads3_call (v := .slice none 0 0) _ #[.slice none 0 0] (by rfl) (by rfl) (fun w' _ => ?_) (fun w' _ => clone_nil_req w') ?_
      · go_simp
        try rfl
      simp only [Act.put, List.setIfInBounds_toArray, List.set_cons_zero, List.set_cons_succ]
      refine reads3_nil ?_
      simp only [wpEarly]
      have kq6 := kq.drew
      have kz6 := kz.drew
      have B6 := B.drew
      clear hc7 hc17 kq kz B
      generalize wr.drew = w6 at kq6 kz6 B6 ⊢
      have h7 : L[7]? = some (.slice none 0 0) := HL.out.2 _ (by decide)
      have h17 : L[17]? = some (.slice none 0 0) := HL.out.2 _ (by decide)
      have d7 : w6.cell? ⟨q, 7, none⟩ = some (.slice none 0 0) := by rw [kq6.cell]; exact h7
      have d17 : w6.cell? ⟨q, 17, none⟩ = some (.slice none 0 0) := by rw [kq6.cell]; exact h17
      have f7 := kq6.frozen 7
      have f17 := kq6.frozen 17
      go_wp2_with fail
      have kq7 := Bk.same (Bk.same kq6 h7) h17
      have kz7 := (kz6.far (p := ⟨q, 7, none⟩) (by simp) (.slice none 0 0)).far (p := ⟨q, 17, none⟩) (by simp) (.slice none 0 0)
      have B7 := (B6.setCell (p := ⟨q, 7, none⟩) (Nat.le_of_eq HQ.out.symm) (.slice none 0 0)).setCell (p := ⟨q, 17, none⟩) (Nat.le_of_eq HQ.out.symm) (.slice none 0 0)
      generalize (w6.setCell ⟨q, 7, none⟩ (.slice none 0 0)).setCell ⟨q, 17, none⟩ (.slice none 0 0) = w7 at kq7 kz7 B7 ⊢
      clear d7 d17 f7 f17 kq6 kz6 B6 h7 h17
      have h38 : L[38]? = some (.slice none 0 0) := HL.out.2 _ (by decide)
      have h42 : L[42]? = some (.slice none 0 0) := HL.out.2 _ (by decide)
      have h45 : L[45]? = some (.slice none 0 0) := HL.out.2 _ (by decide)
      have h46 : L[46]? = some (.slice none 0 0) := HL.out.2 _ (by decide)
      have hc38 : w7.cell? ⟨q, 38, none⟩ = some (.slice none 0 0) := by rw [kq7.cell]; exact h38
      have hc42 : w7.cell? ⟨q, 42, none⟩ = some (.slice none 0 0) := by rw [kq7.cell]; exact h42
      have hc45 : w7.cell? ⟨q, 45, none⟩ = some (.slice none 0 0) := by rw [kq7.cell]; exact h45
      have hc46 : w7.cell? ⟨q, 46, none⟩ = some (.slice none 0 0) := by rw [kq7.cell]; exact h46
      refine wp_region_reads3 26 0 (fun i => !(i == 7 || i == 8 || i == 13 || i == 14 || i == 19 || i == 20 || i == 24 || i == 25)) (fun w' => w'.cell? ⟨q, 38, none⟩ = some (.slice none 0 0) ∧ w'.cell? ⟨q, 42, none⟩ = some (.slice none 0 0) ∧ w'.cell? ⟨q, 45, none⟩ = some (.slice none 0 0) ∧ w'.cell? ⟨q, 46, none⟩ = some (.slice none 0 0)) (by kernel_rfl) (by kernel_rfl) (fun c a d v w h => by cases d <;> exact h) ⟨hc38, hc42, hc45, hc46⟩ ?_
      simp only [List.take_succ_cons, List.take_zero, List.drop_succ_cons, List.drop_zero]
      refine reads3_free (v := ?_) (by rfl) (fun w' => ?_) ?_
      rotate_left
      · go_simp
        with_reducible rfl
      simp only [Act.put, List.setIfInBounds_toArray, List.set_cons_zero, List.set_cons_succ]
      refine reads3_free (v := ?_) (by rfl) (fun w' => ?_) ?_
      rotate_left
      · go_simp
        with_reducible rfl
      simp only [Act.put, List.setIfInBounds_toArray, List.set_cons_zero, List.set_cons_succ]
      refine reads3_free (v := ?_) (by rfl) (fun w' => ?_) ?_
      rotate_left
      · go_simp
        with_reducible rfl
      simp only [Act.put, List.setIfInBounds_toArray, List.set_cons_zero, List.set_cons_succ]
      refine reads3_free (v := ?_) (by rfl) (fun w' => ?_) ?_
      rotate_left
      · go_simp
        with_reducible rfl
      simp only [Act.put, List.setIfInBounds_toArray, List.set_cons_zero, List.set_cons_succ]
      refine reads3_free (v := ?_) (by rfl) (fun w' => ?_) ?_
      rotate_left
      · go_simp
        with_reducible rfl
      simp only [Act.put, List.setIfInBounds_toArray, List.set_cons_zero, List.set_cons_succ]
      refine reads3_free (v := ?_) (by rfl) (fun w' => ?_) ?_
      rotate_left
      · go_simp
        with_reducible rfl
      simp only [Act.put, List.setIfInBounds_toArray, List.set_cons_zero, List.set_cons_succ]
      refine reads3_free (v := ?_) (by rfl) (fun w' => ?_) ?_
      rotate_left
      · go_simp
        with_reducible rfl
      simp only [Act.put, List.setIfInBounds_toArray, List.set_cons_zero, List.set_cons_succ]
      refine reads3_step (v := ?_) (by rfl) (by rfl) (fun w' hS => ?_) ?_
      rotate_left
      · have u1 := hS.1
        have u2 := hS.2.1
        have u3 := hS.2.2.1
        have u4 := hS.2.2.2
        clear hS
        go_simp
        with_reducible rfl
      simp only [Act.put, List.setIfInBounds_toArray, List.set_cons_zero, List.set_cons_succ]
      refine reads3_call (v := .slice none 0 0) _ #[.slice none 0 0] (by rfl) (by rfl) (fun w' _ => ?_) (fun w' _ => clone_nil_met w') ?_
      · go_simp
        try rfl
      simp only [Act.put, List.setIfInBounds_toArray, List.set_cons_zero, List.set_cons_succ]
      refine reads3_free (v := ?_) (by rfl) (fun w' => ?_) ?_
      rotate_left
      · go_simp
        with_reducible rfl
      simp only [Act.put, List.setIfInBounds_toArray, List.set_cons_zero, List.set_cons_succ]
      refine reads3_free (v := ?_) (by rfl) (fun w' => ?_) ?_
      rotate_left
      · go_simp
        with_reducible rfl
      simp only [Act.put, List.setIfInBounds_toArray, List.set_cons_zero, List.set_cons_succ]
      refine reads3_free (v := ?_) (by rfl) (fun w' => ?_) ?_
      rotate_left
      · go_simp
        with_reducible rfl
      simp only [Act.put, List.setIfInBounds_toArray, List.set_cons_zero, List.set_cons_succ]
      refine reads3_free (v := ?_) (by rfl) (fun w' => ?_) ?_
      rotate_left
      · go_simp
        with_reducible rfl
      simp only [Act.put, List.setIfInBounds_toArray, List.set_cons_zero, List.set_cons_succ]
      refine reads3_step (v := ?_) (by rfl) (by rfl) (fun w' hS => ?_) ?_
      rotate_left
      · have u1 := hS.1
        have u2 := hS.2.1
        have u3 := hS.2.2.1
        have u4 := hS.2.2.2
        clear hS
        go_simp
        with_reducible rfl
      simp only [Act.put, List.setIfInBounds_toArray, List.set_cons_zero, List.set_cons_succ]
      refine reads3_call (v := .slice none 0 0) _ #[.slice none 0 0] (by rfl) (by rfl) (fun w' _ => ?_) (fun w' _ => clone_nil_pol w') ?_
      · go_simp
        try rfl
      simp only [Act.put, List.setIfInBounds_toArray, List.set_cons_zero, List.set_cons_succ]
      refine reads3_free (v := ?_) (by rfl) (fun w' => ?_) ?_
      rotate_left
      · go_simp
        with_reducible rfl
      simp only [Act.put, List.setIfInBounds_toArray, List.set_cons_zero, List.set_cons_succ]
      refine reads3_free (v := ?_) (by rfl) (fun w' => ?_) ?_
      rotate_left
      · go_simp
        with_reducible rfl
      simp only [Act.put, List.setIfInBounds_toArray, List.set_cons_zero, List.set_cons_succ]
      refine reads3_free (v := ?_) (by rfl) (fun w' => ?_) ?_
      rotate_left
      · go_simp
        with_reducible rfl
      simp only [Act.put, List.setIfInBounds_toArray, List.set_cons_zero, List.set_cons_succ]
      refine reads3_free (v := ?_) (by rfl) (fun w' => ?_) ?_
      rotate_left
      · go_simp
        with_reducible rfl
      simp only [Act.put, List.setIfInBounds_toArray, List.set_cons_zero, List.set_cons_succ]
      refine reads3_step (v := ?_) (by rfl) (by rfl) (fun w' hS => ?_) ?_
      rotate_left
      · have u1 := hS.1
        have u2 := hS.2.1
        have u3 := hS.2.2.1
        have u4 := hS.2.2.2
        clear hS
        go_simp
        with_reducible rfl
      simp only [Act.put, List.setIfInBounds_toArray, List.set_cons_zero, List.set_cons_succ]
      refine reads3_call (v := .slice none 0 0) _ #[.slice none 0 0] (by rfl) (by rfl) (fun w' _ => ?_) (fun w' _ => clone_nil_pol w') ?_
      · go_simp
        try rfl
      simp only [Act.put, List.setIfInBounds_toArray, List.set_cons_zero, List.set_cons_succ]
      refine reads3_free (v := ?_) (by rfl) (fun w' => ?_) ?_
      rotate_left
      · go_simp
        with_reducible rfl
      simp only [Act.put, List.setIfInBounds_toArray, List.set_cons_zero, List.set_cons_succ]
      refine reads3_free (v := ?_) (by rfl) (fun w' => ?_) ?_
      rotate_left
      · go_simp
        with_reducible rfl
      simp only [Act.put, List.setIfInBounds_toArray, List.set_cons_zero, List.set_cons_succ]
      refine reads3_free (v := ?_) (by rfl) (fun w' => ?_) ?_
      rotate_left
      · go_simp
        with_reducible rfl
      simp only [Act.put, List.setIfInBounds_toArray, List.set_cons_zero, List.set_cons_succ]
      refine reads3_step (v := ?_) (by rfl) (by rfl) (fun w' hS => ?_) ?_
      rotate_left
      · have u1 := hS.1
        have u2 := hS.2.1
        have u3 := hS.2.2.1
        have u4 := hS.2.2.2
        clear hS
        go_simp
        with_reducible rfl
      simp only [Act.put, List.setIfInBounds_toArray, List.set_cons_zero, List.set_cons_succ]
      refine reads3_call (v := .slice none 0 0) _ #[.slice none 0 0] (by rfl) (by rfl) (fun w' _ => ?_) (fun w' _ => clone_nil_sca w') ?_
      · go_simp
        try rfl
      simp only [Act.put, List.setIfInBounds_toArray, List.set_cons_zero, List.set_cons_succ]
      refine reads3_nil ?_
      simp only [wpEarly]
      clear hc38 hc42 hc45 hc46
      have kq8 := kq7.drew
      have kz8 := kz7.drew
      have B8 := B7.drew
      clear kq7 kz7 B7
      generalize w7.drew = w8 at kq8 kz8 B8 ⊢
      have c38 : w8.cell? ⟨q, 38, none⟩ = some (.slice none 0 0) := by rw [kq8.cell]; exact h38
      have c42 : w8.cell? ⟨q, 42, none⟩ = some (.slice none 0 0) := by rw [kq8.cell]; exact h42
      have c45 : w8.cell? ⟨q, 45, none⟩ = some (.slice none 0 0) := by rw [kq8.cell]; exact h45
      have c46 : w8.cell? ⟨q, 46, none⟩ = some (.slice none 0 0) := by rw [kq8.cell]; exact h46
      have f38 := kq8.frozen 38
      have f42 := kq8.frozen 42
      have f45 := kq8.frozen 45
      have f46 := kq8.frozen 46
      have kq9 := Bk.same (Bk.same (Bk.same (Bk.same kq8 h38) h42) h45) h46
      have kz9 := (((kz8.far (p := ⟨q, 38, none⟩) (by simp) (.slice none 0 0)).far (p := ⟨q, 42, none⟩) (by simp) (.slice none 0 0)).far (p := ⟨q, 45, none⟩) (by simp) (.slice none 0 0)).far (p := ⟨q, 46, none⟩) (by simp) (.slice none 0 0)
      have hqq := Nat.le_of_eq HQ.out.symm
      have B9 := (((B8.setCell (p := ⟨q, 38, none⟩) hqq (.slice none 0 0)).setCell (p := ⟨q, 42, none⟩) hqq (.slice none 0 0)).setCell (p := ⟨q, 45, none⟩) hqq (.slice none 0 0)).setCell (p := ⟨q, 46, none⟩) hqq (.slice none 0 0)
      obtain ⟨W8, hW8⟩ : ∃ W8, W8 = (((w8.setCell ⟨q, 38, none⟩ (.slice none 0 0)).setCell ⟨q, 42, none⟩ (.slice none 0 0)).setCell ⟨q, 45, none⟩ (.slice none 0 0)).setCell ⟨q, 46, none⟩ (.slice none 0 0) := ⟨_, rfl⟩
      rw [← hW8] at kq9 kz9 B9
      have HU := Lib.hid (Tryz.underlying56)
      have hzz : Z47.size = L.size := HL.out.1.1.symm
      have H8 := Lib.hid (And.intro kq9 (And.intro kz9 (And.intro B9 hW8)))
      clear kq9 kz9 B9 hW8 kq8 kz8 B8
      go_wp2_with (first | (refine wpl_loadg (by obtain ⟨h1, h2, h3, h4⟩ := H8.out; rw [← h4]; exact h1) rfl 56 (.tmp 1) rfl rfl _ HU.out rfl (info47 HL.out.1) ?_) | (refine wpl_storeg (by obtain ⟨h1, h2, h3, h4⟩ := H8.out; rw [← h4]; exact h2) hzz rfl rfl 56 (.tmp 2) (.tmp 104) rfl rfl rfl (info47 HL.out.1) HL.out.1.2 ?_))
      obtain ⟨h1, h2, h3, h4⟩ := H8.out
      rw [← h4]
      refine bodyPost_ret (v := .agg L) ?_ rfl ⟨rfl, below_setCells (g := q + 1) L.toList 0 h3 (by omega)⟩
      exact results_obj (setCells_whole h2 hzz) HL.out.1 rfl rfl
end Go.Proofs.YtlhaiflebigdlaaGreat
end
section
namespace Go.Proofs.YtlhaiflebigdlaaGreat
open Go.RowKit Go.Proofs.Mem
set_option linter.unusedVariables false
set_option linter.unusedSimpArgs false
set_option maxHeartbeats 2000000 in
set_option maxRecDepth 100000 in
theorem vdefault_nil (w : World) (L : Array Value) (hL : AllNil L) (kind : Int) (hk : L[0]? = some (.int .i64 kind)) (h3 : kind ≠ 3) (h4 : kind ≠ 4) : Calls Tryz.prog 18 #[.agg L] w fun e w' => e = .returned (.agg L) ∧ Below w.heap.size w w' := by
  have HL := Lib.hid hL
  have HK := Lib.hid hk
  have HU := Lib.hid (Tryz.underlying56)
  clear hL hk
  have k0 := (Bk.new w 56 L).alloc (.cells Z47 56)
  have z0 := Bk.new (w.alloc (.cells L 56)) 56 Z47
  rw [World.size_alloc] at z0
  have B0 : Below w.heap.size w ((w.alloc (.cells L 56)).alloc (.cells Z47 56)) := ((Below.refl _ _).alloc (Nat.le_refl _) _).alloc (by simp) _
  go_enter Tryz.func18, Tryz.ntmps18
  go_wp2_with (first | (refine wpl_allocg rfl (run_alloc47 rfl _) ?_) | (refine wpl_loadg k0 rfl 56 (.tmp 1) rfl rfl _ HU.out rfl (info47 HL.out.1) ?_))
  generalize (w.alloc (.cells L 56)).alloc (.cells Z47 56) = w1 at k0 z0 B0 ⊢
  refine (vclone_nil w1 L HL.out).mono ?_
  rintro e w2 ⟨rfl, b2⟩
  have k2 := k0.below' b2
  have z2 := z0.below' b2
  have B2 := below_tr B0 b2
  clear k0 z0 B0 b2
  have kS := setCells_whole k2 rfl
  have zS := setCells_far (h := w.heap.size) (show w.heap.size + 1 ≠ w.heap.size by omega) L.toList 0 z2
  have BS := below_setCells (g := w.heap.size) L.toList 0 B2 (Nat.le_refl _)
  obtain ⟨W3, hW3⟩ : ∃ W3, W3 = w2.setCells w.heap.size 0 L.toList := ⟨_, rfl⟩
  rw [← hW3] at kS zS BS
  have c0 := kS.cell 0
  rw [HK.out] at c0
  have hzz : Z47.size = L.size := HL.out.1.1.symm
  have HW := Lib.hid hW3
  clear hW3
  go_wp2_with (first | (refine wpl_storeg k2 rfl rfl rfl 56 (.tmp 1) (.tmp 4) rfl rfl rfl (info47 HL.out.1) HL.out.1.2 ?_; rw [← HW.out]) | (refine wpl_loadg kS rfl 56 (.tmp 1) rfl rfl _ HU.out rfl (info47 HL.out.1) ?_) | (refine wpl_storeg zS hzz rfl rfl 56 (.tmp 2) (.tmp 28) rfl rfl rfl (info47 HL.out.1) HL.out.1.2 ?_))
  refine bodyPost_ret (v := .agg L) ?_ rfl ⟨rfl, below_setCells (g := w.heap.size + 1) L.toList 0 BS (by omega)⟩
  exact results_obj (setCells_whole zS hzz) HL.out.1 rfl rfl
set_option maxHeartbeats 2000000 in
set_option maxRecDepth 100000 in
theorem lright_nil (w : World) : Calls Tryz.prog 72 #[.slice none 0 0] w fun e w' => e = .returned (.bool true) ∧ w' = w := by
  go_enter Tryz.func72, Tryz.ntmps72
  go_wp2_with fail
  go_loopw [7] (fun iv wr => iv = .int .i64 0 ∧ wr = w) (fun iv wr => 0)
  case atStart => exact ⟨rfl, rfl⟩
  case round =>
    obtain ⟨rfl, rfl⟩ := hrel
    go_wp2_with fail
    go_ret
    exact ⟨rfl, rfl⟩
theorem qright (x : Int) (w : World) (h0 : 0 ≤ x) (h1 : x ≤ 9007199254740992) : Calls Tryz.prog 91 #[.int .i64 x] w fun e w' => e = .returned (.bool true) ∧ w' = w := by
  go_enter Tryz.func91, Tryz.ntmps91
  go_wp2_with fail
  go_ret
  exact ⟨rfl, rfl⟩
end Go.Proofs.YtlhaiflebigdlaaGreat
end
section
namespace Go.Proofs.YtlhaiflebigdlaaGreat
open Go.RowKit Go.Proofs.Mem
set_option linter.unusedVariables false
set_option linter.unusedSimpArgs false
theorem between_since (w : World) : Calls Tryz.prog 70 #[.int .i64 0, .int .i64 0, .int .i64 4611686018427387904] w fun e w' => e = .returned (.bool true) ∧ w' = w := by
  go_enter Tryz.func70, Tryz.ntmps70
  go_wp2_with fail
  go_ret
  exact ⟨rfl, rfl⟩
theorem named_none (w : World) : Calls Tryz.prog 69 #[.string ⟨#[]⟩] w fun e w' => e = .returned (.bool true) ∧ w' = w := by
  go_enter Tryz.func69, Tryz.ntmps69
  go_wp2_with fail
  go_ret
  exact ⟨rfl, rfl⟩
set_option maxHeartbeats 2000000 in
set_option maxRecDepth 100000 in
theorem size_one (w : World) : Calls Tryz.prog 71 #[.agg #[.int .i64 1, .int .i64 0]] w fun e w' => e = .returned (.bool true) ∧ Below w.heap.size w w' := by
  go_enter Tryz.func71, Tryz.ntmps71
  go_wp2_with fail
  refine (qright 1 _ (by omega) (by omega)).mono ?_
  rintro e w' ⟨rfl, rfl⟩
  go_wp2_with fail
  refine (qright 0 _ (by omega) (by omega)).mono ?_
  rintro e w' ⟨rfl, rfl⟩
  go_wp2_with fail
  go_ret
  exact ⟨rfl, (Below.refl _ _).alloc (Nat.le_refl _) _⟩
def Nd0 : Array Value := #[.string ⟨#[]⟩, .int .i64 1, .int .i64 0, .slice none 0 0, .slice none 0 0, .int .i64 0, .bool false]
set_option maxHeartbeats 2000000 in
set_option maxRecDepth 100000 in
theorem node_one (w : World) : Calls Tryz.prog 45 #[.agg Nd0] w fun e w' => e = .returned (.bool true) ∧ Below w.heap.size w w' := by
  unfold Nd0
  go_enter Tryz.func45, Tryz.ntmps45
  go_wp2_with fail
  refine (named_none _).mono ?_
  rintro e w' ⟨rfl, rfl⟩
  have k0 := Bk.new w 45 #[.string ⟨#[]⟩, .int .i64 1, .int .i64 0, .slice none 0 0, .slice none 0 0, .int .i64 0, .bool false]
  have B0 := (Below.refl w.heap.size w).alloc (Nat.le_refl _) (.cells #[.string ⟨#[]⟩, .int .i64 1, .int .i64 0, .slice none 0 0, .slice none 0 0, .int .i64 0, .bool false] 45)
  generalize w.alloc (.cells #[.string ⟨#[]⟩, .int .i64 1, .int .i64 0, .slice none 0 0, .slice none 0 0, .int .i64 0, .bool false] 45) = w1 at k0 B0 ⊢
  have c1 := k0.cell 1
  have c2 := k0.cell 2
  go_wp2_with fail
  refine (size_one w1).mono ?_
  rintro e w2 ⟨rfl, b2⟩
  have k2 := k0.below' b2
  have B2 := below_tr B0 b2
  clear k0 B0 b2 c1 c2
  have c3 := k2.cell 3
  have c4 := k2.cell 4
  have c5 := k2.cell 5
  go_wp2_with fail
  refine (lright_nil w2).mono ?_
  rintro e w' ⟨rfl, rfl⟩
  go_wp2_with fail
  refine (lright_nil _).mono ?_
  rintro e w' ⟨rfl, rfl⟩
  go_wp2_with fail
  refine (between_since _).mono ?_
  rintro e w' ⟨rfl, rfl⟩
  go_wp2_with fail
  go_ret
  exact ⟨rfl, B2⟩
end Go.Proofs.YtlhaiflebigdlaaGreat
end
section
namespace Go.Proofs.YtlhaiflebigdlaaGreat
open Go.RowKit Go.Proofs.Mem
set_option linter.unusedVariables false
set_option linter.unusedSimpArgs false
set_option maxHeartbeats 2000000 in
set_option maxRecDepth 100000 in
theorem check_one (w : World) (L : Array Value) (hL : Is47 L) (name : ByteArray) (hnm : nmB name = true) (h0 : L[0]? = some (.int .i64 2)) (h1 : L[1]? = some (.string name)) (hn : ∀ j, j < 7 → L[20 + j]? = Nd0[j]?)
    (hemp : ∀ w, Calls Tryz.prog 49 #[.agg L] w fun e w' => e = .returned (.bool true) ∧ Below w.heap.size w w') :
    Calls Tryz.prog 27 #[.agg L] w fun e w' => e = .returned (.int .i64 0) ∧ Below w.heap.size w w' := by
  have hsl : name.size ≤ maxLen := by
    unfold nmB at hnm
    simp only [Bool.and_eq_true, decide_eq_true_eq] at hnm
    unfold maxLen; omega
  have CN := Lib.hid (fun w1 => lname_any name w1 hsl)
  rw [hnm] at CN
  have CE := Lib.hid hemp
  have HL := Lib.hid hL
  have HU := Lib.hid (Tryz.underlying56)
  have k0 := Bk.new w 56 L
  have B0 := (Below.refl w.heap.size w).alloc (Nat.le_refl _) (.cells L 56)
  have q0 := k0.cell 0
  rw [h0] at q0
  have n0 := k0.cell 20
  rw [hn 0 (by omega)] at n0
  have n1 := k0.cell 21
  rw [hn 1 (by omega)] at n1
  have n2 := k0.cell 22
  rw [hn 2 (by omega)] at n2
  have n3 := k0.cell 23
  rw [hn 3 (by omega)] at n3
  have n4 := k0.cell 24
  rw [hn 4 (by omega)] at n4
  have n5 := k0.cell 25
  rw [hn 5 (by omega)] at n5
  have n6 := k0.cell 26
  rw [hn 6 (by omega)] at n6
  unfold Nd0 at n0 n1 n2 n3 n4 n5 n6
  simp only [List.getElem?_toArray, List.getElem?_cons_zero, List.getElem?_cons_succ] at n0 n1 n2 n3 n4 n5 n6
  have H1 := Lib.hid h1
  clear hL hnm hsl hemp h0 h1 hn
  go_enter Tryz.func27, Tryz.ntmps27
  go_upto_region 9 with fail
  generalize w.alloc (.cells L 56) = w1 at k0 B0 q0 n0 n1 n2 n3 n4 n5 n6 ⊢
  go_wp2_with fail
  refine (node_one w1).mono ?_
  rintro e w2 ⟨rfl, b2⟩
  have k2 := k0.below' b2
  have B2 := below_tr B0 b2
  clear b2 k0 B0 q0 n0 n1 n2 n3 n4 n5 n6
  have q1 := k2.cell 1
  rw [H1.out] at q1
  go_wp2_with fail
  refine (CN.out w2).mono ?_
  rintro e w3 ⟨rfl, rfl⟩
  go_wp2_with (refine wpl_loadg k2 rfl 56 (.tmp 1) rfl rfl _ HU.out rfl (info47 HL.out) ?_)
  refine (CE.out _).mono ?_
  rintro e w4 ⟨rfl, b4⟩
  have B4 := below_tr B2 b4
  clear b4 B2 k2 q1
  go_wp2_with fail
  go_ret
  exact ⟨rfl, B4⟩
end Go.Proofs.YtlhaiflebigdlaaGreat
end
section
namespace Go.Proofs.YtlhaiflebigdlaaGreat
open Go.RowKit Go.Proofs.Mem
set_option linter.unusedVariables false
set_option linter.unusedSimpArgs false
def NdL (name : ByteArray) (v : Int) : Array Value := #[.int .i64 2, .string name, .int .u64 v, .int .i64 0, .int .i64 0, .int .i64 0, .slice none 0 0, .slice none 0 0, .slice none 0 0, .int .i64 0, .string ⟨#[]⟩, .string ⟨#[]⟩, .int .i64 0, .int .i64 0, .int .i64 0, .int .i64 0, .slice none 0 0, .slice none 0 0, .slice none 0 0, .int .i64 0, .string ⟨#[]⟩, .int .i64 1, .int .i64 0, .slice none 0 0, .slice none 0 0, .int .i64 0, .bool false, .int .i64 0, .int .i64 0, .int .i64 0, .int .i64 0, .int .i64 0, .slice none 0 0, .slice none 0 0, .int .i64 0, .string ⟨#[]⟩, .int .i64 0, .int .i64 0, .slice none 0 0, .int .i64 0, .int .i64 0, .int .i64 0, .slice none 0 0, .int .i64 0, .int .i64 0, .slice none 0 0, .slice none 0 0]
theorem NdL.obL (name : ByteArray) (v : Nat) : ObL (NdL name v) 2 name v := ⟨⟨rfl, rfl⟩, rfl, rfl, rfl⟩
theorem NdL.nil (name : ByteArray) (v : Int) : AllNil (NdL name v) := by
  refine ⟨⟨rfl, rfl⟩, fun i hi => ?_⟩
  simp only [sAt, List.mem_cons, List.not_mem_nil, or_false] at hi
  rcases hi with rfl | rfl | rfl | rfl | rfl | rfl | rfl | rfl | rfl | rfl | rfl | rfl | rfl | rfl <;> rfl
theorem NdL.node (name : ByteArray) (v : Int) (j : Nat) (hj : j < 7) : (NdL name v)[20 + j]? = Nd0[j]? := by
  rcases j with _ | _ | _ | _ | _ | _ | _ | j
  all_goals first | rfl | omega
theorem run_buildnd {ev : Operand → Value} {o : Oper} {s : ByteArray} (ho : o.op = .build 56 #[(0, .const (.int .i64 2)), (1, .tmp 3), (5, .tmp 5)]) (h3 : ev (.tmp 3) = .string s) (h5 : ev (.tmp 5) = .agg Nd0) (hc : ∀ v, ev (.const v) = v) (w : World) : (execOp ev o).run Tryz.prog w = .ok (.value (.agg (NdL s 0))) w := by
  unfold execOp
  simp only [ho]
  unfold Nd0 at h5
  unfold NdL
  go_simp
theorem wpl_val {P : Program} {ops : Array Oper} {rest : List Oper} {o : Oper} {a : Act} {w : World} {Q : Exit → Act → World → Prop} {v : Value} (hw : Region.wanted o (yielded ops a.tmps) = true) (hr : (execOp a.eval o).run P w = .ok (.value v) w)
    (h : wpList P ops Q rest (a.put o.dst v) w) : wpList P ops Q (o :: rest) a w := by
  refine wpList_step fun K hK => ?_
  rw [if_pos hw]
  unfold Oper.wp
  rw [hr]
  exact hK _ _ h
set_option maxHeartbeats 2000000 in
set_option maxRecDepth 100000 in
theorem node8_any (name : ByteArray) (w : World) : Calls Tryz.prog 11 #[.string name] w fun e w' => e = .returned (.agg (NdL name 0)) ∧ Below w.heap.size w w' := by
  have kz := Bk.new w 56 Z47
  have B0 := below_al w (.cells Z47 56)
  have hL := (NdL.nil name 0).1
  have hzz : Z47.size = (NdL name 0).size := rfl
  have HL := Lib.hid hL
  clear hL
  obtain ⟨L, hLe⟩ : ∃ L, L = NdL name 0 := ⟨_, rfl⟩
  rw [← hLe] at HL hzz ⊢
  have HE := Lib.hid hLe
  clear hLe
  go_enter Tryz.func11, Tryz.ntmps11
  go_wp2_with (first | (refine wpl_allocg rfl (run_alloc47 rfl _) ?_) | (refine wpl_val rfl (run_buildnd (s := name) rfl rfl rfl (fun _ => rfl) _) ?_; rw [← HE.out]) | (refine wpl_storeg kz hzz rfl rfl 56 (.tmp 2) (.tmp 6) rfl rfl rfl (info47 HL.out) HL.out.2 ?_))
  refine bodyPost_ret (v := .agg L) ?_ rfl ⟨rfl, below_setCells (g := w.heap.size) L.toList 0 B0 (Nat.le_refl _)⟩
  exact results_obj (setCells_whole kz hzz) HL.out rfl rfl
end Go.Proofs.YtlhaiflebigdlaaGreat
end
section
namespace Go.Proofs.YtlhaiflebigdlaaGreat
open Go.RowKit Go.Proofs.Mem
set_option linter.unusedVariables false
set_option linter.unusedSimpArgs false
def N1 : ByteArray := ⟨#[110, 49]⟩
theorem n1_nm : nmB N1 = true := by decide +kernel
theorem n1_len : N1.size ≤ maxLen := by decide +kernel
def EmpOne : Prop := ∀ (name : ByteArray) (v : Int) (w : World), Calls Tryz.prog 49 #[.agg (NdL name v)] w fun e w' => e = .returned (.bool true) ∧ Below w.heap.size w w'
theorem nd_default (name : ByteArray) (v : Int) (w1 : World) : Calls Tryz.prog 18 #[.agg (NdL name v)] w1 fun e w' => e = .returned (.agg (NdL name v)) ∧ Below w1.heap.size w1 w' :=
  vdefault_nil w1 _ (NdL.nil name v) 2 rfl (by decide) (by decide)
section
variable (hE : EmpOne)
include hE
theorem nd_check (name : ByteArray) (hnm : nmB name = true) (v : Int) (w1 : World) : Calls Tryz.prog 27 #[.agg (NdL name v)] w1 fun e w' => e = .returned (.int .i64 0) ∧ Below w1.heap.size w1 w' :=
  check_one w1 _ (NdL.nil name v).1 name hnm rfl rfl (NdL.node name v) (hE name v)
theorem nd_create (w : World) (p b n : Nat) (D : DataW Value) (most : Int) (now : Nat) (ev : Value) (evs : List Ev) (h : StIs w p b n D most now ev evs) (hN : n < maxLen) (name : ByteArray) (hnm : nmB name = true) (hs : name.size ≤ maxLen) (v : Nat)
    (Lw : Array Value) (hLw : Is47 Lw) (hval : valAt D (kOf 2 name) (.agg Z47) = .agg Lw) (hnow : now < 1000000000) (hl : evs.length ≤ 1024) :
    Calls Tryz.prog 12 #[.pointer (some ⟨p, 0, none⟩), .agg (NdL name v)] w (CreateSt p b n D most now ev evs 2 name (NdL name v) w) :=
  create_any w p b n D most now ev evs h hN 2 name v (NdL name v) (NdL name v) (NdL.nil name v).1 (NdL.obL name v) rfl hs Lw hLw hval (fun w1 _ => nd_default name v w1) (fun w1 _ => nd_check hE name hnm v w1) (fun w1 h1 => note_any w1 p b n D most now ev evs h1 hnow hl 0 2 name)
theorem nd_update (w : World) (p b n : Nat) (D : DataW Value) (most : Int) (now : Nat) (ev : Value) (evs : List Ev) (h : StIs w p b n D most now ev evs) (hN : n < maxLen) (name : ByteArray) (hnm : nmB name = true) (hs : name.size ≤ maxLen) (v : Nat)
    (Lw : Array Value) (hLw : Is47 Lw) (vw : Nat) (hvw : Lw[2]? = some (.int .u64 vw)) (hval : valAt D (kOf 2 name) (.agg Z47) = .agg Lw) (hnow : now < 1000000000) (hl : evs.length ≤ 1024) :
    Calls Tryz.prog 13 #[.pointer (some ⟨p, 0, none⟩), .agg (NdL name v)] w (UpdateSt p b n D most now ev evs 2 name (NdL name v) vw v w) :=
  update_any w p b n D most now ev evs h hN 2 name v (NdL name v) (NdL name v) (NdL.nil name v).1 (NdL.obL name v) rfl hs Lw hLw vw hvw hval (fun w1 _ => nd_default name v w1) (fun w1 _ => nd_check hE name hnm v w1) (fun w1 h1 => note_any w1 p b n D most now ev evs h1 hnow hl 1 2 name)
set_option maxHeartbeats 4000000 in
set_option maxRecDepth 100000 in
theorem lives8_any (w : World) : Calls Tryz.prog 4 #[] w fun e w' => e = .returned (.bool true) ∧ Below w.heap.size w w' := by
  have hE' := Lib.hid hE
  clear hE
  have HU := Lib.hid (Tryz.underlying56)
  go_enter Tryz.func4, Tryz.ntmps4
  go_wp2_with fail
  refine (snew_any 9 w (by omega) (by omega)).mono ?_
  rintro e w1 ⟨p, b, rfl, hb, hS1, B1⟩
  have HS1 := Lib.hid hS1
  clear hS1
  go_wp2_with fail
  refine (node8_any N1 w1).mono ?_
  rintro e w2 ⟨rfl, b2⟩
  have HS2 := Lib.hid (HS1.out.below b2)
  have B2 := below_tr B1 b2
  clear b2 B1 HS1
  obtain ⟨L, hLe⟩ : ∃ L, L = NdL N1 0 := ⟨_, rfl⟩
  rw [← hLe]
  have hL : Is47 L := by rw [hLe]; exact (NdL.nil N1 0).1
  have HL := Lib.hid (And.intro hL hLe)
  clear hL hLe
  have hzz : Z47.size = L.size := HL.out.1.1.symm
  have kz := Bk.new w2 56 Z47
  have ko := setCells_whole kz hzz
  have B3 := below_setCells (g := w2.heap.size) L.toList 0 (B2.alloc B2.size (.cells Z47 56)) B2.size
  have HS3 := Lib.hid (HS2.out.below (below_setCells (g := w2.heap.size) L.toList 0 (below_al w2 (.cells Z47 56)) (Nat.le_refl _)))
  go_wp2_with (first | (refine wpl_allocg rfl (run_alloc47 rfl _) ?_) | (refine wpl_storeg kz hzz rfl rfl 56 (.tmp 3) (.tmp 14) rfl rfl rfl (info47 HL.out.1) HL.out.1.2 ?_) | (refine wpl_loadg ko rfl 56 (.tmp 3) rfl rfl _ HU.out rfl (info47 HL.out.1) ?_))
  generalize hw3 : (w2.alloc (.cells Z47 56)).setCells w2.heap.size 0 L.toList = w3 at ko B3 HS3 ⊢
  have hp2 := HS2.out.2.1.lt
  have hb2 := HS2.out.2.2.1.lt
  obtain ⟨o, ho⟩ : ∃ o, o = w2.heap.size := ⟨_, rfl⟩
  rw [← ho] at ko hp2 hb2 ⊢
  clear hw3 kz B2 HS2 ho w2
  rw [show Value.agg L = .agg (NdL N1 0) from by rw [HL.out.2]]
  refine (nd_create hE'.out w3 p b 0 (.map []) 9 0 (.slice none 0 0) [] HS3.out (by unfold maxLen; omega) N1 n1_nm n1_len 0 Z47 z47_is (valAt_empty _ _) (by omega) (by simp)).mono ?_
  intro e w4 hC
  unfold CreateSt at hC
  rw [if_neg (by simp [Maps.has]), if_neg (by simp [Maps.size])] at hC
  obtain ⟨ev1, rfl, hS4, hT4, hE4⟩ := hC
  have ko4 := hT4.bk ko (by omega) (by omega) (by simp [Value.ownBlock])
  rw [HL.out.2] at ko4
  have hbp := HS3.out.1
  have B4 := B3.trans (hT4.low B3.size (by omega) hb (by simp [Value.ownBlock]))
  have hol := ko.lt
  have hne1 : some o ≠ ev1.ownBlock := fun e => by
    rcases hE4 with h | ⟨g, h1, h2⟩
    · rw [h] at e; simp [Value.ownBlock] at e
    · rw [h2] at e; injection e with e; omega
  have hge1 : ∀ g, ev1.ownBlock = some g → w.heap.size ≤ g := fun g hg => by
    have := hS4.evGe hg
    omega
  have HS4 := Lib.hid hS4
  clear ko B3 HS3 hT4 hE4 hS4 hol w3
  have o2 := ko4.cell 2
  rw [show (NdL N1 0)[2]? = some (.int .u64 0) from rfl] at o2
  have f2 := ko4.frozen 2
  have ko5 := ko4.set 2 (.int .u64 1)
  rw [show (NdL N1 0).setIfInBounds 2 (.int .u64 1) = NdL N1 1 from rfl] at ko5
  have HS5 := Lib.hid (show StIs (w4.setCell ⟨o, 2, none⟩ (.int .u64 1)) p b 1 _ 9 1 ev1 _ from ⟨HS4.out.1, HS4.out.2.1.far (by simp; omega) _, HS4.out.2.2.1.setCell (by simp; omega) _, own_block HS4.out.2.2.2 fun g hg => Below.heap_setCell _ _ _ _ (fun e => hne1 (by rw [hg, e]))⟩)
  have B5 := B4.setCell (p := ⟨o, 2, none⟩) (by simp; omega) (.int .u64 1)
  simp only [Nat.zero_add]
  rw [show (((1 : Nat) : Int)) = 1 from rfl]
  have h1 : Is47 (NdL N1 1) := (NdL.nil N1 1).1
  go_wp2_with (refine wpl_loadg (cs := NdL N1 1) ko5 rfl 56 (.tmp 3) rfl rfl _ HU.out rfl (info47 h1) ?_)
  generalize w4.setCell ⟨o, 2, none⟩ (.int .u64 1) = w5 at ko5 HS5 B5 ⊢
  clear ko4 B4 HS4 o2 f2 w4
  have hi0 : Maps.IsMap (.map [] : DataW Value) := ⟨[], rfl⟩
  have hkl := keyLit_kOf 2 N1
  refine (nd_update hE'.out w5 p b 1 _ 9 1 ev1 _ HS5.out (by unfold maxLen; omega) N1 n1_nm n1_len 1 (NdL N1 1) h1 1 rfl (valAt_put_same hi0 hkl _ _) (by omega) (nextEvs_len _ (by simp))).mono ?_
  intro e w6 hC
  unfold UpdateSt at hC
  rw [if_neg (by rw [Maps.has_put_same hi0 hkl]; simp), if_pos rfl] at hC
  obtain ⟨ev2, rfl, hS6, hT6, hE6⟩ := hC
  have ko6 := hT6.bk ko5 (by omega) (by omega) hne1
  have B6 := B5.trans (hT6.low B5.size (by omega) hb hge1)
  have HS6 := Lib.hid hS6
  have hi1 := HS5.out.2.2.1.isMap
  clear hS6 hT6 hE6 ko5 B5 HS5 w5
  go_wp2_with (refine wpl_loadg (cs := NdL N1 1) ko6 rfl 56 (.tmp 3) rfl rfl _ HU.out rfl (info47 h1) ?_)
  refine (nd_update hE'.out w6 p b 2 _ 9 2 ev2 _ HS6.out (by unfold maxLen; omega) N1 n1_nm n1_len 1 (NdL N1 2) (NdL.nil N1 2).1 2 rfl (valAt_put_same hi1 hkl _ _) (by omega) (nextEvs_len _ (nextEvs_len _ (by simp)))).mono ?_
  intro e w7 hC
  unfold UpdateSt at hC
  rw [if_neg (by rw [Maps.has_put_same hi1 hkl]; simp), if_neg (by omega)] at hC
  obtain ⟨rfl, b7⟩ := hC
  have B7 := below_tr B6 b7
  clear b7 B6 HS6 ko6
  go_wp2_with fail
  go_ret
  exact ⟨rfl, B7⟩
end
end Go.Proofs.YtlhaiflebigdlaaGreat
end
section
namespace Go.Proofs.YtlhaiflebigdlaaGreat
open Go.RowKit Go.Proofs.Mem
def ndO (name : ByteArray) (v : Int) : Ob := ⟨2, name, v, .zero, .zero, ⟨⟨#[]⟩, 1, 0, .nil, .nil, 0, false⟩, .zero, .zero⟩
theorem emp_one8 : EmpOne := fun name v w => by
  have h := vempties_sub (ndO name v) w ⟨⟨rfl, rfl, rfl, Row.nil_ok, Row.nil_ok, Row.nil_ok, rfl⟩, ⟨by show (0 : Nat) ≤ reachBytes; decide, by show (0 : Nat) ≤ reachBytes; decide, rfl, rfl, rfl, rfl, Row.nil_ok, Row.nil_ok, Row.nil_ok, rfl⟩, ⟨by show (0 : Nat) ≤ reachBytes; decide, rfl, rfl, Row.nil_ok, Row.nil_ok, rfl⟩, ⟨rfl, rfl, rfl, rfl, rfl, Row.nil_ok, Row.nil_ok, rfl⟩, ⟨by show (0 : Nat) ≤ reachBytes; decide, rfl, rfl, Row.nil_ok, rfl, ⟨rfl, rfl, Row.nil_ok⟩, ⟨rfl, rfl, Row.nil_ok⟩, Row.nil_ok⟩⟩
  have e : cemptyB (ndO name v) = true := by kernel_rfl
  rw [e] at h
  exact h
theorem lives8 (w : World) : Calls Tryz.prog 4 #[] w fun e w' => e = .returned (.bool true) ∧ Below w.heap.size w w' := lives8_any emp_one8 w
end Go.Proofs.YtlhaiflebigdlaaGreat
end
section
namespace Go.Proofs.YtlhaiflebigdlaaGreat
open Go.RowKit Go.Proofs.Mem
set_option linter.unusedVariables false
set_option linter.unusedSimpArgs false
theorem run_boxg {ev : Operand → Value} {o : Oper} {L : Array Value} {t : TypeId} {x : Operand} (ho : o.op = .box t x) (hx : ev x = .agg L) (w : World) : (execOp ev o).run Tryz.prog w = .ok (.value (.pointer (some ⟨w.heap.size, 0, none⟩))) (w.alloc (.cells L t)) := by
  unfold execOp
  simp only [ho, hx]
  go_simp
def actA (ak : Int) (o : Ob) (right : Bool) : Array Value := ([Value.int .i64 ak] ++ o.cells ++ [Value.bool right]).toArray
theorem actA_is (ak : Int) (o : Ob) (right : Bool) : (actA ak o right).size = 49 ∧ (actA ak o right)[0]? = some (.int .i64 ak) ∧ (actA ak o right)[1]? = some (.int .i64 o.kind) ∧ (actA ak o right)[2]? = some (.string o.name) ∧ (actA ak o right)[3]? = some (.int .u64 o.version) ∧ (actA ak o right)[48]? = some (.bool right) := ⟨rfl, rfl, rfl, rfl, rfl, rfl⟩
theorem actA_ob (ak : Int) (o : Ob) (right : Bool) : ((actA ak o right).toList.drop 1).take 47 = o.cells := rfl
theorem actA_ver (ak : Int) (o : Ob) (right : Bool) (v : Int) : (actA ak o right).setIfInBounds 3 (.int .u64 v) = actA ak ⟨o.kind, o.name, v, o.w, o.p, o.n, o.g, o.h⟩ right := by
  unfold actA
  rw [List.setIfInBounds_toArray]
  exact congrArg List.toArray (by kernel_rfl)
set_option maxRecDepth 100000 in
def doF (p mb : Nat) (most : Int) (q : Nat) (fi : Int) (f : Nat → Value) : Array Value := #[.pointer (some ⟨p, 0, none⟩), .pointer (some ⟨mb, 0, none⟩), .int .i64 most, f 3, f 4, f 5, f 6, .pointer (some ⟨q, 0, none⟩), f 8, .int .i64 fi, f 10, f 11, f 12, f 13, f 14, f 15, f 16, f 17, f 18, f 19, f 20, f 21, f 22, f 23, f 24, f 25, f 26, f 27, f 28, f 29, f 30, f 31, f 32, f 33, f 34, f 35, f 36, f 37, f 38, f 39, f 40, f 41, f 42, f 43, f 44, f 45, f 46, f 47, f 48, f 49, f 50, f 51, f 52, f 53, f 54, f 55, f 56, f 57, f 58, f 59, f 60, f 61, f 62, f 63, f 64, f 65, f 66, f 67, f 68, f 69, f 70, f 71, f 72, f 73, f 74, f 75, f 76, f 77, f 78, f 79, f 80, f 81, f 82, f 83, f 84, f 85, f 86, f 87, f 88, f 89, f 90, f 91, f 92, f 93, f 94, f 95, f 96, f 97, f 98, f 99, f 100, f 101, f 102, f 103, f 104, f 105, f 106, f 107, f 108, f 109, f 110, f 111, f 112, f 113, f 114, f 115, f 116, f 117, f 118, f 119, f 120, f 121, f 122, f 123, f 124, f 125, f 126, f 127, f 128, f 129, f 130, f 131, f 132, f 133, f 134, f 135, f 136, f 137, f 138, f 139, f 140, f 141, f 142, f 143, f 144, f 145, f 146, f 147, f 148, f 149, f 150, f 151, f 152, f 153, f 154, f 155, f 156, f 157, f 158, f 159, f 160, f 161, f 162, f 163, f 164, f 165, f 166, f 167, f 168, f 169, f 170, f 171, f 172, f 173, f 174, f 175, f 176, f 177, f 178, f 179, f 180, f 181, f 182, f 183, f 184, f 185, f 186, f 187, f 188, f 189, f 190, f 191, f 192, f 193, f 194, f 195, f 196, f 197, f 198, f 199, f 200, f 201, f 202, f 203, f 204, f 205, f 206, f 207, f 208, f 209, f 210, f 211, f 212, f 213, f 214, f 215, f 216, f 217, f 218, f 219, f 220, f 221, f 222, f 223, f 224, f 225, f 226, f 227, f 228, f 229, f 230, f 231, f 232, f 233, f 234, f 235, f 236, f 237, f 238, f 239, f 240, f 241, f 242, f 243, f 244, f 245, f 246, f 247, f 248, f 249, f 250, f 251, f 252, f 253, f 254, f 255, f 256, f 257, f 258, f 259, f 260, f 261, f 262, f 263, f 264, f 265, f 266, f 267, f 268, f 269, f 270, f 271, f 272, f 273, f 274, f 275, f 276, f 277, f 278, f 279]
set_option maxRecDepth 100000 in
theorem frame280 (a : Act) {p mb q : Nat} {most fi : Int} (h : a.tmps.size = 280) (h0 : a.tmps[0]? = some (.pointer (some ⟨p, 0, none⟩))) (h1 : a.tmps[1]? = some (.pointer (some ⟨mb, 0, none⟩))) (h2 : a.tmps[2]? = some (.int .i64 most)) (h7 : a.tmps[7]? = some (.pointer (some ⟨q, 0, none⟩))) (h9 : a.tmps[9]? = some (.int .i64 fi)) (hd : a.defers = []) : ∃ f : Nat → Value, a = ⟨doF p mb most q fi f, []⟩ := by
  refine ⟨fun i => a.tmps.getD i undef, ?_⟩
  obtain ⟨T, ds⟩ := a
  simp only at h h0 h1 h2 h7 h9 hd
  subst hd
  have e0 : Value.pointer (some ⟨p, 0, none⟩) = T.getD 0 undef := by rw [Array.getD_eq_getD_getElem?, h0]; rfl
  have e1 : Value.pointer (some ⟨mb, 0, none⟩) = T.getD 1 undef := by rw [Array.getD_eq_getD_getElem?, h1]; rfl
  have e2 : Value.int .i64 most = T.getD 2 undef := by rw [Array.getD_eq_getD_getElem?, h2]; rfl
  have e7 : Value.pointer (some ⟨q, 0, none⟩) = T.getD 7 undef := by rw [Array.getD_eq_getD_getElem?, h7]; rfl
  have e9 : Value.int .i64 fi = T.getD 9 undef := by rw [Array.getD_eq_getD_getElem?, h9]; rfl
  refine congrArg (fun t => (⟨t, []⟩ : Act)) ?_
  unfold doF
  rw [e0, e1, e2, e7, e9]
  exact (frame_lit h).trans rfl
def IsRest (c : Code) : Prop := ∃ x y z, (Tryz.f7).body = some (.seq x (.seq y (.seq z c)))
def verOf (ml : List Ob) (o : Ob) (right : Bool) : Int := match right with
  | false => o.version
  | true => match findN o.kind o.name ml with
    | some i => match ml[i]? with
      | some x => x.version
      | none => o.version
    | none => o.version
set_option maxHeartbeats 4000000 in
set_option maxRecDepth 100000 in
theorem do8_pre (w : World) (p b n : Nat) (D : DataW Value) (most : Int) (now : Nat) (ev : Value) (evs : List Ev) (h : StIs w p b n D most now ev evs) (mb : Nat) (lv : Value) (mev : Value) (mevs : List Ev) (hm : MdIs w mb lv now mev mevs) (ml : List Ob) (hrow : w.ownsRow 0 56 47 lv ml.length (ml.flatMap Ob.cells)) (hok : ∀ x ∈ ml, x.Ok w) (hlen : ml.length ≤ 100000)
    (ak : Int) (o : Ob) (right : Bool) (ho : o.Ok w) (R : Ending → World → Prop)
    (hrest : ∀ (c : Code) (f : Nat → Value) (w3 : World) (v : Int), IsRest c → StIs w3 p b n D most now ev evs → MdIs w3 mb lv now mev mevs → Below w.heap.size w w3 → Bk w3 w.heap.size 58 (actA ak ⟨o.kind, o.name, v, o.w, o.p, o.n, o.g, o.h⟩ right) → v = verOf ml o right → c.wp Tryz.prog (bodyPost Tryz.prog Tryz.f7 R) ⟨doF p mb most w.heap.size (findI o.kind o.name ml) f, []⟩ w3) :
    Calls Tryz.prog 7 #[.pointer (some ⟨p, 0, none⟩), .pointer (some ⟨mb, 0, none⟩), .int .i64 most, .agg (actA ak o right)] w R := by
  obtain ⟨a0, a1, a2, a3, a4, a5⟩ := actA_is ak o right
  obtain ⟨A, hA⟩ : ∃ A, A = actA ak o right := ⟨_, rfl⟩
  rw [← hA] at a0 a1 a2 a3 a4 a5 ⊢
  have HA := Lib.hid (And.intro hA a0)
  clear hA a0
  have k1 := Bk.new w 58 A
  have B1 := below_al w (.cells A 58)
  obtain ⟨q, hq⟩ : ∃ q, q = w.heap.size := ⟨_, rfl⟩
  rw [← hq] at k1
  have hm1 := hm.below B1
  have hl1 := (Sl.of_own hrow).below B1
  have c0 : (w.alloc (.cells A 58)).cell? ⟨q, 1, none⟩ = some (.int .i64 o.kind) := by rw [k1.cell]; exact a2
  have c1 : (w.alloc (.cells A 58)).cell? ⟨q, 2, none⟩ = some (.string o.name) := by rw [k1.cell]; exact a3
  have hql : q < (w.alloc (.cells A 58)).heap.size := k1.lt
  have hqe : w.heap.size = q := hq.symm
  have HF := Lib.hid (fun (w1 : World) (h1 : Below w.heap.size w w1) (h2 : MdIs w1 mb lv now mev mevs) => find_any w1 mb lv ml (h2.1.cell 0) h2.1.lt ((Sl.of_own hrow).below h1) (fun x hx => cells_is x (hok x hx)) hlen o.kind o.name)
  have H1 := Lib.hid (And.intro hm1 (And.intro B1 k1))
  have HS := Lib.hid (And.intro h (And.intro hm (And.intro hrow (And.intro hok ho))))
  obtain ⟨w1, hw1⟩ : ∃ w1, w1 = w.alloc (.cells A 58) := ⟨_, rfl⟩
  rw [← hw1] at c0 c1 hql H1
  have HW := Lib.hid hw1.symm
  have HQ := Lib.hid hqe
  clear h hm hrow hok ho hm1 hl1 k1 B1 hq hw1 hqe
  go_enter Tryz.func7, Tryz.ntmps7
  refine wp_seq ?_
  refine wp_hide fun QA HQA => ?_
  go_wp2_with (refine wpl_allocg rfl (run_boxg rfl rfl _) ?_; rw [HW.out, HQ.out])
  rw [HQA.out]
  clear HQA QA
  simp only [Exit.then]
  refine wp_seq ?_
  refine wp_hide fun QB HQB => ?_
  go_wp2_with fail
  have S1 := HS.out.1.below H1.out.2.1
  refine (HF.out w1 H1.out.2.1 H1.out.1).mono ?_
  rintro e w2 ⟨rfl, b2⟩
  obtain ⟨m1, B1, k1⟩ := H1.out
  have m2 := m1.below b2
  have B2 := below_tr B1 b2
  have k2 := k1.below' b2
  have S2 := HS.out.1.below B2
  have R2 := (Sl.of_own HS.out.2.2.1).below B2
  have q48 : w2.cell? ⟨q, 48, none⟩ = some (.bool right) := by rw [k2.cell]; exact a5
  have q3 : w2.cell? ⟨q, 3, none⟩ = some (.int .u64 o.version) := by rw [k2.cell]; exact a4
  have f3 := k2.frozen 3
  have m0 := m2.1.cell 0
  have H2 := Lib.hid (And.intro m2 (And.intro B2 (And.intro k2 (And.intro S2 R2))))
  clear m1 B1 k1 m2 B2 k2 S2 R2 S1 b2 c0 c1 hql H1 a1 a2 a3 a4 a5
  have HREST := Lib.hid hrest
  clear hrest
  have hfin : ∀ (c : Code) (a : Act) (w3 : World) (v : Int), a.tmps.size = 280 → a.tmps[0]? = some (.pointer (some ⟨p, 0, none⟩)) → a.tmps[1]? = some (.pointer (some ⟨mb, 0, none⟩)) → a.tmps[2]? = some (.int .i64 most) → a.tmps[7]? = some (.pointer (some ⟨q, 0, none⟩)) → a.tmps[9]? = some (.int .i64 (findI o.kind o.name ml)) → a.defers = [] →
      StIs w3 p b n D most now ev evs → MdIs w3 mb lv now mev mevs → Below w.heap.size w w3 → Bk w3 q 58 (actA ak ⟨o.kind, o.name, v, o.w, o.p, o.n, o.g, o.h⟩ right) → v = verOf ml o right → IsRest c → c.wp Tryz.prog (bodyPost Tryz.prog Tryz.f7 R) a w3 := by
    intro c a w3 v s0 s1 s2 s3 s4 s5 s6 t1 t2 t3 t4 t5 t6
    obtain ⟨f, rfl⟩ := frame280 a s0 s1 s2 s3 s4 s5 s6
    have h9 := HREST.out c f w3 v t6 t1 t2 t3 (by rw [HQ.out]; exact t4) t5
    rw [HQ.out] at h9
    exact h9
  have HFIN := Lib.hid hfin
  clear hfin
  go_wp2_with fail
  rw [HQB.out]
  clear HQB QB
  simp only [Exit.then]
  refine wp_seq ?_
  refine wp_hide fun Q2 HQ2 => ?_
  obtain ⟨fi, hfi⟩ : ∃ fi, fi = findI o.kind o.name ml := ⟨_, rfl⟩
  rw [← hfi]
  have HFI := Lib.hid hfi
  cases hr : right with
  | false =>
    rw [hr] at q48
    have hv : o.version = verOf ml o right := by rw [hr]; rfl
    have HV := Lib.hid hv
    clear hv hr hfi
    go_wp2_with fail
    rw [HQ2.out]
    simp only [Exit.then]
    obtain ⟨m2, B2, k2, S2, R2⟩ := H2.out
    exact HFIN.out _ _ _ o.version rfl rfl rfl rfl rfl (by rw [HFI.out]; rfl) rfl S2 m2 B2 (by rw [← HA.out.1]; exact k2) HV.out ⟨_, _, _, rfl⟩
  | true =>
    rw [hr] at q48
    cases hf : findN o.kind o.name ml with
    | none =>
      have hm1 : fi = -1 := by rw [hfi]; unfold findI; rw [hf]
      have hv : o.version = verOf ml o right := by rw [hr]; unfold verOf; rw [hf]
      have HV := Lib.hid hv
      clear hv hr hfi hf
      subst hm1
      go_wp2_with fail
      rw [HQ2.out]
      simp only [Exit.then]
      obtain ⟨m2, B2, k2, S2, R2⟩ := H2.out
      exact HFIN.out _ _ _ o.version rfl rfl rfl rfl rfl (by rw [← HFI.out]; rfl) rfl S2 m2 B2 (by rw [← HA.out.1]; exact k2) HV.out ⟨_, _, _, rfl⟩
    | some i =>
      have hm1 : fi = (i : Int) := by rw [hfi]; unfold findI; rw [hf]
      have hil : i < ml.length := by
        unfold findN at hf
        rw [List.findIdx?_eq_some_iff_getElem] at hf
        exact hf.1
      have hv : (ml[i]).version = verOf ml o right := by rw [hr]; unfold verOf; rw [hf]; simp only; rw [List.getElem?_eq_getElem hil]
      obtain ⟨Al, cl, e1, hcl, _⟩ := id H2.out.2.2.2.2
      have hlv := e1
      subst hlv
      obtain ⟨b1, o1, rfl, hb1, hadd1, hcell⟩ := Sl.row' (s := 47) (f := Ob.cells) ob_len (by omega) H2.out.2.2.2.2 i hil
      have c2 := hcell 2 (.int .u64 (ml[i]).version) rfl
      have hve : (((ml[i]).version).toNat : Int) = (ml[i]).version := (version_nat (HS.out.2.2.2.1 _ (List.getElem_mem hil)).fit).symm
      generalize (ml[i]).version = vi at c2 hv hve
      have hge : (0 : Int) ≤ (i : Int) := by omega
      have hgel : (i : Int) < (ml.length : Int) := by omega
      have HV := Lib.hid hv
      clear hv hr hfi hf hcell e1
      subst hm1
      go_wp2_with fail
      rw [HQ2.out]
      simp only [Exit.then]
      obtain ⟨m2, B2, k2, S2, R2⟩ := H2.out
      have hqm : mb < w.heap.size := HS.out.2.1.1.lt
      have hqp := HS.out.1.2.1.lt
      have hqh := HQ.out
      have B3 := B2.setCell (p := ⟨q, 3, none⟩) (Nat.le_of_eq hqh) (.int .u64 vi)
      have m3 := HS.out.2.1.below B3
      have S3 := HS.out.1.below B3
      have k3 := k2.set 3 (.int .u64 vi)
      rw [HA.out.1, actA_ver] at k3
      exact HFIN.out _ _ _ vi rfl rfl rfl rfl rfl (by rw [← HFI.out]; rfl) rfl S3 m3 B3 k3 HV.out ⟨_, _, _, rfl⟩
end Go.Proofs.YtlhaiflebigdlaaGreat
end
section
namespace Go.Proofs.YtlhaiflebigdlaaGreat
open Go.RowKit Go.Proofs.Mem
set_option linter.unusedVariables false
set_option linter.unusedSimpArgs false
set_option maxHeartbeats 4000000 in
set_option maxRecDepth 100000 in
theorem do8_del_none (c : Code) (hc : IsRest c) (f : Nat → Value) (w : World) (p b n : Nat) (D : DataW Value) (most : Int) (now : Nat) (ev : Value) (evs : List Ev) (h : StIs w p b n D most now ev evs) (hnow : now < 1000000000) (hevs : evs.length ≤ 1024) (mb q : Nat) (ak : Int) (o : Ob) (right : Bool) (fi : Int) (hk0 : ak ≠ 0) (hk1 : ak ≠ 1) (ho : o.Ok w)
    (hq : Bk w q 58 (actA ak o right)) (hqp : q ≠ p) (hqb : q ≠ b) (hqe : some q ≠ ev.ownBlock)
    (Lw : Array Value) (hLw : Is47 Lw) (vw : Nat) (hvw : Lw[2]? = some (.int .u64 vw)) (hval : valAt D (kOf o.kind o.name) (.agg Z47) = .agg Lw) (hbad : (0 ≤ o.kind ∧ o.kind < 5) → Maps.has D (kOf o.kind o.name) = false ∧ fi < 0) :
    c.wp Tryz.prog (bodyPost Tryz.prog Tryz.f7 fun e w' => e = .returned (.bool true) ∧ Below w.heap.size w w') ⟨doF p mb most q fi f, []⟩ w := by
  obtain ⟨a0, a1, a2, a3, a4, a5⟩ := actA_is ak o right
  have c0 : w.cell? ⟨q, 0, none⟩ = some (.int .i64 ak) := by rw [hq.cell]; exact a1
  have c1 : w.cell? ⟨q, 1, none⟩ = some (.int .i64 o.kind) := by rw [hq.cell]; exact a2
  have c2 : w.cell? ⟨q, 2, none⟩ = some (.string o.name) := by rw [hq.cell]; exact a3
  obtain ⟨vn, hvn⟩ : ∃ vn : Nat, vn = o.version.toNat := ⟨_, rfl⟩
  have c3 : w.cell? ⟨q, 3, none⟩ = some (.int .u64 (vn : Int)) := by rw [hq.cell, hvn, ← version_nat ho.fit]; exact a4
  have HD := Lib.hid (sdelete_any w p b n D most now ev evs h hnow hevs o.kind o.name ho.kind (Nat.le_trans ho.name reach_max) vn Lw hLw vw hvw hval)
  have HB := Lib.hid hbad
  have HQ := Lib.hid (And.intro hq (And.intro h (And.intro hqp (And.intro hqb hqe))))
  have hk0' : (ak != 0) = true := by simpa using hk0
  have hk1' : (ak != 1) = true := by simpa using hk1
  clear hvn hq h hqp hqb hqe hbad hval hvw hLw ho hnow hevs a0 a1 a2 a3 a4 a5 hk0 hk1
  obtain ⟨x, y, z, hlit⟩ := hc
  cases hlit
  unfold doF
  go_wp2_with fail
  refine HD.out.mono ?_
  rintro e w1 hst
  unfold DeleteSt at hst
  by_cases hk : 0 ≤ o.kind ∧ o.kind < 5
  · obtain ⟨hh, hfi⟩ := HB.out hk
    rw [if_neg (fun h => h hk), if_pos hh] at hst
    obtain ⟨rfl, b1⟩ := hst
    have d1 : w1.cell? ⟨q, 1, none⟩ = some (.int .i64 o.kind) := by rw [(HQ.out.1.below' b1).cell]; exact (actA_is ak o right).2.2.1
    have HB1 := Lib.hid b1
    have hk1 : ¬ o.kind < 0 := by omega
    have hk2 : ¬ 5 ≤ o.kind := by omega
    clear b1 hh hk c0 c1 c2 c3
    go_wp2_with fail
    go_ret
    exact ⟨rfl, HB1.out⟩
  · rw [if_pos hk] at hst
    obtain ⟨rfl, b1⟩ := hst
    have d1 : w1.cell? ⟨q, 1, none⟩ = some (.int .i64 o.kind) := by rw [(HQ.out.1.below' b1).cell]; exact (actA_is ak o right).2.2.1
    have HB1 := Lib.hid b1
    clear b1 c0 c1 c2 c3
    by_cases hk1 : o.kind < 0
    · clear hk
      go_wp2_with fail
      go_ret
      exact ⟨rfl, HB1.out⟩
    · have hk2 : 5 ≤ o.kind := by omega
      clear hk
      go_wp2_with fail
      go_ret
      exact ⟨rfl, HB1.out⟩
set_option maxHeartbeats 4000000 in
set_option maxRecDepth 100000 in
theorem do8_del_mism (c : Code) (hc : IsRest c) (f : Nat → Value) (w : World) (p b n : Nat) (D : DataW Value) (most : Int) (now : Nat) (ev : Value) (evs : List Ev) (h : StIs w p b n D most now ev evs) (hnow : now < 1000000000) (hevs : evs.length ≤ 1024) (mb q : Nat) (ak : Int) (o : Ob) (right : Bool) (i : Nat) (hk0 : ak ≠ 0) (hk1 : ak ≠ 1) (ho : o.Ok w)
    (hq : Bk w q 58 (actA ak o right)) (lv : Value) (ml : List Ob) (hmb : w.cell? ⟨mb, 0, none⟩ = some lv) (hmbl : mb < w.heap.size) (hrow : Sl w 47 lv ml.length (ml.flatMap Ob.cells)) (hi : i < ml.length)
    (Lw : Array Value) (hLw : Is47 Lw) (vw : Nat) (hvw : Lw[2]? = some (.int .u64 vw)) (hval : valAt D (kOf o.kind o.name) (.agg Z47) = .agg Lw) (hvi : (ml[i]).version = (vw : Int)) (hk : 0 ≤ o.kind ∧ o.kind < 5) (hhas : Maps.has D (kOf o.kind o.name) = true) (hv0 : o.version ≠ 0) (hv1 : o.version ≠ (vw : Int)) :
    c.wp Tryz.prog (bodyPost Tryz.prog Tryz.f7 fun e w' => e = .returned (.bool true) ∧ Below w.heap.size w w') ⟨doF p mb most q (i : Int) f, []⟩ w := by
  obtain ⟨a0, a1, a2, a3, a4, a5⟩ := actA_is ak o right
  have c0 : w.cell? ⟨q, 0, none⟩ = some (.int .i64 ak) := by rw [hq.cell]; exact a1
  have c1 : w.cell? ⟨q, 1, none⟩ = some (.int .i64 o.kind) := by rw [hq.cell]; exact a2
  have c2 : w.cell? ⟨q, 2, none⟩ = some (.string o.name) := by rw [hq.cell]; exact a3
  obtain ⟨vn, hvn⟩ : ∃ vn : Nat, vn = o.version.toNat := ⟨_, rfl⟩
  have hvo := version_nat ho.fit
  rw [← hvn] at hvo
  have c3 : w.cell? ⟨q, 3, none⟩ = some (.int .u64 (vn : Int)) := by rw [hq.cell, ← hvo]; exact a4
  have hn0 : vn ≠ 0 := by omega
  have hn1 : vn ≠ vw := by omega
  have HD := Lib.hid (sdelete_any w p b n D most now ev evs h hnow hevs o.kind o.name ho.kind (Nat.le_trans ho.name reach_max) vn Lw hLw vw hvw hval)
  have hk0' : (ak != 0) = true := by simpa using hk0
  have hk1' : (ak != 1) = true := by simpa using hk1
  have HQ := Lib.hid (And.intro hq (And.intro hrow (And.intro hmbl hmb)))
  clear h hval hvw hLw ho hnow hevs a0 a1 a2 a3 a4 a5 hk0 hk1 hq hrow hmbl hmb hvn hvo hv0 hv1
  obtain ⟨x, y, z, hlit⟩ := hc
  cases hlit
  unfold doF
  go_wp2_with fail
  refine HD.out.mono ?_
  rintro e w1 hst
  unfold DeleteSt at hst
  rw [if_neg (fun h => h hk), if_neg (by rw [hhas]; simp), if_pos ⟨hn0, hn1⟩] at hst
  obtain ⟨rfl, b1⟩ := hst
  have hq1 := HQ.out.1.below' b1
  have d1 : w1.cell? ⟨q, 1, none⟩ = some (.int .i64 o.kind) := by rw [hq1.cell]; exact (actA_is ak o right).2.2.1
  have d3 : w1.cell? ⟨q, 3, none⟩ = some (.int .u64 (vn : Int)) := keep_cell b1 c3
  have dm : w1.cell? ⟨mb, 0, none⟩ = some lv := keep_cell b1 HQ.out.2.2.2
  have R1 := HQ.out.2.1.below b1
  obtain ⟨Al, cl, e1, hcl, _⟩ := id R1
  have hlv := e1
  subst hlv
  obtain ⟨b2, o2, rfl, hb2, hadd2, hcell⟩ := Sl.row' (s := 47) (f := Ob.cells) ob_len (by omega) R1 i hi
  have dv := hcell 2 (.int .u64 (vw : Int)) (by rw [← hvi]; rfl)
  have hge : (0 : Int) ≤ (i : Int) := by omega
  have hge2 : ¬ (i : Int) < 0 := by omega
  have hgel : (i : Int) < (ml.length : Int) := by omega
  have HB1 := Lib.hid b1
  have hk1 : ¬ o.kind < 0 := by omega
  have hk2 : ¬ 5 ≤ o.kind := by omega
  have hx0 : ((vn : Int) != 0) = true := by simpa using hn0
  have hx1 : ((vn : Int) != (vw : Int)) = true := by
    have : ¬ (vn : Int) = (vw : Int) := by omega
    simpa using this
  clear b1 hk c0 c1 c2 c3 R1 e1 hcell hq1 hn0 hn1 hvi
  go_wp2_with fail
  refine wp_region_sched [0, 1, 2, 3, 4, 5, 6, 7, 8, 9, 10, 11, 12, 13, 14, 15, 16, 17, 18] [] [] (fun i => !(i == 2 || i == 7 || i == 11 || i == 15)) (fun w' => w'.cell? ⟨q, 3, none⟩ = some (.int .u64 (vn : Int)) ∧ w'.cell? ⟨mb, 0, none⟩ = some (.slice (some ⟨b2, o2, none⟩) ml.length cl) ∧ w'.cell? ⟨b2, o2 + i * 47 + 2, none⟩ = some (.int .u64 (vw : Int))) (by kernel_rfl) (by kernel_rfl) (fun c a d v w h => by cases d <;> exact h) ⟨d3, dm, dv⟩ fun u0 Hu => ?_
  iterate 19
    first
      | refine readsL_free (v := ?_) (by rfl) (by rfl) (fun w' => ?_) ?_
        rotate_left
        · go_simp
          with_reducible rfl
      | refine readsL_step (v := ?_) (by rfl) (by rfl) (by rfl) (fun w' hS => ?_) ?_
        rotate_left
        · have u1 := hS.1
          have u2 := hS.2.1
          have u3 := hS.2.2
          clear hS
          go_simp
          with_reducible rfl
    simp only [Act.put, List.setIfInBounds_toArray, List.set_cons_zero, List.set_cons_succ, List.getElem_toArray, List.getElem_cons_succ, List.getElem_cons_zero]
  refine readsL_nil ?_
  refine earlyL_nil ?_
  simp only [List.filterMap_nil]
  have HU0 : RowKit.Hid (Below w.heap.size w u0) := by
    have := HB1.out.drew
    rw [← Hu.out] at this
    exact this
  clear Hu d1 d3 dm dv HB1
  go_wp2_with fail
  go_ret
  exact ⟨rfl, HU0.out⟩
end Go.Proofs.YtlhaiflebigdlaaGreat
end
section
namespace Go.Proofs.YtlhaiflebigdlaaGreat
open Go.RowKit Go.Proofs.Mem
set_option linter.unusedVariables false
set_option linter.unusedSimpArgs false
structure Apart (p b mb : Nat) (ev mev lv : Value) : Prop where
  mm : mev.ownBlock ≠ some mb
  pm : p ≠ mb
  bm : b ≠ mb
  em : ev.ownBlock ≠ some mb
  mp : mev.ownBlock ≠ some p
  mbb : mev.ownBlock ≠ some b
  me : ∀ g, mev.ownBlock = some g → ev.ownBlock ≠ some g
  lp : lv.ownBlock ≠ some p
  lb : lv.ownBlock ≠ some b
  lm : lv.ownBlock ≠ some mb
  le : ∀ g, lv.ownBlock = some g → ev.ownBlock ≠ some g
  lme : ∀ g, lv.ownBlock = some g → mev.ownBlock ≠ some g
section
variable {w w' : World} {p b n mb : Nat} {D : DataW Value} {most : Int} {now : Nat} {ev mev lv : Value} {evs mevs : List Ev}
theorem own_t3 {base s k : Nat} {e : TypeId} {v : Value} {xs : List Value} (h : w.ownsRow base e s v k xs) (ht : T3 p b ev w w') (hp : v.ownBlock ≠ some p) (hb : v.ownBlock ≠ some b) (he : ∀ g, v.ownBlock = some g → ev.ownBlock ≠ some g) : w'.ownsRow base e s v k xs :=
  own_block h fun g hg => ht.2.2.2.2 g (h.lt g hg).2 (fun e => hp (e ▸ hg)) (fun e => hb (e ▸ hg)) (fun e => he g hg e.symm)
theorem StIs.t3m (h : StIs w p b n D most now ev evs) (ht : T3 mb mb mev w w') (hp : p ≠ mb) (hb : b ≠ mb) (hpe : mev.ownBlock ≠ some p) (hbe : mev.ownBlock ≠ some b) (hem : ev.ownBlock ≠ some mb) (hee : ∀ g, ev.ownBlock = some g → mev.ownBlock ≠ some g) : StIs w' p b n D most now ev evs :=
  ⟨h.1, ht.bk h.2.1 hp hp (fun e => hpe e.symm), Mp.of_block h.2.2.1 (ht.2.2.2.2 b h.2.2.1.lt hb hb (fun e => hbe e.symm)), own_t3 h.2.2.2 ht hem hem hee⟩
theorem MdIs.t3 (h : MdIs w mb lv now mev mevs) (ht : T3 p b ev w w') (hap : Apart p b mb ev mev lv) : MdIs w' mb lv now mev mevs :=
  ⟨ht.bk h.1 (fun e => hap.pm e.symm) (fun e => hap.bm e.symm) (fun e => hap.em e.symm), own_t3 h.2 ht hap.mp hap.mbb hap.me⟩
end
def PF (p b mb : Nat) (ev mev lv : Value) (j : Nat) : Prop := j = p ∨ j = b ∨ j = mb ∨ ev.ownBlock = some j ∨ mev.ownBlock = some j ∨ lv.ownBlock = some j
theorem Apart.next {p b mb : Nat} {ev mev lv ev' mev' lv' : Value} (h : Apart p b mb ev mev lv) {s0 s1 s2 : Nat} (h01 : s0 ≤ s1) (h12 : s1 ≤ s2) (hp : p < s0) (hb : b < s0) (hm : mb < s0) (h0e : ∀ g, ev.ownBlock = some g → g < s0) (h0m : ∀ g, mev.ownBlock = some g → g < s0) (h0l : ∀ g, lv.ownBlock = some g → g < s0)
    (he : ∀ g, ev'.ownBlock = some g → ev.ownBlock = some g ∨ (s0 ≤ g ∧ g < s1)) (hme : ∀ g, mev'.ownBlock = some g → mev.ownBlock = some g ∨ (s1 ≤ g ∧ g < s2)) (hl : ∀ g, lv'.ownBlock = some g → lv.ownBlock = some g ∨ s2 ≤ g) : Apart p b mb ev' mev' lv' where
  mm := fun e => by
    rcases hme _ e with h1 | h1
    · exact h.mm h1
    · omega
  pm := h.pm
  bm := h.bm
  em := fun e => by
    rcases he _ e with h1 | h1
    · exact h.em h1
    · omega
  mp := fun e => by
    rcases hme _ e with h1 | h1
    · exact h.mp h1
    · omega
  mbb := fun e => by
    rcases hme _ e with h1 | h1
    · exact h.mbb h1
    · omega
  me := fun g hg e => by
    rcases hme g hg with h1 | h1 <;> rcases he g e with h2 | h2
    · exact h.me g h1 h2
    · have := h0m g h1; omega
    · have := h0e g h2; omega
    · omega
  lp := fun e => by
    rcases hl _ e with h1 | h1
    · exact h.lp h1
    · omega
  lb := fun e => by
    rcases hl _ e with h1 | h1
    · exact h.lb h1
    · omega
  lm := fun e => by
    rcases hl _ e with h1 | h1
    · exact h.lm h1
    · omega
  le := fun g hg e => by
    rcases hl g hg with h1 | h1 <;> rcases he g e with h2 | h2
    · exact h.le g h1 h2
    · have := h0l g h1; omega
    · have := h0e g h2; omega
    · omega
  lme := fun g hg e => by
    rcases hl g hg with h1 | h1 <;> rcases hme g e with h2 | h2
    · exact h.lme g h1 h2
    · have := h0l g h1; omega
    · have := h0m g h2; omega
    · omega
theorem EvTo.ne {w : World} {ev ev' : Value} {m : Nat} (h : EvTo w ev ev') (hm : ev.ownBlock ≠ some m) (hlt : m < w.heap.size) : ev'.ownBlock ≠ some m := fun e => by
  rcases h with h | ⟨g, hg, h⟩
  · exact hm (h ▸ e)
  · rw [h] at e; injection e with e; omega
theorem EvTo.alt {w : World} {ev ev' : Value} {s : Nat} (h : EvTo w ev ev') (hlt : ∀ g, ev'.ownBlock = some g → g < s) : ∀ g, ev'.ownBlock = some g → ev.ownBlock = some g ∨ (w.heap.size ≤ g ∧ g < s) := fun g hg => by
  rcases h with h | ⟨g', hg', h⟩
  · exact .inl (h ▸ hg)
  · right
    have := hlt g hg
    rw [h] at hg
    injection hg with hg
    omega
def ActOut (w : World) (p b n : Nat) (D : DataW Value) (most : Int) (now : Nat) (ev : Value) (evs : List Ev) (mb : Nat) (lv mev : Value) (mevs : List Ev) (ml : List Ob) (x : Ev) (Pq : Value → Value → Value → World → Prop) (e : Ending) (w' : World) : Prop :=
  e = .returned (.bool true) ∧ ∃ ev' mev' lv', Pq ev' mev' lv' w' ∧ StIs w' p b n D most (now + 1) ev' (nextEvs evs x) ∧ MdIs w' mb lv' (now + 1) mev' (mevs ++ [x]) ∧ w'.ownsRow 0 56 47 lv' ml.length (ml.flatMap Ob.cells) ∧ Tch (PF p b mb ev mev lv) w w' ∧ EvTo w ev ev' ∧ EvTo w mev mev' ∧ (∀ g, lv'.ownBlock = some g → w.heap.size ≤ g ∨ lv.ownBlock = some g) ∧ Apart p b mb ev' mev' lv'
theorem tch_t3 {F : Nat → Prop} {w w' : World} {p b : Nat} {ev : Value} (ht : T3 p b ev w w') (hF : ∀ j, ¬ F j → j ≠ p ∧ j ≠ b ∧ some j ≠ ev.ownBlock) : Tch F w w' :=
  ⟨ht.1, ht.2.1, ht.2.2.1, ht.size, fun i hi hn => ht.2.2.2.2 i hi (hF i hn).1 (hF i hn).2.1 (hF i hn).2.2⟩
theorem tch_set {F : Nat → Prop} {w w' : World} (h : Tch F w w') {g k : Nat} (hg : F g) (v : Value) : Tch F w (w'.setCell ⟨g, k, none⟩ v) :=
  ⟨h.1, h.2.1, h.2.2.1, by have := h.size; simp [World.setCell]; omega, fun i hi hn => (Below.heap_setCell w' _ v i (fun e => hn (by rw [e]; exact hg))).trans (h.2.2.2.2 i hi hn)⟩
theorem readsL_pass {P : Program} {ops : Array Oper} {S : World → Prop} {free : Nat → Bool} {Lq : Act → Prop} {i : Nat} {o : Oper} {r : List Nat} {a : Act} (hi : ops[i]? = some o) (hw : Region.wanted o (yielded ops a.tmps) = false) (h : wpReadsL P ops S free Lq r (a.put o.dst undef)) : wpReadsL P ops S free Lq (i :: r) a :=
  ⟨o, undef, hi, .inr ⟨hw, rfl⟩, h⟩
theorem take_flat {α : Type} {s : Nat} (f : α → List Value) (hf : ∀ x, (f x).length = s) : ∀ (xs : List α) (k : Nat), (xs.flatMap f).take (k * s) = (xs.take k).flatMap f
  | [], k => by simp
  | x :: xs, 0 => by simp
  | x :: xs, k + 1 => by
    rw [List.flatMap_cons, List.take_succ_cons, List.flatMap_cons, Nat.succ_mul, Nat.add_comm, List.take_append, hf, Nat.add_sub_cancel_left, take_flat f hf xs k, List.take_of_length_le (by rw [hf]; omega)]
theorem drop_flat8 {α : Type} {s : Nat} (f : α → List Value) (hf : ∀ x, (f x).length = s) : ∀ (xs : List α) (k : Nat), (xs.flatMap f).drop (k * s) = (xs.drop k).flatMap f
  | [], k => by simp
  | x :: xs, 0 => by simp
  | x :: xs, k + 1 => by
    rw [List.flatMap_cons, List.drop_succ_cons, Nat.succ_mul, Nat.add_comm, List.drop_append, hf, Nat.add_sub_cancel_left, drop_flat8 f hf xs k, List.drop_of_length_le (by rw [hf]; omega), List.nil_append]
theorem early_append {P : Program} {ops : Array Oper} {Q : Exit → Act → World → Prop} {S : World → Prop} {tail : Act → World → Prop} {j : Nat} {o : Oper} {r : List (Bool × Nat)} {a : Act} {w : World} (hi : ops[j]? = some o) (hgd : o.guard = none) (s x : Operand) (t : TypeId)
    (ho : o.op = .call { callee := .builtin .append, args := #[s, x], argTypes := #[t, t] })
    (base : Nat) (e : TypeId) (z : Value) (size bytes : Nat) (ht : P.underlying t = some (.slice e)) (hinfo : (P.info? e).map (fun i => (i.zero, i.size, i.bytes)) = some (some z, size, bytes))
    (hzs : z.cells.size = size) (hsz : 0 < size) (hby : 0 < bytes)
    (v : Value) (n : Nat) (xs : List Value) (hs : a.eval s = v) (hown : w.ownsRow base e size v n xs)
    (y : Value) (m : Nat) (news : List Value) (hx : a.eval x = y) (hr : Sl w size y m news) (h1 : ∀ u ∈ news, u.oneCell' = true)
    (hbytes : (n + m) * bytes ≤ 140737488355328) (hbase : base ≤ w.heap.size)
    (h : ∀ A c w', w'.ownsRow base e size (.slice A (n + m) c) (n + m) (xs ++ news) → w.grownBy w' v.ownBlock → ((Value.slice A (n + m) c).ownBlock = v.ownBlock ∨ (Value.slice A (n + m) c).ownBlock = some w.heap.size) → S w' ∧ wpEarlyL P ops Q S tail r (a.put o.dst (.slice A (n + m) c)) w') :
    wpEarlyL P ops Q S tail ((false, j) :: r) a w := by
  refine earlyL_op hi (wanted_none hgd) ?_
  obtain ⟨v', w', hrun, h2, h3, h4⟩ := run_append (P := P) w base t o.type e z size bytes ht hinfo hzs hsz hby v n xs hown y m news hr h1 hbytes hbase
  obtain ⟨A, c, rfl, _⟩ := Sl.of_own h2
  unfold Oper.wp execOp
  simp only [ho, resolve, invoke, builtin, Sem.run_bind, Sem.run_pure, Result.andThen_ok, List.map_toArray, List.map_cons, List.map_nil, hs, hx, hrun]
  exact h A c w' h2 h3 h4
theorem objs_one {l : List Ob} (h : ∀ x ∈ l, Is47 x.cells.toArray) : ∀ u ∈ l.flatMap Ob.cells, u.oneCell' = true := by
  intro u hu
  obtain ⟨x, hx, hu⟩ := List.mem_flatMap.1 hu
  exact List.all_eq_true.1 (h x hx).2 u (by simpa using hu)
theorem info_obj : (Tryz.prog.info? 56).map (fun i => (i.zero, i.size, i.bytes)) = some (some (.agg Z47), 47, 640) := by kernel_rfl
set_option maxHeartbeats 8000000 in
set_option maxRecDepth 100000 in
theorem do8_del_ok (c : Code) (hc : IsRest c) (f : Nat → Value) (w : World) (p b n : Nat) (D : DataW Value) (most : Int) (now : Nat) (ev : Value) (evs : List Ev) (h : StIs w p b n D most now ev evs) (hnow : now < 1000000) (hevs : evs.length ≤ 1024) (mb q : Nat) (lv mev : Value) (mevs : List Ev) (hm : MdIs w mb lv now mev mevs) (hmevs : mevs.length < 100000) (ml : List Ob) (hml : ml.length < 1000) (hrow : w.ownsRow 0 56 47 lv ml.length (ml.flatMap Ob.cells)) (hone : ∀ x ∈ ml, Is47 x.cells.toArray) (hap : Apart p b mb ev mev lv)
    (ak : Int) (o : Ob) (right : Bool) (i : Nat) (hk0 : ak ≠ 0) (hk1 : ak ≠ 1) (ho : o.Ok w) (hq : Bk w q 58 (actA ak o right)) (hqp : q ≠ p) (hqb : q ≠ b) (hqm : q ≠ mb) (hqe : ev.ownBlock ≠ some q) (hqme : mev.ownBlock ≠ some q) (hi : i < ml.length)
    (Lw : Array Value) (hLw : Is47 Lw) (vw : Nat) (hvw : Lw[2]? = some (.int .u64 vw)) (hval : valAt D (kOf o.kind o.name) (.agg Z47) = .agg Lw) (hvi : (ml[i]).version = (vw : Int)) (hk : 0 ≤ o.kind ∧ o.kind < 5) (hhas : Maps.has D (kOf o.kind o.name) = true) (hv : o.version = 0 ∨ o.version = (vw : Int)) :
    c.wp Tryz.prog (bodyPost Tryz.prog Tryz.f7 (ActOut w p b n (D.del (kOf o.kind o.name)) most now ev evs mb lv mev mevs (ml.eraseIdx i) ⟨2, o.kind, o.name, now + 1⟩ (fun _ _ _ _ => True))) ⟨doF p mb most q (i : Int) f, []⟩ w := by
  obtain ⟨a0, a1, a2, a3, a4, a5⟩ := actA_is ak o right
  have c0 : w.cell? ⟨q, 0, none⟩ = some (.int .i64 ak) := by rw [hq.cell]; exact a1
  have c1 : w.cell? ⟨q, 1, none⟩ = some (.int .i64 o.kind) := by rw [hq.cell]; exact a2
  have c2 : w.cell? ⟨q, 2, none⟩ = some (.string o.name) := by rw [hq.cell]; exact a3
  obtain ⟨vn, hvn⟩ : ∃ vn : Nat, vn = o.version.toNat := ⟨_, rfl⟩
  have hvo := version_nat ho.fit
  rw [← hvn] at hvo
  have c3 : w.cell? ⟨q, 3, none⟩ = some (.int .u64 (vn : Int)) := by rw [hq.cell, ← hvo]; exact a4
  have hvc : vn = 0 ∨ vn = vw := by omega
  have HD := Lib.hid (sdelete_any w p b n D most now ev evs h (by omega) hevs o.kind o.name ho.kind (Nat.le_trans ho.name reach_max) vn Lw hLw vw hvw hval)
  have hk0' : (ak != 0) = true := by simpa using hk0
  have hk1' : (ak != 1) = true := by simpa using hk1
  have HAP := Lib.hid hap
  have HM := Lib.hid (And.intro hm (And.intro hrow (And.intro hq (And.intro h (And.intro hone (And.intro hmevs hnow))))))
  have HO := Lib.hid ho
  have HQN := Lib.hid (And.intro hqp (And.intro hqb (And.intro hqm (And.intro hqe hqme))))
  have hlen : (ml.length : Int) < 1000 := by omega
  clear h hval hvw hLw ho hnow hevs hmevs hml a0 a1 a2 a3 a4 a5 hk0 hk1 hq hrow hm hone hvn hvo hv hqp hqb hqm hqe hqme
  obtain ⟨x, y, z, hlit⟩ := hc
  cases hlit
  unfold doF
  go_wp2_with fail
  refine HD.out.mono ?_
  rintro e w1 hst
  unfold DeleteSt at hst
  rw [if_neg (fun h => h hk), if_neg (by rw [hhas]; simp), if_neg (by omega)] at hst
  obtain ⟨ev1, rfl, S1, T1, E1⟩ := hst
  obtain ⟨hqp, hqb, hqm, hqe, hqme⟩ := HQN.out
  have hq1 := T1.bk HM.out.2.2.1 hqp hqb (fun e => hqe e.symm)
  have m1 := HM.out.1.t3 T1 hap
  have r1 := own_t3 HM.out.2.1 T1 hap.lp hap.lb hap.le
  have d1 : w1.cell? ⟨q, 1, none⟩ = some (.int .i64 o.kind) := by rw [hq1.cell]; exact (actA_is ak o right).2.2.1
  have d3 : w1.cell? ⟨q, 3, none⟩ = some (.int .u64 (vn : Int)) := by
    rw [hq1.cell, ← HM.out.2.2.1.cell]
    exact c3
  have dm : w1.cell? ⟨mb, 0, none⟩ = some lv := m1.1.cell 0
  obtain ⟨Al, cl, e1, hcl, _⟩ := id (Sl.of_own r1)
  have hlv := e1
  subst hlv
  obtain ⟨b2, o2, rfl, hb2, hadd2, hcell⟩ := Sl.row' (s := 47) (f := Ob.cells) ob_len (by omega) (Sl.of_own r1) i hi
  have dv := hcell 2 (.int .u64 (vw : Int)) (by rw [← hvi]; rfl)
  have hge : (0 : Int) ≤ (i : Int) := by omega
  have hge2 : ¬ (i : Int) < 0 := by omega
  have hgel : (i : Int) < (ml.length : Int) := by omega
  have H1 := Lib.hid (And.intro S1 (And.intro T1 (And.intro E1 (And.intro hq1 (And.intro m1 r1)))))
  have hk1 : ¬ o.kind < 0 := by omega
  have hk2 : ¬ 5 ≤ o.kind := by omega
  have hI := Lib.hid (And.intro hi (And.intro hcl hvi))
  clear hap S1 T1 E1 hq1 m1 r1 hk c0 c1 c2 c3 e1 hcell hqp hqb hqm hqe hqme
  go_wp2_with fail
  by_cases hz : vn = 0
  focus
    have hx0 : ((vn : Int) != 0) = false := by rw [hz]; rfl
    clear hvc hz
    refine wp_region_sched [0, 1, 2, 3, 4, 5, 6, 7, 8, 9, 10, 11, 12, 13, 14, 15, 16, 17, 18] [] [] (fun i => !(i == 2 || i == 7 || i == 11 || i == 15)) (fun w' => w'.cell? ⟨q, 3, none⟩ = some (.int .u64 (vn : Int)) ∧ w'.cell? ⟨mb, 0, none⟩ = some (.slice (some ⟨b2, o2, none⟩) ml.length cl) ∧ w'.cell? ⟨b2, o2 + i * 47 + 2, none⟩ = some (.int .u64 (vw : Int))) (by kernel_rfl) (by kernel_rfl) (fun c a d v w h => by cases d <;> exact h) ⟨d3, dm, dv⟩ fun u0 Hu => ?_
    iterate 5
      first
        | refine readsL_free (v := ?_) (by rfl) (by rfl) (fun w' => ?_) ?_
          rotate_left
          · go_simp
            with_reducible rfl
        | refine readsL_step (v := ?_) (by rfl) (by rfl) (by rfl) (fun w' hS => ?_) ?_
          rotate_left
          · have u1 := hS.1
            have u2 := hS.2.1
            have u3 := hS.2.2
            clear hS
            go_simp
            with_reducible rfl
      simp only [Act.put, List.setIfInBounds_toArray, List.set_cons_zero, List.set_cons_succ, List.getElem_toArray, List.getElem_cons_succ, List.getElem_cons_zero]
    iterate 11
      refine readsL_pass (by rfl) (by rfl) ?_
      simp only [Act.put, List.setIfInBounds_toArray, List.set_cons_zero, List.set_cons_succ, List.getElem_toArray, List.getElem_cons_succ, List.getElem_cons_zero]
    refine readsL_pass (by rfl) (by rfl) ?_
  rotate_left
  focus
    have hx0 : ((vn : Int) != 0) = true := by
      have : ¬ (vn : Int) = 0 := by omega
      simpa using this
    have hx1 : ((vn : Int) != (vw : Int)) = false := by
      have : vn = vw := hvc.resolve_left hz
      rw [this]
      simp
    clear hvc hz
    refine wp_region_sched [0, 1, 2, 3, 4, 5, 6, 7, 8, 9, 10, 11, 12, 13, 14, 15, 16, 17, 18] [] [] (fun i => !(i == 2 || i == 7 || i == 11 || i == 15)) (fun w' => w'.cell? ⟨q, 3, none⟩ = some (.int .u64 (vn : Int)) ∧ w'.cell? ⟨mb, 0, none⟩ = some (.slice (some ⟨b2, o2, none⟩) ml.length cl) ∧ w'.cell? ⟨b2, o2 + i * 47 + 2, none⟩ = some (.int .u64 (vw : Int))) (by kernel_rfl) (by kernel_rfl) (fun c a d v w h => by cases d <;> exact h) ⟨d3, dm, dv⟩ fun u0 Hu => ?_
    iterate 16
      first
        | refine readsL_free (v := ?_) (by rfl) (by rfl) (fun w' => ?_) ?_
          rotate_left
          · go_simp
            with_reducible rfl
        | refine readsL_step (v := ?_) (by rfl) (by rfl) (by rfl) (fun w' hS => ?_) ?_
          rotate_left
          · have u1 := hS.1
            have u2 := hS.2.1
            have u3 := hS.2.2
            clear hS
            go_simp
            with_reducible rfl
      simp only [Act.put, List.setIfInBounds_toArray, List.set_cons_zero, List.set_cons_succ, List.getElem_toArray, List.getElem_cons_succ, List.getElem_cons_zero]
    refine readsL_free (v := ?_) (by rfl) (by rfl) (fun w' => ?_) ?_
    rotate_left
    · go_simp
      with_reducible rfl
  all_goals
    simp only [Act.put, List.setIfInBounds_toArray, List.set_cons_zero, List.set_cons_succ, List.getElem_toArray, List.getElem_cons_succ, List.getElem_cons_zero]
    iterate 2
      refine readsL_free (v := ?_) (by rfl) (by rfl) (fun w' => ?_) ?_
      rotate_left
      · go_simp
        with_reducible rfl
      simp only [Act.put, List.setIfInBounds_toArray, List.set_cons_zero, List.set_cons_succ, List.getElem_toArray, List.getElem_cons_succ, List.getElem_cons_zero]
    refine readsL_nil ?_
    refine earlyL_nil ?_
    simp only [List.filterMap_nil]
    obtain ⟨S1, T1, E1, hq1, m1, r1⟩ := H1.out
    have bu : Below w1.heap.size w1 u0 := by
      rw [Hu.out]
      exact (Below.refl _ _).drew
    clear Hu d1 d3 dm dv
    have H2 := Lib.hid (And.intro (S1.below bu) (And.intro (T1.trans E1 (T3.of_below bu)) (And.intro E1 (And.intro (hq1.below' bu) (And.intro (m1.below bu) (own_below r1 bu))))))
    clear S1 T1 E1 hq1 m1 r1 bu H1
    go_wp2_with (refine wpl_loadat (by have := range_sub H2.out.2.2.2.1.range 1 47; rw [actA_ob] at this; exact this) rfl 56 (.tmp 116) rfl rfl _ Tryz.underlying56 rfl (by kernel_rfl) ?_)
    refine (note8_any u0 mb _ now mev mevs H2.out.2.2.2.2.1 HAP.out.mm (by have := HM.out.2.2.2.2.2.2; omega) HM.out.2.2.2.2.2.1 2 o.kind o.name o.version.toNat o.cells.toArray (obL_of HO.out)).mono ?_
    rintro e w2 ⟨mev', rfl, M2, TM2, EM2⟩
    have hap := HAP.out
    obtain ⟨S1, T1, E1, hq1, m1, r1⟩ := H2.out
    have hmbw : mb < w.heap.size := HM.out.1.1.lt
    have hmevw : ∀ g, mev.ownBlock = some g → g < w.heap.size := fun g hg => (HM.out.1.evGe hg)
    have em1 : ev1.ownBlock ≠ some mb := fun e => by
      rcases E1 with h | ⟨g, hg, h⟩
      · exact hap.em (h ▸ e)
      · rw [h] at e; injection e with e; omega
    have ee1 : ∀ g, ev1.ownBlock = some g → mev.ownBlock ≠ some g := fun g hg e => by
      rcases E1 with h | ⟨g', hg', h⟩
      · exact hap.me g e (h ▸ hg)
      · rw [h] at hg; injection hg with hg; have := hmevw g e; omega
    have HEL := Lib.hid (show ∀ g, ev1.ownBlock = some g → g < u0.heap.size from fun g hg => (S1.evGe hg).2)
    have S2 := S1.t3m TM2 hap.pm hap.bm hap.mp hap.mbb em1 ee1
    have r2 := own_t3 r1 TM2 hap.lm hap.lm hap.lme
    have dm : w2.cell? ⟨mb, 0, none⟩ = some (.slice (some ⟨b2, o2, none⟩) ml.length cl) := M2.1.cell 0
    have hmw2 := M2.1.lt
    have hnl : i + (ml.length - (i + 1)) = ml.length - 1 := by have := hI.out.1; omega
    have g5 : (i : Int) + 1 < 1000 := by omega
    have g6 : (i : Int) + 1 ≤ (ml.length : Int) := by omega
    have g7 : (i : Int) + 1 ≤ (cl : Int) := by have := hI.out.2.1; omega
    have g8 : (ml.length : Int) ≤ (cl : Int) := by have := hI.out.2.1; omega
    have g9 : (i : Int) ≤ (cl : Int) := by omega
    have hwr := wrap_add i (by omega)
    have g10 : ((i + 1 : Nat) : Int) ≤ (ml.length : Int) := by omega
    have g11 : (0 : Int) ≤ (i : Int) + 1 := by omega
    have H3 := Lib.hid (And.intro S2 (And.intro T1 (And.intro E1 (And.intro TM2 (And.intro EM2 (And.intro M2 r2))))))
    have HEM := Lib.hid em1
    have HNL := Lib.hid hnl
    clear S1 T1 E1 hq1 m1 r1 hap hmbw hmevw em1 ee1 S2 r2 M2 TM2 EM2 H2 hnl
    go_wp2_with fail
    refine wp_region_sched [0, 2, 3, 4, 5, 6, 7, 9, 10, 11, 12, 13, 14, 15] [(false, 1), (false, 8), (false, 16)] [17, 18, 19] (fun i => !(i == 5 || i == 12)) (fun w' => w'.cell? ⟨mb, 0, none⟩ = some (.slice (some ⟨b2, o2, none⟩) ml.length cl)) (by kernel_rfl) (by kernel_rfl) (fun c a d v w h => by cases d <;> exact h) dm fun u1 Hu => ?_
    iterate 14
      first
        | refine readsL_free (v := ?_) (by rfl) (by rfl) (fun w' => ?_) ?_
          rotate_left
          · go_simp
            with_reducible rfl
        | refine readsL_step (v := ?_) (by rfl) (by rfl) (by rfl) (fun w' hS => ?_) ?_
          rotate_left
          · have u1 := hS
            clear hS
            go_simp
            with_reducible rfl
      simp only [Act.put, List.setIfInBounds_toArray, List.set_cons_zero, List.set_cons_succ, List.getElem_toArray, List.getElem_cons_succ, List.getElem_cons_zero]
    refine readsL_nil ?_
    have bu1 : Below w2.heap.size w2 u1 := by
      rw [Hu.out]
      exact (Below.refl _ _).drew
    obtain ⟨S2, T1, E1, TM2, EM2, M2, r2⟩ := H3.out
    obtain ⟨z, hz⟩ : ∃ z, z = u1.heap.size := ⟨_, rfl⟩
    have B3 : Below w2.heap.size w2 (u1.alloc (.cells #[] 56)) := bu1.alloc bu1.size _
    have k0 : Bk (u1.alloc (.cells #[] 56)) z 56 #[] := by rw [hz]; exact Bk.new u1 _ _
    have hzl : w2.heap.size ≤ z := by rw [hz]; exact bu1.size
    have hown0 : (u1.alloc (.cells #[] 56)).ownsRow w2.heap.size 56 47 (.slice (some ⟨z, 0, none⟩) 0 0) 0 [] := by
      have := k0.own (base := w2.heap.size) (size := 47) (n := 0) (c := 0) hzl (Nat.le_refl _) (by simp [maxLen]) rfl
      simpa using this
    refine earlyL_run (v := .slice (some ⟨z, 0, none⟩) 0 0) (w1 := u1.alloc (.cells #[] 56)) (by rfl) (by rfl) (by rw [hz]; go_simp) ((M2.below B3).1.cell 0) ?_
    simp only [Act.put, List.setIfInBounds_toArray, List.set_cons_zero, List.set_cons_succ, List.getElem_toArray, List.getElem_cons_succ, List.getElem_cons_zero]
    have hilt := hI.out.1
    have R3 := (Sl.of_own r2).below B3
    have tk := R3.take (k := i) (by omega)
    rw [take_flat Ob.cells ob_len] at tk
    have HONE := Lib.hid HM.out.2.2.2.2.1
    have H5 := Lib.hid (And.intro S2 (And.intro T1 (And.intro E1 (And.intro TM2 (And.intro EM2 (And.intro M2 r2))))))
    clear S2 T1 E1 TM2 EM2 M2 r2 hz R3 bu1 H3 Hu dm k0
    refine early_append (by rfl) rfl (.tmp 120) (.tmp 126) 31 rfl w2.heap.size 56 _ 47 640 Tryz.underlying31 info_obj rfl (by omega) (by omega) _ 0 [] rfl hown0 _ i _ rfl tk (objs_one fun x hx => HONE.out x (List.mem_of_mem_take hx)) (by omega) B3.size ?_
    intro A4 c4 w4 hown4 hg4 hb4
    have B4 := below_grown B3 hown0 hg4 B3.size (Nat.le_refl _)
    refine ⟨(H5.out.2.2.2.2.2.1.below B4).1.cell 0, ?_⟩
    clear B3 hown0 hg4 tk hb4
    have R4 := (Sl.of_own H5.out.2.2.2.2.2.2).below B4
    have dr := R4.drop (k := i + 1) (by omega)
    rw [drop_flat8 Ob.cells ob_len] at dr
    have hdv : Value.slice (if cl = i + 1 then some ⟨b2, o2, none⟩ else Option.map (fun x => x.add ((i + 1) * 47)) (some (⟨b2, o2, none⟩ : Addr))) (ml.length - (i + 1)) (cl - (i + 1)) = Value.slice (if cl = i + 1 then some ⟨b2, o2, none⟩ else some ⟨b2, o2 + (i + 1) * 47, none⟩) (ml.length - (i + 1)) (cl - (i + 1)) := by
      rw [Option.map_some, add_lit]
    rw [hdv] at dr
    clear hdv R4
    simp only [Act.put, List.setIfInBounds_toArray, List.set_cons_zero, List.set_cons_succ, List.getElem_toArray, List.getElem_cons_succ, List.getElem_cons_zero]
    refine early_append (by rfl) rfl (.tmp 127) (.tmp 134) 31 rfl w2.heap.size 56 _ 47 640 Tryz.underlying31 info_obj rfl (by omega) (by omega) _ (0 + i) _ rfl hown4 _ (ml.length - (i + 1)) _ rfl dr (objs_one fun x hx => HONE.out x (List.mem_of_mem_drop hx)) (by omega) B4.size ?_
    intro A5 c5 w5 hown5 hg5 hb5
    have B5 := below_grown B4 hown4 hg5 B4.size (Nat.le_refl _)
    refine ⟨(H5.out.2.2.2.2.2.1.below B5).1.cell 0, ?_⟩
    clear B4 hown4 hg5 dr hb5
    refine earlyL_nil ?_
    simp only [Act.put, List.setIfInBounds_toArray, List.set_cons_zero, List.set_cons_succ, List.getElem_toArray, List.getElem_cons_succ, List.getElem_cons_zero]
    simp only [List.filterMap_cons, List.filterMap_nil, List.getElem?_toArray, List.getElem?_cons_succ, List.getElem?_cons_zero]
    have M5 := H5.out.2.2.2.2.2.1.below B5
    have dm := M5.1.cell 0
    have d1 : w5.cell? ⟨mb, 1, none⟩ = some (.int .u64 ((now : Int) + 1)) := by
      have := M5.1.cell 1
      rw [this]
      simp
    have f0 := M5.1.frozen 0
    have H6 := Lib.hid (And.intro M5 (And.intro B5 hown5))
    clear M5 B5 hown5
    go_wp2_with fail
    all_goals
      go_ret
      obtain ⟨M5, B5, hown5⟩ := H6.out
      obtain ⟨S2, T1, E1, TM2, EM2, M2, r2⟩ := H5.out
      have hap := HAP.out
      have hilt := hI.out.1
      rw [Nat.zero_add] at hown5
      have hmw := M2.1.lt
      have S6 := (S2.below B5).t3m (ev := ev1) (mev := .slice none 0 0) (((T3.of_below (p := mb) (b := mb) (ev := .slice none 0 0) ((Below.refl w5.heap.size w5)))).setP 0 (.slice A5 (i + (ml.length - (i + 1))) c5)) hap.pm hap.bm (fun e => by cases e) (fun e => by cases e) HEM.out (fun _ _ e => by cases e)
      have k6 := M5.1.set 0 (.slice A5 (i + (ml.length - (i + 1))) c5)
      simp only [List.setIfInBounds_toArray, List.set_cons_zero, List.set_cons_succ] at k6
      have o6 := own_block (w' := w5.setCell ⟨mb, 0, none⟩ (.slice A5 (i + (ml.length - (i + 1))) c5)) M5.2 (fun g hg => Below.heap_setCell _ _ _ _ (by simp; exact fun e => EvTo.ne EM2 hap.mm (Nat.lt_of_lt_of_le HM.out.1.1.lt T1.size) (e ▸ hg)))
      have r6 := own_mono (b2 := 0) (own_block (w' := w5.setCell ⟨mb, 0, none⟩ (.slice A5 (i + (ml.length - (i + 1))) c5)) hown5 (fun g hg => Below.heap_setCell _ _ _ _ (by have := (hown5.lt g hg).1; simp; omega))) (by omega)
      have hle : i + (ml.length - (i + 1)) = (ml.eraseIdx i).length := by rw [List.length_eraseIdx]; simp [hilt]; omega
      rw [List.nil_append, ← List.flatMap_append, ← List.eraseIdx_eq_take_drop_succ] at r6
      have F1 : Tch (PF p b mb ev mev (.slice (some ⟨b2, o2, none⟩) ml.length cl)) w u0 := tch_t3 T1 fun j hj => ⟨fun e => hj (.inl e), fun e => hj (.inr (.inl e)), fun e => hj (.inr (.inr (.inr (.inl e.symm))))⟩
      have F2 : Tch (PF p b mb ev mev (.slice (some ⟨b2, o2, none⟩) ml.length cl)) u0 w2 := tch_t3 TM2 fun j hj => ⟨fun e => hj (.inr (.inr (.inl e))), fun e => hj (.inr (.inr (.inl e))), fun e => hj (.inr (.inr (.inr (.inr (.inl e.symm)))))⟩
      have F6 := tch_set ((F1.trans F2 (fun _ _ h => h)).trans (Tch.of_below (F := PF p b mb ev mev (.slice (some ⟨b2, o2, none⟩) ml.length cl)) B5) (fun _ _ h => h)) (g := mb) (k := 0) (.inr (.inr (.inl rfl))) (.slice A5 (i + (ml.length - (i + 1))) c5)
      refine ⟨rfl, ev1, mev', .slice A5 (i + (ml.length - (i + 1))) c5, trivial, S6, ⟨k6, o6⟩, ?_, F6, E1, EvTo.trans T1.size (EvTo.refl _ _) EM2, fun g hg => .inl ?_, Apart.next hap T1.size TM2.size HM.out.2.2.2.1.2.1.lt HM.out.2.2.2.1.2.2.1.lt HM.out.1.1.lt (fun g hg => (HM.out.2.2.2.1.evGe hg).2) (fun g hg => (HM.out.1.evGe hg)) (fun g hg => (HM.out.2.1.lt g hg).2) (E1.alt HEL.out) (EM2.alt fun g hg => (M2.evGe hg)) (fun g hg => .inr (hown5.lt g hg).1)⟩
      · rw [← hle]
        exact r6
      · have h1 := (hown5.lt g hg).1
        have h2 := T1.size
        have h3 := TM2.size
        omega
end Go.Proofs.YtlhaiflebigdlaaGreat
end
section
namespace Go.Proofs.YtlhaiflebigdlaaGreat
open Go.RowKit Go.Proofs.Mem
set_option linter.unusedVariables false
set_option linter.unusedSimpArgs false
set_option maxHeartbeats 8000000 in
set_option maxRecDepth 100000 in
theorem do8_cr_bad (c : Code) (hc : IsRest c) (f : Nat → Value) (w : World) (p b n : Nat) (D : DataW Value) (most : Int) (now : Nat) (ev : Value) (evs : List Ev) (h : StIs w p b n D most now ev evs) (hN : n < maxLen) (hnow : now < 1000000) (hevs : evs.length ≤ 1024) (mb q : Nat) (ak : Int) (o : Ob) (right : Bool) (fi : Int) (hak : ak = 0) (ho : o.Ok w)
    (hq : Bk w q 58 (actA ak o right)) (Lw : Array Value) (hLw : Is47 Lw) (hval : valAt D (kOf o.kind o.name) (.agg Z47) = .agg Lw) (hbad : errO o.dflt ≠ 0) :
    c.wp Tryz.prog (bodyPost Tryz.prog Tryz.f7 fun e w' => e = .returned (.bool true) ∧ Below w.heap.size w w') ⟨doF p mb most q fi f, []⟩ w := by
  obtain ⟨a0, a1, a2, a3, a4, a5⟩ := actA_is ak o right
  have c0 : w.cell? ⟨q, 0, none⟩ = some (.int .i64 ak) := by rw [hq.cell]; exact a1
  have HQ := Lib.hid hq
  have HS := Lib.hid (And.intro h (And.intro ho (And.intro hLw (And.intro hval hbad))))
  have HN := Lib.hid (And.intro hN (And.intro hnow hevs))
  have hr : w.rangeAt q 1 o.cells := by
    have := range_sub hq.range 1 47
    rwa [actA_ob] at this
  have HR := Lib.hid hr
  have HU := Lib.hid (Tryz.underlying56)
  clear h hval hLw ho hq a0 a1 a2 a3 a4 a5 hbad hN hnow hevs hr
  subst hak
  obtain ⟨x, y, z, hlit⟩ := hc
  cases hlit
  unfold doF
  go_wp2_with (refine wpl_loadat HR.out rfl 56 (.tmp 148) rfl rfl _ HU.out rfl (by kernel_rfl) ?_)
  refine (vdefault_any o w HS.out.2.1).mono ?_
  rintro e w1 ⟨V, rfl, hn, b1⟩
  obtain ⟨L, hL⟩ : ∃ L : Array Value, L = (o.dflt.reval V).cells.toArray := ⟨_, rfl⟩
  have hok := HS.out.2.1.fit.dflt.ok hn
  have hi := cells_is _ hok
  rw [← hL] at hi ⊢
  have kz := Bk.new w1 56 Z47
  have hzz : Z47.size = L.size := hi.1.symm
  have k2 := setCells_whole kz hzz
  have B2 := below_setCells (g := w1.heap.size) L.toList 0 (b1.alloc b1.size (.cells Z47 56)) b1.size
  have n2 := hn.alloc (.cells Z47 56)
  obtain ⟨W2, r, hW2, hr0⟩ : ∃ W2 r, W2 = (w1.alloc (.cells Z47 56)).setCells r 0 L.toList ∧ r = w1.heap.size := ⟨_, _, rfl, rfl⟩
  have b12 : Below w1.heap.size w1 W2 := by
    rw [hW2, hr0]
    exact below_setCells (g := w1.heap.size) L.toList 0 (below_al w1 _) (Nat.le_refl _)
  rw [← hr0] at kz k2 B2
  rw [← hW2] at k2 B2
  have HL := Lib.hid (And.intro hL (And.intro hi (And.intro hzz (And.intro kz (And.intro hW2.symm (And.intro k2 (And.intro B2 (hok.below b12))))))))
  have HR0 := Lib.hid hr0.symm
  clear hL hi hzz kz k2 B2 n2 hok hn b1 b12 hW2 hr0
  go_wp2_with (first | (refine wpl_allocg rfl (run_alloc47 rfl _) ?_; rw [HR0.out]) | (refine wpl_storeg HL.out.2.2.2.1 HL.out.2.2.1 rfl rfl 56 (.tmp 12) (.tmp 150) rfl rfl rfl (info47 HL.out.2.1) HL.out.2.1.2 ?_; rw [HL.out.2.2.2.2.1]) | (refine wpl_loadg HL.out.2.2.2.2.2.1 rfl 56 (.tmp 12) rfl rfl _ HU.out rfl (info47 HL.out.2.1) ?_))
  rw [HL.out.1]
  refine (lawright_any (o.dflt.reval V) W2 HL.out.2.2.2.2.2.2.2).mono ?_
  rintro e w3 ⟨rfl, b3⟩
  rw [errO_reval, ← HL.out.1]
  have B3 := below_tr HL.out.2.2.2.2.2.2.1 b3
  have k3 := HL.out.2.2.2.2.2.1.below' b3
  have hq3 := HQ.out.below' B3
  have d0 : w3.cell? ⟨q, 0, none⟩ = some (.int .i64 0) := by rw [hq3.cell]; exact (actA_is 0 o right).2.1
  have hr3 : w3.rangeAt q 1 o.cells := by
    have := range_sub hq3.range 1 47
    rwa [actA_ob] at this
  have H3 := Lib.hid (And.intro B3 (And.intro k3 (And.intro hq3 hr3)))
  obtain ⟨er, her⟩ : ∃ er, er = errO o.dflt := ⟨_, rfl⟩
  rw [← her]
  have HER := Lib.hid her
  clear B3 k3 hq3 hr3 b3 her c0
  go_wp2_with (first | (refine wpl_loadat H3.out.2.2.2 rfl 56 (.tmp 158) rfl rfl _ HU.out rfl (by kernel_rfl) ?_))
  refine (screate_any (HS.out.1.below H3.out.1) HN.out.1 (by have := HN.out.2.1; omega) HN.out.2.2 o (HS.out.2.1.below H3.out.1) Lw HS.out.2.2.1 HS.out.2.2.2.1).mono ?_
  rintro e w4 hst
  rw [if_neg HS.out.2.2.2.2, ← HER.out] at hst
  obtain ⟨rfl, b4⟩ := hst
  have hne : er ≠ 0 := by rw [HER.out]; exact HS.out.2.2.2.2
  have hne2 : (er == 0) = false := by simpa using hne
  have hne3 : (er != 0) = true := by simpa using hne
  have H4 := Lib.hid (below_tr H3.out.1 b4)
  clear b4 d0 hne
  go_wp2_with fail
  go_ret
  exact ⟨rfl, H4.out⟩
set_option maxHeartbeats 8000000 in
set_option maxRecDepth 100000 in
theorem do8_cr_same (c : Code) (hc : IsRest c) (f : Nat → Value) (w : World) (p b n : Nat) (D : DataW Value) (most : Int) (now : Nat) (ev : Value) (evs : List Ev) (h : StIs w p b n D most now ev evs) (hN : n < maxLen) (hnow : now < 1000000) (hevs : evs.length ≤ 1024) (mb q : Nat) (ak : Int) (o : Ob) (right : Bool) (fi : Int) (hak : ak = 0) (ho : o.Ok w)
    (hq : Bk w q 58 (actA ak o right)) (Lw : Array Value) (hLw : Is47 Lw) (hval : valAt D (kOf o.kind o.name) (.agg Z47) = .agg Lw) (hgood : errO o.dflt = 0) (hhas : Maps.has D (kOf o.kind o.name) = true) (hfi : 0 ≤ fi) :
    c.wp Tryz.prog (bodyPost Tryz.prog Tryz.f7 fun e w' => e = .returned (.bool true) ∧ Below w.heap.size w w') ⟨doF p mb most q fi f, []⟩ w := by
  obtain ⟨a0, a1, a2, a3, a4, a5⟩ := actA_is ak o right
  have c0 : w.cell? ⟨q, 0, none⟩ = some (.int .i64 ak) := by rw [hq.cell]; exact a1
  have HQ := Lib.hid hq
  have HS := Lib.hid (And.intro h (And.intro ho (And.intro hLw (And.intro hval hgood))))
  have HN := Lib.hid (And.intro hN (And.intro hnow hevs))
  have hr : w.rangeAt q 1 o.cells := by
    have := range_sub hq.range 1 47
    rwa [actA_ob] at this
  have HR := Lib.hid hr
  have HU := Lib.hid (Tryz.underlying56)
  clear h hval hLw ho hq a0 a1 a2 a3 a4 a5 hgood hN hnow hevs hr
  subst hak
  obtain ⟨x, y, z, hlit⟩ := hc
  cases hlit
  unfold doF
  go_wp2_with (refine wpl_loadat HR.out rfl 56 (.tmp 148) rfl rfl _ HU.out rfl (by kernel_rfl) ?_)
  refine (vdefault_any o w HS.out.2.1).mono ?_
  rintro e w1 ⟨V, rfl, hn, b1⟩
  obtain ⟨L, hL⟩ : ∃ L : Array Value, L = (o.dflt.reval V).cells.toArray := ⟨_, rfl⟩
  have hok := HS.out.2.1.fit.dflt.ok hn
  have hi := cells_is _ hok
  rw [← hL] at hi ⊢
  have kz := Bk.new w1 56 Z47
  have hzz : Z47.size = L.size := hi.1.symm
  have k2 := setCells_whole kz hzz
  have B2 := below_setCells (g := w1.heap.size) L.toList 0 (b1.alloc b1.size (.cells Z47 56)) b1.size
  have n2 := hn.alloc (.cells Z47 56)
  obtain ⟨W2, r, hW2, hr0⟩ : ∃ W2 r, W2 = (w1.alloc (.cells Z47 56)).setCells r 0 L.toList ∧ r = w1.heap.size := ⟨_, _, rfl, rfl⟩
  have b12 : Below w1.heap.size w1 W2 := by
    rw [hW2, hr0]
    exact below_setCells (g := w1.heap.size) L.toList 0 (below_al w1 _) (Nat.le_refl _)
  rw [← hr0] at kz k2 B2
  rw [← hW2] at k2 B2
  have HL := Lib.hid (And.intro hL (And.intro hi (And.intro hzz (And.intro kz (And.intro hW2.symm (And.intro k2 (And.intro B2 (hok.below b12))))))))
  have HR0 := Lib.hid hr0.symm
  clear hL hi hzz kz k2 B2 n2 hok hn b1 b12 hW2 hr0
  go_wp2_with (first | (refine wpl_allocg rfl (run_alloc47 rfl _) ?_; rw [HR0.out]) | (refine wpl_storeg HL.out.2.2.2.1 HL.out.2.2.1 rfl rfl 56 (.tmp 12) (.tmp 150) rfl rfl rfl (info47 HL.out.2.1) HL.out.2.1.2 ?_; rw [HL.out.2.2.2.2.1]) | (refine wpl_loadg HL.out.2.2.2.2.2.1 rfl 56 (.tmp 12) rfl rfl _ HU.out rfl (info47 HL.out.2.1) ?_))
  rw [HL.out.1]
  refine (lawright_any (o.dflt.reval V) W2 HL.out.2.2.2.2.2.2.2).mono ?_
  rintro e w3 ⟨rfl, b3⟩
  rw [errO_reval, ← HL.out.1]
  have B3 := below_tr HL.out.2.2.2.2.2.2.1 b3
  have k3 := HL.out.2.2.2.2.2.1.below' b3
  have hq3 := HQ.out.below' B3
  have d0 : w3.cell? ⟨q, 0, none⟩ = some (.int .i64 0) := by rw [hq3.cell]; exact (actA_is 0 o right).2.1
  have hr3 : w3.rangeAt q 1 o.cells := by
    have := range_sub hq3.range 1 47
    rwa [actA_ob] at this
  have H3 := Lib.hid (And.intro B3 (And.intro k3 (And.intro hq3 hr3)))
  obtain ⟨er, her⟩ : ∃ er, er = errO o.dflt := ⟨_, rfl⟩
  rw [← her]
  have HER := Lib.hid her
  clear B3 k3 hq3 hr3 b3 her c0
  go_wp2_with (first | (refine wpl_loadat H3.out.2.2.2 rfl 56 (.tmp 158) rfl rfl _ HU.out rfl (by kernel_rfl) ?_))
  refine (screate_any (HS.out.1.below H3.out.1) HN.out.1 (by have := HN.out.2.1; omega) HN.out.2.2 o (HS.out.2.1.below H3.out.1) Lw HS.out.2.2.1 HS.out.2.2.2.1).mono ?_
  rintro e w4 hst
  rw [if_pos HS.out.2.2.2.2] at hst
  obtain ⟨L', wm, _, bm, hst⟩ := hst
  unfold CreateSt at hst
  rw [if_pos hhas] at hst
  obtain ⟨rfl, b40⟩ := hst
  have b4 := below_tr bm b40
  clear b40 bm
  have hne : er = 0 := by rw [HER.out]; exact HS.out.2.2.2.2
  have H4 := Lib.hid (below_tr H3.out.1 b4)
  clear b4 d0 hhas
  subst hne
  go_wp2_with fail
  go_ret
  exact ⟨rfl, H4.out⟩
set_option maxHeartbeats 8000000 in
set_option maxRecDepth 100000 in
theorem do8_cr_full (c : Code) (hc : IsRest c) (f : Nat → Value) (w : World) (p b n : Nat) (D : DataW Value) (most : Int) (now : Nat) (ev : Value) (evs : List Ev) (h : StIs w p b n D most now ev evs) (hN : n < maxLen) (hnow : now < 1000000) (hevs : evs.length ≤ 1024) (mb q : Nat) (ak : Int) (o : Ob) (right : Bool) (fi : Int) (hak : ak = 0) (ho : o.Ok w)
    (hq : Bk w q 58 (actA ak o right)) (Lw : Array Value) (hLw : Is47 Lw) (hval : valAt D (kOf o.kind o.name) (.agg Z47) = .agg Lw) (hgood : errO o.dflt = 0) (hhas : Maps.has D (kOf o.kind o.name) = false) (hfi : fi < 0) (lv : Value) (mlen : Nat) (xs : List Value) (hmb : w.cell? ⟨mb, 0, none⟩ = some lv) (hrow : Sl w 47 lv mlen xs) (hfull : most ≤ Maps.size D) (hsz : Maps.size D = mlen) :
    c.wp Tryz.prog (bodyPost Tryz.prog Tryz.f7 fun e w' => e = .returned (.bool true) ∧ Below w.heap.size w w') ⟨doF p mb most q fi f, []⟩ w := by
  obtain ⟨a0, a1, a2, a3, a4, a5⟩ := actA_is ak o right
  have c0 : w.cell? ⟨q, 0, none⟩ = some (.int .i64 ak) := by rw [hq.cell]; exact a1
  have HQ := Lib.hid hq
  have HS := Lib.hid (And.intro h (And.intro ho (And.intro hLw (And.intro hval hgood))))
  have HN := Lib.hid (And.intro hN (And.intro hnow hevs))
  have hr : w.rangeAt q 1 o.cells := by
    have := range_sub hq.range 1 47
    rwa [actA_ob] at this
  have HR := Lib.hid hr
  have HU := Lib.hid (Tryz.underlying56)
  clear h hval hLw ho hq a0 a1 a2 a3 a4 a5 hgood hN hnow hevs hr
  have HF := Lib.hid (And.intro hhas (And.intro hmb (And.intro hrow (And.intro hfull hsz))))
  clear hhas hmb hrow hfull hsz
  subst hak
  obtain ⟨x, y, z, hlit⟩ := hc
  cases hlit
  unfold doF
  go_wp2_with (refine wpl_loadat HR.out rfl 56 (.tmp 148) rfl rfl _ HU.out rfl (by kernel_rfl) ?_)
  refine (vdefault_any o w HS.out.2.1).mono ?_
  rintro e w1 ⟨V, rfl, hn, b1⟩
  obtain ⟨L, hL⟩ : ∃ L : Array Value, L = (o.dflt.reval V).cells.toArray := ⟨_, rfl⟩
  have hok := HS.out.2.1.fit.dflt.ok hn
  have hi := cells_is _ hok
  rw [← hL] at hi ⊢
  have kz := Bk.new w1 56 Z47
  have hzz : Z47.size = L.size := hi.1.symm
  have k2 := setCells_whole kz hzz
  have B2 := below_setCells (g := w1.heap.size) L.toList 0 (b1.alloc b1.size (.cells Z47 56)) b1.size
  have n2 := hn.alloc (.cells Z47 56)
  obtain ⟨W2, r, hW2, hr0⟩ : ∃ W2 r, W2 = (w1.alloc (.cells Z47 56)).setCells r 0 L.toList ∧ r = w1.heap.size := ⟨_, _, rfl, rfl⟩
  have b12 : Below w1.heap.size w1 W2 := by
    rw [hW2, hr0]
    exact below_setCells (g := w1.heap.size) L.toList 0 (below_al w1 _) (Nat.le_refl _)
  rw [← hr0] at kz k2 B2
  rw [← hW2] at k2 B2
  have HL := Lib.hid (And.intro hL (And.intro hi (And.intro hzz (And.intro kz (And.intro hW2.symm (And.intro k2 (And.intro B2 (hok.below b12))))))))
  have HR0 := Lib.hid hr0.symm
  clear hL hi hzz kz k2 B2 n2 hok hn b1 b12 hW2 hr0
  go_wp2_with (first | (refine wpl_allocg rfl (run_alloc47 rfl _) ?_; rw [HR0.out]) | (refine wpl_storeg HL.out.2.2.2.1 HL.out.2.2.1 rfl rfl 56 (.tmp 12) (.tmp 150) rfl rfl rfl (info47 HL.out.2.1) HL.out.2.1.2 ?_; rw [HL.out.2.2.2.2.1]) | (refine wpl_loadg HL.out.2.2.2.2.2.1 rfl 56 (.tmp 12) rfl rfl _ HU.out rfl (info47 HL.out.2.1) ?_))
  rw [HL.out.1]
  refine (lawright_any (o.dflt.reval V) W2 HL.out.2.2.2.2.2.2.2).mono ?_
  rintro e w3 ⟨rfl, b3⟩
  rw [errO_reval, ← HL.out.1]
  have B3 := below_tr HL.out.2.2.2.2.2.2.1 b3
  have k3 := HL.out.2.2.2.2.2.1.below' b3
  have hq3 := HQ.out.below' B3
  have d0 : w3.cell? ⟨q, 0, none⟩ = some (.int .i64 0) := by rw [hq3.cell]; exact (actA_is 0 o right).2.1
  have hr3 : w3.rangeAt q 1 o.cells := by
    have := range_sub hq3.range 1 47
    rwa [actA_ob] at this
  have H3 := Lib.hid (And.intro B3 (And.intro k3 (And.intro hq3 hr3)))
  obtain ⟨er, her⟩ : ∃ er, er = errO o.dflt := ⟨_, rfl⟩
  rw [← her]
  have HER := Lib.hid her
  clear B3 k3 hq3 hr3 b3 her c0
  go_wp2_with (first | (refine wpl_loadat H3.out.2.2.2 rfl 56 (.tmp 158) rfl rfl _ HU.out rfl (by kernel_rfl) ?_))
  refine (screate_any (HS.out.1.below H3.out.1) HN.out.1 (by have := HN.out.2.1; omega) HN.out.2.2 o (HS.out.2.1.below H3.out.1) Lw HS.out.2.2.1 HS.out.2.2.2.1).mono ?_
  rintro e w4 hst
  rw [if_pos HS.out.2.2.2.2] at hst
  obtain ⟨L', wm, _, bm, hst⟩ := hst
  unfold CreateSt at hst
  rw [if_neg (by rw [HF.out.1]; simp), if_pos HF.out.2.2.2.1] at hst
  obtain ⟨rfl, b40⟩ := hst
  have b4 := below_tr bm b40
  clear b40 bm
  have hne : er = 0 := by rw [HER.out]; exact HS.out.2.2.2.2
  have B4 := below_tr H3.out.1 b4
  have dm : w4.cell? ⟨mb, 0, none⟩ = some lv := keep_cell B4 HF.out.2.1
  obtain ⟨Al, cl, e1, _⟩ := id HF.out.2.2.1
  have hlv := e1
  subst hlv
  have hfi2 : ¬ 0 ≤ fi := by omega
  have hm : most ≤ (mlen : Int) := by
    have h1 := HF.out.2.2.2.1
    have h2 := HF.out.2.2.2.2
    omega
  have H4 := Lib.hid B4
  clear b4 d0 B4 e1
  subst hne
  go_wp2_with fail
  go_ret
  exact ⟨rfl, H4.out⟩
end Go.Proofs.YtlhaiflebigdlaaGreat
end
section
namespace Go.Proofs.YtlhaiflebigdlaaGreat
open Go.RowKit Go.Proofs.Mem
set_option linter.unusedVariables false
set_option linter.unusedSimpArgs false
theorem fill_one (L : Array Value) (hL : L.size = 47) (cs : Array Value) (hc : cs.size = 47) : Instr.fill (fun i => some (i * 47, 47)) cs [(0, .agg L)] = some L := by
  obtain ⟨r, h1, h2, h3⟩ := Go.Great.fill_dense (s := 47) (by omega) [.agg L] 0 cs (fun v hv => by
    simp only [List.mem_cons, List.not_mem_nil, or_false] at hv
    subst hv
    exact hL) (by simp [hc])
  have e : r = L := by
    apply Array.ext_getElem?
    intro k
    rw [h3 k]
    rcases Nat.lt_or_ge k 47 with hk | hk
    · rw [if_pos (by simp; omega)]
      have e1 : k / 47 = 0 := Nat.div_eq_of_lt hk
      have e2 : k % 47 = k := Nat.mod_eq_of_lt hk
      simp [e1, e2, Value.cells]
    · rw [if_neg (by simp; omega), Array.getElem?_eq_none (by omega), Array.getElem?_eq_none (by omega)]
  exact h1.trans (congrArg some e)
theorem run_build1 {ev : Operand → Value} {o : Oper} {L : Array Value} {x : Operand} (hL : L.size = 47) (ho : o.op = .buildSlice 31 1 #[(0, x)]) (hx : ev x = .agg L) (w : World) : (execOp ev o).run Tryz.prog w = .ok (.value (.slice (some ⟨w.heap.size, 0, none⟩) 1 1)) (w.alloc (.cells L 56)) := by
  obtain ⟨ie, hie, hz, hs, _⟩ := info_parts info_obj
  have hf : Instr.fill (fun i => some (i * ie.size, ie.size)) ((Array.range (1 * ie.size)).map ((Value.agg Z47).cells[· % (Value.agg Z47).cells.size]!)) (#[((0 : Nat), Value.agg L)]).toList = some L := by
    rw [hs]
    exact fill_one L hL _ (by simp)
  have hr := run_buildSlice (P := Tryz.prog) w 31 56 1 #[(0, .agg L)] L ie (.agg Z47) Tryz.underlying31 hie hz (by rw [hs]; omega) (by rw [hs]; omega) hf
  unfold execOp
  simp only [ho, Array.map, List.map_toArray, List.map_cons, List.map_nil, hx, Sem.run_bind, hr, Result.andThen_ok, Sem.run_pure]
  simp [hx, Sem.run_bind, hr, Result.andThen_ok, Sem.run_pure]
theorem readsL_loadg {P : Program} {ops : Array Oper} {S : World → Prop} {free : Nat → Bool} {Lq : Act → Prop} {i : Nat} {o : Oper} {r : List Nat} {a : Act} {g : Nat} {t : TypeId} {cs : Array Value} (hk : ∀ w, S w → Bk w g t cs) (hi : ops[i]? = some o) (hf : free i = false) (hw : Region.wanted o (yielded ops a.tmps) = true) (ty : TypeId) (x : Operand) (ho : o.op = .load ty x)
    (hx : a.eval x = .pointer (some ⟨g, 0, none⟩)) (d : TypeDesc) (hu : P.underlying ty = some d) (hd : d.isRow = true) (hin : (P.info? ty).map (·.size) = some cs.size) (h : wpReadsL P ops S free Lq r (a.put o.dst (.agg cs))) : wpReadsL P ops S free Lq (i :: r) a := by
  refine readsL_step hi hf hw (fun w hS => ?_) h
  have hr := run_loadAt_mid (P := P) w g 0 ty cs.toList d (hk w hS).range hu hd (by simpa using hin)
  unfold execOp
  simp only [ho, hx, Sem.run_bind, hr, Result.andThen_ok, Sem.run_pure]
end Go.Proofs.YtlhaiflebigdlaaGreat
end
section
namespace Go.Proofs.YtlhaiflebigdlaaGreat
open Go.RowKit Go.Proofs.Mem
set_option linter.unusedVariables false
set_option linter.unusedSimpArgs false
theorem News.tch {o : Ob} {F : Nat → Prop} {w1 w2 : World} {B : Nat} {V : Nat → Value} (h : o.News w1 B V) (ht : Tch F w1 w2) (hF : ∀ j, F j → j < B ∨ w1.heap.size ≤ j) : o.News w2 B V := fun k hk => by
  obtain ⟨hs, hb⟩ := h k hk
  refine ⟨Sl.tch hs (fun ad m c e h0 hf => ?_) ht, hb⟩
  obtain ⟨A, c', e', _, _, _, hx⟩ := id hs
  rw [e'] at e
  injection e with e1 e2 e3
  subst e2
  obtain ⟨ad', e4, hlt, _⟩ := hx h0
  rw [e1] at e4
  injection e4 with e4
  subst e4
  have h1 := hb ad _ _ (by rw [e', e1])
  have := hF _ hf
  omega
theorem cells_ver (x : Ob) (v : Int) : (x.cells.toArray.setIfInBounds 2 (.int .u64 v)).toList = (Ob.mk x.kind x.name v x.w x.p x.n x.g x.h).cells := by
  rw [List.setIfInBounds_toArray]
  show x.cells.set 2 _ = _
  kernel_rfl
theorem Ob.News.safe2 {x : Ob} {w w' : World} {F : Nat → Prop} {B : Nat} {V : Nat → Value} (hf : x.Fit) (hn : x.News w B V) (hn' : x.News w' B V) (hF : ∀ i, F i → i < B ∨ w.heap.size ≤ i) : (x.reval V).Safe F w' := by
  refine ⟨hf.ok hn', fun k hk v e => ?_⟩
  have h1 := hn k hk
  have hk' := hk
  have hv : v = V k := by
    simp only [rowsAt, List.mem_cons, List.not_mem_nil, or_false] at hk'
    rcases hk' with rfl | rfl | rfl | rfl | rfl | rfl | rfl | rfl | rfl | rfl | rfl | rfl | rfl | rfl <;> (injection e with e; exact e.symm)
  intro ad n c hs h0 hf'
  have h2 := h1.2 ad n c (hv ▸ hs)
  have h3 : ad.block < w.heap.size := by
    obtain ⟨A, c', e', hc, hn, hl, hx⟩ := h1.1
    rw [← hv, hs] at e'
    injection e' with e1 e2 e3
    subst e2
    obtain ⟨ad', e4, hlt, _⟩ := hx h0
    rw [← e1] at e4
    injection e4 with e4
    rw [e4]
    exact hlt
  have := hF _ hf'
  omega
def Taken (p b mb : Nat) (o : Ob) (L' : Array Value) (V : Nat → Value) (ev' mev' lv' : Value) (w' : World) : Prop :=
  ∃ V', L' = (o.dflt.reval V').cells.toArray ∧ (o.dflt.reval V').Safe (PF p b mb ev' mev' lv') w' ∧ (o.dflt.reval V).Safe (PF p b mb ev' mev' lv') w'
def CrOut (w : World) (p b n : Nat) (D : DataW Value) (most : Int) (now : Nat) (ev : Value) (evs : List Ev) (mb : Nat) (lv mev : Value) (mevs : List Ev) (ml : List Ob) (o : Ob) (e : Ending) (w' : World) : Prop :=
  ∃ L' V, ActOut w p b (n + 1) (D.put (kOf o.kind o.name) (.held (.agg (putL L' (now + 1))))) most now ev evs mb lv mev mevs (ml ++ [⟨o.kind, o.name, ((now + 1 : Nat) : Int), (o.dflt.reval V).w, (o.dflt.reval V).p, (o.dflt.reval V).n, (o.dflt.reval V).g, (o.dflt.reval V).h⟩]) ⟨0, o.kind, o.name, now + 1⟩ (Taken p b mb o L' V) e w'
set_option maxHeartbeats 8000000 in
set_option maxRecDepth 100000 in
theorem do8_cr_ok (c : Code) (hc : IsRest c) (f : Nat → Value) (w : World) (p b n : Nat) (D : DataW Value) (most : Int) (now : Nat) (ev : Value) (evs : List Ev) (h : StIs w p b n D most now ev evs) (hN : n < maxLen) (hnow : now < 1000000) (hevs : evs.length ≤ 1024) (mb q : Nat) (ak : Int) (o : Ob) (right : Bool) (fi : Int) (hak : ak = 0) (ho : o.Ok w)
    (hq : Bk w q 58 (actA ak o right)) (Lw : Array Value) (hLw : Is47 Lw) (hval : valAt D (kOf o.kind o.name) (.agg Z47) = .agg Lw) (hgood : errO o.dflt = 0) (hhas : Maps.has D (kOf o.kind o.name) = false) (hfi : fi < 0) (lv mev : Value) (mevs : List Ev) (ml : List Ob) (hml : ml.length < 1000) (hm : MdIs w mb lv now mev mevs) (hmevs : mevs.length < 100000) (hrow : w.ownsRow 0 56 47 lv ml.length (ml.flatMap Ob.cells)) (hap : Apart p b mb ev mev lv) (hfull : ¬ most ≤ Maps.size D) (hsz : Maps.size D = ml.length) :
    c.wp Tryz.prog (bodyPost Tryz.prog Tryz.f7 (CrOut w p b n D most now ev evs mb lv mev mevs ml o)) ⟨doF p mb most q fi f, []⟩ w := by
  obtain ⟨a0, a1, a2, a3, a4, a5⟩ := actA_is ak o right
  have c0 : w.cell? ⟨q, 0, none⟩ = some (.int .i64 ak) := by rw [hq.cell]; exact a1
  have HQ := Lib.hid hq
  have HS := Lib.hid (And.intro h (And.intro ho (And.intro hLw (And.intro hval hgood))))
  have HN := Lib.hid (And.intro hN (And.intro hnow hevs))
  have hr : w.rangeAt q 1 o.cells := by
    have := range_sub hq.range 1 47
    rwa [actA_ob] at this
  have HR := Lib.hid hr
  have HU := Lib.hid (Tryz.underlying56)
  clear h hval hLw ho hq a0 a1 a2 a3 a4 a5 hgood hN hnow hevs hr
  have hlen : (ml.length : Int) < 1000 := by omega
  have HF := Lib.hid (And.intro hhas (And.intro hm (And.intro hrow (And.intro hfull (And.intro hsz (And.intro hap (And.intro hmevs hml)))))))
  clear hhas hm hrow hfull hsz hap hmevs hml
  subst hak
  obtain ⟨x, y, z, hlit⟩ := hc
  cases hlit
  unfold doF
  go_wp2_with (refine wpl_loadat HR.out rfl 56 (.tmp 148) rfl rfl _ HU.out rfl (by kernel_rfl) ?_)
  refine (vdefault_any o w HS.out.2.1).mono ?_
  rintro e w1 ⟨V, rfl, hn, b1⟩
  obtain ⟨L, hL⟩ : ∃ L : Array Value, L = (o.dflt.reval V).cells.toArray := ⟨_, rfl⟩
  have hok := HS.out.2.1.fit.dflt.ok hn
  have hi := cells_is _ hok
  rw [← hL] at hi ⊢
  have kz := Bk.new w1 56 Z47
  have hzz : Z47.size = L.size := hi.1.symm
  have k2 := setCells_whole kz hzz
  have B2 := below_setCells (g := w1.heap.size) L.toList 0 (b1.alloc b1.size (.cells Z47 56)) b1.size
  have n2 := hn.alloc (.cells Z47 56)
  obtain ⟨W2, r, hW2, hr0⟩ : ∃ W2 r, W2 = (w1.alloc (.cells Z47 56)).setCells r 0 L.toList ∧ r = w1.heap.size := ⟨_, _, rfl, rfl⟩
  have b12 : Below w1.heap.size w1 W2 := by
    rw [hW2, hr0]
    exact below_setCells (g := w1.heap.size) L.toList 0 (below_al w1 _) (Nat.le_refl _)
  rw [← hr0] at kz k2 B2
  rw [← hW2] at k2 B2
  have HL := Lib.hid (And.intro hL (And.intro hi (And.intro hzz (And.intro kz (And.intro hW2.symm (And.intro k2 (And.intro B2 (And.intro (hok.below b12) (And.intro b12 (hn.below b12))))))))))
  have HR0 := Lib.hid hr0.symm
  have HN1 := Lib.hid hn
  have hwr : w.heap.size ≤ r := by rw [hr0]; exact b1.size
  clear hL hi hzz kz k2 B2 n2 hok hn b1 b12 hW2 hr0
  go_wp2_with (first | (refine wpl_allocg rfl (run_alloc47 rfl _) ?_; rw [HR0.out]) | (refine wpl_storeg HL.out.2.2.2.1 HL.out.2.2.1 rfl rfl 56 (.tmp 12) (.tmp 150) rfl rfl rfl (info47 HL.out.2.1) HL.out.2.1.2 ?_; rw [HL.out.2.2.2.2.1]) | (refine wpl_loadg HL.out.2.2.2.2.2.1 rfl 56 (.tmp 12) rfl rfl _ HU.out rfl (info47 HL.out.2.1) ?_))
  rw [HL.out.1]
  refine (lawright_any (o.dflt.reval V) W2 HL.out.2.2.2.2.2.2.2.1).mono ?_
  rintro e w3 ⟨rfl, b3⟩
  rw [errO_reval, ← HL.out.1]
  have B3 := below_tr HL.out.2.2.2.2.2.2.1 b3
  have HN3 := Lib.hid (HL.out.2.2.2.2.2.2.2.2.2.below b3)
  have HB13 := Lib.hid (below_tr HL.out.2.2.2.2.2.2.2.2.1 b3)
  have k3 := HL.out.2.2.2.2.2.1.below' b3
  have hq3 := HQ.out.below' B3
  have d0 : w3.cell? ⟨q, 0, none⟩ = some (.int .i64 0) := by rw [hq3.cell]; exact (actA_is 0 o right).2.1
  have hr3 : w3.rangeAt q 1 o.cells := by
    have := range_sub hq3.range 1 47
    rwa [actA_ob] at this
  have H3 := Lib.hid (And.intro B3 (And.intro k3 (And.intro hq3 hr3)))
  obtain ⟨er, her⟩ : ∃ er, er = errO o.dflt := ⟨_, rfl⟩
  rw [← her]
  have HER := Lib.hid her
  clear B3 k3 hq3 hr3 b3 her c0
  go_wp2_with (first | (refine wpl_loadat H3.out.2.2.2 rfl 56 (.tmp 158) rfl rfl _ HU.out rfl (by kernel_rfl) ?_))
  refine (screate_any (HS.out.1.below H3.out.1) HN.out.1 (by have := HN.out.2.1; omega) HN.out.2.2 o (HS.out.2.1.below H3.out.1) Lw HS.out.2.2.1 HS.out.2.2.2.1).mono ?_
  rintro e w4 hst
  rw [if_pos HS.out.2.2.2.2] at hst
  obtain ⟨L', wm, ⟨V', hL', hnm⟩, bm, hst⟩ := hst
  unfold CreateSt PutSt2 at hst
  rw [if_neg (by rw [HF.out.1]; simp), if_neg (by have := HF.out.2.2.2.1; omega)] at hst
  obtain ⟨ev1, rfl, S4, T4m, E4m⟩ := hst
  have T4 : T3 p b ev w3 w4 := (T3.of_below bm).trans (EvTo.refl _ _) T4m
  have E4 : EvTo w3 ev ev1 := EvTo.trans bm.size (EvTo.refl _ _) E4m
  have hne : er = 0 := by rw [HER.out]; exact HS.out.2.2.2.2
  obtain ⟨hap, hmevs, hml⟩ := HF.out.2.2.2.2.2
  have hpw : p < w.heap.size := HS.out.1.2.1.lt
  have hbw : b < w.heap.size := by have := HS.out.1.1; omega
  have hmw : mb < w.heap.size := HF.out.2.1.1.lt
  have hevw : ∀ g, ev.ownBlock = some g → g < w.heap.size := fun g hg => (HS.out.1.evGe hg).2
  have hmevw : ∀ g, mev.ownBlock = some g → g < w.heap.size := fun g hg => (HF.out.2.1.evGe hg)
  have hw3 : w.heap.size ≤ w3.heap.size := H3.out.1.size
  have k4 := T4.bk H3.out.2.1 (by omega) (by omega) (fun e => by have := hevw _ e.symm; omega)
  have m4 := (HF.out.2.1.below H3.out.1).t3 T4 hap
  have r4 := own_t3 (own_below HF.out.2.2.1 H3.out.1) T4 hap.lp hap.lb hap.le
  have n4 := News.t3 HN3.out hpw hbw hevw T4
  have D4 : o.dflt.News w4 (w3.heap.size + 1) V' := News.t3 hnm (by omega) (by omega) (fun g hg => by have := hevw g hg; omega) T4m
  have HMM := Lib.hid (And.intro hL' (And.intro hnm (And.intro E4m (And.intro T4m.size bm.size))))
  have em1 : ev1.ownBlock ≠ some mb := fun e => by
    rcases E4 with h | ⟨g, hg, h⟩
    · exact hap.em (h ▸ e)
    · rw [h] at e; injection e with e; omega
  have ee1 : ∀ g, ev1.ownBlock = some g → mev.ownBlock ≠ some g := fun g hg e => by
    rcases E4 with h | ⟨g', hg', h⟩
    · exact hap.me g e (h ▸ hg)
    · rw [h] at hg; injection hg with hg; have := hmevw g e; omega
  have hfi2 : ¬ 0 ≤ fi := by omega
  obtain ⟨Al, cl, e1, _⟩ := id (Sl.of_own r4)
  have hlv := e1
  subst hlv
  have dm4 := m4.1.cell 0
  have hm : ¬ most ≤ (ml.length : Int) := by
    have h1 := HF.out.2.2.2.1
    have h2 := HF.out.2.2.2.2.1
    omega
  have hLo : ObL L o.kind o.name o.version.toNat := DfO.obL HS.out.2.1.fit ⟨V, HL.out.1, n4⟩
  have H4 := Lib.hid (And.intro S4 (And.intro T4 (And.intro E4 (And.intro k4 (And.intro m4 (And.intro r4 (And.intro n4 (And.intro D4 (And.intro em1 ee1)))))))))
  have HLO := Lib.hid hLo
  have HAP := Lib.hid hap
  have HBD := Lib.hid (And.intro hpw (And.intro hbw (And.intro hmw (And.intro hevw (And.intro hmevw (And.intro hw3 hmevs))))))
  clear S4 T4 E4 k4 m4 r4 n4 D4 em1 ee1 hLo hL' hnm E4m T4m bm d0 hap hpw hbw hmw hevw hmevw hw3 hmevs e1
  subst hne
  go_wp2_with (refine wpl_loadg H4.out.2.2.2.1 rfl 56 (.tmp 12) rfl rfl _ HU.out rfl (info47 HL.out.2.1) ?_)
  refine (note8_any w4 mb _ now mev mevs H4.out.2.2.2.2.1 HAP.out.mm (by have := HN.out.2.1; omega) HBD.out.2.2.2.2.2.2 0 o.kind o.name o.version.toNat L HLO.out).mono ?_
  rintro e w5 ⟨mev', rfl, M5, TM5, EM5⟩
  obtain ⟨S4, T4, E4, k4, m4, r4, n4, D4, em1, ee1⟩ := H4.out
  obtain ⟨hpw, hbw, hmw, hevw, hmevw, hw3, hmevs⟩ := HBD.out
  have hap := HAP.out
  have k5 := TM5.bk k4 (by omega) (by omega) (fun e => by have := hmevw _ e.symm; omega)
  have S5 := S4.t3m TM5 hap.pm hap.bm hap.mp hap.mbb em1 ee1
  have r5 := own_t3 r4 TM5 hap.lm hap.lm hap.lme
  have n5 := News.t3 n4 hmw hmw hmevw TM5
  have D5 : o.dflt.News w5 (w3.heap.size + 1) V' := News.t3 D4 (by omega) (by omega) (fun g hg => by have := hmevw g hg; omega) TM5
  have c12 : w5.cell? ⟨mb, 1, none⟩ = some (.int .u64 ((now : Int) + 1)) := by
    rw [M5.1.cell]
    simp
  have c22 : w5.cell? ⟨r, 2, none⟩ = some (.int .u64 (o.version.toNat : Int)) := by rw [k5.cell]; exact HLO.out.ver
  have f22 := k5.frozen 2
  have v := Value.int .u64 ((now : Int) + 1)
  have hrm : r ≠ mb := by omega
  -- behind the store of the version
  have k6 := k5.set 2 (.int .u64 ((now : Int) + 1))
  have M6 : MdIs (w5.setCell ⟨r, 2, none⟩ (.int .u64 ((now : Int) + 1))) mb (.slice Al ml.length cl) (now + 1) mev' (mevs ++ [⟨0, o.kind, o.name, now + 1⟩]) := ⟨M5.1.far (p := ⟨r, 2, none⟩) (by simp; omega) _, own_block M5.2 fun g hg => Below.heap_setCell _ _ _ _ (by
    skip
    rcases EM5 with h | ⟨g', hg', h⟩
    · have h2 := hmevw g (h ▸ hg)
      simp; omega
    · rw [h] at hg; injection hg with hg
      have h3 := k4.lt
      simp; omega)⟩
  have T6 : T3 r r (.slice none 0 0) w5 (w5.setCell ⟨r, 2, none⟩ (.int .u64 ((now : Int) + 1))) := (T3.of_below (Below.refl _ _)).setP 2 _
  have hr3 : r < w3.heap.size := H3.out.2.1.lt
  have er : ev1.ownBlock ≠ some r := fun e => by
    rcases E4 with h | ⟨g, hg, h⟩
    · have := hevw r (h ▸ e); omega
    · rw [h] at e; injection e with e; omega
  have hlvw : ∀ g, (Value.slice Al ml.length cl).ownBlock = some g → g < w.heap.size := fun g hg => (HF.out.2.2.1.lt g hg).2
  have S6 := S5.t3m (mev := .slice none 0 0) T6 (by omega) (by omega) (fun e => by cases e) (fun e => by cases e) er (fun _ _ e => by cases e)
  have r6 := own_t3 r5 T6 (fun e => by have := hlvw _ e; omega) (fun e => by have := hlvw _ e; omega) (fun _ _ e => by cases e)
  have D6 : o.dflt.News (w5.setCell ⟨r, 2, none⟩ (.int .u64 ((now : Int) + 1))) (w3.heap.size + 1) V' := D5.set (by simp; omega) rfl _
  have hi2 : Is47 (L.setIfInBounds 2 (.int .u64 ((now : Int) + 1))) := HL.out.2.1.set 2 rfl
  have F2 : Tch (PF p b mb ev mev (.slice Al ml.length cl)) w3 w4 := tch_t3 T4 fun j hj => ⟨fun e => hj (.inl e), fun e => hj (.inr (.inl e)), fun e => hj (.inr (.inr (.inr (.inl e.symm))))⟩
  have F3 : Tch (PF p b mb ev mev (.slice Al ml.length cl)) w4 w5 := tch_t3 TM5 fun j hj => ⟨fun e => hj (.inr (.inr (.inl e))), fun e => hj (.inr (.inr (.inl e))), fun e => hj (.inr (.inr (.inr (.inr (.inl e.symm)))))⟩
  have F4 : Tch (fun j => j = r) w5 (w5.setCell ⟨r, 2, none⟩ (.int .u64 ((now : Int) + 1))) := tch_t3 T6 fun j hj => ⟨fun e => hj e, fun e => hj e, fun e => by cases e⟩
  have Fw := (((Tch.of_below (F := (PF p b mb ev mev (.slice Al ml.length cl))) H3.out.1).trans F2 (fun _ _ h => h)).trans F3 (fun _ _ h => h)).trans F4 (fun i hi e => absurd e (by omega))
  have Fn : Tch (fun j => (PF p b mb ev mev (.slice Al ml.length cl)) j ∨ j = r) w1 (w5.setCell ⟨r, 2, none⟩ (.int .u64 ((now : Int) + 1))) := (((Tch.of_below (F := fun j => (PF p b mb ev mev (.slice Al ml.length cl)) j ∨ j = r) HB13.out).trans (F2.mono (fun _ _ h => .inl h)) (fun _ _ h => h)).trans (F3.mono (fun _ _ h => .inl h)) (fun _ _ h => h)).trans (F4.mono (fun _ _ h => .inr h)) (fun _ _ h => h)
  have N6 := News.tch HN1.out Fn (fun j hj => by
    rcases hj with (h | h | h | h | h | h) | h
    · left; omega
    · left; omega
    · left; omega
    · exact .inl (hevw j h)
    · exact .inl (hmevw j h)
    · exact .inl (hlvw j h)
    · right; rw [h]; exact Nat.le_of_eq HR0.out)
  have H6 : RowKit.Hid (∃ W6, W6 = (w5.setCell ⟨r, 2, none⟩ (.int .u64 ((now : Int) + 1))) ∧ Bk W6 r 56 (L.setIfInBounds 2 (.int .u64 ((now : Int) + 1))) ∧ MdIs W6 mb (.slice Al ml.length cl) (now + 1) mev' (mevs ++ [⟨0, o.kind, o.name, now + 1⟩]) ∧ StIs W6 p b (n + 1) (D.put (kOf o.kind o.name) (.held (.agg (putL L' (now + 1))))) most (now + 1) ev1 (nextEvs evs ⟨0, o.kind, o.name, now + 1⟩) ∧ W6.ownsRow 0 56 47 (.slice Al ml.length cl) ml.length (ml.flatMap Ob.cells) ∧ o.dflt.News W6 (w3.heap.size + 1) V' ∧ o.dflt.News W6 w.heap.size V ∧ Tch (PF p b mb ev mev (.slice Al ml.length cl)) w W6) :=
    ⟨_, rfl, k6, M6, S6, r6, D6, N6, Fw⟩
  have HML := Lib.hid (show ∀ g, mev'.ownBlock = some g → g < w5.heap.size from fun g hg => (M5.evGe hg))
  have HE := Lib.hid (And.intro E4 (And.intro EM5 (And.intro T4.size (And.intro TM5.size (And.intro hwr (And.intro hr3 (And.intro er em1)))))))
  clear S4 T4 E4 k4 m4 r4 n4 D4 em1 ee1 k5 S5 r5 n5 D5 k6 M6 T6 S6 r6 D6 F2 F3 F4 Fw Fn N6 M5 TM5 EM5 v hpw hbw hmw hevw hmevw hw3 hmevs hap hlvw
  go_wp2_with fail
  obtain ⟨W6, hW6, k6, M6, S6, r6, D6, N6, Fw⟩ := H6
  have HWS := Lib.hid (show w5.heap.size ≤ W6.heap.size by rw [hW6]; simp [World.setCell])
  rw [← hW6]
  clear hW6 c12 c22 f22
  refine wp_region_sched [0, 1, 2, 3, 4, 5] [(false, 6), (false, 7)] [8, 9, 10] (fun i => !(i == 4 || i == 5)) (fun w' => w'.cell? ⟨mb, 0, none⟩ = some (.slice Al ml.length cl) ∧ Bk w' r 56 (L.setIfInBounds 2 (.int .u64 ((now : Int) + 1)))) (by kernel_rfl) (by kernel_rfl) (fun c a d v w h => by cases d <;> exact h) ⟨M6.1.cell 0, k6⟩ fun u0 Hu => ?_
  iterate 5
    first
      | refine readsL_free (v := ?_) (by rfl) (by rfl) (fun w' => ?_) ?_
        rotate_left
        · go_simp
          with_reducible rfl
      | refine readsL_step (v := ?_) (by rfl) (by rfl) (by rfl) (fun w' hS => ?_) ?_
        rotate_left
        · have u1 := hS.1
          clear hS
          go_simp
          with_reducible rfl
    simp only [Act.put, List.setIfInBounds_toArray, List.set_cons_zero, List.set_cons_succ, List.getElem_toArray, List.getElem_cons_succ, List.getElem_cons_zero]
  refine readsL_loadg (fun w' hS => hS.2) (by rfl) (by rfl) (by rfl) 56 (.tmp 12) rfl rfl _ HU.out rfl (info47 hi2) ?_
  simp only [Act.put, List.setIfInBounds_toArray, List.set_cons_zero, List.set_cons_succ, List.getElem_toArray, List.getElem_cons_succ, List.getElem_cons_zero]
  refine readsL_nil ?_
  have bu : Below W6.heap.size W6 u0 := by
    rw [Hu.out]
    exact (Below.refl _ _).drew
  obtain ⟨z, hz⟩ : ∃ z, z = u0.heap.size := ⟨_, rfl⟩
  have B7 : Below W6.heap.size W6 (u0.alloc (.cells (L.setIfInBounds 2 (.int .u64 ((now : Int) + 1))) 56)) := bu.alloc bu.size _
  have hsl : Sl (u0.alloc (.cells (L.setIfInBounds 2 (.int .u64 ((now : Int) + 1))) 56)) 47 (.slice (some ⟨z, 0, none⟩) 1 1) 1 (L.setIfInBounds 2 (.int .u64 ((now : Int) + 1))).toList := by
    rw [hz]
    exact Sl.made u0 _ _ 1 1 (Nat.le_refl _) (by rw [hi2.1])
  refine earlyL_run (v := .slice (some ⟨z, 0, none⟩) 1 1) (w1 := (u0.alloc (.cells (L.setIfInBounds 2 (.int .u64 ((now : Int) + 1))) 56))) (by rfl) (by rfl) (by rw [hz]; exact run_build1 hi2.1 rfl rfl _) ⟨(M6.below B7).1.cell 0, k6.below' B7⟩ ?_
  simp only [Act.put, List.setIfInBounds_toArray, List.set_cons_zero, List.set_cons_succ, List.getElem_toArray, List.getElem_cons_succ, List.getElem_cons_zero]
  have hml2 : ml.length < 1000 := HF.out.2.2.2.2.2.2.2
  have H7 := Lib.hid (And.intro k6 (And.intro M6 (And.intro S6 (And.intro r6 (And.intro D6 (And.intro N6 Fw))))))
  have HI2 := Lib.hid hi2
  clear Hu bu hz
  refine early_append (by rfl) rfl (.tmp 201) (.tmp 203) 31 rfl 0 56 _ 47 640 Tryz.underlying31 info_obj rfl (by omega) (by omega) (.slice Al ml.length cl) ml.length _ rfl (own_below r6 B7) _ 1 _ rfl hsl (fun u hu => List.all_eq_true.1 hi2.2 u hu) (by omega) (Nat.zero_le _) ?_
  intro A7 c7 w7 hown7 hg7 hb7
  clear hsl k6 M6 S6 r6 D6 N6 Fw
  obtain ⟨k6, M6, S6, r6, D6, N6, Fw⟩ := H7.out
  obtain ⟨hpw, hbw, hmw, hevw, hmevw, hw3, hmevs⟩ := HBD.out
  obtain ⟨E4, EM5, s34, s45, hwr, hr3, er, em1⟩ := HE.out
  have hap := HAP.out
  have hlvw : ∀ g, (Value.slice Al ml.length cl).ownBlock = some g → g < w.heap.size := fun g hg => (HF.out.2.2.1.lt g hg).2
  have hmb7 : some mb ≠ (Value.slice Al ml.length cl).ownBlock := fun e => hap.lm e.symm
  have hml7 : ∀ g, mev'.ownBlock = some g → (Value.slice Al ml.length cl).ownBlock ≠ some g := fun g hg e => by
    rcases EM5 with h | ⟨g', hg', h⟩
    · exact hap.lme g e (h ▸ hg)
    · rw [h] at hg; injection hg with hg; have := hlvw g e; omega
  have hel7 : ∀ g, ev1.ownBlock = some g → (Value.slice Al ml.length cl).ownBlock ≠ some g := fun g hg e => by
    rcases E4 with h | ⟨g', hg', h⟩
    · exact hap.le g e (h ▸ hg)
    · rw [h] at hg; injection hg with hg; have := hlvw g e; omega
  have T7 : T3 mb mb (.slice Al ml.length cl) (u0.alloc (.cells (L.setIfInBounds 2 (.int .u64 ((now : Int) + 1))) 56)) w7 := T3.grownE hg7
  have M7 : MdIs w7 mb (.slice Al ml.length cl) (now + 1) mev' (mevs ++ [⟨0, o.kind, o.name, now + 1⟩]) := ⟨(M6.below B7).1.grown hg7 hmb7, own_block (M6.below B7).2 fun g hg => hg7.block g ((M6.below B7).2.lt g hg).2 (fun e => hml7 g hg e.symm)⟩
  have k7 := (k6.below' B7).grown hg7 (fun e => by have := hlvw r e.symm; omega)
  refine ⟨⟨M7.1.cell 0, k7⟩, ?_⟩
  have S7 := (S6.below B7).t3m T7 hap.pm hap.bm hap.lp hap.lb em1 hel7
  have D7 : o.dflt.News w7 (w3.heap.size + 1) V' := News.t3 (D6.below B7) (by omega) (by omega) (fun g hg => by have := hlvw g hg; omega) T7
  have N7 := News.t3 (N6.below B7) hmw hmw hlvw T7
  have F7 : Tch (PF p b mb ev mev (.slice Al ml.length cl)) w w7 := (Fw.trans (Tch.of_below (F := (PF p b mb ev mev (.slice Al ml.length cl))) B7) (fun _ _ h => h)).trans (tch_t3 (F := (PF p b mb ev mev (.slice Al ml.length cl))) T7 fun j hj => ⟨fun e => hj (.inr (.inr (.inl e))), fun e => hj (.inr (.inr (.inl e))), fun e => hj (.inr (.inr (.inr (.inr (.inr e.symm)))))⟩) (fun _ _ h => h)
  have hlv7 : ∀ g, (Value.slice A7 (ml.length + 1) c7).ownBlock = some g → w5.heap.size ≤ g ∨ (Value.slice Al ml.length cl).ownBlock = some g := fun g hg => by
    rcases hb7 with h | h
    · right; rw [← h]; exact hg
    · left
      rw [h] at hg
      injection hg with hg
      have h1 := HWS.out
      have h2 := B7.size
      omega
  refine earlyL_nil ?_
  simp only [Act.put, List.setIfInBounds_toArray, List.set_cons_zero, List.set_cons_succ, List.getElem_toArray, List.getElem_cons_succ, List.getElem_cons_zero]
  simp only [List.filterMap_cons, List.filterMap_nil, List.getElem?_toArray, List.getElem?_cons_succ, List.getElem?_cons_zero]
  have dm := M7.1.cell 0
  have d1 : w7.cell? ⟨mb, 1, none⟩ = some (.int .u64 ((now : Int) + 1)) := by
    rw [M7.1.cell]
    simp
  have f0 := M7.1.frozen 0
  have H8 := Lib.hid (And.intro M7 (And.intro S7 (And.intro D7 (And.intro N7 (And.intro F7 (And.intro hlv7 hown7))))))
  clear M7 k7 S7 D7 N7 F7 hlv7 hown7 hg7 hb7 T7 k6 M6 S6 r6 D6 N6 Fw hpw hbw hmw hevw hmevw hw3 hmevs E4 EM5 s34 s45 hap hlvw hmb7 hml7 hel7 B7
  go_wp2_with fail
  all_goals
    go_ret
    obtain ⟨M7, S7, D7, N7, F7, hlv7, hown7⟩ := H8.out
    obtain ⟨hpw, hbw, hmw, hevw, hmevw, hw3, hmevs⟩ := HBD.out
    obtain ⟨E4, EM5, s34, s45, hwr, hr3, er, em1⟩ := HE.out
    have hap := HAP.out
    have S8 := S7.t3m (ev := ev1) (mev := .slice none 0 0) (((T3.of_below (p := mb) (b := mb) (ev := .slice none 0 0) (Below.refl w7.heap.size w7))).setP 0 (.slice A7 (ml.length + 1) c7)) hap.pm hap.bm (fun e => by cases e) (fun e => by cases e) em1 (fun _ _ e => by cases e)
    have k8 := M7.1.set 0 (.slice A7 (ml.length + 1) c7)
    simp only [List.setIfInBounds_toArray, List.set_cons_zero, List.set_cons_succ] at k8
    have o8 := own_block (w' := w7.setCell ⟨mb, 0, none⟩ (.slice A7 (ml.length + 1) c7)) M7.2 (fun g hg => Below.heap_setCell _ _ _ _ (by simp; intro e; subst e; exact EvTo.ne EM5 HAP.out.mm (by omega) hg))
    have r8 := own_block (w' := w7.setCell ⟨mb, 0, none⟩ (.slice A7 (ml.length + 1) c7)) hown7 (fun g hg => Below.heap_setCell _ _ _ _ (by
      have h9 := hlv7 g hg
      simp
      intro e
      rcases h9 with h9 | h9
      · omega
      · subst e; exact HAP.out.lm h9))
    have D8 := D7.set (p := ⟨mb, 0, none⟩) (show mb < w3.heap.size + 1 by omega) rfl (.slice A7 (ml.length + 1) c7)
    have N8 := N7.set (p := ⟨mb, 0, none⟩) (show mb < w.heap.size by omega) rfl (.slice A7 (ml.length + 1) c7)
    have F8 := tch_set F7 (g := mb) (k := 0) (.inr (.inr (.inl rfl))) (.slice A7 (ml.length + 1) c7)
    have e1 : (o.dflt.reval V).kind = o.kind := dflt_kind o
    have e2 : (o.dflt.reval V).name = o.name := dflt_name o
    rw [HL.out.1, cells_ver, e1, e2] at r8
    obtain ⟨hL', hnm, E4m, sm4, s3m⟩ := HMM.out
    have hFm : ∀ j, PF p b mb ev1 mev' (.slice A7 (ml.length + 1) c7) j → j < w.heap.size ∨ wm.heap.size ≤ j := fun j hj => by
      rcases hj with rfl | rfl | rfl | h | h | h
      · exact .inl hpw
      · exact .inl hbw
      · exact .inl hmw
      · rcases E4m with e | ⟨g, hg, e⟩
        · exact .inl (hevw j (e ▸ h))
        · rw [e] at h; injection h with h; exact .inr (h ▸ hg)
      · rcases EM5 with e | ⟨g, hg, e⟩
        · exact .inl (hmevw j (e ▸ h))
        · rw [e] at h; injection h with h; right; omega
      · rcases hlv7 j h with e | e
        · right; omega
        · exact .inl ((HF.out.2.2.1.lt j e).2)
    have TK : Taken p b mb o L' V ev1 mev' (.slice A7 (ml.length + 1) c7) (w7.setCell ⟨mb, 0, none⟩ (.slice A7 (ml.length + 1) c7)) := ⟨V', hL', Ob.News.safe2 HS.out.2.1.fit.dflt hnm D8 (fun j hj => by have := hFm j hj; omega), Ob.News.safe2 HS.out.2.1.fit.dflt HN1.out N8 (fun j hj => by have := hFm j hj; have := HB13.out.size; omega)⟩
    refine ⟨L', V, rfl, ev1, mev', (.slice A7 (ml.length + 1) c7), TK, S8, ⟨k8, o8⟩, ?_, F8, EvTo.trans hw3 (EvTo.refl _ _) E4, EvTo.trans (Nat.le_trans hw3 s34) (EvTo.refl _ _) EM5, fun g hg => (hlv7 g hg).imp (fun h => Nat.le_trans (Nat.le_trans hw3 (Nat.le_trans s34 s45)) h) id, Apart.next HAP.out s34 s45 (Nat.lt_of_lt_of_le hpw hw3) (Nat.lt_of_lt_of_le hbw hw3) (Nat.lt_of_lt_of_le hmw hw3) (fun g hg => Nat.lt_of_lt_of_le (hevw g hg) hw3) (fun g hg => Nat.lt_of_lt_of_le (hmevw g hg) hw3) (fun g hg => Nat.lt_of_lt_of_le (HF.out.2.2.1.lt g hg).2 hw3) (E4.alt fun g hg => (H4.out.1.evGe hg).2) (EM5.alt HML.out) (fun g hg => (hlv7 g hg).symm)⟩
    rw [List.length_append, List.flatMap_append]
    simpa using r8
end Go.Proofs.YtlhaiflebigdlaaGreat
end
