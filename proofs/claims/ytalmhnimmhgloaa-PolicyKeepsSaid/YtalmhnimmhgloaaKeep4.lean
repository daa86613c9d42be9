/-
  The walks of Right of package trimtablaw22, at any past, and of the statement PolicyKeeps: it returns true, for every input.
-/
import Derived.Test.YtalmhnimmhgloaaKeep3
namespace Go.Proofs.Ytalmhnimmhgloaa
open Go.RowKit Go.Proofs.Mem
set_option linter.unusedVariables false
set_option linter.unusedSimpArgs false
def rightP (xs : List Done) (now : Int) : Bool := (xs.all fun x => okC x.at') && (okC now && decide (xs.length ≤ 60))
theorem rightP_t {xs : List Done} {now : Int} (h : rightP xs now = true) : (∀ x ∈ xs, okC x.at' = true) ∧ okC now = true ∧ xs.length ≤ 60 := by
  unfold rightP at h
  simp only [Bool.and_eq_true, List.all_eq_true, decide_eq_true_eq] at h
  exact h
set_option maxRecDepth 100000 in
theorem right_past (xs : List Done) (v : Value) (now : Int) (w : World) (hl : xs.length ≤ 9223372036854775807) (h : Sl w 3 v xs.length (xs.flatMap Done.cells)) :
    Calls Try.prog 16 #[v, .int .i64 now] w fun e w' => e = .returned (.bool (rightP xs now)) ∧ Below w.heap.size w w' := by
  obtain ⟨A, c, rfl, hc, _⟩ := id h
  obtain ⟨q, hq⟩ : ∃ q, q = rightP xs now := ⟨_, rfl⟩
  rw [← hq]
  have hQ := Lib.hid hq
  clear hq
  go_enter Try.func16, Try.ntmps16
  go_wp2_with fail
  go_loopw [9, 6] (fun i p wr => ∃ k : Nat, k ≤ xs.length ∧ i = .int .i64 k ∧ Below w.heap.size w wr ∧ Hid (∀ y ∈ xs.take k, okC y.at' = true)) (fun i p wr => xs.length - (intOf i).toNat)
  case atStart => exact ⟨0, Nat.zero_le _, rfl, Below.refl _ _, Lib.hid (by simp)⟩
  case round =>
    obtain ⟨k, hk, rfl, hBw, hall⟩ := hrel
    by_cases hlt : k < xs.length
    · obtain ⟨b, o, rfl, hbl, hadd, hcell⟩ := Sl.row' (f := Done.cells) (fun _ => rfl) (by omega) (h.below hBw) k hlt
      have a0 : wr.cell? ⟨b, o + k * 3, none⟩ = _ := hcell 0 _ rfl
      have a1 := hcell 1 _ rfl
      have a2 := hcell 2 _ rfl
      have hN : okC xs[k].at' = true → Hid (∀ y ∈ xs.take (k + 1), okC y.at' = true) := fun e => Lib.hid (by
        intro y hy
        rw [List.take_succ_eq_append_getElem hlt] at hy
        rcases List.mem_append.1 hy with hy | hy
        · exact hall.out y hy
        · simp at hy; subst hy; exact e)
      have hF : okC xs[k].at' = false → Hid (q = false) := fun e => Lib.hid (by
        rw [hQ.out]
        unfold rightP
        rw [Bool.and_eq_false_iff]
        left
        rw [List.all_eq_false]
        exact ⟨xs[k], List.getElem_mem hlt, by rw [e]; decide⟩)
      clear hcell
      generalize xs[k] = x at a0 a1 a2 hN hF
      have hcase : (0 ≤ x.at' ∧ x.at' ≤ 4611686018427387904 ∧ okC x.at' = true) ∨ (x.at' < 0 ∧ okC x.at' = false) ∨ (0 ≤ x.at' ∧ 4611686018427387904 < x.at' ∧ okC x.at' = false) := by
        unfold okC
        by_cases h1 : 0 ≤ x.at'
        · by_cases h2 : x.at' ≤ 4611686018427387904
          · exact .inl ⟨h1, h2, by simp [h1, h2]⟩
          · exact .inr (.inr ⟨h1, by omega, by simp [h2]⟩)
        · exact .inr (.inl ⟨by omega, by simp [h1]⟩)
      rcases hcase with ⟨h1, h2, h3⟩ | ⟨h1, h3⟩ | ⟨h1, h2, h3⟩
      · replace hN := hN h3
        clear hF h3 hall
        go_wp2_with fail
        exact ⟨⟨k + 1, by omega, by go_num, (hBw.alloc hBw.size _), hN⟩, by simp [intOf]; omega⟩
      all_goals
        replace hF := hF h3
        clear hN h3 hall
        go_wp2_with fail
        go_ret
        exact ⟨by rw [hF.out]; rfl, hBw.alloc hBw.size _⟩
    · have e : xs.take k = xs := List.take_of_length_le (by omega)
      rw [e] at hall
      have hall' : (xs.all fun x => okC x.at') = true := by rw [List.all_eq_true]; exact hall.out
      have hQ2 : Hid (q = (okC now && decide (xs.length ≤ 60))) := Lib.hid (by rw [hQ.out]; unfold rightP; rw [hall']; simp)
      clear e hall hall' hQ h
      have hcase : (0 ≤ now ∧ now ≤ 4611686018427387904 ∧ xs.length ≤ 60 ∧ Hid (q = true)) ∨ (0 ≤ now ∧ now ≤ 4611686018427387904 ∧ 60 < xs.length ∧ Hid (q = false)) ∨ (now < 0 ∧ Hid (q = false)) ∨ (0 ≤ now ∧ 4611686018427387904 < now ∧ Hid (q = false)) := by
        have e := hQ2.out
        unfold okC at e
        by_cases h1 : 0 ≤ now
        · by_cases h2 : now ≤ 4611686018427387904
          · by_cases h3 : xs.length ≤ 60
            · exact .inl ⟨h1, h2, h3, Lib.hid (by rw [e]; simp [h1, h2, h3])⟩
            · exact .inr (.inl ⟨h1, h2, by omega, Lib.hid (by rw [e]; simp [h3])⟩)
          · exact .inr (.inr (.inr ⟨h1, by omega, Lib.hid (by rw [e]; simp [h2])⟩))
        · exact .inr (.inr (.inl ⟨by omega, Lib.hid (by rw [e]; simp [h1])⟩))
      clear hQ2
      obtain ⟨n, hn⟩ : ∃ n, n = xs.length := ⟨_, rfl⟩
      rw [← hn] at hcase hlt hk hc hl
      have HNn := Lib.hid hn
      rw [← hn]
      clear hn
      rcases hcase with ⟨h1, h2, h3, h4⟩ | ⟨h1, h2, h3, h4⟩ | ⟨h1, h4⟩ | ⟨h1, h2, h4⟩
      all_goals
        try have h3' : ((n : Nat) : Int) ≤ 60 := by omega
        try have h3' : (60 : Int) < ((n : Nat) : Int) := by omega
        go_wp2_with fail
        go_ret
        exact ⟨by rw [h4.out]; first | rfl | (show Ending.returned (.bool (decide ((n : Int) ≤ 60))) = _; first | rw [decide_eq_true (by omega)] | rw [decide_eq_false (by omega)]), hBw⟩
end Go.Proofs.Ytalmhnimmhgloaa
