/-
  The walks of trimtabref06.shortLabels, shortAsks, Short. (printed by wip/gen_obj.py)
-/
import Derived.Test.YthdjfcfbmmmmcaaRef6d
namespace Go.Proofs.Ythdjfcfbmmmmcaa
open Go.RowKit Go.Proofs.Mem
set_option linter.unusedVariables false
set_option linter.unusedSimpArgs false
def shlX (x : Lab) : Bool := decide (x.key.size ≤ 255) && decide (x.value.size ≤ 255)
def shlL (l : List Lab) : Bool := l.all shlX && decide (l.length ≤ 255)
theorem shlL_t {l : List Lab} (h : shlL l = true) : LabsS l := by
  unfold shlL at h
  simp only [Bool.and_eq_true, List.all_eq_true, decide_eq_true_eq] at h
  refine ⟨h.2, fun x hx => ?_⟩
  have := h.1 x hx
  unfold shlX at this
  simpa [s255] using this
set_option maxRecDepth 100000 in
theorem shl_any (r : Row Lab) (w : World) (hr : LabsOk w r) :
    Calls Try.prog 26 #[r.v] w fun e w' => e = .returned (.bool (shlL r.l)) ∧ Below w.heap.size w w' := by
  obtain ⟨v, l⟩ := r
  obtain ⟨h, hr2, _⟩ := hr
  simp only at h hr2 ⊢
  obtain ⟨A, c, rfl, hc, _⟩ := id h
  have hl : l.length ≤ 9223372036854775807 := by
    have := Nat.le_trans hr2 reach_max
    unfold maxLen at this
    omega
  clear hr2
  obtain ⟨q, hq⟩ : ∃ q, q = shlL l := ⟨_, rfl⟩
  rw [← hq]
  have hQ := Lib.hid hq
  clear hq
  go_enter Try.func26, Try.ntmps26
  go_wp2_with fail
  go_loopw [7, 4] (fun i p wr => ∃ k : Nat, k ≤ l.length ∧ i = .int .i64 k ∧ Below w.heap.size w wr ∧ Hid (∀ y ∈ l.take k, shlX y = true)) (fun i p wr => l.length - (intOf i).toNat)
  case atStart => exact ⟨0, Nat.zero_le _, rfl, Below.refl _ _, Lib.hid (by simp)⟩
  case round =>
    obtain ⟨k, hk, rfl, hBw, hall⟩ := hrel
    by_cases hlt : k < l.length
    · obtain ⟨b, o, rfl, hbl, hadd, hcell⟩ := Sl.row' (s := 2) (f := Lab.cells) (fun _ => rfl) (by omega) (h.below hBw) k hlt
      have a0 : wr.cell? ⟨b, o + k * 2, none⟩ = _ := hcell 0 _ rfl
      have a1 := hcell 1 _ rfl
      have hN : shlX l[k] = true → Hid (∀ y ∈ l.take (k + 1), shlX y = true) := fun e => Lib.hid (by
        intro y hy
        rw [List.take_succ_eq_append_getElem hlt] at hy
        rcases List.mem_append.1 hy with hy | hy
        · exact hall.out y hy
        · simp at hy; subst hy; exact e)
      have hF : shlX l[k] = false → Hid (q = false) := fun e => Lib.hid (by
        rw [hQ.out]
        unfold shlL
        rw [Bool.and_eq_false_iff]
        left
        rw [List.all_eq_false]
        exact ⟨l[k], List.getElem_mem hlt, by rw [e]; decide⟩)
      clear hcell
      generalize l[k] = x at a0 a1 hN hF
      have hcase : (x.key.size ≤ 255 ∧ x.value.size ≤ 255 ∧ shlX x = true) ∨ (255 < x.key.size ∧ shlX x = false) ∨ (x.key.size ≤ 255 ∧ 255 < x.value.size ∧ shlX x = false) := by
        unfold shlX
        by_cases h1 : x.key.size ≤ 255
        · by_cases h2 : x.value.size ≤ 255
          · exact .inl ⟨h1, h2, by simp [h1, h2]⟩
          · exact .inr (.inr ⟨h1, by omega, by simp [h2]⟩)
        · exact .inr (.inl ⟨by omega, by simp [h1]⟩)
      rcases hcase with ⟨h1, h2, h3⟩ | ⟨h1, h3⟩ | ⟨h1, h2, h3⟩
      · replace hN := hN h3
        clear hF h3 hall
        go_wp2_with fail
        exact ⟨⟨k + 1, by omega, by go_num, (hBw.alloc hBw.size _), hN⟩, by simp [intOf]; omega⟩
      all_goals
        replace hF := hF h3
        clear hN h3 hall
        go_wp2_with fail
        go_ret
        exact ⟨by rw [hF.out]; rfl, hBw.alloc hBw.size _⟩
    · have e : l.take k = l := List.take_of_length_le (by omega)
      rw [e] at hall
      have hall' : (l.all shlX) = true := by rw [List.all_eq_true]; exact hall.out
      have hQ2 : Hid (q = decide (l.length ≤ 255)) := Lib.hid (by rw [hQ.out]; unfold shlL; rw [hall']; simp)
      clear e hall hall' hQ h
      have hz : (((l.length : Nat) : Int) ≤ 255 ∧ Hid (q = true)) ∨ ((255 : Int) < ((l.length : Nat) : Int) ∧ Hid (q = false)) := by
        by_cases e : l.length ≤ 255
        · exact .inl ⟨by omega, Lib.hid (by rw [hQ2.out, decide_eq_true e])⟩
        · exact .inr ⟨by omega, Lib.hid (by rw [hQ2.out, decide_eq_false e])⟩
      clear hQ2
      rcases hz with ⟨hz, hq⟩ | ⟨hz, hq⟩
      all_goals
        go_wp2_with fail
        go_ret
        exact ⟨by rw [hq.out]; first | rfl | (show Ending.returned (.bool (decide ((l.length : Int) ≤ 255))) = _; first | rw [decide_eq_true (by omega)] | rw [decide_eq_false (by omega)]), hBw⟩
def shaX (x : Req) : Bool := decide (x.key.size ≤ 255) && decide (x.value.size ≤ 255)
def shaL (l : List Req) : Bool := l.all shaX && decide (l.length ≤ 255)
theorem shaL_t {l : List Req} (h : shaL l = true) : ReqsS l := by
  unfold shaL at h
  simp only [Bool.and_eq_true, List.all_eq_true, decide_eq_true_eq] at h
  refine ⟨h.2, fun x hx => ?_⟩
  have := h.1 x hx
  unfold shaX at this
  simpa [s255] using this
set_option maxRecDepth 100000 in
theorem sha_any (r : Row Req) (w : World) (hr : ReqsOk w r) :
    Calls Try.prog 27 #[r.v] w fun e w' => e = .returned (.bool (shaL r.l)) ∧ Below w.heap.size w w' := by
  obtain ⟨v, l⟩ := r
  obtain ⟨h, hr2, _⟩ := hr
  simp only at h hr2 ⊢
  obtain ⟨A, c, rfl, hc, _⟩ := id h
  have hl : l.length ≤ 9223372036854775807 := by
    have := Nat.le_trans hr2 reach_max
    unfold maxLen at this
    omega
  clear hr2
  obtain ⟨q, hq⟩ : ∃ q, q = shaL l := ⟨_, rfl⟩
  rw [← hq]
  have hQ := Lib.hid hq
  clear hq
  go_enter Try.func27, Try.ntmps27
  go_wp2_with fail
  go_loopw [7, 4] (fun i p wr => ∃ k : Nat, k ≤ l.length ∧ i = .int .i64 k ∧ Below w.heap.size w wr ∧ Hid (∀ y ∈ l.take k, shaX y = true)) (fun i p wr => l.length - (intOf i).toNat)
  case atStart => exact ⟨0, Nat.zero_le _, rfl, Below.refl _ _, Lib.hid (by simp)⟩
  case round =>
    obtain ⟨k, hk, rfl, hBw, hall⟩ := hrel
    by_cases hlt : k < l.length
    · obtain ⟨b, o, rfl, hbl, hadd, hcell⟩ := Sl.row' (s := 3) (f := Req.cells) (fun _ => rfl) (by omega) (h.below hBw) k hlt
      have a0 : wr.cell? ⟨b, o + k * 3, none⟩ = _ := hcell 0 _ rfl
      have a1 := hcell 1 _ rfl
      have a2 := hcell 2 _ rfl
      have hN : shaX l[k] = true → Hid (∀ y ∈ l.take (k + 1), shaX y = true) := fun e => Lib.hid (by
        intro y hy
        rw [List.take_succ_eq_append_getElem hlt] at hy
        rcases List.mem_append.1 hy with hy | hy
        · exact hall.out y hy
        · simp at hy; subst hy; exact e)
      have hF : shaX l[k] = false → Hid (q = false) := fun e => Lib.hid (by
        rw [hQ.out]
        unfold shaL
        rw [Bool.and_eq_false_iff]
        left
        rw [List.all_eq_false]
        exact ⟨l[k], List.getElem_mem hlt, by rw [e]; decide⟩)
      clear hcell
      generalize l[k] = x at a0 a1 a2 hN hF
      have hcase : (x.key.size ≤ 255 ∧ x.value.size ≤ 255 ∧ shaX x = true) ∨ (255 < x.key.size ∧ shaX x = false) ∨ (x.key.size ≤ 255 ∧ 255 < x.value.size ∧ shaX x = false) := by
        unfold shaX
        by_cases h1 : x.key.size ≤ 255
        · by_cases h2 : x.value.size ≤ 255
          · exact .inl ⟨h1, h2, by simp [h1, h2]⟩
          · exact .inr (.inr ⟨h1, by omega, by simp [h2]⟩)
        · exact .inr (.inl ⟨by omega, by simp [h1]⟩)
      rcases hcase with ⟨h1, h2, h3⟩ | ⟨h1, h3⟩ | ⟨h1, h2, h3⟩
      · replace hN := hN h3
        clear hF h3 hall
        go_wp2_with fail
        exact ⟨⟨k + 1, by omega, by go_num, (hBw.alloc hBw.size _), hN⟩, by simp [intOf]; omega⟩
      all_goals
        replace hF := hF h3
        clear hN h3 hall
        go_wp2_with fail
        go_ret
        exact ⟨by rw [hF.out]; rfl, hBw.alloc hBw.size _⟩
    · have e : l.take k = l := List.take_of_length_le (by omega)
      rw [e] at hall
      have hall' : (l.all shaX) = true := by rw [List.all_eq_true]; exact hall.out
      have hQ2 : Hid (q = decide (l.length ≤ 255)) := Lib.hid (by rw [hQ.out]; unfold shaL; rw [hall']; simp)
      clear e hall hall' hQ h
      have hz : (((l.length : Nat) : Int) ≤ 255 ∧ Hid (q = true)) ∨ ((255 : Int) < ((l.length : Nat) : Int) ∧ Hid (q = false)) := by
        by_cases e : l.length ≤ 255
        · exact .inl ⟨by omega, Lib.hid (by rw [hQ2.out, decide_eq_true e])⟩
        · exact .inr ⟨by omega, Lib.hid (by rw [hQ2.out, decide_eq_false e])⟩
      clear hQ2
      rcases hz with ⟨hz, hq⟩ | ⟨hz, hq⟩
      all_goals
        go_wp2_with fail
        go_ret
        exact ⟨by rw [hq.out]; first | rfl | (show Ending.returned (.bool (decide ((l.length : Int) ≤ 255))) = _; first | rw [decide_eq_true (by omega)] | rw [decide_eq_false (by omega)]), hBw⟩
end Go.Proofs.Ythdjfcfbmmmmcaa
