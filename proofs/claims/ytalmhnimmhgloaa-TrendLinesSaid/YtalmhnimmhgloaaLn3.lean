/-
  The walk of the statement TrendLines.
-/
import Derived.Test.YtalmhnimmhgloaaLn2
import Derived.Test.YtalmhnimmhgloaaOpen
import Derived.Outline
namespace Go.Proofs.Ytalmhnimmhgloaa
open Go.RowKit Go.Proofs.Mem LineLaw
set_option linter.unusedVariables false
set_option linter.unusedSimpArgs false
theorem info_sample : (Try.prog.info? 71).map (fun i => (i.zero, i.size, i.bytes)) = some (some (.agg #[.int .i64 0, .int .i64 0]), 2, 16) := by kernel_rfl
/-- A row of one-cell integers that came in. -/
theorem uints_of {P : Program} {w : World} {t e : TypeId} {k : IntKind} {A : Option Addr} {n c m : Nat} (ht : P.underlying t = some (.slice e)) (he : P.underlying e = some (.int k)) (hc : P.cellsOf e = 1) (h : Ok P w (m + 2) t (Value.slice A n c).cells.toList) :
    n ≤ maxLen ∧ ∃ zs : List Int, zs.length = n ∧ Sl w 1 (.slice A n c) n (zs.map (fun z => Value.int k z)) ∧ ∀ z ∈ zs, (Lit.int k z).wf = true := by
  obtain ⟨v, m', xs, e1, hS, hm, hel⟩ := ok_slice ht h (by omega)
  rw [hc] at hS hel
  have e2 : v = .slice A n c := by simp [Value.cells] at e1; exact e1.symm
  subst e2
  obtain ⟨rfl, _, _, hl, _⟩ := hS.parts
  rw [Nat.mul_one] at hl
  refine ⟨hm, ?_⟩
  have key : ∀ j, j ≤ xs.length → ∃ zs : List Int, zs.length = j ∧ xs.take j = zs.map (fun z => Value.int k z) ∧ ∀ z ∈ zs, (Lit.int k z).wf = true := by
    intro j
    induction j with
    | zero => intro _; exact ⟨[], rfl, by simp, by simp⟩
    | succ j ih =>
      intro hj
      obtain ⟨zs, h1, h2, h3⟩ := ih (by omega)
      obtain ⟨z, hz, hw⟩ := ok_int he (hel j (by omega))
      rw [Nat.mul_one] at hz
      have := one_cell hz
      rw [List.getElem?_eq_getElem (by omega)] at this
      injection this with this
      refine ⟨zs ++ [z], by simp [h1], ?_, ?_⟩
      · rw [List.take_succ_eq_append_getElem (by omega), h2, this, List.map_append]
        rfl
      · intro y hy
        rcases List.mem_append.1 hy with hy | hy
        · exact h3 y hy
        · simp at hy; subst hy; exact hw
  obtain ⟨zs, h1, h2, h3⟩ := key xs.length (Nat.le_refl _)
  rw [List.take_length] at h2
  exact ⟨zs, by omega, by rw [← h2]; exact hS, h3⟩
theorem lines_early (p q r s : Int) (n : Nat) (A : Option Addr) (c : Nat) (w : World) (hn : n ≤ maxLen) (hbad : 30 < n ∨ n = 0) :
    Calls Try.prog 8 #[.int .u32 p, .int .u32 q, .int .u16 r, .slice A n c, .int .u16 s] w fun e w' => e = .returned (.bool true) ∧ Below w.heap.size w w' := by
  rcases hbad with h | h
  · have hI : (30 : Int) < (n : Int) := by omega
    go_enter Try.func8, Try.ntmps8
    go_wp2_with fail
    refine (lives42_any _).mono ?_
    rintro e w1 ⟨rfl, hb1⟩
    go_wp2_with fail
    refine (lives42_any _).mono ?_
    rintro e w2 ⟨rfl, hb2⟩
    go_wp2_with fail
    go_ret
    have hb0 : Below w.heap.size w ((w.alloc (.cells #[.int .u32 p] 74)).alloc (.cells #[.int .u16 r] 33)) := (below_al _ _).alloc (by simp) _
    have h1 := hb0.trans (hb1.mono (by simp; omega))
    exact ⟨rfl, h1.trans (hb2.mono h1.size)⟩
  · subst h
    go_enter Try.func8, Try.ntmps8
    go_wp2_with fail
    refine (lives42_any _).mono ?_
    rintro e w1 ⟨rfl, hb1⟩
    go_wp2_with fail
    refine (lives42_any _).mono ?_
    rintro e w2 ⟨rfl, hb2⟩
    go_wp2_with fail
    go_ret
    have hb0 : Below w.heap.size w ((w.alloc (.cells #[.int .u32 p] 74)).alloc (.cells #[.int .u16 r] 33)) := (below_al _ _).alloc (by simp) _
    have h1 := hb0.trans (hb1.mono (by simp; omega))
    exact ⟨rfl, h1.trans (hb2.mono h1.size)⟩
end Go.Proofs.Ytalmhnimmhgloaa
