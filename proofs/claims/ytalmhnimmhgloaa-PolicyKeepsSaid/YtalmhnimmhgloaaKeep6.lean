/-
  The walk of the statement PolicyKeeps, at its arguments as they are read.
-/
import Derived.Test.YtalmhnimmhgloaaKeep5
namespace Go.Proofs.Mem
open Go.RowKit
/-- A row of pieces, each of which reads as some x. -/
theorem rows_of {α : Type} {s : Nat} (f : α → List Value) (p : α → Prop) : ∀ (m : Nat) (xs : List Value), xs.length = m * s → (∀ i, i < m → ∃ x, (xs.drop (i * s)).take s = f x ∧ p x) → ∃ l : List α, l.length = m ∧ xs = l.flatMap f ∧ ∀ x ∈ l, p x
  | 0, xs, hl, _ => ⟨[], rfl, by simpa using hl, by simp⟩
  | m + 1, xs, hl, h => by
    have hs : s ≤ xs.length := by rw [hl, Nat.succ_mul]; omega
    obtain ⟨x, hx, px⟩ := h 0 (by omega)
    obtain ⟨l, h1, h2, h3⟩ := rows_of (s := s) f p m (xs.drop s) (by rw [List.length_drop, hl, Nat.succ_mul]; omega) (fun i hi => by
      obtain ⟨y, hy, py⟩ := h (i + 1) (by omega)
      exact ⟨y, by rw [List.drop_drop, Nat.add_comm s, ← Nat.succ_mul]; exact hy, py⟩)
    refine ⟨x :: l, by simp [h1], ?_, ?_⟩
    · rw [List.flatMap_cons, ← h2, ← hx, Nat.zero_mul, List.drop_zero, List.take_append_drop]
    · intro y hy
      rcases List.mem_cons.1 hy with rfl | hy
      · exact px
      · exact h3 y hy
end Go.Proofs.Mem
namespace Go.Proofs.Ytalmhnimmhgloaa
open Go.RowKit Go.Proofs.Mem
set_option linter.unusedVariables false
theorem dones_of {w : World} {A : Option Addr} {n c m : Nat} (h : Ok Try.prog w (m + 3) 41 (Value.slice A n c).cells.toList) :
    n ≤ maxLen ∧ ∃ xs : List Done, xs.length = n ∧ Sl w 3 (.slice A n c) n (xs.flatMap Done.cells) := by
  have hcs : Try.prog.cellsOf 44 = 3 := by kernel_rfl
  have hci : Try.prog.cellsOf 3 = 1 := by kernel_rfl
  have hc6 : Try.prog.cellsOf 2 = 1 := by kernel_rfl
  obtain ⟨v, m', xs, e1, hS, hm, hel⟩ := ok_slice Try.underlying41 h (by omega)
  rw [hcs] at hS hel
  have e2 : v = .slice A n c := by simp [Value.cells] at e1; exact e1.symm
  subst e2
  obtain ⟨rfl, _, _, hl, _⟩ := hS.parts
  refine ⟨hm, ?_⟩
  obtain ⟨l, h1, h2, _⟩ := rows_of (s := 3) Done.cells (fun _ => True) _ xs hl (fun i hi => by
    obtain ⟨hlen, hf⟩ := ok_struct Try.underlying44 (hel i hi)
    rw [hcs] at hlen
    obtain ⟨z0, e0, _⟩ := ok_int Try.underlying2 (ok_field hf 0 2 0 1 (by kernel_rfl) hc6)
    obtain ⟨z1, e1, _⟩ := ok_int Try.underlying3 (ok_field hf 1 3 1 1 (by kernel_rfl) hci)
    obtain ⟨z2, e2, _⟩ := ok_int Try.underlying3 (ok_field hf 2 3 2 1 (by kernel_rfl) hci)
    exact ⟨⟨z0, z1, z2⟩, three_of hlen (one_cell e0) (one_cell e1) (one_cell e2), trivial⟩)
  exact ⟨l, h1, by rw [← h2]; exact hS⟩
theorem policyKeeps_walk (A : Option Addr) (n c : Nat) (now : Int) (w : World) (h : Ok Try.prog w 9 41 (Value.slice A n c).cells.toList) (wn : (Lit.int .i64 now).wf = true) :
    Calls Try.prog 6 #[.slice A n c, .int .i64 now] w fun e w' => e = .returned (.bool true) ∧ Below w.heap.size w w' := by
  obtain ⟨hm, xs, hx, hS⟩ := dones_of (m := 6) h
  subst hx
  cases hr : rightP xs now
  · exact keeps_none xs _ now w (by simpa [maxLen] using hm) hS hr
  · exact keeps_some xs _ now w hS hr
end Go.Proofs.Ytalmhnimmhgloaa
