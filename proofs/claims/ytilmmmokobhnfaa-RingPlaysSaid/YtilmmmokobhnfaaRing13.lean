/-
  The walk of the statement RingPlays, at its arguments as they are read.
-/
import Derived.Test.YtilmmmokobhnfaaRing12
import Derived.Test.YtilmmmokobhnfaaObj
import Derived.Test.YtilmmmokobhnfaaOpen
namespace Go.Proofs.Ytilmmmokobhnfaa
open Go.RowKit Go.Proofs.Mem
set_option linter.unusedVariables false
theorem acts_of {w : World} {A : Option Addr} {n c m : Nat} (h : Ok Try.prog w (m + 3) 83 (Value.slice A n c).cells.toList) :
    ∃ xs : List (Int × Int × Int), xs.length = n ∧ Sl w 3 (.slice A n c) n (xs.flatMap acells) := by
  have hcs : Try.prog.cellsOf 89 = 3 := by kernel_rfl
  have hci : Try.prog.cellsOf 3 = 1 := by kernel_rfl
  have hc6 : Try.prog.cellsOf 2 = 1 := by kernel_rfl
  obtain ⟨v, m', xs, e1, hS, hm, hel⟩ := ok_slice Try.underlying83 h (by omega)
  rw [hcs] at hS hel
  have e2 : v = .slice A n c := by simp [Value.cells] at e1; exact e1.symm
  subst e2
  obtain ⟨rfl, _, _, hl, _⟩ := hS.parts
  obtain ⟨l, h1, h2, _⟩ := rows_of (s := 3) acells (fun _ => True) _ xs hl (fun i hi => by
    obtain ⟨hlen, hf⟩ := ok_struct Try.underlying89 (hel i hi)
    rw [hcs] at hlen
    obtain ⟨z0, e0, _⟩ := ok_int Try.underlying3 (ok_field hf 0 3 0 1 (by kernel_rfl) hci)
    obtain ⟨z1, e1, _⟩ := ok_int Try.underlying2 (ok_field hf 1 2 1 1 (by kernel_rfl) hc6)
    obtain ⟨z2, e2, _⟩ := ok_int Try.underlying3 (ok_field hf 2 3 2 1 (by kernel_rfl) hci)
    exact ⟨⟨z0, z1, z2⟩, three_of hlen (one_cell e0) (one_cell e1) (one_cell e2), trivial⟩)
  exact ⟨l, h1, by rw [← h2]; exact hS⟩
theorem ringPlays_walk (most : Int) (A : Option Addr) (n c : Nat) (t : Int) (w : World) (_ : (Lit.int .i64 most).wf = true) (h : Ok Try.prog w 9 83 (Value.slice A n c).cells.toList) (_ : (Lit.int .i64 t).wf = true) :
    Calls Try.prog 6 #[.int .i64 most, .slice A n c, .int .i64 t] w fun e w' => e = .returned (.bool true) ∧ Below w.heap.size w w' := by
  obtain ⟨xs, hx, hS⟩ := acts_of (m := 6) h
  rcases Nat.lt_or_ge 100 n with hn | hn
  · exact ringPlays_long most t A n c hn w
  · by_cases hm : most < 1 ∨ (1 ≤ most ∧ 32 < most)
    · exact ringPlays_bad most t hm A n c hn w
    · have h0 : 0 ≤ most := by omega
      obtain ⟨m, rfl⟩ := Int.eq_ofNat_of_zero_le h0
      subst hx
      exact ringPlays_ok m (by omega) (by omega) t A c xs hn w hS
end Go.Proofs.Ytilmmmokobhnfaa
