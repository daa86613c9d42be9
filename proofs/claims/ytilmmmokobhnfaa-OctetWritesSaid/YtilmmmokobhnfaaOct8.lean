/-
  The walk of the statement OctetWrites, at its arguments as they are read.
-/
import Derived.Test.YtilmmmokobhnfaaOct7
import Derived.Test.YtilmmmokobhnfaaObj
import Derived.Test.YtilmmmokobhnfaaOpen
namespace Go.Proofs.Ytilmmmokobhnfaa
open Go.RowKit Go.Proofs.Mem
set_option linter.unusedVariables false
theorem four_of {cs : List Value} {a b c d : Value} (hl : cs.length = 4) (h0 : cs[0]? = some a) (h1 : cs[1]? = some b) (h2 : cs[2]? = some c) (h3 : cs[3]? = some d) : cs = [a, b, c, d] := by
  match cs, hl with
  | [w, x, y, z], _ =>
    simp at h0 h1 h2 h3
    subst h0; subst h1; subst h2; subst h3
    rfl
theorem steps_of {w : World} {A : Option Addr} {n c m : Nat} (h : Ok Try.prog w (m + 3) 62 (Value.slice A n c).cells.toList) :
    ∃ xs : List St, xs.length = n ∧ Sl w 4 (.slice A n c) n (xs.flatMap stcells) ∧ ∀ x ∈ xs, x.2.2.1 ≤ 18446744073709551615 ∧ x.2.2.2.size ≤ maxLen := by
  have hcs : Try.prog.cellsOf 68 = 4 := by kernel_rfl
  have hci : Try.prog.cellsOf 3 = 1 := by kernel_rfl
  have hcu : Try.prog.cellsOf 31 = 1 := by kernel_rfl
  have hct : Try.prog.cellsOf 9 = 1 := by kernel_rfl
  obtain ⟨v, m', xs, e1, hS, hm, hel⟩ := ok_slice Try.underlying62 h (by omega)
  rw [hcs] at hS hel
  have e2 : v = .slice A n c := by simp [Value.cells] at e1; exact e1.symm
  subst e2
  obtain ⟨rfl, _, _, hl, _⟩ := hS.parts
  obtain ⟨l, h1, h2, h3⟩ := rows_of (s := 4) stcells (fun x => x.2.2.1 ≤ 18446744073709551615 ∧ x.2.2.2.size ≤ maxLen) _ xs hl (fun i hi => by
    obtain ⟨hlen, hf⟩ := ok_struct Try.underlying68 (hel i hi)
    rw [hcs] at hlen
    obtain ⟨z0, e0, _⟩ := ok_int Try.underlying3 (ok_field hf 0 3 0 1 (by kernel_rfl) hci)
    obtain ⟨z1, e1, _⟩ := ok_int Try.underlying3 (ok_field hf 1 3 1 1 (by kernel_rfl) hci)
    obtain ⟨z2, e2, w2⟩ := ok_int Try.underlying31 (ok_field hf 2 31 2 1 (by kernel_rfl) hcu)
    obtain ⟨z3, e3, w3⟩ := ok_string Try.underlying9 (ok_field hf 3 9 3 1 (by kernel_rfl) hct)
    have b2 : 0 ≤ z2 ∧ z2 ≤ 18446744073709551615 := by
      simp [Lit.wf, IntKind.min, IntKind.max, IntKind.signed, IntKind.bits] at w2
      omega
    obtain ⟨y2, rfl⟩ := Int.eq_ofNat_of_zero_le b2.1
    exact ⟨⟨z0, z1, y2, z3⟩, four_of hlen (one_cell e0) (one_cell e1) (one_cell e2) (one_cell e3), by show y2 ≤ _; omega, w3⟩)
  exact ⟨l, h1, by rw [← h2]; exact hS, h3⟩
theorem octetWrites_walk (A : Option Addr) (n c : Nat) (w : World) (h : Ok Try.prog w 9 62 (Value.slice A n c).cells.toList) :
    Calls Try.prog 5 #[.slice A n c] w fun e w' => e = .returned (.bool true) ∧ Below w.heap.size w w' := by
  obtain ⟨xs, hx, hS, hp⟩ := steps_of (m := 6) h
  rcases Nat.lt_or_ge 40 n with hn | hn
  · exact octetWrites_long A n c hn w
  · subst hx
    exact octetWrites_ok A c xs hn (fun x h => (hp x h).1) (fun x h => (hp x h).2) w hS
end Go.Proofs.Ytilmmmokobhnfaa
