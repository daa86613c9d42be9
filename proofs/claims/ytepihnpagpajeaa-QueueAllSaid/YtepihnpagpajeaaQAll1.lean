/-
  Names of items in the statement QueueAll: plainly, and the walk of the function value that makes them.
-/
import Derived.Test.YtepihnpagpajeaaQue4
import Derived.Laws.IdiomStrings
import Derived.Laws.Concat
import Derived.IntWalk
namespace Go.Proofs.Ytepihnpagpajeaa
open Go.RowKit Go.Proofs.Mem
set_option linter.unusedVariables false
set_option linter.unusedSimpArgs false
def nmL (i : Nat) : List UInt8 := [105, UInt8.ofNat (97 + i / 10), UInt8.ofNat (97 + i % 10)]
def nmS (i : Nat) : ByteArray := ⟨(nmL i).toArray⟩
theorem nmS_name : ∀ i, i < 60 → nmB (nmS i) = true := by decide +kernel
theorem nmS_size (i : Nat) : (nmS i).size ≤ maxLen := by show 3 ≤ maxLen; decide
def idx (k : List UInt8) : Nat := 10 * ((k.getD 1 0).toNat - 97) + ((k.getD 2 0).toNat - 97)
theorem idx_nm : ∀ i, i < 60 → idx (nmL i) = i := by decide +kernel
theorem nm_inj {i j : Nat} (hi : i < 60) (hj : j < 60) (h : nmL i = nmL j) : i = j := by rw [← idx_nm i hi, ← idx_nm j hj, h]
theorem name_any (i : Nat) (w : World) (hi : i < 60) : Calls Try.prog 30 #[.int .i64 i] w fun e w' => e = .returned (.string (nmS i)) ∧ Below w.heap.size w w' := by
  obtain ⟨p, hp⟩ : ∃ p, p = i / 10 := ⟨_, rfl⟩
  obtain ⟨r, hr⟩ : ∃ r, r = i % 10 := ⟨_, rfl⟩
  have p1 : (i : Int) / 10 = (p : Int) := by omega
  have r1 : (i : Int) % 10 = (r : Int) := by omega
  have b1 : (p : Int) ≤ 9 := by omega
  have b2 : (r : Int) ≤ 9 := by omega
  have b3 : (i : Int) < 60 := by omega
  have hcv : (convert 56 9 (.slice (some ⟨w.heap.size, 0, none⟩) 2 2)).run Try.prog (w.alloc (.cells #[.int .u8 (97 + (p : Int)), .int .u8 (97 + (r : Int))] 5)) = .ok (.string ⟨#[UInt8.ofNat (97 + p), UInt8.ofNat (97 + r)]⟩) (w.alloc (.cells #[.int .u8 (97 + (p : Int)), .int .u8 (97 + (r : Int))] 5)) := by
    refine run_convert_bytes_back (P := Try.prog) _ 56 9 5 ⟨w.heap.size, 0, none⟩ 2 [UInt8.ofNat (97 + p), UInt8.ofNat (97 + r)] Try.underlying56 Try.underlying5 Try.underlying9 (fun j hj => ?_)
    have hj2 : j = 0 ∨ j = 1 := by simp at hj; omega
    rcases hj2 with rfl | rfl
    · rw [show (⟨w.heap.size, 0, none⟩ : Addr).add 0 = ⟨w.heap.size, 0, none⟩ from rfl, (Bk.new w _ _).cell 0]
      simp
      omega
    · rw [show (⟨w.heap.size, 0, none⟩ : Addr).add 1 = ⟨w.heap.size, 1, none⟩ from rfl, (Bk.new w _ _).cell 1]
      simp
      omega
  have HN : Hid (((⟨#[105]⟩ : ByteArray) ++ ⟨#[97 + UInt8.ofNat p, 97 + UInt8.ofNat r]⟩) = nmS i) := Lib.hid (by
    unfold nmS nmL
    rw [← hp, ← hr, UInt8.ofNat_add, UInt8.ofNat_add]
    rfl)
  clear hp hr
  go_enter Try.func30, Try.ntmps30
  go_wp2_with fail
  go_ret
  exact ⟨congrArg (fun s => Ending.returned (.string s)) HN.out, (Below.refl _ _).alloc (Nat.le_refl _) _⟩
end Go.Proofs.Ytepihnpagpajeaa
