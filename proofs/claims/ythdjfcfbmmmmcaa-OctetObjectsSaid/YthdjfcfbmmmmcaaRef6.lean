/-
  The walks of package trimtabref06: an object's bytes.
-/
import Derived.Test.YthdjfcfbmmmmcaaObjOpen
import Derived.Deep.RegionHeld3
import Derived.Deep.QuietTactic
import Derived.BigQuiet
import Derived.Laws.StructEq
import Derived.Laws.IdiomStrings
import Derived.Laws.Concat
namespace Go.Proofs.Ythdjfcfbmmmmcaa
open Go.RowKit Go.Proofs.Mem
set_option linter.unusedVariables false
set_option linter.unusedSimpArgs false
/-- A string of two: under a name. -/
theorem cat_of (a b : ByteArray) (h : a.size + b.size ≤ 9223372036854775807) : ∃ s, s = a ++ b ∧ s.size = a.size + b.size ∧ ∀ w, (Op.stringOp .add a b).run Try.prog w = .ok (.string s) w :=
  ⟨_, rfl, ByteArray.size_append .., fun w => run_string_add_sum w a b h⟩
def putL (x : Nat) : Nat → List UInt8
  | 0 => []
  | k + 1 => putL x k ++ [UInt8.ofNat (x / 256 ^ k % 256)]
def putB (x k : Nat) : ByteArray := ⟨(putL x k).toArray⟩
theorem putB_succ (x k : Nat) : putB x k ++ ⟨#[UInt8.ofNat (x / 256 ^ k % 256)]⟩ = putB x (k + 1) := by
  apply ByteArray.ext
  rw [ByteArray.data_append]
  simp [putB, putL]
theorem putL_len (x : Nat) : ∀ k, (putL x k).length = k
  | 0 => rfl
  | k + 1 => by simp [putL, putL_len x k]
theorem putB_size (x k : Nat) : (putB x k).size = k := by
  show (putL x k).toArray.size = k
  simp [putL_len]
set_option maxRecDepth 100000 in
theorem put_any (x n : Nat) (w : World) (hx : x ≤ 18446744073709551615) (hn : n ≤ 8) :
    Calls Try.prog 28 #[.int .u64 x, .int .i64 n] w fun e w' => e = .returned (.string (putB x n)) ∧ Below w.heap.size w w' := by
  go_enter Try.func28, Try.ntmps28
  go_wp2_with fail
  go_loopw [6, 0, 5] (fun i y s wr => ∃ k z : Nat, k ≤ n ∧ i = .int .i64 k ∧ y = .int .u64 z ∧ z = x / 256 ^ k ∧ s = .string (putB x k) ∧ Below w.heap.size w wr) (fun i y s wr => n - (intOf i).toNat)
  case atStart => exact ⟨0, x, Nat.zero_le _, rfl, rfl, by simp, rfl, Below.refl _ _⟩
  case round =>
    obtain ⟨k, z, hk, rfl, rfl, hz, rfl, hB⟩ := hrel
    have hzx : z ≤ 18446744073709551615 := by rw [hz]; exact Nat.le_trans (Nat.div_le_self _ _) hx
    have HZ := Lib.hid hz
    clear hz
    by_cases hlt : k < n
    · have hps : (putB x k).size ≤ 8 := by rw [putB_size]; omega
      have hcv : (convert 22 9 (.slice (some ⟨wr.heap.size, 0, none⟩) 1 1)).run Try.prog (wr.alloc (.cells #[.int .u8 ((z : Int) % 256)] 5)) = .ok (.string ⟨#[UInt8.ofNat (z % 256)]⟩) (wr.alloc (.cells #[.int .u8 ((z : Int) % 256)] 5)) := by
        refine run_convert_bytes_back (P := Try.prog) _ 22 9 5 ⟨wr.heap.size, 0, none⟩ 1 [UInt8.ofNat (z % 256)] Try.underlying22 Try.underlying5 Try.underlying9 (fun j hj => ?_)
        obtain rfl : j = 0 := by simpa using hj
        rw [show (⟨wr.heap.size, 0, none⟩ : Addr).add 0 = ⟨wr.heap.size, 0, none⟩ from rfl, (Bk.new wr _ _).cell 0]
        simp
      go_wp2_with fail
      exact ⟨⟨k + 1, z / 256, by omega, by go_num, by go_num, by rw [HZ.out, Nat.div_div_eq_div_mul, Nat.pow_succ], by rw [HZ.out, putB_succ], hB.alloc hB.size _⟩, by simp [intOf]; omega⟩
    · obtain rfl : k = n := by omega
      go_wp2_with fail
      go_ret
      exact ⟨rfl, hB⟩
/-- A number as the reference takes it: modulo 2^64. -/
def u64 (z : Int) : Nat := (z % 18446744073709551616).toNat
theorem u64_le (z : Int) : u64 z ≤ 18446744073709551615 := by unfold u64; omega
theorem u64_wrap (z : Int) : ((u64 z : Nat) : Int) = IntKind.u64.wrap z := by
  unfold u64
  rw [Int.toNat_of_nonneg (by omega)]
  simp [IntKind.wrap, IntKind.signed, IntKind.bits]
theorem int_any (z : Int) (w : World) (hz : wfi .i64 z) :
    Calls Try.prog 30 #[.int .i64 z] w fun e w' => e = .returned (.string (putB (u64 z) 8)) ∧ Below w.heap.size w w' := by
  have C := put_any (u64 z) 8 w (u64_le z) (Nat.le_refl _)
  rw [u64_wrap] at C
  have C := Lib.hid C
  go_enter Try.func30, Try.ntmps30
  go_wp2_with fail
  refine C.out.mono ?_
  rintro e w1 ⟨rfl, hb⟩
  go_wp2_with fail
  go_ret
  exact ⟨rfl, hb⟩
def textB (s : ByteArray) : ByteArray := putB s.size 1 ++ s
theorem text_any (s : ByteArray) (w : World) (hs : s.size ≤ 255) :
    Calls Try.prog 29 #[.string s] w fun e w' => e = .returned (.string (textB s)) ∧ Below w.heap.size w w' := by
  have C := Lib.hid (put_any s.size 1 w (by omega) (by omega))
  have h1 := putB_size s.size 1
  go_enter Try.func29, Try.ntmps29
  go_wp2_with fail
  refine C.out.mono ?_
  rintro e w1 ⟨rfl, hb⟩
  go_wp2_with fail
  go_ret
  exact ⟨rfl, hb⟩
def truthB (b : Bool) : ByteArray := putB (if b then 1 else 0) 1
theorem truth_any (b : Bool) (w : World) :
    Calls Try.prog 34 #[.bool b] w fun e w' => e = .returned (.string (truthB b)) ∧ Below w.heap.size w w' := by
  have C0 := Lib.hid (put_any 0 1 w (by omega) (by omega))
  have C1 := Lib.hid (put_any 1 1 w (by omega) (by omega))
  cases b
  · go_enter Try.func34, Try.ntmps34
    go_wp2_with fail
    refine C0.out.mono ?_
    rintro e w1 ⟨rfl, hb⟩
    go_wp2_with fail
    go_ret
    exact ⟨rfl, hb⟩
  · go_enter Try.func34, Try.ntmps34
    go_wp2_with fail
    refine C1.out.mono ?_
    rintro e w1 ⟨rfl, hb⟩
    go_wp2_with fail
    go_ret
    exact ⟨rfl, hb⟩
end Go.Proofs.Ythdjfcfbmmmmcaa
