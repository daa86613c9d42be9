/-
  The walks of the adviser's CPU and Mem.
-/
import Derived.Test.YtjiliegfcljjhaaGreatAd7
namespace Go.Proofs.YtjiliegfcljjhaaGreat
open Go.RowKit Go.Proofs.Mem
open Go.Maps (Keyed string_keyed)
open Go.WideMaps (keyOf_string_mk)
set_option linter.unusedVariables false
set_option linter.unusedSimpArgs false
set_option maxRecDepth 100000 in
theorem cpu_nil (s : ByteArray) (w : World) : Calls Tryz.prog 7 #[.pointer none, .string s] w fun e w' => e = .returned (.tuple #[.agg #[.int .i64 0, .int .i64 0, .int .i64 0], .bool false]) ∧ Below w.heap.size w w' := by
  have k4 := Bk.new w 31 #[.int .i64 0, .int .i64 0, .int .i64 0]
  have B0 := below_al w (.cells #[.int .i64 0, .int .i64 0, .int .i64 0] 31)
  go_enter Tryz.func7, Tryz.ntmps7
  go_wp2_with fail
  exact bodyPost_ret (v := .tuple #[.agg #[.int .i64 0, .int .i64 0, .int .i64 0], .bool false]) (results_cell_two (t := 4) (s := 5) rfl rfl (load_adv k4)) rfl ⟨rfl, B0⟩
set_option maxHeartbeats 1000000 in
set_option maxRecDepth 100000 in
theorem cpu_any (w : World) (a b n : Nat) (D : DataW Value) (F G M H mg ls gr : Nat) (h : AdIs w a b n D F G M H mg ls gr) (s : ByteArray) (hs : s.size ≤ maxLen) (x y : Option Addr) (hv : valAt D (kO s) (.agg #[.pointer none, .pointer none]) = .agg #[.pointer x, .pointer y]) (u0 u1 u2 : Int) (ok : Bool)
    (hadv : ∀ w1 : World, Below w.heap.size w w1 → Calls Tryz.prog 15 #[.pointer (some ⟨a, 0, none⟩), .pointer x] w1 fun e w' => e = .returned (.tuple #[.agg #[.int .i64 u0, .int .i64 u1, .int .i64 u2], .bool ok]) ∧ Below w1.heap.size w1 w') :
    Calls Tryz.prog 7 #[.pointer (some ⟨a, 0, none⟩), .string s] w fun e w' => e = .returned (.tuple #[.agg #[.int .i64 u0, .int .i64 u1, .int .i64 u2], .bool ok]) ∧ Below w.heap.size w w' := by
  have hkey := keyOf_string_mk Tryz.underlying9 hs
  have CA := Lib.hid hadv
  have hm1 := h.2.2.alloc (.cells #[.int .i64 0, .int .i64 0, .int .i64 0] 31)
  have hlk := hm1.run_look strKA underAd (zeroAd _) hkey
  rw [show valAt D (Lit.string s.data.toList) (.agg #[.pointer none, .pointer none]) = _ from hv] at hlk
  have d7 := (h.2.1.alloc (.cells #[.int .i64 0, .int .i64 0, .int .i64 0] 31)).cell 7
  have B0 := below_al w (.cells #[.int .i64 0, .int .i64 0, .int .i64 0] 31)
  have k4 := Bk.new w 31 #[.int .i64 0, .int .i64 0, .int .i64 0]
  have hfd : ∀ w : World, (Instr.field 88 (.agg #[.pointer x, .pointer y]) 0).run Tryz.prog w = .ok (.pointer x) w := fun _ => by kernel_rfl
  clear h hv hadv
  go_enter Tryz.func7, Tryz.ntmps7
  go_wp2_with fail
  refine (CA.out _ B0).mono ?_
  rintro e w2 ⟨rfl, b2⟩
  have B2 := below_tr B0 b2
  have k42 := k4.below' b2
  obtain ⟨g, hg⟩ : ∃ g, g = w.heap.size := ⟨_, rfl⟩
  rw [← hg] at k42 ⊢
  have f0 := k42.frozen 0
  have f1 := k42.frozen 1
  have f2 := k42.frozen 2
  have c0 := k42.cell 0
  have c1 := k42.cell 1
  have c2 := k42.cell 2
  have k9 := ((k42.set 0 (.int .i64 u0)).set 1 (.int .i64 u1)).set 2 (.int .i64 u2)
  simp at k9
  have B9 := ((B2.setCell (p := ⟨g, 0, none⟩) (Nat.le_of_eq hg.symm) (.int .i64 u0)).setCell (p := ⟨g, 1, none⟩) (Nat.le_of_eq hg.symm) (.int .i64 u1)).setCell (p := ⟨g, 2, none⟩) (Nat.le_of_eq hg.symm) (.int .i64 u2)
  have HG := Lib.hid hg
  clear hg
  go_wp2_with fail
  exact bodyPost_ret (v := .tuple #[.agg #[.int .i64 u0, .int .i64 u1, .int .i64 u2], .bool ok]) (results_cell_two (t := 4) (s := 5) rfl rfl (load_adv k9)) rfl ⟨rfl, B9⟩
set_option maxRecDepth 100000 in
theorem mem_nil (s : ByteArray) (w : World) : Calls Tryz.prog 8 #[.pointer none, .string s] w fun e w' => e = .returned (.tuple #[.agg #[.int .i64 0, .int .i64 0, .int .i64 0], .bool false]) ∧ Below w.heap.size w w' := by
  have k4 := Bk.new w 31 #[.int .i64 0, .int .i64 0, .int .i64 0]
  have B0 := below_al w (.cells #[.int .i64 0, .int .i64 0, .int .i64 0] 31)
  go_enter Tryz.func8, Tryz.ntmps8
  go_wp2_with fail
  exact bodyPost_ret (v := .tuple #[.agg #[.int .i64 0, .int .i64 0, .int .i64 0], .bool false]) (results_cell_two (t := 4) (s := 5) rfl rfl (load_adv k4)) rfl ⟨rfl, B0⟩
set_option maxHeartbeats 1000000 in
set_option maxRecDepth 100000 in
theorem mem_any (w : World) (a b n : Nat) (D : DataW Value) (F G M H mg ls gr : Nat) (h : AdIs w a b n D F G M H mg ls gr) (s : ByteArray) (hs : s.size ≤ maxLen) (x y : Option Addr) (hv : valAt D (kO s) (.agg #[.pointer none, .pointer none]) = .agg #[.pointer x, .pointer y]) (u0 u1 u2 : Int) (ok : Bool)
    (hadv : ∀ w1 : World, Below w.heap.size w w1 → Calls Tryz.prog 15 #[.pointer (some ⟨a, 0, none⟩), .pointer y] w1 fun e w' => e = .returned (.tuple #[.agg #[.int .i64 u0, .int .i64 u1, .int .i64 u2], .bool ok]) ∧ Below w1.heap.size w1 w') :
    Calls Tryz.prog 8 #[.pointer (some ⟨a, 0, none⟩), .string s] w fun e w' => e = .returned (.tuple #[.agg #[.int .i64 u0, .int .i64 u1, .int .i64 u2], .bool ok]) ∧ Below w.heap.size w w' := by
  have hkey := keyOf_string_mk Tryz.underlying9 hs
  have CA := Lib.hid hadv
  have hm1 := h.2.2.alloc (.cells #[.int .i64 0, .int .i64 0, .int .i64 0] 31)
  have hlk := hm1.run_look strKA underAd (zeroAd _) hkey
  rw [show valAt D (Lit.string s.data.toList) (.agg #[.pointer none, .pointer none]) = _ from hv] at hlk
  have d7 := (h.2.1.alloc (.cells #[.int .i64 0, .int .i64 0, .int .i64 0] 31)).cell 7
  have B0 := below_al w (.cells #[.int .i64 0, .int .i64 0, .int .i64 0] 31)
  have k4 := Bk.new w 31 #[.int .i64 0, .int .i64 0, .int .i64 0]
  have hfd : ∀ w : World, (Instr.field 88 (.agg #[.pointer x, .pointer y]) 1).run Tryz.prog w = .ok (.pointer y) w := fun _ => by kernel_rfl
  clear h hv hadv
  go_enter Tryz.func8, Tryz.ntmps8
  go_wp2_with fail
  refine (CA.out _ B0).mono ?_
  rintro e w2 ⟨rfl, b2⟩
  have B2 := below_tr B0 b2
  have k42 := k4.below' b2
  obtain ⟨g, hg⟩ : ∃ g, g = w.heap.size := ⟨_, rfl⟩
  rw [← hg] at k42 ⊢
  have f0 := k42.frozen 0
  have f1 := k42.frozen 1
  have f2 := k42.frozen 2
  have c0 := k42.cell 0
  have c1 := k42.cell 1
  have c2 := k42.cell 2
  have k9 := ((k42.set 0 (.int .i64 u0)).set 1 (.int .i64 u1)).set 2 (.int .i64 u2)
  simp at k9
  have B9 := ((B2.setCell (p := ⟨g, 0, none⟩) (Nat.le_of_eq hg.symm) (.int .i64 u0)).setCell (p := ⟨g, 1, none⟩) (Nat.le_of_eq hg.symm) (.int .i64 u1)).setCell (p := ⟨g, 2, none⟩) (Nat.le_of_eq hg.symm) (.int .i64 u2)
  have HG := Lib.hid hg
  clear hg
  go_wp2_with fail
  exact bodyPost_ret (v := .tuple #[.agg #[.int .i64 u0, .int .i64 u1, .int .i64 u2], .bool ok]) (results_cell_two (t := 4) (s := 5) rfl rfl (load_adv k9)) rfl ⟨rfl, B9⟩
end Go.Proofs.YtjiliegfcljjhaaGreat
