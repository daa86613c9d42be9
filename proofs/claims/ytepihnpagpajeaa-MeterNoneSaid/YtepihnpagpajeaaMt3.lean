/-
  The walks of package meter: Read; a meter that isn't there; the law's lives.
-/
import Derived.Test.YtepihnpagpajeaaMt2
import Derived.Test.YtepihnpagpajeaaSt
namespace Go.Proofs.Ytepihnpagpajeaa
open Go.RowKit Go.Proofs.Mem
open Go.Maps (Keyed string_keyed)
open Go.WideMaps (keyOf_string_mk)
set_option linter.unusedVariables false
set_option linter.unusedSimpArgs false
def ReadMt (m b n : Nat) (D : DataW Value) (last now T : Nat) (w : World) (e : Ending) (w' : World) : Prop :=
  (T ≤ 9223372036854775807 ∧ e = .returned (.tuple #[.int .u64 T, .int .i64 0]) ∧ MtIs w' m b n D now ∧ Below b w w') ∨
  (9223372036854775807 < T ∧ e = .returned (.tuple #[.int .u64 0, .int .i64 4]) ∧ MtIs w' m b n D last ∧ Below w.heap.size w w')
set_option maxHeartbeats 1000000 in
set_option maxRecDepth 100000 in
theorem read_any (w : World) (m b n last : Nat) (D : DataW Value) (h : MtIs w m b n D last) (s : ByteArray) (hsl : s.size ≤ maxLen) (now s0 i0 c0 : Nat) (q2 : last ≤ now) (q3 : now ≤ 4611686018427387904)
    (hv : valAt D (.string s.data.toList) (.agg #[.int .i64 0, .int .i64 0, .int .u64 0]) = .agg #[.int .i64 s0, .int .i64 i0, .int .u64 c0]) (q4 : s0 ≤ 1000000) (q5 : i0 ≤ now) (q6 : c0 ≤ 9223372036854775807)
    (hhas : Maps.has D (.string s.data.toList) = true) :
    Calls Try.prog 13 #[.pointer (some ⟨m, 0, none⟩), .string s, .int .i64 now] w (ReadMt m b n D last now (s0 * (now - i0) + c0) w) := by
  have CT := Lib.hid (tick_ok w m b n last now D h q2 q3)
  have CA := Lib.hid (fun w1 => at_any s0 i0 now c0 w1 q4 q5 q3 q6)
  have hkey := keyOf_string_mk Try.underlying9 hsl
  obtain ⟨kl, hkl⟩ : ∃ kl, kl = Lit.string s.data.toList := ⟨_, rfl⟩
  rw [← hkl] at hv hhas hkey
  obtain ⟨hlt, hk, hm⟩ := id h
  have c0' := hk.cell 0
  have HM := Lib.hid h
  obtain ⟨T, hT⟩ : ∃ T, T = s0 * (now - i0) + c0 := ⟨_, rfl⟩
  rw [← hT] at CA ⊢
  have HX := Lib.hid hhas
  have h1 := Lib.hid (hm.alloc (.cells #[.int .i64 s0, .int .i64 i0, .int .u64 c0] 131))
  have h2 := Lib.hid (hk.alloc (.cells #[.int .i64 s0, .int .i64 i0, .int .u64 c0] 131))
  have h3 := Lib.hid ((Below.refl w.heap.size w).alloc (Nat.le_refl _) (.cells #[.int .i64 s0, .int .i64 i0, .int .u64 c0] 131))
  have CT2 := Lib.hid (tick_ok (w.alloc (.cells #[.int .i64 s0, .int .i64 i0, .int .u64 c0] 131)) m b n last now D ⟨hlt, h2.out, h1.out⟩ q2 q3)
  clear hsl q2 q4 q5 q6 hkl hlt hk hT hhas h
  go_enter Try.func13, Try.ntmps13
  go_wp2_with fail
  refine CT.out.mono ?_
  rintro e w' ⟨rfl, rfl⟩
  go_wp2_with (at_lookup; refine wpl_look_ok rfl _ _ 133 rfl 9 131 strK Try.underlying133 zeroDial b n D rfl hm _ _ rfl hkey ?_; rw [hv, HX.out])
  refine CT2.out.mono ?_
  rintro e w' ⟨rfl, rfl⟩
  go_wp2_with fail
  have hm1 := h1.out
  have hk1 := h2.out
  have hB1 := h3.out
  generalize w.alloc (.cells #[.int .i64 s0, .int .i64 i0, .int .u64 c0] 131) = w1 at hm1 hk1 hB1 ⊢
  refine (CA.out _).mono ?_
  rintro e w2 ⟨rfl, hb2⟩
  have hm2 := hm1.below hb2
  have hk2 := hk1.below' hb2
  have hB2 := hB1.trans (hb2.mono hB1.size)
  have f0 := hk2.cell 0
  have f1 := hk2.cell 1
  have f2 := hk2.frozen 1
  clear hm1 hk1 hB1 hb2 hv c0' hm
  by_cases hT : T ≤ 9223372036854775807
  · have e1 : atV (T : Int) = .tuple #[.int .u64 T, .int .i64 0] := by unfold atV; rw [if_pos (by omega)]
    rw [e1]
    clear e1
    have HT := Lib.hid hT
    clear hT
    go_wp2_with fail
    go_ret2
    left
    have hbl := hm2.lt
    have hlt := HM.out.1
    have hs0 := hB2.size
    have hmm := HM.out.2.1.lt
    exact ⟨HT.out, rfl, ⟨HM.out.1, hk2.set 1 _, hm2.setCell (by have := HM.out.1; simp; omega) _⟩, (hB2.mono (by omega)).setCell (by simp; omega) _⟩
  · have e1 : atV (T : Int) = .tuple #[.int .u64 0, .int .i64 4] := by unfold atV; rw [if_neg (by omega)]
    rw [e1]
    clear e1
    have HT := Lib.hid hT
    clear hT
    go_wp2_with fail
    go_ret2
    right
    exact ⟨by have := HT.out; omega, rfl, ⟨HM.out.1, hk2, hm2⟩, hB2⟩
theorem read_nil (s : ByteArray) (now : Int) (w : World) : Calls Try.prog 13 #[.pointer none, .string s, .int .i64 now] w fun e w' => e = .returned (.tuple #[.int .u64 0, .int .i64 1]) ∧ w = w' := by
  go_enter Try.func13, Try.ntmps13
  go_wp2_with (go_at_call 51; refine (tick_nil now _).mono ?_; rintro e w' ⟨rfl, rfl⟩)
  go_ret2
  exact ⟨rfl, rfl⟩
theorem all_nil (now : Int) (w : World) : Calls Try.prog 14 #[.pointer none, .int .i64 now] w fun e w' => e = .returned (.tuple #[.slice none 0 0, .int .i64 1]) ∧ w = w' := by
  go_enter Try.func14, Try.ntmps14
  go_wp2_with (go_at_call 51; refine (tick_nil now _).mono ?_; rintro e w' ⟨rfl, rfl⟩)
  go_ret2
  exact ⟨rfl, rfl⟩
theorem close_nil (now : Int) (w : World) : Calls Try.prog 15 #[.pointer none, .int .i64 now] w fun e w' => e = .returned (.tuple #[.slice none 0 0, .int .i64 1]) ∧ w = w' := by
  go_enter Try.func15, Try.ntmps15
  go_wp2_with (go_at_call 14; refine (all_nil now _).mono ?_; rintro e w' ⟨rfl, rfl⟩)
  go_ret2
  exact ⟨rfl, rfl⟩
theorem bill_nil (now : Int) (w : World) : Calls Try.prog 16 #[.pointer none, .int .i64 now, .map none] w fun e w' => e = .returned (.tuple #[.int .u64 0, .int .i64 1]) ∧ w = w' := by
  go_enter Try.func16, Try.ntmps16
  go_wp2_with (go_at_call 51; refine (tick_nil now _).mono ?_; rintro e w' ⟨rfl, rfl⟩)
  go_ret2
  exact ⟨rfl, rfl⟩
theorem set_nil (s : ByteArray) (n now : Int) (w : World) : Calls Try.prog 17 #[.pointer none, .string s, .int .i64 n, .int .i64 now] w fun e w' => e = .returned (.int .i64 1) ∧ w = w' := by
  go_enter Try.func17, Try.ntmps17
  go_wp2_with fail
  go_ret
  exact ⟨rfl, rfl⟩
theorem nodes_nil (a : Addr) (now : Int) (w : World) : Calls Try.prog 18 #[.pointer none, .pointer (some a), .int .i64 now] w fun e w' => e = .returned (.int .i64 1) ∧ w = w' := by
  go_enter Try.func18, Try.ntmps18
  go_wp2_with (go_at_call 51; refine (tick_nil now _).mono ?_; rintro e w' ⟨rfl, rfl⟩)
  go_ret
  exact ⟨rfl, rfl⟩
end Go.Proofs.Ytepihnpagpajeaa
