/-
  The statement MeterNone: the law's lives, and its walk.
-/
import Derived.Test.YtepihnpagpajeaaMt3
import Derived.Test.YtepihnpagpajeaaOpen
namespace Go.Proofs.Ytepihnpagpajeaa
open Go.RowKit Go.Proofs.Mem
open Go.Maps (Keyed string_keyed)
open Go.WideMaps (keyOf_string_mk)
set_option linter.unusedVariables false
set_option linter.unusedSimpArgs false
def ka : ByteArray := ⟨#[97]⟩
theorem ka_name : nmB ka = true := by decide +kernel
theorem ka_size : ka.size ≤ maxLen := by decide +kernel
def zd : Value := .agg #[.int .i64 0, .int .i64 0, .int .u64 0]
/-- A meter of which the subject "a" is known. -/
def MtA (w : World) (m b n last : Nat) (x : Bool) (s i c : Nat) : Prop := ∃ D, MtIs w m b n D last ∧ valAt D (.string ka.data.toList) zd = .agg #[.int .i64 s, .int .i64 i, .int .u64 c] ∧ Maps.has D (.string ka.data.toList) = x ∧ (x = false → D = .map [])
theorem MtA.below {w w' : World} {m b n last s i c : Nat} {x : Bool} (h : MtA w m b n last x s i c) (hb : Below w.heap.size w w') : MtA w' m b n last x s i c := by
  obtain ⟨D, h1, h2, h3, h4⟩ := h
  exact ⟨D, h1.below hb, h2, h3, h4⟩
def SetA (m b n sz now T : Nat) (w : World) (e : Ending) (w' : World) : Prop := e = .returned (.int .i64 0) ∧ MtA w' m b (n + 1) now true sz now T ∧ Below b w w'
theorem set_a (w : World) (m b n last : Nat) (x : Bool) (sz now s0 i0 c0 T : Nat) (zi ni : Int) (h : MtA w m b n last x s0 i0 c0) (e1 : zi = sz) (e2 : ni = now) (q1 : sz ≤ 1000000) (q2 : last ≤ now) (q3 : now ≤ 4611686018427387904)
    (q4 : s0 ≤ 1000000) (q5 : i0 ≤ now) (q6 : c0 ≤ 9223372036854775807) (hT : s0 * (now - i0) + c0 = T) (hT2 : T ≤ 9223372036854775807) (hn : n < 1000) :
    Calls Try.prog 17 #[.pointer (some ⟨m, 0, none⟩), .string ⟨#[97]⟩, .int .i64 zi, .int .i64 ni] w (SetA m b n sz now T w) := by
  subst e1 e2
  obtain ⟨D, h1, h2, h3, h4⟩ := h
  have C := set_any w m b n last D h1 ka ka_name ka_size sz now s0 i0 c0 q1 q2 q3 h2 q4 q5 q6 (by
    cases x
    · right; rw [h4 rfl]; decide
    · exact .inl h3) (by unfold maxLen; omega)
  rw [hT] at C
  refine C.mono ?_
  rintro e w' (⟨_, rfl, hM, hb⟩ | ⟨h, _⟩)
  · refine ⟨rfl, ⟨_, hM, valAt_put_same h1.2.2.isMap (keyLit_string _) _ _, Maps.has_put_same h1.2.2.isMap (keyLit_string _) _, fun h => by cases h⟩, hb⟩
  · omega
theorem set_over (w : World) (m b n last : Nat) (x : Bool) (sz now s0 i0 c0 T : Nat) (zi ni : Int) (h : MtA w m b n last x s0 i0 c0) (e1 : zi = sz) (e2 : ni = now) (q1 : sz ≤ 1000000) (q2 : last ≤ now) (q3 : now ≤ 4611686018427387904)
    (q4 : s0 ≤ 1000000) (q5 : i0 ≤ now) (q6 : c0 ≤ 9223372036854775807) (hT : s0 * (now - i0) + c0 = T) (hT2 : 9223372036854775807 < T) (hn : n < 1000) :
    Calls Try.prog 17 #[.pointer (some ⟨m, 0, none⟩), .string ⟨#[97]⟩, .int .i64 zi, .int .i64 ni] w fun e w' => e = .returned (.int .i64 4) ∧ Below w.heap.size w w' := by
  subst e1 e2
  obtain ⟨D, h1, h2, h3, h4⟩ := h
  have C := set_any w m b n last D h1 ka ka_name ka_size sz now s0 i0 c0 q1 q2 q3 h2 q4 q5 q6 (by
    cases x
    · right; rw [h4 rfl]; decide
    · exact .inl h3) (by unfold maxLen; omega)
  rw [hT] at C
  refine C.mono ?_
  rintro e w' (⟨h, _⟩ | ⟨_, rfl, hM, hb⟩)
  · omega
  · exact ⟨rfl, hb⟩
def ReadA (m b n now s0 i0 c0 T : Nat) (w : World) (e : Ending) (w' : World) : Prop := e = .returned (.tuple #[.int .u64 T, .int .i64 0]) ∧ MtA w' m b n now true s0 i0 c0 ∧ Below b w w'
theorem read_a (w : World) (m b n last : Nat) (now s0 i0 c0 T : Nat) (ni : Int) (h : MtA w m b n last true s0 i0 c0) (e2 : ni = now) (q2 : last ≤ now) (q3 : now ≤ 4611686018427387904)
    (q4 : s0 ≤ 1000000) (q5 : i0 ≤ now) (q6 : c0 ≤ 9223372036854775807) (hT : s0 * (now - i0) + c0 = T) (hT2 : T ≤ 9223372036854775807) :
    Calls Try.prog 13 #[.pointer (some ⟨m, 0, none⟩), .string ⟨#[97]⟩, .int .i64 ni] w (ReadA m b n now s0 i0 c0 T w) := by
  subst e2
  obtain ⟨D, h1, h2, h3, h4⟩ := h
  have C := read_any w m b n last D h1 ka ka_size now s0 i0 c0 q2 q3 h2 q4 q5 q6 h3
  rw [hT] at C
  refine C.mono ?_
  rintro e w' (⟨_, rfl, hM, hb⟩ | ⟨h, _⟩)
  · exact ⟨rfl, ⟨D, hM, h2, h3, h4⟩, hb⟩
  · omega
theorem read_over (w : World) (m b n last : Nat) (now s0 i0 c0 T : Nat) (ni : Int) (h : MtA w m b n last true s0 i0 c0) (e2 : ni = now) (q2 : last ≤ now) (q3 : now ≤ 4611686018427387904)
    (q4 : s0 ≤ 1000000) (q5 : i0 ≤ now) (q6 : c0 ≤ 9223372036854775807) (hT : s0 * (now - i0) + c0 = T) (hT2 : 9223372036854775807 < T) :
    Calls Try.prog 13 #[.pointer (some ⟨m, 0, none⟩), .string ⟨#[97]⟩, .int .i64 ni] w fun e w' => e = .returned (.tuple #[.int .u64 0, .int .i64 4]) ∧ Below w.heap.size w w' := by
  subst e2
  obtain ⟨D, h1, h2, h3, h4⟩ := h
  have C := read_any w m b n last D h1 ka ka_size now s0 i0 c0 q2 q3 h2 q4 q5 q6 h3
  rw [hT] at C
  refine C.mono ?_
  rintro e w' (⟨h, _⟩ | ⟨_, rfl, hM, hb⟩)
  · omega
  · exact ⟨rfl, hb⟩
theorem mnew_a (w : World) : Calls Try.prog 19 #[] w fun e w' => ∃ m b : Nat, e = .returned (.pointer (some ⟨m, 0, none⟩)) ∧ w.heap.size ≤ b ∧ MtA w' m b 0 0 false 0 0 0 ∧ Below w.heap.size w w' := by
  refine (mnew_any w).mono ?_
  rintro e w' ⟨m, b, he, hb, hM, hB⟩
  exact ⟨m, b, he, hb, ⟨_, hM, rfl, rfl, fun _ => rfl⟩, hB⟩
set_option maxRecDepth 100000 in
theorem lives41_any (w : World) : Calls Try.prog 11 #[] w fun e w' => e = .returned (.bool true) ∧ Below w.heap.size w w' := by
  go_enter Try.func11, Try.ntmps11
  go_wp2_with fail
  refine (mnew_a w).mono ?_
  rintro e w1 ⟨m, b, rfl, hb0, hM1, hB1⟩
  go_wp2_with fail
  refine (set_a w1 m b 0 0 false 3 5 0 0 0 0 3 5 hM1 rfl rfl (by omega) (by omega) (by omega) (by omega) (by omega) (by omega) (by omega) (by omega) (by omega)).mono ?_
  rintro e w2 ⟨rfl, hM2, hB2⟩
  go_wp2_with fail
  refine (set_a w2 m b 1 5 true 1 9 3 5 0 12 1 9 hM2 rfl rfl (by omega) (by omega) (by omega) (by omega) (by omega) (by omega) (by omega) (by omega) (by omega)).mono ?_
  rintro e w3 ⟨rfl, hM3, hB3⟩
  go_wp2_with fail
  refine (read_a w3 m b 2 9 12 1 9 12 15 12 hM3 rfl (by omega) (by omega) (by omega) (by omega) (by omega) (by omega) (by omega)).mono ?_
  rintro e w4 ⟨rfl, hM4, hB4⟩
  go_wp2_with fail
  go_ret
  exact ⟨rfl, ((hB1.trans (hB2.mono hb0)).trans (hB3.mono hb0)).trans (hB4.mono hb0)⟩
set_option maxHeartbeats 1000000 in
set_option maxRecDepth 100000 in
/-- The law's walk. -/
theorem meterNone_walk (s : ByteArray) (now : Int) (hs : s.size ≤ maxLen) (hn : (Lit.int .i64 now).wf = true) (w : World) :
    Calls Try.prog 3 #[.string s, .int .i64 now] w fun e w' => e = .returned (.bool true) ∧ Below w.heap.size w w' := by
  unfold maxLen at hs
  by_cases h100 : (100 : Int) < s.size
  · go_enter Try.func3, Try.ntmps3
    go_wp2_with fail
    refine (lives41_any w).mono ?_
    rintro e w1 ⟨rfl, hB1⟩
    go_wp2_with fail
    refine (lives41_any w1).mono ?_
    rintro e w2 ⟨rfl, hB2⟩
    go_wp2_with fail
    go_ret
    exact ⟨rfl, hB1.trans (hB2.mono hB1.size)⟩
  · have h101 : (s.size : Int) ≤ 100 := by omega
    clear h100
    go_enter Try.func3, Try.ntmps3
    go_wp2_with fail
    refine (lives41_any w).mono ?_
    rintro e w1 ⟨rfl, hB1⟩
    go_wp2_with fail
    refine (snew_any 9 w1 (by omega) (by omega)).mono ?_
    rintro e w2 ⟨p, pb, rfl, _, _, hB2⟩
    go_wp2_with fail
    refine (read_nil s now w2).mono ?_
    rintro e w' ⟨rfl, rfl⟩
    go_wp2_with fail
    refine (all_nil now w2).mono ?_
    rintro e w' ⟨rfl, rfl⟩
    go_wp2_with fail
    refine (close_nil now w2).mono ?_
    rintro e w' ⟨rfl, rfl⟩
    go_wp2_with fail
    refine (bill_nil now w2).mono ?_
    rintro e w' ⟨rfl, rfl⟩
    go_wp2_with fail
    refine (set_nil s 1 now w2).mono ?_
    rintro e w' ⟨rfl, rfl⟩
    go_wp2_with fail
    refine (nodes_nil _ now w2).mono ?_
    rintro e w' ⟨rfl, rfl⟩
    go_wp2_with fail
    have hBa := hB1.trans (hB2.mono hB1.size)
    clear hB1 hB2
    refine (mnew_a w2).mono ?_
    rintro e w3 ⟨m, b, rfl, hb0, hM3, hB3⟩
    have hb1 : w.heap.size ≤ b := Nat.le_trans hBa.size hb0
    have hBb := hBa.trans (hB3.mono hBa.size)
    clear hBa hB3 hb0
    go_wp2_with fail
    refine (set_a w3 m b 0 0 false 1000000 0 0 0 0 0 1000000 0 hM3 rfl rfl (by omega) (by omega) (by omega) (by omega) (by omega) (by omega) (by omega) (by omega) (by omega)).mono ?_
    rintro e w4 ⟨rfl, hM4, hB4⟩
    have hBc := hBb.trans (hB4.mono hb1)
    clear hBb hB4
    go_wp2_with fail
    refine (read_over w4 m b 1 0 4611686018427387904 1000000 0 0 4611686018427387904000000 4611686018427387904 hM4 rfl (by omega) (by omega) (by omega) (by omega) (by omega) (by omega) (by omega)).mono ?_
    rintro e w5 ⟨rfl, hB5⟩
    have hM5 := hM4.below hB5
    have hBd := hBc.trans (hB5.mono hBc.size)
    clear hM4 hB5 hBc
    go_wp2_with fail
    refine (set_over w5 m b 1 0 true 0 4611686018427387904 1000000 0 0 4611686018427387904000000 0 4611686018427387904 hM5 rfl rfl (by omega) (by omega) (by omega) (by omega) (by omega) (by omega) (by omega) (by omega) (by omega)).mono ?_
    rintro e w6 ⟨rfl, hB6⟩
    have hM6 := hM5.below hB6
    have hBe := hBd.trans (hB6.mono hBd.size)
    clear hM5 hB6 hBd
    go_wp2_with fail
    refine (read_a w6 m b 1 0 9 1000000 0 0 9000000 9 hM6 rfl (by omega) (by omega) (by omega) (by omega) (by omega) (by omega) (by omega)).mono ?_
    rintro e w7 ⟨rfl, hM7, hB7⟩
    go_wp2_with fail
    go_ret
    exact ⟨rfl, hBe.trans (hB7.mono hb1)⟩
end Go.Proofs.Ytepihnpagpajeaa
