/-
  The walks of package meter: a new meter, a tick, Set and Read of a subject whose count does not go beyond.
-/
import Derived.Test.YtepihnpagpajeaaMt
import Derived.StringKeys
namespace Go.Proofs.Ytepihnpagpajeaa
open Go.RowKit Go.Proofs.Mem
open Go.Maps (Keyed string_keyed)
open Go.WideMaps (keyOf_string_mk)
set_option linter.unusedVariables false
set_option linter.unusedSimpArgs false
theorem strK : Keyed Try.prog 9 := string_keyed Try.underlying9
theorem zeroDial (w : World) : (zeroValue 131).run Try.prog w = .ok (.agg #[.int .i64 0, .int .i64 0, .int .u64 0]) w := by kernel_rfl
/-- A meter at block m: its map's block b, what the map holds, the last tick. -/
def MtIs (w : World) (m b n : Nat) (D : DataW Value) (last : Nat) : Prop := b < m ∧ Bk w m 135 #[.map (some b), .int .i64 last] ∧ Mp Try.prog w 9 b n D
theorem MtIs.below {w w' : World} {m b n last : Nat} {D : DataW Value} (h : MtIs w m b n D last) (hb : Below w.heap.size w w') : MtIs w' m b n D last := ⟨h.1, h.2.1.below' hb, h.2.2.below hb⟩
def NewMt (w : World) (e : Ending) (w' : World) : Prop := ∃ m b : Nat, e = .returned (.pointer (some ⟨m, 0, none⟩)) ∧ w.heap.size ≤ b ∧ MtIs w' m b 0 (.map []) 0 ∧ Below w.heap.size w w'
theorem mnew_any (w : World) : Calls Try.prog 19 #[] w (NewMt w) := by
  have hmm := @run_makeMap Try.prog
  go_enter Try.func19, Try.ntmps19
  go_wp2_with fail
  go_ret
  have h1 := Mp.made w Try.prog 9
  have h2 := Bk.new (w.alloc (.map #[] 0)) 135 #[.map (some w.heap.size), .int .i64 0]
  rw [World.size_alloc] at h2
  exact ⟨_, w.heap.size, rfl, Nat.le_refl _, ⟨by omega, h2, h1.alloc _⟩, ((Below.refl _ _).alloc (Nat.le_refl _) _).alloc (by simp) _⟩
/-- A tick that may be. -/
theorem tick_ok (w : World) (m b n last now : Nat) (D : DataW Value) (h : MtIs w m b n D last) (h1 : last ≤ now) (h2 : now ≤ 4611686018427387904) :
    Calls Try.prog 51 #[.pointer (some ⟨m, 0, none⟩), .int .i64 now] w fun e w' => e = .returned (.int .i64 0) ∧ w = w' := by
  obtain ⟨hlt, hk, hm⟩ := h
  have c0 := hk.cell 0
  have c1 : w.cell? ⟨m, 1, none⟩ = some (.int .i64 last) := hk.cell 1
  have g1 : (0 : Int) ≤ now := by omega
  have g2 : (now : Int) ≤ 4611686018427387904 := by omega
  have g3 : (last : Int) ≤ now := by omega
  clear hm hk h1 h2
  go_enter Try.func51, Try.ntmps51
  go_wp2_with fail
  go_ret
  exact ⟨rfl, rfl⟩
/-- A tick that went by. -/
theorem tick_stale (w : World) (m b n last now : Nat) (D : DataW Value) (h : MtIs w m b n D last) (h1 : now < last) (h2 : now ≤ 4611686018427387904) :
    Calls Try.prog 51 #[.pointer (some ⟨m, 0, none⟩), .int .i64 now] w fun e w' => e = .returned (.int .i64 13) ∧ w = w' := by
  obtain ⟨hlt, hk, hm⟩ := h
  have c0 := hk.cell 0
  have c1 : w.cell? ⟨m, 1, none⟩ = some (.int .i64 last) := hk.cell 1
  have g1 : (0 : Int) ≤ now := by omega
  have g2 : (now : Int) ≤ 4611686018427387904 := by omega
  have g3 : (now : Int) < last := by omega
  clear hm hk h1 h2
  go_enter Try.func51, Try.ntmps51
  go_wp2_with fail
  go_ret
  exact ⟨rfl, rfl⟩
theorem tick_nil (now : Int) (w : World) : Calls Try.prog 51 #[.pointer none, .int .i64 now] w fun e w' => e = .returned (.int .i64 1) ∧ w = w' := by
  go_enter Try.func51, Try.ntmps51
  go_wp2_with fail
  go_ret
  exact ⟨rfl, rfl⟩
def SetMt (m b n : Nat) (D : DataW Value) (last : Nat) (kl : Lit) (sz now T : Nat) (w : World) (e : Ending) (w' : World) : Prop :=
  (T ≤ 9223372036854775807 ∧ e = .returned (.int .i64 0) ∧ MtIs w' m b (n + 1) (D.put kl (.held (.agg #[.int .i64 sz, .int .i64 now, .int .u64 T]))) now ∧ Below b w w') ∨
  (9223372036854775807 < T ∧ e = .returned (.int .i64 4) ∧ MtIs w' m b n D last ∧ Below w.heap.size w w')
set_option maxHeartbeats 1000000 in
set_option maxRecDepth 100000 in
theorem set_any (w : World) (m b n last : Nat) (D : DataW Value) (h : MtIs w m b n D last) (s : ByteArray) (hs : nmB s = true) (hsl : s.size ≤ maxLen) (sz now s0 i0 c0 : Nat) (q1 : sz ≤ 1000000) (q2 : last ≤ now) (q3 : now ≤ 4611686018427387904)
    (hv : valAt D (.string s.data.toList) (.agg #[.int .i64 0, .int .i64 0, .int .u64 0]) = .agg #[.int .i64 s0, .int .i64 i0, .int .u64 c0]) (q4 : s0 ≤ 1000000) (q5 : i0 ≤ now) (q6 : c0 ≤ 9223372036854775807)
    (hroom : Maps.has D (.string s.data.toList) = true ∨ Maps.size D < 512) (hn : n < maxLen) :
    Calls Try.prog 17 #[.pointer (some ⟨m, 0, none⟩), .string s, .int .i64 sz, .int .i64 now] w (SetMt m b n D last (.string s.data.toList) sz now (s0 * (now - i0) + c0) w) := by
  have CN := Lib.hid (fun w1 => lname_any s w1 hsl)
  rw [hs] at CN
  have CT := Lib.hid (tick_ok w m b n last now D h q2 q3)
  have CA := Lib.hid (fun w1 => at_any s0 i0 now c0 w1 q4 q5 q3 q6)
  have hkey := keyOf_string_mk Try.underlying9 hsl
  obtain ⟨kl, hkl⟩ : ∃ kl, kl = Lit.string s.data.toList := ⟨_, rfl⟩
  rw [← hkl] at hv hroom hkey ⊢
  obtain ⟨hlt, hk, hm⟩ := id h
  have c0' := hk.cell 0
  have g1 : (sz : Int) ≤ 1000000 := by omega
  have g0 : (0 : Int) ≤ sz := by omega
  have HM := Lib.hid h
  obtain ⟨T, hT⟩ : ∃ T, T = s0 * (now - i0) + c0 := ⟨_, rfl⟩
  rw [← hT] at CA ⊢
  have hlen : ∀ o ty, (Builtin.len_ #[133] ty #[.map (some b)]).run Try.prog (w.alloc o) = .ok (.int .i64 (Maps.size D)) (w.alloc o) := fun o ty => World.ownsMap.len (hm.alloc o) Try.underlying133 ty
  have hca : ∀ o, (w.alloc o).cell? ⟨m, 0, none⟩ = some (.map (some b)) := fun o => (hk.alloc o).cell 0
  obtain ⟨z, hz⟩ : ∃ z, z = Maps.size D := ⟨_, rfl⟩
  rw [← hz] at hlen hroom
  obtain ⟨x, hx⟩ : ∃ x, x = Maps.has D kl := ⟨_, rfl⟩
  rw [← hx] at hroom
  have HX := Lib.hid hx
  have hcase : x = true ∨ (x = false ∧ (z : Int) < 512) := by
    rcases hroom with h | h
    · exact .inl h
    · cases x
      · exact .inr ⟨rfl, by omega⟩
      · exact .inl rfl
  clear hs hsl q1 q2 q4 q5 q6 hkl hlt hk hT hz hx hroom h
  rcases hcase with rfl | ⟨rfl, hz5⟩
  all_goals
    go_enter Try.func17, Try.ntmps17
    go_wp2_with fail
    refine (CN.out w).mono ?_
    rintro e w' ⟨rfl, rfl⟩
    go_wp2_with fail
    refine CT.out.mono ?_
    rintro e w' ⟨rfl, rfl⟩
    go_wp2_with (at_lookup; refine wpl_look_ok rfl _ _ 133 rfl 9 131 strK Try.underlying133 zeroDial b n D rfl hm _ _ rfl hkey ?_; rw [hv, ← HX.out])
    have hm1 := hm.alloc (.cells #[.int .i64 s0, .int .i64 i0, .int .u64 c0] 131)
    have hk1 := HM.out.2.1.alloc (.cells #[.int .i64 s0, .int .i64 i0, .int .u64 c0] 131)
    have hB1 := (Below.refl w.heap.size w).alloc (Nat.le_refl _) (.cells #[.int .i64 s0, .int .i64 i0, .int .u64 c0] 131)
    generalize w.alloc (.cells #[.int .i64 s0, .int .i64 i0, .int .u64 c0] 131) = w1 at hm1 hk1 hB1 ⊢
    refine (CA.out _).mono ?_
    rintro e w2 ⟨rfl, hb2⟩
    have hm2 := hm1.below hb2
    have hk2 := hk1.below' hb2
    have hB2 := hB1.trans (hb2.mono hB1.size)
    have f0 := hk2.cell 0
    have f1 := hk2.cell 1
    have f2 := hk2.frozen 1
    clear hm1 hk1 hB1 hb2 hv hlen c0' hm hca
    by_cases hT : T ≤ 9223372036854775807
    · have e1 : atV (T : Int) = .tuple #[.int .u64 T, .int .i64 0] := by unfold atV; rw [if_pos (by omega)]
      rw [e1]
      clear e1
      have HT := Lib.hid hT
      clear hT
      go_wp2_with (at_mapUpdate; refine wpl_store_map rfl _ _ _ 133 rfl 9 131 strK Try.underlying133 b n D rfl hm2 hn _ (.agg #[.int .i64 sz, .int .i64 now, .int .u64 T]) _ rfl rfl hkey ?_; intro w3 hm3 hg3 hs3; have hk3 := hk2.grown hg3 (by have := HM.out.1; simp; omega); have u0 := hk3.cell 0; have u1 := hk3.cell 1; have u2 := hk3.frozen 1; have HG := Lib.hid hg3; have HS := Lib.hid hs3; clear hg3 hs3)
      go_ret
      left
      refine ⟨HT.out, rfl, ⟨HM.out.1, hk3.set 1 _, hm3.setCell (by have := HM.out.1; simp; omega) _⟩, ?_⟩
      have hbl := hm2.lt
      have hlt := HM.out.1
      have hs0 := hB2.size
      have hmm := HM.out.2.1.lt
      exact (below_map (hB2.mono (by omega)) HG.out (by omega) (Nat.le_refl _)).setCell (by simp; omega) _
    · have e1 : atV (T : Int) = .tuple #[.int .u64 0, .int .i64 4] := by unfold atV; rw [if_neg (by omega)]
      rw [e1]
      clear e1
      have HT := Lib.hid hT
      clear hT
      go_wp2_with fail
      go_ret
      right
      exact ⟨by have := HT.out; omega, rfl, ⟨HM.out.1, hk2, hm2⟩, hB2⟩
end Go.Proofs.Ytepihnpagpajeaa
