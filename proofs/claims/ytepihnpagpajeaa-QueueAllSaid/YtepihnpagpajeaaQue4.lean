/-
  The walks of package trimtablaw37: lives; a queue that isn't there; the statement QueueNone.
-/
import Derived.Test.YtepihnpagpajeaaQue3
import Derived.Test.YtepihnpagpajeaaOpen
namespace Go.Proofs.Ytepihnpagpajeaa
open Go.RowKit Go.Proofs.Mem
open Go.Maps (Keyed string_keyed)
open Go.WideMaps (keyOf_string_mk)
set_option linter.unusedVariables false
set_option linter.unusedSimpArgs false
def qa : ByteArray := ⟨#[97]⟩
theorem qa_name : nmB qa = true := by decide +kernel
theorem qa_size : qa.size ≤ maxLen := by decide +kernel
/-- "a" alone is there, waits until now, and failed j times. -/
def QA (w : World) (q b f n m : Nat) (now j : Int) : Prop :=
  ∃ D F, QIs w q b f n m 2 5 9 D F ∧ (∀ k, Maps.has D (.string k) = true ↔ k = [97]) ∧ valAt D (.string [97]) zI = itV now false false ∧ valAt F (.string [97]) (.int .i64 0) = .int .i64 j
/-- .. is in hand. -/
def QB (w : World) (q b f n m : Nat) (j : Int) : Prop :=
  ∃ D F, QIs w q b f n m 2 5 9 D F ∧ (∀ k, Maps.has D (.string k) = true ↔ k = [97]) ∧ valAt D (.string [97]) zI = itV 0 true false ∧ valAt F (.string [97]) (.int .i64 0) = .int .i64 j
theorem QA.below {w w' : World} {q b f n m : Nat} {now j : Int} (h : QA w q b f n m now j) (hb : Below w.heap.size w w') : QA w' q b f n m now j := by
  obtain ⟨D, F, h1, h2⟩ := h
  exact ⟨D, F, h1.below hb, h2⟩
theorem QA.q {w : World} {q b f n m : Nat} {now j : Int} (h : QA w q b f n m now j) : b < f ∧ f < q ∧ q < w.heap.size := by
  obtain ⟨D, F, h1, h2⟩ := h
  exact ⟨h1.1, h1.2.1, h1.2.2.1.lt⟩
theorem lit_ne {k : List UInt8} (h : ¬ k = [97]) : (Lit.string k) ≠ Lit.string [97] := fun e => h (by injection e)
theorem qnew_a (w : World) : Calls Try.prog 29 #[.agg #[.int .i64 2, .int .i64 5, .int .i64 9]] w (NewQ 2 5 9 w) := qnew_any 2 5 9 w (by omega) (by omega) (by omega) (by omega) (by omega)
theorem add_a (w : World) (q b f : Nat) (h : QIs w q b f 0 0 2 5 9 (.map []) (.map [])) :
    Calls Try.prog 25 #[.pointer (some ⟨q, 0, none⟩), .string ⟨#[97]⟩, .int .i64 0] w fun e w' => e = .returned (.int .i64 0) ∧ QA w' q b f 1 0 0 0 ∧ T2 b f w w' := by
  refine (add_fresh w q b f 0 0 2 5 9 _ _ h qa qa_name qa_size 0 (by omega) (by omega) rfl (by decide) (by unfold maxLen; omega)).mono ?_
  rintro e w' ⟨he, hQ, hT⟩
  refine ⟨he, ⟨_, _, hQ, fun k => ?_, valAt_put_same Maps.isMap_empty (keyLit_string _) _ _, rfl⟩, hT⟩
  by_cases hk : k = [97]
  · subst hk; exact ⟨fun _ => rfl, fun _ => Maps.has_put_same Maps.isMap_empty (keyLit_string _) _⟩
  · have : Maps.has ((DataW.map [] : DataW Value).put (.string qa.data.toList) (.held (itV 0 false false))) (.string k) = Maps.has (.map [] : DataW Value) (.string k) := Maps.has_put_other (lit_ne hk) _
    rw [this]
    exact ⟨fun h => (by cases h), fun h => absurd h hk⟩
theorem next_a (w : World) (q b f n m : Nat) (now j : Int) (h : QA w q b f n m now j) (hn : n < 100) :
    Calls Try.prog 21 #[.pointer (some ⟨q, 0, none⟩), .int .i64 now] w fun e w' => e = .returned (.tuple #[.string ⟨#[97]⟩, .bool true]) ∧ QB w' q b f (n + 1) m j ∧ T2 b f w w' := by
  obtain ⟨D, F, h1, h2, h3, h4⟩ := h
  have hz := h1.2.2.2.1.size_le
  refine (next_any w q b f n m 2 5 9 D F h1 (fun _ => now) (fun k hk => by rw [(h2 k).1 hk]; exact h3) (by omega) now (fun _ _ => Int.le_refl _) (by unfold maxLen; omega)).mono ?_
  rintro e w' (⟨hno, _⟩ | ⟨k, hk, _, _, he, hQ, hT⟩)
  · have := hno [97]
    rw [(h2 [97]).2 rfl] at this
    cases this
  · obtain rfl := (h2 k).1 hk
    refine ⟨he, ⟨_, _, hQ, fun k => ?_, valAt_put_same h1.2.2.2.1.isMap (keyLit_string _) _ _, h4⟩, hT⟩
    by_cases hk : k = [97]
    · subst hk; exact ⟨fun _ => rfl, fun _ => Maps.has_put_same h1.2.2.2.1.isMap (keyLit_string _) _⟩
    · rw [Maps.has_put_other (lit_ne hk)]; exact h2 k
theorem failed_a (w : World) (q b f n m : Nat) (now j r : Int) (h : QB w q b f n m j) (hn : n < 100) (hm : m < 100) (a0 : 0 ≤ now) (a1 : now ≤ 1000000) (hj : j + 1 = 1 ∨ j + 1 = 2 ∨ j + 1 = 3 ∨ j + 1 = 4) (hr : r = now + wt (j + 1)) :
    Calls Try.prog 22 #[.pointer (some ⟨q, 0, none⟩), .string ⟨#[97]⟩, .int .i64 now] w fun e w' => e = .returned (.tuple #[.int .i64 r, .int .i64 0]) ∧ QA w' q b f (n + 1) (m + 1) r (j + 1) ∧ T2 b f w w' := by
  obtain ⟨D, F, h1, h2, h3, h4⟩ := h
  refine (failed_hand w q b f n m 9 D F h1 qa qa_size now a0 a1 j r h3 h4 hj hr (by unfold maxLen; omega) (by unfold maxLen; omega)).mono ?_
  rintro e w' ⟨he, hQ, hT⟩
  have hd : Maps.IsMap (D.del (.string qa.data.toList)) := h1.2.2.2.1.isMap.del _
  refine ⟨he, ⟨_, _, hQ, fun k => ?_, valAt_put_same hd (keyLit_string _) _ _, valAt_put_same h1.2.2.2.2.isMap (keyLit_string _) _ _⟩, hT⟩
  by_cases hk : k = [97]
  · subst hk; exact ⟨fun _ => rfl, fun _ => Maps.has_put_same hd (keyLit_string _) _⟩
  · have e1 : Maps.has ((D.del (.string qa.data.toList)).put (.string qa.data.toList) (.held (itV r false false))) (.string k) = Maps.has D (.string k) := by
      rw [Maps.has_put_other (k := .string qa.data.toList) (lit_ne hk)]
      exact Maps.has_del_other (k := .string qa.data.toList) (lit_ne hk)
    rw [e1]; exact h2 k
theorem fails_a (w : World) (q b f n m : Nat) (now j : Int) (h : QA w q b f n m now j) : Calls Try.prog 27 #[.pointer (some ⟨q, 0, none⟩), .string ⟨#[97]⟩] w fun e w' => e = .returned (.int .i64 j) ∧ w = w' := by
  obtain ⟨D, F, h1, h2, h3, h4⟩ := h
  exact fails_any w q b f n m 2 5 9 D F h1 qa qa_size j h4
set_option maxHeartbeats 2000000 in
set_option maxRecDepth 100000 in
theorem lives37_any (w : World) : Calls Try.prog 20 #[] w fun e w' => e = .returned (.bool true) ∧ Below w.heap.size w w' := by
  go_enter Try.func20, Try.ntmps20
  go_wp2_with fail
  refine (qnew_a w).mono ?_
  rintro e w1 ⟨q, b, f, rfl, hb0, hQ1, hB1⟩
  go_wp2_with fail
  refine (add_a w1 q b f hQ1).mono ?_
  rintro e w2 ⟨rfl, hA2, hT2⟩
  have hql := hA2.q
  have hBb := hB1.trans (hT2.low hB1.size hb0 (by omega))
  clear hQ1 hB1 hT2
  go_wp2_with fail
  have kA0 := Bk.new w2 2 #[.int .i64 2, .int .i64 4, .int .i64 5, .int .i64 5]
  have hA0 := hA2.below ((Below.refl _ _).alloc (Nat.le_refl _) (.cells #[.int .i64 2, .int .i64 4, .int .i64 5, .int .i64 5] 2))
  have hB0 := hBb.alloc hBb.size (.cells #[.int .i64 2, .int .i64 4, .int .i64 5, .int .i64 5] 2)
  generalize w2.alloc (.cells #[.int .i64 2, .int .i64 4, .int .i64 5, .int .i64 5] 2) = wA0 at kA0 hA0 hB0 ⊢
  generalize w2.heap.size = g at hql kA0 ⊢
  clear hBb hA2
  have hT0 := T2.refl (b := b) (f := f) wA0
  have c0 := kA0.cell 0
  have c1 := kA0.cell 1
  have c2 := kA0.cell 2
  have c3 := kA0.cell 3
  refine wp_loop_rounds 5 ?_
  rw [rounds_succ]
  go_wp2_with fail
  refine (next_a wA0 q b f 1 0 0 0 hA0 (by omega)).mono ?_
  rintro e wN0 ⟨rfl, hN0, hTN0⟩
  have kN0 := hTN0.bk kA0 (by omega) (by omega)
  go_wp2_with fail
  refine (failed_a wN0 q b f 2 0 0 0 2 hN0 (by omega) (by omega) (by omega) (by omega) (by omega) (by decide)).mono ?_
  rintro e wA1 ⟨rfl, hA1, hTF0⟩
  have kA1 := hTF0.bk kN0 (by omega) (by omega)
  have hT1 := (hT0.trans hTN0).trans hTF0
  have c0 := kA1.cell 0
  have c1 := kA1.cell 1
  have c2 := kA1.cell 2
  have c3 := kA1.cell 3
  clear hTN0 hTF0 hN0 kN0 kA0 hA0 hT0
  go_wp2_with fail
  rw [rounds_succ]
  go_wp2_with fail
  refine (next_a wA1 q b f 3 1 2 1 hA1 (by omega)).mono ?_
  rintro e wN1 ⟨rfl, hN1, hTN1⟩
  have kN1 := hTN1.bk kA1 (by omega) (by omega)
  go_wp2_with fail
  refine (failed_a wN1 q b f 4 1 2 1 6 hN1 (by omega) (by omega) (by omega) (by omega) (by omega) (by decide)).mono ?_
  rintro e wA2 ⟨rfl, hA2, hTF1⟩
  have kA2 := hTF1.bk kN1 (by omega) (by omega)
  have hT2 := (hT1.trans hTN1).trans hTF1
  have c0 := kA2.cell 0
  have c1 := kA2.cell 1
  have c2 := kA2.cell 2
  have c3 := kA2.cell 3
  clear hTN1 hTF1 hN1 kN1 kA1 hA1 hT1
  go_wp2_with fail
  rw [rounds_succ]
  go_wp2_with fail
  refine (next_a wA2 q b f 5 2 6 2 hA2 (by omega)).mono ?_
  rintro e wN2 ⟨rfl, hN2, hTN2⟩
  have kN2 := hTN2.bk kA2 (by omega) (by omega)
  go_wp2_with fail
  refine (failed_a wN2 q b f 6 2 6 2 11 hN2 (by omega) (by omega) (by omega) (by omega) (by omega) (by decide)).mono ?_
  rintro e wA3 ⟨rfl, hA3, hTF2⟩
  have kA3 := hTF2.bk kN2 (by omega) (by omega)
  have hT3 := (hT2.trans hTN2).trans hTF2
  have c0 := kA3.cell 0
  have c1 := kA3.cell 1
  have c2 := kA3.cell 2
  have c3 := kA3.cell 3
  clear hTN2 hTF2 hN2 kN2 kA2 hA2 hT2
  go_wp2_with fail
  rw [rounds_succ]
  go_wp2_with fail
  refine (next_a wA3 q b f 7 3 11 3 hA3 (by omega)).mono ?_
  rintro e wN3 ⟨rfl, hN3, hTN3⟩
  have kN3 := hTN3.bk kA3 (by omega) (by omega)
  go_wp2_with fail
  refine (failed_a wN3 q b f 8 3 11 3 16 hN3 (by omega) (by omega) (by omega) (by omega) (by omega) (by decide)).mono ?_
  rintro e wA4 ⟨rfl, hA4, hTF3⟩
  have kA4 := hTF3.bk kN3 (by omega) (by omega)
  have hT4 := (hT3.trans hTN3).trans hTF3
  have c0 := kA4.cell 0
  have c1 := kA4.cell 1
  have c2 := kA4.cell 2
  have c3 := kA4.cell 3
  clear hTN3 hTF3 hN3 kN3 kA3 hA3 hT3
  go_wp2_with fail
  rw [rounds_succ]
  go_wp2_with fail
  refine (fails_a wA4 q b f 9 4 16 4 hA4).mono ?_
  rintro e w' ⟨rfl, rfl⟩
  go_wp2_with fail
  go_ret
  exact ⟨rfl, hB0.trans (hT4.low hB0.size hb0 (by omega))⟩
theorem qnext_nil (now : Int) (w : World) : Calls Try.prog 21 #[.pointer none, .int .i64 now] w fun e w' => e = .returned (.tuple #[.string ⟨#[]⟩, .bool false]) ∧ w = w' := by
  go_enter Try.func21, Try.ntmps21
  go_wp2_with fail
  go_ret2
  exact ⟨rfl, rfl⟩
theorem qout_nil (s : ByteArray) (now : Int) (w : World) : Calls Try.prog 60 #[.pointer none, .string s, .int .i64 now] w fun e w' => e = .returned (.tuple #[.agg #[.int .i64 0, .bool false, .bool false], .int .i64 1]) ∧ Below w.heap.size w w' := by
  go_enter Try.func60, Try.ntmps60
  go_wp2_with fail
  exact bodyPost_ret (v := .tuple #[.agg #[.int .i64 0, .bool false, .bool false], .int .i64 1]) (by simp [results, Try.results60, go_sem]) rfl ⟨rfl, (Below.refl _ _).alloc (Nat.le_refl _) _⟩
theorem qfailed_nil (s : ByteArray) (now : Int) (w : World) : Calls Try.prog 22 #[.pointer none, .string s, .int .i64 now] w fun e w' => e = .returned (.tuple #[.int .i64 0, .int .i64 1]) ∧ Below w.heap.size w w' := by
  go_enter Try.func22, Try.ntmps22
  go_wp2_with fail
  refine (qout_nil s now w).mono ?_
  rintro e w1 ⟨rfl, hB⟩
  go_wp2_with fail
  go_ret2
  exact ⟨rfl, hB.alloc hB.size _⟩
theorem qdone_nil (s : ByteArray) (now : Int) (w : World) : Calls Try.prog 26 #[.pointer none, .string s, .int .i64 now] w fun e w' => e = .returned (.int .i64 1) ∧ Below w.heap.size w w' := by
  go_enter Try.func26, Try.ntmps26
  go_wp2_with fail
  refine (qout_nil s now w).mono ?_
  rintro e w1 ⟨rfl, hB⟩
  go_wp2_with fail
  go_ret
  exact ⟨rfl, hB.alloc hB.size _⟩
theorem qlen_nil (w : World) : Calls Try.prog 23 #[.pointer none] w fun e w' => e = .returned (.tuple #[.int .i64 0, .int .i64 0]) ∧ w = w' := by
  go_enter Try.func23, Try.ntmps23
  go_wp2_with fail
  go_ret2
  exact ⟨rfl, rfl⟩
theorem qsoon_nil (w : World) : Calls Try.prog 24 #[.pointer none] w fun e w' => e = .returned (.tuple #[.int .i64 0, .bool false]) ∧ w = w' := by
  go_enter Try.func24, Try.ntmps24
  go_wp2_with fail
  go_ret2
  exact ⟨rfl, rfl⟩
theorem qadd_nil (s : ByteArray) (now : Int) (w : World) : Calls Try.prog 25 #[.pointer none, .string s, .int .i64 now] w fun e w' => e = .returned (.int .i64 1) ∧ w = w' := by
  go_enter Try.func25, Try.ntmps25
  go_wp2_with fail
  go_ret
  exact ⟨rfl, rfl⟩
theorem qfails_nil (s : ByteArray) (w : World) : Calls Try.prog 27 #[.pointer none, .string s] w fun e w' => e = .returned (.int .i64 0) ∧ w = w' := by
  go_enter Try.func27, Try.ntmps27
  go_wp2_with fail
  go_ret
  exact ⟨rfl, rfl⟩
theorem qcopy_nil (w : World) : Calls Try.prog 28 #[.pointer none] w fun e w' => e = .returned (.pointer none) ∧ w = w' := by
  go_enter Try.func28, Try.ntmps28
  go_wp2_with fail
  go_ret
  exact ⟨rfl, rfl⟩
set_option maxHeartbeats 1000000 in
set_option maxRecDepth 100000 in
/-- The law's walk. -/
theorem queueNone_walk (s : ByteArray) (now : Int) (hs : s.size ≤ maxLen) (hn : (Lit.int .i64 now).wf = true) (w : World) :
    Calls Try.prog 4 #[.string s, .int .i64 now] w fun e w' => e = .returned (.bool true) ∧ Below w.heap.size w w' := by
  go_enter Try.func4, Try.ntmps4
  go_wp2_with fail
  refine (lives37_any w).mono ?_
  rintro e w1 ⟨rfl, hB1⟩
  go_wp2_with fail
  refine (qnext_nil now w1).mono ?_
  rintro e w' ⟨rfl, rfl⟩
  go_wp2_with fail
  refine (qfailed_nil s now w1).mono ?_
  rintro e w2 ⟨rfl, hB2⟩
  go_wp2_with fail
  refine (qlen_nil w2).mono ?_
  rintro e w' ⟨rfl, rfl⟩
  go_wp2_with fail
  refine (qsoon_nil w2).mono ?_
  rintro e w' ⟨rfl, rfl⟩
  go_wp2_with fail
  refine (qadd_nil s now w2).mono ?_
  rintro e w' ⟨rfl, rfl⟩
  go_wp2_with fail
  refine (qdone_nil s now w2).mono ?_
  rintro e w3 ⟨rfl, hB3⟩
  go_wp2_with fail
  refine (qfails_nil s w3).mono ?_
  rintro e w' ⟨rfl, rfl⟩
  go_wp2_with fail
  refine (qcopy_nil w3).mono ?_
  rintro e w' ⟨rfl, rfl⟩
  go_wp2_with fail
  go_ret
  have hBa := hB1.trans (hB2.mono hB1.size)
  exact ⟨rfl, hBa.trans (hB3.mono hBa.size)⟩
end Go.Proofs.Ytepihnpagpajeaa
