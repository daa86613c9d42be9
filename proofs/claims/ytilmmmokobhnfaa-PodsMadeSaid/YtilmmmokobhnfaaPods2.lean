/-
  The walks of next and lives of package trimtablaw14.
-/
import Derived.Test.YtilmmmokobhnfaaPods
namespace Go.Proofs.Ytilmmmokobhnfaa
open Go.RowKit Go.Proofs.Mem
set_option linter.unusedVariables false
set_option linter.unusedSimpArgs false
set_option maxHeartbeats 4000000 in
set_option maxRecDepth 100000 in
theorem next14_any (p : Pd) (now : Int) (there : Bool) (w : World) (hn : tickR now) (hs : tickR p.since) (hw : 0 ≤ p.warm ∧ p.warm ≤ 1800) :
    Calls Try.prog 14 #[.agg p.cells.toArray, .int .i64 now, .bool there] w fun e w' => e = .returned (.tuple #[.int .i64 (nextPd p now there).phase, .int .i64 (nextPd p now there).since]) ∧ Below w.heap.size w w' := by
  have hcs := next_cases p now there
  obtain ⟨owner, node, phase, since, cpu, mem, labels, select, tolerate, warm⟩ := p
  obtain ⟨n0, n1⟩ := hn
  obtain ⟨s0, s1⟩ := hs
  obtain ⟨w0, w1⟩ := hw
  simp only at s0 s1 w0 w1 hcs
  have d2 : -20000 ≤ since + warm := by omega
  have d3 : since + warm ≤ 4611686018427399904 := by omega
  obtain ⟨Z, hZ⟩ : ∃ Z, Z = nextPd ⟨owner, node, phase, since, cpu, mem, labels, select, tolerate, warm⟩ now there := ⟨_, rfl⟩
  rw [← hZ] at hcs ⊢
  clear hZ
  simp only [Pd.cells]
  rcases hcs with ⟨h1, hZ⟩ | ⟨h1, h2, h3, hZ⟩ | ⟨h1, h2, h3⟩
  · subst h1
    have HZ := Lib.hid hZ
    clear hZ
    go_enter Try.func14, Try.ntmps14
    go_wp2_with fail
    go_quiet (fail)
    go_wp2_with fail
    go_ret2
    exact ⟨by rw [HZ.out]; rfl, below_drewN (below_al _ _) _⟩
  · have hp3 : (phase == 3) = false := by simpa using h1
    have hnd := str_ne h2
    subst h3
    have HZ := Lib.hid hZ
    clear hZ h1 h2
    go_enter Try.func14, Try.ntmps14
    go_wp2_with fail
    go_ret2
    exact ⟨by rw [HZ.out]; rfl, below_al _ _⟩
  · have hp3 : (phase == 3) = false := by simpa using h1
    clear h1
    have h3' : (phase = 1 ∧ since + warm ≤ now ∧ Z = ⟨owner, node, 2, since + warm, cpu, mem, labels, select, tolerate, warm⟩) ∨ (phase = 1 ∧ ¬ since + warm ≤ now ∧ Z = ⟨owner, node, phase, since, cpu, mem, labels, select, tolerate, warm⟩) ∨ ((phase == 1) = false ∧ Z = ⟨owner, node, phase, since, cpu, mem, labels, select, tolerate, warm⟩) := by
      rcases h3 with ⟨h5, h6, hZ⟩ | ⟨h5, h6, hZ⟩ | ⟨h5, hZ⟩
      · exact .inl ⟨h5, by omega, hZ⟩
      · exact .inr (.inl ⟨h5, by omega, hZ⟩)
      · exact .inr (.inr ⟨by simpa using h5, hZ⟩)
    clear h3
    rcases h2 with h2 | ⟨h2, h4⟩
    · subst h2
      rcases h3' with ⟨h5, h6, hZ⟩ | ⟨h5, h6, hZ⟩ | ⟨h5, hZ⟩
      all_goals
        try subst h5
        have HZ := Lib.hid hZ
        clear hZ
        go_enter Try.func14, Try.ntmps14
        go_wp2_with fail
        go_quiet (fail)
        go_wp2_with fail
        go_ret2
        exact ⟨by rw [HZ.out]; rfl, below_drewN (below_al _ _) _⟩
    · have hnd := str_ne h2
      subst h4
      clear h2
      rcases h3' with ⟨h5, h6, hZ⟩ | ⟨h5, h6, hZ⟩ | ⟨h5, hZ⟩
      all_goals
        try subst h5
        have HZ := Lib.hid hZ
        clear hZ
        go_enter Try.func14, Try.ntmps14
        go_wp2_with fail
        go_quiet (fail)
        go_wp2_with fail
        go_ret2
        exact ⟨by rw [HZ.out]; rfl, below_drewN (below_al _ _) _⟩
set_option maxRecDepth 100000 in
theorem lives14_any (w : World) : Calls Try.prog 11 #[] w fun e w' => e = .returned (.bool true) ∧ Below w.heap.size w w' := by
  have key : ∀ (now : Int) (hn : tickR now) (w1 : World), Calls Try.prog 13 #[.agg #[.string ⟨#[97]⟩, .string ⟨#[110]⟩, .int .i64 1, .int .i64 5, .int .i64 0, .int .i64 0, .slice none 0 0, .slice none 0 0, .slice none 0 0, .int .i64 3], .int .i64 now, .bool true] w1 fun e w' =>
      e = .returned (.agg (nextPd ⟨⟨#[97]⟩, ⟨#[110]⟩, 1, 5, 0, 0, .nil, .nil, .nil, 3⟩ now true).cells.toArray) ∧ Below w1.heap.size w1 w' := fun now hn w1 =>
    next_any ⟨⟨#[97]⟩, ⟨#[110]⟩, 1, 5, 0, 0, .nil, .nil, .nil, 3⟩ now true w1 ⟨by show _ ≤ _; decide, by show _ ≤ _; decide, by show _ = _; decide, by show _ = _; decide, by show _ = _; decide, by show _ = _; decide, Row.nil_ok, Row.nil_ok, Row.nil_ok, by show _ = _; decide⟩ hn (by unfold tickR; simp) (by simp)
  have k8 := key 8 (by unfold tickR; simp)
  have k7 := key 7 (by unfold tickR; simp)
  rw [show nextPd ⟨⟨#[97]⟩, ⟨#[110]⟩, 1, 5, 0, 0, .nil, .nil, .nil, 3⟩ 8 true = ⟨⟨#[97]⟩, ⟨#[110]⟩, 2, 8, 0, 0, .nil, .nil, .nil, 3⟩ by simp [nextPd]] at k8
  rw [show nextPd ⟨⟨#[97]⟩, ⟨#[110]⟩, 1, 5, 0, 0, .nil, .nil, .nil, 3⟩ 7 true = ⟨⟨#[97]⟩, ⟨#[110]⟩, 1, 5, 0, 0, .nil, .nil, .nil, 3⟩ by simp [nextPd]] at k7
  have K8 : Hid (∀ w1, Calls Try.prog 13 #[.agg #[.string ⟨#[97]⟩, .string ⟨#[110]⟩, .int .i64 1, .int .i64 5, .int .i64 0, .int .i64 0, .slice none 0 0, .slice none 0 0, .slice none 0 0, .int .i64 3], .int .i64 8, .bool true] w1 fun e w' =>
      e = .returned (.agg #[.string ⟨#[97]⟩, .string ⟨#[110]⟩, .int .i64 2, .int .i64 8, .int .i64 0, .int .i64 0, .slice none 0 0, .slice none 0 0, .slice none 0 0, .int .i64 3]) ∧ Below w1.heap.size w1 w') := Lib.hid k8
  have K7 : Hid (∀ w1, Calls Try.prog 13 #[.agg #[.string ⟨#[97]⟩, .string ⟨#[110]⟩, .int .i64 1, .int .i64 5, .int .i64 0, .int .i64 0, .slice none 0 0, .slice none 0 0, .slice none 0 0, .int .i64 3], .int .i64 7, .bool true] w1 fun e w' =>
      e = .returned (.agg #[.string ⟨#[97]⟩, .string ⟨#[110]⟩, .int .i64 1, .int .i64 5, .int .i64 0, .int .i64 0, .slice none 0 0, .slice none 0 0, .slice none 0 0, .int .i64 3]) ∧ Below w1.heap.size w1 w') := Lib.hid k7
  clear key k8 k7
  have hk := Bk.new w 28 #[.string ⟨#[97]⟩, .string ⟨#[110]⟩, .int .i64 1, .int .i64 5, .int .i64 0, .int .i64 0, .slice none 0 0, .slice none 0 0, .slice none 0 0, .int .i64 3]
  go_enter Try.func11, Try.ntmps11
  go_wp2_with fail
  refine (K8.out _).mono ?_
  rintro e w1 ⟨rfl, hb1⟩
  have hk1 := hk.below' hb1
  have hlt1 := hk1.lt
  have c0 : w1.cell? ⟨w.heap.size, 0, none⟩ = some (.string ⟨#[97]⟩) := hk1.cell 0
  have c1 : w1.cell? ⟨w.heap.size, 1, none⟩ = some (.string ⟨#[110]⟩) := hk1.cell 1
  have c2 : w1.cell? ⟨w.heap.size, 2, none⟩ = some (.int .i64 1) := hk1.cell 2
  have c3 : w1.cell? ⟨w.heap.size, 3, none⟩ = some (.int .i64 5) := hk1.cell 3
  have c4 : w1.cell? ⟨w.heap.size, 4, none⟩ = some (.int .i64 0) := hk1.cell 4
  have c5 : w1.cell? ⟨w.heap.size, 5, none⟩ = some (.int .i64 0) := hk1.cell 5
  have c6 : w1.cell? ⟨w.heap.size, 6, none⟩ = some (.slice none 0 0) := hk1.cell 6
  have c7 : w1.cell? ⟨w.heap.size, 7, none⟩ = some (.slice none 0 0) := hk1.cell 7
  have c8 : w1.cell? ⟨w.heap.size, 8, none⟩ = some (.slice none 0 0) := hk1.cell 8
  have c9 : w1.cell? ⟨w.heap.size, 9, none⟩ = some (.int .i64 3) := hk1.cell 9
  go_wp2_with fail
  refine (K7.out _).mono ?_
  rintro e w2 ⟨rfl, hb2⟩
  have hfd : ∀ w, (Instr.field 28 (.agg #[.string ⟨#[97]⟩, .string ⟨#[110]⟩, .int .i64 1, .int .i64 5, .int .i64 0, .int .i64 0, .slice none 0 0, .slice none 0 0, .slice none 0 0, .int .i64 3]) 2).run Try.prog w = .ok (.int .i64 1) w := fun _ => by kernel_rfl
  have hq := (Bk.new w1 28 #[.string ⟨#[97]⟩, .string ⟨#[110]⟩, .int .i64 2, .int .i64 8, .int .i64 0, .int .i64 0, .slice none 0 0, .slice none 0 0, .slice none 0 0, .int .i64 3]).below' hb2
  have q2 : w2.cell? ⟨w1.heap.size, 2, none⟩ = some (.int .i64 2) := hq.cell 2
  have q3 : w2.cell? ⟨w1.heap.size, 3, none⟩ = some (.int .i64 8) := hq.cell 3
  go_wp2_with fail
  go_ret
  exact ⟨rfl, below_tr ((below_tr (below_al _ _) hb1).alloc (below_tr (below_al _ _) hb1).size _) hb2⟩
end Go.Proofs.Ytilmmmokobhnfaa
