/-
  The walks of pods.Next and of next, lives of package trimtablaw14.
-/
import Derived.Test.YtilmmmokobhnfaaFew
import Derived.Test.YtilmmmokobhnfaaSame
import Derived.Test.YtilmmmokobhnfaaShort2
namespace Go.Proofs.Ytilmmmokobhnfaa
open Go.RowKit Go.Proofs.Mem
set_option linter.unusedVariables false
set_option linter.unusedSimpArgs false
/-- A pod, as it gets on. -/
def nextPd (p : Pd) (now : Int) (there : Bool) : Pd :=
  if p.phase = 3 then p
  else if p.node ≠ ByteArray.empty ∧ there = false then { p with phase := 3, since := now }
  else if p.phase = 1 ∧ p.since ≤ now - p.warm then { p with phase := 2, since := p.since + p.warm }
  else p
/-- The cases of a pod that gets on. -/
theorem next_cases (p : Pd) (now : Int) (there : Bool) :
    (p.phase = 3 ∧ nextPd p now there = p) ∨
    (p.phase ≠ 3 ∧ p.node ≠ ByteArray.empty ∧ there = false ∧ nextPd p now there = { p with phase := 3, since := now }) ∨
    (p.phase ≠ 3 ∧ (p.node = ByteArray.empty ∨ (p.node ≠ ByteArray.empty ∧ there = true)) ∧
      ((p.phase = 1 ∧ p.since ≤ now - p.warm ∧ nextPd p now there = { p with phase := 2, since := p.since + p.warm }) ∨ (p.phase = 1 ∧ ¬ p.since ≤ now - p.warm ∧ nextPd p now there = p) ∨ (p.phase ≠ 1 ∧ nextPd p now there = p))) := by
  unfold nextPd
  by_cases h1 : p.phase = 3
  · left; exact ⟨h1, by simp [h1]⟩
  · right
    by_cases h2 : p.node = ByteArray.empty
    · right
      refine ⟨h1, .inl h2, ?_⟩
      by_cases h3 : p.phase = 1
      · by_cases h4 : p.since ≤ now - p.warm
        · left; exact ⟨h3, h4, by simp [h2, h3, h4]⟩
        · right; left; exact ⟨h3, h4, by simp [h2, h3, h4]⟩
      · right; right; exact ⟨h3, by simp [h1, h2, h3]⟩
    · cases there
      · left; exact ⟨h1, h2, rfl, by simp [h1, h2]⟩
      · right
        refine ⟨h1, .inr ⟨h2, rfl⟩, ?_⟩
        by_cases h3 : p.phase = 1
        · by_cases h4 : p.since ≤ now - p.warm
          · left; exact ⟨h3, h4, by simp [h3, h4]⟩
          · right; left; exact ⟨h3, h4, by simp [h3, h4]⟩
        · right; right; exact ⟨h3, by simp [h1, h3]⟩
theorem str_ne {s : ByteArray} (h : s ≠ ByteArray.empty) : (s.toList == ([] : List UInt8)) = false := by
  cases e : s.toList == ([] : List UInt8)
  · rfl
  · exfalso
    apply h
    have e' : s.toList = [] := by simpa using e
    rw [ByteArray.toList_eq] at e'
    apply ByteArray.ext
    apply Array.toList_inj.1
    rw [e']
    rfl
def tickR (n : Int) : Prop := -10000 ≤ n ∧ n ≤ 4611686018427397904
set_option maxHeartbeats 4000000 in
set_option maxRecDepth 100000 in
theorem next_any (p : Pd) (now : Int) (there : Bool) (w : World) (ho : p.Ok w) (hn : tickR now) (hs : tickR p.since) (hw : 0 ≤ p.warm ∧ p.warm ≤ 1800) :
    Calls Try.prog 13 #[.agg p.cells.toArray, .int .i64 now, .bool there] w fun e w' => e = .returned (.agg (nextPd p now there).cells.toArray) ∧ Below w.heap.size w w' := by
  have hcs := next_cases p now there
  obtain ⟨owner, node, phase, since, cpu, mem, labels, select, tolerate, warm⟩ := p
  obtain ⟨v6, l6⟩ := labels
  obtain ⟨v7, l7⟩ := select
  obtain ⟨v8, l8⟩ := tolerate
  obtain ⟨A6, c6, e6, _⟩ := id ho.labels.1
  obtain ⟨A7, c7, e7, _⟩ := id ho.select.1
  obtain ⟨A8, c8, e8, _⟩ := id ho.tolerate.1
  simp only at e6 e7 e8
  subst e6; subst e7; subst e8
  obtain ⟨n0, n1⟩ := hn
  obtain ⟨s0, s1⟩ := hs
  obtain ⟨w0, w1⟩ := hw
  simp only at s0 s1 w0 w1 hcs
  have d0 : -20000 ≤ now - warm := by omega
  have d1 : now - warm ≤ 4611686018427397904 := by omega
  have d2 : -20000 ≤ since + warm := by omega
  have d3 : since + warm ≤ 4611686018427399904 := by omega
  clear ho
  obtain ⟨Z, hZ⟩ : ∃ Z, Z = nextPd ⟨owner, node, phase, since, cpu, mem, ⟨.slice A6 l6.length c6, l6⟩, ⟨.slice A7 l7.length c7, l7⟩, ⟨.slice A8 l8.length c8, l8⟩, warm⟩ now there := ⟨_, rfl⟩
  rw [← hZ] at hcs ⊢
  clear hZ
  generalize l6.length = m6 at *
  generalize l7.length = m7 at *
  generalize l8.length = m8 at *
  simp only [Pd.cells]
  rcases hcs with ⟨h1, hZ⟩ | ⟨h1, h2, h3, hZ⟩ | ⟨h1, h2, h3⟩
  · subst h1
    have HZ := Lib.hid hZ
    clear hZ
    go_enter Try.func13, Try.ntmps13
    go_wp2_with fail
    refine bodyPost_ret (v := .agg #[.string owner, .string node, .int .i64 3, .int .i64 since, .int .i64 cpu, .int .i64 mem, .slice A6 m6 c6, .slice A7 m7 c7, .slice A8 m8 c8, .int .i64 warm]) (by simp [results, Try.results13, go_sem]) rfl ⟨by rw [HZ.out], (by repeat (first | exact Below.refl _ _ | refine Below.setCell ?_ (by simp) _ | refine Below.alloc ?_ (by simp) _))⟩
  · have hp3 : (phase == 3) = false := by simpa using h1
    have hnd := str_ne h2
    subst h3
    have HZ := Lib.hid hZ
    clear hZ h1 h2
    go_enter Try.func13, Try.ntmps13
    go_wp2_with fail
    refine bodyPost_ret (v := .agg #[.string owner, .string node, .int .i64 3, .int .i64 now, .int .i64 cpu, .int .i64 mem, .slice A6 m6 c6, .slice A7 m7 c7, .slice A8 m8 c8, .int .i64 warm]) (by simp [results, Try.results13, go_sem]) rfl ⟨by rw [HZ.out], (by repeat (first | exact Below.refl _ _ | refine Below.setCell ?_ (by simp) _ | refine Below.alloc ?_ (by simp) _))⟩
  · have hp3 : (phase == 3) = false := by simpa using h1
    clear h1
    rcases h2 with h2 | ⟨h2, h4⟩
    · subst h2
      rcases h3 with ⟨h5, h6, hZ⟩ | ⟨h5, h6, hZ⟩ | ⟨h5, hZ⟩
      · subst h5
        have HZ := Lib.hid hZ
        clear hZ
        go_enter Try.func13, Try.ntmps13
        go_wp2_with fail
        refine bodyPost_ret (v := .agg #[.string owner, .string ByteArray.empty, .int .i64 2, .int .i64 (since + warm), .int .i64 cpu, .int .i64 mem, .slice A6 m6 c6, .slice A7 m7 c7, .slice A8 m8 c8, .int .i64 warm]) (by simp [results, Try.results13, go_sem]) rfl ⟨by rw [HZ.out], (by repeat (first | exact Below.refl _ _ | refine Below.setCell ?_ (by simp) _ | refine Below.alloc ?_ (by simp) _))⟩
      · subst h5
        have HZ := Lib.hid hZ
        clear hZ
        go_enter Try.func13, Try.ntmps13
        go_wp2_with fail
        refine bodyPost_ret (v := .agg #[.string owner, .string ByteArray.empty, .int .i64 1, .int .i64 since, .int .i64 cpu, .int .i64 mem, .slice A6 m6 c6, .slice A7 m7 c7, .slice A8 m8 c8, .int .i64 warm]) (by simp [results, Try.results13, go_sem]) rfl ⟨by rw [HZ.out], (by repeat (first | exact Below.refl _ _ | refine Below.setCell ?_ (by simp) _ | refine Below.alloc ?_ (by simp) _))⟩
      · have hp1 : (phase == 1) = false := by simpa using h5
        have HZ := Lib.hid hZ
        clear hZ h5
        go_enter Try.func13, Try.ntmps13
        go_wp2_with fail
        refine bodyPost_ret (v := .agg #[.string owner, .string ByteArray.empty, .int .i64 phase, .int .i64 since, .int .i64 cpu, .int .i64 mem, .slice A6 m6 c6, .slice A7 m7 c7, .slice A8 m8 c8, .int .i64 warm]) (by simp [results, Try.results13, go_sem]) rfl ⟨by rw [HZ.out], (by repeat (first | exact Below.refl _ _ | refine Below.setCell ?_ (by simp) _ | refine Below.alloc ?_ (by simp) _))⟩
    · have hnd := str_ne h2
      subst h4
      clear h2
      rcases h3 with ⟨h5, h6, hZ⟩ | ⟨h5, h6, hZ⟩ | ⟨h5, hZ⟩
      · subst h5
        have HZ := Lib.hid hZ
        clear hZ
        go_enter Try.func13, Try.ntmps13
        go_wp2_with fail
        refine bodyPost_ret (v := .agg #[.string owner, .string node, .int .i64 2, .int .i64 (since + warm), .int .i64 cpu, .int .i64 mem, .slice A6 m6 c6, .slice A7 m7 c7, .slice A8 m8 c8, .int .i64 warm]) (by simp [results, Try.results13, go_sem]) rfl ⟨by rw [HZ.out], (by repeat (first | exact Below.refl _ _ | refine Below.setCell ?_ (by simp) _ | refine Below.alloc ?_ (by simp) _))⟩
      · subst h5
        have HZ := Lib.hid hZ
        clear hZ
        go_enter Try.func13, Try.ntmps13
        go_wp2_with fail
        refine bodyPost_ret (v := .agg #[.string owner, .string node, .int .i64 1, .int .i64 since, .int .i64 cpu, .int .i64 mem, .slice A6 m6 c6, .slice A7 m7 c7, .slice A8 m8 c8, .int .i64 warm]) (by simp [results, Try.results13, go_sem]) rfl ⟨by rw [HZ.out], (by repeat (first | exact Below.refl _ _ | refine Below.setCell ?_ (by simp) _ | refine Below.alloc ?_ (by simp) _))⟩
      · have hp1 : (phase == 1) = false := by simpa using h5
        have HZ := Lib.hid hZ
        clear hZ h5
        go_enter Try.func13, Try.ntmps13
        go_wp2_with fail
        refine bodyPost_ret (v := .agg #[.string owner, .string node, .int .i64 phase, .int .i64 since, .int .i64 cpu, .int .i64 mem, .slice A6 m6 c6, .slice A7 m7 c7, .slice A8 m8 c8, .int .i64 warm]) (by simp [results, Try.results13, go_sem]) rfl ⟨by rw [HZ.out], (by repeat (first | exact Below.refl _ _ | refine Below.setCell ?_ (by simp) _ | refine Below.alloc ?_ (by simp) _))⟩
end Go.Proofs.Ytilmmmokobhnfaa
