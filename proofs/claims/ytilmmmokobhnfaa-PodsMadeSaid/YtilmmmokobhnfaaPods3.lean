/-
  The walk of the statement PodsNext. (printed by wip/gen_pn.py)
-/
import Derived.Test.YtilmmmokobhnfaaPods2
import Derived.Test.YtilmmmokobhnfaaVars
import Derived.Test.YtilmmmokobhnfaaQuiet
namespace Go.Proofs.Ytilmmmokobhnfaa
open Go.RowKit Go.Proofs.Mem
set_option linter.unusedVariables false
set_option linter.unusedSimpArgs false
/-- An object that is a pod and nothing else. -/
def obPd (k : Int) (p : Pd) : Ob := ⟨k, ⟨#[]⟩, 0, .zero, p, .zero, .zero, .zero⟩
theorem wf0 : wfi .i64 0 := by show _ = _; decide
theorem wf2 : wfi .i64 2 := by show _ = _; decide
theorem wf3 : wfi .i64 3 := by show _ = _; decide
theorem wfu0 : wfi .u64 0 := by show _ = _; decide
theorem wfs0 : wfs ⟨#[]⟩ := by show _ ≤ _; decide
theorem wfi_of {z : Int} (h0 : -9223372036854775808 ≤ z) (h1 : z ≤ 9223372036854775807) : wfi .i64 z := by
  show _ = _
  simp [Lit.wf, IntKind.min, IntKind.max, IntKind.signed, IntKind.bits]
  exact ⟨h0, h1⟩
theorem wl0_ok (w : World) : Wl.zero.Ok w := ⟨wf0, wf0, wf0, Row.nil_ok, Row.nil_ok, Row.nil_ok, wf0⟩
theorem nd0_ok (w : World) : Nd.zero.Ok w := ⟨wfs0, wf0, wf0, Row.nil_ok, Row.nil_ok, wf0⟩
theorem gr0_ok (w : World) : Gr.zero.Ok w := ⟨wf0, wf0, wf0, wf0, wf0, Row.nil_ok, Row.nil_ok, wf0⟩
theorem bh0_ok (w : World) : Bh.zero.Ok w := ⟨wf0, wf0, Row.nil_ok⟩
theorem hp0_ok (w : World) : Hp.zero.Ok w := ⟨wfs0, wf0, wf0, Row.nil_ok, wf0, bh0_ok w, bh0_ok w, Row.nil_ok⟩
theorem obPd_ok {k : Int} {p : Pd} {w : World} (hk : wfi .i64 k) (hp : p.Ok w) : (obPd k p).Ok w := ⟨hk, wfs0, wfu0, wl0_ok w, hp, nd0_ok w, gr0_ok w, hp0_ok w⟩
theorem pdS_of {p : Pd} (h : pdSh p = true) : pdS p := by
  unfold pdSh at h
  simp only [Bool.and_eq_true, decide_eq_true_eq] at h
  obtain ⟨h1, h2, h3, h4, h5⟩ := h
  exact ⟨h1, h2, shlL_t h3, shaL_t h4, shlL_t h5⟩
theorem next_same (p : Pd) (now : Int) (there : Bool) : nextPd p now there = { p with phase := (nextPd p now there).phase, since := (nextPd p now there).since } := by
  rcases next_cases p now there with ⟨_, h⟩ | ⟨_, _, _, h⟩ | ⟨_, _, ⟨_, _, h⟩ | ⟨_, _, h⟩ | ⟨_, h⟩⟩ <;> rw [h]
theorem next_next (p : Pd) (now : Int) (there : Bool) : nextPd (nextPd p now there) now there = nextPd p now there := by
  rcases next_cases p now there with ⟨h1, h⟩ | ⟨h1, h2, h3, h⟩ | ⟨h1, h2, ⟨h3, h4, h⟩ | ⟨h3, h4, h⟩ | ⟨h3, h⟩⟩
  · rw [h, h]
  · rw [h]; simp [nextPd]
  · rw [h]
    rcases h2 with h2 | ⟨h2, h5⟩ <;> simp [nextPd, *]
  · rw [h, h]
  · rw [h, h]
def nowR (n : Int) : Prop := 0 ≤ n ∧ n ≤ 4611686018427387904
set_option maxHeartbeats 8000000 in
set_option maxRecDepth 100000 in
theorem podsNext_ok (p : Pd) (now : Int) (there : Bool) (w : World) (ho : p.Ok w) (hn : nowR now) (hs : nowR p.since) (hw : 0 ≤ p.warm ∧ p.warm ≤ 1800) :
    Calls Try.prog 3 #[.agg p.cells.toArray, .int .i64 now, .bool there] w fun e w' => e = .returned (.bool true) ∧ Below w.heap.size w w' := by
  have hnx := next_same p now there
  have hnn := next_next p now there
  have CN := Lib.hid (fun (w1 : World) (hb : Below w.heap.size w w1) => next_any p now there w1 (ho.below hb) (by unfold nowR at hn; unfold tickR; omega) (by unfold nowR at hs; unfold tickR; omega) hw)
  have CL := Lib.hid (fun (w1 : World) => next14_any p now there w1 (by unfold nowR at hn; unfold tickR; omega) (by unfold nowR at hs; unfold tickR; omega) hw)
  have hqo : (nextPd p now there).Ok w ∧ tickR (nextPd p now there).since ∧ (nextPd p now there).warm = p.warm := by
    unfold nowR at hn hs
    rcases next_cases p now there with ⟨_, h⟩ | ⟨_, _, _, h⟩ | ⟨_, _, ⟨_, h4, h⟩ | ⟨_, _, h⟩ | ⟨_, h⟩⟩
    · rw [h]; exact ⟨ho, by unfold tickR; omega, rfl⟩
    · rw [h]; exact ⟨⟨ho.owner, ho.node, wf3, wfi_of (by simp only; omega) (by simp only; omega), ho.cpu, ho.mem, ho.labels, ho.select, ho.tolerate, ho.warm⟩, by unfold tickR; simp only; omega, rfl⟩
    · rw [h]; exact ⟨⟨ho.owner, ho.node, wf2, wfi_of (by simp only; omega) (by simp only; omega), ho.cpu, ho.mem, ho.labels, ho.select, ho.tolerate, ho.warm⟩, by unfold tickR; simp only; omega, rfl⟩
    · rw [h]; exact ⟨ho, by unfold tickR; omega, rfl⟩
    · rw [h]; exact ⟨ho, by unfold tickR; omega, rfl⟩
  obtain ⟨hq1, hq2, hq3⟩ := hqo
  have CM := Lib.hid (fun (w1 : World) (hb : Below w.heap.size w w1) => next_any (nextPd p now there) now there w1 (hq1.below hb) (by unfold nowR at hn; unfold tickR; omega) hq2 (by rw [hq3]; exact hw))
  rw [hnn] at CM
  have hob := obPd_ok (k := 1) (wfi_of (by omega) (by omega)) ho
  have CS := Lib.hid (fun (w1 : World) (hb : Below w.heap.size w w1) => short_pd (obPd 1 p) w1 rfl (hob.below hb).p hob.name)
  have CE := Lib.hid (fun (hsh : pdSh p = true) (w1 : World) (hb : Below w.heap.size w w1) => same_eq (obPd 1 p) (obPd 1 p) w1 1 (by omega) rfl rfl (hob.below hb) (hob.below hb) ⟨by show (0 : Nat) ≤ 255; omega, by simp [obPd], fun _ => pdS_of hsh, by simp [obPd], by simp [obPd], by simp [obPd]⟩ ⟨by show (0 : Nat) ≤ 255; omega, by simp [obPd], fun _ => pdS_of hsh, by simp [obPd], by simp [obPd], by simp [obPd]⟩ rfl)
  have CF := Lib.hid (fun (w1 : World) (hb : Below w.heap.size w w1) => few_any (obPd 0 p) w1 (obPd_ok wf0 (ho.below hb)))
  obtain ⟨ph, hph⟩ : ∃ ph, ph = (nextPd p now there).phase := ⟨_, rfl⟩
  obtain ⟨si, hsi⟩ : ∃ si, si = (nextPd p now there).since := ⟨_, rfl⟩
  rw [← hph, ← hsi] at hnx CL
  rw [hnx] at CN CM
  obtain ⟨b, hb⟩ : ∃ b, b = pdSh p := ⟨_, rfl⟩
  rw [show pdSh (obPd 1 p).p = pdSh p from rfl, ← hb] at CS
  rw [← hb] at CE
  clear hnx hnn hq1 hq2 hq3 hob hph hsi hb
  obtain ⟨owner, node, phase, since, cpu, mem, labels, select, tolerate, warm⟩ := p
  obtain ⟨v6, l6⟩ := labels
  obtain ⟨v7, l7⟩ := select
  obtain ⟨v8, l8⟩ := tolerate
  obtain ⟨A6, c6, e6, _⟩ := id ho.labels.1
  obtain ⟨A7, c7, e7, _⟩ := id ho.select.1
  obtain ⟨A8, c8, e8, _⟩ := id ho.tolerate.1
  simp only at e6 e7 e8
  subst e6; subst e7; subst e8
  clear ho
  obtain ⟨n0, n1⟩ := hn
  obtain ⟨s0, s1⟩ := hs
  obtain ⟨w0, w1⟩ := hw
  simp only at s0 s1 w0 w1
  generalize l6.length = m6 at *
  generalize l7.length = m7 at *
  generalize l8.length = m8 at *
  have CF : Hid (∀ w1, Below w.heap.size w w1 → Calls Try.prog 12 #[.agg #[.int .i64 0, .string ⟨#[]⟩, .int .u64 0, .int .i64 0, .int .i64 0, .int .i64 0, .slice none 0 0, .slice none 0 0, .slice none 0 0, .int .i64 0, .string owner, .string node, .int .i64 phase, .int .i64 since, .int .i64 cpu, .int .i64 mem, .slice A6 m6 c6, .slice A7 m7 c7, .slice A8 m8 c8, .int .i64 warm, .string ⟨#[]⟩, .int .i64 0, .int .i64 0, .slice none 0 0, .slice none 0 0, .int .i64 0, .bool false, .int .i64 0, .int .i64 0, .int .i64 0, .int .i64 0, .int .i64 0, .slice none 0 0, .slice none 0 0, .int .i64 0, .string ⟨#[]⟩, .int .i64 0, .int .i64 0, .slice none 0 0, .int .i64 0, .int .i64 0, .int .i64 0, .slice none 0 0, .int .i64 0, .int .i64 0, .slice none 0 0, .slice none 0 0]] w1 fun e w' => SomeB e ∧ Below w1.heap.size w1 w') := CF
  have CN : Hid (∀ w1, Below w.heap.size w w1 → Calls Try.prog 13 #[.agg #[.string owner, .string node, .int .i64 phase, .int .i64 since, .int .i64 cpu, .int .i64 mem, .slice A6 m6 c6, .slice A7 m7 c7, .slice A8 m8 c8, .int .i64 warm], .int .i64 now, .bool there] w1 fun e w' => e = .returned (.agg #[.string owner, .string node, .int .i64 ph, .int .i64 si, .int .i64 cpu, .int .i64 mem, .slice A6 m6 c6, .slice A7 m7 c7, .slice A8 m8 c8, .int .i64 warm]) ∧ Below w1.heap.size w1 w') := CN
  have CM : Hid (∀ w1, Below w.heap.size w w1 → Calls Try.prog 13 #[.agg #[.string owner, .string node, .int .i64 ph, .int .i64 si, .int .i64 cpu, .int .i64 mem, .slice A6 m6 c6, .slice A7 m7 c7, .slice A8 m8 c8, .int .i64 warm], .int .i64 now, .bool there] w1 fun e w' => e = .returned (.agg #[.string owner, .string node, .int .i64 ph, .int .i64 si, .int .i64 cpu, .int .i64 mem, .slice A6 m6 c6, .slice A7 m7 c7, .slice A8 m8 c8, .int .i64 warm]) ∧ Below w1.heap.size w1 w') := CM
  have CL : Hid (∀ w1, Calls Try.prog 14 #[.agg #[.string owner, .string node, .int .i64 phase, .int .i64 since, .int .i64 cpu, .int .i64 mem, .slice A6 m6 c6, .slice A7 m7 c7, .slice A8 m8 c8, .int .i64 warm], .int .i64 now, .bool there] w1 fun e w' => e = .returned (.tuple #[.int .i64 ph, .int .i64 si]) ∧ Below w1.heap.size w1 w') := CL
  have CS : Hid (∀ w1, Below w.heap.size w w1 → Calls Try.prog 15 #[.agg #[.int .i64 1, .string ⟨#[]⟩, .int .u64 0, .int .i64 0, .int .i64 0, .int .i64 0, .slice none 0 0, .slice none 0 0, .slice none 0 0, .int .i64 0, .string owner, .string node, .int .i64 phase, .int .i64 since, .int .i64 cpu, .int .i64 mem, .slice A6 m6 c6, .slice A7 m7 c7, .slice A8 m8 c8, .int .i64 warm, .string ⟨#[]⟩, .int .i64 0, .int .i64 0, .slice none 0 0, .slice none 0 0, .int .i64 0, .bool false, .int .i64 0, .int .i64 0, .int .i64 0, .int .i64 0, .int .i64 0, .slice none 0 0, .slice none 0 0, .int .i64 0, .string ⟨#[]⟩, .int .i64 0, .int .i64 0, .slice none 0 0, .int .i64 0, .int .i64 0, .int .i64 0, .slice none 0 0, .int .i64 0, .int .i64 0, .slice none 0 0, .slice none 0 0]] w1 fun e w' => e = .returned (.bool b) ∧ Below w1.heap.size w1 w') := CS
  have CE : Hid (b = true → ∀ w1, Below w.heap.size w w1 → Calls Try.prog 16 #[.agg #[.int .i64 1, .string ⟨#[]⟩, .int .u64 0, .int .i64 0, .int .i64 0, .int .i64 0, .slice none 0 0, .slice none 0 0, .slice none 0 0, .int .i64 0, .string owner, .string node, .int .i64 phase, .int .i64 since, .int .i64 cpu, .int .i64 mem, .slice A6 m6 c6, .slice A7 m7 c7, .slice A8 m8 c8, .int .i64 warm, .string ⟨#[]⟩, .int .i64 0, .int .i64 0, .slice none 0 0, .slice none 0 0, .int .i64 0, .bool false, .int .i64 0, .int .i64 0, .int .i64 0, .int .i64 0, .int .i64 0, .slice none 0 0, .slice none 0 0, .int .i64 0, .string ⟨#[]⟩, .int .i64 0, .int .i64 0, .slice none 0 0, .int .i64 0, .int .i64 0, .int .i64 0, .slice none 0 0, .int .i64 0, .int .i64 0, .slice none 0 0, .slice none 0 0], .agg #[.int .i64 1, .string ⟨#[]⟩, .int .u64 0, .int .i64 0, .int .i64 0, .int .i64 0, .slice none 0 0, .slice none 0 0, .slice none 0 0, .int .i64 0, .string owner, .string node, .int .i64 phase, .int .i64 since, .int .i64 cpu, .int .i64 mem, .slice A6 m6 c6, .slice A7 m7 c7, .slice A8 m8 c8, .int .i64 warm, .string ⟨#[]⟩, .int .i64 0, .int .i64 0, .slice none 0 0, .slice none 0 0, .int .i64 0, .bool false, .int .i64 0, .int .i64 0, .int .i64 0, .int .i64 0, .int .i64 0, .slice none 0 0, .slice none 0 0, .int .i64 0, .string ⟨#[]⟩, .int .i64 0, .int .i64 0, .slice none 0 0, .int .i64 0, .int .i64 0, .int .i64 0, .slice none 0 0, .int .i64 0, .int .i64 0, .slice none 0 0, .slice none 0 0]] w1 fun e w' => e = .returned (.bool true) ∧ Below w1.heap.size w1 w') := CE
  simp only [Pd.cells]
  have hkb := Bk.new w 28 #[.string owner, .string node, .int .i64 phase, .int .i64 since, .int .i64 cpu, .int .i64 mem, .slice A6 m6 c6, .slice A7 m7 c7, .slice A8 m8 c8, .int .i64 warm]
  go_enter Try.func3, Try.ntmps3
  go_wp2_with fail
  refine (lives14_any _).mono ?_
  rintro e v1 ⟨rfl, hb1⟩
  have hP1 := below_tr (below_al _ _) hb1
  have hk1 := hkb.below' hb1
  have k1_0 : v1.cell? ⟨w.heap.size, 0, none⟩ = some (.string owner) := hk1.cell 0
  have k1_1 : v1.cell? ⟨w.heap.size, 1, none⟩ = some (.string node) := hk1.cell 1
  have k1_2 : v1.cell? ⟨w.heap.size, 2, none⟩ = some (.int .i64 phase) := hk1.cell 2
  have k1_3 : v1.cell? ⟨w.heap.size, 3, none⟩ = some (.int .i64 since) := hk1.cell 3
  have k1_4 : v1.cell? ⟨w.heap.size, 4, none⟩ = some (.int .i64 cpu) := hk1.cell 4
  have k1_5 : v1.cell? ⟨w.heap.size, 5, none⟩ = some (.int .i64 mem) := hk1.cell 5
  have k1_6 : v1.cell? ⟨w.heap.size, 6, none⟩ = some (.slice A6 m6 c6) := hk1.cell 6
  have k1_7 : v1.cell? ⟨w.heap.size, 7, none⟩ = some (.slice A7 m7 c7) := hk1.cell 7
  have k1_8 : v1.cell? ⟨w.heap.size, 8, none⟩ = some (.slice A8 m8 c8) := hk1.cell 8
  have k1_9 : v1.cell? ⟨w.heap.size, 9, none⟩ = some (.int .i64 warm) := hk1.cell 9
  go_wp2_with fail
  refine (CF.out _ hP1).mono ?_
  rintro e v2 ⟨⟨fb, rfl⟩, hb2⟩
  have hP2 := below_tr hP1 hb2
  have hk2 := hk1.below' hb2
  have k2_0 : v2.cell? ⟨w.heap.size, 0, none⟩ = some (.string owner) := hk2.cell 0
  have k2_1 : v2.cell? ⟨w.heap.size, 1, none⟩ = some (.string node) := hk2.cell 1
  have k2_2 : v2.cell? ⟨w.heap.size, 2, none⟩ = some (.int .i64 phase) := hk2.cell 2
  have k2_3 : v2.cell? ⟨w.heap.size, 3, none⟩ = some (.int .i64 since) := hk2.cell 3
  have k2_4 : v2.cell? ⟨w.heap.size, 4, none⟩ = some (.int .i64 cpu) := hk2.cell 4
  have k2_5 : v2.cell? ⟨w.heap.size, 5, none⟩ = some (.int .i64 mem) := hk2.cell 5
  have k2_6 : v2.cell? ⟨w.heap.size, 6, none⟩ = some (.slice A6 m6 c6) := hk2.cell 6
  have k2_7 : v2.cell? ⟨w.heap.size, 7, none⟩ = some (.slice A7 m7 c7) := hk2.cell 7
  have k2_8 : v2.cell? ⟨w.heap.size, 8, none⟩ = some (.slice A8 m8 c8) := hk2.cell 8
  have k2_9 : v2.cell? ⟨w.heap.size, 9, none⟩ = some (.int .i64 warm) := hk2.cell 9
  cases fb
  · go_wp2_with fail
    refine (lives14_any _).mono ?_
    rintro e v3 ⟨rfl, hb3⟩
    go_wp2_with fail
    go_ret
    exact ⟨rfl, below_tr hP2 hb3⟩
  · go_wp2_with fail
    refine (CN.out _ hP2).mono ?_
    rintro e v3 ⟨rfl, hb3⟩
    have hP3 := below_tr hP2 hb3
    have hk3 := hk2.below' hb3
    have hlt3 := hk3.lt
    have k3_0 : v3.cell? ⟨w.heap.size, 0, none⟩ = some (.string owner) := hk3.cell 0
    have k3_1 : v3.cell? ⟨w.heap.size, 1, none⟩ = some (.string node) := hk3.cell 1
    have k3_2 : v3.cell? ⟨w.heap.size, 2, none⟩ = some (.int .i64 phase) := hk3.cell 2
    have k3_3 : v3.cell? ⟨w.heap.size, 3, none⟩ = some (.int .i64 since) := hk3.cell 3
    have k3_4 : v3.cell? ⟨w.heap.size, 4, none⟩ = some (.int .i64 cpu) := hk3.cell 4
    have k3_5 : v3.cell? ⟨w.heap.size, 5, none⟩ = some (.int .i64 mem) := hk3.cell 5
    have k3_6 : v3.cell? ⟨w.heap.size, 6, none⟩ = some (.slice A6 m6 c6) := hk3.cell 6
    have k3_7 : v3.cell? ⟨w.heap.size, 7, none⟩ = some (.slice A7 m7 c7) := hk3.cell 7
    have k3_8 : v3.cell? ⟨w.heap.size, 8, none⟩ = some (.slice A8 m8 c8) := hk3.cell 8
    have k3_9 : v3.cell? ⟨w.heap.size, 9, none⟩ = some (.int .i64 warm) := hk3.cell 9
    have hq3 := Bk.new v3 28 #[.string owner, .string node, .int .i64 ph, .int .i64 si, .int .i64 cpu, .int .i64 mem, .slice A6 m6 c6, .slice A7 m7 c7, .slice A8 m8 c8, .int .i64 warm]
    go_wp2_with fail
    refine (CL.out _).mono ?_
    rintro e v4 ⟨rfl, hb4⟩
    have hP4 := below_tr (hP3.alloc hP3.size _) hb4
    have hk4 := (hk3.alloc _).below' hb4
    have hq4 := hq3.below' hb4
    have q4_0 : v4.cell? ⟨v3.heap.size, 0, none⟩ = some (.string owner) := hq4.cell 0
    have q4_1 : v4.cell? ⟨v3.heap.size, 1, none⟩ = some (.string node) := hq4.cell 1
    have q4_2 : v4.cell? ⟨v3.heap.size, 2, none⟩ = some (.int .i64 ph) := hq4.cell 2
    have q4_3 : v4.cell? ⟨v3.heap.size, 3, none⟩ = some (.int .i64 si) := hq4.cell 3
    have q4_4 : v4.cell? ⟨v3.heap.size, 4, none⟩ = some (.int .i64 cpu) := hq4.cell 4
    have q4_5 : v4.cell? ⟨v3.heap.size, 5, none⟩ = some (.int .i64 mem) := hq4.cell 5
    have q4_6 : v4.cell? ⟨v3.heap.size, 6, none⟩ = some (.slice A6 m6 c6) := hq4.cell 6
    have q4_7 : v4.cell? ⟨v3.heap.size, 7, none⟩ = some (.slice A7 m7 c7) := hq4.cell 7
    have q4_8 : v4.cell? ⟨v3.heap.size, 8, none⟩ = some (.slice A8 m8 c8) := hq4.cell 8
    have q4_9 : v4.cell? ⟨v3.heap.size, 9, none⟩ = some (.int .i64 warm) := hq4.cell 9
    go_wp2_with fail
    refine (CM.out _ hP4).mono ?_
    rintro e v5 ⟨rfl, hb5⟩
    have hP5 := below_tr hP4 hb5
    have hk5 := hk4.below' hb5
    have hq5 := hq4.below' hb5
    have hlq5 := hq5.lt
    have hlk5 := hk5.lt
    have q5_0 : v5.cell? ⟨v3.heap.size, 0, none⟩ = some (.string owner) := hq5.cell 0
    have q5_1 : v5.cell? ⟨v3.heap.size, 1, none⟩ = some (.string node) := hq5.cell 1
    have q5_2 : v5.cell? ⟨v3.heap.size, 2, none⟩ = some (.int .i64 ph) := hq5.cell 2
    have q5_3 : v5.cell? ⟨v3.heap.size, 3, none⟩ = some (.int .i64 si) := hq5.cell 3
    have q5_4 : v5.cell? ⟨v3.heap.size, 4, none⟩ = some (.int .i64 cpu) := hq5.cell 4
    have q5_5 : v5.cell? ⟨v3.heap.size, 5, none⟩ = some (.int .i64 mem) := hq5.cell 5
    have q5_6 : v5.cell? ⟨v3.heap.size, 6, none⟩ = some (.slice A6 m6 c6) := hq5.cell 6
    have q5_7 : v5.cell? ⟨v3.heap.size, 7, none⟩ = some (.slice A7 m7 c7) := hq5.cell 7
    have q5_8 : v5.cell? ⟨v3.heap.size, 8, none⟩ = some (.slice A8 m8 c8) := hq5.cell 8
    have q5_9 : v5.cell? ⟨v3.heap.size, 9, none⟩ = some (.int .i64 warm) := hq5.cell 9
    clear k1_0 k1_1 k1_2 k1_3 k1_4 k1_5 k1_6 k1_7 k1_8 k1_9 k2_0 k2_1 k2_2 k2_3 k2_4 k2_5 k2_6 k2_7 k2_8 k2_9 k3_0 k3_1 k3_2 k3_3 k3_4 k3_5 k3_6 k3_7 k3_8 k3_9 q4_0 q4_1 q4_2 q4_3 q4_4 q4_5 q4_6 q4_7 q4_8 q4_9 CF CN CM CL
    go_wp2_with fail
    obtain ⟨W6, hW6⟩ : ∃ W6, W6 = (v5.alloc (.cells #[.string owner, .string node, .int .i64 ph, .int .i64 si, .int .i64 cpu, .int .i64 mem, .slice A6 m6 c6, .slice A7 m7 c7, .slice A8 m8 c8, .int .i64 warm] 28)).alloc (.cells #[.string owner, .string node, .int .i64 ph, .int .i64 si, .int .i64 cpu, .int .i64 mem, .slice A6 m6 c6, .slice A7 m7 c7, .slice A8 m8 c8, .int .i64 warm] 28) := ⟨_, rfl⟩
    have hk6 := (hk5.alloc (.cells #[.string owner, .string node, .int .i64 ph, .int .i64 si, .int .i64 cpu, .int .i64 mem, .slice A6 m6 c6, .slice A7 m7 c7, .slice A8 m8 c8, .int .i64 warm] 28)).alloc (.cells #[.string owner, .string node, .int .i64 ph, .int .i64 si, .int .i64 cpu, .int .i64 mem, .slice A6 m6 c6, .slice A7 m7 c7, .slice A8 m8 c8, .int .i64 warm] 28)
    have hq6 := (hq5.alloc (.cells #[.string owner, .string node, .int .i64 ph, .int .i64 si, .int .i64 cpu, .int .i64 mem, .slice A6 m6 c6, .slice A7 m7 c7, .slice A8 m8 c8, .int .i64 warm] 28)).alloc (.cells #[.string owner, .string node, .int .i64 ph, .int .i64 si, .int .i64 cpu, .int .i64 mem, .slice A6 m6 c6, .slice A7 m7 c7, .slice A8 m8 c8, .int .i64 warm] 28)
    have hr6 := (Bk.new v5 28 #[.string owner, .string node, .int .i64 ph, .int .i64 si, .int .i64 cpu, .int .i64 mem, .slice A6 m6 c6, .slice A7 m7 c7, .slice A8 m8 c8, .int .i64 warm]).alloc (.cells #[.string owner, .string node, .int .i64 ph, .int .i64 si, .int .i64 cpu, .int .i64 mem, .slice A6 m6 c6, .slice A7 m7 c7, .slice A8 m8 c8, .int .i64 warm] 28)
    have hx6 := Bk.new (v5.alloc (.cells #[.string owner, .string node, .int .i64 ph, .int .i64 si, .int .i64 cpu, .int .i64 mem, .slice A6 m6 c6, .slice A7 m7 c7, .slice A8 m8 c8, .int .i64 warm] 28)) 28 #[.string owner, .string node, .int .i64 ph, .int .i64 si, .int .i64 cpu, .int .i64 mem, .slice A6 m6 c6, .slice A7 m7 c7, .slice A8 m8 c8, .int .i64 warm]
    rw [World.size_alloc] at hx6
    have hP6 : Below w.heap.size w W6 := by rw [hW6]; exact (hP5.alloc hP5.size _).alloc (by have := hP5.size; simp; omega) _
    rw [← hW6] at hk6 hq6 hr6 hx6 ⊢
    clear hW6
    have p2 : W6.cell? ⟨w.heap.size, 2, none⟩ = some (.int .i64 phase) := hk6.cell 2
    have p3 : W6.cell? ⟨w.heap.size, 3, none⟩ = some (.int .i64 since) := hk6.cell 3
    have x2 : W6.cell? ⟨v5.heap.size + 1, 2, none⟩ = some (.int .i64 ph) := hx6.cell 2
    have x3 : W6.cell? ⟨v5.heap.size + 1, 3, none⟩ = some (.int .i64 si) := hx6.cell 3
    have f2 := hx6.frozen 2
    have f3 := hx6.frozen 3
    have hne : v5.heap.size + 1 ≠ w.heap.size := by omega
    clear q5_0 q5_1 q5_2 q5_3 q5_4 q5_5 q5_6 q5_7 q5_8 q5_9 hk1 hk2 hk3 hk4 hq3 hq4 hb1 hb2 hb3 hb4 hb5
    go_region_held3 (fun w' => w'.cell? ⟨w.heap.size, 2, none⟩ = some (.int .i64 phase) ∧ w'.cell? ⟨w.heap.size, 3, none⟩ = some (.int .i64 since)) (go_keep) (fail)
    obtain ⟨W7, hW7⟩ : ∃ W7, W7 = ((W6.setCell ⟨v5.heap.size + 1, 2, none⟩ (.int .i64 phase)).setCell ⟨v5.heap.size + 1, 3, none⟩ (.int .i64 since)).drew := ⟨_, rfl⟩
    have hx7 : Bk W7 (v5.heap.size + 1) 28 #[.string owner, .string node, .int .i64 phase, .int .i64 since, .int .i64 cpu, .int .i64 mem, .slice A6 m6 c6, .slice A7 m7 c7, .slice A8 m8 c8, .int .i64 warm] := by rw [hW7]; exact ((hx6.set 2 _).set 3 _).drew
    have hk7 : Bk W7 w.heap.size 28 #[.string owner, .string node, .int .i64 phase, .int .i64 since, .int .i64 cpu, .int .i64 mem, .slice A6 m6 c6, .slice A7 m7 c7, .slice A8 m8 c8, .int .i64 warm] := by rw [hW7]; exact ((hk6.far (p := ⟨v5.heap.size + 1, 2, none⟩) (by simp; omega) _).far (p := ⟨v5.heap.size + 1, 3, none⟩) (by simp; omega) _).drew
    have hq7 : Bk W7 v3.heap.size 28 #[.string owner, .string node, .int .i64 ph, .int .i64 si, .int .i64 cpu, .int .i64 mem, .slice A6 m6 c6, .slice A7 m7 c7, .slice A8 m8 c8, .int .i64 warm] := by rw [hW7]; exact ((hq6.far (p := ⟨v5.heap.size + 1, 2, none⟩) (by simp; omega) _).far (p := ⟨v5.heap.size + 1, 3, none⟩) (by simp; omega) _).drew
    have hr7 : Bk W7 v5.heap.size 28 #[.string owner, .string node, .int .i64 ph, .int .i64 si, .int .i64 cpu, .int .i64 mem, .slice A6 m6 c6, .slice A7 m7 c7, .slice A8 m8 c8, .int .i64 warm] := by rw [hW7]; exact ((hr6.far (p := ⟨v5.heap.size + 1, 2, none⟩) (by simp) _).far (p := ⟨v5.heap.size + 1, 3, none⟩) (by simp) _).drew
    have hP7 : Below w.heap.size w W7 := by rw [hW7]; exact ((hP6.setCell (p := ⟨v5.heap.size + 1, 2, none⟩) (by have := hP5.size; simp; omega) _).setCell (p := ⟨v5.heap.size + 1, 3, none⟩) (by have := hP5.size; simp; omega) _).drew
    rw [← hW7]
    clear hW7 hx6 hk6 hq6 hr6 p2 p3 x2 x3 f2 f3 hne hP6
    go_wp2_with fail
    refine wp_region_vars (W := W7) (B := W7.heap.size)
      (ps := [⟨0, 83, .agg #[.string owner, .string node, .int .i64 phase, .int .i64 since, .int .i64 cpu, .int .i64 mem, .slice A6 m6 c6, .slice A7 m7 c7, .slice A8 m8 c8, .int .i64 warm]⟩, ⟨1, 84, .agg #[.int .i64 1, .string ⟨#[]⟩, .int .u64 0, .int .i64 0, .int .i64 0, .int .i64 0, .slice none 0 0, .slice none 0 0, .slice none 0 0, .int .i64 0, .string owner, .string node, .int .i64 phase, .int .i64 since, .int .i64 cpu, .int .i64 mem, .slice A6 m6 c6, .slice A7 m7 c7, .slice A8 m8 c8, .int .i64 warm, .string ⟨#[]⟩, .int .i64 0, .int .i64 0, .slice none 0 0, .slice none 0 0, .int .i64 0, .bool false, .int .i64 0, .int .i64 0, .int .i64 0, .int .i64 0, .int .i64 0, .slice none 0 0, .slice none 0 0, .int .i64 0, .string ⟨#[]⟩, .int .i64 0, .int .i64 0, .slice none 0 0, .int .i64 0, .int .i64 0, .int .i64 0, .slice none 0 0, .int .i64 0, .int .i64 0, .slice none 0 0, .slice none 0 0]⟩, ⟨2, 85, .agg #[.string owner, .string node, .int .i64 phase, .int .i64 since, .int .i64 cpu, .int .i64 mem, .slice A6 m6 c6, .slice A7 m7 c7, .slice A8 m8 c8, .int .i64 warm]⟩, ⟨3, 86, .agg #[.int .i64 1, .string ⟨#[]⟩, .int .u64 0, .int .i64 0, .int .i64 0, .int .i64 0, .slice none 0 0, .slice none 0 0, .slice none 0 0, .int .i64 0, .string owner, .string node, .int .i64 phase, .int .i64 since, .int .i64 cpu, .int .i64 mem, .slice A6 m6 c6, .slice A7 m7 c7, .slice A8 m8 c8, .int .i64 warm, .string ⟨#[]⟩, .int .i64 0, .int .i64 0, .slice none 0 0, .slice none 0 0, .int .i64 0, .bool false, .int .i64 0, .int .i64 0, .int .i64 0, .int .i64 0, .int .i64 0, .slice none 0 0, .slice none 0 0, .int .i64 0, .string ⟨#[]⟩, .int .i64 0, .int .i64 0, .slice none 0 0, .int .i64 0, .int .i64 0, .int .i64 0, .slice none 0 0, .int .i64 0, .int .i64 0, .slice none 0 0, .slice none 0 0]⟩])
      (vs := [⟨4, 6, 12, 46, #[.int .i64 0, .string ⟨#[]⟩, .int .u64 0, .int .i64 0, .int .i64 0, .int .i64 0, .slice none 0 0, .slice none 0 0, .slice none 0 0, .int .i64 0, .string ⟨#[]⟩, .string ⟨#[]⟩, .int .i64 0, .int .i64 0, .int .i64 0, .int .i64 0, .slice none 0 0, .slice none 0 0, .slice none 0 0, .int .i64 0, .string ⟨#[]⟩, .int .i64 0, .int .i64 0, .slice none 0 0, .slice none 0 0, .int .i64 0, .bool false, .int .i64 0, .int .i64 0, .int .i64 0, .int .i64 0, .int .i64 0, .slice none 0 0, .slice none 0 0, .int .i64 0, .string ⟨#[]⟩, .int .i64 0, .int .i64 0, .slice none 0 0, .int .i64 0, .int .i64 0, .int .i64 0, .slice none 0 0, .int .i64 0, .int .i64 0, .slice none 0 0, .slice none 0 0], #[.int .i64 1, .string ⟨#[]⟩, .int .u64 0, .int .i64 0, .int .i64 0, .int .i64 0, .slice none 0 0, .slice none 0 0, .slice none 0 0, .int .i64 0, .string owner, .string node, .int .i64 phase, .int .i64 since, .int .i64 cpu, .int .i64 mem, .slice A6 m6 c6, .slice A7 m7 c7, .slice A8 m8 c8, .int .i64 warm, .string ⟨#[]⟩, .int .i64 0, .int .i64 0, .slice none 0 0, .slice none 0 0, .int .i64 0, .bool false, .int .i64 0, .int .i64 0, .int .i64 0, .int .i64 0, .int .i64 0, .slice none 0 0, .slice none 0 0, .int .i64 0, .string ⟨#[]⟩, .int .i64 0, .int .i64 0, .slice none 0 0, .int .i64 0, .int .i64 0, .int .i64 0, .slice none 0 0, .int .i64 0, .int .i64 0, .slice none 0 0, .slice none 0 0]⟩, ⟨5, 7, 13, 46, #[.int .i64 0, .string ⟨#[]⟩, .int .u64 0, .int .i64 0, .int .i64 0, .int .i64 0, .slice none 0 0, .slice none 0 0, .slice none 0 0, .int .i64 0, .string ⟨#[]⟩, .string ⟨#[]⟩, .int .i64 0, .int .i64 0, .int .i64 0, .int .i64 0, .slice none 0 0, .slice none 0 0, .slice none 0 0, .int .i64 0, .string ⟨#[]⟩, .int .i64 0, .int .i64 0, .slice none 0 0, .slice none 0 0, .int .i64 0, .bool false, .int .i64 0, .int .i64 0, .int .i64 0, .int .i64 0, .int .i64 0, .slice none 0 0, .slice none 0 0, .int .i64 0, .string ⟨#[]⟩, .int .i64 0, .int .i64 0, .slice none 0 0, .int .i64 0, .int .i64 0, .int .i64 0, .slice none 0 0, .int .i64 0, .int .i64 0, .slice none 0 0, .slice none 0 0], #[.int .i64 1, .string ⟨#[]⟩, .int .u64 0, .int .i64 0, .int .i64 0, .int .i64 0, .slice none 0 0, .slice none 0 0, .slice none 0 0, .int .i64 0, .string owner, .string node, .int .i64 phase, .int .i64 since, .int .i64 cpu, .int .i64 mem, .slice A6 m6 c6, .slice A7 m7 c7, .slice A8 m8 c8, .int .i64 warm, .string ⟨#[]⟩, .int .i64 0, .int .i64 0, .slice none 0 0, .slice none 0 0, .int .i64 0, .bool false, .int .i64 0, .int .i64 0, .int .i64 0, .int .i64 0, .int .i64 0, .slice none 0 0, .slice none 0 0, .int .i64 0, .string ⟨#[]⟩, .int .i64 0, .int .i64 0, .slice none 0 0, .int .i64 0, .int .i64 0, .int .i64 0, .slice none 0 0, .int .i64 0, .int .i64 0, .slice none 0 0, .slice none 0 0]⟩])
      (by kernel_rfl) ?_ (Nat.le_refl _) (Below.refl _ _) ?_
    · constructor
      · intro p hp
        simp only [List.mem_cons, List.not_mem_nil, or_false] at hp
        rcases hp with rfl | rfl | rfl | rfl
        · refine ⟨_, rfl, rfl, rfl, fun a w' hA hB => ?_⟩
          have e1 := at_other hA 11 _ rfl rfl rfl
          have hx8 := hx7.below' hB
          clear hA hB hx7 hk7 hq7 hr7
          have y0 : w'.cell? ⟨v5.heap.size + 1, 0, none⟩ = some (.string owner) := hx8.cell 0
          have y1 : w'.cell? ⟨v5.heap.size + 1, 1, none⟩ = some (.string node) := hx8.cell 1
          have y2 : w'.cell? ⟨v5.heap.size + 1, 2, none⟩ = some (.int .i64 phase) := hx8.cell 2
          have y3 : w'.cell? ⟨v5.heap.size + 1, 3, none⟩ = some (.int .i64 since) := hx8.cell 3
          have y4 : w'.cell? ⟨v5.heap.size + 1, 4, none⟩ = some (.int .i64 cpu) := hx8.cell 4
          have y5 : w'.cell? ⟨v5.heap.size + 1, 5, none⟩ = some (.int .i64 mem) := hx8.cell 5
          have y6 : w'.cell? ⟨v5.heap.size + 1, 6, none⟩ = some (.slice A6 m6 c6) := hx8.cell 6
          have y7 : w'.cell? ⟨v5.heap.size + 1, 7, none⟩ = some (.slice A7 m7 c7) := hx8.cell 7
          have y8 : w'.cell? ⟨v5.heap.size + 1, 8, none⟩ = some (.slice A8 m8 c8) := hx8.cell 8
          have y9 : w'.cell? ⟨v5.heap.size + 1, 9, none⟩ = some (.int .i64 warm) := hx8.cell 9
          go_simp
        · refine ⟨_, rfl, rfl, rfl, fun a w' hA hB => ?_⟩
          have e1 := at_pure hA 0 _ rfl rfl
          clear hA hB hx7 hk7 hq7 hr7
          go_simp
        · refine ⟨_, rfl, rfl, rfl, fun a w' hA hB => ?_⟩
          have e1 := at_other hA 3 _ rfl rfl rfl
          have hx8 := hk7.below' hB
          clear hA hB hx7 hk7 hq7 hr7
          have y0 : w'.cell? ⟨w.heap.size, 0, none⟩ = some (.string owner) := hx8.cell 0
          have y1 : w'.cell? ⟨w.heap.size, 1, none⟩ = some (.string node) := hx8.cell 1
          have y2 : w'.cell? ⟨w.heap.size, 2, none⟩ = some (.int .i64 phase) := hx8.cell 2
          have y3 : w'.cell? ⟨w.heap.size, 3, none⟩ = some (.int .i64 since) := hx8.cell 3
          have y4 : w'.cell? ⟨w.heap.size, 4, none⟩ = some (.int .i64 cpu) := hx8.cell 4
          have y5 : w'.cell? ⟨w.heap.size, 5, none⟩ = some (.int .i64 mem) := hx8.cell 5
          have y6 : w'.cell? ⟨w.heap.size, 6, none⟩ = some (.slice A6 m6 c6) := hx8.cell 6
          have y7 : w'.cell? ⟨w.heap.size, 7, none⟩ = some (.slice A7 m7 c7) := hx8.cell 7
          have y8 : w'.cell? ⟨w.heap.size, 8, none⟩ = some (.slice A8 m8 c8) := hx8.cell 8
          have y9 : w'.cell? ⟨w.heap.size, 9, none⟩ = some (.int .i64 warm) := hx8.cell 9
          go_simp
        · refine ⟨_, rfl, rfl, rfl, fun a w' hA hB => ?_⟩
          have e1 := at_pure hA 2 _ rfl rfl
          clear hA hB hx7 hk7 hq7 hr7
          go_simp
      · intro v hv
        simp only [List.mem_cons, List.not_mem_nil, or_false] at hv
        rcases hv with rfl | rfl
        all_goals
          refine ⟨_, rfl, rfl, rfl, fun a w' => ?_⟩
          go_simp
      · intro v hv
        simp only [List.mem_cons, List.not_mem_nil, or_false] at hv
        rcases hv with rfl | rfl
        · refine ⟨_, rfl, rfl, rfl, deps_of rfl, fun a w' g hA e2 hk => ?_⟩
          have e1 := at_pure hA 1 _ rfl rfl
          exact run_store_op hk rfl 46 (.tmp 12) (.tmp 84) rfl (tmp_of e2) (tmp_of e1) (by kernel_rfl) rfl
        · refine ⟨_, rfl, rfl, rfl, deps_of rfl, fun a w' g hA e2 hk => ?_⟩
          have e1 := at_pure hA 3 _ rfl rfl
          exact run_store_op hk rfl 46 (.tmp 13) (.tmp 86) rfl (tmp_of e2) (tmp_of e1) (by kernel_rfl) rfl
      · intro v hv
        simp only [List.mem_cons, List.not_mem_nil, or_false] at hv
        rcases hv with rfl | rfl <;> rfl
      · show ∀ i, i < 8 → i ∈ ([0, 1, 2, 3, 4, 5, 6, 7] : List Nat)
        decide
      · show ([0, 1, 2, 3, 4, 5, 6, 7] : List Nat).Nodup
        decide
      · show ([83, 84, 85, 86, 12, 13] : List Nat).Nodup
        decide
      · show ∀ s ∈ ([83, 84, 85, 86, 12, 13] : List Nat), s < 109
        decide
      · exact up_of (by decide +kernel)
    · intro gg W8 hB8 hv hd
      clear hd
      obtain ⟨_, ka⟩ := hv _ (List.mem_cons_self ..)
      obtain ⟨_, kb⟩ := hv _ (List.mem_cons_of_mem _ (List.mem_cons_self ..))
      clear hv
      simp only at ka kb
      simp only [putAll, setsOf, List.map_cons, List.map_nil, List.cons_append, List.nil_append, List.foldl_cons, List.foldl_nil, List.setIfInBounds_toArray, List.set_cons_zero, List.set_cons_succ]
      generalize gg 12 = Ga at ka ⊢
      generalize gg 13 = Gb at kb ⊢
      have hP8 : Below w.heap.size w W8 := below_tr hP7 hB8
      have hq8 := hq7.below' hB8
      have hr8 := hr7.below' hB8
      have q2 : W8.cell? ⟨v3.heap.size, 2, none⟩ = some (.int .i64 ph) := hq8.cell 2
      have q3 : W8.cell? ⟨v3.heap.size, 3, none⟩ = some (.int .i64 si) := hq8.cell 3
      have r2 : W8.cell? ⟨v5.heap.size, 2, none⟩ = some (.int .i64 ph) := hr8.cell 2
      have r3 : W8.cell? ⟨v5.heap.size, 3, none⟩ = some (.int .i64 si) := hr8.cell 3
      clear hq7 hr7 hk7 hx7 hq8 hr8 hB8 hP7
      have hS : ∃ fs, Try.prog.underlying 46 = some (.struct fs) := ⟨_, Try.underlying46⟩
      obtain ⟨fs, hfs⟩ := hS
      have HF := Lib.hid hfs
      clear hfs
      go_wp2_with (refine wpl_loadg kb rfl 46 (.tmp 13) rfl rfl _ HF.out rfl (by kernel_rfl) ?_)
      refine (CS.out _ hP8).mono ?_
      rintro e v9 ⟨rfl, hb9⟩
      have hP9 := below_tr hP8 hb9
      have ka9 := ka.below' hb9
      have kb9 := kb.below' hb9
      cases b
      · go_wp2_with fail
        go_ret
        exact ⟨rfl, hP9⟩
      · have CE2 := Lib.hid (CE.out rfl)
        clear CE
        go_wp2_with (first | (refine wpl_loadg ka9 rfl 46 (.tmp 12) rfl rfl _ HF.out rfl (by kernel_rfl) ?_) | (refine wpl_loadg kb9 rfl 46 (.tmp 13) rfl rfl _ HF.out rfl (by kernel_rfl) ?_))
        refine (CE2.out _ hP9).mono ?_
        rintro e v10 ⟨rfl, hb10⟩
        go_wp2_with fail
        go_ret
        exact ⟨rfl, below_tr hP9 hb10⟩
set_option maxHeartbeats 8000000 in
set_option maxRecDepth 100000 in
theorem podsNext_bad (p : Pd) (now : Int) (there : Bool) (w : World)
    (hbad : now < 0 ∨ (0 ≤ now ∧ 4611686018427387904 < now) ∨ (0 ≤ now ∧ now ≤ 4611686018427387904 ∧ p.since < 0) ∨ (0 ≤ now ∧ now ≤ 4611686018427387904 ∧ 0 ≤ p.since ∧ 4611686018427387904 < p.since) ∨
      (0 ≤ now ∧ now ≤ 4611686018427387904 ∧ 0 ≤ p.since ∧ p.since ≤ 4611686018427387904 ∧ p.warm < 0) ∨ (0 ≤ now ∧ now ≤ 4611686018427387904 ∧ 0 ≤ p.since ∧ p.since ≤ 4611686018427387904 ∧ 0 ≤ p.warm ∧ 1800 < p.warm)) :
    Calls Try.prog 3 #[.agg p.cells.toArray, .int .i64 now, .bool there] w fun e w' => e = .returned (.bool true) ∧ Below w.heap.size w w' := by
  obtain ⟨owner, node, phase, since, cpu, mem, labels, select, tolerate, warm⟩ := p
  simp only [Pd.cells]
  simp only at hbad
  have hkb := Bk.new w 28 #[.string owner, .string node, .int .i64 phase, .int .i64 since, .int .i64 cpu, .int .i64 mem, labels.v, select.v, tolerate.v, .int .i64 warm]
  rcases hbad with h1 | ⟨h1, h2⟩ | ⟨h1, h2, h3⟩ | ⟨h1, h2, h3, h4⟩ | ⟨h1, h2, h3, h4, h5⟩ | ⟨h1, h2, h3, h4, h5, h6⟩
  all_goals
    go_enter Try.func3, Try.ntmps3
    go_wp2_with fail
    refine (lives14_any _).mono ?_
    rintro e v1 ⟨rfl, hb1⟩
    have hk1 := hkb.below' hb1
    have k3 : v1.cell? ⟨w.heap.size, 3, none⟩ = some (.int .i64 since) := hk1.cell 3
    have k9 : v1.cell? ⟨w.heap.size, 9, none⟩ = some (.int .i64 warm) := hk1.cell 9
    have hP1 := below_tr (below_al _ _) hb1
    go_wp2_with fail
    refine (lives14_any _).mono ?_
    rintro e v3 ⟨rfl, hb3⟩
    go_wp2_with fail
    go_ret
    exact ⟨rfl, below_tr hP1 hb3⟩
theorem podsNext_walk (a : Array Value) (now : Int) (there : Bool) (w : World) (h : Mem.Ok Try.prog w 9 28 (Value.agg a).cells.toList) (wn : (Lit.int .i64 now).wf = true) :
    Calls Try.prog 3 #[.agg a, .int .i64 now, .bool there] w fun e w' => e = .returned (.bool true) ∧ Below w.heap.size w w' := by
  obtain ⟨p, hp, ho⟩ := pd_of (n := 5) h
  have ha : a = p.cells.toArray := arr_of hp
  subst ha
  by_cases h1 : 0 ≤ now ∧ now ≤ 4611686018427387904
  · by_cases h2 : 0 ≤ p.since ∧ p.since ≤ 4611686018427387904
    · by_cases h3 : 0 ≤ p.warm ∧ p.warm ≤ 1800
      · exact podsNext_ok p now there w ho h1 h2 h3
      · refine podsNext_bad p now there w ?_
        rcases Int.lt_or_le p.warm 0 with h4 | h4
        · exact .inr (.inr (.inr (.inr (.inl ⟨h1.1, h1.2, h2.1, h2.2, h4⟩))))
        · exact .inr (.inr (.inr (.inr (.inr ⟨h1.1, h1.2, h2.1, h2.2, h4, by omega⟩))))
    · refine podsNext_bad p now there w ?_
      rcases Int.lt_or_le p.since 0 with h4 | h4
      · exact .inr (.inr (.inl ⟨h1.1, h1.2, h4⟩))
      · exact .inr (.inr (.inr (.inl ⟨h1.1, h1.2, h4, by omega⟩)))
  · refine podsNext_bad p now there w ?_
    rcases Int.lt_or_le now 0 with h4 | h4
    · exact .inl h4
    · exact .inr (.inl ⟨h4, by omega⟩)
end Go.Proofs.Ytilmmmokobhnfaa
