/-
  What trimtablaw07.Right says of a workload. (printed by wip/gen_right.py)
-/
import Derived.Test.YtilmmmokobhnfaaRight
import Derived.Test.YtilmmmokobhnfaaEmpty0
import Derived.Test.YtilmmmokobhnfaaQuiet
import Derived.Test.YtilmmmokobhnfaaVars
import Derived.Deep.DeepCutAuto
namespace Go.Proofs.Ytilmmmokobhnfaa
open Go.RowKit Go.Proofs.Mem
set_option linter.unusedVariables false
set_option linter.unusedSimpArgs false
set_option maxHeartbeats 8000000 in
set_option maxRecDepth 100000 in
theorem right_0 (name : ByteArray) (version : Int) (x : Wl) (w : World) (ho : x.Ok w) (hn : wfs name) :
    Calls Try.prog 17 #[.agg (Ob.mk 0 name version x .zero .zero .zero .zero).cells.toArray] w fun e w' => ∃ z, e = .returned (.int .i64 z) ∧ (z = 0 → wantsB x.cpu x.mem x.labels.l x.select.l x.tolerate.l x.warm = true) ∧ Below w.heap.size w w' := by
  have C1 := Lib.hid (fun w1 => name_any name w1 hn)
  have C2 := Lib.hid (fun w1 (hb : Below w.heap.size w w1) => empty_0 name version x w1 (ho.below hb))
  have C3 := Lib.hid (fun w1 (hb : Below w.heap.size w w1) => wants_any x.cpu x.mem x.labels x.select x.tolerate x.warm w1 (ho.labels.below hb) (ho.select.below hb) (ho.tolerate.below hb))
  have hsl : (∃ A n c, x.labels.v = .slice A n c) ∧ (∃ A n c, x.select.v = .slice A n c) ∧ (∃ A n c, x.tolerate.v = .slice A n c) := by
    obtain ⟨A, c, e, _⟩ := id ho.labels.1
    obtain ⟨A', c', e', _⟩ := id ho.select.1
    obtain ⟨A'', c'', e'', _⟩ := id ho.tolerate.1
    exact ⟨⟨_, _, _, e⟩, ⟨_, _, _, e'⟩, ⟨_, _, _, e''⟩⟩
  clear ho
  obtain ⟨replicas, cpu, mem, ⟨lv, ll⟩, ⟨sv, sl⟩, ⟨tv, tl⟩, warm⟩ := x
  obtain ⟨⟨A1, n1, c1, e1⟩, ⟨A2, n2, c2, e2⟩, ⟨A3, n3, c3, e3⟩⟩ := hsl
  simp only at e1 e2 e3
  subst e1; subst e2; subst e3
  obtain ⟨b, hb⟩ : ∃ b, b = wantsB cpu mem ll sl tl warm := ⟨_, rfl⟩
  simp only at C3 ⊢
  rw [← hb] at C3 ⊢
  clear hb
  obtain ⟨nb, hnb⟩ : ∃ b, b = nmB name := ⟨_, rfl⟩
  rw [← hnb] at C1
  clear hnb hn
  have hk := Bk.new w 46 (Ob.mk 0 name version ⟨replicas, cpu, mem, ⟨.slice A1 n1 c1, ll⟩, ⟨.slice A2 n2 c2, sl⟩, ⟨.slice A3 n3 c3, tl⟩, warm⟩ .zero .zero .zero .zero).cells.toArray
  obtain ⟨L, hL⟩ : ∃ L, L = (Ob.mk 0 name version ⟨replicas, cpu, mem, ⟨.slice A1 n1 c1, ll⟩, ⟨.slice A2 n2 c2, sl⟩, ⟨.slice A3 n3 c3, tl⟩, warm⟩ .zero .zero .zero .zero).cells.toArray := ⟨_, rfl⟩
  have hsz : L.size = 47 := by rw [hL]; rfl
  have l0 : L[0]? = some (.int .i64 0) := by rw [hL]; rfl
  have l1 : L[1]? = some (.string name) := by rw [hL]; rfl
  have l2 : L[2]? = some (.int .u64 version) := by rw [hL]; rfl
  have l3 : L[3]? = some (.int .i64 replicas) := by rw [hL]; rfl
  have l4 : L[4]? = some (.int .i64 cpu) := by rw [hL]; rfl
  have l5 : L[5]? = some (.int .i64 mem) := by rw [hL]; rfl
  have l6 : L[6]? = some (.slice A1 n1 c1) := by rw [hL]; rfl
  have l7 : L[7]? = some (.slice A2 n2 c2) := by rw [hL]; rfl
  have l8 : L[8]? = some (.slice A3 n3 c3) := by rw [hL]; rfl
  have l9 : L[9]? = some (.int .i64 warm) := by rw [hL]; rfl
  rw [← hL] at hk C2 ⊢
  clear hL
  have hS : ∃ fs, Try.prog.underlying 46 = some (.struct fs) := ⟨_, Try.underlying46⟩
  obtain ⟨fs, hfs⟩ := hS
  have HF := Lib.hid hfs
  have HI : Hid ((Try.prog.info? 46).map (·.size) = some L.size) := Lib.hid (by rw [hsz]; kernel_rfl)
  clear hfs hsz
  go_enter Try.func17, Try.ntmps17
  obtain ⟨Wb, hWb⟩ : ∃ Wb, Wb = w.alloc (.cells L 46) := ⟨_, rfl⟩
  have hBb : Below w.heap.size w Wb := by rw [hWb]; exact below_al _ _
  rw [← hWb] at hk
  have k0 : Wb.cell? ⟨w.heap.size, 0, none⟩ = some (.int .i64 0) := (hk.cell 0).trans l0
  have k1 : Wb.cell? ⟨w.heap.size, 1, none⟩ = some (.string name) := (hk.cell 1).trans l1
  have k2 : Wb.cell? ⟨w.heap.size, 2, none⟩ = some (.int .u64 version) := (hk.cell 2).trans l2
  have k3 : Wb.cell? ⟨w.heap.size, 3, none⟩ = some (.int .i64 replicas) := (hk.cell 3).trans l3
  have k4 : Wb.cell? ⟨w.heap.size, 4, none⟩ = some (.int .i64 cpu) := (hk.cell 4).trans l4
  have k5 : Wb.cell? ⟨w.heap.size, 5, none⟩ = some (.int .i64 mem) := (hk.cell 5).trans l5
  have k6 : Wb.cell? ⟨w.heap.size, 6, none⟩ = some (.slice A1 n1 c1) := (hk.cell 6).trans l6
  have k7 : Wb.cell? ⟨w.heap.size, 7, none⟩ = some (.slice A2 n2 c2) := (hk.cell 7).trans l7
  have k8 : Wb.cell? ⟨w.heap.size, 8, none⟩ = some (.slice A3 n3 c3) := (hk.cell 8).trans l8
  have k9 : Wb.cell? ⟨w.heap.size, 9, none⟩ = some (.int .i64 warm) := (hk.cell 9).trans l9
  go_upto_region 1 with fail
  rw [← hWb]
  clear hWb
  go_wp2_with fail
  refine (C1.out _).mono ?_
  rintro e w1 ⟨rfl, rfl⟩
  cases nb
  · go_wp2_with fail
    go_ret
    exact ⟨6, rfl, fun h => absurd h (by decide), hBb⟩
  · go_wp2_with (refine wpl_loadg hk rfl 46 (.tmp 1) rfl rfl _ HF.out rfl HI.out ?_)
    refine (C2.out _ hBb).mono ?_
    rintro e w2 ⟨rfl, hb2⟩
    have hk2 := hk.below' hb2
    have hB2 := below_tr hBb hb2
    clear k0 k1 k2 k3 k4 k5 k6 k7 k8 k9
    have k0 : w2.cell? ⟨w.heap.size, 0, none⟩ = some (.int .i64 0) := (hk2.cell 0).trans l0
    have k1 : w2.cell? ⟨w.heap.size, 1, none⟩ = some (.string name) := (hk2.cell 1).trans l1
    have k2 : w2.cell? ⟨w.heap.size, 2, none⟩ = some (.int .u64 version) := (hk2.cell 2).trans l2
    have k3 : w2.cell? ⟨w.heap.size, 3, none⟩ = some (.int .i64 replicas) := (hk2.cell 3).trans l3
    have k4 : w2.cell? ⟨w.heap.size, 4, none⟩ = some (.int .i64 cpu) := (hk2.cell 4).trans l4
    have k5 : w2.cell? ⟨w.heap.size, 5, none⟩ = some (.int .i64 mem) := (hk2.cell 5).trans l5
    have k6 : w2.cell? ⟨w.heap.size, 6, none⟩ = some (.slice A1 n1 c1) := (hk2.cell 6).trans l6
    have k7 : w2.cell? ⟨w.heap.size, 7, none⟩ = some (.slice A2 n2 c2) := (hk2.cell 7).trans l7
    have k8 : w2.cell? ⟨w.heap.size, 8, none⟩ = some (.slice A3 n3 c3) := (hk2.cell 8).trans l8
    have k9 : w2.cell? ⟨w.heap.size, 9, none⟩ = some (.int .i64 warm) := (hk2.cell 9).trans l9
    clear hk hk2 hb2 hBb l0 l1 l2 l3 l4 l5 l6 l7 l8 l9 C1 C2 HI HF
    have hcs : replicas < 0 ∨ (0 ≤ replicas ∧ replicas ≤ 1000000) ∨ (0 ≤ replicas ∧ 1000000 < replicas) := by omega
    go_upto_region 9 with fail
    have hF := Bk.new w2 33 #[.int .i64 replicas, .int .i64 cpu, .int .i64 mem, .slice A1 n1 c1, .slice A2 n2 c2, .slice A3 n3 c3, .int .i64 warm]
    have hBW := below_tr hB2 (below_al w2 (.cells #[.int .i64 replicas, .int .i64 cpu, .int .i64 mem, .slice A1 n1 c1, .slice A2 n2 c2, .slice A3 n3 c3, .int .i64 warm] 33))
    generalize w2.alloc (.cells #[.int .i64 replicas, .int .i64 cpu, .int .i64 mem, .slice A1 n1 c1, .slice A2 n2 c2, .slice A3 n3 c3, .int .i64 warm] 33) = wV at hF hBW ⊢
    generalize w2.heap.size = gV at hF ⊢
    clear k0 k1 k2 k3 k4 k5 k6 k7 k8 k9 hB2
    have f0 := hF.cell 0
    have f1 := hF.cell 1
    have f2 := hF.cell 2
    have f3 := hF.cell 3
    have f4 := hF.cell 4
    have f5 := hF.cell 5
    have f6 := hF.cell 6
    clear hF
    rcases hcs with h1 | ⟨h1, h2⟩ | ⟨h1, h2⟩
    · go_wp2_with fail
      all_goals
        go_ret
        exact ⟨_, rfl, fun h => absurd h (by decide), hBW⟩
    · go_wp2_with fail
      all_goals
        refine (C3.out _ hBW).mono ?_
        rintro e w3 ⟨rfl, hb3⟩
        cases b
        · go_wp2_with fail
          go_ret
          exact ⟨_, rfl, fun h => absurd h (by decide), below_tr hBW hb3⟩
        · go_wp2_with fail
          go_ret
          first | exact ⟨⟨_, rfl⟩, below_tr hBW hb3⟩ | exact ⟨_, rfl, below_tr hBW hb3⟩ | exact ⟨_, rfl, fun _ => rfl, below_tr hBW hb3⟩
    · go_wp2_with fail
      all_goals
        go_ret
        exact ⟨_, rfl, fun h => absurd h (by decide), hBW⟩
end Go.Proofs.Ytilmmmokobhnfaa
