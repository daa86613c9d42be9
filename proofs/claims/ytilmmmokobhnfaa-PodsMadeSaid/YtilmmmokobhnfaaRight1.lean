/-
  A pod of which all holds is right: trimtablaw07.Right. (printed by wip/gen_right.py)
-/
import Derived.Test.YtilmmmokobhnfaaRight
import Derived.Test.YtilmmmokobhnfaaEmpty1
import Derived.Test.YtilmmmokobhnfaaQuiet
import Derived.Test.YtilmmmokobhnfaaVars
import Derived.Deep.DeepCutAuto
namespace Go.Proofs.Ytilmmmokobhnfaa
open Go.RowKit Go.Proofs.Mem
set_option linter.unusedVariables false
set_option linter.unusedSimpArgs false
set_option maxHeartbeats 8000000 in
set_option maxRecDepth 100000 in
theorem right_1 (name : ByteArray) (version : Int) (x : Pd) (w : World) (ho : x.Ok w) (hn : wfs name) (hnm : nmB name = true) (hnode : x.node = ⟨#[]⟩) (hph : x.phase = 0) (hown : nmB x.owner = true) (hs : 0 ≤ x.since ∧ x.since ≤ 4611686018427387904) (hwt : wantsB x.cpu x.mem x.labels.l x.select.l x.tolerate.l x.warm = true) :
    Calls Try.prog 17 #[.agg (Ob.mk 1 name version .zero x .zero .zero .zero).cells.toArray] w fun e w' => e = .returned (.int .i64 0) ∧ Below w.heap.size w w' := by
  have C1 := Lib.hid (fun w1 => name_any name w1 hn)
  have C2 := Lib.hid (fun w1 (hb : Below w.heap.size w w1) => empty_1 name version x w1 (ho.below hb))
  have C3 := Lib.hid (fun w1 (hb : Below w.heap.size w w1) => wants_any x.cpu x.mem x.labels x.select x.tolerate x.warm w1 (ho.labels.below hb) (ho.select.below hb) (ho.tolerate.below hb))
  have C4 := Lib.hid (fun w1 => name_any x.owner w1 ho.owner)
  have hsl : (∃ A n c, x.labels.v = .slice A n c) ∧ (∃ A n c, x.select.v = .slice A n c) ∧ (∃ A n c, x.tolerate.v = .slice A n c) := by
    obtain ⟨A, c, e, _⟩ := id ho.labels.1
    obtain ⟨A', c', e', _⟩ := id ho.select.1
    obtain ⟨A'', c'', e'', _⟩ := id ho.tolerate.1
    exact ⟨⟨_, _, _, e⟩, ⟨_, _, _, e'⟩, ⟨_, _, _, e''⟩⟩
  clear ho
  obtain ⟨owner, node, phase, since, cpu, mem, ⟨lv, ll⟩, ⟨sv, sl⟩, ⟨tv, tl⟩, warm⟩ := x
  obtain ⟨⟨A1, n1, c1, e1⟩, ⟨A2, n2, c2, e2⟩, ⟨A3, n3, c3, e3⟩⟩ := hsl
  simp only at e1 e2 e3 hnode hph hown hs hwt
  subst e1; subst e2; subst e3; subst hnode; subst hph
  obtain ⟨h1, h2⟩ := hs
  simp only at C3 C4 ⊢
  rw [hwt] at C3
  rw [hnm] at C1
  rw [hown] at C4
  clear hwt hnm hown hn
  have hk := Bk.new w 46 (Ob.mk 1 name version .zero ⟨owner, ⟨#[]⟩, 0, since, cpu, mem, ⟨.slice A1 n1 c1, ll⟩, ⟨.slice A2 n2 c2, sl⟩, ⟨.slice A3 n3 c3, tl⟩, warm⟩ .zero .zero .zero).cells.toArray
  obtain ⟨L, hL⟩ : ∃ L, L = (Ob.mk 1 name version .zero ⟨owner, ⟨#[]⟩, 0, since, cpu, mem, ⟨.slice A1 n1 c1, ll⟩, ⟨.slice A2 n2 c2, sl⟩, ⟨.slice A3 n3 c3, tl⟩, warm⟩ .zero .zero .zero).cells.toArray := ⟨_, rfl⟩
  have hsz : L.size = 47 := by rw [hL]; rfl
  have l0 : L[0]? = some (.int .i64 1) := by rw [hL]; rfl
  have l1 : L[1]? = some (.string name) := by rw [hL]; rfl
  have l10 : L[10]? = some (.string owner) := by rw [hL]; rfl
  have l11 : L[11]? = some (.string ⟨#[]⟩) := by rw [hL]; rfl
  have l12 : L[12]? = some (.int .i64 0) := by rw [hL]; rfl
  have l13 : L[13]? = some (.int .i64 since) := by rw [hL]; rfl
  have l14 : L[14]? = some (.int .i64 cpu) := by rw [hL]; rfl
  have l15 : L[15]? = some (.int .i64 mem) := by rw [hL]; rfl
  have l16 : L[16]? = some (.slice A1 n1 c1) := by rw [hL]; rfl
  have l17 : L[17]? = some (.slice A2 n2 c2) := by rw [hL]; rfl
  have l18 : L[18]? = some (.slice A3 n3 c3) := by rw [hL]; rfl
  have l19 : L[19]? = some (.int .i64 warm) := by rw [hL]; rfl
  rw [← hL] at hk C2 ⊢
  clear hL
  have hS : ∃ fs, Try.prog.underlying 46 = some (.struct fs) := ⟨_, Try.underlying46⟩
  obtain ⟨fs, hfs⟩ := hS
  have HF := Lib.hid hfs
  have HI : Hid ((Try.prog.info? 46).map (·.size) = some L.size) := Lib.hid (by rw [hsz]; kernel_rfl)
  clear hfs hsz
  go_enter Try.func17, Try.ntmps17
  obtain ⟨Wb, hWb⟩ : ∃ Wb, Wb = w.alloc (.cells L 46) := ⟨_, rfl⟩
  have hBb : Below w.heap.size w Wb := by rw [hWb]; exact below_al _ _
  rw [← hWb] at hk
  have k0 : Wb.cell? ⟨w.heap.size, 0, none⟩ = some (.int .i64 1) := (hk.cell 0).trans l0
  have k1 : Wb.cell? ⟨w.heap.size, 1, none⟩ = some (.string name) := (hk.cell 1).trans l1
  have k10 : Wb.cell? ⟨w.heap.size, 10, none⟩ = some (.string owner) := (hk.cell 10).trans l10
  have k11 : Wb.cell? ⟨w.heap.size, 11, none⟩ = some (.string ⟨#[]⟩) := (hk.cell 11).trans l11
  have k12 : Wb.cell? ⟨w.heap.size, 12, none⟩ = some (.int .i64 0) := (hk.cell 12).trans l12
  have k13 : Wb.cell? ⟨w.heap.size, 13, none⟩ = some (.int .i64 since) := (hk.cell 13).trans l13
  have k14 : Wb.cell? ⟨w.heap.size, 14, none⟩ = some (.int .i64 cpu) := (hk.cell 14).trans l14
  have k15 : Wb.cell? ⟨w.heap.size, 15, none⟩ = some (.int .i64 mem) := (hk.cell 15).trans l15
  have k16 : Wb.cell? ⟨w.heap.size, 16, none⟩ = some (.slice A1 n1 c1) := (hk.cell 16).trans l16
  have k17 : Wb.cell? ⟨w.heap.size, 17, none⟩ = some (.slice A2 n2 c2) := (hk.cell 17).trans l17
  have k18 : Wb.cell? ⟨w.heap.size, 18, none⟩ = some (.slice A3 n3 c3) := (hk.cell 18).trans l18
  have k19 : Wb.cell? ⟨w.heap.size, 19, none⟩ = some (.int .i64 warm) := (hk.cell 19).trans l19
  go_upto_region 1 with fail
  rw [← hWb]
  clear hWb
  go_wp2_with fail
  refine (C1.out _).mono ?_
  rintro e w1 ⟨rfl, rfl⟩
  go_wp2_with (refine wpl_loadg hk rfl 46 (.tmp 1) rfl rfl _ HF.out rfl HI.out ?_)
  refine (C2.out _ hBb).mono ?_
  rintro e w2 ⟨rfl, hb2⟩
  have hk2 := hk.below' hb2
  have hB2 := below_tr hBb hb2
  clear k0 k1 k10 k11 k12 k13 k14 k15 k16 k17 k18 k19
  have k0 : w2.cell? ⟨w.heap.size, 0, none⟩ = some (.int .i64 1) := (hk2.cell 0).trans l0
  have k1 : w2.cell? ⟨w.heap.size, 1, none⟩ = some (.string name) := (hk2.cell 1).trans l1
  have k10 : w2.cell? ⟨w.heap.size, 10, none⟩ = some (.string owner) := (hk2.cell 10).trans l10
  have k11 : w2.cell? ⟨w.heap.size, 11, none⟩ = some (.string ⟨#[]⟩) := (hk2.cell 11).trans l11
  have k12 : w2.cell? ⟨w.heap.size, 12, none⟩ = some (.int .i64 0) := (hk2.cell 12).trans l12
  have k13 : w2.cell? ⟨w.heap.size, 13, none⟩ = some (.int .i64 since) := (hk2.cell 13).trans l13
  have k14 : w2.cell? ⟨w.heap.size, 14, none⟩ = some (.int .i64 cpu) := (hk2.cell 14).trans l14
  have k15 : w2.cell? ⟨w.heap.size, 15, none⟩ = some (.int .i64 mem) := (hk2.cell 15).trans l15
  have k16 : w2.cell? ⟨w.heap.size, 16, none⟩ = some (.slice A1 n1 c1) := (hk2.cell 16).trans l16
  have k17 : w2.cell? ⟨w.heap.size, 17, none⟩ = some (.slice A2 n2 c2) := (hk2.cell 17).trans l17
  have k18 : w2.cell? ⟨w.heap.size, 18, none⟩ = some (.slice A3 n3 c3) := (hk2.cell 18).trans l18
  have k19 : w2.cell? ⟨w.heap.size, 19, none⟩ = some (.int .i64 warm) := (hk2.cell 19).trans l19
  clear hk hk2 hb2 hBb l0 l1 l10 l11 l12 l13 l14 l15 l16 l17 l18 l19 C1 C2 HI HF
  go_upto_region 12 with fail
  have hF := Bk.new w2 28 #[.string owner, .string ⟨#[]⟩, .int .i64 0, .int .i64 since, .int .i64 cpu, .int .i64 mem, .slice A1 n1 c1, .slice A2 n2 c2, .slice A3 n3 c3, .int .i64 warm]
  have hBW := below_tr hB2 (below_al w2 (.cells #[.string owner, .string ⟨#[]⟩, .int .i64 0, .int .i64 since, .int .i64 cpu, .int .i64 mem, .slice A1 n1 c1, .slice A2 n2 c2, .slice A3 n3 c3, .int .i64 warm] 28))
  generalize w2.alloc (.cells #[.string owner, .string ⟨#[]⟩, .int .i64 0, .int .i64 since, .int .i64 cpu, .int .i64 mem, .slice A1 n1 c1, .slice A2 n2 c2, .slice A3 n3 c3, .int .i64 warm] 28) = wV at hF hBW ⊢
  generalize w2.heap.size = gV at hF ⊢
  clear k0 k1 k10 k11 k12 k13 k14 k15 k16 k17 k18 k19 hB2
  have f0 := hF.cell 0
  have f1 := hF.cell 1
  have f2 := hF.cell 2
  have f3 := hF.cell 3
  have f4 := hF.cell 4
  have f5 := hF.cell 5
  have f6 := hF.cell 6
  have f7 := hF.cell 7
  have f8 := hF.cell 8
  have f9 := hF.cell 9
  go_wp2_with fail
  refine (C4.out _).mono ?_
  rintro e w1 ⟨rfl, rfl⟩
  go_wp2_with fail
  refine (C3.out _ hBW).mono ?_
  rintro e w3 ⟨rfl, hb3⟩
  have hF3 := hF.below' hb3
  have g0 := hF3.cell 0
  have g1 := hF3.cell 1
  have g2 := hF3.cell 2
  have g3 := hF3.cell 3
  have g4 := hF3.cell 4
  have g5 := hF3.cell 5
  have g6 := hF3.cell 6
  have g7 := hF3.cell 7
  have g8 := hF3.cell 8
  have g9 := hF3.cell 9
  go_wp2_with fail
  go_ret
  exact ⟨rfl, below_tr hBW hb3⟩
end Go.Proofs.Ytilmmmokobhnfaa
