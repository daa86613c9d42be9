/-
  The walk of pods.Made: a workload's pod, its rows copied. (printed by wip/gen_made.py)
-/
import Derived.Test.YtilmmmokobhnfaaClone
import Derived.Test.YtilmmmokobhnfaaVars
namespace Go.Proofs.Ytilmmmokobhnfaa
open Go.RowKit Go.Proofs.Mem
set_option linter.unusedVariables false
set_option linter.unusedSimpArgs false
/-- A pod's block, whatever it holds. -/
def Zst (w : World) (g : Nat) : Prop := ∃ cs : Array Value, cs.size = 10 ∧ Bk w g 28 cs
theorem Zst.below {w w' : World} {g : Nat} (h : Zst w g) (hb : Below w.heap.size w w') : Zst w' g := by
  obtain ⟨cs, h1, h2⟩ := h
  exact ⟨cs, h1, h2.below' hb⟩
theorem Zst.set {w : World} {g : Nat} (h : Zst w g) (i : Nat) (u : Value) : Zst (w.setCell ⟨g, i, none⟩ u) g := by
  obtain ⟨cs, h1, h2⟩ := h
  exact ⟨_, by simpa using h1, h2.set i u⟩
theorem Zst.lt {w : World} {g : Nat} (h : Zst w g) : g < w.heap.size := by
  obtain ⟨cs, h1, h2⟩ := h
  exact h2.lt
theorem Zst.facts {w : World} {g : Nat} (h : Zst w g) : ∃ u0 u1 u2 u3 u4 u5 u6 u7 u8 u9 : Value, w.cell? ⟨g, 0, none⟩ = some u0 ∧ w.cell? ⟨g, 1, none⟩ = some u1 ∧ w.cell? ⟨g, 2, none⟩ = some u2 ∧ w.cell? ⟨g, 3, none⟩ = some u3 ∧ w.cell? ⟨g, 4, none⟩ = some u4 ∧ w.cell? ⟨g, 5, none⟩ = some u5 ∧ w.cell? ⟨g, 6, none⟩ = some u6 ∧ w.cell? ⟨g, 7, none⟩ = some u7 ∧ w.cell? ⟨g, 8, none⟩ = some u8 ∧ w.cell? ⟨g, 9, none⟩ = some u9 ∧ w.frozen? ⟨g, 0, none⟩ = false ∧ w.frozen? ⟨g, 1, none⟩ = false ∧ w.frozen? ⟨g, 2, none⟩ = false ∧ w.frozen? ⟨g, 3, none⟩ = false ∧ w.frozen? ⟨g, 4, none⟩ = false ∧ w.frozen? ⟨g, 5, none⟩ = false ∧ w.frozen? ⟨g, 6, none⟩ = false ∧ w.frozen? ⟨g, 7, none⟩ = false ∧ w.frozen? ⟨g, 8, none⟩ = false ∧ w.frozen? ⟨g, 9, none⟩ = false := by
  obtain ⟨cs, h1, h2⟩ := h
  have c0 := h2.cell 0
  rw [Array.getElem?_eq_getElem (by omega)] at c0
  have c1 := h2.cell 1
  rw [Array.getElem?_eq_getElem (by omega)] at c1
  have c2 := h2.cell 2
  rw [Array.getElem?_eq_getElem (by omega)] at c2
  have c3 := h2.cell 3
  rw [Array.getElem?_eq_getElem (by omega)] at c3
  have c4 := h2.cell 4
  rw [Array.getElem?_eq_getElem (by omega)] at c4
  have c5 := h2.cell 5
  rw [Array.getElem?_eq_getElem (by omega)] at c5
  have c6 := h2.cell 6
  rw [Array.getElem?_eq_getElem (by omega)] at c6
  have c7 := h2.cell 7
  rw [Array.getElem?_eq_getElem (by omega)] at c7
  have c8 := h2.cell 8
  rw [Array.getElem?_eq_getElem (by omega)] at c8
  have c9 := h2.cell 9
  rw [Array.getElem?_eq_getElem (by omega)] at c9
  exact ⟨_, _, _, _, _, _, _, _, _, _, c0, c1, c2, c3, c4, c5, c6, c7, c8, c9, h2.frozen 0, h2.frozen 1, h2.frozen 2, h2.frozen 3, h2.frozen 4, h2.frozen 5, h2.frozen 6, h2.frozen 7, h2.frozen 8, h2.frozen 9⟩
theorem keepM {b g : Nat} {cpu mem warm : Int} {lv sv tv : Value} {w w2 W2 : World} (hb : b < g)
    (h : w.cell? ⟨b, 1, none⟩ = some (.int .i64 cpu) ∧ w.cell? ⟨b, 2, none⟩ = some (.int .i64 mem) ∧ w.cell? ⟨b, 3, none⟩ = some (lv) ∧ w.cell? ⟨b, 4, none⟩ = some (sv) ∧ w.cell? ⟨b, 5, none⟩ = some (tv) ∧ w.cell? ⟨b, 6, none⟩ = some (.int .i64 warm) ∧ Zst w g ∧ Below g W2 w) (hB : Below w.heap.size w w2) :
    w2.cell? ⟨b, 1, none⟩ = some (.int .i64 cpu) ∧ w2.cell? ⟨b, 2, none⟩ = some (.int .i64 mem) ∧ w2.cell? ⟨b, 3, none⟩ = some (lv) ∧ w2.cell? ⟨b, 4, none⟩ = some (sv) ∧ w2.cell? ⟨b, 5, none⟩ = some (tv) ∧ w2.cell? ⟨b, 6, none⟩ = some (.int .i64 warm) ∧ Zst w2 g ∧ Below g W2 w2 := by
  obtain ⟨h0, h1, h2, h3, h4, h5, h6, h7⟩ := h
  have hg := h6.lt
  have e : ∀ k, w2.cell? ⟨b, k, none⟩ = w.cell? ⟨b, k, none⟩ := fun k => hB.cell (p := ⟨b, k, none⟩) (Nat.lt_trans hb hg)
  exact ⟨(e _).trans h0, (e _).trans h1, (e _).trans h2, (e _).trans h3, (e _).trans h4, (e _).trans h5, h6.below hB, h7.trans (hB.mono (Nat.le_of_lt hg))⟩
theorem keepSt {b g : Nat} {cpu mem warm : Int} {lv sv tv : Value} {w W2 : World} (hb : b < g) (i : Nat) (u : Value)
    (h : w.cell? ⟨b, 1, none⟩ = some (.int .i64 cpu) ∧ w.cell? ⟨b, 2, none⟩ = some (.int .i64 mem) ∧ w.cell? ⟨b, 3, none⟩ = some (lv) ∧ w.cell? ⟨b, 4, none⟩ = some (sv) ∧ w.cell? ⟨b, 5, none⟩ = some (tv) ∧ w.cell? ⟨b, 6, none⟩ = some (.int .i64 warm) ∧ Zst w g ∧ Below g W2 w) :
    (w.setCell ⟨g, i, none⟩ u).cell? ⟨b, 1, none⟩ = some (.int .i64 cpu) ∧ (w.setCell ⟨g, i, none⟩ u).cell? ⟨b, 2, none⟩ = some (.int .i64 mem) ∧ (w.setCell ⟨g, i, none⟩ u).cell? ⟨b, 3, none⟩ = some (lv) ∧ (w.setCell ⟨g, i, none⟩ u).cell? ⟨b, 4, none⟩ = some (sv) ∧ (w.setCell ⟨g, i, none⟩ u).cell? ⟨b, 5, none⟩ = some (tv) ∧ (w.setCell ⟨g, i, none⟩ u).cell? ⟨b, 6, none⟩ = some (.int .i64 warm) ∧ Zst (w.setCell ⟨g, i, none⟩ u) g ∧ Below g W2 (w.setCell ⟨g, i, none⟩ u) := by
  obtain ⟨h0, h1, h2, h3, h4, h5, h6, h7⟩ := h
  have e : ∀ k, (w.setCell ⟨g, i, none⟩ u).cell? ⟨b, k, none⟩ = w.cell? ⟨b, k, none⟩ := fun k => World.cell?_setCell_other (w := w) (a := ⟨g, i, none⟩) (v := u) (b := ⟨b, k, none⟩) (fun e => absurd (congrArg Addr.block e) (Nat.ne_of_gt hb))
  exact ⟨(e _).trans h0, (e _).trans h1, (e _).trans h2, (e _).trans h3, (e _).trans h4, (e _).trans h5, h6.set i u, h7.setCell (p := ⟨g, i, none⟩) (Nat.le_refl _) u⟩
set_option maxHeartbeats 4000000 in
set_option maxRecDepth 100000 in
theorem made_any (x : Wl) (owner : ByteArray) (now : Int) (w : World) (h : x.Ok w) :
    Calls Try.prog 19 #[.agg x.cells.toArray, .string owner, .int .i64 now] w fun e w' => ∃ v1 v2 v3,
      e = .returned (.agg (Pd.cells ⟨owner, ⟨#[]⟩, 0, now, x.cpu, x.mem, ⟨v1, x.labels.l⟩, ⟨v2, x.select.l⟩, ⟨v3, x.tolerate.l⟩, x.warm⟩).toArray) ∧
      w'.ownsRow w.heap.size 58 2 v1 x.labels.l.length (x.labels.l.flatMap Lab.cells) ∧ w'.ownsRow w.heap.size 60 3 v2 x.select.l.length (x.select.l.flatMap Req.cells) ∧ w'.ownsRow w.heap.size 58 2 v3 x.tolerate.l.length (x.tolerate.l.flatMap Lab.cells) ∧ Below w.heap.size w w' := by
  obtain ⟨replicas, cpu, mem, labels, select, tolerate, warm⟩ := x
  have C1 := Lib.hid (fun w1 (hb : Below w.heap.size w w1) => clab_any labels w1 (h.labels.below hb))
  have C2 := Lib.hid (fun w1 (hb : Below w.heap.size w w1) => creq_any select w1 (h.select.below hb))
  have C3 := Lib.hid (fun w1 (hb : Below w.heap.size w w1) => clab_any tolerate w1 (h.tolerate.below hb))
  clear h
  obtain ⟨lv, ll⟩ := labels
  obtain ⟨sv, sl⟩ := select
  obtain ⟨tv, tl⟩ := tolerate
  simp only [Wl.cells] at C1 C2 C3 ⊢
  have hk1 := Bk.new w 33 #[.int .i64 replicas, .int .i64 cpu, .int .i64 mem, lv, sv, tv, .int .i64 warm]
  obtain ⟨W1, hW1⟩ : ∃ W1, W1 = w.alloc (.cells #[.int .i64 replicas, .int .i64 cpu, .int .i64 mem, lv, sv, tv, .int .i64 warm] 33) := ⟨_, rfl⟩
  have hB1 : Below w.heap.size w W1 := by rw [hW1]; exact below_al _ _
  rw [← hW1] at hk1
  have hlt := hk1.lt
  have hk2 : Zst (W1.alloc (.cells #[.string ⟨#[]⟩, .string ⟨#[]⟩, .int .i64 0, .int .i64 0, .int .i64 0, .int .i64 0, .slice none 0 0, .slice none 0 0, .slice none 0 0, .int .i64 0] 28)) W1.heap.size := ⟨_, rfl, Bk.new W1 28 #[.string ⟨#[]⟩, .string ⟨#[]⟩, .int .i64 0, .int .i64 0, .int .i64 0, .int .i64 0, .slice none 0 0, .slice none 0 0, .slice none 0 0, .int .i64 0]⟩
  have hk1' := hk1.alloc (.cells #[.string ⟨#[]⟩, .string ⟨#[]⟩, .int .i64 0, .int .i64 0, .int .i64 0, .int .i64 0, .slice none 0 0, .slice none 0 0, .slice none 0 0, .int .i64 0] 28)
  obtain ⟨W2, hW2⟩ : ∃ W2, W2 = W1.alloc (.cells #[.string ⟨#[]⟩, .string ⟨#[]⟩, .int .i64 0, .int .i64 0, .int .i64 0, .int .i64 0, .slice none 0 0, .slice none 0 0, .slice none 0 0, .int .i64 0] 28) := ⟨_, rfl⟩
  have hB2 : Below w.heap.size w W2 := by rw [hW2]; exact hB1.alloc hB1.size _
  rw [← hW2] at hk2 hk1'
  go_enter Try.func19, Try.ntmps19
  go_wp2_with fail
  have hz1 : w.heap.size + 1 = W1.heap.size := by rw [hW1]; simp
  rw [← hW1, ← hW2, hz1]
  clear hz1
  generalize W1.heap.size = g at hk2 hlt ⊢
  clear hW1 hW2 hk1
  have hB0 := (Below.refl g W2).drew
  have c1 := hk1'.cell 1
  have c2 := hk1'.cell 2
  have c3 := hk1'.cell 3
  have c4 := hk1'.cell 4
  have c5 := hk1'.cell 5
  have c6 := hk1'.cell 6
  have hZ0 : Zst W2.drew g := hk2
  clear hk1' hk2
  go_region_held3 (fun w' => w'.cell? ⟨w.heap.size, 1, none⟩ = some (.int .i64 cpu) ∧ w'.cell? ⟨w.heap.size, 2, none⟩ = some (.int .i64 mem) ∧ w'.cell? ⟨w.heap.size, 3, none⟩ = some (lv) ∧ w'.cell? ⟨w.heap.size, 4, none⟩ = some (sv) ∧ w'.cell? ⟨w.heap.size, 5, none⟩ = some (tv) ∧ w'.cell? ⟨w.heap.size, 6, none⟩ = some (.int .i64 warm) ∧ Zst w' g ∧ Below g W2 w')
    (first | (with_reducible exact keepSt hlt _ _ (keepSt hlt _ _ (keepSt hlt _ _ (keepSt hlt _ _ (keepSt hlt _ _ (keepSt hlt _ _ (keepSt hlt _ _ (keepSt hlt _ _ (keepSt hlt _ _ (keepSt hlt _ _ (by assumption))))))))))) | (with_reducible exact keepM hlt (by assumption) hb9) | (exact ⟨c1, c2, c3, c4, c5, c6, hZ0, hB0⟩))
    (first
      | (go_at_call 62; refine (C1.out _ (hB2.trans (((by with_reducible assumption : _ ∧ _ ∧ _ ∧ _ ∧ _ ∧ _ ∧ Zst _ g ∧ Below g W2 _).2.2.2.2.2.2.2).mono (Nat.le_of_lt hlt)))).mono ?_; rintro e wa ⟨A1, k1, rfl, o1, hb9⟩; have hba := hb9; obtain ⟨u0, u1, u2, u3, u4, u5, u6, u7, u8, u9, z0, z1, z2, z3, z4, z5, z6, z7, z8, z9, f0, f1, f2, f3, f4, f5, f6, f7, f8, f9⟩ := (((by with_reducible assumption : _ ∧ _ ∧ _ ∧ _ ∧ _ ∧ _ ∧ Zst _ g ∧ Below g W2 _).2.2.2.2.2.2.1).below hb9).facts)
      | (go_at_call 62; refine (C3.out _ (hB2.trans (((by with_reducible assumption : _ ∧ _ ∧ _ ∧ _ ∧ _ ∧ _ ∧ Zst _ g ∧ Below g W2 _).2.2.2.2.2.2.2).mono (Nat.le_of_lt hlt)))).mono ?_; rintro e wc ⟨A3, k3, rfl, o3, hb9⟩; have hbc := hb9; have hZ9 := ((by with_reducible assumption : _ ∧ _ ∧ _ ∧ _ ∧ _ ∧ _ ∧ Zst _ g ∧ Below g W2 _).2.2.2.2.2.2.1).below hb9; have hBg := ((by with_reducible assumption : _ ∧ _ ∧ _ ∧ _ ∧ _ ∧ _ ∧ Zst _ g ∧ Below g W2 _).2.2.2.2.2.2.2).trans (hb9.mono (Nat.le_of_lt ((by with_reducible assumption : _ ∧ _ ∧ _ ∧ _ ∧ _ ∧ _ ∧ Zst _ g ∧ Below g W2 _).2.2.2.2.2.2.1).lt)); obtain ⟨u0, u1, u2, u3, u4, u5, u6, u7, u8, u9, z0, z1, z2, z3, z4, z5, z6, z7, z8, z9, f0, f1, f2, f3, f4, f5, f6, f7, f8, f9⟩ := (((by with_reducible assumption : _ ∧ _ ∧ _ ∧ _ ∧ _ ∧ _ ∧ Zst _ g ∧ Below g W2 _).2.2.2.2.2.2.1).below hb9).facts)
      | (go_at_call 63; refine (C2.out _ (hB2.trans (((by with_reducible assumption : _ ∧ _ ∧ _ ∧ _ ∧ _ ∧ _ ∧ Zst _ g ∧ Below g W2 _).2.2.2.2.2.2.2).mono (Nat.le_of_lt hlt)))).mono ?_; rintro e wb ⟨A2, k2, rfl, o2, hb9⟩; have hbb := hb9; obtain ⟨u0, u1, u2, u3, u4, u5, u6, u7, u8, u9, z0, z1, z2, z3, z4, z5, z6, z7, z8, z9, f0, f1, f2, f3, f4, f5, f6, f7, f8, f9⟩ := (((by with_reducible assumption : _ ∧ _ ∧ _ ∧ _ ∧ _ ∧ _ ∧ Zst _ g ∧ Below g W2 _).2.2.2.2.2.2.1).below hb9).facts))
  obtain ⟨cs, hcs, hbk⟩ := hZ9
  have hF := setCells_whole (cs := #[.string owner, .string ⟨#[]⟩, .int .i64 0, .int .i64 now, .int .i64 cpu, .int .i64 mem, .slice A1 ll.length k1, .slice A2 sl.length k2, .slice A3 tl.length k3, .int .i64 warm]) hbk (by rw [hcs]; rfl)
  have hlt9 : g < W2.drew.heap.size := hZ0.lt
  have O1 := own_sets_low hlt9 [.string owner, .string ⟨#[]⟩, .int .i64 0, .int .i64 now, .int .i64 cpu, .int .i64 mem, .slice A1 ll.length k1, .slice A2 sl.length k2, .slice A3 tl.length k3, .int .i64 warm] 0 (own_below (own_below o1 hbb) hbc)
  have O2 := own_sets_low (Nat.lt_of_lt_of_le hlt9 hba.size) [.string owner, .string ⟨#[]⟩, .int .i64 0, .int .i64 now, .int .i64 cpu, .int .i64 mem, .slice A1 ll.length k1, .slice A2 sl.length k2, .slice A3 tl.length k3, .int .i64 warm] 0 (own_below o2 hbc)
  have O3 := own_sets_low (Nat.lt_of_lt_of_le (Nat.lt_of_lt_of_le hlt9 hba.size) hbb.size) [.string owner, .string ⟨#[]⟩, .int .i64 0, .int .i64 now, .int .i64 cpu, .int .i64 mem, .slice A1 ll.length k1, .slice A2 sl.length k2, .slice A3 tl.length k3, .int .i64 warm] 0 o3
  have hBW := below_setCells [.string owner, .string ⟨#[]⟩, .int .i64 0, .int .i64 now, .int .i64 cpu, .int .i64 mem, .slice A1 ll.length k1, .slice A2 sl.length k2, .slice A3 tl.length k3, .int .i64 warm] 0 hBg (Nat.le_refl g)
  have s0 : w.heap.size ≤ W2.drew.heap.size := Nat.le_of_lt (Nat.lt_trans hlt hlt9)
  have O1' := own_mono O1 s0
  have O2' := own_mono O2 (Nat.le_trans s0 hba.size)
  have O3' := own_mono O3 (Nat.le_trans (Nat.le_trans s0 hba.size) hbb.size)
  have hBF := hB2.trans (hBW.mono (Nat.le_of_lt hlt))
  clear O1 O2 O3 hBW
  change Exit.then _ _ _ _ (wc.setCells g 0 [.string owner, .string ⟨#[]⟩, .int .i64 0, .int .i64 now, .int .i64 cpu, .int .i64 mem, .slice A1 ll.length k1, .slice A2 sl.length k2, .slice A3 tl.length k3, .int .i64 warm])
  simp only at hF
  generalize wc.setCells g 0 [.string owner, .string ⟨#[]⟩, .int .i64 0, .int .i64 now, .int .i64 cpu, .int .i64 mem, .slice A1 ll.length k1, .slice A2 sl.length k2, .slice A3 tl.length k3, .int .i64 warm] = wF at hF O1' O2' O3' hBF ⊢
  clear hbk hBg hba hbb hbc hb9 o1 o2 o3 hZ0 hB0 hB1 hB2 C1 C2 C3 c1 c2 c3 c4 c5 c6
  have y0 := hF.cell 0
  have y1 := hF.cell 1
  have y2 := hF.cell 2
  have y3 := hF.cell 3
  have y4 := hF.cell 4
  have y5 := hF.cell 5
  have y6 := hF.cell 6
  have y7 := hF.cell 7
  have y8 := hF.cell 8
  have y9 := hF.cell 9
  clear hF
  go_wp2_with fail
  refine bodyPost_ret (v := .agg #[.string owner, .string ⟨#[]⟩, .int .i64 0, .int .i64 now, .int .i64 cpu, .int .i64 mem, .slice A1 ll.length k1, .slice A2 sl.length k2, .slice A3 tl.length k3, .int .i64 warm]) (by simp [results, Try.results19, go_sem, y0, y1, y2, y3, y4, y5, y6, y7, y8, y9]) rfl ?_
  exact ⟨_, _, _, rfl, O1', O2', O3', hBF⟩
end Go.Proofs.Ytilmmmokobhnfaa
