/-
  The walk of trimtabref06.Short at workloads, pods, nodes, groups. (printed by wip/gen_obj.py)
-/
import Derived.Test.YthdjfcfbmmmmcaaShort
namespace Go.Proofs.Ythdjfcfbmmmmcaa
open Go.RowKit Go.Proofs.Mem
set_option linter.unusedVariables false
set_option linter.unusedSimpArgs false
def wlSh (x : Wl) : Bool := shlL x.labels.l && (shaL x.select.l && (shlL x.tolerate.l))
set_option maxHeartbeats 4000000 in
set_option maxRecDepth 100000 in
theorem short_wl (o : Ob) (w : World) (hk : o.kind = 0) (ho : o.w.Ok w) (hnm : wfs o.name) :
    Calls Try.prog 13 #[.agg o.cells.toArray] w fun e w' => e = .returned (.bool (decide (o.name.size ≤ 255) && wlSh o.w)) ∧ Below w.heap.size w w' := by
  obtain ⟨kind, name, version, ⟨w0, w1, w2, w3, w4, w5, w6⟩, ⟨p0, p1, p2, p3, p4, p5, p6, p7, p8, p9⟩, ⟨n0, n1, n2, n3, n4, n5, n6⟩, ⟨g0, g1, g2, g3, g4, g5, g6, g7⟩, ⟨h0, h1, h2, h3, h4, ⟨h5, h6, h7⟩, ⟨h8, h9, h10⟩, h11⟩⟩ := o
  simp only at hk hnm
  subst hk
  obtain ⟨q, hq⟩ : ∃ q, q = (decide (name.size ≤ 255) && wlSh ⟨w0, w1, w2, w3, w4, w5, w6⟩) := ⟨_, rfl⟩
  try simp only
  rw [← hq]
  obtain ⟨_, _, _, ow3, ow4, ow5, _⟩ := ho
  simp only at ow3 ow4 ow5
  obtain ⟨w3v, w3l⟩ := w3
  obtain ⟨Aw3, cw3, ew3, _⟩ := id ow3.1
  have ew3 : w3v = .slice Aw3 w3l.length cw3 := ew3
  subst ew3
  have Cw3 : Hid (∀ w1, Below w.heap.size w w1 → Calls Try.prog 26 #[.slice Aw3 w3l.length cw3] w1 fun e w' => e = .returned (.bool (shlL w3l)) ∧ Below w1.heap.size w1 w') := Lib.hid (fun w1 hb => shl_any ⟨_, w3l⟩ w1 (ow3.below hb))
  clear ow3
  obtain ⟨w4v, w4l⟩ := w4
  obtain ⟨Aw4, cw4, ew4, _⟩ := id ow4.1
  have ew4 : w4v = .slice Aw4 w4l.length cw4 := ew4
  subst ew4
  have Cw4 : Hid (∀ w1, Below w.heap.size w w1 → Calls Try.prog 27 #[.slice Aw4 w4l.length cw4] w1 fun e w' => e = .returned (.bool (shaL w4l)) ∧ Below w1.heap.size w1 w') := Lib.hid (fun w1 hb => sha_any ⟨_, w4l⟩ w1 (ow4.below hb))
  clear ow4
  obtain ⟨w5v, w5l⟩ := w5
  obtain ⟨Aw5, cw5, ew5, _⟩ := id ow5.1
  have ew5 : w5v = .slice Aw5 w5l.length cw5 := ew5
  subst ew5
  have Cw5 : Hid (∀ w1, Below w.heap.size w w1 → Calls Try.prog 26 #[.slice Aw5 w5l.length cw5] w1 fun e w' => e = .returned (.bool (shlL w5l)) ∧ Below w1.heap.size w1 w') := Lib.hid (fun w1 hb => shl_any ⟨_, w5l⟩ w1 (ow5.below hb))
  clear ow5
  have HQ : Hid (q = (decide (name.size ≤ 255) && (shlL w3l && (shaL w4l && (shlL w5l))))) := Lib.hid hq
  clear hq
  unfold wfs reachBytes at hnm
  simp only [Ob.cells, Wl.cells, Pd.cells, Nd.cells, Gr.cells, Hp.cells, List.cons_append, List.nil_append]
  have hkb := Bk.new w 48 #[.int .i64 0, .string name, .int .u64 version, .int .i64 w0, .int .i64 w1, .int .i64 w2, .slice Aw3 w3l.length cw3, .slice Aw4 w4l.length cw4, .slice Aw5 w5l.length cw5, .int .i64 w6, .string p0, .string p1, .int .i64 p2, .int .i64 p3, .int .i64 p4, .int .i64 p5, p6.v, p7.v, p8.v, .int .i64 p9, .string n0, .int .i64 n1, .int .i64 n2, n3.v, n4.v, .int .i64 n5, .bool n6, .int .i64 g0, .int .i64 g1, .int .i64 g2, .int .i64 g3, .int .i64 g4, g5.v, g6.v, .int .i64 g7, .string h0, .int .i64 h1, .int .i64 h2, h3.v, .int .i64 h4, .int .i64 h5, .int .i64 h6, h7.v, .int .i64 h8, .int .i64 h9, h10.v, h11.v]
  by_cases sN : name.size ≤ 255
  · have sNI : ((name.size : Nat) : Int) ≤ 255 := by omega
    cases b0 : shlL w3l
    · have HF : Hid (q = false) := Lib.hid (by rw [HQ.out]; simp [sN, b0])
      rw [b0] at Cw3
      clear HQ b0
      go_enter Try.func13, Try.ntmps13
      go_wp2_with fail
      refine (Cw3.out _ (below_al w _)).mono ?_
      rintro e v0 ⟨rfl, hb0⟩
      have hP0 := below_tr (below_al w _) hb0
      have hk0 := hkb.below' hb0
      have c0_3 : v0.cell? ⟨w.heap.size, 3, none⟩ = some (.int .i64 w0) := hk0.cell 3
      have c0_4 : v0.cell? ⟨w.heap.size, 4, none⟩ = some (.int .i64 w1) := hk0.cell 4
      have c0_5 : v0.cell? ⟨w.heap.size, 5, none⟩ = some (.int .i64 w2) := hk0.cell 5
      have c0_6 : v0.cell? ⟨w.heap.size, 6, none⟩ = some (.slice Aw3 w3l.length cw3) := hk0.cell 6
      have c0_7 : v0.cell? ⟨w.heap.size, 7, none⟩ = some (.slice Aw4 w4l.length cw4) := hk0.cell 7
      have c0_8 : v0.cell? ⟨w.heap.size, 8, none⟩ = some (.slice Aw5 w5l.length cw5) := hk0.cell 8
      have c0_9 : v0.cell? ⟨w.heap.size, 9, none⟩ = some (.int .i64 w6) := hk0.cell 9
      go_wp2_with fail
      go_ret
      exact ⟨by rw [HF.out]; rfl, hP0⟩
    · cases b1 : shaL w4l
      · have HF : Hid (q = false) := Lib.hid (by rw [HQ.out]; simp [sN, b0, b1])
        rw [b0] at Cw3
        rw [b1] at Cw4
        clear HQ b0 b1
        go_enter Try.func13, Try.ntmps13
        go_wp2_with fail
        refine (Cw3.out _ (below_al w _)).mono ?_
        rintro e v0 ⟨rfl, hb0⟩
        have hP0 := below_tr (below_al w _) hb0
        have hk0 := hkb.below' hb0
        have c0_3 : v0.cell? ⟨w.heap.size, 3, none⟩ = some (.int .i64 w0) := hk0.cell 3
        have c0_4 : v0.cell? ⟨w.heap.size, 4, none⟩ = some (.int .i64 w1) := hk0.cell 4
        have c0_5 : v0.cell? ⟨w.heap.size, 5, none⟩ = some (.int .i64 w2) := hk0.cell 5
        have c0_6 : v0.cell? ⟨w.heap.size, 6, none⟩ = some (.slice Aw3 w3l.length cw3) := hk0.cell 6
        have c0_7 : v0.cell? ⟨w.heap.size, 7, none⟩ = some (.slice Aw4 w4l.length cw4) := hk0.cell 7
        have c0_8 : v0.cell? ⟨w.heap.size, 8, none⟩ = some (.slice Aw5 w5l.length cw5) := hk0.cell 8
        have c0_9 : v0.cell? ⟨w.heap.size, 9, none⟩ = some (.int .i64 w6) := hk0.cell 9
        go_wp2_with fail
        refine (Cw4.out _ hP0).mono ?_
        rintro e v1 ⟨rfl, hb1⟩
        have hP1 := below_tr hP0 hb1
        have hk1 := hk0.below' hb1
        have c1_3 : v1.cell? ⟨w.heap.size, 3, none⟩ = some (.int .i64 w0) := hk1.cell 3
        have c1_4 : v1.cell? ⟨w.heap.size, 4, none⟩ = some (.int .i64 w1) := hk1.cell 4
        have c1_5 : v1.cell? ⟨w.heap.size, 5, none⟩ = some (.int .i64 w2) := hk1.cell 5
        have c1_6 : v1.cell? ⟨w.heap.size, 6, none⟩ = some (.slice Aw3 w3l.length cw3) := hk1.cell 6
        have c1_7 : v1.cell? ⟨w.heap.size, 7, none⟩ = some (.slice Aw4 w4l.length cw4) := hk1.cell 7
        have c1_8 : v1.cell? ⟨w.heap.size, 8, none⟩ = some (.slice Aw5 w5l.length cw5) := hk1.cell 8
        have c1_9 : v1.cell? ⟨w.heap.size, 9, none⟩ = some (.int .i64 w6) := hk1.cell 9
        go_wp2_with fail
        go_ret
        exact ⟨by rw [HF.out]; rfl, hP1⟩
      · cases b2 : shlL w5l
        · have HF : Hid (q = false) := Lib.hid (by rw [HQ.out]; simp [sN, b0, b1, b2])
          rw [b0] at Cw3
          rw [b1] at Cw4
          rw [b2] at Cw5
          clear HQ b0 b1 b2
          go_enter Try.func13, Try.ntmps13
          go_wp2_with fail
          refine (Cw3.out _ (below_al w _)).mono ?_
          rintro e v0 ⟨rfl, hb0⟩
          have hP0 := below_tr (below_al w _) hb0
          have hk0 := hkb.below' hb0
          have c0_3 : v0.cell? ⟨w.heap.size, 3, none⟩ = some (.int .i64 w0) := hk0.cell 3
          have c0_4 : v0.cell? ⟨w.heap.size, 4, none⟩ = some (.int .i64 w1) := hk0.cell 4
          have c0_5 : v0.cell? ⟨w.heap.size, 5, none⟩ = some (.int .i64 w2) := hk0.cell 5
          have c0_6 : v0.cell? ⟨w.heap.size, 6, none⟩ = some (.slice Aw3 w3l.length cw3) := hk0.cell 6
          have c0_7 : v0.cell? ⟨w.heap.size, 7, none⟩ = some (.slice Aw4 w4l.length cw4) := hk0.cell 7
          have c0_8 : v0.cell? ⟨w.heap.size, 8, none⟩ = some (.slice Aw5 w5l.length cw5) := hk0.cell 8
          have c0_9 : v0.cell? ⟨w.heap.size, 9, none⟩ = some (.int .i64 w6) := hk0.cell 9
          go_wp2_with fail
          refine (Cw4.out _ hP0).mono ?_
          rintro e v1 ⟨rfl, hb1⟩
          have hP1 := below_tr hP0 hb1
          have hk1 := hk0.below' hb1
          have c1_3 : v1.cell? ⟨w.heap.size, 3, none⟩ = some (.int .i64 w0) := hk1.cell 3
          have c1_4 : v1.cell? ⟨w.heap.size, 4, none⟩ = some (.int .i64 w1) := hk1.cell 4
          have c1_5 : v1.cell? ⟨w.heap.size, 5, none⟩ = some (.int .i64 w2) := hk1.cell 5
          have c1_6 : v1.cell? ⟨w.heap.size, 6, none⟩ = some (.slice Aw3 w3l.length cw3) := hk1.cell 6
          have c1_7 : v1.cell? ⟨w.heap.size, 7, none⟩ = some (.slice Aw4 w4l.length cw4) := hk1.cell 7
          have c1_8 : v1.cell? ⟨w.heap.size, 8, none⟩ = some (.slice Aw5 w5l.length cw5) := hk1.cell 8
          have c1_9 : v1.cell? ⟨w.heap.size, 9, none⟩ = some (.int .i64 w6) := hk1.cell 9
          go_wp2_with fail
          refine (Cw5.out _ hP1).mono ?_
          rintro e v2 ⟨rfl, hb2⟩
          have hP2 := below_tr hP1 hb2
          have hk2 := hk1.below' hb2
          have c2_3 : v2.cell? ⟨w.heap.size, 3, none⟩ = some (.int .i64 w0) := hk2.cell 3
          have c2_4 : v2.cell? ⟨w.heap.size, 4, none⟩ = some (.int .i64 w1) := hk2.cell 4
          have c2_5 : v2.cell? ⟨w.heap.size, 5, none⟩ = some (.int .i64 w2) := hk2.cell 5
          have c2_6 : v2.cell? ⟨w.heap.size, 6, none⟩ = some (.slice Aw3 w3l.length cw3) := hk2.cell 6
          have c2_7 : v2.cell? ⟨w.heap.size, 7, none⟩ = some (.slice Aw4 w4l.length cw4) := hk2.cell 7
          have c2_8 : v2.cell? ⟨w.heap.size, 8, none⟩ = some (.slice Aw5 w5l.length cw5) := hk2.cell 8
          have c2_9 : v2.cell? ⟨w.heap.size, 9, none⟩ = some (.int .i64 w6) := hk2.cell 9
          go_wp2_with fail
          go_ret
          exact ⟨by rw [HF.out]; rfl, hP2⟩
        · have HF : Hid (q = true) := Lib.hid (by rw [HQ.out]; simp [sN, b0, b1, b2])
          rw [b0] at Cw3
          rw [b1] at Cw4
          rw [b2] at Cw5
          clear HQ b0 b1 b2
          go_enter Try.func13, Try.ntmps13
          go_wp2_with fail
          refine (Cw3.out _ (below_al w _)).mono ?_
          rintro e v0 ⟨rfl, hb0⟩
          have hP0 := below_tr (below_al w _) hb0
          have hk0 := hkb.below' hb0
          have c0_3 : v0.cell? ⟨w.heap.size, 3, none⟩ = some (.int .i64 w0) := hk0.cell 3
          have c0_4 : v0.cell? ⟨w.heap.size, 4, none⟩ = some (.int .i64 w1) := hk0.cell 4
          have c0_5 : v0.cell? ⟨w.heap.size, 5, none⟩ = some (.int .i64 w2) := hk0.cell 5
          have c0_6 : v0.cell? ⟨w.heap.size, 6, none⟩ = some (.slice Aw3 w3l.length cw3) := hk0.cell 6
          have c0_7 : v0.cell? ⟨w.heap.size, 7, none⟩ = some (.slice Aw4 w4l.length cw4) := hk0.cell 7
          have c0_8 : v0.cell? ⟨w.heap.size, 8, none⟩ = some (.slice Aw5 w5l.length cw5) := hk0.cell 8
          have c0_9 : v0.cell? ⟨w.heap.size, 9, none⟩ = some (.int .i64 w6) := hk0.cell 9
          go_wp2_with fail
          refine (Cw4.out _ hP0).mono ?_
          rintro e v1 ⟨rfl, hb1⟩
          have hP1 := below_tr hP0 hb1
          have hk1 := hk0.below' hb1
          have c1_3 : v1.cell? ⟨w.heap.size, 3, none⟩ = some (.int .i64 w0) := hk1.cell 3
          have c1_4 : v1.cell? ⟨w.heap.size, 4, none⟩ = some (.int .i64 w1) := hk1.cell 4
          have c1_5 : v1.cell? ⟨w.heap.size, 5, none⟩ = some (.int .i64 w2) := hk1.cell 5
          have c1_6 : v1.cell? ⟨w.heap.size, 6, none⟩ = some (.slice Aw3 w3l.length cw3) := hk1.cell 6
          have c1_7 : v1.cell? ⟨w.heap.size, 7, none⟩ = some (.slice Aw4 w4l.length cw4) := hk1.cell 7
          have c1_8 : v1.cell? ⟨w.heap.size, 8, none⟩ = some (.slice Aw5 w5l.length cw5) := hk1.cell 8
          have c1_9 : v1.cell? ⟨w.heap.size, 9, none⟩ = some (.int .i64 w6) := hk1.cell 9
          go_wp2_with fail
          refine (Cw5.out _ hP1).mono ?_
          rintro e v2 ⟨rfl, hb2⟩
          have hP2 := below_tr hP1 hb2
          have hk2 := hk1.below' hb2
          have c2_3 : v2.cell? ⟨w.heap.size, 3, none⟩ = some (.int .i64 w0) := hk2.cell 3
          have c2_4 : v2.cell? ⟨w.heap.size, 4, none⟩ = some (.int .i64 w1) := hk2.cell 4
          have c2_5 : v2.cell? ⟨w.heap.size, 5, none⟩ = some (.int .i64 w2) := hk2.cell 5
          have c2_6 : v2.cell? ⟨w.heap.size, 6, none⟩ = some (.slice Aw3 w3l.length cw3) := hk2.cell 6
          have c2_7 : v2.cell? ⟨w.heap.size, 7, none⟩ = some (.slice Aw4 w4l.length cw4) := hk2.cell 7
          have c2_8 : v2.cell? ⟨w.heap.size, 8, none⟩ = some (.slice Aw5 w5l.length cw5) := hk2.cell 8
          have c2_9 : v2.cell? ⟨w.heap.size, 9, none⟩ = some (.int .i64 w6) := hk2.cell 9
          go_wp2_with fail
          go_ret
          exact ⟨by rw [HF.out]; rfl, hP2⟩
  · have sNI : (255 : Int) < ((name.size : Nat) : Int) := by omega
    have HF : Hid (q = false) := Lib.hid (by rw [HQ.out]; simp [sN])
    clear HQ 
    go_enter Try.func13, Try.ntmps13
    go_wp2_with fail
    go_ret
    exact ⟨by rw [HF.out]; rfl, (below_al w _)⟩
def pdSh (x : Pd) : Bool := decide (x.owner.size ≤ 255) && (decide (x.node.size ≤ 255) && (shlL x.labels.l && (shaL x.select.l && (shlL x.tolerate.l))))
set_option maxHeartbeats 4000000 in
set_option maxRecDepth 100000 in
theorem short_pd (o : Ob) (w : World) (hk : o.kind = 1) (ho : o.p.Ok w) (hnm : wfs o.name) :
    Calls Try.prog 13 #[.agg o.cells.toArray] w fun e w' => e = .returned (.bool (decide (o.name.size ≤ 255) && pdSh o.p)) ∧ Below w.heap.size w w' := by
  obtain ⟨kind, name, version, ⟨w0, w1, w2, w3, w4, w5, w6⟩, ⟨p0, p1, p2, p3, p4, p5, p6, p7, p8, p9⟩, ⟨n0, n1, n2, n3, n4, n5, n6⟩, ⟨g0, g1, g2, g3, g4, g5, g6, g7⟩, ⟨h0, h1, h2, h3, h4, ⟨h5, h6, h7⟩, ⟨h8, h9, h10⟩, h11⟩⟩ := o
  simp only at hk hnm
  subst hk
  obtain ⟨q, hq⟩ : ∃ q, q = (decide (name.size ≤ 255) && pdSh ⟨p0, p1, p2, p3, p4, p5, p6, p7, p8, p9⟩) := ⟨_, rfl⟩
  try simp only
  rw [← hq]
  obtain ⟨up0, up1, _, _, _, _, op6, op7, op8, _⟩ := ho
  simp only at up0 up1 op6 op7 op8
  obtain ⟨p6v, p6l⟩ := p6
  obtain ⟨Ap6, cp6, ep6, _⟩ := id op6.1
  have ep6 : p6v = .slice Ap6 p6l.length cp6 := ep6
  subst ep6
  have Cp6 : Hid (∀ w1, Below w.heap.size w w1 → Calls Try.prog 26 #[.slice Ap6 p6l.length cp6] w1 fun e w' => e = .returned (.bool (shlL p6l)) ∧ Below w1.heap.size w1 w') := Lib.hid (fun w1 hb => shl_any ⟨_, p6l⟩ w1 (op6.below hb))
  clear op6
  obtain ⟨p7v, p7l⟩ := p7
  obtain ⟨Ap7, cp7, ep7, _⟩ := id op7.1
  have ep7 : p7v = .slice Ap7 p7l.length cp7 := ep7
  subst ep7
  have Cp7 : Hid (∀ w1, Below w.heap.size w w1 → Calls Try.prog 27 #[.slice Ap7 p7l.length cp7] w1 fun e w' => e = .returned (.bool (shaL p7l)) ∧ Below w1.heap.size w1 w') := Lib.hid (fun w1 hb => sha_any ⟨_, p7l⟩ w1 (op7.below hb))
  clear op7
  obtain ⟨p8v, p8l⟩ := p8
  obtain ⟨Ap8, cp8, ep8, _⟩ := id op8.1
  have ep8 : p8v = .slice Ap8 p8l.length cp8 := ep8
  subst ep8
  have Cp8 : Hid (∀ w1, Below w.heap.size w w1 → Calls Try.prog 26 #[.slice Ap8 p8l.length cp8] w1 fun e w' => e = .returned (.bool (shlL p8l)) ∧ Below w1.heap.size w1 w') := Lib.hid (fun w1 hb => shl_any ⟨_, p8l⟩ w1 (op8.below hb))
  clear op8
  have HQ : Hid (q = (decide (name.size ≤ 255) && (decide (p0.size ≤ 255) && (decide (p1.size ≤ 255) && (shlL p6l && (shaL p7l && (shlL p8l))))))) := Lib.hid hq
  clear hq
  unfold wfs reachBytes at hnm
  unfold wfs reachBytes at up0
  unfold wfs reachBytes at up1
  simp only [Ob.cells, Wl.cells, Pd.cells, Nd.cells, Gr.cells, Hp.cells, List.cons_append, List.nil_append]
  have hkb := Bk.new w 48 #[.int .i64 1, .string name, .int .u64 version, .int .i64 w0, .int .i64 w1, .int .i64 w2, w3.v, w4.v, w5.v, .int .i64 w6, .string p0, .string p1, .int .i64 p2, .int .i64 p3, .int .i64 p4, .int .i64 p5, .slice Ap6 p6l.length cp6, .slice Ap7 p7l.length cp7, .slice Ap8 p8l.length cp8, .int .i64 p9, .string n0, .int .i64 n1, .int .i64 n2, n3.v, n4.v, .int .i64 n5, .bool n6, .int .i64 g0, .int .i64 g1, .int .i64 g2, .int .i64 g3, .int .i64 g4, g5.v, g6.v, .int .i64 g7, .string h0, .int .i64 h1, .int .i64 h2, h3.v, .int .i64 h4, .int .i64 h5, .int .i64 h6, h7.v, .int .i64 h8, .int .i64 h9, h10.v, h11.v]
  by_cases sN : name.size ≤ 255
  · have sNI : ((name.size : Nat) : Int) ≤ 255 := by omega
    by_cases b0 : p0.size ≤ 255
    · by_cases b1 : p1.size ≤ 255
      · cases b2 : shlL p6l
        · have HF : Hid (q = false) := Lib.hid (by rw [HQ.out]; simp [sN, b0, b1, b2])
          rw [b2] at Cp6
          clear HQ b2
          have B0 : ((p0.size : Nat) : Int) ≤ 255 := by omega
          have B1 : ((p1.size : Nat) : Int) ≤ 255 := by omega
          go_enter Try.func13, Try.ntmps13
          go_wp2_with fail
          refine (Cp6.out _ (below_al w _)).mono ?_
          rintro e v0 ⟨rfl, hb0⟩
          have hP0 := below_tr (below_al w _) hb0
          have hk0 := hkb.below' hb0
          have c0_10 : v0.cell? ⟨w.heap.size, 10, none⟩ = some (.string p0) := hk0.cell 10
          have c0_11 : v0.cell? ⟨w.heap.size, 11, none⟩ = some (.string p1) := hk0.cell 11
          have c0_12 : v0.cell? ⟨w.heap.size, 12, none⟩ = some (.int .i64 p2) := hk0.cell 12
          have c0_13 : v0.cell? ⟨w.heap.size, 13, none⟩ = some (.int .i64 p3) := hk0.cell 13
          have c0_14 : v0.cell? ⟨w.heap.size, 14, none⟩ = some (.int .i64 p4) := hk0.cell 14
          have c0_15 : v0.cell? ⟨w.heap.size, 15, none⟩ = some (.int .i64 p5) := hk0.cell 15
          have c0_16 : v0.cell? ⟨w.heap.size, 16, none⟩ = some (.slice Ap6 p6l.length cp6) := hk0.cell 16
          have c0_17 : v0.cell? ⟨w.heap.size, 17, none⟩ = some (.slice Ap7 p7l.length cp7) := hk0.cell 17
          have c0_18 : v0.cell? ⟨w.heap.size, 18, none⟩ = some (.slice Ap8 p8l.length cp8) := hk0.cell 18
          have c0_19 : v0.cell? ⟨w.heap.size, 19, none⟩ = some (.int .i64 p9) := hk0.cell 19
          go_wp2_with fail
          go_ret
          exact ⟨by rw [HF.out]; rfl, hP0⟩
        · cases b3 : shaL p7l
          · have HF : Hid (q = false) := Lib.hid (by rw [HQ.out]; simp [sN, b0, b1, b2, b3])
            rw [b2] at Cp6
            rw [b3] at Cp7
            clear HQ b2 b3
            have B0 : ((p0.size : Nat) : Int) ≤ 255 := by omega
            have B1 : ((p1.size : Nat) : Int) ≤ 255 := by omega
            go_enter Try.func13, Try.ntmps13
            go_wp2_with fail
            refine (Cp6.out _ (below_al w _)).mono ?_
            rintro e v0 ⟨rfl, hb0⟩
            have hP0 := below_tr (below_al w _) hb0
            have hk0 := hkb.below' hb0
            have c0_10 : v0.cell? ⟨w.heap.size, 10, none⟩ = some (.string p0) := hk0.cell 10
            have c0_11 : v0.cell? ⟨w.heap.size, 11, none⟩ = some (.string p1) := hk0.cell 11
            have c0_12 : v0.cell? ⟨w.heap.size, 12, none⟩ = some (.int .i64 p2) := hk0.cell 12
            have c0_13 : v0.cell? ⟨w.heap.size, 13, none⟩ = some (.int .i64 p3) := hk0.cell 13
            have c0_14 : v0.cell? ⟨w.heap.size, 14, none⟩ = some (.int .i64 p4) := hk0.cell 14
            have c0_15 : v0.cell? ⟨w.heap.size, 15, none⟩ = some (.int .i64 p5) := hk0.cell 15
            have c0_16 : v0.cell? ⟨w.heap.size, 16, none⟩ = some (.slice Ap6 p6l.length cp6) := hk0.cell 16
            have c0_17 : v0.cell? ⟨w.heap.size, 17, none⟩ = some (.slice Ap7 p7l.length cp7) := hk0.cell 17
            have c0_18 : v0.cell? ⟨w.heap.size, 18, none⟩ = some (.slice Ap8 p8l.length cp8) := hk0.cell 18
            have c0_19 : v0.cell? ⟨w.heap.size, 19, none⟩ = some (.int .i64 p9) := hk0.cell 19
            go_wp2_with fail
            refine (Cp7.out _ hP0).mono ?_
            rintro e v1 ⟨rfl, hb1⟩
            have hP1 := below_tr hP0 hb1
            have hk1 := hk0.below' hb1
            have c1_10 : v1.cell? ⟨w.heap.size, 10, none⟩ = some (.string p0) := hk1.cell 10
            have c1_11 : v1.cell? ⟨w.heap.size, 11, none⟩ = some (.string p1) := hk1.cell 11
            have c1_12 : v1.cell? ⟨w.heap.size, 12, none⟩ = some (.int .i64 p2) := hk1.cell 12
            have c1_13 : v1.cell? ⟨w.heap.size, 13, none⟩ = some (.int .i64 p3) := hk1.cell 13
            have c1_14 : v1.cell? ⟨w.heap.size, 14, none⟩ = some (.int .i64 p4) := hk1.cell 14
            have c1_15 : v1.cell? ⟨w.heap.size, 15, none⟩ = some (.int .i64 p5) := hk1.cell 15
            have c1_16 : v1.cell? ⟨w.heap.size, 16, none⟩ = some (.slice Ap6 p6l.length cp6) := hk1.cell 16
            have c1_17 : v1.cell? ⟨w.heap.size, 17, none⟩ = some (.slice Ap7 p7l.length cp7) := hk1.cell 17
            have c1_18 : v1.cell? ⟨w.heap.size, 18, none⟩ = some (.slice Ap8 p8l.length cp8) := hk1.cell 18
            have c1_19 : v1.cell? ⟨w.heap.size, 19, none⟩ = some (.int .i64 p9) := hk1.cell 19
            go_wp2_with fail
            go_ret
            exact ⟨by rw [HF.out]; rfl, hP1⟩
          · cases b4 : shlL p8l
            · have HF : Hid (q = false) := Lib.hid (by rw [HQ.out]; simp [sN, b0, b1, b2, b3, b4])
              rw [b2] at Cp6
              rw [b3] at Cp7
              rw [b4] at Cp8
              clear HQ b2 b3 b4
              have B0 : ((p0.size : Nat) : Int) ≤ 255 := by omega
              have B1 : ((p1.size : Nat) : Int) ≤ 255 := by omega
              go_enter Try.func13, Try.ntmps13
              go_wp2_with fail
              refine (Cp6.out _ (below_al w _)).mono ?_
              rintro e v0 ⟨rfl, hb0⟩
              have hP0 := below_tr (below_al w _) hb0
              have hk0 := hkb.below' hb0
              have c0_10 : v0.cell? ⟨w.heap.size, 10, none⟩ = some (.string p0) := hk0.cell 10
              have c0_11 : v0.cell? ⟨w.heap.size, 11, none⟩ = some (.string p1) := hk0.cell 11
              have c0_12 : v0.cell? ⟨w.heap.size, 12, none⟩ = some (.int .i64 p2) := hk0.cell 12
              have c0_13 : v0.cell? ⟨w.heap.size, 13, none⟩ = some (.int .i64 p3) := hk0.cell 13
              have c0_14 : v0.cell? ⟨w.heap.size, 14, none⟩ = some (.int .i64 p4) := hk0.cell 14
              have c0_15 : v0.cell? ⟨w.heap.size, 15, none⟩ = some (.int .i64 p5) := hk0.cell 15
              have c0_16 : v0.cell? ⟨w.heap.size, 16, none⟩ = some (.slice Ap6 p6l.length cp6) := hk0.cell 16
              have c0_17 : v0.cell? ⟨w.heap.size, 17, none⟩ = some (.slice Ap7 p7l.length cp7) := hk0.cell 17
              have c0_18 : v0.cell? ⟨w.heap.size, 18, none⟩ = some (.slice Ap8 p8l.length cp8) := hk0.cell 18
              have c0_19 : v0.cell? ⟨w.heap.size, 19, none⟩ = some (.int .i64 p9) := hk0.cell 19
              go_wp2_with fail
              refine (Cp7.out _ hP0).mono ?_
              rintro e v1 ⟨rfl, hb1⟩
              have hP1 := below_tr hP0 hb1
              have hk1 := hk0.below' hb1
              have c1_10 : v1.cell? ⟨w.heap.size, 10, none⟩ = some (.string p0) := hk1.cell 10
              have c1_11 : v1.cell? ⟨w.heap.size, 11, none⟩ = some (.string p1) := hk1.cell 11
              have c1_12 : v1.cell? ⟨w.heap.size, 12, none⟩ = some (.int .i64 p2) := hk1.cell 12
              have c1_13 : v1.cell? ⟨w.heap.size, 13, none⟩ = some (.int .i64 p3) := hk1.cell 13
              have c1_14 : v1.cell? ⟨w.heap.size, 14, none⟩ = some (.int .i64 p4) := hk1.cell 14
              have c1_15 : v1.cell? ⟨w.heap.size, 15, none⟩ = some (.int .i64 p5) := hk1.cell 15
              have c1_16 : v1.cell? ⟨w.heap.size, 16, none⟩ = some (.slice Ap6 p6l.length cp6) := hk1.cell 16
              have c1_17 : v1.cell? ⟨w.heap.size, 17, none⟩ = some (.slice Ap7 p7l.length cp7) := hk1.cell 17
              have c1_18 : v1.cell? ⟨w.heap.size, 18, none⟩ = some (.slice Ap8 p8l.length cp8) := hk1.cell 18
              have c1_19 : v1.cell? ⟨w.heap.size, 19, none⟩ = some (.int .i64 p9) := hk1.cell 19
              go_wp2_with fail
              refine (Cp8.out _ hP1).mono ?_
              rintro e v2 ⟨rfl, hb2⟩
              have hP2 := below_tr hP1 hb2
              have hk2 := hk1.below' hb2
              have c2_10 : v2.cell? ⟨w.heap.size, 10, none⟩ = some (.string p0) := hk2.cell 10
              have c2_11 : v2.cell? ⟨w.heap.size, 11, none⟩ = some (.string p1) := hk2.cell 11
              have c2_12 : v2.cell? ⟨w.heap.size, 12, none⟩ = some (.int .i64 p2) := hk2.cell 12
              have c2_13 : v2.cell? ⟨w.heap.size, 13, none⟩ = some (.int .i64 p3) := hk2.cell 13
              have c2_14 : v2.cell? ⟨w.heap.size, 14, none⟩ = some (.int .i64 p4) := hk2.cell 14
              have c2_15 : v2.cell? ⟨w.heap.size, 15, none⟩ = some (.int .i64 p5) := hk2.cell 15
              have c2_16 : v2.cell? ⟨w.heap.size, 16, none⟩ = some (.slice Ap6 p6l.length cp6) := hk2.cell 16
              have c2_17 : v2.cell? ⟨w.heap.size, 17, none⟩ = some (.slice Ap7 p7l.length cp7) := hk2.cell 17
              have c2_18 : v2.cell? ⟨w.heap.size, 18, none⟩ = some (.slice Ap8 p8l.length cp8) := hk2.cell 18
              have c2_19 : v2.cell? ⟨w.heap.size, 19, none⟩ = some (.int .i64 p9) := hk2.cell 19
              go_wp2_with fail
              go_ret
              exact ⟨by rw [HF.out]; rfl, hP2⟩
            · have HF : Hid (q = true) := Lib.hid (by rw [HQ.out]; simp [sN, b0, b1, b2, b3, b4])
              rw [b2] at Cp6
              rw [b3] at Cp7
              rw [b4] at Cp8
              clear HQ b2 b3 b4
              have B0 : ((p0.size : Nat) : Int) ≤ 255 := by omega
              have B1 : ((p1.size : Nat) : Int) ≤ 255 := by omega
              go_enter Try.func13, Try.ntmps13
              go_wp2_with fail
              refine (Cp6.out _ (below_al w _)).mono ?_
              rintro e v0 ⟨rfl, hb0⟩
              have hP0 := below_tr (below_al w _) hb0
              have hk0 := hkb.below' hb0
              have c0_10 : v0.cell? ⟨w.heap.size, 10, none⟩ = some (.string p0) := hk0.cell 10
              have c0_11 : v0.cell? ⟨w.heap.size, 11, none⟩ = some (.string p1) := hk0.cell 11
              have c0_12 : v0.cell? ⟨w.heap.size, 12, none⟩ = some (.int .i64 p2) := hk0.cell 12
              have c0_13 : v0.cell? ⟨w.heap.size, 13, none⟩ = some (.int .i64 p3) := hk0.cell 13
              have c0_14 : v0.cell? ⟨w.heap.size, 14, none⟩ = some (.int .i64 p4) := hk0.cell 14
              have c0_15 : v0.cell? ⟨w.heap.size, 15, none⟩ = some (.int .i64 p5) := hk0.cell 15
              have c0_16 : v0.cell? ⟨w.heap.size, 16, none⟩ = some (.slice Ap6 p6l.length cp6) := hk0.cell 16
              have c0_17 : v0.cell? ⟨w.heap.size, 17, none⟩ = some (.slice Ap7 p7l.length cp7) := hk0.cell 17
              have c0_18 : v0.cell? ⟨w.heap.size, 18, none⟩ = some (.slice Ap8 p8l.length cp8) := hk0.cell 18
              have c0_19 : v0.cell? ⟨w.heap.size, 19, none⟩ = some (.int .i64 p9) := hk0.cell 19
              go_wp2_with fail
              refine (Cp7.out _ hP0).mono ?_
              rintro e v1 ⟨rfl, hb1⟩
              have hP1 := below_tr hP0 hb1
              have hk1 := hk0.below' hb1
              have c1_10 : v1.cell? ⟨w.heap.size, 10, none⟩ = some (.string p0) := hk1.cell 10
              have c1_11 : v1.cell? ⟨w.heap.size, 11, none⟩ = some (.string p1) := hk1.cell 11
              have c1_12 : v1.cell? ⟨w.heap.size, 12, none⟩ = some (.int .i64 p2) := hk1.cell 12
              have c1_13 : v1.cell? ⟨w.heap.size, 13, none⟩ = some (.int .i64 p3) := hk1.cell 13
              have c1_14 : v1.cell? ⟨w.heap.size, 14, none⟩ = some (.int .i64 p4) := hk1.cell 14
              have c1_15 : v1.cell? ⟨w.heap.size, 15, none⟩ = some (.int .i64 p5) := hk1.cell 15
              have c1_16 : v1.cell? ⟨w.heap.size, 16, none⟩ = some (.slice Ap6 p6l.length cp6) := hk1.cell 16
              have c1_17 : v1.cell? ⟨w.heap.size, 17, none⟩ = some (.slice Ap7 p7l.length cp7) := hk1.cell 17
              have c1_18 : v1.cell? ⟨w.heap.size, 18, none⟩ = some (.slice Ap8 p8l.length cp8) := hk1.cell 18
              have c1_19 : v1.cell? ⟨w.heap.size, 19, none⟩ = some (.int .i64 p9) := hk1.cell 19
              go_wp2_with fail
              refine (Cp8.out _ hP1).mono ?_
              rintro e v2 ⟨rfl, hb2⟩
              have hP2 := below_tr hP1 hb2
              have hk2 := hk1.below' hb2
              have c2_10 : v2.cell? ⟨w.heap.size, 10, none⟩ = some (.string p0) := hk2.cell 10
              have c2_11 : v2.cell? ⟨w.heap.size, 11, none⟩ = some (.string p1) := hk2.cell 11
              have c2_12 : v2.cell? ⟨w.heap.size, 12, none⟩ = some (.int .i64 p2) := hk2.cell 12
              have c2_13 : v2.cell? ⟨w.heap.size, 13, none⟩ = some (.int .i64 p3) := hk2.cell 13
              have c2_14 : v2.cell? ⟨w.heap.size, 14, none⟩ = some (.int .i64 p4) := hk2.cell 14
              have c2_15 : v2.cell? ⟨w.heap.size, 15, none⟩ = some (.int .i64 p5) := hk2.cell 15
              have c2_16 : v2.cell? ⟨w.heap.size, 16, none⟩ = some (.slice Ap6 p6l.length cp6) := hk2.cell 16
              have c2_17 : v2.cell? ⟨w.heap.size, 17, none⟩ = some (.slice Ap7 p7l.length cp7) := hk2.cell 17
              have c2_18 : v2.cell? ⟨w.heap.size, 18, none⟩ = some (.slice Ap8 p8l.length cp8) := hk2.cell 18
              have c2_19 : v2.cell? ⟨w.heap.size, 19, none⟩ = some (.int .i64 p9) := hk2.cell 19
              go_wp2_with fail
              go_ret
              exact ⟨by rw [HF.out]; rfl, hP2⟩
      · have HF : Hid (q = false) := Lib.hid (by rw [HQ.out]; simp [sN, b0, b1])
        clear HQ 
        have B0 : ((p0.size : Nat) : Int) ≤ 255 := by omega
        have B1 : (255 : Int) < ((p1.size : Nat) : Int) := by omega
        go_enter Try.func13, Try.ntmps13
        go_wp2_with fail
        go_ret
        exact ⟨by rw [HF.out]; rfl, (below_al w _)⟩
    · have HF : Hid (q = false) := Lib.hid (by rw [HQ.out]; simp [sN, b0])
      clear HQ 
      have B0 : (255 : Int) < ((p0.size : Nat) : Int) := by omega
      go_enter Try.func13, Try.ntmps13
      go_wp2_with fail
      go_ret
      exact ⟨by rw [HF.out]; rfl, (below_al w _)⟩
  · have sNI : (255 : Int) < ((name.size : Nat) : Int) := by omega
    have HF : Hid (q = false) := Lib.hid (by rw [HQ.out]; simp [sN])
    clear HQ 
    go_enter Try.func13, Try.ntmps13
    go_wp2_with fail
    go_ret
    exact ⟨by rw [HF.out]; rfl, (below_al w _)⟩
def ndSh (x : Nd) : Bool := decide (x.group.size ≤ 255) && (shlL x.labels.l && (shlL x.taints.l))
set_option maxHeartbeats 4000000 in
set_option maxRecDepth 100000 in
theorem short_nd (o : Ob) (w : World) (hk : o.kind = 2) (ho : o.n.Ok w) (hnm : wfs o.name) :
    Calls Try.prog 13 #[.agg o.cells.toArray] w fun e w' => e = .returned (.bool (decide (o.name.size ≤ 255) && ndSh o.n)) ∧ Below w.heap.size w w' := by
  obtain ⟨kind, name, version, ⟨w0, w1, w2, w3, w4, w5, w6⟩, ⟨p0, p1, p2, p3, p4, p5, p6, p7, p8, p9⟩, ⟨n0, n1, n2, n3, n4, n5, n6⟩, ⟨g0, g1, g2, g3, g4, g5, g6, g7⟩, ⟨h0, h1, h2, h3, h4, ⟨h5, h6, h7⟩, ⟨h8, h9, h10⟩, h11⟩⟩ := o
  simp only at hk hnm
  subst hk
  obtain ⟨q, hq⟩ : ∃ q, q = (decide (name.size ≤ 255) && ndSh ⟨n0, n1, n2, n3, n4, n5, n6⟩) := ⟨_, rfl⟩
  try simp only
  rw [← hq]
  obtain ⟨un0, _, _, on3, on4, _⟩ := ho
  simp only at un0 on3 on4
  obtain ⟨n3v, n3l⟩ := n3
  obtain ⟨An3, cn3, en3, _⟩ := id on3.1
  have en3 : n3v = .slice An3 n3l.length cn3 := en3
  subst en3
  have Cn3 : Hid (∀ w1, Below w.heap.size w w1 → Calls Try.prog 26 #[.slice An3 n3l.length cn3] w1 fun e w' => e = .returned (.bool (shlL n3l)) ∧ Below w1.heap.size w1 w') := Lib.hid (fun w1 hb => shl_any ⟨_, n3l⟩ w1 (on3.below hb))
  clear on3
  obtain ⟨n4v, n4l⟩ := n4
  obtain ⟨An4, cn4, en4, _⟩ := id on4.1
  have en4 : n4v = .slice An4 n4l.length cn4 := en4
  subst en4
  have Cn4 : Hid (∀ w1, Below w.heap.size w w1 → Calls Try.prog 26 #[.slice An4 n4l.length cn4] w1 fun e w' => e = .returned (.bool (shlL n4l)) ∧ Below w1.heap.size w1 w') := Lib.hid (fun w1 hb => shl_any ⟨_, n4l⟩ w1 (on4.below hb))
  clear on4
  have HQ : Hid (q = (decide (name.size ≤ 255) && (decide (n0.size ≤ 255) && (shlL n3l && (shlL n4l))))) := Lib.hid hq
  clear hq
  unfold wfs reachBytes at hnm
  unfold wfs reachBytes at un0
  simp only [Ob.cells, Wl.cells, Pd.cells, Nd.cells, Gr.cells, Hp.cells, List.cons_append, List.nil_append]
  have hkb := Bk.new w 48 #[.int .i64 2, .string name, .int .u64 version, .int .i64 w0, .int .i64 w1, .int .i64 w2, w3.v, w4.v, w5.v, .int .i64 w6, .string p0, .string p1, .int .i64 p2, .int .i64 p3, .int .i64 p4, .int .i64 p5, p6.v, p7.v, p8.v, .int .i64 p9, .string n0, .int .i64 n1, .int .i64 n2, .slice An3 n3l.length cn3, .slice An4 n4l.length cn4, .int .i64 n5, .bool n6, .int .i64 g0, .int .i64 g1, .int .i64 g2, .int .i64 g3, .int .i64 g4, g5.v, g6.v, .int .i64 g7, .string h0, .int .i64 h1, .int .i64 h2, h3.v, .int .i64 h4, .int .i64 h5, .int .i64 h6, h7.v, .int .i64 h8, .int .i64 h9, h10.v, h11.v]
  by_cases sN : name.size ≤ 255
  · have sNI : ((name.size : Nat) : Int) ≤ 255 := by omega
    by_cases b0 : n0.size ≤ 255
    · cases b1 : shlL n3l
      · have HF : Hid (q = false) := Lib.hid (by rw [HQ.out]; simp [sN, b0, b1])
        rw [b1] at Cn3
        clear HQ b1
        have B0 : ((n0.size : Nat) : Int) ≤ 255 := by omega
        go_enter Try.func13, Try.ntmps13
        go_wp2_with fail
        refine (Cn3.out _ (below_al w _)).mono ?_
        rintro e v0 ⟨rfl, hb0⟩
        have hP0 := below_tr (below_al w _) hb0
        have hk0 := hkb.below' hb0
        have c0_20 : v0.cell? ⟨w.heap.size, 20, none⟩ = some (.string n0) := hk0.cell 20
        have c0_21 : v0.cell? ⟨w.heap.size, 21, none⟩ = some (.int .i64 n1) := hk0.cell 21
        have c0_22 : v0.cell? ⟨w.heap.size, 22, none⟩ = some (.int .i64 n2) := hk0.cell 22
        have c0_23 : v0.cell? ⟨w.heap.size, 23, none⟩ = some (.slice An3 n3l.length cn3) := hk0.cell 23
        have c0_24 : v0.cell? ⟨w.heap.size, 24, none⟩ = some (.slice An4 n4l.length cn4) := hk0.cell 24
        have c0_25 : v0.cell? ⟨w.heap.size, 25, none⟩ = some (.int .i64 n5) := hk0.cell 25
        have c0_26 : v0.cell? ⟨w.heap.size, 26, none⟩ = some (.bool n6) := hk0.cell 26
        go_wp2_with fail
        go_ret
        exact ⟨by rw [HF.out]; rfl, hP0⟩
      · cases b2 : shlL n4l
        · have HF : Hid (q = false) := Lib.hid (by rw [HQ.out]; simp [sN, b0, b1, b2])
          rw [b1] at Cn3
          rw [b2] at Cn4
          clear HQ b1 b2
          have B0 : ((n0.size : Nat) : Int) ≤ 255 := by omega
          go_enter Try.func13, Try.ntmps13
          go_wp2_with fail
          refine (Cn3.out _ (below_al w _)).mono ?_
          rintro e v0 ⟨rfl, hb0⟩
          have hP0 := below_tr (below_al w _) hb0
          have hk0 := hkb.below' hb0
          have c0_20 : v0.cell? ⟨w.heap.size, 20, none⟩ = some (.string n0) := hk0.cell 20
          have c0_21 : v0.cell? ⟨w.heap.size, 21, none⟩ = some (.int .i64 n1) := hk0.cell 21
          have c0_22 : v0.cell? ⟨w.heap.size, 22, none⟩ = some (.int .i64 n2) := hk0.cell 22
          have c0_23 : v0.cell? ⟨w.heap.size, 23, none⟩ = some (.slice An3 n3l.length cn3) := hk0.cell 23
          have c0_24 : v0.cell? ⟨w.heap.size, 24, none⟩ = some (.slice An4 n4l.length cn4) := hk0.cell 24
          have c0_25 : v0.cell? ⟨w.heap.size, 25, none⟩ = some (.int .i64 n5) := hk0.cell 25
          have c0_26 : v0.cell? ⟨w.heap.size, 26, none⟩ = some (.bool n6) := hk0.cell 26
          go_wp2_with fail
          refine (Cn4.out _ hP0).mono ?_
          rintro e v1 ⟨rfl, hb1⟩
          have hP1 := below_tr hP0 hb1
          have hk1 := hk0.below' hb1
          have c1_20 : v1.cell? ⟨w.heap.size, 20, none⟩ = some (.string n0) := hk1.cell 20
          have c1_21 : v1.cell? ⟨w.heap.size, 21, none⟩ = some (.int .i64 n1) := hk1.cell 21
          have c1_22 : v1.cell? ⟨w.heap.size, 22, none⟩ = some (.int .i64 n2) := hk1.cell 22
          have c1_23 : v1.cell? ⟨w.heap.size, 23, none⟩ = some (.slice An3 n3l.length cn3) := hk1.cell 23
          have c1_24 : v1.cell? ⟨w.heap.size, 24, none⟩ = some (.slice An4 n4l.length cn4) := hk1.cell 24
          have c1_25 : v1.cell? ⟨w.heap.size, 25, none⟩ = some (.int .i64 n5) := hk1.cell 25
          have c1_26 : v1.cell? ⟨w.heap.size, 26, none⟩ = some (.bool n6) := hk1.cell 26
          go_wp2_with fail
          go_ret
          exact ⟨by rw [HF.out]; rfl, hP1⟩
        · have HF : Hid (q = true) := Lib.hid (by rw [HQ.out]; simp [sN, b0, b1, b2])
          rw [b1] at Cn3
          rw [b2] at Cn4
          clear HQ b1 b2
          have B0 : ((n0.size : Nat) : Int) ≤ 255 := by omega
          go_enter Try.func13, Try.ntmps13
          go_wp2_with fail
          refine (Cn3.out _ (below_al w _)).mono ?_
          rintro e v0 ⟨rfl, hb0⟩
          have hP0 := below_tr (below_al w _) hb0
          have hk0 := hkb.below' hb0
          have c0_20 : v0.cell? ⟨w.heap.size, 20, none⟩ = some (.string n0) := hk0.cell 20
          have c0_21 : v0.cell? ⟨w.heap.size, 21, none⟩ = some (.int .i64 n1) := hk0.cell 21
          have c0_22 : v0.cell? ⟨w.heap.size, 22, none⟩ = some (.int .i64 n2) := hk0.cell 22
          have c0_23 : v0.cell? ⟨w.heap.size, 23, none⟩ = some (.slice An3 n3l.length cn3) := hk0.cell 23
          have c0_24 : v0.cell? ⟨w.heap.size, 24, none⟩ = some (.slice An4 n4l.length cn4) := hk0.cell 24
          have c0_25 : v0.cell? ⟨w.heap.size, 25, none⟩ = some (.int .i64 n5) := hk0.cell 25
          have c0_26 : v0.cell? ⟨w.heap.size, 26, none⟩ = some (.bool n6) := hk0.cell 26
          go_wp2_with fail
          refine (Cn4.out _ hP0).mono ?_
          rintro e v1 ⟨rfl, hb1⟩
          have hP1 := below_tr hP0 hb1
          have hk1 := hk0.below' hb1
          have c1_20 : v1.cell? ⟨w.heap.size, 20, none⟩ = some (.string n0) := hk1.cell 20
          have c1_21 : v1.cell? ⟨w.heap.size, 21, none⟩ = some (.int .i64 n1) := hk1.cell 21
          have c1_22 : v1.cell? ⟨w.heap.size, 22, none⟩ = some (.int .i64 n2) := hk1.cell 22
          have c1_23 : v1.cell? ⟨w.heap.size, 23, none⟩ = some (.slice An3 n3l.length cn3) := hk1.cell 23
          have c1_24 : v1.cell? ⟨w.heap.size, 24, none⟩ = some (.slice An4 n4l.length cn4) := hk1.cell 24
          have c1_25 : v1.cell? ⟨w.heap.size, 25, none⟩ = some (.int .i64 n5) := hk1.cell 25
          have c1_26 : v1.cell? ⟨w.heap.size, 26, none⟩ = some (.bool n6) := hk1.cell 26
          go_wp2_with fail
          go_ret
          exact ⟨by rw [HF.out]; rfl, hP1⟩
    · have HF : Hid (q = false) := Lib.hid (by rw [HQ.out]; simp [sN, b0])
      clear HQ 
      have B0 : (255 : Int) < ((n0.size : Nat) : Int) := by omega
      go_enter Try.func13, Try.ntmps13
      go_wp2_with fail
      go_ret
      exact ⟨by rw [HF.out]; rfl, (below_al w _)⟩
  · have sNI : (255 : Int) < ((name.size : Nat) : Int) := by omega
    have HF : Hid (q = false) := Lib.hid (by rw [HQ.out]; simp [sN])
    clear HQ 
    go_enter Try.func13, Try.ntmps13
    go_wp2_with fail
    go_ret
    exact ⟨by rw [HF.out]; rfl, (below_al w _)⟩
def grSh (x : Gr) : Bool := shlL x.labels.l && (shlL x.taints.l)
set_option maxHeartbeats 4000000 in
set_option maxRecDepth 100000 in
theorem short_gr (o : Ob) (w : World) (hk : o.kind = 3) (ho : o.g.Ok w) (hnm : wfs o.name) :
    Calls Try.prog 13 #[.agg o.cells.toArray] w fun e w' => e = .returned (.bool (decide (o.name.size ≤ 255) && grSh o.g)) ∧ Below w.heap.size w w' := by
  obtain ⟨kind, name, version, ⟨w0, w1, w2, w3, w4, w5, w6⟩, ⟨p0, p1, p2, p3, p4, p5, p6, p7, p8, p9⟩, ⟨n0, n1, n2, n3, n4, n5, n6⟩, ⟨g0, g1, g2, g3, g4, g5, g6, g7⟩, ⟨h0, h1, h2, h3, h4, ⟨h5, h6, h7⟩, ⟨h8, h9, h10⟩, h11⟩⟩ := o
  simp only at hk hnm
  subst hk
  obtain ⟨q, hq⟩ : ∃ q, q = (decide (name.size ≤ 255) && grSh ⟨g0, g1, g2, g3, g4, g5, g6, g7⟩) := ⟨_, rfl⟩
  try simp only
  rw [← hq]
  obtain ⟨_, _, _, _, _, og5, og6, _⟩ := ho
  simp only at og5 og6
  obtain ⟨g5v, g5l⟩ := g5
  obtain ⟨Ag5, cg5, eg5, _⟩ := id og5.1
  have eg5 : g5v = .slice Ag5 g5l.length cg5 := eg5
  subst eg5
  have Cg5 : Hid (∀ w1, Below w.heap.size w w1 → Calls Try.prog 26 #[.slice Ag5 g5l.length cg5] w1 fun e w' => e = .returned (.bool (shlL g5l)) ∧ Below w1.heap.size w1 w') := Lib.hid (fun w1 hb => shl_any ⟨_, g5l⟩ w1 (og5.below hb))
  clear og5
  obtain ⟨g6v, g6l⟩ := g6
  obtain ⟨Ag6, cg6, eg6, _⟩ := id og6.1
  have eg6 : g6v = .slice Ag6 g6l.length cg6 := eg6
  subst eg6
  have Cg6 : Hid (∀ w1, Below w.heap.size w w1 → Calls Try.prog 26 #[.slice Ag6 g6l.length cg6] w1 fun e w' => e = .returned (.bool (shlL g6l)) ∧ Below w1.heap.size w1 w') := Lib.hid (fun w1 hb => shl_any ⟨_, g6l⟩ w1 (og6.below hb))
  clear og6
  have HQ : Hid (q = (decide (name.size ≤ 255) && (shlL g5l && (shlL g6l)))) := Lib.hid hq
  clear hq
  unfold wfs reachBytes at hnm
  simp only [Ob.cells, Wl.cells, Pd.cells, Nd.cells, Gr.cells, Hp.cells, List.cons_append, List.nil_append]
  have hkb := Bk.new w 48 #[.int .i64 3, .string name, .int .u64 version, .int .i64 w0, .int .i64 w1, .int .i64 w2, w3.v, w4.v, w5.v, .int .i64 w6, .string p0, .string p1, .int .i64 p2, .int .i64 p3, .int .i64 p4, .int .i64 p5, p6.v, p7.v, p8.v, .int .i64 p9, .string n0, .int .i64 n1, .int .i64 n2, n3.v, n4.v, .int .i64 n5, .bool n6, .int .i64 g0, .int .i64 g1, .int .i64 g2, .int .i64 g3, .int .i64 g4, .slice Ag5 g5l.length cg5, .slice Ag6 g6l.length cg6, .int .i64 g7, .string h0, .int .i64 h1, .int .i64 h2, h3.v, .int .i64 h4, .int .i64 h5, .int .i64 h6, h7.v, .int .i64 h8, .int .i64 h9, h10.v, h11.v]
  by_cases sN : name.size ≤ 255
  · have sNI : ((name.size : Nat) : Int) ≤ 255 := by omega
    cases b0 : shlL g5l
    · have HF : Hid (q = false) := Lib.hid (by rw [HQ.out]; simp [sN, b0])
      rw [b0] at Cg5
      clear HQ b0
      go_enter Try.func13, Try.ntmps13
      go_wp2_with fail
      refine (Cg5.out _ (below_al w _)).mono ?_
      rintro e v0 ⟨rfl, hb0⟩
      have hP0 := below_tr (below_al w _) hb0
      have hk0 := hkb.below' hb0
      have c0_27 : v0.cell? ⟨w.heap.size, 27, none⟩ = some (.int .i64 g0) := hk0.cell 27
      have c0_28 : v0.cell? ⟨w.heap.size, 28, none⟩ = some (.int .i64 g1) := hk0.cell 28
      have c0_29 : v0.cell? ⟨w.heap.size, 29, none⟩ = some (.int .i64 g2) := hk0.cell 29
      have c0_30 : v0.cell? ⟨w.heap.size, 30, none⟩ = some (.int .i64 g3) := hk0.cell 30
      have c0_31 : v0.cell? ⟨w.heap.size, 31, none⟩ = some (.int .i64 g4) := hk0.cell 31
      have c0_32 : v0.cell? ⟨w.heap.size, 32, none⟩ = some (.slice Ag5 g5l.length cg5) := hk0.cell 32
      have c0_33 : v0.cell? ⟨w.heap.size, 33, none⟩ = some (.slice Ag6 g6l.length cg6) := hk0.cell 33
      have c0_34 : v0.cell? ⟨w.heap.size, 34, none⟩ = some (.int .i64 g7) := hk0.cell 34
      go_wp2_with fail
      go_ret
      exact ⟨by rw [HF.out]; rfl, hP0⟩
    · cases b1 : shlL g6l
      · have HF : Hid (q = false) := Lib.hid (by rw [HQ.out]; simp [sN, b0, b1])
        rw [b0] at Cg5
        rw [b1] at Cg6
        clear HQ b0 b1
        go_enter Try.func13, Try.ntmps13
        go_wp2_with fail
        refine (Cg5.out _ (below_al w _)).mono ?_
        rintro e v0 ⟨rfl, hb0⟩
        have hP0 := below_tr (below_al w _) hb0
        have hk0 := hkb.below' hb0
        have c0_27 : v0.cell? ⟨w.heap.size, 27, none⟩ = some (.int .i64 g0) := hk0.cell 27
        have c0_28 : v0.cell? ⟨w.heap.size, 28, none⟩ = some (.int .i64 g1) := hk0.cell 28
        have c0_29 : v0.cell? ⟨w.heap.size, 29, none⟩ = some (.int .i64 g2) := hk0.cell 29
        have c0_30 : v0.cell? ⟨w.heap.size, 30, none⟩ = some (.int .i64 g3) := hk0.cell 30
        have c0_31 : v0.cell? ⟨w.heap.size, 31, none⟩ = some (.int .i64 g4) := hk0.cell 31
        have c0_32 : v0.cell? ⟨w.heap.size, 32, none⟩ = some (.slice Ag5 g5l.length cg5) := hk0.cell 32
        have c0_33 : v0.cell? ⟨w.heap.size, 33, none⟩ = some (.slice Ag6 g6l.length cg6) := hk0.cell 33
        have c0_34 : v0.cell? ⟨w.heap.size, 34, none⟩ = some (.int .i64 g7) := hk0.cell 34
        go_wp2_with fail
        refine (Cg6.out _ hP0).mono ?_
        rintro e v1 ⟨rfl, hb1⟩
        have hP1 := below_tr hP0 hb1
        have hk1 := hk0.below' hb1
        have c1_27 : v1.cell? ⟨w.heap.size, 27, none⟩ = some (.int .i64 g0) := hk1.cell 27
        have c1_28 : v1.cell? ⟨w.heap.size, 28, none⟩ = some (.int .i64 g1) := hk1.cell 28
        have c1_29 : v1.cell? ⟨w.heap.size, 29, none⟩ = some (.int .i64 g2) := hk1.cell 29
        have c1_30 : v1.cell? ⟨w.heap.size, 30, none⟩ = some (.int .i64 g3) := hk1.cell 30
        have c1_31 : v1.cell? ⟨w.heap.size, 31, none⟩ = some (.int .i64 g4) := hk1.cell 31
        have c1_32 : v1.cell? ⟨w.heap.size, 32, none⟩ = some (.slice Ag5 g5l.length cg5) := hk1.cell 32
        have c1_33 : v1.cell? ⟨w.heap.size, 33, none⟩ = some (.slice Ag6 g6l.length cg6) := hk1.cell 33
        have c1_34 : v1.cell? ⟨w.heap.size, 34, none⟩ = some (.int .i64 g7) := hk1.cell 34
        go_wp2_with fail
        go_ret
        exact ⟨by rw [HF.out]; rfl, hP1⟩
      · have HF : Hid (q = true) := Lib.hid (by rw [HQ.out]; simp [sN, b0, b1])
        rw [b0] at Cg5
        rw [b1] at Cg6
        clear HQ b0 b1
        go_enter Try.func13, Try.ntmps13
        go_wp2_with fail
        refine (Cg5.out _ (below_al w _)).mono ?_
        rintro e v0 ⟨rfl, hb0⟩
        have hP0 := below_tr (below_al w _) hb0
        have hk0 := hkb.below' hb0
        have c0_27 : v0.cell? ⟨w.heap.size, 27, none⟩ = some (.int .i64 g0) := hk0.cell 27
        have c0_28 : v0.cell? ⟨w.heap.size, 28, none⟩ = some (.int .i64 g1) := hk0.cell 28
        have c0_29 : v0.cell? ⟨w.heap.size, 29, none⟩ = some (.int .i64 g2) := hk0.cell 29
        have c0_30 : v0.cell? ⟨w.heap.size, 30, none⟩ = some (.int .i64 g3) := hk0.cell 30
        have c0_31 : v0.cell? ⟨w.heap.size, 31, none⟩ = some (.int .i64 g4) := hk0.cell 31
        have c0_32 : v0.cell? ⟨w.heap.size, 32, none⟩ = some (.slice Ag5 g5l.length cg5) := hk0.cell 32
        have c0_33 : v0.cell? ⟨w.heap.size, 33, none⟩ = some (.slice Ag6 g6l.length cg6) := hk0.cell 33
        have c0_34 : v0.cell? ⟨w.heap.size, 34, none⟩ = some (.int .i64 g7) := hk0.cell 34
        go_wp2_with fail
        refine (Cg6.out _ hP0).mono ?_
        rintro e v1 ⟨rfl, hb1⟩
        have hP1 := below_tr hP0 hb1
        have hk1 := hk0.below' hb1
        have c1_27 : v1.cell? ⟨w.heap.size, 27, none⟩ = some (.int .i64 g0) := hk1.cell 27
        have c1_28 : v1.cell? ⟨w.heap.size, 28, none⟩ = some (.int .i64 g1) := hk1.cell 28
        have c1_29 : v1.cell? ⟨w.heap.size, 29, none⟩ = some (.int .i64 g2) := hk1.cell 29
        have c1_30 : v1.cell? ⟨w.heap.size, 30, none⟩ = some (.int .i64 g3) := hk1.cell 30
        have c1_31 : v1.cell? ⟨w.heap.size, 31, none⟩ = some (.int .i64 g4) := hk1.cell 31
        have c1_32 : v1.cell? ⟨w.heap.size, 32, none⟩ = some (.slice Ag5 g5l.length cg5) := hk1.cell 32
        have c1_33 : v1.cell? ⟨w.heap.size, 33, none⟩ = some (.slice Ag6 g6l.length cg6) := hk1.cell 33
        have c1_34 : v1.cell? ⟨w.heap.size, 34, none⟩ = some (.int .i64 g7) := hk1.cell 34
        go_wp2_with fail
        go_ret
        exact ⟨by rw [HF.out]; rfl, hP1⟩
  · have sNI : (255 : Int) < ((name.size : Nat) : Int) := by omega
    have HF : Hid (q = false) := Lib.hid (by rw [HQ.out]; simp [sN])
    clear HQ 
    go_enter Try.func13, Try.ntmps13
    go_wp2_with fail
    go_ret
    exact ⟨by rw [HF.out]; rfl, (below_al w _)⟩
end Go.Proofs.Ythdjfcfbmmmmcaa
