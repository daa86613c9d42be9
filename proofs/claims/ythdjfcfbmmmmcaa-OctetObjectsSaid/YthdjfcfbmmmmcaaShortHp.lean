/-
  trimtabref06.Short at an Hpa. (printed by wip/gen_shorthp.py)
-/
import Derived.Test.YthdjfcfbmmmmcaaShort
namespace Go.Proofs.Ythdjfcfbmmmmcaa
open Go.RowKit Go.Proofs.Mem
set_option linter.unusedVariables false
set_option linter.unusedSimpArgs false
def metX (x : Mem.Met) : Bool := decide (x.name.size ≤ 255)
def hpSh (x : Hp) : Bool := x.metrics.l.all metX && (decide (x.target.size ≤ 255) && (decide (x.metrics.l.length ≤ 255) && (decide (x.past.l.length ≤ 255) && (decide (x.up.policies.l.length ≤ 255) && decide (x.down.policies.l.length ≤ 255)))))
set_option maxHeartbeats 4000000 in
set_option maxRecDepth 100000 in
theorem short_hp (o : Ob) (w : World) (hk : o.kind = 4) (ho : o.h.Ok w) (hnm : wfs o.name) :
    Calls Try.prog 13 #[.agg o.cells.toArray] w fun e w' => e = .returned (.bool (decide (o.name.size ≤ 255) && hpSh o.h)) ∧ Below w.heap.size w w' := by
  obtain ⟨kind, name, version, ⟨w0, w1, w2, w3, w4, w5, w6⟩, ⟨p0, p1, p2, p3, p4, p5, p6, p7, p8, p9⟩, ⟨n0, n1, n2, n3, n4, n5, n6⟩, ⟨g0, g1, g2, g3, g4, g5, g6, g7⟩, ⟨h0, h1, h2, h3, h4, ⟨h5, h6, h7⟩, ⟨h8, h9, h10⟩, h11⟩⟩ := o
  simp only at hk hnm
  subst hk
  obtain ⟨q, hq⟩ : ∃ q, q = (decide (name.size ≤ 255) && hpSh ⟨h0, h1, h2, h3, h4, ⟨h5, h6, h7⟩, ⟨h8, h9, h10⟩, h11⟩) := ⟨_, rfl⟩
  try simp only
  rw [← hq]
  obtain ⟨oh0, oh1, oh2, oh3, oh4, ou, od, oh11⟩ := ho
  replace ou := ou.policies
  replace od := od.policies
  simp only at oh0 oh3 ou od oh11
  obtain ⟨h3v, h3l⟩ := h3
  obtain ⟨Ah3, ch3, eh3, _⟩ := id oh3.1
  have eh3 : h3v = .slice Ah3 h3l.length ch3 := eh3
  subst eh3
  have rh3 : h3l.length ≤ 9223372036854775807 := by
    have := Nat.le_trans oh3.2.1 reach_max
    unfold maxLen at this
    simp only at this
    omega
  obtain ⟨h7v, h7l⟩ := h7
  obtain ⟨Ah7, ch7, eh7, _⟩ := id ou.1
  have eh7 : h7v = .slice Ah7 h7l.length ch7 := eh7
  subst eh7
  have rh7 : h7l.length ≤ 9223372036854775807 := by
    have := Nat.le_trans ou.2.1 reach_max
    unfold maxLen at this
    simp only at this
    omega
  obtain ⟨h10v, h10l⟩ := h10
  obtain ⟨Ah10, ch10, eh10, _⟩ := id od.1
  have eh10 : h10v = .slice Ah10 h10l.length ch10 := eh10
  subst eh10
  have rh10 : h10l.length ≤ 9223372036854775807 := by
    have := Nat.le_trans od.2.1 reach_max
    unfold maxLen at this
    simp only at this
    omega
  obtain ⟨h11v, h11l⟩ := h11
  obtain ⟨Ah11, ch11, eh11, _⟩ := id oh11.1
  have eh11 : h11v = .slice Ah11 h11l.length ch11 := eh11
  subst eh11
  have rh11 : h11l.length ≤ 9223372036854775807 := by
    have := Nat.le_trans oh11.2.1 reach_max
    unfold maxLen at this
    simp only at this
    omega
  have h := oh3.1
  simp only at h
  clear oh3 ou od oh11 oh1 oh2 oh4
  have HQ : Hid (q = (decide (name.size ≤ 255) && (h3l.all metX && (decide (h0.size ≤ 255) && (decide (h3l.length ≤ 255) && (decide (h11l.length ≤ 255) && (decide (h7l.length ≤ 255) && decide (h10l.length ≤ 255)))))))) := Lib.hid hq
  clear hq
  unfold wfs reachBytes at hnm oh0
  simp only [Ob.cells, Wl.cells, Pd.cells, Nd.cells, Gr.cells, Hp.cells, List.cons_append, List.nil_append]
  have hkb := Bk.new w 48 #[.int .i64 4, .string name, .int .u64 version, .int .i64 w0, .int .i64 w1, .int .i64 w2, w3.v, w4.v, w5.v, .int .i64 w6, .string p0, .string p1, .int .i64 p2, .int .i64 p3, .int .i64 p4, .int .i64 p5, p6.v, p7.v, p8.v, .int .i64 p9, .string n0, .int .i64 n1, .int .i64 n2, n3.v, n4.v, .int .i64 n5, .bool n6, .int .i64 g0, .int .i64 g1, .int .i64 g2, .int .i64 g3, .int .i64 g4, g5.v, g6.v, .int .i64 g7, .string h0, .int .i64 h1, .int .i64 h2, .slice Ah3 h3l.length ch3, .int .i64 h4, .int .i64 h5, .int .i64 h6, .slice Ah7 h7l.length ch7, .int .i64 h8, .int .i64 h9, .slice Ah10 h10l.length ch10, .slice Ah11 h11l.length ch11]
  have hBb := below_al w (.cells #[.int .i64 4, .string name, .int .u64 version, .int .i64 w0, .int .i64 w1, .int .i64 w2, w3.v, w4.v, w5.v, .int .i64 w6, .string p0, .string p1, .int .i64 p2, .int .i64 p3, .int .i64 p4, .int .i64 p5, p6.v, p7.v, p8.v, .int .i64 p9, .string n0, .int .i64 n1, .int .i64 n2, n3.v, n4.v, .int .i64 n5, .bool n6, .int .i64 g0, .int .i64 g1, .int .i64 g2, .int .i64 g3, .int .i64 g4, g5.v, g6.v, .int .i64 g7, .string h0, .int .i64 h1, .int .i64 h2, .slice Ah3 h3l.length ch3, .int .i64 h4, .int .i64 h5, .int .i64 h6, .slice Ah7 h7l.length ch7, .int .i64 h8, .int .i64 h9, .slice Ah10 h10l.length ch10, .slice Ah11 h11l.length ch11] 48)
  by_cases sN : name.size ≤ 255
  · have sNI : ((name.size : Nat) : Int) ≤ 255 := by omega
    go_enter Try.func13, Try.ntmps13
    go_wp2_with fail
    generalize w.alloc (.cells #[.int .i64 4, .string name, .int .u64 version, .int .i64 w0, .int .i64 w1, .int .i64 w2, w3.v, w4.v, w5.v, .int .i64 w6, .string p0, .string p1, .int .i64 p2, .int .i64 p3, .int .i64 p4, .int .i64 p5, p6.v, p7.v, p8.v, .int .i64 p9, .string n0, .int .i64 n1, .int .i64 n2, n3.v, n4.v, .int .i64 n5, .bool n6, .int .i64 g0, .int .i64 g1, .int .i64 g2, .int .i64 g3, .int .i64 g4, g5.v, g6.v, .int .i64 g7, .string h0, .int .i64 h1, .int .i64 h2, .slice Ah3 h3l.length ch3, .int .i64 h4, .int .i64 h5, .int .i64 h6, .slice Ah7 h7l.length ch7, .int .i64 h8, .int .i64 h9, .slice Ah10 h10l.length ch10, .slice Ah11 h11l.length ch11] 48) = Wb at hkb hBb ⊢
    go_loopw [96, 4] (fun i p wr => ∃ k : Nat, k ≤ h3l.length ∧ i = .int .i64 k ∧ Below Wb.heap.size Wb wr ∧ Hid (∀ y ∈ h3l.take k, metX y = true)) (fun i p wr => h3l.length - (intOf i).toNat)
    case atStart => exact ⟨0, Nat.zero_le _, rfl, Below.refl _ _, Lib.hid (by simp)⟩
    case round =>
      obtain ⟨k, hk, rfl, hBw, hall⟩ := hrel
      have hBB : Below w.heap.size w wr := hBb.trans (hBw.mono hBb.size)
      by_cases hlt : k < h3l.length
      · obtain ⟨b, o, rfl, hbl, hadd, hcell⟩ := Sl.row' (s := 3) (f := Mem.Met.cells) (fun _ => rfl) (by omega) (h.below hBB) k hlt
        have a0 : wr.cell? ⟨b, o + k * 3, none⟩ = _ := hcell 0 _ rfl
        have a1 := hcell 1 _ rfl
        have a2 := hcell 2 _ rfl
        have hN : metX h3l[k] = true → Hid (∀ y ∈ h3l.take (k + 1), metX y = true) := fun e => Lib.hid (by
          intro y hy
          rw [List.take_succ_eq_append_getElem hlt] at hy
          rcases List.mem_append.1 hy with hy | hy
          · exact hall.out y hy
          · simp at hy; subst hy; exact e)
        have hF : metX h3l[k] = false → Hid (q = false) := fun e => Lib.hid (by
          rw [HQ.out]
          have : h3l.all metX = false := by
            rw [List.all_eq_false]
            exact ⟨h3l[k], List.getElem_mem hlt, by rw [e]; decide⟩
          rw [this]
          simp)
        clear hcell
        generalize h3l[k] = x at a0 a1 a2 hN hF
        by_cases h1x : x.name.size ≤ 255
        · replace hN := hN (by unfold metX; simp [h1x])
          clear hF hall
          go_wp2_with fail
          exact ⟨⟨k + 1, by omega, by go_num, (hBw.alloc hBw.size _), hN⟩, by simp [intOf]; omega⟩
        · replace hF := hF (by unfold metX; simp; omega)
          have h2x : 255 < x.name.size := by omega
          clear hN hall h1x
          go_wp2_with fail
          go_ret
          exact ⟨by rw [hF.out]; rfl, hBB.alloc hBB.size _⟩
      · have e : h3l.take k = h3l := List.take_of_length_le (by omega)
        rw [e] at hall
        have hall' : (h3l.all metX) = true := by rw [List.all_eq_true]; exact hall.out
        have hk2 := hkb.below' hBw
        have b35 : wr.cell? ⟨w.heap.size, 35, none⟩ = some (.string h0) := hk2.cell 35
        have b38 : wr.cell? ⟨w.heap.size, 38, none⟩ = some (.slice Ah3 h3l.length ch3) := hk2.cell 38
        have b46 : wr.cell? ⟨w.heap.size, 46, none⟩ = some (.slice Ah11 h11l.length ch11) := hk2.cell 46
        have b42 : wr.cell? ⟨w.heap.size, 42, none⟩ = some (.slice Ah7 h7l.length ch7) := hk2.cell 42
        have b45 : wr.cell? ⟨w.heap.size, 45, none⟩ = some (.slice Ah10 h10l.length ch10) := hk2.cell 45
        clear e hall h hkb hk2
        by_cases s0 : h0.size ≤ 255
        · have i0 : ((h0.size : Nat) : Int) ≤ 255 := by omega
          by_cases s1 : h3l.length ≤ 255
          · have i1 : ((h3l.length : Nat) : Int) ≤ 255 := by omega
            by_cases s2 : h11l.length ≤ 255
            · have i2 : ((h11l.length : Nat) : Int) ≤ 255 := by omega
              by_cases s3 : h7l.length ≤ 255
              · have i3 : ((h7l.length : Nat) : Int) ≤ 255 := by omega
                by_cases s4 : h10l.length ≤ 255
                · have i4 : ((h10l.length : Nat) : Int) ≤ 255 := by omega
                  have HF : Hid (q = true) := Lib.hid (by rw [HQ.out]; simp [sN, hall', s0, s1, s2, s3, s4])
                  go_wp2_with fail
                  go_ret
                  exact ⟨by rw [HF.out]; first | rfl | (show Ending.returned (.bool (decide _)) = _; first | rw [decide_eq_true (by omega)] | rw [decide_eq_false (by omega)]), hBB⟩
                · have HF : Hid (q = false) := Lib.hid (by rw [HQ.out]; simp [sN, hall', s0, s1, s2, s3, s4])
                  have i4 : (255 : Int) < ((h10l.length : Nat) : Int) := by omega
                  go_wp2_with fail
                  go_ret
                  exact ⟨by rw [HF.out]; first | rfl | (show Ending.returned (.bool (decide _)) = _; first | rw [decide_eq_true (by omega)] | rw [decide_eq_false (by omega)]), hBB⟩
              · have HF : Hid (q = false) := Lib.hid (by rw [HQ.out]; simp [sN, hall', s0, s1, s2, s3])
                have i3 : (255 : Int) < ((h7l.length : Nat) : Int) := by omega
                go_wp2_with fail
                go_ret
                exact ⟨by rw [HF.out]; first | rfl | (show Ending.returned (.bool (decide _)) = _; first | rw [decide_eq_true (by omega)] | rw [decide_eq_false (by omega)]), hBB⟩
            · have HF : Hid (q = false) := Lib.hid (by rw [HQ.out]; simp [sN, hall', s0, s1, s2])
              have i2 : (255 : Int) < ((h11l.length : Nat) : Int) := by omega
              go_wp2_with fail
              go_ret
              exact ⟨by rw [HF.out]; first | rfl | (show Ending.returned (.bool (decide _)) = _; first | rw [decide_eq_true (by omega)] | rw [decide_eq_false (by omega)]), hBB⟩
          · have HF : Hid (q = false) := Lib.hid (by rw [HQ.out]; simp [sN, hall', s0, s1])
            have i1 : (255 : Int) < ((h3l.length : Nat) : Int) := by omega
            go_wp2_with fail
            go_ret
            exact ⟨by rw [HF.out]; first | rfl | (show Ending.returned (.bool (decide _)) = _; first | rw [decide_eq_true (by omega)] | rw [decide_eq_false (by omega)]), hBB⟩
        · have HF : Hid (q = false) := Lib.hid (by rw [HQ.out]; simp [sN, hall', s0])
          have i0 : (255 : Int) < ((h0.size : Nat) : Int) := by omega
          go_wp2_with fail
          go_ret
          exact ⟨by rw [HF.out]; first | rfl | (show Ending.returned (.bool (decide _)) = _; first | rw [decide_eq_true (by omega)] | rw [decide_eq_false (by omega)]), hBB⟩
  · have sNI : (255 : Int) < ((name.size : Nat) : Int) := by omega
    have HF : Hid (q = false) := Lib.hid (by rw [HQ.out]; simp [sN])
    clear HQ h
    go_enter Try.func13, Try.ntmps13
    go_wp2_with fail
    go_ret
    exact ⟨by rw [HF.out]; rfl, hBb⟩
end Go.Proofs.Ythdjfcfbmmmmcaa
