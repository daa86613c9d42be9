/-
  The walk of trimtabref06.Same, of two objects of one kind whose bytes are the same. (printed by wip/gen_same.py)
-/
import Derived.Test.YthdjfcfbmmmmcaaRef6Wl
import Derived.Test.YthdjfcfbmmmmcaaRef6Pd
import Derived.Test.YthdjfcfbmmmmcaaRef6Nd
import Derived.Test.YthdjfcfbmmmmcaaRef6Gr
import Derived.Test.YthdjfcfbmmmmcaaRef6Hp
import Derived.Test.YthdjfcfbmmmmcaaQuiet
namespace Go.Proofs.Ythdjfcfbmmmmcaa
open Go.RowKit Go.Proofs.Mem Go.Sort
set_option linter.unusedVariables false
set_option linter.unusedSimpArgs false
/-- An object whose texts and rows are short: those of its own kind. -/
def ObS (o : Ob) : Prop := s255 o.name ∧ (o.kind = 0 → wlS o.w) ∧ (o.kind = 1 → pdS o.p) ∧ (o.kind = 2 → ndS o.n) ∧ (o.kind = 3 → grS o.g) ∧ (o.kind = 4 → HpS o.h)
theorem object_any (o : Ob) (w : World) (hk : 0 ≤ o.kind ∧ o.kind ≤ 4) (ho : o.Ok w) (hs : ObS o) :
    Calls Try.prog 14 #[.agg o.cells.toArray] w fun e w' => e = .returned (.string (objB o)) ∧ Below w.heap.size w w' := by
  obtain ⟨hn, h0, h1, h2, h3, h4⟩ := hs
  have hc : o.kind = 0 ∨ o.kind = 1 ∨ o.kind = 2 ∨ o.kind = 3 ∨ o.kind = 4 := by omega
  rcases hc with hc | hc | hc | hc | hc
  · exact object_wl o w hc ho.w ho.version hn (h0 hc)
  · exact object_pd o w hc ho.p ho.version hn (h1 hc)
  · exact object_nd o w hc ho.n ho.version hn (h2 hc)
  · exact object_gr o w hc ho.g ho.version hn (h3 hc)
  · exact object_hp o w hc ho.h ho.version hn (h4 hc)
theorem ob_cells (o : Ob) : ∃ x1 x2 x3 x4 x5 x6 x7 x8 x9 x10 x11 x12 x13 x14 x15 x16 x17 x18 x19 x20 x21 x22 x23 x24 x25 x26 x27 x28 x29 x30 x31 x32 x33 x34 x35 x36 x37 x38 x39 x40 x41 x42 x43 x44 x45 x46 : Value, o.cells = [.int .i64 o.kind, x1, x2, x3, x4, x5, x6, x7, x8, x9, x10, x11, x12, x13, x14, x15, x16, x17, x18, x19, x20, x21, x22, x23, x24, x25, x26, x27, x28, x29, x30, x31, x32, x33, x34, x35, x36, x37, x38, x39, x40, x41, x42, x43, x44, x45, x46] := by
  obtain ⟨kind, name, version, ⟨w0, w1, w2, w3, w4, w5, w6⟩, ⟨p0, p1, p2, p3, p4, p5, p6, p7, p8, p9⟩, ⟨n0, n1, n2, n3, n4, n5, n6⟩, ⟨g0, g1, g2, g3, g4, g5, g6, g7⟩, ⟨h0, h1, h2, h3, h4, ⟨h5, h6, h7⟩, ⟨h8, h9, h10⟩, h11⟩⟩ := o
  exact ⟨.string name, .int .u64 version, .int .i64 w0, .int .i64 w1, .int .i64 w2, w3.v, w4.v, w5.v, .int .i64 w6, .string p0, .string p1, .int .i64 p2, .int .i64 p3, .int .i64 p4, .int .i64 p5, p6.v, p7.v, p8.v, .int .i64 p9, .string n0, .int .i64 n1, .int .i64 n2, n3.v, n4.v, .int .i64 n5, .bool n6, .int .i64 g0, .int .i64 g1, .int .i64 g2, .int .i64 g3, .int .i64 g4, g5.v, g6.v, .int .i64 g7, .string h0, .int .i64 h1, .int .i64 h2, h3.v, .int .i64 h4, .int .i64 h5, .int .i64 h6, h7.v, .int .i64 h8, .int .i64 h9, h10.v, h11.v, rfl⟩
set_option maxHeartbeats 8000000 in
set_option maxRecDepth 100000 in
theorem same_eq (a b : Ob) (w : World) (k : Int) (hk : 0 ≤ k ∧ k ≤ 4) (ha : a.kind = k) (hb : b.kind = k) (hao : a.Ok w) (hbo : b.Ok w) (has : ObS a) (hbs : ObS b) (he : objB a = objB b) :
    Calls Try.prog 19 #[.agg a.cells.toArray, .agg b.cells.toArray] w fun e w' => e = .returned (.bool true) ∧ Below w.heap.size w w' := by
  have CA : Hid (∀ w1, Below w.heap.size w w1 → Calls Try.prog 14 #[.agg a.cells.toArray] w1 fun e w' => e = .returned (.string (objB a)) ∧ Below w1.heap.size w1 w') := Lib.hid (fun w1 hb1 => object_any a w1 (by omega) (hao.below hb1) has)
  have CB : Hid (∀ w1, Below w.heap.size w w1 → Calls Try.prog 14 #[.agg b.cells.toArray] w1 fun e w' => e = .returned (.string (objB b)) ∧ Below w1.heap.size w1 w') := Lib.hid (fun w1 hb1 => object_any b w1 (by omega) (hbo.below hb1) hbs)
  rw [← he] at CB
  obtain ⟨x1, x2, x3, x4, x5, x6, x7, x8, x9, x10, x11, x12, x13, x14, x15, x16, x17, x18, x19, x20, x21, x22, x23, x24, x25, x26, x27, x28, x29, x30, x31, x32, x33, x34, x35, x36, x37, x38, x39, x40, x41, x42, x43, x44, x45, x46, hx⟩ := ob_cells a
  obtain ⟨y1, y2, y3, y4, y5, y6, y7, y8, y9, y10, y11, y12, y13, y14, y15, y16, y17, y18, y19, y20, y21, y22, y23, y24, y25, y26, y27, y28, y29, y30, y31, y32, y33, y34, y35, y36, y37, y38, y39, y40, y41, y42, y43, y44, y45, y46, hy⟩ := ob_cells b
  rw [ha] at hx
  rw [hb] at hy
  rw [hx] at CA
  rw [hy] at CB
  rw [hx, hy]
  generalize objB a = s at CA CB
  clear hx hy hao hbo has hbs he ha hb
  obtain ⟨k0, k4⟩ := hk
  have kk : (k != k) = false := by simp
  have k5 : ¬ 5 ≤ k := by omega
  go_enter Try.func19, Try.ntmps19
  go_wp2_with fail
  obtain ⟨W0, hW0⟩ : ∃ W0, W0 = (w.alloc (.cells #[.int .i64 k, x1, x2, x3, x4, x5, x6, x7, x8, x9, x10, x11, x12, x13, x14, x15, x16, x17, x18, x19, x20, x21, x22, x23, x24, x25, x26, x27, x28, x29, x30, x31, x32, x33, x34, x35, x36, x37, x38, x39, x40, x41, x42, x43, x44, x45, x46] 48)).alloc (.cells #[.int .i64 k, y1, y2, y3, y4, y5, y6, y7, y8, y9, y10, y11, y12, y13, y14, y15, y16, y17, y18, y19, y20, y21, y22, y23, y24, y25, y26, y27, y28, y29, y30, y31, y32, y33, y34, y35, y36, y37, y38, y39, y40, y41, y42, y43, y44, y45, y46] 48) := ⟨_, rfl⟩
  have hka := (Bk.new w 48 #[.int .i64 k, x1, x2, x3, x4, x5, x6, x7, x8, x9, x10, x11, x12, x13, x14, x15, x16, x17, x18, x19, x20, x21, x22, x23, x24, x25, x26, x27, x28, x29, x30, x31, x32, x33, x34, x35, x36, x37, x38, x39, x40, x41, x42, x43, x44, x45, x46]).alloc (.cells #[.int .i64 k, y1, y2, y3, y4, y5, y6, y7, y8, y9, y10, y11, y12, y13, y14, y15, y16, y17, y18, y19, y20, y21, y22, y23, y24, y25, y26, y27, y28, y29, y30, y31, y32, y33, y34, y35, y36, y37, y38, y39, y40, y41, y42, y43, y44, y45, y46] 48)
  have hkb := Bk.new (w.alloc (.cells #[.int .i64 k, x1, x2, x3, x4, x5, x6, x7, x8, x9, x10, x11, x12, x13, x14, x15, x16, x17, x18, x19, x20, x21, x22, x23, x24, x25, x26, x27, x28, x29, x30, x31, x32, x33, x34, x35, x36, x37, x38, x39, x40, x41, x42, x43, x44, x45, x46] 48)) 48 #[.int .i64 k, y1, y2, y3, y4, y5, y6, y7, y8, y9, y10, y11, y12, y13, y14, y15, y16, y17, y18, y19, y20, y21, y22, y23, y24, y25, y26, y27, y28, y29, y30, y31, y32, y33, y34, y35, y36, y37, y38, y39, y40, y41, y42, y43, y44, y45, y46]
  rw [World.size_alloc] at hkb
  have hB0 : Below w.heap.size w W0 := by rw [hW0]; exact (below_al _ _).alloc (by simp) _
  rw [← hW0] at hka hkb ⊢
  clear hW0
  have hS : ∃ fs, Try.prog.underlying 48 = some (.struct fs) := ⟨_, Try.underlying48⟩
  obtain ⟨fs, hfs⟩ := hS
  have HF := Lib.hid hfs
  clear hfs
  refine wp_region_quiet_below (by kernel_rfl) (by kernel_rfl) ?_
  refine q_load hka rfl 48 (.tmp 2) rfl rfl _ HF.out rfl (by kernel_rfl) ?_
  quiet_step ((go_at_call 14; (with_reducible exact Calls.regrown_of (CA.out _ (below_tr hB0 (below_regrown _ _ _))))))
  refine q_load hkb rfl 48 (.tmp 3) rfl rfl _ HF.out rfl (by kernel_rfl) ?_
  quiet_step ((go_at_call 14; (with_reducible exact Calls.regrown_of (CB.out _ (below_tr hB0 (below_regrown _ _ _))))))
  repeat (quiet_step (fail))
  refine q_done fun W1 hBz => ?_
  go_wp2_with fail
  go_ret
  exact ⟨rfl, hB0.trans (hBz.mono hB0.size)⟩
end Go.Proofs.Ythdjfcfbmmmmcaa
