/-
  The walks of the operations at a store that isn't there.; The walk of trimtablaw07.Few: whether an object's rows are few
-/
import Derived.Test.YtlhaiflebigdlaaCSFws2
import Derived.Test.YtlhaiflebigdlaaCSFws7
import Derived.Test.YtlhaiflebigdlaaCSFws1
section
namespace Go.Proofs.Ytlhaiflebigdlaa
open Go.RowKit Go.Proofs.Mem
set_option linter.unusedVariables false
set_option linter.unusedSimpArgs false
set_option maxRecDepth 100000 in
theorem create_nil (L : Array Value) (w : World) : Calls Try.prog 13 #[.pointer none, .agg L] w fun e w' => e = .returned (.tuple #[.int .u64 0, .int .i64 1]) ∧ Below w.heap.size w w' := by
  go_enter Try.func13, Try.ntmps13
  go_wp2_with fail
  go_ret2
  exact ⟨rfl, (Below.refl _ _).alloc (Nat.le_refl _) _⟩
set_option maxRecDepth 100000 in
theorem update_nil (L : Array Value) (w : World) : Calls Try.prog 14 #[.pointer none, .agg L] w fun e w' => e = .returned (.tuple #[.int .u64 0, .int .i64 1]) ∧ Below w.heap.size w w' := by
  go_enter Try.func14, Try.ntmps14
  go_wp2_with fail
  go_ret2
  exact ⟨rfl, (Below.refl _ _).alloc (Nat.le_refl _) _⟩
set_option maxRecDepth 100000 in
theorem delete_nil (kind : Int) (name : ByteArray) (v : Int) (w : World) : Calls Try.prog 17 #[.pointer none, .int .i64 kind, .string name, .int .u64 v] w fun e w' => e = .returned (.tuple #[.int .u64 0, .int .i64 1]) ∧ w' = w := by
  go_enter Try.func17, Try.ntmps17
  go_wp2_with fail
  go_ret2
  exact ⟨rfl, rfl⟩
set_option maxRecDepth 100000 in
theorem since_nil (v : Int) (w : World) : Calls Try.prog 9 #[.pointer none, .int .u64 v] w fun e w' => e = .returned (.tuple #[.slice none 0 0, .int .i64 1]) ∧ w' = w := by
  go_enter Try.func9, Try.ntmps9
  go_wp2_with fail
  go_ret2
  exact ⟨rfl, rfl⟩
set_option maxRecDepth 100000 in
theorem len_nil (w : World) : Calls Try.prog 11 #[.pointer none] w fun e w' => e = .returned (.int .i64 0) ∧ w' = w := by
  go_enter Try.func11, Try.ntmps11
  go_wp2_with fail
  go_ret
  exact ⟨rfl, rfl⟩
set_option maxRecDepth 100000 in
theorem now_nil (w : World) : Calls Try.prog 8 #[.pointer none] w fun e w' => e = .returned (.int .u64 0) ∧ w' = w := by
  go_enter Try.func8, Try.ntmps8
  go_wp2_with fail
  go_ret
  exact ⟨rfl, rfl⟩
end Go.Proofs.Ytlhaiflebigdlaa
end
section
namespace Go.Proofs.Ytlhaiflebigdlaa
open Go.RowKit Go.Proofs.Mem
set_option linter.unusedVariables false
set_option linter.unusedSimpArgs false
/-- Some bool comes back. -/
def SomeB (e : Ending) : Prop := ∃ b, e = .returned (.bool b)
set_option maxHeartbeats 8000000 in
set_option maxRecDepth 100000 in
theorem few_any (o : Ob) (w : World) (ho : o.Ok w) :
    Calls Try.prog 15 #[.agg o.cells.toArray] w fun e w' => SomeB e ∧ Below w.heap.size w w' := by
  obtain ⟨kind, name, version, ⟨w0, w1, w2, w3, w4, w5, w6⟩, ⟨p0, p1, p2, p3, p4, p5, p6, p7, p8, p9⟩, ⟨n0, n1, n2, n3, n4, n5, n6⟩, ⟨g0, g1, g2, g3, g4, g5, g6, g7⟩, ⟨h0, h1, h2, h3, h4, ⟨h5, h6, h7⟩, ⟨h8, h9, h10⟩, h11⟩⟩ := o
  obtain ⟨vw3, lw3⟩ := w3
  have sw3 := ho.w.labels.1
  simp only at sw3
  obtain ⟨Aw3, cw3, ew3, _⟩ := id sw3
  subst ew3
  obtain ⟨nw3, hnw3⟩ : ∃ n, n = lw3.length := ⟨_, rfl⟩
  rw [← hnw3] at sw3
  obtain ⟨vw4, lw4⟩ := w4
  have sw4 := ho.w.select.1
  simp only at sw4
  obtain ⟨Aw4, cw4, ew4, _⟩ := id sw4
  subst ew4
  obtain ⟨nw4, hnw4⟩ : ∃ n, n = lw4.length := ⟨_, rfl⟩
  rw [← hnw4] at sw4
  obtain ⟨vw5, lw5⟩ := w5
  have sw5 := ho.w.tolerate.1
  simp only at sw5
  obtain ⟨Aw5, cw5, ew5, _⟩ := id sw5
  subst ew5
  obtain ⟨nw5, hnw5⟩ : ∃ n, n = lw5.length := ⟨_, rfl⟩
  rw [← hnw5] at sw5
  obtain ⟨vp6, lp6⟩ := p6
  have sp6 := ho.p.labels.1
  simp only at sp6
  obtain ⟨Ap6, cp6, ep6, _⟩ := id sp6
  subst ep6
  obtain ⟨np6, hnp6⟩ : ∃ n, n = lp6.length := ⟨_, rfl⟩
  rw [← hnp6] at sp6
  obtain ⟨vp7, lp7⟩ := p7
  have sp7 := ho.p.select.1
  simp only at sp7
  obtain ⟨Ap7, cp7, ep7, _⟩ := id sp7
  subst ep7
  obtain ⟨np7, hnp7⟩ : ∃ n, n = lp7.length := ⟨_, rfl⟩
  rw [← hnp7] at sp7
  obtain ⟨vp8, lp8⟩ := p8
  have sp8 := ho.p.tolerate.1
  simp only at sp8
  obtain ⟨Ap8, cp8, ep8, _⟩ := id sp8
  subst ep8
  obtain ⟨np8, hnp8⟩ : ∃ n, n = lp8.length := ⟨_, rfl⟩
  rw [← hnp8] at sp8
  obtain ⟨vn3, ln3⟩ := n3
  have sn3 := ho.n.labels.1
  simp only at sn3
  obtain ⟨An3, cn3, en3, _⟩ := id sn3
  subst en3
  obtain ⟨nn3, hnn3⟩ : ∃ n, n = ln3.length := ⟨_, rfl⟩
  rw [← hnn3] at sn3
  obtain ⟨vn4, ln4⟩ := n4
  have sn4 := ho.n.taints.1
  simp only at sn4
  obtain ⟨An4, cn4, en4, _⟩ := id sn4
  subst en4
  obtain ⟨nn4, hnn4⟩ : ∃ n, n = ln4.length := ⟨_, rfl⟩
  rw [← hnn4] at sn4
  obtain ⟨vg5, lg5⟩ := g5
  have sg5 := ho.g.labels.1
  simp only at sg5
  obtain ⟨Ag5, cg5, eg5, _⟩ := id sg5
  subst eg5
  obtain ⟨ng5, hng5⟩ : ∃ n, n = lg5.length := ⟨_, rfl⟩
  rw [← hng5] at sg5
  obtain ⟨vg6, lg6⟩ := g6
  have sg6 := ho.g.taints.1
  simp only at sg6
  obtain ⟨Ag6, cg6, eg6, _⟩ := id sg6
  subst eg6
  obtain ⟨ng6, hng6⟩ : ∃ n, n = lg6.length := ⟨_, rfl⟩
  rw [← hng6] at sg6
  obtain ⟨vh3, lh3⟩ := h3
  have sh3 := ho.h.metrics.1
  simp only at sh3
  obtain ⟨Ah3, ch3, eh3, _⟩ := id sh3
  subst eh3
  obtain ⟨nh3, hnh3⟩ : ∃ n, n = lh3.length := ⟨_, rfl⟩
  rw [← hnh3] at sh3
  obtain ⟨vh7, lh7⟩ := h7
  have sh7 := ho.h.up.policies.1
  simp only at sh7
  obtain ⟨Ah7, ch7, eh7, _⟩ := id sh7
  subst eh7
  obtain ⟨nh7, hnh7⟩ : ∃ n, n = lh7.length := ⟨_, rfl⟩
  rw [← hnh7] at sh7
  obtain ⟨vh10, lh10⟩ := h10
  have sh10 := ho.h.down.policies.1
  simp only at sh10
  obtain ⟨Ah10, ch10, eh10, _⟩ := id sh10
  subst eh10
  obtain ⟨nh10, hnh10⟩ : ∃ n, n = lh10.length := ⟨_, rfl⟩
  rw [← hnh10] at sh10
  obtain ⟨vh11, lh11⟩ := h11
  have sh11 := ho.h.past.1
  simp only at sh11
  obtain ⟨Ah11, ch11, eh11, _⟩ := id sh11
  subst eh11
  obtain ⟨nh11, hnh11⟩ : ∃ n, n = lh11.length := ⟨_, rfl⟩
  rw [← hnh11] at sh11
  simp only [Ob.cells, Wl.cells, Pd.cells, Nd.cells, Gr.cells, Hp.cells, List.cons_append, List.nil_append]
  rw [← hnw3, ← hnw4, ← hnw5, ← hnp6, ← hnp7, ← hnp8, ← hnn3, ← hnn4, ← hng5, ← hng6, ← hnh3, ← hnh7, ← hnh10, ← hnh11]
  have Hw3 := Lib.hid hnw3
  clear hnw3
  have Hw4 := Lib.hid hnw4
  clear hnw4
  have Hw5 := Lib.hid hnw5
  clear hnw5
  have Hp6 := Lib.hid hnp6
  clear hnp6
  have Hp7 := Lib.hid hnp7
  clear hnp7
  have Hp8 := Lib.hid hnp8
  clear hnp8
  have Hn3 := Lib.hid hnn3
  clear hnn3
  have Hn4 := Lib.hid hnn4
  clear hnn4
  have Hg5 := Lib.hid hng5
  clear hng5
  have Hg6 := Lib.hid hng6
  clear hng6
  have Hh3 := Lib.hid hnh3
  clear hnh3
  have Hh7 := Lib.hid hnh7
  clear hnh7
  have Hh10 := Lib.hid hnh10
  clear hnh10
  have Hh11 := Lib.hid hnh11
  clear hnh11
  have hkb := Bk.new w 56 #[.int .i64 kind, .string name, .int .u64 version, .int .i64 w0, .int .i64 w1, .int .i64 w2, .slice Aw3 nw3 cw3, .slice Aw4 nw4 cw4, .slice Aw5 nw5 cw5, .int .i64 w6, .string p0, .string p1, .int .i64 p2, .int .i64 p3, .int .i64 p4, .int .i64 p5, .slice Ap6 np6 cp6, .slice Ap7 np7 cp7, .slice Ap8 np8 cp8, .int .i64 p9, .string n0, .int .i64 n1, .int .i64 n2, .slice An3 nn3 cn3, .slice An4 nn4 cn4, .int .i64 n5, .bool n6, .int .i64 g0, .int .i64 g1, .int .i64 g2, .int .i64 g3, .int .i64 g4, .slice Ag5 ng5 cg5, .slice Ag6 ng6 cg6, .int .i64 g7, .string h0, .int .i64 h1, .int .i64 h2, .slice Ah3 nh3 ch3, .int .i64 h4, .int .i64 h5, .int .i64 h6, .slice Ah7 nh7 ch7, .int .i64 h8, .int .i64 h9, .slice Ah10 nh10 ch10, .slice Ah11 nh11 ch11]
  go_enter Try.func15, Try.ntmps15
  go_wp2_with fail
  obtain ⟨Wb, hWb⟩ : ∃ Wb, Wb = w.alloc (.cells #[.int .i64 kind, .string name, .int .u64 version, .int .i64 w0, .int .i64 w1, .int .i64 w2, .slice Aw3 nw3 cw3, .slice Aw4 nw4 cw4, .slice Aw5 nw5 cw5, .int .i64 w6, .string p0, .string p1, .int .i64 p2, .int .i64 p3, .int .i64 p4, .int .i64 p5, .slice Ap6 np6 cp6, .slice Ap7 np7 cp7, .slice Ap8 np8 cp8, .int .i64 p9, .string n0, .int .i64 n1, .int .i64 n2, .slice An3 nn3 cn3, .slice An4 nn4 cn4, .int .i64 n5, .bool n6, .int .i64 g0, .int .i64 g1, .int .i64 g2, .int .i64 g3, .int .i64 g4, .slice Ag5 ng5 cg5, .slice Ag6 ng6 cg6, .int .i64 g7, .string h0, .int .i64 h1, .int .i64 h2, .slice Ah3 nh3 ch3, .int .i64 h4, .int .i64 h5, .int .i64 h6, .slice Ah7 nh7 ch7, .int .i64 h8, .int .i64 h9, .slice Ah10 nh10 ch10, .slice Ah11 nh11 ch11] 56) := ⟨_, rfl⟩
  have hBb : Below w.heap.size w Wb := by rw [hWb]; exact below_al _ _
  rw [← hWb] at hkb ⊢
  have bc3 : Wb.cell? ⟨w.heap.size, 3, none⟩ = some (.int .i64 w0) := hkb.cell 3
  have bc4 : Wb.cell? ⟨w.heap.size, 4, none⟩ = some (.int .i64 w1) := hkb.cell 4
  have bc5 : Wb.cell? ⟨w.heap.size, 5, none⟩ = some (.int .i64 w2) := hkb.cell 5
  have bc6 : Wb.cell? ⟨w.heap.size, 6, none⟩ = some (.slice Aw3 nw3 cw3) := hkb.cell 6
  have bc7 : Wb.cell? ⟨w.heap.size, 7, none⟩ = some (.slice Aw4 nw4 cw4) := hkb.cell 7
  have bc8 : Wb.cell? ⟨w.heap.size, 8, none⟩ = some (.slice Aw5 nw5 cw5) := hkb.cell 8
  have bc9 : Wb.cell? ⟨w.heap.size, 9, none⟩ = some (.int .i64 w6) := hkb.cell 9
  have bc10 : Wb.cell? ⟨w.heap.size, 10, none⟩ = some (.string p0) := hkb.cell 10
  have bc11 : Wb.cell? ⟨w.heap.size, 11, none⟩ = some (.string p1) := hkb.cell 11
  have bc12 : Wb.cell? ⟨w.heap.size, 12, none⟩ = some (.int .i64 p2) := hkb.cell 12
  have bc13 : Wb.cell? ⟨w.heap.size, 13, none⟩ = some (.int .i64 p3) := hkb.cell 13
  have bc14 : Wb.cell? ⟨w.heap.size, 14, none⟩ = some (.int .i64 p4) := hkb.cell 14
  have bc15 : Wb.cell? ⟨w.heap.size, 15, none⟩ = some (.int .i64 p5) := hkb.cell 15
  have bc16 : Wb.cell? ⟨w.heap.size, 16, none⟩ = some (.slice Ap6 np6 cp6) := hkb.cell 16
  have bc17 : Wb.cell? ⟨w.heap.size, 17, none⟩ = some (.slice Ap7 np7 cp7) := hkb.cell 17
  have bc18 : Wb.cell? ⟨w.heap.size, 18, none⟩ = some (.slice Ap8 np8 cp8) := hkb.cell 18
  have bc19 : Wb.cell? ⟨w.heap.size, 19, none⟩ = some (.int .i64 p9) := hkb.cell 19
  have bc20 : Wb.cell? ⟨w.heap.size, 20, none⟩ = some (.string n0) := hkb.cell 20
  have bc21 : Wb.cell? ⟨w.heap.size, 21, none⟩ = some (.int .i64 n1) := hkb.cell 21
  have bc22 : Wb.cell? ⟨w.heap.size, 22, none⟩ = some (.int .i64 n2) := hkb.cell 22
  have bc23 : Wb.cell? ⟨w.heap.size, 23, none⟩ = some (.slice An3 nn3 cn3) := hkb.cell 23
  have bc24 : Wb.cell? ⟨w.heap.size, 24, none⟩ = some (.slice An4 nn4 cn4) := hkb.cell 24
  have bc25 : Wb.cell? ⟨w.heap.size, 25, none⟩ = some (.int .i64 n5) := hkb.cell 25
  have bc26 : Wb.cell? ⟨w.heap.size, 26, none⟩ = some (.bool n6) := hkb.cell 26
  have bc27 : Wb.cell? ⟨w.heap.size, 27, none⟩ = some (.int .i64 g0) := hkb.cell 27
  have bc28 : Wb.cell? ⟨w.heap.size, 28, none⟩ = some (.int .i64 g1) := hkb.cell 28
  have bc29 : Wb.cell? ⟨w.heap.size, 29, none⟩ = some (.int .i64 g2) := hkb.cell 29
  have bc30 : Wb.cell? ⟨w.heap.size, 30, none⟩ = some (.int .i64 g3) := hkb.cell 30
  have bc31 : Wb.cell? ⟨w.heap.size, 31, none⟩ = some (.int .i64 g4) := hkb.cell 31
  have bc32 : Wb.cell? ⟨w.heap.size, 32, none⟩ = some (.slice Ag5 ng5 cg5) := hkb.cell 32
  have bc33 : Wb.cell? ⟨w.heap.size, 33, none⟩ = some (.slice Ag6 ng6 cg6) := hkb.cell 33
  have bc34 : Wb.cell? ⟨w.heap.size, 34, none⟩ = some (.int .i64 g7) := hkb.cell 34
  have bc35 : Wb.cell? ⟨w.heap.size, 35, none⟩ = some (.string h0) := hkb.cell 35
  have bc36 : Wb.cell? ⟨w.heap.size, 36, none⟩ = some (.int .i64 h1) := hkb.cell 36
  have bc37 : Wb.cell? ⟨w.heap.size, 37, none⟩ = some (.int .i64 h2) := hkb.cell 37
  have bc38 : Wb.cell? ⟨w.heap.size, 38, none⟩ = some (.slice Ah3 nh3 ch3) := hkb.cell 38
  have bc39 : Wb.cell? ⟨w.heap.size, 39, none⟩ = some (.int .i64 h4) := hkb.cell 39
  have bc40 : Wb.cell? ⟨w.heap.size, 40, none⟩ = some (.int .i64 h5) := hkb.cell 40
  have bc41 : Wb.cell? ⟨w.heap.size, 41, none⟩ = some (.int .i64 h6) := hkb.cell 41
  have bc42 : Wb.cell? ⟨w.heap.size, 42, none⟩ = some (.slice Ah7 nh7 ch7) := hkb.cell 42
  have bc43 : Wb.cell? ⟨w.heap.size, 43, none⟩ = some (.int .i64 h8) := hkb.cell 43
  have bc44 : Wb.cell? ⟨w.heap.size, 44, none⟩ = some (.int .i64 h9) := hkb.cell 44
  have bc45 : Wb.cell? ⟨w.heap.size, 45, none⟩ = some (.slice Ah10 nh10 ch10) := hkb.cell 45
  have bc46 : Wb.cell? ⟨w.heap.size, 46, none⟩ = some (.slice Ah11 nh11 ch11) := hkb.cell 46
  clear hkb hWb
  refine wp_region_vars (W := Wb) (B := Wb.heap.size)
    (ps := [⟨0, 10, .pointer (some ⟨w.heap.size, 3, none⟩)⟩,
      ⟨1, 11, .agg #[.int .i64 w0, .int .i64 w1, .int .i64 w2, .slice Aw3 nw3 cw3, .slice Aw4 nw4 cw4, .slice Aw5 nw5 cw5, .int .i64 w6]⟩,
      ⟨2, 12, .pointer (some ⟨w.heap.size, 10, none⟩)⟩,
      ⟨3, 13, .agg #[.string p0, .string p1, .int .i64 p2, .int .i64 p3, .int .i64 p4, .int .i64 p5, .slice Ap6 np6 cp6, .slice Ap7 np7 cp7, .slice Ap8 np8 cp8, .int .i64 p9]⟩,
      ⟨4, 14, .pointer (some ⟨w.heap.size, 20, none⟩)⟩,
      ⟨5, 15, .agg #[.string n0, .int .i64 n1, .int .i64 n2, .slice An3 nn3 cn3, .slice An4 nn4 cn4, .int .i64 n5, .bool n6]⟩,
      ⟨6, 16, .pointer (some ⟨w.heap.size, 27, none⟩)⟩,
      ⟨7, 17, .agg #[.int .i64 g0, .int .i64 g1, .int .i64 g2, .int .i64 g3, .int .i64 g4, .slice Ag5 ng5 cg5, .slice Ag6 ng6 cg6, .int .i64 g7]⟩,
      ⟨8, 18, .pointer (some ⟨w.heap.size, 35, none⟩)⟩,
      ⟨9, 19, .agg #[.string h0, .int .i64 h1, .int .i64 h2, .slice Ah3 nh3 ch3, .int .i64 h4, .int .i64 h5, .int .i64 h6, .slice Ah7 nh7 ch7, .int .i64 h8, .int .i64 h9, .slice Ah10 nh10 ch10, .slice Ah11 nh11 ch11]⟩])
    (vs := [⟨10, 15, 3, 41, #[.int .i64 0, .int .i64 0, .int .i64 0, .slice none 0 0, .slice none 0 0, .slice none 0 0, .int .i64 0], #[.int .i64 w0, .int .i64 w1, .int .i64 w2, .slice Aw3 nw3 cw3, .slice Aw4 nw4 cw4, .slice Aw5 nw5 cw5, .int .i64 w6]⟩,
      ⟨11, 16, 4, 43, #[.string ⟨#[]⟩, .string ⟨#[]⟩, .int .i64 0, .int .i64 0, .int .i64 0, .int .i64 0, .slice none 0 0, .slice none 0 0, .slice none 0 0, .int .i64 0], #[.string p0, .string p1, .int .i64 p2, .int .i64 p3, .int .i64 p4, .int .i64 p5, .slice Ap6 np6 cp6, .slice Ap7 np7 cp7, .slice Ap8 np8 cp8, .int .i64 p9]⟩,
      ⟨12, 17, 5, 45, #[.string ⟨#[]⟩, .int .i64 0, .int .i64 0, .slice none 0 0, .slice none 0 0, .int .i64 0, .bool false], #[.string n0, .int .i64 n1, .int .i64 n2, .slice An3 nn3 cn3, .slice An4 nn4 cn4, .int .i64 n5, .bool n6]⟩,
      ⟨13, 18, 6, 47, #[.int .i64 0, .int .i64 0, .int .i64 0, .int .i64 0, .int .i64 0, .slice none 0 0, .slice none 0 0, .int .i64 0], #[.int .i64 g0, .int .i64 g1, .int .i64 g2, .int .i64 g3, .int .i64 g4, .slice Ag5 ng5 cg5, .slice Ag6 ng6 cg6, .int .i64 g7]⟩,
      ⟨14, 19, 7, 54, #[.string ⟨#[]⟩, .int .i64 0, .int .i64 0, .slice none 0 0, .int .i64 0, .int .i64 0, .int .i64 0, .slice none 0 0, .int .i64 0, .int .i64 0, .slice none 0 0, .slice none 0 0], #[.string h0, .int .i64 h1, .int .i64 h2, .slice Ah3 nh3 ch3, .int .i64 h4, .int .i64 h5, .int .i64 h6, .slice Ah7 nh7 ch7, .int .i64 h8, .int .i64 h9, .slice Ah10 nh10 ch10, .slice Ah11 nh11 ch11]⟩])
    (by kernel_rfl) ?_ (Nat.le_refl _) (Below.refl _ _) ?_
  · constructor
    · intro p hp
      simp only [List.mem_cons, List.not_mem_nil, or_false] at hp
      rcases hp with rfl | rfl | rfl | rfl | rfl | rfl | rfl | rfl | rfl | rfl
      · refine ⟨_, rfl, rfl, rfl, fun a w' hA hB => ?_⟩
        have e1 := at_other hA 1 _ rfl rfl rfl
        clear hA
        go_simp
      · refine ⟨_, rfl, rfl, rfl, fun a w' hA hB => ?_⟩
        have e1 := at_pure hA 0 _ rfl rfl
        clear hA
        have k3 := keep_cell hB bc3
        have k4 := keep_cell hB bc4
        have k5 := keep_cell hB bc5
        have k6 := keep_cell hB bc6
        have k7 := keep_cell hB bc7
        have k8 := keep_cell hB bc8
        have k9 := keep_cell hB bc9
        clear hB bc3 bc4 bc5 bc6 bc7 bc8 bc9 bc10 bc11 bc12 bc13 bc14 bc15 bc16 bc17 bc18 bc19 bc20 bc21 bc22 bc23 bc24 bc25 bc26 bc27 bc28 bc29 bc30 bc31 bc32 bc33 bc34 bc35 bc36 bc37 bc38 bc39 bc40 bc41 bc42 bc43 bc44 bc45 bc46
        go_simp
      · refine ⟨_, rfl, rfl, rfl, fun a w' hA hB => ?_⟩
        have e1 := at_other hA 1 _ rfl rfl rfl
        clear hA
        go_simp
      · refine ⟨_, rfl, rfl, rfl, fun a w' hA hB => ?_⟩
        have e1 := at_pure hA 2 _ rfl rfl
        clear hA
        have k10 := keep_cell hB bc10
        have k11 := keep_cell hB bc11
        have k12 := keep_cell hB bc12
        have k13 := keep_cell hB bc13
        have k14 := keep_cell hB bc14
        have k15 := keep_cell hB bc15
        have k16 := keep_cell hB bc16
        have k17 := keep_cell hB bc17
        have k18 := keep_cell hB bc18
        have k19 := keep_cell hB bc19
        clear hB bc3 bc4 bc5 bc6 bc7 bc8 bc9 bc10 bc11 bc12 bc13 bc14 bc15 bc16 bc17 bc18 bc19 bc20 bc21 bc22 bc23 bc24 bc25 bc26 bc27 bc28 bc29 bc30 bc31 bc32 bc33 bc34 bc35 bc36 bc37 bc38 bc39 bc40 bc41 bc42 bc43 bc44 bc45 bc46
        go_simp
      · refine ⟨_, rfl, rfl, rfl, fun a w' hA hB => ?_⟩
        have e1 := at_other hA 1 _ rfl rfl rfl
        clear hA
        go_simp
      · refine ⟨_, rfl, rfl, rfl, fun a w' hA hB => ?_⟩
        have e1 := at_pure hA 4 _ rfl rfl
        clear hA
        have k20 := keep_cell hB bc20
        have k21 := keep_cell hB bc21
        have k22 := keep_cell hB bc22
        have k23 := keep_cell hB bc23
        have k24 := keep_cell hB bc24
        have k25 := keep_cell hB bc25
        have k26 := keep_cell hB bc26
        clear hB bc3 bc4 bc5 bc6 bc7 bc8 bc9 bc10 bc11 bc12 bc13 bc14 bc15 bc16 bc17 bc18 bc19 bc20 bc21 bc22 bc23 bc24 bc25 bc26 bc27 bc28 bc29 bc30 bc31 bc32 bc33 bc34 bc35 bc36 bc37 bc38 bc39 bc40 bc41 bc42 bc43 bc44 bc45 bc46
        go_simp
      · refine ⟨_, rfl, rfl, rfl, fun a w' hA hB => ?_⟩
        have e1 := at_other hA 1 _ rfl rfl rfl
        clear hA
        go_simp
      · refine ⟨_, rfl, rfl, rfl, fun a w' hA hB => ?_⟩
        have e1 := at_pure hA 6 _ rfl rfl
        clear hA
        have k27 := keep_cell hB bc27
        have k28 := keep_cell hB bc28
        have k29 := keep_cell hB bc29
        have k30 := keep_cell hB bc30
        have k31 := keep_cell hB bc31
        have k32 := keep_cell hB bc32
        have k33 := keep_cell hB bc33
        have k34 := keep_cell hB bc34
        clear hB bc3 bc4 bc5 bc6 bc7 bc8 bc9 bc10 bc11 bc12 bc13 bc14 bc15 bc16 bc17 bc18 bc19 bc20 bc21 bc22 bc23 bc24 bc25 bc26 bc27 bc28 bc29 bc30 bc31 bc32 bc33 bc34 bc35 bc36 bc37 bc38 bc39 bc40 bc41 bc42 bc43 bc44 bc45 bc46
        go_simp
      · refine ⟨_, rfl, rfl, rfl, fun a w' hA hB => ?_⟩
        have e1 := at_other hA 1 _ rfl rfl rfl
        clear hA
        go_simp
      · refine ⟨_, rfl, rfl, rfl, fun a w' hA hB => ?_⟩
        have e1 := at_pure hA 8 _ rfl rfl
        clear hA
        have k35 := keep_cell hB bc35
        have k36 := keep_cell hB bc36
        have k37 := keep_cell hB bc37
        have k38 := keep_cell hB bc38
        have k39 := keep_cell hB bc39
        have k40 := keep_cell hB bc40
        have k41 := keep_cell hB bc41
        have k42 := keep_cell hB bc42
        have k43 := keep_cell hB bc43
        have k44 := keep_cell hB bc44
        have k45 := keep_cell hB bc45
        have k46 := keep_cell hB bc46
        clear hB bc3 bc4 bc5 bc6 bc7 bc8 bc9 bc10 bc11 bc12 bc13 bc14 bc15 bc16 bc17 bc18 bc19 bc20 bc21 bc22 bc23 bc24 bc25 bc26 bc27 bc28 bc29 bc30 bc31 bc32 bc33 bc34 bc35 bc36 bc37 bc38 bc39 bc40 bc41 bc42 bc43 bc44 bc45 bc46
        go_simp
    · intro v hv
      simp only [List.mem_cons, List.not_mem_nil, or_false] at hv
      rcases hv with rfl | rfl | rfl | rfl | rfl
      all_goals
        refine ⟨_, rfl, rfl, rfl, fun a w' => ?_⟩
        go_simp
    · intro v hv
      simp only [List.mem_cons, List.not_mem_nil, or_false] at hv
      rcases hv with rfl | rfl | rfl | rfl | rfl
      · refine ⟨_, rfl, rfl, rfl, deps_of rfl, fun a w' g hA e2 hk => ?_⟩
        have e1 := at_pure hA 1 _ rfl rfl
        clear hA
        have k0 := hk.cell 0
        have f0 := hk.frozen 0
        have k1 := hk.cell 1
        have f1 := hk.frozen 1
        have k2 := hk.cell 2
        have f2 := hk.frozen 2
        have k3 := hk.cell 3
        have f3 := hk.frozen 3
        have k4 := hk.cell 4
        have f4 := hk.frozen 4
        have k5 := hk.cell 5
        have f5 := hk.frozen 5
        have k6 := hk.cell 6
        have f6 := hk.frozen 6
        clear hk
        go_simp
        rfl
      · refine ⟨_, rfl, rfl, rfl, deps_of rfl, fun a w' g hA e2 hk => ?_⟩
        have e1 := at_pure hA 3 _ rfl rfl
        clear hA
        have k0 := hk.cell 0
        have f0 := hk.frozen 0
        have k1 := hk.cell 1
        have f1 := hk.frozen 1
        have k2 := hk.cell 2
        have f2 := hk.frozen 2
        have k3 := hk.cell 3
        have f3 := hk.frozen 3
        have k4 := hk.cell 4
        have f4 := hk.frozen 4
        have k5 := hk.cell 5
        have f5 := hk.frozen 5
        have k6 := hk.cell 6
        have f6 := hk.frozen 6
        have k7 := hk.cell 7
        have f7 := hk.frozen 7
        have k8 := hk.cell 8
        have f8 := hk.frozen 8
        have k9 := hk.cell 9
        have f9 := hk.frozen 9
        clear hk
        go_simp
        rfl
      · refine ⟨_, rfl, rfl, rfl, deps_of rfl, fun a w' g hA e2 hk => ?_⟩
        have e1 := at_pure hA 5 _ rfl rfl
        clear hA
        have k0 := hk.cell 0
        have f0 := hk.frozen 0
        have k1 := hk.cell 1
        have f1 := hk.frozen 1
        have k2 := hk.cell 2
        have f2 := hk.frozen 2
        have k3 := hk.cell 3
        have f3 := hk.frozen 3
        have k4 := hk.cell 4
        have f4 := hk.frozen 4
        have k5 := hk.cell 5
        have f5 := hk.frozen 5
        have k6 := hk.cell 6
        have f6 := hk.frozen 6
        clear hk
        go_simp
        rfl
      · refine ⟨_, rfl, rfl, rfl, deps_of rfl, fun a w' g hA e2 hk => ?_⟩
        have e1 := at_pure hA 7 _ rfl rfl
        clear hA
        have k0 := hk.cell 0
        have f0 := hk.frozen 0
        have k1 := hk.cell 1
        have f1 := hk.frozen 1
        have k2 := hk.cell 2
        have f2 := hk.frozen 2
        have k3 := hk.cell 3
        have f3 := hk.frozen 3
        have k4 := hk.cell 4
        have f4 := hk.frozen 4
        have k5 := hk.cell 5
        have f5 := hk.frozen 5
        have k6 := hk.cell 6
        have f6 := hk.frozen 6
        have k7 := hk.cell 7
        have f7 := hk.frozen 7
        clear hk
        go_simp
        rfl
      · refine ⟨_, rfl, rfl, rfl, deps_of rfl, fun a w' g hA e2 hk => ?_⟩
        have e1 := at_pure hA 9 _ rfl rfl
        clear hA
        have k0 := hk.cell 0
        have f0 := hk.frozen 0
        have k1 := hk.cell 1
        have f1 := hk.frozen 1
        have k2 := hk.cell 2
        have f2 := hk.frozen 2
        have k3 := hk.cell 3
        have f3 := hk.frozen 3
        have k4 := hk.cell 4
        have f4 := hk.frozen 4
        have k5 := hk.cell 5
        have f5 := hk.frozen 5
        have k6 := hk.cell 6
        have f6 := hk.frozen 6
        have k7 := hk.cell 7
        have f7 := hk.frozen 7
        have k8 := hk.cell 8
        have f8 := hk.frozen 8
        have k9 := hk.cell 9
        have f9 := hk.frozen 9
        have k10 := hk.cell 10
        have f10 := hk.frozen 10
        have k11 := hk.cell 11
        have f11 := hk.frozen 11
        clear hk
        go_simp
        rfl
    · intro v hv
      simp only [List.mem_cons, List.not_mem_nil, or_false] at hv
      rcases hv with rfl | rfl | rfl | rfl | rfl <;> rfl
    · show ∀ i, i < 20 → i ∈ [0, 1, 2, 3, 4, 5, 6, 7, 8, 9, 10, 11, 12, 13, 14, 15, 16, 17, 18, 19]
      decide
    · show ([0, 1, 2, 3, 4, 5, 6, 7, 8, 9, 10, 11, 12, 13, 14, 15, 16, 17, 18, 19] : List Nat).Nodup
      decide
    · show ([10, 11, 12, 13, 14, 15, 16, 17, 18, 19, 3, 4, 5, 6, 7] : List Nat).Nodup
      decide
    · show ∀ s ∈ ([10, 11, 12, 13, 14, 15, 16, 17, 18, 19, 3, 4, 5, 6, 7] : List Nat), s < 72
      decide
    · exact up_of (by decide +kernel)
  · intro gg W2 hB2 hv hd
    clear hd
    have hBw : Below w.heap.size w W2 := hBb.trans (hB2.mono hBb.size)
    obtain ⟨_, k3⟩ := hv _ (List.mem_cons_self ..)
    obtain ⟨_, k4⟩ := hv _ (List.mem_cons_of_mem _ (List.mem_cons_self ..))
    obtain ⟨_, k5⟩ := hv _ (List.mem_cons_of_mem _ (List.mem_cons_of_mem _ (List.mem_cons_self ..)))
    obtain ⟨_, k6⟩ := hv _ (List.mem_cons_of_mem _ (List.mem_cons_of_mem _ (List.mem_cons_of_mem _ (List.mem_cons_self ..))))
    obtain ⟨_, k7⟩ := hv _ (List.mem_cons_of_mem _ (List.mem_cons_of_mem _ (List.mem_cons_of_mem _ (List.mem_cons_of_mem _ (List.mem_cons_self ..)))))
    clear hv hB2 hBb bc3 bc4 bc5 bc6 bc7 bc8 bc9 bc10 bc11 bc12 bc13 bc14 bc15 bc16 bc17 bc18 bc19 bc20 bc21 bc22 bc23 bc24 bc25 bc26 bc27 bc28 bc29 bc30 bc31 bc32 bc33 bc34 bc35 bc36 bc37 bc38 bc39 bc40 bc41 bc42 bc43 bc44 bc45 bc46
    simp only at k3 k4 k5 k6 k7
    simp only [putAll, setsOf, List.map_cons, List.map_nil, List.cons_append, List.nil_append, List.foldl_cons, List.foldl_nil, List.setIfInBounds_toArray, List.set_cons_zero, List.set_cons_succ]
    generalize gg 3 = G3 at k3 ⊢
    generalize gg 4 = G4 at k4 ⊢
    generalize gg 5 = G5 at k5 ⊢
    generalize gg 6 = G6 at k6 ⊢
    generalize gg 7 = G7 at k7 ⊢
    obtain ⟨W3, hW3⟩ : ∃ W3, W3 = W2.alloc (.cells #[.slice Aw3 nw3 cw3, .slice Aw5 nw5 cw5, .slice Ap6 np6 cp6, .slice Ap8 np8 cp8, .slice An3 nn3 cn3, .slice An4 nn4 cn4, .slice Ag5 ng5 cg5, .slice Ag6 ng6 cg6] 38) := ⟨_, rfl⟩
    have kk := Bk.new W2 38 #[.slice Aw3 nw3 cw3, .slice Aw5 nw5 cw5, .slice Ap6 np6 cp6, .slice Ap8 np8 cp8, .slice An3 nn3 cn3, .slice An4 nn4 cn4, .slice Ag5 ng5 cg5, .slice Ag6 ng6 cg6]
    have hB3 : Below w.heap.size w W3 := by rw [hW3]; exact hBw.alloc hBw.size _
    have j3 := k3.alloc (.cells #[.slice Aw3 nw3 cw3, .slice Aw5 nw5 cw5, .slice Ap6 np6 cp6, .slice Ap8 np8 cp8, .slice An3 nn3 cn3, .slice An4 nn4 cn4, .slice Ag5 ng5 cg5, .slice Ag6 ng6 cg6] 38)
    have j4 := k4.alloc (.cells #[.slice Aw3 nw3 cw3, .slice Aw5 nw5 cw5, .slice Ap6 np6 cp6, .slice Ap8 np8 cp8, .slice An3 nn3 cn3, .slice An4 nn4 cn4, .slice Ag5 ng5 cg5, .slice Ag6 ng6 cg6] 38)
    have j7 := k7.alloc (.cells #[.slice Aw3 nw3 cw3, .slice Aw5 nw5 cw5, .slice Ap6 np6 cp6, .slice Ap8 np8 cp8, .slice An3 nn3 cn3, .slice An4 nn4 cn4, .slice Ag5 ng5 cg5, .slice Ag6 ng6 cg6] 38)
    rw [← hW3] at kk j3 j4 j7
    have HW3 := Lib.hid hW3
    clear hW3
    have x33 : W2.cell? ⟨G3, 3, none⟩ = some (.slice Aw3 nw3 cw3) := k3.cell 3
    have x35 : W2.cell? ⟨G3, 5, none⟩ = some (.slice Aw5 nw5 cw5) := k3.cell 5
    have x46 : W2.cell? ⟨G4, 6, none⟩ = some (.slice Ap6 np6 cp6) := k4.cell 6
    have x48 : W2.cell? ⟨G4, 8, none⟩ = some (.slice Ap8 np8 cp8) := k4.cell 8
    have x53 : W2.cell? ⟨G5, 3, none⟩ = some (.slice An3 nn3 cn3) := k5.cell 3
    have x54 : W2.cell? ⟨G5, 4, none⟩ = some (.slice An4 nn4 cn4) := k5.cell 4
    have x65 : W2.cell? ⟨G6, 5, none⟩ = some (.slice Ag5 ng5 cg5) := k6.cell 5
    have x66 : W2.cell? ⟨G6, 6, none⟩ = some (.slice Ag6 ng6 cg6) := k6.cell 6
    clear k3 k4 k5 k6 k7
    go_wp2_with fail
    rw [← HW3.out]
    clear x33 x35 x46 x48 x53 x54 x65 x66
    have ee : ∀ k : Nat, k < 8 → ∃ A n c, W3.cell? ⟨W2.heap.size, k, none⟩ = some (.slice A n c) := by
      intro k hk
      rw [kk.cell]
      match k, hk with
      | 0, _ => exact ⟨_, _, _, rfl⟩
      | 1, _ => exact ⟨_, _, _, rfl⟩
      | 2, _ => exact ⟨_, _, _, rfl⟩
      | 3, _ => exact ⟨_, _, _, rfl⟩
      | 4, _ => exact ⟨_, _, _, rfl⟩
      | 5, _ => exact ⟨_, _, _, rfl⟩
      | 6, _ => exact ⟨_, _, _, rfl⟩
      | 7, _ => exact ⟨_, _, _, rfl⟩
    have EE := Lib.hid ee
    clear ee kk HW3
    go_loop [38, 9] (fun i s => ∃ k : Nat, k ≤ 8 ∧ i = .int .i64 k) (fun i s => 8 - (intOf i).toNat)
    case atStart => exact ⟨0, by omega, rfl⟩
    case round =>
      obtain ⟨k, hk, rfl⟩ := hrel
      by_cases hlt : k < 8
      · obtain ⟨A, n, c, hcell⟩ := EE.out k hlt
        have hn : n ≤ 30 ∨ 30 < n := by omega
        have i0 : (0 : Int) ≤ (k : Int) := by omega
        have i1 : (k : Int) < 8 := by omega
        clear j3 j4 j7 EE
        rcases hn with hn | hn
        · have hnI : ((n : Nat) : Int) ≤ 30 := by omega
          go_wp2_with fail
          exact ⟨⟨k + 1, by omega, by go_num⟩, by simp [intOf]; omega⟩
        · have hnI : (30 : Int) < ((n : Nat) : Int) := by omega
          go_wp2_with fail
          go_ret
          exact ⟨⟨false, rfl⟩, hB3⟩
      · have x34 : W3.cell? ⟨G3, 4, none⟩ = some (.slice Aw4 nw4 cw4) := j3.cell 4
        have x47 : W3.cell? ⟨G4, 7, none⟩ = some (.slice Ap7 np7 cp7) := j4.cell 7
        have x73 : W3.cell? ⟨G7, 3, none⟩ = some (.slice Ah3 nh3 ch3) := j7.cell 3
        have x77 : W3.cell? ⟨G7, 7, none⟩ = some (.slice Ah7 nh7 ch7) := j7.cell 7
        have x710 : W3.cell? ⟨G7, 10, none⟩ = some (.slice Ah10 nh10 ch10) := j7.cell 10
        have x711 : W3.cell? ⟨G7, 11, none⟩ = some (.slice Ah11 nh11 ch11) := j7.cell 11
        clear j3 j4 j7 EE
        go_wp2_with fail
        go_ret
        exact ⟨⟨_, rfl⟩, hB3⟩
end Go.Proofs.Ytlhaiflebigdlaa
end
