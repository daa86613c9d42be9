/-
  The walk of trimtablaw07.Few: whether an object's rows are few; A range over a function whose body may lean on what is known of that which is handed to it (that its rows read so in the world of the round); XSch's rule inside a fence: a region that draws its order, walked by a schedule that is checked; The walks of package trimtabref06: an object's bytes.; The walks of package trimtabref06: the bytes of rows of labels, of asks, of a behavior.; The walks of package trimtabref06: the bytes of a behavior; the folds over rows of metrics and of what was done; The bytes of an object, as the reference says them: plain; The walk of trimtabref06.Object at one kind; The walk of trimtabref06.Object at one kind; The walk of trimtabref06.Object at one kind; The walk of trimtabref06.Object at one kind; The walk of trimtabref06.Object at an Hpa; The walk of trimtabref06.Same, of two objects of one kind whose bytes are the same; A region that draws its order, in a round of a range over a function, at the wide fence: one walk of the text's order serves every order; A region that draws its order, whose operations only read but for the last one, which waits for all the others: one walk in the text's order of all but the last, then that one; The store's Copy: another store, in blocks of its own, that holds the same; A range over a function whose iterator leans on what the body keeps (Qi), and whose body on what is known of that which is handed to it; A row of objects, as an argument reads.; Plain arithmetic under math/bits.Div64: a division of 128 bits by 64, by two digits of 32 bits, as the library's text goes; no Go in sight.
-/
import Derived.Test.YtoobjfpkdlffpaaCMNes1
import Derived.RangeFuncNested
import Derived.RangeFuncBound
import Derived.RangeFuncLeaves
import Derived.OrdersIn
import Derived.TacticsIn
import Derived.Deep.RegionHeld3
import Derived.Deep.QuietTactic
import Derived.BigQuiet
import Derived.Laws.StructEq
import Derived.Laws.IdiomStrings
import Derived.Laws.Concat
import Derived.Lib.QuietBelow
import Derived.RangeFuncCalls
import Derived.CallsIn
import Derived.Orders
import Derived.Test.YtoobjfpkdlffpaaCMNes4
import Derived.Shelf.SlMaps.Clone
import Derived.Laws.BitsAllLaws
import Derived.Laws.Bits64
import Derived.Lib.BitFns
section
namespace Go.Proofs.Ytoobjfpkdlffpaa
open Go.RowKit Go.Proofs.Mem
set_option linter.unusedVariables false
set_option linter.unusedSimpArgs false
def SomeB (e : Ending) : Prop := ∃ b, e = .returned (.bool b)
set_option maxHeartbeats 8000000 in
set_option maxRecDepth 100000 in
theorem few_any (o : Ob) (w : World) (ho : o.Ok w) :
    Calls Try.prog 21 #[.agg o.cells.toArray] w fun e w' => SomeB e ∧ Below w.heap.size w w' := by
  obtain ⟨kind, name, version, ⟨w0, w1, w2, w3, w4, w5, w6⟩, ⟨p0, p1, p2, p3, p4, p5, p6, p7, p8, p9⟩, ⟨n0, n1, n2, n3, n4, n5, n6⟩, ⟨g0, g1, g2, g3, g4, g5, g6, g7⟩, ⟨h0, h1, h2, h3, h4, ⟨h5, h6, h7⟩, ⟨h8, h9, h10⟩, h11⟩⟩ := o
  obtain ⟨vw3, lw3⟩ := w3
  have sw3 := ho.w.labels.1
  simp only at sw3
  obtain ⟨Aw3, cw3, ew3, _⟩ := id sw3
  subst ew3
  obtain ⟨nw3, hnw3⟩ : ∃ n, n = lw3.length := ⟨_, rfl⟩
  rw [← hnw3] at sw3
  obtain ⟨vw4, lw4⟩ := w4
  have sw4 := ho.w.select.1
  simp only at sw4
  obtain ⟨Aw4, cw4, ew4, _⟩ := id sw4
  subst ew4
  obtain ⟨nw4, hnw4⟩ : ∃ n, n = lw4.length := ⟨_, rfl⟩
  rw [← hnw4] at sw4
  obtain ⟨vw5, lw5⟩ := w5
  have sw5 := ho.w.tolerate.1
  simp only at sw5
  obtain ⟨Aw5, cw5, ew5, _⟩ := id sw5
  subst ew5
  obtain ⟨nw5, hnw5⟩ : ∃ n, n = lw5.length := ⟨_, rfl⟩
  rw [← hnw5] at sw5
  obtain ⟨vp6, lp6⟩ := p6
  have sp6 := ho.p.labels.1
  simp only at sp6
  obtain ⟨Ap6, cp6, ep6, _⟩ := id sp6
  subst ep6
  obtain ⟨np6, hnp6⟩ : ∃ n, n = lp6.length := ⟨_, rfl⟩
  rw [← hnp6] at sp6
  obtain ⟨vp7, lp7⟩ := p7
  have sp7 := ho.p.select.1
  simp only at sp7
  obtain ⟨Ap7, cp7, ep7, _⟩ := id sp7
  subst ep7
  obtain ⟨np7, hnp7⟩ : ∃ n, n = lp7.length := ⟨_, rfl⟩
  rw [← hnp7] at sp7
  obtain ⟨vp8, lp8⟩ := p8
  have sp8 := ho.p.tolerate.1
  simp only at sp8
  obtain ⟨Ap8, cp8, ep8, _⟩ := id sp8
  subst ep8
  obtain ⟨np8, hnp8⟩ : ∃ n, n = lp8.length := ⟨_, rfl⟩
  rw [← hnp8] at sp8
  obtain ⟨vn3, ln3⟩ := n3
  have sn3 := ho.n.labels.1
  simp only at sn3
  obtain ⟨An3, cn3, en3, _⟩ := id sn3
  subst en3
  obtain ⟨nn3, hnn3⟩ : ∃ n, n = ln3.length := ⟨_, rfl⟩
  rw [← hnn3] at sn3
  obtain ⟨vn4, ln4⟩ := n4
  have sn4 := ho.n.taints.1
  simp only at sn4
  obtain ⟨An4, cn4, en4, _⟩ := id sn4
  subst en4
  obtain ⟨nn4, hnn4⟩ : ∃ n, n = ln4.length := ⟨_, rfl⟩
  rw [← hnn4] at sn4
  obtain ⟨vg5, lg5⟩ := g5
  have sg5 := ho.g.labels.1
  simp only at sg5
  obtain ⟨Ag5, cg5, eg5, _⟩ := id sg5
  subst eg5
  obtain ⟨ng5, hng5⟩ : ∃ n, n = lg5.length := ⟨_, rfl⟩
  rw [← hng5] at sg5
  obtain ⟨vg6, lg6⟩ := g6
  have sg6 := ho.g.taints.1
  simp only at sg6
  obtain ⟨Ag6, cg6, eg6, _⟩ := id sg6
  subst eg6
  obtain ⟨ng6, hng6⟩ : ∃ n, n = lg6.length := ⟨_, rfl⟩
  rw [← hng6] at sg6
  obtain ⟨vh3, lh3⟩ := h3
  have sh3 := ho.h.metrics.1
  simp only at sh3
  obtain ⟨Ah3, ch3, eh3, _⟩ := id sh3
  subst eh3
  obtain ⟨nh3, hnh3⟩ : ∃ n, n = lh3.length := ⟨_, rfl⟩
  rw [← hnh3] at sh3
  obtain ⟨vh7, lh7⟩ := h7
  have sh7 := ho.h.up.policies.1
  simp only at sh7
  obtain ⟨Ah7, ch7, eh7, _⟩ := id sh7
  subst eh7
  obtain ⟨nh7, hnh7⟩ : ∃ n, n = lh7.length := ⟨_, rfl⟩
  rw [← hnh7] at sh7
  obtain ⟨vh10, lh10⟩ := h10
  have sh10 := ho.h.down.policies.1
  simp only at sh10
  obtain ⟨Ah10, ch10, eh10, _⟩ := id sh10
  subst eh10
  obtain ⟨nh10, hnh10⟩ : ∃ n, n = lh10.length := ⟨_, rfl⟩
  rw [← hnh10] at sh10
  obtain ⟨vh11, lh11⟩ := h11
  have sh11 := ho.h.past.1
  simp only at sh11
  obtain ⟨Ah11, ch11, eh11, _⟩ := id sh11
  subst eh11
  obtain ⟨nh11, hnh11⟩ : ∃ n, n = lh11.length := ⟨_, rfl⟩
  rw [← hnh11] at sh11
  simp only [Ob.cells, Wl.cells, Pd.cells, Nd.cells, Gr.cells, Hp.cells, List.cons_append, List.nil_append]
  rw [← hnw3, ← hnw4, ← hnw5, ← hnp6, ← hnp7, ← hnp8, ← hnn3, ← hnn4, ← hng5, ← hng6, ← hnh3, ← hnh7, ← hnh10, ← hnh11]
  have Hw3 := Lib.hid hnw3
  clear hnw3
  have Hw4 := Lib.hid hnw4
  clear hnw4
  have Hw5 := Lib.hid hnw5
  clear hnw5
  have Hp6 := Lib.hid hnp6
  clear hnp6
  have Hp7 := Lib.hid hnp7
  clear hnp7
  have Hp8 := Lib.hid hnp8
  clear hnp8
  have Hn3 := Lib.hid hnn3
  clear hnn3
  have Hn4 := Lib.hid hnn4
  clear hnn4
  have Hg5 := Lib.hid hng5
  clear hng5
  have Hg6 := Lib.hid hng6
  clear hng6
  have Hh3 := Lib.hid hnh3
  clear hnh3
  have Hh7 := Lib.hid hnh7
  clear hnh7
  have Hh10 := Lib.hid hnh10
  clear hnh10
  have Hh11 := Lib.hid hnh11
  clear hnh11
  have hkb := Bk.new w 57 #[.int .i64 kind, .string name, .int .u64 version, .int .i64 w0, .int .i64 w1, .int .i64 w2, .slice Aw3 nw3 cw3, .slice Aw4 nw4 cw4, .slice Aw5 nw5 cw5, .int .i64 w6, .string p0, .string p1, .int .i64 p2, .int .i64 p3, .int .i64 p4, .int .i64 p5, .slice Ap6 np6 cp6, .slice Ap7 np7 cp7, .slice Ap8 np8 cp8, .int .i64 p9, .string n0, .int .i64 n1, .int .i64 n2, .slice An3 nn3 cn3, .slice An4 nn4 cn4, .int .i64 n5, .bool n6, .int .i64 g0, .int .i64 g1, .int .i64 g2, .int .i64 g3, .int .i64 g4, .slice Ag5 ng5 cg5, .slice Ag6 ng6 cg6, .int .i64 g7, .string h0, .int .i64 h1, .int .i64 h2, .slice Ah3 nh3 ch3, .int .i64 h4, .int .i64 h5, .int .i64 h6, .slice Ah7 nh7 ch7, .int .i64 h8, .int .i64 h9, .slice Ah10 nh10 ch10, .slice Ah11 nh11 ch11]
  go_enter Try.func21, Try.ntmps21
  go_wp2_with fail
  obtain ⟨Wb, hWb⟩ : ∃ Wb, Wb = w.alloc (.cells #[.int .i64 kind, .string name, .int .u64 version, .int .i64 w0, .int .i64 w1, .int .i64 w2, .slice Aw3 nw3 cw3, .slice Aw4 nw4 cw4, .slice Aw5 nw5 cw5, .int .i64 w6, .string p0, .string p1, .int .i64 p2, .int .i64 p3, .int .i64 p4, .int .i64 p5, .slice Ap6 np6 cp6, .slice Ap7 np7 cp7, .slice Ap8 np8 cp8, .int .i64 p9, .string n0, .int .i64 n1, .int .i64 n2, .slice An3 nn3 cn3, .slice An4 nn4 cn4, .int .i64 n5, .bool n6, .int .i64 g0, .int .i64 g1, .int .i64 g2, .int .i64 g3, .int .i64 g4, .slice Ag5 ng5 cg5, .slice Ag6 ng6 cg6, .int .i64 g7, .string h0, .int .i64 h1, .int .i64 h2, .slice Ah3 nh3 ch3, .int .i64 h4, .int .i64 h5, .int .i64 h6, .slice Ah7 nh7 ch7, .int .i64 h8, .int .i64 h9, .slice Ah10 nh10 ch10, .slice Ah11 nh11 ch11] 57) := ⟨_, rfl⟩
  have hBb : Below w.heap.size w Wb := by rw [hWb]; exact below_al _ _
  rw [← hWb] at hkb ⊢
  have bc3 : Wb.cell? ⟨w.heap.size, 3, none⟩ = some (.int .i64 w0) := hkb.cell 3
  have bc4 : Wb.cell? ⟨w.heap.size, 4, none⟩ = some (.int .i64 w1) := hkb.cell 4
  have bc5 : Wb.cell? ⟨w.heap.size, 5, none⟩ = some (.int .i64 w2) := hkb.cell 5
  have bc6 : Wb.cell? ⟨w.heap.size, 6, none⟩ = some (.slice Aw3 nw3 cw3) := hkb.cell 6
  have bc7 : Wb.cell? ⟨w.heap.size, 7, none⟩ = some (.slice Aw4 nw4 cw4) := hkb.cell 7
  have bc8 : Wb.cell? ⟨w.heap.size, 8, none⟩ = some (.slice Aw5 nw5 cw5) := hkb.cell 8
  have bc9 : Wb.cell? ⟨w.heap.size, 9, none⟩ = some (.int .i64 w6) := hkb.cell 9
  have bc10 : Wb.cell? ⟨w.heap.size, 10, none⟩ = some (.string p0) := hkb.cell 10
  have bc11 : Wb.cell? ⟨w.heap.size, 11, none⟩ = some (.string p1) := hkb.cell 11
  have bc12 : Wb.cell? ⟨w.heap.size, 12, none⟩ = some (.int .i64 p2) := hkb.cell 12
  have bc13 : Wb.cell? ⟨w.heap.size, 13, none⟩ = some (.int .i64 p3) := hkb.cell 13
  have bc14 : Wb.cell? ⟨w.heap.size, 14, none⟩ = some (.int .i64 p4) := hkb.cell 14
  have bc15 : Wb.cell? ⟨w.heap.size, 15, none⟩ = some (.int .i64 p5) := hkb.cell 15
  have bc16 : Wb.cell? ⟨w.heap.size, 16, none⟩ = some (.slice Ap6 np6 cp6) := hkb.cell 16
  have bc17 : Wb.cell? ⟨w.heap.size, 17, none⟩ = some (.slice Ap7 np7 cp7) := hkb.cell 17
  have bc18 : Wb.cell? ⟨w.heap.size, 18, none⟩ = some (.slice Ap8 np8 cp8) := hkb.cell 18
  have bc19 : Wb.cell? ⟨w.heap.size, 19, none⟩ = some (.int .i64 p9) := hkb.cell 19
  have bc20 : Wb.cell? ⟨w.heap.size, 20, none⟩ = some (.string n0) := hkb.cell 20
  have bc21 : Wb.cell? ⟨w.heap.size, 21, none⟩ = some (.int .i64 n1) := hkb.cell 21
  have bc22 : Wb.cell? ⟨w.heap.size, 22, none⟩ = some (.int .i64 n2) := hkb.cell 22
  have bc23 : Wb.cell? ⟨w.heap.size, 23, none⟩ = some (.slice An3 nn3 cn3) := hkb.cell 23
  have bc24 : Wb.cell? ⟨w.heap.size, 24, none⟩ = some (.slice An4 nn4 cn4) := hkb.cell 24
  have bc25 : Wb.cell? ⟨w.heap.size, 25, none⟩ = some (.int .i64 n5) := hkb.cell 25
  have bc26 : Wb.cell? ⟨w.heap.size, 26, none⟩ = some (.bool n6) := hkb.cell 26
  have bc27 : Wb.cell? ⟨w.heap.size, 27, none⟩ = some (.int .i64 g0) := hkb.cell 27
  have bc28 : Wb.cell? ⟨w.heap.size, 28, none⟩ = some (.int .i64 g1) := hkb.cell 28
  have bc29 : Wb.cell? ⟨w.heap.size, 29, none⟩ = some (.int .i64 g2) := hkb.cell 29
  have bc30 : Wb.cell? ⟨w.heap.size, 30, none⟩ = some (.int .i64 g3) := hkb.cell 30
  have bc31 : Wb.cell? ⟨w.heap.size, 31, none⟩ = some (.int .i64 g4) := hkb.cell 31
  have bc32 : Wb.cell? ⟨w.heap.size, 32, none⟩ = some (.slice Ag5 ng5 cg5) := hkb.cell 32
  have bc33 : Wb.cell? ⟨w.heap.size, 33, none⟩ = some (.slice Ag6 ng6 cg6) := hkb.cell 33
  have bc34 : Wb.cell? ⟨w.heap.size, 34, none⟩ = some (.int .i64 g7) := hkb.cell 34
  have bc35 : Wb.cell? ⟨w.heap.size, 35, none⟩ = some (.string h0) := hkb.cell 35
  have bc36 : Wb.cell? ⟨w.heap.size, 36, none⟩ = some (.int .i64 h1) := hkb.cell 36
  have bc37 : Wb.cell? ⟨w.heap.size, 37, none⟩ = some (.int .i64 h2) := hkb.cell 37
  have bc38 : Wb.cell? ⟨w.heap.size, 38, none⟩ = some (.slice Ah3 nh3 ch3) := hkb.cell 38
  have bc39 : Wb.cell? ⟨w.heap.size, 39, none⟩ = some (.int .i64 h4) := hkb.cell 39
  have bc40 : Wb.cell? ⟨w.heap.size, 40, none⟩ = some (.int .i64 h5) := hkb.cell 40
  have bc41 : Wb.cell? ⟨w.heap.size, 41, none⟩ = some (.int .i64 h6) := hkb.cell 41
  have bc42 : Wb.cell? ⟨w.heap.size, 42, none⟩ = some (.slice Ah7 nh7 ch7) := hkb.cell 42
  have bc43 : Wb.cell? ⟨w.heap.size, 43, none⟩ = some (.int .i64 h8) := hkb.cell 43
  have bc44 : Wb.cell? ⟨w.heap.size, 44, none⟩ = some (.int .i64 h9) := hkb.cell 44
  have bc45 : Wb.cell? ⟨w.heap.size, 45, none⟩ = some (.slice Ah10 nh10 ch10) := hkb.cell 45
  have bc46 : Wb.cell? ⟨w.heap.size, 46, none⟩ = some (.slice Ah11 nh11 ch11) := hkb.cell 46
  clear hkb hWb
  refine wp_region_vars (W := Wb) (B := Wb.heap.size)
    (ps := [⟨0, 10, .pointer (some ⟨w.heap.size, 3, none⟩)⟩,
      ⟨1, 11, .agg #[.int .i64 w0, .int .i64 w1, .int .i64 w2, .slice Aw3 nw3 cw3, .slice Aw4 nw4 cw4, .slice Aw5 nw5 cw5, .int .i64 w6]⟩,
      ⟨2, 12, .pointer (some ⟨w.heap.size, 10, none⟩)⟩,
      ⟨3, 13, .agg #[.string p0, .string p1, .int .i64 p2, .int .i64 p3, .int .i64 p4, .int .i64 p5, .slice Ap6 np6 cp6, .slice Ap7 np7 cp7, .slice Ap8 np8 cp8, .int .i64 p9]⟩,
      ⟨4, 14, .pointer (some ⟨w.heap.size, 20, none⟩)⟩,
      ⟨5, 15, .agg #[.string n0, .int .i64 n1, .int .i64 n2, .slice An3 nn3 cn3, .slice An4 nn4 cn4, .int .i64 n5, .bool n6]⟩,
      ⟨6, 16, .pointer (some ⟨w.heap.size, 27, none⟩)⟩,
      ⟨7, 17, .agg #[.int .i64 g0, .int .i64 g1, .int .i64 g2, .int .i64 g3, .int .i64 g4, .slice Ag5 ng5 cg5, .slice Ag6 ng6 cg6, .int .i64 g7]⟩,
      ⟨8, 18, .pointer (some ⟨w.heap.size, 35, none⟩)⟩,
      ⟨9, 19, .agg #[.string h0, .int .i64 h1, .int .i64 h2, .slice Ah3 nh3 ch3, .int .i64 h4, .int .i64 h5, .int .i64 h6, .slice Ah7 nh7 ch7, .int .i64 h8, .int .i64 h9, .slice Ah10 nh10 ch10, .slice Ah11 nh11 ch11]⟩])
    (vs := [⟨10, 15, 3, 42, #[.int .i64 0, .int .i64 0, .int .i64 0, .slice none 0 0, .slice none 0 0, .slice none 0 0, .int .i64 0], #[.int .i64 w0, .int .i64 w1, .int .i64 w2, .slice Aw3 nw3 cw3, .slice Aw4 nw4 cw4, .slice Aw5 nw5 cw5, .int .i64 w6]⟩,
      ⟨11, 16, 4, 44, #[.string ⟨#[]⟩, .string ⟨#[]⟩, .int .i64 0, .int .i64 0, .int .i64 0, .int .i64 0, .slice none 0 0, .slice none 0 0, .slice none 0 0, .int .i64 0], #[.string p0, .string p1, .int .i64 p2, .int .i64 p3, .int .i64 p4, .int .i64 p5, .slice Ap6 np6 cp6, .slice Ap7 np7 cp7, .slice Ap8 np8 cp8, .int .i64 p9]⟩,
      ⟨12, 17, 5, 46, #[.string ⟨#[]⟩, .int .i64 0, .int .i64 0, .slice none 0 0, .slice none 0 0, .int .i64 0, .bool false], #[.string n0, .int .i64 n1, .int .i64 n2, .slice An3 nn3 cn3, .slice An4 nn4 cn4, .int .i64 n5, .bool n6]⟩,
      ⟨13, 18, 6, 48, #[.int .i64 0, .int .i64 0, .int .i64 0, .int .i64 0, .int .i64 0, .slice none 0 0, .slice none 0 0, .int .i64 0], #[.int .i64 g0, .int .i64 g1, .int .i64 g2, .int .i64 g3, .int .i64 g4, .slice Ag5 ng5 cg5, .slice Ag6 ng6 cg6, .int .i64 g7]⟩,
      ⟨14, 19, 7, 55, #[.string ⟨#[]⟩, .int .i64 0, .int .i64 0, .slice none 0 0, .int .i64 0, .int .i64 0, .int .i64 0, .slice none 0 0, .int .i64 0, .int .i64 0, .slice none 0 0, .slice none 0 0], #[.string h0, .int .i64 h1, .int .i64 h2, .slice Ah3 nh3 ch3, .int .i64 h4, .int .i64 h5, .int .i64 h6, .slice Ah7 nh7 ch7, .int .i64 h8, .int .i64 h9, .slice Ah10 nh10 ch10, .slice Ah11 nh11 ch11]⟩])
    (by kernel_rfl) ?_ (Nat.le_refl _) (Below.refl _ _) ?_
  · constructor
    · intro p hp
      simp only [List.mem_cons, List.not_mem_nil, or_false] at hp
      rcases hp with rfl | rfl | rfl | rfl | rfl | rfl | rfl | rfl | rfl | rfl
      · refine ⟨_, rfl, rfl, rfl, fun a w' hA hB => ?_⟩
        have e1 := at_other hA 1 _ rfl rfl rfl
        clear hA
        go_simp
      · refine ⟨_, rfl, rfl, rfl, fun a w' hA hB => ?_⟩
        have e1 := at_pure hA 0 _ rfl rfl
        clear hA
        have k3 := keep_cell hB bc3
        have k4 := keep_cell hB bc4
        have k5 := keep_cell hB bc5
        have k6 := keep_cell hB bc6
        have k7 := keep_cell hB bc7
        have k8 := keep_cell hB bc8
        have k9 := keep_cell hB bc9
        clear hB bc3 bc4 bc5 bc6 bc7 bc8 bc9 bc10 bc11 bc12 bc13 bc14 bc15 bc16 bc17 bc18 bc19 bc20 bc21 bc22 bc23 bc24 bc25 bc26 bc27 bc28 bc29 bc30 bc31 bc32 bc33 bc34 bc35 bc36 bc37 bc38 bc39 bc40 bc41 bc42 bc43 bc44 bc45 bc46
        go_simp
      · refine ⟨_, rfl, rfl, rfl, fun a w' hA hB => ?_⟩
        have e1 := at_other hA 1 _ rfl rfl rfl
        clear hA
        go_simp
      · refine ⟨_, rfl, rfl, rfl, fun a w' hA hB => ?_⟩
        have e1 := at_pure hA 2 _ rfl rfl
        clear hA
        have k10 := keep_cell hB bc10
        have k11 := keep_cell hB bc11
        have k12 := keep_cell hB bc12
        have k13 := keep_cell hB bc13
        have k14 := keep_cell hB bc14
        have k15 := keep_cell hB bc15
        have k16 := keep_cell hB bc16
        have k17 := keep_cell hB bc17
        have k18 := keep_cell hB bc18
        have k19 := keep_cell hB bc19
        clear hB bc3 bc4 bc5 bc6 bc7 bc8 bc9 bc10 bc11 bc12 bc13 bc14 bc15 bc16 bc17 bc18 bc19 bc20 bc21 bc22 bc23 bc24 bc25 bc26 bc27 bc28 bc29 bc30 bc31 bc32 bc33 bc34 bc35 bc36 bc37 bc38 bc39 bc40 bc41 bc42 bc43 bc44 bc45 bc46
        go_simp
      · refine ⟨_, rfl, rfl, rfl, fun a w' hA hB => ?_⟩
        have e1 := at_other hA 1 _ rfl rfl rfl
        clear hA
        go_simp
      · refine ⟨_, rfl, rfl, rfl, fun a w' hA hB => ?_⟩
        have e1 := at_pure hA 4 _ rfl rfl
        clear hA
        have k20 := keep_cell hB bc20
        have k21 := keep_cell hB bc21
        have k22 := keep_cell hB bc22
        have k23 := keep_cell hB bc23
        have k24 := keep_cell hB bc24
        have k25 := keep_cell hB bc25
        have k26 := keep_cell hB bc26
        clear hB bc3 bc4 bc5 bc6 bc7 bc8 bc9 bc10 bc11 bc12 bc13 bc14 bc15 bc16 bc17 bc18 bc19 bc20 bc21 bc22 bc23 bc24 bc25 bc26 bc27 bc28 bc29 bc30 bc31 bc32 bc33 bc34 bc35 bc36 bc37 bc38 bc39 bc40 bc41 bc42 bc43 bc44 bc45 bc46
        go_simp
      · refine ⟨_, rfl, rfl, rfl, fun a w' hA hB => ?_⟩
        have e1 := at_other hA 1 _ rfl rfl rfl
        clear hA
        go_simp
      · refine ⟨_, rfl, rfl, rfl, fun a w' hA hB => ?_⟩
        have e1 := at_pure hA 6 _ rfl rfl
        clear hA
        have k27 := keep_cell hB bc27
        have k28 := keep_cell hB bc28
        have k29 := keep_cell hB bc29
        have k30 := keep_cell hB bc30
        have k31 := keep_cell hB bc31
        have k32 := keep_cell hB bc32
        have k33 := keep_cell hB bc33
        have k34 := keep_cell hB bc34
        clear hB bc3 bc4 bc5 bc6 bc7 bc8 bc9 bc10 bc11 bc12 bc13 bc14 bc15 bc16 bc17 bc18 bc19 bc20 bc21 bc22 bc23 bc24 bc25 bc26 bc27 bc28 bc29 bc30 bc31 bc32 bc33 bc34 bc35 bc36 bc37 bc38 bc39 bc40 bc41 bc42 bc43 bc44 bc45 bc46
        go_simp
      · refine ⟨_, rfl, rfl, rfl, fun a w' hA hB => ?_⟩
        have e1 := at_other hA 1 _ rfl rfl rfl
        clear hA
        go_simp
      · refine ⟨_, rfl, rfl, rfl, fun a w' hA hB => ?_⟩
        have e1 := at_pure hA 8 _ rfl rfl
        clear hA
        have k35 := keep_cell hB bc35
        have k36 := keep_cell hB bc36
        have k37 := keep_cell hB bc37
        have k38 := keep_cell hB bc38
        have k39 := keep_cell hB bc39
        have k40 := keep_cell hB bc40
        have k41 := keep_cell hB bc41
        have k42 := keep_cell hB bc42
        have k43 := keep_cell hB bc43
        have k44 := keep_cell hB bc44
        have k45 := keep_cell hB bc45
        have k46 := keep_cell hB bc46
        clear hB bc3 bc4 bc5 bc6 bc7 bc8 bc9 bc10 bc11 bc12 bc13 bc14 bc15 bc16 bc17 bc18 bc19 bc20 bc21 bc22 bc23 bc24 bc25 bc26 bc27 bc28 bc29 bc30 bc31 bc32 bc33 bc34 bc35 bc36 bc37 bc38 bc39 bc40 bc41 bc42 bc43 bc44 bc45 bc46
        go_simp
    · intro v hv
      simp only [List.mem_cons, List.not_mem_nil, or_false] at hv
      rcases hv with rfl | rfl | rfl | rfl | rfl
      all_goals
        refine ⟨_, rfl, rfl, rfl, fun a w' => ?_⟩
        go_simp
    · intro v hv
      simp only [List.mem_cons, List.not_mem_nil, or_false] at hv
      rcases hv with rfl | rfl | rfl | rfl | rfl
      · refine ⟨_, rfl, rfl, rfl, deps_of rfl, fun a w' g hA e2 hk => ?_⟩
        have e1 := at_pure hA 1 _ rfl rfl
        clear hA
        have k0 := hk.cell 0
        have f0 := hk.frozen 0
        have k1 := hk.cell 1
        have f1 := hk.frozen 1
        have k2 := hk.cell 2
        have f2 := hk.frozen 2
        have k3 := hk.cell 3
        have f3 := hk.frozen 3
        have k4 := hk.cell 4
        have f4 := hk.frozen 4
        have k5 := hk.cell 5
        have f5 := hk.frozen 5
        have k6 := hk.cell 6
        have f6 := hk.frozen 6
        clear hk
        go_simp
        rfl
      · refine ⟨_, rfl, rfl, rfl, deps_of rfl, fun a w' g hA e2 hk => ?_⟩
        have e1 := at_pure hA 3 _ rfl rfl
        clear hA
        have k0 := hk.cell 0
        have f0 := hk.frozen 0
        have k1 := hk.cell 1
        have f1 := hk.frozen 1
        have k2 := hk.cell 2
        have f2 := hk.frozen 2
        have k3 := hk.cell 3
        have f3 := hk.frozen 3
        have k4 := hk.cell 4
        have f4 := hk.frozen 4
        have k5 := hk.cell 5
        have f5 := hk.frozen 5
        have k6 := hk.cell 6
        have f6 := hk.frozen 6
        have k7 := hk.cell 7
        have f7 := hk.frozen 7
        have k8 := hk.cell 8
        have f8 := hk.frozen 8
        have k9 := hk.cell 9
        have f9 := hk.frozen 9
        clear hk
        go_simp
        rfl
      · refine ⟨_, rfl, rfl, rfl, deps_of rfl, fun a w' g hA e2 hk => ?_⟩
        have e1 := at_pure hA 5 _ rfl rfl
        clear hA
        have k0 := hk.cell 0
        have f0 := hk.frozen 0
        have k1 := hk.cell 1
        have f1 := hk.frozen 1
        have k2 := hk.cell 2
        have f2 := hk.frozen 2
        have k3 := hk.cell 3
        have f3 := hk.frozen 3
        have k4 := hk.cell 4
        have f4 := hk.frozen 4
        have k5 := hk.cell 5
        have f5 := hk.frozen 5
        have k6 := hk.cell 6
        have f6 := hk.frozen 6
        clear hk
        go_simp
        rfl
      · refine ⟨_, rfl, rfl, rfl, deps_of rfl, fun a w' g hA e2 hk => ?_⟩
        have e1 := at_pure hA 7 _ rfl rfl
        clear hA
        have k0 := hk.cell 0
        have f0 := hk.frozen 0
        have k1 := hk.cell 1
        have f1 := hk.frozen 1
        have k2 := hk.cell 2
        have f2 := hk.frozen 2
        have k3 := hk.cell 3
        have f3 := hk.frozen 3
        have k4 := hk.cell 4
        have f4 := hk.frozen 4
        have k5 := hk.cell 5
        have f5 := hk.frozen 5
        have k6 := hk.cell 6
        have f6 := hk.frozen 6
        have k7 := hk.cell 7
        have f7 := hk.frozen 7
        clear hk
        go_simp
        rfl
      · refine ⟨_, rfl, rfl, rfl, deps_of rfl, fun a w' g hA e2 hk => ?_⟩
        have e1 := at_pure hA 9 _ rfl rfl
        clear hA
        have k0 := hk.cell 0
        have f0 := hk.frozen 0
        have k1 := hk.cell 1
        have f1 := hk.frozen 1
        have k2 := hk.cell 2
        have f2 := hk.frozen 2
        have k3 := hk.cell 3
        have f3 := hk.frozen 3
        have k4 := hk.cell 4
        have f4 := hk.frozen 4
        have k5 := hk.cell 5
        have f5 := hk.frozen 5
        have k6 := hk.cell 6
        have f6 := hk.frozen 6
        have k7 := hk.cell 7
        have f7 := hk.frozen 7
        have k8 := hk.cell 8
        have f8 := hk.frozen 8
        have k9 := hk.cell 9
        have f9 := hk.frozen 9
        have k10 := hk.cell 10
        have f10 := hk.frozen 10
        have k11 := hk.cell 11
        have f11 := hk.frozen 11
        clear hk
        go_simp
        rfl
    · intro v hv
      simp only [List.mem_cons, List.not_mem_nil, or_false] at hv
      rcases hv with rfl | rfl | rfl | rfl | rfl <;> rfl
    · show ∀ i, i < 20 → i ∈ [0, 1, 2, 3, 4, 5, 6, 7, 8, 9, 10, 11, 12, 13, 14, 15, 16, 17, 18, 19]
      decide
    · show ([0, 1, 2, 3, 4, 5, 6, 7, 8, 9, 10, 11, 12, 13, 14, 15, 16, 17, 18, 19] : List Nat).Nodup
      decide
    · show ([10, 11, 12, 13, 14, 15, 16, 17, 18, 19, 3, 4, 5, 6, 7] : List Nat).Nodup
      decide
    · show ∀ s ∈ ([10, 11, 12, 13, 14, 15, 16, 17, 18, 19, 3, 4, 5, 6, 7] : List Nat), s < 72
      decide
    · exact up_of (by decide +kernel)
  · intro gg W2 hB2 hv hd
    clear hd
    have hBw : Below w.heap.size w W2 := hBb.trans (hB2.mono hBb.size)
    obtain ⟨_, k3⟩ := hv _ (List.mem_cons_self ..)
    obtain ⟨_, k4⟩ := hv _ (List.mem_cons_of_mem _ (List.mem_cons_self ..))
    obtain ⟨_, k5⟩ := hv _ (List.mem_cons_of_mem _ (List.mem_cons_of_mem _ (List.mem_cons_self ..)))
    obtain ⟨_, k6⟩ := hv _ (List.mem_cons_of_mem _ (List.mem_cons_of_mem _ (List.mem_cons_of_mem _ (List.mem_cons_self ..))))
    obtain ⟨_, k7⟩ := hv _ (List.mem_cons_of_mem _ (List.mem_cons_of_mem _ (List.mem_cons_of_mem _ (List.mem_cons_of_mem _ (List.mem_cons_self ..)))))
    clear hv hB2 hBb bc3 bc4 bc5 bc6 bc7 bc8 bc9 bc10 bc11 bc12 bc13 bc14 bc15 bc16 bc17 bc18 bc19 bc20 bc21 bc22 bc23 bc24 bc25 bc26 bc27 bc28 bc29 bc30 bc31 bc32 bc33 bc34 bc35 bc36 bc37 bc38 bc39 bc40 bc41 bc42 bc43 bc44 bc45 bc46
    simp only at k3 k4 k5 k6 k7
    simp only [putAll, setsOf, List.map_cons, List.map_nil, List.cons_append, List.nil_append, List.foldl_cons, List.foldl_nil, List.setIfInBounds_toArray, List.set_cons_zero, List.set_cons_succ]
    generalize gg 3 = G3 at k3 ⊢
    generalize gg 4 = G4 at k4 ⊢
    generalize gg 5 = G5 at k5 ⊢
    generalize gg 6 = G6 at k6 ⊢
    generalize gg 7 = G7 at k7 ⊢
    obtain ⟨W3, hW3⟩ : ∃ W3, W3 = W2.alloc (.cells #[.slice Aw3 nw3 cw3, .slice Aw5 nw5 cw5, .slice Ap6 np6 cp6, .slice Ap8 np8 cp8, .slice An3 nn3 cn3, .slice An4 nn4 cn4, .slice Ag5 ng5 cg5, .slice Ag6 ng6 cg6] 39) := ⟨_, rfl⟩
    have kk := Bk.new W2 39 #[.slice Aw3 nw3 cw3, .slice Aw5 nw5 cw5, .slice Ap6 np6 cp6, .slice Ap8 np8 cp8, .slice An3 nn3 cn3, .slice An4 nn4 cn4, .slice Ag5 ng5 cg5, .slice Ag6 ng6 cg6]
    have hB3 : Below w.heap.size w W3 := by rw [hW3]; exact hBw.alloc hBw.size _
    have j3 := k3.alloc (.cells #[.slice Aw3 nw3 cw3, .slice Aw5 nw5 cw5, .slice Ap6 np6 cp6, .slice Ap8 np8 cp8, .slice An3 nn3 cn3, .slice An4 nn4 cn4, .slice Ag5 ng5 cg5, .slice Ag6 ng6 cg6] 39)
    have j4 := k4.alloc (.cells #[.slice Aw3 nw3 cw3, .slice Aw5 nw5 cw5, .slice Ap6 np6 cp6, .slice Ap8 np8 cp8, .slice An3 nn3 cn3, .slice An4 nn4 cn4, .slice Ag5 ng5 cg5, .slice Ag6 ng6 cg6] 39)
    have j7 := k7.alloc (.cells #[.slice Aw3 nw3 cw3, .slice Aw5 nw5 cw5, .slice Ap6 np6 cp6, .slice Ap8 np8 cp8, .slice An3 nn3 cn3, .slice An4 nn4 cn4, .slice Ag5 ng5 cg5, .slice Ag6 ng6 cg6] 39)
    rw [← hW3] at kk j3 j4 j7
    have HW3 := Lib.hid hW3
    clear hW3
    have x33 : W2.cell? ⟨G3, 3, none⟩ = some (.slice Aw3 nw3 cw3) := k3.cell 3
    have x35 : W2.cell? ⟨G3, 5, none⟩ = some (.slice Aw5 nw5 cw5) := k3.cell 5
    have x46 : W2.cell? ⟨G4, 6, none⟩ = some (.slice Ap6 np6 cp6) := k4.cell 6
    have x48 : W2.cell? ⟨G4, 8, none⟩ = some (.slice Ap8 np8 cp8) := k4.cell 8
    have x53 : W2.cell? ⟨G5, 3, none⟩ = some (.slice An3 nn3 cn3) := k5.cell 3
    have x54 : W2.cell? ⟨G5, 4, none⟩ = some (.slice An4 nn4 cn4) := k5.cell 4
    have x65 : W2.cell? ⟨G6, 5, none⟩ = some (.slice Ag5 ng5 cg5) := k6.cell 5
    have x66 : W2.cell? ⟨G6, 6, none⟩ = some (.slice Ag6 ng6 cg6) := k6.cell 6
    clear k3 k4 k5 k6 k7
    go_wp2_with fail
    rw [← HW3.out]
    clear x33 x35 x46 x48 x53 x54 x65 x66
    have ee : ∀ k : Nat, k < 8 → ∃ A n c, W3.cell? ⟨W2.heap.size, k, none⟩ = some (.slice A n c) := by
      intro k hk
      rw [kk.cell]
      match k, hk with
      | 0, _ => exact ⟨_, _, _, rfl⟩
      | 1, _ => exact ⟨_, _, _, rfl⟩
      | 2, _ => exact ⟨_, _, _, rfl⟩
      | 3, _ => exact ⟨_, _, _, rfl⟩
      | 4, _ => exact ⟨_, _, _, rfl⟩
      | 5, _ => exact ⟨_, _, _, rfl⟩
      | 6, _ => exact ⟨_, _, _, rfl⟩
      | 7, _ => exact ⟨_, _, _, rfl⟩
    have EE := Lib.hid ee
    clear ee kk HW3
    go_loop [38, 9] (fun i s => ∃ k : Nat, k ≤ 8 ∧ i = .int .i64 k) (fun i s => 8 - (intOf i).toNat)
    case atStart => exact ⟨0, by omega, rfl⟩
    case round =>
      obtain ⟨k, hk, rfl⟩ := hrel
      by_cases hlt : k < 8
      · obtain ⟨A, n, c, hcell⟩ := EE.out k hlt
        have hn : n ≤ 30 ∨ 30 < n := by omega
        have i0 : (0 : Int) ≤ (k : Int) := by omega
        have i1 : (k : Int) < 8 := by omega
        clear j3 j4 j7 EE
        rcases hn with hn | hn
        · have hnI : ((n : Nat) : Int) ≤ 30 := by omega
          go_wp2_with fail
          exact ⟨⟨k + 1, by omega, by go_num⟩, by simp [intOf]; omega⟩
        · have hnI : (30 : Int) < ((n : Nat) : Int) := by omega
          go_wp2_with fail
          go_ret
          exact ⟨⟨false, rfl⟩, hB3⟩
      · have x34 : W3.cell? ⟨G3, 4, none⟩ = some (.slice Aw4 nw4 cw4) := j3.cell 4
        have x47 : W3.cell? ⟨G4, 7, none⟩ = some (.slice Ap7 np7 cp7) := j4.cell 7
        have x73 : W3.cell? ⟨G7, 3, none⟩ = some (.slice Ah3 nh3 ch3) := j7.cell 3
        have x77 : W3.cell? ⟨G7, 7, none⟩ = some (.slice Ah7 nh7 ch7) := j7.cell 7
        have x710 : W3.cell? ⟨G7, 10, none⟩ = some (.slice Ah10 nh10 ch10) := j7.cell 10
        have x711 : W3.cell? ⟨G7, 11, none⟩ = some (.slice Ah11 nh11 ch11) := j7.cell 11
        clear j3 j4 j7 EE
        go_wp2_with fail
        go_ret
        exact ⟨⟨_, rfl⟩, hB3⟩
end Go.Proofs.Ytoobjfpkdlffpaa
end
section
namespace Go.Proofs.Mem
open Go Go.RowKit
set_option linter.unusedVariables false
def SeqKnows {α : Type} (F : Fence) (n : Nat) (P : Program) (g : Nat) (lb : Array Value) (encs : α → Array Value) (Kp : World → World → Prop) (Kn : List α → α → World → Prop) (S : List α → Prop) (w : World) : Prop :=
  ∀ (l : Nat) (J Jx : List α → World → Prop) (W : World), Below w.heap.size w W → AbidesFrom W.heap.size J → AbidesFrom W.heap.size Jx →
    (∀ pre x W1, J pre W1 → Kn pre x W1 → YieldAt F (n - 1) P l (encs x) W1 fun e W' => (e = .returned (.bool true) ∧ J (pre ++ [x]) W' ∧ Kp W1 W') ∨ (e = .returned (.bool false) ∧ Jx (pre ++ [x]) W' ∧ Kp W1 W')) →
    J [] W → CallsIn F n P g (#[.func (.yield l) #[] #[]] ++ lb) W fun e W' => (∃ v, e = .returned v) ∧ ((∃ xs, S xs ∧ J xs W') ∨ (∃ pre, Jx pre W'))
variable {F : Fence} {n : Nat} {P : Program}
def postKn {α : Type} (B : Nat) (Kp : World → World → Prop) (I : List α → World → Prop) (Ix : Code → List α → World → Prop) (xs : List α) (W : World) : Exit → Act → World → Prop
  | .normal, _, W' => KeepsFrom B W W' ∧ Kp W W' ∧ I xs W'
  | .ret, _, W' => KeepsFrom B W W' ∧ Kp W W' ∧ Ix .ret xs W'
  | .exit id, _, W' => KeepsFrom B W W' ∧ Kp W W' ∧ Ix (.exit id) xs W'
  | .goto t, _, W' => KeepsFrom B W W' ∧ Kp W W' ∧ Ix (.goto t) xs W'
  | .panic _, _, _ => False
  | .outgrown, _, _ => False
theorem wpIn_rangeFunc_know {α : Type} {g : Operand} {ps : Array Tmp} {assign body : Code} {Q : Exit → Act → World → Prop} {a : Act} {w : World}
    (hro : F.round = none) (h1 : 1 ≤ n) {gf : Nat} {lb : Array Value} (hg : a.eval g = .func (.func gf) #[] lb) (hFg : F.fn gf) (eg : ∀ args w, (callFunc gf args).run P w = .ok (.enter gf args) w)
    {encs : α → Array Value} {Kp : World → World → Prop} {Kn : List α → α → World → Prop} {S : List α → Prop} {w0 : World} (hseq : SeqKnows F (n - 1) P gf lb encs Kp Kn S w0)
    (hKt : ∀ {A B C : World}, Kp A B → Kp B C → Kp A C) (hKb : ∀ (W : World) (l : Nat) (o o' : Obj), w.heap.size ≤ l → W.heap[l]? = some o → o.isCells = false → o.isWalk = false → Kp W (W.putObj l o')) (hb0 : Below w0.heap.size w0 w) (hps : ∀ x, (encs x).size = ps.size)
    (I : List α → World → Prop) (Ix : Code → List α → World → Prop) (hI : OwnFrom w.heap.size I) (hIx : ∀ c, OwnFrom w.heap.size (Ix c)) (h0 : I [] w) (Ax : List α → α → Act → World → Prop) (hAx : ∀ pre x a', OwnFrom w.heap.size (fun (_ : Unit) W => Ax pre x a' W))
    (hassign : ∀ (l : Nat) (pre : List α) (x : α) (W : World) (K : Act → World → Prop), I pre W → Kn pre x W → (∀ a' W', KeepsFrom w.heap.size W W' → Kp W W' → I pre W' → Ax pre x a' W' → K a' W') →
      assign.wpIn (F.inRound l) (n - 1 - 1) P (Exit.then K (fun _ _ _ => False)) { tmps := (ps.zip (encs x)).foldl (fun t (p, v) => t.setIfInBounds p v) a.tmps, defers := [] } W)
    (hbody : ∀ (l : Nat) (pre : List α) (x : α) (a' : Act) (W : World), w.heap.size ≤ l → (∃ r, W.heap[l]? = some (.loop r)) → I pre W → Ax pre x a' W → body.wpIn (F.inRound l) (n - 1 - 1) P (postKn w.heap.size Kp I Ix (pre ++ [x]) W) a' W)
    (hdone : ∀ (D : Nat) (xs : List α) (W : World), w.heap.size ≤ D → S xs → I xs W → W.heap[D]? = some (.deferred (some [])) → Q .normal { a with defers := { target := .collected D, args := #[] } :: a.defers } W)
    (hstop : ∀ (D : Nat) (c : Code) (pre : List α) (W : World), w.heap.size ≤ D → Ix c pre W → W.heap[D]? = some (.deferred (some [])) → c.wpIn F n P Q { a with defers := { target := .collected D, args := #[] } :: a.defers } W) :
    (Code.rangeFunc g ps assign body).wpIn F n P Q a w := by
  refine wpIn_rangeFunc fun fn hfn => ?_
  rw [hro]
  have hnew := World.alloc_heap_new w (.deferred (some []))
  -- the record of the loop, at a state and a jump
  obtain ⟨rec, hrec⟩ : ∃ rec : LoopState → Option Code → Loop, rec = fun st pe => { state := st, pending := pe, fn, tmps := a.tmps, params := ps, assign, body, defers := w.heap.size } := ⟨_, rfl⟩
  obtain ⟨V, hV⟩ : ∃ V, V = (w.alloc (.deferred (some []))).alloc (.loop (rec .ready none)) := ⟨_, rfl⟩
  obtain ⟨s, hs⟩ : ∃ s, s = w.heap.size := ⟨_, rfl⟩
  have vl : V.heap[s + 1]? = some (.loop (rec .ready none)) := by
    have h := World.alloc_heap_new (w.alloc (.deferred (some []))) (.loop (rec .ready none))
    rw [World.size_alloc] at h
    rw [hV, hs]
    exact h
  have vk : V.heap[s]? = some (.deferred (some [])) := by
    rw [hV, hs]
    exact (Below.heap_alloc _ _ _ (by simp)).trans hnew
  have vI : I [] V := by
    rw [hV]
    exact hI.alloc _ (hI.alloc _ h0)
  have vsz : s ≤ V.heap.size := by
    have := (Array.getElem?_eq_some_iff.1 vk).1
    omega
  have vb : Below w0.heap.size w0 V := by
    rw [hV]
    exact hb0.trans ((((Below.refl _ w).alloc (Nat.le_refl _) _).alloc (by simp) _).mono hb0.size)
  rw [← hs] at hKb hI hIx hAx hassign hbody hdone hstop
  -- turns of walks, at or beyond V: none of the book-keeping's two blocks
  have turn : ∀ {A B : World} {row : Option Nat}, (∀ r, row = some r → V.heap.size ≤ r ∧ ∃ o : Obj, A.heap[r]? = some o ∧ o.isWalk = true) → ∀ r, row = some r → s ≤ r ∧ ∃ o : Obj, A.heap[r]? = some o ∧ o.isCells = false := fun hr r e => by
    obtain ⟨hB, o, ho, hw⟩ := hr r e
    exact ⟨Nat.le_trans vsz hB, o, ho, Obj.not_cells_of_walk hw⟩
  refine ⟨s + 1, [{ target := .collected s, args := #[] }], V, { target := .fn (.func gf) lb, args := #[.func (.yield (s + 1)) #[] #[]] }, V, gf, #[.func (.yield (s + 1)) #[] #[]] ++ lb, V, ?_, ?_, ?_, ?_, fun _ => h1, ?_⟩
  · rw [hV, hs, hrec]
    exact run_enterLoop_outer _ _ _ _ _
  · simp only [resolve, hg]
    simp [go_sem]
  · intro f' hf'
    simp [Target.leads] at hf'
    subst hf'
    exact hFg
  · simp [invoke, go_sem, eg]
  refine (hseq (s + 1) (fun pre W => I pre W ∧ W.heap[s + 1]? = some (.loop (rec .ready none)) ∧ W.heap[s]? = some (.deferred (some [])))
    (fun pre W => ∃ c, Ix c pre W ∧ W.heap[s + 1]? = some (.loop (rec .done (some c))) ∧ W.heap[s]? = some (.deferred (some []))) V vb
    (fun p A B row hp hgr hr => ⟨hI p A B row hp.1 hgr (turn (B := B) hr), (grownBy_keeps hgr (fun r e => (hr r e).2) hp.2.1 rfl).trans hp.2.1, (grownBy_keeps hgr (fun r e => (hr r e).2) hp.2.2 rfl).trans hp.2.2⟩)
    (fun p A B row ⟨c, hc, hl, hk⟩ hgr hr => ⟨c, hIx c p A B row hc hgr (turn (B := B) hr), (grownBy_keeps hgr (fun r e => (hr r e).2) hl rfl).trans hl, (grownBy_keeps hgr (fun r e => (hr r e).2) hk rfl).trans hk⟩)
    ?round ⟨vI, vl, vk⟩).mono ?behind
  case round =>
    rintro pre x W ⟨hi, hl, hk⟩ hkn
    have hy := run_yield (P := P) (args := encs x) hl (by rw [hrec]; exact hps x)
    rw [hrec] at hy
    refine ⟨fn, _, assign, body, hy, roundIn_of_wpIn hfn (hassign _ pre x W _ hi hkn fun a' U hku hpu hiu hxu => ?_)⟩
    clear hy
    have ul := hku.same _ _ (by omega) hl rfl
    have uk := hku.same _ _ (Nat.le_refl _) hk rfl
    have ult : s + 1 < U.heap.size := (Array.getElem?_eq_some_iff.1 ul).1
    refine ⟨_, run_beginRound ul (by rw [hrec]), ?_⟩
    obtain ⟨Y, hY⟩ : ∃ Y, Y = U.putObj (s + 1) (.loop { rec .ready none with state := .busy }) := ⟨_, rfl⟩
    have yl : Y.heap[s + 1]? = some (.loop { rec .ready none with state := .busy }) := by rw [hY]; exact World.putObj_heap_same ult
    have yk : Y.heap[s]? = some (.deferred (some [])) := by rw [hY]; exact (World.putObj_heap_other (by omega)).trans uk
    have yw : Kp U Y := by rw [hY]; exact hKb _ _ _ _ (by omega) ul rfl rfl
    have yi : I pre Y := by rw [hY]; exact hI.putObj _ hiu (by omega) ul rfl
    have yx : Ax pre x a' Y := by rw [hY]; exact (hAx pre x a').putObj (s := ()) _ hxu (by omega) ul rfl
    rw [← hY]
    have leave : ∀ (jump : Option Code) (Z : World), KeepsFrom s Y Z →
        (Instr.endRound (s + 1) jump).run P Z = .ok (.bool jump.isNone) (Z.putObj (s + 1) (.loop (rec (if jump.isNone then .ready else .done) jump))) ∧ Z.heap[s + 1]? = some (.loop { rec .ready none with state := .busy }) ∧
        (Z.putObj (s + 1) (.loop (rec (if jump.isNone then .ready else .done) jump))).heap[s + 1]? = some (.loop (rec (if jump.isNone then .ready else .done) jump)) ∧ (Z.putObj (s + 1) (.loop (rec (if jump.isNone then .ready else .done) jump))).heap[s]? = some (.deferred (some [])) := fun jump Z hz => by
      have zl := hz.same _ _ (by omega) yl rfl
      have h := run_endRound (P := P) jump zl
      rw [hrec] at h zl ⊢
      exact ⟨h, zl, World.putObj_heap_same (Array.getElem?_eq_some_iff.1 zl).1, (World.putObj_heap_other (by omega)).trans (hz.same _ _ (Nat.le_refl _) yk rfl)⟩
    refine wpIn_mono (hbody _ pre x a' _ (by omega) ⟨_, yl⟩ yi yx) ?_
    rintro e b Z hp
    cases e with
    | panic ch => exact hp.elim
    | outgrown => exact hp.elim
    | normal =>
      obtain ⟨hz, hkz, hiz⟩ := hp
      obtain ⟨hr, zl, zm, zk⟩ := leave none Z hz
      exact ⟨_, _, hr, .inl ⟨rfl, ⟨hI.putObj _ hiz (by omega) zl rfl, zm, zk⟩, hKt hpu (hKt (hKt yw hkz) (hKb _ _ _ _ (by omega) zl rfl rfl))⟩⟩
    | ret =>
      obtain ⟨hz, hkz, hiz⟩ := hp
      obtain ⟨hr, zl, zm, zk⟩ := leave (some .ret) Z hz
      exact ⟨_, _, hr, .inr ⟨rfl, ⟨.ret, (hIx _).putObj _ hiz (by omega) zl rfl, zm, zk⟩, hKt hpu (hKt (hKt yw hkz) (hKb _ _ _ _ (by omega) zl rfl rfl))⟩⟩
    | exit id =>
      obtain ⟨hz, hkz, hiz⟩ := hp
      obtain ⟨hr, zl, zm, zk⟩ := leave (some (.exit id)) Z hz
      exact ⟨_, _, hr, .inr ⟨rfl, ⟨.exit id, (hIx _).putObj _ hiz (by omega) zl rfl, zm, zk⟩, hKt hpu (hKt (hKt yw hkz) (hKb _ _ _ _ (by omega) zl rfl rfl))⟩⟩
    | goto t =>
      obtain ⟨hz, hkz, hiz⟩ := hp
      obtain ⟨hr, zl, zm, zk⟩ := leave (some (.goto t)) Z hz
      exact ⟨_, _, hr, .inr ⟨rfl, ⟨.goto t, (hIx _).putObj _ hiz (by omega) zl rfl, zm, zk⟩, hKt hpu (hKt (hKt yw hkz) (hKb _ _ _ _ (by omega) zl rfl rfl))⟩⟩
  case behind =>
    rintro e Z ⟨⟨v, rfl⟩, h⟩
    rcases h with ⟨xs, hS, hi, hl, hk⟩ | ⟨pre, c, hi, hl, hk⟩
    · have h := run_endLoop (P := P) hl (by rw [hrec]; simp)
      rw [hrec] at h
      exact ⟨none, _, h, hdone _ xs _ (Nat.le_refl _) hS (hI.putObj _ hi (by omega) hl rfl) ((World.putObj_heap_other (by omega)).trans hk)⟩
    · have h := run_endLoop (P := P) hl (by rw [hrec]; simp)
      rw [hrec] at h
      exact ⟨some c, _, h, hstop _ c pre _ (Nat.le_refl _) ((hIx c).putObj _ hi (by omega) hl rfl) ((World.putObj_heap_other (by omega)).trans hk)⟩
end Go.Proofs.Mem
end
section
namespace Go.Proofs.Mem
open Go Go.RowKit
set_option linter.unusedVariables false
section
variable {F : Fence} {n : Nat} {P : Program} {ops : Array Oper} {Q : Exit → Act → World → Prop} {md : Region.Mode} {S : World → Prop} {late : Nat → Bool}
def Plain (F : Fence) (ops : Array Oper) : Prop := (∀ f, F.fn f) ∧ ∀ (i : Nat) o, ops[i]? = some o → ∀ ev : Operand → Value, o.semAt F.round ev = execOp ev o
def YI (P : Program) (ops : Array Oper) (S : World → Prop) (o : Oper) (v : Value) (a : Act) : Prop :=
  (Region.wanted o (yielded ops a.tmps) = true ∧ ∀ w, S w → (execOp a.eval o).run P w = .ok (.value v) w) ∨ (Region.wanted o (yielded ops a.tmps) = false ∧ v = undef)
theorem YI.same {o : Oper} {v : Value} {a a' : Act} (hy : YI P ops S o v a) (he : execOp a'.eval o = execOp a.eval o) (hw : Region.wanted o (yielded ops a'.tmps) = Region.wanted o (yielded ops a.tmps)) : YI P ops S o v a' := by
  unfold YI
  rw [he, hw]
  exact hy
theorem YI.wpOp (hp : Plain F ops) {i : Nat} {o : Oper} {v : Value} {a : Act} (hi : ops[i]? = some o) (hy : YI P ops S o v a) {K : Act → World → Prop} {w : World} (hS : S w) (h : K (a.put o.dst v) w) : wpOpIn F n P ops Q i K a w := by
  unfold wpOpIn
  simp only [hi]
  rcases hy with ⟨hw, hv⟩ | ⟨hw, rfl⟩
  · simp only [hw, if_true]
    refine ⟨fun f _ => hp.1 f, ?_⟩
    rw [hp.2 i o hi, hv w hS]
    exact h
  · simp only [hw, Bool.false_eq_true, if_false]
    exact ⟨fun f _ => hp.1 f, h⟩
theorem wpOpIn_putT (hp : Plain F ops) {j : Nat} {oi oj : Oper} {v : Value} (T : Act → Prop) (hj : ops[j]? = some oj) (hap : oi.apart ops oj = true) (hsj : ∀ cs b, oj.op ≠ .select cs b)
    (hQ : ∀ c a w, Q (.panic c) (a.put oi.dst v) w → Q (.panic c) a w) (hT : ∀ a u, T a → T (a.put oj.dst u)) (hD : ∀ a d, T a → T { a with defers := d :: a.defers })
    {K : Act → World → Prop} {a : Act} {w : World} (hy : T a) (h : wpOpIn F n P ops Q j K (a.put oi.dst v) w) : wpOpIn F n P ops Q j (fun a' w' => T a' ∧ K (a'.put oi.dst v) w') a w := by
  obtain ⟨h1, h2, h3⟩ := Oper.apart_spec hap
  have fin : ∀ (a' : Act) (u : Value) (w' : World), T a' → K ((a'.put oi.dst v).put oj.dst u) w' → T (a'.put oj.dst u) ∧ K ((a'.put oj.dst u).put oi.dst v) w' := fun a' u w' ht hk => ⟨hT a' u ht, by rw [← Act.put_comm a' v u h2]; exact hk⟩
  revert h
  unfold wpOpIn
  simp only [hj, wanted_put oj a oi.dst v h1]
  split
  · rintro ⟨_, h⟩
    refine ⟨fun f _ => hp.1 f, ?_⟩
    rw [hp.2 j oj hj] at h ⊢
    rw [execOp_put oj hsj a oi.dst v h1] at h
    revert h
    rcases (execOp a.eval oj).run P w with ⟨m, w'⟩ | ⟨x, w'⟩
    · cases m with
      | value u => exact fun h => fin a u w' hy h
      | skip => exact fun h => fin a undef w' hy h
      | defer d => exact fun h => fin _ undef w' (hD a d hy) (by rw [← Act.put_defers]; exact h)
      | enter f args =>
        intro h
        refine ⟨h.1, CallsIn.mono h.2 fun e w'' he => ?_⟩
        cases e with
        | returned u => exact fin a u w'' hy he
        | panicked c => exact hQ _ _ _ he
        | outgrown => exact he
      | row r args => exact fun h => ⟨h.1, RowsIn.mono h.2 fun u w'' he => fin a u w'' hy he⟩
      | round l f tmps assign body =>
        intro h
        refine ⟨h.1, RoundIn.mono h.2 fun e w'' he => ?_⟩
        cases e with
        | returned u => exact fin a u w'' hy he
        | panicked c => exact hQ _ _ _ he
        | outgrown => exact he
      | _ => exact fun h => h
    · cases x with
      | panic u => exact fun h => hQ _ _ _ h
      | _ => exact fun h => h
  · rintro ⟨_, h⟩
    exact ⟨fun f _ => hp.1 f, fin a undef w hy h⟩
theorem wpOpIn_putC (hp : Plain F ops) {S' : World → Prop} {j : Nat} {oi oj : Oper} {v : Value} (hj : ops[j]? = some oj) (hap : oi.apart ops oj = true) (hsi : ∀ cs b, oi.op ≠ .select cs b) (hsj : ∀ cs b, oj.op ≠ .select cs b)
    (hQ : ∀ c a w, Q (.panic c) (a.put oi.dst v) w → Q (.panic c) a w) {K : Act → World → Prop} {a : Act} {w : World} (hy : YI P ops S' oi v a) (h : wpOpIn F n P ops Q j K (a.put oi.dst v) w) :
    wpOpIn F n P ops Q j (fun a' w' => YI P ops S' oi v a' ∧ K (a'.put oi.dst v) w') a w := by
  obtain ⟨h1, h2, h3⟩ := Oper.apart_spec hap
  exact wpOpIn_putT hp _ hj hap hsj hQ (fun a u hy => hy.same (execOp_put oi hsi a oj.dst u h3) (wanted_put oi a oj.dst u h3)) (fun a d hy => hy.same rfl rfl) hy h
def wpAnyTI (F : Fence) (n : Nat) (P : Program) (md : Region.Mode) (ops : Array Oper) (Q : Exit → Act → World → Prop) (S : World → Prop) (late : Nat → Bool) : Nat → Array Bool → Act → World → Prop
  | 0, L, a, w => Region.ready md ops L = [] ∧ Q .normal a w
  | f + 1, L, a, w => (Region.ready md ops L = [] → Q .normal a w) ∧
    ∀ i ∈ Region.ready md ops L, wpOpIn F n P ops Q i (fun a' w' => (late i = false → S w → S w') ∧ wpAnyTI F n P md ops Q S late f (L.setIfInBounds i true) a' w') a w
theorem wpAnyIn_of_TI : ∀ (f : Nat) (L : Array Bool) (a : Act) (w : World), wpAnyTI F n P md ops Q S late f L a w → wpAnyIn F n P md ops Q f L a w
  | 0, _, _, _, h => h
  | f + 1, _, _, _, h => ⟨h.1, fun i hi => wpOpIn_mono (fun a' w' h' => wpAnyIn_of_TI f _ a' w' h'.2) (h.2 i hi)⟩
theorem wpAnyTI_firstC (hp : Plain F ops) {i : Nat} {fr : Bool} {oi : Oper} {v : Value} (hi : ops[i]? = some oi) (hsel : ∀ (j : Nat) (o : Oper) cs b, ops[j]? = some o → o.op ≠ .select cs b)
    (hQ : ∀ c a w, Q (.panic c) (a.put oi.dst v) w → Q (.panic c) a w) (hlate : fr = false → ∀ j, late j = true → ∀ oj, ops[j]? = some oj → ∃ e ∈ oj.after, Region.binds md e = true ∧ e.on = i) :
    ∀ (f : Nat) (L : Array Bool) (a : Act) (w : World), (∀ j oj, ops[j]? = some oj → j ≠ i → L.getD j true = false → (∀ e ∈ oj.after, Region.binds md e = true → e.on ≠ i) → oi.apart ops oj = true) →
      i ∈ Region.ready md ops L → YI P ops (fun w => fr = true ∨ S w) oi v a → (fr = true ∨ S w) → wpAnyTI F n P md ops Q S late f (L.setIfInBounds i true) (a.put oi.dst v) w → wpAnyTI F n P md ops Q S late (f + 1) L a w := by
  intro f
  induction f with
  | zero =>
    intro L a w _ hr hy hS H
    refine ⟨fun h => absurd hr (by rw [h]; simp), fun j hj => ?_⟩
    rcases Nat.decEq j i with hji | hji
    · have := ready_mono hj hji
      rw [H.1] at this
      cases this
    · subst hji
      exact hy.wpOp hp hi hS ⟨fun _ h => h, H⟩
  | succ f ih =>
    intro L a w hfree hr hy hS H
    refine ⟨fun h => absurd hr (by rw [h]; simp), fun j hj => ?_⟩
    rcases Nat.decEq j i with hji | hji
    case isTrue =>
      subst hji
      exact hy.wpOp hp hi hS ⟨fun _ h => h, H⟩
    have h1 := H.2 j (ready_mono hj hji)
    obtain ⟨hjun, oj, hoj, hall⟩ := mem_ready.1 hj
    have hiun : L.getD i false = false := getD_both (mem_ready.1 hr).1
    have hnot : ∀ e ∈ oj.after, Region.binds md e = true → e.on ≠ i := fun e he hb heq => by
      have h2 := hall e he hb
      rw [heq, hiun] at h2
      cases h2
    have hlj : fr = false → late j = false := fun hf => by
      cases hl : late j
      · rfl
      · obtain ⟨e, he, hb, hon⟩ := hlate hf j hl oj hoj
        exact absurd hon (hnot e he hb)
    have h2 := wpOpIn_putC hp hoj (hfree j oj hoj hji hjun hnot) (fun cs b => hsel i oi cs b hi) (fun cs b => hsel j oj cs b hoj) hQ hy h1
    refine wpOpIn_mono (fun a' w' h3 => ?_) h2
    obtain ⟨hy', hS', hT⟩ := h3
    refine ⟨hS', ih (L.setIfInBounds j true) a' w' (fun k ok hk hki hun hno => hfree k ok hk hki ?_ hno) (ready_mono hr (Ne.symm hji)) hy' ?_ ?_⟩
    · rcases Nat.decEq j k with e | e
      · rwa [getD_set_ne true e] at hun
      · subst e; exact hjun
    · rcases hS with h | h
      · exact .inl h
      · cases hf : fr
        · exact .inr (hS' (hlj hf) h)
        · exact .inl rfl
    · rw [Array.setIfInBounds_comm _ _ hji]; exact hT
def wpReadsI (P : Program) (ops : Array Oper) (S : World → Prop) (free : Nat → Bool) (Lq : Act → Prop) : List Nat → Act → Prop
  | [], a => Lq a
  | i :: r, a => ∃ o v, ops[i]? = some o ∧ YI P ops (fun w => free i = true ∨ S w) o v a ∧ wpReadsI P ops S free Lq r (a.put o.dst v)
section
variable {free : Nat → Bool} {Lq : Act → Prop} {i : Nat} {o : Oper} {r : List Nat} {a : Act} {v : Value}
theorem readsI_nil (h : Lq a) : wpReadsI P ops S free Lq [] a := h
theorem readsI_free (hi : ops[i]? = some o) (hw : Region.wanted o (yielded ops a.tmps) = true) (hy : ∀ w, (execOp a.eval o).run P w = .ok (.value v) w) (h : wpReadsI P ops S free Lq r (a.put o.dst v)) : wpReadsI P ops S free Lq (i :: r) a :=
  ⟨o, v, hi, .inl ⟨hw, fun w _ => hy w⟩, h⟩
theorem readsI_step (hi : ops[i]? = some o) (hf : free i = false) (hw : Region.wanted o (yielded ops a.tmps) = true) (hy : ∀ w, S w → (execOp a.eval o).run P w = .ok (.value v) w) (h : wpReadsI P ops S free Lq r (a.put o.dst v)) : wpReadsI P ops S free Lq (i :: r) a :=
  ⟨o, v, hi, .inl ⟨hw, fun w hS => hy w (hS.resolve_left (by simp [hf]))⟩, h⟩
end
theorem wpAnyTI_late {late : Nat → Bool} : ∀ (ls : List Nat) (L : Array Bool) (a : Act) (w : World), (∀ j ∈ ls, late j = true) → chainLB md ops ls L = true → wpListIn F n P ops Q (ls.filterMap (ops[·]?)) a w → wpAnyTI F n P md ops Q S late ls.length L a w
  | [], L, a, w, _, hB, h => ⟨by simpa [chainLB] using hB, h⟩
  | k :: r, L, a, w, hl, hB, h => by
    simp only [chainLB, Bool.and_eq_true, decide_eq_true_eq] at hB
    obtain ⟨o, h0⟩ := mem_one (i := k) hB.1
    refine ⟨fun h1 => absurd hB.1 (by rw [h1]; simp), fun i hi => ?_⟩
    rw [hB.1] at hi
    obtain rfl : i = k := by simpa using hi
    rw [List.filterMap_cons, h0] at h
    have hw : wpOpIn F n P ops Q i (wpListIn F n P ops Q (r.filterMap (ops[·]?))) a w := by unfold wpOpIn; simp only [h0]; exact h
    refine wpOpIn_mono (fun a' w' h' => ⟨fun e _ => ?_, wpAnyTI_late r _ a' w' (fun j hj => hl j (List.mem_cons_of_mem _ hj)) hB.2 h'⟩) hw
    rw [hl i (List.mem_cons_self ..)] at e
    cases e
def wpEarlyI (F : Fence) (n : Nat) (P : Program) (ops : Array Oper) (Q : Exit → Act → World → Prop) (S : World → Prop) (tail : Act → World → Prop) : List Nat → Act → World → Prop
  | [], a, w => tail a w
  | k :: r, a, w => wpOpIn F n P ops Q k (fun a' w' => S w' ∧ wpEarlyI F n P ops Q S tail r a' w') a w
section
variable {tail : Act → World → Prop} {i : Nat} {o : Oper} {r : List Nat} {a : Act} {w : World}
theorem earlyI_nil (h : tail a w) : wpEarlyI F n P ops Q S tail [] a w := h
theorem earlyI_call (hp : Plain F ops) {R : Value → World → Prop} (f : FuncId) (args : Array Value) (hi : ops[i]? = some o) (hw : Region.wanted o (yielded ops a.tmps) = true) (hr : (execOp a.eval o).run P w = .ok (.enter f args) w) (hd : F.depth.isSome = true → 1 ≤ n)
    (hc : CallsIn F (n - 1) P f args w fun e w' => ∃ v, e = .returned v ∧ R v w') (h : ∀ v w', R v w' → S w' ∧ wpEarlyI F n P ops Q S tail r (a.put o.dst v) w') : wpEarlyI F n P ops Q S tail (i :: r) a w := by
  unfold wpEarlyI wpOpIn
  simp only [hi, hw, if_true]
  refine ⟨fun f _ => hp.1 f, ?_⟩
  rw [hp.2 i o hi, hr]
  refine ⟨hd, CallsIn.mono hc fun e w' he => ?_⟩
  obtain ⟨v, rfl, hR⟩ := he
  exact h v w' hR
theorem earlyI_round (hp : Plain F ops) {R : Value → World → Prop} {l fn : Nat} {tmps : Array Value} {assign body : Code} (hi : ops[i]? = some o) (hw : Region.wanted o (yielded ops a.tmps) = true) (hr : (execOp a.eval o).run P w = .ok (.round l fn tmps assign body) w) (hd : F.depth.isSome = true → 1 ≤ n)
    (hc : RoundIn F (n - 1) P l fn tmps assign body w fun e w' => ∃ v, e = .returned v ∧ R v w') (h : ∀ v w', R v w' → S w' ∧ wpEarlyI F n P ops Q S tail r (a.put o.dst v) w') : wpEarlyI F n P ops Q S tail (i :: r) a w := by
  unfold wpEarlyI wpOpIn
  simp only [hi, hw, if_true]
  refine ⟨fun f _ => hp.1 f, ?_⟩
  rw [hp.2 i o hi, hr]
  refine ⟨hd, RoundIn.mono hc fun e w' he => ?_⟩
  obtain ⟨v, rfl, hR⟩ := he
  exact h v w' hR
theorem earlyI_run (hp : Plain F ops) {v : Value} {w1 : World} (hi : ops[i]? = some o) (hw : Region.wanted o (yielded ops a.tmps) = true) (hr : (execOp a.eval o).run P w = .ok (.value v) w1) (hS : S w1) (h : wpEarlyI F n P ops Q S tail r (a.put o.dst v) w1) : wpEarlyI F n P ops Q S tail (i :: r) a w := by
  unfold wpEarlyI wpOpIn
  simp only [hi, hw, if_true]
  refine ⟨fun f _ => hp.1 f, ?_⟩
  rw [hp.2 i o hi, hr]
  exact ⟨hS, h⟩
end
theorem wpAnyTI_early {late : Nat → Bool} (ls : List Nat) (hl : ∀ j ∈ ls, late j = true) : ∀ (es : List Nat) (L : Array Bool) (a : Act) (w : World), chainEB md ops ls (es.map fun i => (false, i)) L = true → wpEarlyI F n P ops Q S (wpListIn F n P ops Q (ls.filterMap (ops[·]?))) es a w → wpAnyTI F n P md ops Q S late (es.length + ls.length) L a w
  | [], L, a, w, hB, h => by
    rw [List.length_nil, Nat.zero_add]
    exact wpAnyTI_late ls L a w hl hB h
  | k :: r, L, a, w, hB, h => by
    simp only [List.map_cons, chainEB, Bool.and_eq_true, decide_eq_true_eq] at hB
    rw [List.length_cons, show r.length + 1 + ls.length = (r.length + ls.length) + 1 by omega]
    refine ⟨fun h1 => absurd hB.1 (by rw [h1]; simp), fun i hi => ?_⟩
    rw [hB.1] at hi
    obtain rfl : i = k := by simpa using hi
    exact wpOpIn_mono (fun a' w' h' => ⟨fun _ _ => h'.1, wpAnyTI_early ls hl r _ a' w' hB.2 h'.2⟩) h
theorem wpAnyTI_reads (hp : Plain F ops) {late : Nat → Bool} {g : Nat} {Lq : Act → Prop} {w : World} (free : Nat → Bool) (hsel : Region.noSelect ops = true) (hS : S w) (hQ : ∀ c a d v w, Q (.panic c) (Act.put a d v) w → Q (.panic c) a w) (k : Array Bool → Bool)
    (hend : ∀ L a, k L = true → Lq a → wpAnyTI F n P md ops Q S late g L a w) :
    ∀ (rs : List Nat) (L : Array Bool) (a : Act), (∀ i ∈ rs, free i = false → ∀ j, late j = true → ∀ oj, ops[j]? = some oj → ∃ e ∈ oj.after, Region.binds md e = true ∧ e.on = i) → headB md ops k rs L = true → wpReadsI P ops S free Lq rs a →
      wpAnyTI F n P md ops Q S late (rs.length + g) L a w
  | [], L, a, _, hB, h => by
    rw [List.length_nil, Nat.zero_add]
    exact hend L a hB h
  | i :: r, L, a, hl, hB, h => by
    simp only [headB, Bool.and_eq_true] at hB
    obtain ⟨⟨hr, hf⟩, hB'⟩ := hB
    obtain ⟨o, v, h0, hy, hK⟩ := h
    rw [List.length_cons, show r.length + 1 + g = (r.length + g) + 1 by omega]
    exact wpAnyTI_firstC hp h0 (Region.noSelect_spec hsel) (fun c a w hq => hQ c a _ _ w hq) (fun hfr j hj oj hoj => hl i (List.mem_cons_self ..) hfr j hj oj hoj) _ L a w (Region.free_spec h0 hf) (by simpa using hr) hy (.inr hS)
      (wpAnyTI_reads hp free hsel hS hQ k hend r _ _ (fun i' hi' => hl i' (List.mem_cons_of_mem _ hi')) hB' hK)
end
theorem wpIn_region_sched {F : Fence} {n : Nat} {P : Program} {id : Nat} {Q : Exit → Act → World → Prop} {a : Act} {w : World} {l : List Oper} (hp : Plain F l.toArray) (rs es ls : List Nat) (free : Nat → Bool) (S : World → Prop) (hm : P.follows .mixedOrders = true) (hB : Region.schedB l.toArray rs (es.map fun i => (false, i)) ls free = true)
    (hQ : ∀ c a d v w, Q (.panic c) (Act.put a d v) w → Q (.panic c) a w) (hS : S w.drew)
    (h : ∀ u, RowKit.Hid (u = w.drew) → wpReadsI P l.toArray S free (fun a' => wpEarlyI F n P l.toArray Q S (wpListIn F n P l.toArray Q (ls.filterMap (l.toArray[·]?))) es a' u) rs a) : (Code.region id l.toArray true).wpIn F n P Q a w := by
  replace h := h w.drew rfl
  simp only [Region.schedB, Bool.and_eq_true, decide_eq_true_eq, List.length_map] at hB
  obtain ⟨⟨⟨hsel, hn⟩, hhead⟩, hall⟩ := hB
  refine wpIn_region_any hm (wpAnyIn_of_TI (S := S) (late := fun j => ls.contains j) _ _ _ _ ?_)
  have H := wpAnyTI_reads (F := F) (n := n) (P := P) (Q := Q) (md := .any) (S := S) (late := fun j => ls.contains j) (g := es.length + ls.length) (w := w.drew) hp free hsel hS hQ (fun L => chainEB .any l.toArray ls (es.map fun i => (false, i)) L)
    (fun L a' hs hL => wpAnyTI_early ls (fun j hj => by simpa using hj) es L a' _ hs hL) rs (Array.replicate l.toArray.size false) a
    (fun i hi hfi j hj oj hoj => by
      have h1 := List.all_eq_true.1 hall j (by simpa using hj)
      have h2 := List.all_eq_true.1 h1 i hi
      simp only [hfi, Bool.false_or] at h2
      obtain ⟨oj', hoj', e', he, hb, hon⟩ := Region.waitsFor_spec h2
      obtain rfl : oj' = oj := Option.some.inj (hoj'.symm.trans hoj)
      exact ⟨e', he, hb, hon⟩) hhead h
  rw [hn] at H
  exact H
end Go.Proofs.Mem
end
section
namespace Go.Proofs.Ytoobjfpkdlffpaa
open Go.RowKit Go.Proofs.Mem
set_option linter.unusedVariables false
set_option linter.unusedSimpArgs false
end Go.Proofs.Ytoobjfpkdlffpaa
end
section
namespace Go.Proofs.Ytoobjfpkdlffpaa
open Go.RowKit Go.Proofs.Mem
set_option linter.unusedVariables false
set_option linter.unusedSimpArgs false
end Go.Proofs.Ytoobjfpkdlffpaa
end
section
namespace Go.Proofs.Ytoobjfpkdlffpaa
open Go.RowKit Go.Proofs.Mem
set_option linter.unusedVariables false
set_option linter.unusedSimpArgs false
end Go.Proofs.Ytoobjfpkdlffpaa
end
section
namespace Go.Proofs.Ytoobjfpkdlffpaa
open Go.RowKit Go.Proofs.Mem
set_option linter.unusedVariables false
set_option linter.unusedSimpArgs false
end Go.Proofs.Ytoobjfpkdlffpaa
end
section
namespace Go.Proofs.Ytoobjfpkdlffpaa
open Go.RowKit Go.Proofs.Mem
set_option linter.unusedVariables false
set_option linter.unusedSimpArgs false
end Go.Proofs.Ytoobjfpkdlffpaa
end
section
namespace Go.Proofs.Ytoobjfpkdlffpaa
open Go.RowKit Go.Proofs.Mem
set_option linter.unusedVariables false
set_option linter.unusedSimpArgs false
end Go.Proofs.Ytoobjfpkdlffpaa
end
section
namespace Go.Proofs.Ytoobjfpkdlffpaa
open Go.RowKit Go.Proofs.Mem
set_option linter.unusedVariables false
set_option linter.unusedSimpArgs false
end Go.Proofs.Ytoobjfpkdlffpaa
end
section
namespace Go.Proofs.Ytoobjfpkdlffpaa
open Go.RowKit Go.Proofs.Mem
set_option linter.unusedVariables false
set_option linter.unusedSimpArgs false
end Go.Proofs.Ytoobjfpkdlffpaa
end
section
namespace Go.Proofs.Ytoobjfpkdlffpaa
open Go.RowKit Go.Proofs.Mem
set_option linter.unusedVariables false
set_option linter.unusedSimpArgs false
end Go.Proofs.Ytoobjfpkdlffpaa
end
section
namespace Go.Proofs.Ytoobjfpkdlffpaa
open Go.RowKit Go.Proofs.Mem Go.Sort
set_option linter.unusedVariables false
set_option linter.unusedSimpArgs false
end Go.Proofs.Ytoobjfpkdlffpaa
end
section
namespace Go.Proofs.Mem
open Go Go.RowKit Go.Sort
set_option linter.unusedVariables false
section
variable {P : Program} {ops : Array Oper} {C : World → Prop} {md : Region.Mode} {l n : Nat}
end
end Go.Proofs.Mem
end
section
namespace Go.Proofs.Mem
open Go Go.RowKit Go.Sort
set_option linter.unusedVariables false
structure Stilled (ops ops2 : Array Oper) (z : Nat) (o o2 : Oper) : Prop where
  size : ops2.size = ops.size
  at_z : ops[z]? = some o
  at_z2 : ops2[z]? = some o2
  same : ∀ i, i ≠ z → ops2[i]? = ops[i]?
  after : o2.after = o.after
  guard : o.guard = none
  guard2 : o2.guard = none
  dst2 : o2.dst = none
  free : ∀ (i : Nat) (oi : Oper), ops[i]? = some oi → ∀ b, oi.guard ≠ some (z, b)
  cover : ∀ j, j < ops.size → j ≠ z → ∃ e ∈ o.after, Region.binds .any e = true ∧ e.on = j
  up : ∀ (i : Nat) (oi : Oper), ops[i]? = some oi → ∀ e ∈ oi.after, Region.binds .any e = true → e.on < i
section
variable {P : Program} {ops ops2 : Array Oper} {C : World → Prop} {z : Nat} {o o2 : Oper}
end
end Go.Proofs.Mem
end
section
namespace Go.Proofs.Ytoobjfpkdlffpaa
open Go.RowKit Go.Proofs.Mem
set_option linter.unusedVariables false
set_option linter.unusedSimpArgs false
end Go.Proofs.Ytoobjfpkdlffpaa
end
section
namespace Go.Proofs.Mem
open Go Go.RowKit
set_option linter.unusedVariables false
variable {F : Fence} {n : Nat} {P : Program}
end Go.Proofs.Mem
end
section
namespace Go.Proofs.Ytoobjfpkdlffpaa
open Go.RowKit Go.Proofs.Mem
set_option linter.unusedVariables false
theorem obs_of {w : World} {A : Option Addr} {n c m : Nat} (h : Mem.Ok Try.prog w (m + 7) 22 (Value.slice A n c).cells.toList) :
    ∃ xs : List Ob, xs.length = n ∧ n ≤ maxLen ∧ Sl w 47 (.slice A n c) n (xs.flatMap Ob.cells) ∧ ∀ x ∈ xs, x.Ok w := by
  have hco : Try.prog.cellsOf 57 = 47 := by kernel_rfl
  obtain ⟨v, m', xs, e1, hS, hm, hel⟩ := ok_slice Try.underlying22 h (by omega)
  rw [hco] at hS hel
  have e2 : v = .slice A n c := by simp [Value.cells] at e1; exact e1.symm
  subst e2
  obtain ⟨rfl, _, _, hl, _⟩ := hS.parts
  obtain ⟨l, h1, h2, h3⟩ := rows_of (s := 47) Ob.cells (fun x => x.Ok w) _ xs hl (fun i hi => by
    obtain ⟨o, e1, ho⟩ := obj_of (hel i hi)
    exact ⟨o, e1, ho⟩)
  exact ⟨l, h1, hm, by rw [← h2]; exact hS, h3⟩
end Go.Proofs.Ytoobjfpkdlffpaa
end
section
namespace Go.Proofs.Dv
set_option linter.unusedVariables false
set_option linter.unusedSimpArgs false

section
variable {U u1 n1 n0 q r : Nat}
end
end Go.Proofs.Dv
end
